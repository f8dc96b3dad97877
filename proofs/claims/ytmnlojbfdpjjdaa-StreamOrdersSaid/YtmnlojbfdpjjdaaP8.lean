/- A row appended to a row. -/
import Derived.Test.YtmnlojbfdpjjdaaA7
import Derived.Deep.Upon
namespace Go.Proofs.Ytmnlojbfdpjjdaa
open Go.RowKit
theorem run_append_rows {P : Program} {w : World} (t ty e : TypeId) (i : TypeInfo) (z : Value) (size bytes : Nat) (ht : P.underlying t = some (.slice e)) (hi : P.info? e = some i) (hz : i.zero = some z)
    (hsize : i.size = size) (hby : i.bytes = bytes) (hzs : z.cells.size = size) (hsz : 0 < size) (v : Value) (n : Nat) (xs : List Value) (hrow : Row w e size v n xs)
    (v2 : Value) (m : Nat) (ys : List Value) (hrow2 : Row w e size v2 m ys) (h1 : ∀ u ∈ ys, u.oneCell' = true) (h63 : n + m ≤ maxLen) (hbytes : (n + m) * bytes ≤ 140737488355328) :
    ∃ v' w', (Builtin.append_ #[t, t] ty #[v, v2]).run P w = .ok v' w' ∧ Row w' e size v' (n + m) (xs ++ ys) ∧ w.grownBy w' v.ownBlock ∧ (v'.ownBlock = v.ownBlock ∨ ∀ k, v'.ownBlock = some k → w.heap.size ≤ k) := by
  by_cases hm : 0 < m
  · obtain ⟨gb, off, cap, rfl, k1, k2, k3, k4, _⟩ := hrow2.open hm
    refine run_append_row (P := P) t ty e i z size bytes ht hi hz hsize hby hzs hsz v n xs hrow ⟨gb, off, none⟩ m cap ys hrow2.len (fun j u hu => ?_) h1 h63 hbytes
    have hj : j < m * size := by rw [← hrow2.len]; exact (List.getElem?_eq_some_iff.1 hu).1
    rw [Addr.add_lit, k4 j hj, hu]
  · have hm0 : m = 0 := by omega
    subst hm0
    have hy : ys = [] := List.eq_nil_of_length_eq_zero (by simpa using hrow2.len)
    subst hy
    obtain ⟨a, cap, rfl, hle, _⟩ := hrow.form
    have hs : Src P i.size t v2 0 [] w := by
      obtain ⟨a2, c2, rfl, _⟩ := hrow2.form
      cases a2 with
      | none => exact Src.ofNil w ht c2
      | some a2 => exact Src.ofSlice w ht a2 0 c2 [] (by simp) (fun j u hu => by simp at hu) (fun u hu => by cases hu)
    refine ⟨_, w, run_append_nothing w t t ty e i ht hi a n cap hle v2 hs, by simpa using hrow, World.grownBy.refl w _, .inl rfl⟩
end Go.Proofs.Ytmnlojbfdpjjdaa
