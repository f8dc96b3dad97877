/- slices.Delete of one that waits. -/
import Derived.Test.YtmnlojbfdpjjdaaA9
namespace Go.Proofs.Ytmnlojbfdpjjdaa
open Go.RowKit
attribute [local go_sem] Oper.semAt_some
attribute [local go_sem ↓] run_appSem
def z5 : Array Value := #[.int .i64 0, .int .i64 0, .int .i64 0, .string ⟨#[]⟩, .int .i64 0]
theorem z5_one : ∀ i, i < 5 → (z5[i]!).oneCell' = true := by
  intro i hi
  match i, hi with
  | 0, _ => rfl
  | 1, _ => rfl
  | 2, _ => rfl
  | 3, _ => rfl
  | 4, _ => rfl
theorem run_clear5 (w : World) (ty : TypeId) (b o n c : Nat) (hn : 0 < n) (hc : ∀ j, j < n * 5 → (w.cell? ⟨b, o + j, none⟩).isSome = true) (hf : ∀ j, j < n * 5 → w.frozen? ⟨b, o + j, none⟩ = false) :
    ∃ zs : List Value, zs.length = n * 5 ∧ (Builtin.clear_ #[86] ty #[.slice (some ⟨b, o, none⟩) n c]).run Try.prog w = .ok (.tuple #[]) (w.setCells b o zs) := by
  refine ⟨(Builtin.zeroCells z5 n).toList, by simp [size_zeroCells]; rfl, ?_⟩
  have hl : (Builtin.zeroCells z5 n).toList.length = n * 5 := by simp [size_zeroCells]; rfl
  have hst := run_storeCells_cells (P := Try.prog) b o (Builtin.zeroCells z5 n).toList 0 w (by rw [hl]; simpa using hc) (by rw [hl]; simpa using hf) (by
    intro v hv
    unfold Builtin.zeroCells at hv
    simp only [Array.toList_map, List.mem_map] at hv
    obtain ⟨i, _, rfl⟩ := hv
    exact z5_one _ (Nat.mod_lt _ (by decide)))
  simp only [Nat.add_zero] at hst
  obtain ⟨m, rfl⟩ : ∃ m, n = m + 1 := ⟨n - 1, by omega⟩
  have e : (Value.agg #[.int .i64 0, .int .i64 0, .int .i64 0, .string ⟨#[]⟩, .int .i64 0]).cells = z5 := rfl
  simp [Builtin.clear_, run_underlying Try.underlying86, e, hst]
theorem wtsC_one (l : List Wt) : ∀ u ∈ wtsC l, u.oneCell' = true := by
  intro u hu
  obtain ⟨y, _, hy⟩ := List.mem_flatMap.1 hu
  simp only [wtC, List.mem_cons, List.not_mem_nil, or_false] at hy
  rcases hy with rfl | rfl | rfl | rfl | rfl <;> rfl
theorem wtsC_append (a b : List Wt) : wtsC (a ++ b) = wtsC a ++ wtsC b := by simp [wtsC]
theorem wtsC_take (l : List Wt) (i : Nat) : wtsC (l.take i) = (wtsC l).take (i * 5) := by
  by_cases h : i ≤ l.length
  · have e := wtsC_append (l.take i) (l.drop i)
    rw [List.take_append_drop] at e
    rw [e, List.take_left' (by rw [wtsC_len, List.length_take]; omega)]
  · rw [List.take_of_length_le (by omega), List.take_of_length_le (by rw [wtsC_len]; omega)]
theorem wtsC_drop (l : List Wt) (i : Nat) : wtsC (l.drop i) = (wtsC l).drop (i * 5) := by
  by_cases h : i ≤ l.length
  · have e := wtsC_append (l.take i) (l.drop i)
    rw [List.take_append_drop] at e
    rw [e, List.drop_left' (by rw [wtsC_len, List.length_take]; omega)]
  · rw [List.drop_of_length_le (by omega), List.drop_of_length_le (by rw [wtsC_len]; omega)]; rfl
theorem row_delete {w : World} {gb off cap i m : Nat} {l : List Wt} (hm : l.length = i + 1 + m) (h : Row w 92 5 (.slice (some ⟨gb, off, none⟩) (i + 1 + m) cap) (i + 1 + m) (wtsC l)) (zs : List Value) (hz : zs.length = 5) :
    Row ((w.setCells gb (off + i * 5) ((wtsC l).drop ((i + 1) * 5))).setCells gb (off + (i + m) * 5) zs) 92 5 (.slice (some ⟨gb, off, none⟩) (i + m) cap) (i + m) (wtsC (l.eraseIdx i)) := by
  have hl := wtsC_len l
  rw [hm] at hl
  refine ⟨by rw [wtsC_len, List.length_eraseIdx, if_pos (by omega), hm]; omega, .inr ?_⟩
  rcases h.2 with ⟨hv, hn⟩ | ⟨g', off', cap', cs, hv, hh, h1, h2, h3, h4⟩
  · cases hv
  · injection hv with ha _ hc
    injection ha with ha
    injection ha with ha hb
    subst ha hb hc
    have hcap : (i + 1 + m) * 5 ≤ cap * 5 := by omega
    obtain ⟨cs1, k1, k2, k3⟩ := setCells_blk gb 92 ((wtsC l).drop ((i + 1) * 5)) (off + i * 5) w cs hh (by rw [List.length_drop, hl]; omega)
    obtain ⟨cs2, l1, l2, l3⟩ := setCells_blk gb 92 zs (off + (i + m) * 5) _ cs1 k1 (by rw [hz, k2]; omega)
    refine ⟨gb, off, cap, cs2, rfl, l1, by omega, h2, by rw [l2, k2]; exact h3, fun j hj => ?_⟩
    rw [l3, if_neg (by omega), k3, List.length_drop, hl, List.eraseIdx_eq_take_drop_succ, wtsC_append, wtsC_take, wtsC_drop]
    by_cases hji : j < i * 5
    · rw [if_neg (by omega), h4 j (by omega), List.getElem?_append_left (by rw [List.length_take, hl]; omega), List.getElem?_take_of_lt hji]
    · rw [if_pos (by omega), List.getElem?_append_right (by rw [List.length_take, hl]; omega), List.length_take, hl, List.getElem?_drop, List.getElem?_drop]
      congr 1
      omega
theorem grown2 {w a b : World} {g : Nat} (h : w.grownBy a (some g)) (k : a.grownBy b (some g)) : w.grownBy b (some g) := grown_trans h k
set_option maxRecDepth 100000 in
set_option maxHeartbeats 800000 in
theorem delete_any (l : List Wt) (sv : Value) (i m : Nat) (hm : l.length = i + 1 + m) (w : World) (hr : Row w 92 5 sv (i + 1 + m) (wtsC l)) (hl : i + 1 + m ≤ 100000) :
    Calls Try.prog 76 #[sv, .int .i64 i, .int .i64 ((i : Int) + 1)] w fun e w' => ∃ v', e = .returned v' ∧ Row w' 92 5 v' (i + m) (wtsC (l.eraseIdx i)) ∧ v'.ownBlock = sv.ownBlock ∧ w.grownBy w' sv.ownBlock := by
  obtain ⟨i0, hi, hz0, hz1, hz2⟩ := info_parts Try.info92
  obtain ⟨gb, off, cap, rfl, h1, h2, hgb, hcl, hfr⟩ := hr.open (by omega)
  unfold maxLen at h2
  have q1 : ((i : Int) == (i : Int) + 1) = false := by rw [beq_eq_false_iff_ne]; omega
  have HC := Lib.hid hcl
  have HF := Lib.hid hfr
  have HR := Lib.hid hr
  have HM := Lib.hid hm
  have hw5 := wtsC_len l
  rw [hm] at hw5
  have H5 := Lib.hid hw5
  clear hcl hfr hr hw5 hm
  by_cases hcap : cap = i + 1
  · obtain rfl : m = 0 := by omega
    subst hcap
    have hrun := run_append_room_cells (P := Try.prog) w.drew 86 86 92 i0 Try.underlying86 hi gb off i (i + 1) ⟨gb, off, none⟩ 0 0 [] (by simp) (fun j u hu => by cases hu) (fun u hu => by cases hu) (by omega) (fun j hj => by cases hj) (fun j hj => by cases hj)
    rw [run_appSem] at hrun
    have hrun2 : (appSem #[86, 86] 86 #[.slice (some ⟨gb, off, none⟩) i (i + 1), .slice (some ⟨gb, off, none⟩) 0 0]).run Try.prog w.drew = .ok (.slice (some ⟨gb, off, none⟩) i (i + 1)) w.drew := hrun
    clear hrun
    obtain ⟨zs, hz, hclr⟩ := run_clear5 w.drew 0 gb (off + i * 5) 1 1 (by omega) (fun j hj => by
        rw [World.cell?_drew, Nat.add_assoc, HC.out _ (by omega), List.getElem?_eq_getElem (by rw [H5.out]; omega)]; rfl)
      (fun j hj => by rw [World.frozen?_drew, Nat.add_assoc, HF.out])
    have hdr : (wtsC l).drop ((i + 1) * 5) = [] := List.drop_of_length_le (by rw [H5.out]; omega)
    have FIN : Hid (Row (w.drew.setCells gb (off + i * 5) zs) 92 5 (.slice (some ⟨gb, off, none⟩) i (i + 1)) i (wtsC (l.eraseIdx i)) ∧ w.grownBy (w.drew.setCells gb (off + i * 5) zs) (some gb)) := by
      have hd := row_delete (w := w.drew) HM.out (Row.keep (w := w) HR.out fun _ _ => rfl) zs (by omega)
      rw [hdr] at hd
      have g1 : w.grownBy w.drew (some gb) := ⟨rfl, rfl, rfl, Nat.le_refl _, fun _ _ _ => rfl⟩
      exact Lib.hid ⟨hd, grown_trans g1 (setCells_grown _ _ _ _)⟩
    clear hz hdr
    have hsub : i + 1 - i = 1 := by omega
    have hn1 : ¬ i + 1 = i := by omega
    go_enter Try.func76, Try.ntmps76
    go_upto_region 5 with fail
    go_region
    all_goals go_upto_region 6 with fail
    all_goals go_wp2_with fail
    all_goals go_ret
    all_goals exact ⟨_, rfl, FIN.out.1, rfl, FIN.out.2⟩
  · have hrun := run_append_room_cells (P := Try.prog) w.drew 86 86 92 i0 Try.underlying86 hi gb off i cap ⟨gb, off + (i + 1) * 5, none⟩ m (cap - (i + 1)) ((wtsC l).drop ((i + 1) * 5)) (by rw [List.length_drop, H5.out, hz1]; omega)
      (fun j u hu => by
        rw [List.getElem?_drop] at hu
        have hj : (i + 1) * 5 + j < (i + 1 + m) * 5 := by rw [← H5.out]; exact (List.getElem?_eq_some_iff.1 hu).1
        rw [Addr.add_lit, World.cell?_drew, Nat.add_assoc, HC.out _ hj, hu])
      (fun u hu => wtsC_one l u (List.mem_of_mem_drop hu)) (by omega)
      (fun j hj => by
        rw [List.length_drop, H5.out] at hj
        rw [hz1, World.cell?_drew, Nat.add_assoc, HC.out _ (by omega), List.getElem?_eq_getElem (by rw [H5.out]; omega)]; rfl)
      (fun j hj => by rw [hz1, World.frozen?_drew, Nat.add_assoc, HF.out])
    rw [run_appSem, hz1] at hrun
    obtain ⟨W1, hW1⟩ : ∃ W1, W1 = w.drew.setCells gb (off + i * 5) ((wtsC l).drop ((i + 1) * 5)) := ⟨_, rfl⟩
    rw [← hW1] at hrun
    obtain ⟨n1, hn1⟩ : ∃ n1, n1 = i + 1 + m - (i + m) := ⟨_, rfl⟩
    have hn1' : n1 = 1 := by omega
    obtain ⟨zs, hz, hclr⟩ := run_clear5 W1 0 gb (off + (i + m) * 5) n1 (cap - (i + m)) (by omega) (fun j hj => by
        rw [hW1]
        refine World.isSome_setCells gb _ _ _ _ ?_
        rw [World.cell?_drew, Nat.add_assoc, HC.out _ (by omega), List.getElem?_eq_getElem (by rw [H5.out]; omega)]; rfl)
      (fun j hj => by rw [hW1, World.frozen?_setCells, World.frozen?_drew, Nat.add_assoc, HF.out])
    have FIN : Hid (Row (W1.setCells gb (off + (i + m) * 5) zs) 92 5 (.slice (some ⟨gb, off, none⟩) (i + m) cap) (i + m) (wtsC (l.eraseIdx i)) ∧ w.grownBy (W1.setCells gb (off + (i + m) * 5) zs) (some gb)) := by
      rw [hW1]
      refine Lib.hid ⟨row_delete (w := w.drew) HM.out (Row.keep (w := w) HR.out fun _ _ => rfl) zs (by omega), ?_⟩
      have g1 : w.grownBy w.drew (some gb) := ⟨rfl, rfl, rfl, Nat.le_refl _, fun _ _ _ => rfl⟩
      exact grown_trans g1 (grown_trans (setCells_grown _ _ _ _) (setCells_grown _ _ _ _))
    rw [hn1] at hclr
    have HW1 := Lib.hid hW1
    clear hW1 hn1 hn1' hz
    go_enter Try.func76, Try.ntmps76
    go_upto_region 5 with fail
    go_region
    all_goals go_upto_region 6 with fail
    all_goals go_wp2_with fail
    all_goals go_ret
    all_goals exact ⟨_, rfl, FIN.out.1, rfl, FIN.out.2⟩
end Go.Proofs.Ytmnlojbfdpjjdaa
