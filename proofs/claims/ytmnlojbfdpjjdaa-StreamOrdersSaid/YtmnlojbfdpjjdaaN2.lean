/- Contains of blocks that are not empty; what the law asks of an end. -/
import Derived.Test.YtmnlojbfdpjjdaaN1
import Derived.Test.YtmnlojbfdpjjdaaB9
import Derived.Test.YtmnlojbfdpjjdaaE4
namespace Go.Proofs.Ytmnlojbfdpjjdaa
open Go.RowKit
theorem index_none (q : List ByteArray) (sv : Value) (w : World) (hr : Row w 9 1 sv q.length (strC q)) (hq : q.length ≤ 100000) (hb : ∀ b ∈ q, 0 < b.size) :
    Calls Try.prog 52 #[sv, .string ⟨#[]⟩] w fun e w' => e = .returned (.int .i64 (-1)) ∧ w = w' := by
  by_cases hn : 0 < q.length
  · obtain ⟨gb, off, cap, rfl, h1, h2, hgb, hcl, _⟩ := hr.open hn
    unfold maxLen at h2
    have HC := Lib.hid hcl
    have HB := Lib.hid hb
    clear hr hcl hb
    go_enter Try.func52, Try.ntmps52
    go_wp2_with fail
    go_loopg [8] q.length (fun k i wr => ∃ m : Nat, m + k = q.length ∧ i = .int .i64 m ∧ wr = w)
    case atStart => exact ⟨0, by omega, rfl, rfl⟩
    case round =>
      obtain ⟨m, hm, rfl, rfl⟩ := hrel
      have HM := Lib.hid hm
      by_cases hlt : m < q.length
      · obtain ⟨b, hbe⟩ : ∃ b, b = q.getD m ByteArray.empty := ⟨_, rfl⟩
        have hcm := (HC.out m (by omega)).trans (strC_get q m hlt)
        rw [← hbe] at hcm
        have hpos : 0 < b.size := HB.out b (by rw [hbe, List.getD_eq_getElem?_getD, List.getElem?_eq_getElem hlt]; exact List.getElem_mem hlt)
        have he1 : b.toList.isEmpty = false := by rw [← str_empty, beq_eq_false_iff_ne]; omega
        have he2 : ((⟨#[]⟩ : ByteArray).toList == b.toList) = false := str_ne (by intro e; rw [← e] at hpos; exact absurd hpos (by decide))
        clear hm hbe hpos
        go_wp2_with fail
        go_roundg (gk - 1)
        case measure => have := HM.out; omega
        case rel => exact ⟨m + 1, by have := HM.out; omega, by go_num, rfl⟩
      · obtain rfl : m = q.length := by omega
        clear hm
        go_wp2_with fail
        go_ret
        exact ⟨rfl, rfl⟩
  · have hq0 : q = [] := List.eq_nil_of_length_eq_zero (by omega)
    subst hq0
    obtain ⟨a, cap, rfl, h1, h2⟩ := hr.form
    unfold maxLen at h2
    clear hr hb
    go_enter Try.func52, Try.ntmps52
    go_wp2_with fail
    go_loopg [8] 0 (fun k i wr => i = .int .i64 0 ∧ wr = w)
    case atStart => exact ⟨rfl, rfl⟩
    case round =>
      obtain ⟨rfl, rfl⟩ := hrel
      go_wp2_with fail
      go_ret
      exact ⟨rfl, rfl⟩
theorem contains_none (q : List ByteArray) (sv : Value) (w : World) (hr : Row w 9 1 sv q.length (strC q)) (hq : q.length ≤ 100000) (hb : ∀ b ∈ q, 0 < b.size) :
    Calls Try.prog 30 #[sv, .string ⟨#[]⟩] w fun e w' => e = .returned (.bool false) ∧ w = w' := by
  have C := Lib.hid (index_none q sv w hr hq hb)
  clear hr hb
  go_enter Try.func30, Try.ntmps30
  go_wp2_with (go_at_call 52; refine (C.out).mono ?_; rintro e v ⟨rfl, rfl⟩)
  go_ret
  exact ⟨rfl, rfl⟩
theorem Bi.qAt {l : Int} {st : St} (h : Bi l st) (hl : 1 ≤ l) (e : Int) : (∀ b ∈ qAt st e, 0 < b.size) ∧ (sizes (qAt st e) : Int) < l + 8192 := by
  unfold Ytmnlojbfdpjjdaa.qAt
  split
  · exact ⟨h.b0, h.z0⟩
  split
  · exact ⟨h.b1, h.z1⟩
  · exact ⟨fun b hb => (by cases hb), by simp only [sizes]; omega⟩
theorem sizes_pos {q : List ByteArray} (h : q = []) : sizes q = 0 := by rw [h]; rfl
/-- nobody waits who could be served -/
theorem end_ok {l : Int} {st : St} (h : Bi l st) (hs : nextS st = none) (e : Int) (he : e = 0 ∨ e = 1) :
    (0 < cnt st.ws 0 e → sizes (qAt st e) = 0) ∧ (0 < cnt st.ws 1 (1 - e) → ¬ (sizes (qAt st e) : Int) < l) := by
  obtain ⟨a, b, c, d⟩ := next_parts hs
  rw [← h.lim]
  rcases he with rfl | rfl
  · exact ⟨fun hc => sizes_pos ((cand_none a hc).1 rfl), fun hc => (cand_none d hc).2 rfl⟩
  · exact ⟨fun hc => sizes_pos ((cand_none b hc).1 rfl), fun hc => (cand_none c hc).2 rfl⟩
/-- each that waits was asked, by its ticket -/
def Tk (f : Int → Option Op) (st : St) : Prop := ∀ y ∈ st.ws, f y.tk = some y.op
/-- what the law keeps of a call -/
def askF (f : Int → Option Op) (x : Ac) (r : Re) : Int → Option Op := if x.kind = 0 ∧ r.err = 0 then upd f r.num x.op else f
theorem Tk.doR {l : Int} {f : Int → Option Op} {st : St} (h : Tk f st) (hb : Bi l st) (x : Ac) : Tk (askF f x (doR st x).2) (doR st x).1 := by
  intro y hy
  unfold askF
  rcases doR_ws st x with ⟨a, b, c, _, d⟩ | ⟨a, _, b⟩
  · rw [if_pos ⟨a, b⟩, c]
    unfold upd
    rcases List.mem_append.1 (d.subset hy) with hy | hy
    · obtain ⟨_, _, _, h1, h2⟩ := hb.w y hy
      rw [if_neg (by omega)]
      exact h y hy
    · rw [List.mem_singleton] at hy
      subst hy
      rw [if_pos rfl]
  · rw [if_neg a]
    exact h y (b.subset hy)
theorem cnt_take (l : List Wt) (k f : Int) (m : Nat) (hm : m < l.length) : cnt (l.take (m + 1)) k f = cnt (l.take m) k f + if (l.getD m wt0).op.kind = k ∧ (l.getD m wt0).op.fin = f then 1 else 0 := by
  rw [List.take_succ_eq_append_getElem hm, cnt_append, List.getD_eq_getElem?_getD, List.getElem?_eq_getElem hm]
  congr 1
  simp only [cnt, List.filter_cons, List.filter_nil, Option.getD_some, hitB, Bool.and_eq_true, beq_iff_eq]
  split <;> rfl
end Go.Proofs.Ytmnlojbfdpjjdaa
