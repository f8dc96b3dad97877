/- awake: the example of the chapter. -/
import Derived.Test.YtmnlojbfdpjjdaaB9
namespace Go.Proofs.Ytmnlojbfdpjjdaa
open Go.RowKit
def s1 : St := ⟨[], [⟨#[97, 98, 99]⟩], false, false, 4, 0, [], []⟩
def s2 : St := ⟨[], [⟨#[97, 98, 99]⟩, ⟨#[100, 101]⟩], false, false, 4, 1, [], [⟨1, 2, ⟨#[]⟩, 0⟩]⟩
def s3 : St := ⟨[], [⟨#[97, 98, 99]⟩, ⟨#[100, 101]⟩], false, false, 4, 2, [⟨⟨1, 0, 0, ⟨#[102]⟩⟩, 2⟩], [⟨1, 2, ⟨#[]⟩, 0⟩]⟩
def s4 : St := ⟨[], [⟨#[99]⟩, ⟨#[100, 101]⟩, ⟨#[102]⟩], false, false, 4, 2, [], [⟨1, 2, ⟨#[]⟩, 0⟩, ⟨2, 1, ⟨#[]⟩, 0⟩]⟩
theorem aw1 : onceR (newSt 4) ⟨1, 0, 0, ⟨#[97, 98, 99]⟩⟩ = (s1, 3, ⟨#[]⟩, 0) := by kernel_rfl
theorem aw2 : askR s1 ⟨1, 0, 0, ⟨#[100, 101]⟩⟩ = (s2, 1, 0) := by kernel_rfl
theorem aw3 : askR s2 ⟨1, 0, 0, ⟨#[102]⟩⟩ = (s3, 2, 0) := by kernel_rfl
theorem aw4 : onceR s3 ⟨0, 1, 2, ⟨#[]⟩⟩ = (s4, 0, ⟨#[97, 98]⟩, 0) := by kernel_rfl
theorem Turn.below {g : Nat} {S : Sl} {w w1 w' : World} (h : Turn g nilSl w1 S w') (hb : Below w.heap.size w w1) (hg : w.heap.size ≤ g) : Below w.heap.size w w' :=
  ⟨h.os.trans hb.os, h.tape.trans hb.tape, h.output.trans hb.output, Nat.le_trans hb.size h.size, fun k hk => (h.block k (Nat.lt_of_lt_of_le hk hb.size) (fun hh => by
    rcases hh with h | h | h | h | h
    · omega
    all_goals cases h)).trans (hb.block k hk)⟩
/-- a new row of one-cell elements, full -/
theorem row_new (w : World) (e : TypeId) (cs : List Value) (h : cs.length ≤ maxLen) : Row (w.alloc (.cells cs.toArray e)) e 1 (.slice (some ⟨w.heap.size, 0, none⟩) cs.length cs.length) cs.length cs :=
  ⟨by omega, .inr ⟨w.heap.size, 0, cs.length, cs.toArray, rfl, heap_alloc_new w _, Nat.le_refl _, h, by simp, fun j _ => by simp⟩⟩
set_option maxRecDepth 100000 in
set_option maxHeartbeats 1600000 in
theorem awake_any (w : World) : Calls Try.prog 9 #[] w fun e w' => e = .returned (.bool true) ∧ Below w.heap.size w w' := by
  have sm0 : Sm (newSt 4) := ⟨by decide, by decide, by decide⟩
  have sm1 : Sm s1 := ⟨by decide, by decide, by decide⟩
  have sm2 : Sm s2 := ⟨by decide, by decide, by decide⟩
  have sm3 : Sm s3 := ⟨by decide, by decide, by decide⟩
  have sm4 : Sm s4 := ⟨by decide, by decide, by decide⟩
  have wn : ∀ st : St, st.ws = [] → WOk st := fun st e y hy => by rw [e] at hy; cases hy
  have w3 : WOk s3 := fun y hy => by
    have : y = ⟨⟨1, 0, 0, ⟨#[102]⟩⟩, 2⟩ := by simpa [s3] using hy
    subst this
    exact ⟨⟨.inr rfl, .inl rfl⟩, (fun h => by cases h), by decide⟩
  have CN := Lib.hid (New_any 4 (by decide) (by decide) w)
  obtain ⟨g, hg⟩ : ∃ g, g = w.heap.size := ⟨_, rfl⟩
  rw [← hg] at CN
  have CW := Lib.hid (fun S W (hp : PipeAt W g S (newSt 4)) => Write_any 0 ⟨#[97, 98, 99]⟩ (by decide) g S (newSt 4) W hp sm0 ⟨by decide, by decide, by decide⟩ (wn _ rfl))
  rw [aw1] at CW
  have CA := Lib.hid (fun S W (hp : PipeAt W g S s1) => Ask_any ⟨1, 0, 0, ⟨#[100, 101]⟩⟩ (by decide) g S s1 W hp sm1 (by decide) (by decide) ⟨by decide, by decide, by decide⟩ (fun _ y hy => by
    have : y = ⟨⟨1, 0, 0, ⟨#[100, 101]⟩⟩, 1⟩ := by simpa [s1, askW] using hy
    subst this
    exact ⟨⟨.inr rfl, .inl rfl⟩, (fun h => by cases h), by decide⟩) ⟨by decide, by decide, by decide⟩ (wn _ (by decide)))
  rw [aw2] at CA
  have CB := Lib.hid (fun S W (hp : PipeAt W g S s2) => Ask_any ⟨1, 0, 0, ⟨#[102]⟩⟩ (by decide) g S s2 W hp sm2 (by decide) (by decide) ⟨by decide, by decide, by decide⟩ (fun _ y hy => by
    have : y = ⟨⟨1, 0, 0, ⟨#[102]⟩⟩, 2⟩ := by simpa [s2, askW] using hy
    subst this
    exact ⟨⟨.inr rfl, .inl rfl⟩, (fun h => by cases h), by decide⟩) ⟨by decide, by decide, by decide⟩ (wn _ (by decide)))
  rw [aw3] at CB
  have CR := Lib.hid (fun S W (hp : PipeAt W g S s3) => Read_any 1 2 g S s3 W hp sm3 ⟨by decide, by decide, by decide⟩ w3)
  rw [aw4] at CR
  have CK := Lib.hid (fun S W (hp : PipeAt W g S s4) => Blocks_any 1 g S s4 W hp sm4)
  have CE := Lib.hid (fun W va vb ha hb => equal_any va vb [⟨#[99]⟩, ⟨#[100, 101]⟩, ⟨#[102]⟩] [⟨#[99]⟩, ⟨#[100, 101]⟩, ⟨#[102]⟩] W ha hb (by decide))
  unfold opV at CA CB
  simp only at CA CB CW CR
  have HG := Lib.hid hg
  clear hg sm0 sm1 sm2 sm3 sm4 wn w3
  go_enter Try.func9, Try.ntmps9
  go_wp2_with (first
    | (go_at_call 12; refine (CN.out).mono ?_; rintro e v1 ⟨rfl, P1, b1⟩; have HP1 := Lib.hid P1; have B1 := Lib.hid b1; clear P1 b1)
    | (go_at_call 13; refine (CW.out _ _ HP1.out).mono ?_; rintro e v2 ⟨rfl, S2, P2, T2⟩; have HP2 := Lib.hid P2; have HT2 := Lib.hid T2; clear P2 T2)
    | (go_at_call 31; have tok := HP3; clear tok; refine (CB.out _ _ HP3.out).mono ?_; rintro e v4 ⟨rfl, S4, P4, T4⟩; have HP4 := Lib.hid P4; have HT4 := Lib.hid (HT3.out.trans T4); clear P4 T4)
    | (go_at_call 31; refine (CA.out _ _ HP2.out).mono ?_; rintro e v3 ⟨rfl, S3, P3, T3⟩; have HP3 := Lib.hid P3; have HT3 := Lib.hid (HT2.out.trans T3); clear P3 T3)
    | (go_at_call 16; refine (CR.out _ _ HP4.out).mono ?_; rintro e v5 ⟨rfl, S5, P5, T5⟩; have HP5 := Lib.hid P5; have HT5 := Lib.hid (HT4.out.trans T5); clear P5 T5)
    | (go_at_call 21; refine (CK.out _ _ HP5.out).mono ?_; rintro e v6 ⟨vb, rfl, R6, b6, o6⟩; have HR6 := Lib.hid R6; have B6 := Lib.hid b6; clear R6 b6 o6)
    | (go_at_call 28; refine (CE.out _ _ _ (HR6.out.below ((Below.refl _ _).alloc (Nat.le_refl _) _)) ?_).mono ?_; exact row_new v6 9 [.string ⟨#[99]⟩, .string ⟨#[100, 101]⟩, .string ⟨#[102]⟩] (by decide); rintro e v7 ⟨rfl, b7⟩; have B7 := Lib.hid (keepBelow ((Below.refl _ _).alloc (Nat.le_refl _) _) b7); clear b7))
  go_ret
  refine ⟨rfl, ?_⟩
  exact (HT5.out.below (w := w) (by rw [← HG.out]; exact B1.out) (by rw [HG.out]; exact Nat.le_refl _)).trans ((B6.out.trans (B7.out.mono B6.out.size)).mono (by have := B1.out.size; have := HT5.out.size; omega))
end Go.Proofs.Ytmnlojbfdpjjdaa
