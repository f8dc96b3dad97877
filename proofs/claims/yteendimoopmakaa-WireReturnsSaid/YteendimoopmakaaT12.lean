/- The reference's encodings are the same bytes: Sized, bytes, Little, Signed, Number, String. For every input, strings within the reach. -/
import Derived.Test.YteendimoopmakaaT7
namespace Go.Proofs.Yteendimoopmakaa
open Go.RowKit

set_option maxHeartbeats 800000 in
theorem refSized_any (x : Int) (w : World) : Calls Try.prog 69 #[.int .i64 x] w fun e w' => e = .returned (.bool (sized x)) ∧ w = w' := by
  by_cases h : x = 1 ∨ x = 2 ∨ x = 4 ∨ x = 8
  · rw [sized_true h]
    rcases h with rfl | rfl | rfl | rfl
    all_goals
      go_enter Try.func69, Try.ntmps69
      go_wp2
      go_ret
      exact ⟨rfl, rfl⟩
  · rw [sized_false h]
    have e1 : (x == 1) = false := by rw [beq_eq_false_iff_ne]; omega
    have e2 : (x == 2) = false := by rw [beq_eq_false_iff_ne]; omega
    have e3 : (x == 4) = false := by rw [beq_eq_false_iff_ne]; omega
    have e4 : (x == 8) = false := by rw [beq_eq_false_iff_ne]; omega
    clear h
    go_enter Try.func69, Try.ntmps69
    go_wp2
    go_ret
    exact ⟨rfl, rfl⟩

theorem litB_mod (n : Int) (m : Nat) (hm : m ≤ 8) : litB (n % 18446744073709551616) m = litB n m := by
  unfold litB
  refine List.map_congr_left fun i hi => ?_
  rw [List.mem_range] at hi
  congr 2
  rcases (show i = 0 ∨ i = 1 ∨ i = 2 ∨ i = 3 ∨ i = 4 ∨ i = 5 ∨ i = 6 ∨ i = 7 by omega) with rfl | rfl | rfl | rfl | rfl | rfl | rfl | rfl <;> simp <;> omega
theorem div_step (u k : Nat) : (u / 256 ^ (k + 1) : Nat) = u / 256 ^ k / 256 := by rw [Nat.pow_succ, Nat.div_div_eq_div_mul]

set_option maxHeartbeats 1600000 in
theorem refBytes_any (u m : Nat) (w : World) (hu : u < 18446744073709551616) (hm : m ≤ 8) :
    Calls Try.prog 70 #[.int .u64 u, .int .i64 m] w fun e w' => e = .returned (.string ⟨(litB u m).toArray⟩) ∧ Below w.heap.size w w' := by
  obtain ⟨i0, hi, hz0, hz1, hz2⟩ := info_parts Try.info5
  have HU := Lib.hid hu
  clear hu
  go_enter Try.func70, Try.ntmps70
  go_wp2_with fail
  go_loopw [0, 5, 6] (fun t v i wr => ∃ k : Nat, k ≤ m ∧ i = .int .i64 k ∧ t = .int .u64 ((u / 256 ^ k : Nat) : Int) ∧ wr.ownsRow w.heap.size 5 1 v k (u8s (litB u k)) ∧ Below w.heap.size w wr) (fun _ _ i _ => m - (intOf i).toNat)
  case atStart =>
    exact ⟨0, by omega, rfl, by simp, ⟨by simp [litB, u8s], .inr ⟨w.heap.size, 0, #[], rfl, Nat.le_refl _, heap_alloc_new w _, by omega, by unfold maxLen; omega, by simp, by simp [litB, u8s]⟩⟩, (Below.refl _ _).alloc (Nat.le_refl _) _⟩
  case round =>
    obtain ⟨k, hk, rfl, rfl, hown, hb⟩ := hrel
    have hbs := hb.size
    have hul : u / 256 ^ k < 18446744073709551616 := Nat.lt_of_le_of_lt (Nat.div_le_self _ _) HU.out
    have HD := Lib.hid (div_step u k)
    obtain ⟨x, hx⟩ : ∃ x, x = u / 256 ^ k := ⟨_, rfl⟩
    rw [← hx] at hul HD ⊢
    have HX := Lib.hid hx
    clear hx
    by_cases hlt : k < m
    · have HNS := Lib.hid (u8s_single (x % 256 : Int) (by omega) (by omega))
      go_wp2_with (at_builtin; refine wpList_append_own_at _ rfl (.tmp 13) (.tmp 16) 62 rfl w.heap.size 5 i0 (.int .u8 0) 1 1 Try.underlying62 hi hz0 hz1 hz2 rfl (by decide) _ k (u8s (litB u k)) rfl (hown.alloc _) ⟨wr.heap.size, 0, none⟩ 1 1 [.int .u8 (x % 256 : Int)] rfl rfl (cell_one_new _ _ _) (by simp [Value.oneCell']) ?b1 ?b2 ?b3 ?go)
      case b1 => unfold maxLen; omega
      case b2 => omega
      case b3 => simp; omega
      case go =>
        intro v' w2 hown2 hg _ _
        have hb2 := (hb.alloc hbs _).grown hg (by simp; omega) (fun g e => (hown.lt g e).1)
        rw [← HNS.out, ← u8s_append] at hown2
        go_wp2
        go_roundw
        case rel =>
          refine ⟨k + 1, by omega, by go_num, ?_, ?_, hb2⟩
          · rw [HD.out]; simp
          · rw [litB_succ]
            have e : (UInt8.ofNat ((u : Int) / 256 ^ k % 256).toNat) = UInt8.ofNat ((x : Int) % 256).toNat := by rw [HX.out]; simp
            rw [e]; exact hown2
        case measure => simp [intOf]; omega
    · obtain rfl : k = m := by omega
      have hcv := conv_bytes hown
      go_wp2
      go_ret
      exact ⟨rfl, hb⟩
--MORE
def RefPost (w : World) (bytes : List UInt8) (E : Int) (e : Ending) (w' : World) : Prop := e = .returned (.tuple #[.string ⟨bytes.toArray⟩, .int .i64 E]) ∧ Below w.heap.size w w'
theorem refPost_err {w w' : World} {E : Int} (hb : Below w.heap.size w w') : RefPost w [] E (.returned (.tuple #[.string ⟨#[]⟩, .int .i64 E])) w' := ⟨rfl, hb⟩
theorem refPost_ok {w w' : World} {n : Int} {m u : Nat} (hu : (u : Int) = n % 18446744073709551616) (hm : m ≤ 8) (hb : Below w.heap.size w w') : RefPost w (litB n m) 0 (.returned (.tuple #[.string ⟨(litB u m).toArray⟩, .int .i64 0])) w' :=
  ⟨by rw [hu, litB_mod n m hm], hb⟩
theorem u64conv (n : Int) : IntKind.u64.wrap n = (((n % 18446744073709551616).toNat : Nat) : Int) := by
  simp [IntKind.wrap, IntKind.bits, IntKind.signed]; omega

set_option maxRecDepth 100000 in
set_option maxHeartbeats 3200000 in
theorem refLittle_any (n m : Int) (w : World) (h0 : -9223372036854775808 ≤ n) (h1 : n ≤ 9223372036854775807) :
    Calls Try.prog 36 #[.int .i64 n, .int .i64 m] w (RefPost w (if litE n m = 0 then litB n m.toNat else []) (litE n m)) := by
  cases hs : sized m
  · rw [litE_bad hs, if_neg (by decide)]
    have HS := Lib.hid hs
    clear hs
    go_enter Try.func36, Try.ntmps36
    go_wp2_with (go_at_call 69; refine (refSized_any m _).mono ?_; rintro e w1 ⟨rfl, rfl⟩; rw [HS.out])
    go_ret2
    exact refPost_err (Below.refl _ _)
  · have hm := sized_iff.1 hs
    have HS := Lib.hid hs
    by_cases hr : n < 0
    · rw [litE_far hs (.inl hr), if_neg (by decide)]
      clear hs hm
      go_enter Try.func36, Try.ntmps36
      go_wp2_with (go_at_call 69; refine (refSized_any m _).mono ?_; rintro e w1 ⟨rfl, rfl⟩; rw [HS.out])
      go_ret2
      exact refPost_err (Below.refl _ _)
    · obtain ⟨u, hu⟩ : ∃ u : Nat, (u : Int) = n % 18446744073709551616 := ⟨(n % 18446744073709551616).toNat, by omega⟩
      have hu2 : u < 18446744073709551616 := by omega
      have eu : IntKind.u64.wrap n = (u : Int) := by rw [u64conv]; omega
      have HU := Lib.hid hu
      have HU2 := Lib.hid hu2
      clear hu hu2
      rcases hm with rfl | rfl | rfl | rfl
      · by_cases hf : 256 ≤ n
        · rw [litE_far hs (.inr ⟨by omega, hf⟩), if_neg (by decide)]
          clear hs
          go_enter Try.func36, Try.ntmps36
          go_wp2_with (go_at_call 69; refine (refSized_any 1 _).mono ?_; rintro e w1 ⟨rfl, rfl⟩; rw [HS.out])
          go_ret2
          exact refPost_err (Below.refl _ _)
        · rw [litE_ok hs (by rintro (h | ⟨_, h⟩); exact hr h; exact hf h), if_pos rfl]
          clear hs
          go_enter Try.func36, Try.ntmps36
          go_wp2_with (go_at_call 69; refine (refSized_any 1 _).mono ?_; rintro e w1 ⟨rfl, rfl⟩; rw [HS.out])
          refine (refBytes_any u 1 _ HU2.out (by omega)).mono ?_
          rintro e w2 ⟨rfl, hb2⟩
          go_wp2
          go_ret2
          exact refPost_ok HU.out (by decide) hb2
      · by_cases hf : 65536 ≤ n
        · rw [litE_far hs (.inr ⟨by omega, hf⟩), if_neg (by decide)]
          clear hs
          go_enter Try.func36, Try.ntmps36
          go_wp2_with (go_at_call 69; refine (refSized_any 2 _).mono ?_; rintro e w1 ⟨rfl, rfl⟩; rw [HS.out])
          go_ret2
          exact refPost_err (Below.refl _ _)
        · rw [litE_ok hs (by rintro (h | ⟨_, h⟩); exact hr h; exact hf h), if_pos rfl]
          clear hs
          go_enter Try.func36, Try.ntmps36
          go_wp2_with (go_at_call 69; refine (refSized_any 2 _).mono ?_; rintro e w1 ⟨rfl, rfl⟩; rw [HS.out])
          refine (refBytes_any u 2 _ HU2.out (by omega)).mono ?_
          rintro e w2 ⟨rfl, hb2⟩
          go_wp2
          go_ret2
          exact refPost_ok HU.out (by decide) hb2
      · by_cases hf : 4294967296 ≤ n
        · rw [litE_far hs (.inr ⟨by omega, hf⟩), if_neg (by decide)]
          clear hs
          go_enter Try.func36, Try.ntmps36
          go_wp2_with (go_at_call 69; refine (refSized_any 4 _).mono ?_; rintro e w1 ⟨rfl, rfl⟩; rw [HS.out])
          go_ret2
          exact refPost_err (Below.refl _ _)
        · rw [litE_ok hs (by rintro (h | ⟨_, h⟩); exact hr h; exact hf h), if_pos rfl]
          clear hs
          go_enter Try.func36, Try.ntmps36
          go_wp2_with (go_at_call 69; refine (refSized_any 4 _).mono ?_; rintro e w1 ⟨rfl, rfl⟩; rw [HS.out])
          refine (refBytes_any u 4 _ HU2.out (by omega)).mono ?_
          rintro e w2 ⟨rfl, hb2⟩
          go_wp2
          go_ret2
          exact refPost_ok HU.out (by decide) hb2
      · rw [litE_ok hs (by rintro (h | ⟨h, _⟩); exact hr h; omega), if_pos rfl]
        clear hs
        go_enter Try.func36, Try.ntmps36
        go_wp2_with (go_at_call 69; refine (refSized_any 8 _).mono ?_; rintro e w1 ⟨rfl, rfl⟩; rw [HS.out])
        refine (refBytes_any u 8 _ HU2.out (by omega)).mono ?_
        rintro e w2 ⟨rfl, hb2⟩
        go_wp2
        go_ret2
        exact refPost_ok HU.out (by decide) hb2

set_option maxRecDepth 100000 in
set_option maxHeartbeats 3200000 in
theorem refSigned_any (n m : Int) (w : World) (h0 : -9223372036854775808 ≤ n) (h1 : n ≤ 9223372036854775807) :
    Calls Try.prog 37 #[.int .i64 n, .int .i64 m] w (RefPost w (if sgnE n m = 0 then litB n m.toNat else []) (sgnE n m)) := by
  cases hs : sized m
  · rw [sgnE_bad hs, if_neg (by decide)]
    have HS := Lib.hid hs
    clear hs
    go_enter Try.func37, Try.ntmps37
    go_wp2_with (go_at_call 69; refine (refSized_any m _).mono ?_; rintro e w1 ⟨rfl, rfl⟩; rw [HS.out])
    go_ret2
    exact refPost_err (Below.refl _ _)
  · have hm := sized_iff.1 hs
    have HS := Lib.hid hs
    obtain ⟨u, hu⟩ : ∃ u : Nat, (u : Int) = n % 18446744073709551616 := ⟨(n % 18446744073709551616).toNat, by omega⟩
    have hu2 : u < 18446744073709551616 := by omega
    have eu : IntKind.u64.wrap n = (u : Int) := by rw [u64conv]; omega
    have HU := Lib.hid hu
    have HU2 := Lib.hid hu2
    clear hu hu2
    rcases hm with rfl | rfl | rfl | rfl
    · rcases (show n < -128 ∨ (-128 ≤ n ∧ n < 128) ∨ 128 ≤ n by omega) with hr | hr | hr
      · rw [sgnE_far hs (by left; show _; simp; omega), if_neg (by decide)]
        clear hs
        go_enter Try.func37, Try.ntmps37
        go_wp2_with (go_at_call 69; refine (refSized_any 1 _).mono ?_; rintro e w1 ⟨rfl, rfl⟩; rw [HS.out])
        go_ret2
        exact refPost_err (Below.refl _ _)
      · rw [sgnE_ok hs (by intro h; simp at h; omega), if_pos rfl]
        clear hs
        go_enter Try.func37, Try.ntmps37
        go_wp2_with (go_at_call 69; refine (refSized_any 1 _).mono ?_; rintro e w1 ⟨rfl, rfl⟩; rw [HS.out])
        refine (refBytes_any u 1 _ HU2.out (by omega)).mono ?_
        rintro e w2 ⟨rfl, hb2⟩
        go_wp2
        go_ret2
        exact refPost_ok HU.out (by decide) hb2
      · rw [sgnE_far hs (by right; show _; simp; omega), if_neg (by decide)]
        clear hs
        go_enter Try.func37, Try.ntmps37
        go_wp2_with (go_at_call 69; refine (refSized_any 1 _).mono ?_; rintro e w1 ⟨rfl, rfl⟩; rw [HS.out])
        go_ret2
        exact refPost_err (Below.refl _ _)
    · rcases (show n < -32768 ∨ (-32768 ≤ n ∧ n < 32768) ∨ 32768 ≤ n by omega) with hr | hr | hr
      · rw [sgnE_far hs (by left; show _; simp; omega), if_neg (by decide)]
        clear hs
        go_enter Try.func37, Try.ntmps37
        go_wp2_with (go_at_call 69; refine (refSized_any 2 _).mono ?_; rintro e w1 ⟨rfl, rfl⟩; rw [HS.out])
        go_ret2
        exact refPost_err (Below.refl _ _)
      · rw [sgnE_ok hs (by intro h; simp at h; omega), if_pos rfl]
        clear hs
        go_enter Try.func37, Try.ntmps37
        go_wp2_with (go_at_call 69; refine (refSized_any 2 _).mono ?_; rintro e w1 ⟨rfl, rfl⟩; rw [HS.out])
        refine (refBytes_any u 2 _ HU2.out (by omega)).mono ?_
        rintro e w2 ⟨rfl, hb2⟩
        go_wp2
        go_ret2
        exact refPost_ok HU.out (by decide) hb2
      · rw [sgnE_far hs (by right; show _; simp; omega), if_neg (by decide)]
        clear hs
        go_enter Try.func37, Try.ntmps37
        go_wp2_with (go_at_call 69; refine (refSized_any 2 _).mono ?_; rintro e w1 ⟨rfl, rfl⟩; rw [HS.out])
        go_ret2
        exact refPost_err (Below.refl _ _)
    · rcases (show n < -2147483648 ∨ (-2147483648 ≤ n ∧ n < 2147483648) ∨ 2147483648 ≤ n by omega) with hr | hr | hr
      · rw [sgnE_far hs (by left; show _; simp; omega), if_neg (by decide)]
        clear hs
        go_enter Try.func37, Try.ntmps37
        go_wp2_with (go_at_call 69; refine (refSized_any 4 _).mono ?_; rintro e w1 ⟨rfl, rfl⟩; rw [HS.out])
        go_ret2
        exact refPost_err (Below.refl _ _)
      · rw [sgnE_ok hs (by intro h; simp at h; omega), if_pos rfl]
        clear hs
        go_enter Try.func37, Try.ntmps37
        go_wp2_with (go_at_call 69; refine (refSized_any 4 _).mono ?_; rintro e w1 ⟨rfl, rfl⟩; rw [HS.out])
        refine (refBytes_any u 4 _ HU2.out (by omega)).mono ?_
        rintro e w2 ⟨rfl, hb2⟩
        go_wp2
        go_ret2
        exact refPost_ok HU.out (by decide) hb2
      · rw [sgnE_far hs (by right; show _; simp; omega), if_neg (by decide)]
        clear hs
        go_enter Try.func37, Try.ntmps37
        go_wp2_with (go_at_call 69; refine (refSized_any 4 _).mono ?_; rintro e w1 ⟨rfl, rfl⟩; rw [HS.out])
        go_ret2
        exact refPost_err (Below.refl _ _)
    · rcases (show (-9223372036854775808 ≤ n ∧ n < 9223372036854775808) by omega) with hr
      rw [sgnE_ok hs (by intro h; simp at h; omega), if_pos rfl]
      clear hs
      go_enter Try.func37, Try.ntmps37
      go_wp2_with (go_at_call 69; refine (refSized_any 8 _).mono ?_; rintro e w1 ⟨rfl, rfl⟩; rw [HS.out])
      refine (refBytes_any u 8 _ HU2.out (by omega)).mono ?_
      rintro e w2 ⟨rfl, hb2⟩
      go_wp2
      go_ret2
      exact refPost_ok HU.out (by decide) hb2
end Go.Proofs.Yteendimoopmakaa
