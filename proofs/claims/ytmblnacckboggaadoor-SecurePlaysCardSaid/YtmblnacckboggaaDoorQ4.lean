/- Record (9) and Open (11) of the program. -/
import Derived.Test.YtmblnacckboggaaDoorQ2
namespace Go.Proofs.YtmblnacckboggaaDoor
open Go.RowKit
def str (l : List UInt8) : Value := .string ⟨l.toArray⟩
theorem bad_ok {key : List UInt8} {side number : Int} (h : badE key side number = 0) : key.length = 32 ∧ (side = 1 ∨ side = 2) ∧ 0 ≤ number := by
  unfold badE at h
  split at h
  · cases h
  next h1 =>
  split at h
  · cases h
  next h2 =>
  split at h
  · cases h
  next h3 => exact ⟨by simpa using h1, by omega, by omega⟩
theorem str_empty (d : ByteArray) : (d.size == 0) = d.toList.isEmpty := by
  rw [ByteArray.toList_eq, Bool.eq_iff_iff, beq_iff_eq, List.isEmpty_iff]
  constructor
  · intro h; exact List.eq_nil_of_length_eq_zero (by simpa using h)
  · intro h
    have h2 : d.data.toList.length = 0 := by rw [h]; rfl
    simpa using h2
set_option maxRecDepth 100000 in
set_option maxHeartbeats 1600000 in
theorem record_bad (key d : ByteArray) (side number : Int) (hb : badE key.data.toList side number ≠ 0) (w : World) :
    Calls Tryd.prog 9 #[.string key, .int .i64 side, .int .i64 number, .string d] w fun e w' => e = .returned (.tuple #[.string ⟨#[]⟩, .int .i64 (badE key.data.toList side number)]) ∧ w = w' := by
  have C := Lib.hid (fun W => check_any key side number W)
  generalize badE key.data.toList side number = b at *
  have h1 : (b != 0) = true := by rw [bne_iff_ne]; exact hb
  clear hb
  go_enter Tryd.func9, Tryd.ntmps9
  go_wp2_with (go_at_call 27; refine (C.out _).mono ?_; rintro e v1 ⟨rfl, rfl⟩)
  go_ret2
  exact ⟨rfl, rfl⟩
set_option maxRecDepth 100000 in
theorem record_none (key d : ByteArray) (side number : Int) (hb : badE key.data.toList side number = 0) (hd : d.size = 0) (w : World) :
    Calls Tryd.prog 9 #[.string key, .int .i64 side, .int .i64 number, .string d] w fun e w' => e = .returned (.tuple #[.string ⟨#[]⟩, .int .i64 12]) ∧ w = w' := by
  have C := Lib.hid (fun W => check_any key side number W)
  rw [hb] at C
  have he : d = ⟨#[]⟩ := ByteArray.size_eq_zero_iff.1 hd
  subst he
  clear hb hd
  go_enter Tryd.func9, Tryd.ntmps9
  go_wp2_with (go_at_call 27; refine (C.out _).mono ?_; rintro e v1 ⟨rfl, rfl⟩)
  go_ret2
  exact ⟨rfl, rfl⟩
theorem not_empty {d : ByteArray} (hd : d.size ≠ 0) : d.toList.isEmpty = false := by
  rw [← str_empty, beq_eq_false_iff_ne]; exact hd
theorem not_nil {d : ByteArray} (hd : d.size ≠ 0) : d.toList ≠ [] := by
  have := not_empty hd
  rw [List.isEmpty_eq_false_iff] at this
  exact this
set_option maxRecDepth 100000 in
theorem record_long (key d : ByteArray) (side number : Int) (hb : badE key.data.toList side number = 0) (hd : 1024 < d.size) (w : World) :
    Calls Tryd.prog 9 #[.string key, .int .i64 side, .int .i64 number, .string d] w fun e w' => e = .returned (.tuple #[.string ⟨#[]⟩, .int .i64 3]) ∧ w = w' := by
  have C := Lib.hid (fun W => check_any key side number W)
  rw [hb] at C
  have he := not_empty (d := d) (by omega)
  have hn := not_nil (d := d) (by omega)
  have h1 : (1024 : Int) < d.size := by omega
  clear hb hd
  go_enter Tryd.func9, Tryd.ntmps9
  go_wp2_with (go_at_call 27; refine (C.out _).mono ?_; rintro e v1 ⟨rfl, rfl⟩)
  go_ret2
  exact ⟨rfl, rfl⟩
set_option maxRecDepth 100000 in
set_option maxHeartbeats 1600000 in
theorem record_good (key d : ByteArray) (side : Int) (n : Nat) (hb : badE key.data.toList side n = 0) (hn : n < 9223372036854775808) (hd : d.size ≠ 0) (hd2 : d.size ≤ 1024) (w : World) (hT : Tabs w) :
    Calls Tryd.prog 9 #[.string key, .int .i64 side, .int .i64 n, .string d] w fun e w' => e = .returned (.tuple #[str (recL key.data.toList side n d.data.toList), .int .i64 0]) ∧ Below w.heap.size w w' := by
  have C := Lib.hid (fun W => check_any key side n W)
  rw [hb] at C
  obtain ⟨hkl, hs, _⟩ := bad_ok hb
  have hk : key.size = 32 := by rw [← bytes_len]; exact hkl
  have CO := Lib.hid (own_mask key side hs hk w hT)
  obtain ⟨K, hK⟩ : ∃ K : ByteArray, K = ⟨(maskK key.data.toList side).toArray⟩ := ⟨_, rfl⟩
  have hKs : K.size = 32 := by rw [hK, str_size]; exact sum_len _
  rw [← hK] at CO
  have CM := Lib.hid (fun W hW => mask_good d K n (by omega) hn (by omega) W hW)
  obtain ⟨M, hM⟩ : ∃ M : ByteArray, M = ⟨(mk d.data.toList (kst K.data.toList n 0 d.size) d.size).toArray⟩ := ⟨_, rfl⟩
  rw [← hM] at CM
  have hMl : M.data.toList = maskL (maskK key.data.toList side) d.data.toList n := by rw [hM, hK]; unfold maskL; rw [bytes_len]
  have hMs : M.size = d.size := by rw [← bytes_len, hMl, maskL_len, bytes_len]
  obtain ⟨HD, hHD⟩ : ∃ HD : ByteArray, HD = ⟨(headL d.size).toArray⟩ := ⟨_, rfl⟩
  have hHs : HD.size = 2 := by rw [hHD]; rfl
  have c1 : ¬ 9223372036854775807 < HD.size + M.size := by omega
  have CS := Lib.hid (fun W hW => seal_any key (HD ++ M) side n hs hk (by rw [ByteArray.size_append]; omega) W hW)
  have hbody : (HD ++ M).data.toList = bodyL key.data.toList side n d.data.toList := by
    rw [ap_list, hMl, hHD]; unfold bodyL; rw [bytes_len]
  obtain ⟨S, hS⟩ : ∃ S : ByteArray, S = ⟨(sealL key.data.toList side n (HD ++ M).data.toList).toArray⟩ := ⟨_, rfl⟩
  rw [← hS] at CS
  have hSs : S.size = 32 := by rw [hS, str_size]; exact seal_len _ _ _ _
  have c2 : ¬ 9223372036854775807 < (HD ++ M).size + S.size := by rw [ByteArray.size_append]; omega
  have FIN := Lib.hid (show ((HD ++ M) ++ S) = ⟨(recL key.data.toList side n d.data.toList).toArray⟩ by
    have h : ((HD ++ M) ++ S).data.toList = recL key.data.toList side n d.data.toList := by
      rw [ap_list, hbody, hS, hbody]; rfl
    rw [← h])
  have HT := Lib.hid hT
  have hcv : ∀ W : World, (convert 29 9 (.slice (some ⟨W.heap.size, 0, none⟩) 2 2)).run Tryd.prog (W.alloc (.cells #[.int .u8 ((d.size : Int) / 256), .int .u8 ((d.size : Int) % 256)] 5)) = .ok (.string HD) (W.alloc (.cells #[.int .u8 ((d.size : Int) / 256), .int .u8 ((d.size : Int) % 256)] 5)) := fun W => by
    rw [hHD]
    refine run_convert_bytes_back _ 29 9 5 ⟨W.heap.size, 0, none⟩ 2 (headL d.size) Tryd.underlying29 Tryd.underlying5 Tryd.underlying9 (fun j hj => ?_)
    rw [Addr.add_mid]
    have hB : Blk (W.alloc (.cells #[.int .u8 ((d.size : Int) / 256), .int .u8 ((d.size : Int) % 256)] 5)) W.heap.size 5 [.int .u8 ((d.size : Int) / 256), .int .u8 ((d.size : Int) % 256)] := Blk.new W 5 [_, _]
    refine (hB.cell (0 + j)).trans ?_
    have hj2 : j < 2 := hj
    have : j = 0 ∨ j = 1 := by omega
    rcases this with rfl | rfl
    · simp [headL]
      omega
    · simp [headL]
  have he := not_empty hd
  have hn2 := not_nil hd
  have h1 : decide ((1024 : Int) < d.size) = false := decide_eq_false (by omega)
  clear hb hkl hs hk hK hM hMl hHD hbody hS hT hd
  go_enter Tryd.func9, Tryd.ntmps9
  go_wp2_with (first
    | (go_at_call 27; refine (C.out _).mono ?_; rintro e v1 ⟨rfl, rfl⟩)
    | (go_at_call 29; refine (CO.out).mono ?_; rintro e v2 ⟨rfl, hb2⟩; have B2 := Lib.hid hb2; clear hb2)
    | (go_at_call 28; refine (CM.out _ (HT.out.keep B2.out)).mono ?_; rintro e v3 ⟨rfl, hb3⟩; have B3 := Lib.hid (keepBelow B2.out hb3); clear hb3)
    | (go_at_call 30; refine (CS.out _ ((HT.out.keep B3.out).alloc _)).mono ?_; rintro e v4 ⟨rfl, hb4⟩; have B4 := Lib.hid (keepBelow (keepBelow B3.out ((Below.refl _ _).alloc (Nat.le_refl _) _)) hb4); clear hb4))
  go_ret2
  exact ⟨by rw [FIN.out]; rfl, B4.out⟩
theorem record_any (key d : ByteArray) (side number : Int) (hn : number < 9223372036854775808) (w : World) (hT : Tabs w) :
    Calls Tryd.prog 9 #[.string key, .int .i64 side, .int .i64 number, .string d] w fun e w' => e = .returned (.tuple #[str (recR key.data.toList side number d.data.toList).1, .int .i64 (recR key.data.toList side number d.data.toList).2]) ∧ Below w.heap.size w w' := by
  unfold recR
  rw [bytes_len]
  by_cases hb : badE key.data.toList side number = 0
  · rw [if_neg (fun h => h hb)]
    by_cases h0 : d.size = 0
    · rw [if_pos h0]
      exact (record_none key d side number hb h0 w).mono fun e w' ⟨a, b⟩ => ⟨a, b ▸ Below.refl _ _⟩
    · rw [if_neg h0]
      by_cases h1 : 1024 < d.size
      · rw [if_pos h1]
        exact (record_long key d side number hb h1 w).mono fun e w' ⟨a, b⟩ => ⟨a, b ▸ Below.refl _ _⟩
      · rw [if_neg h1]
        obtain ⟨_, _, h3⟩ := bad_ok hb
        obtain ⟨n, rfl⟩ : ∃ n : Nat, number = n := ⟨number.toNat, by omega⟩
        exact record_good key d side n hb (by omega) h0 (by omega) w hT
  · rw [if_pos hb]
    exact (record_bad key d side number hb w).mono fun e w' ⟨a, b⟩ => ⟨a, b ▸ Below.refl _ _⟩
end Go.Proofs.YtmblnacckboggaaDoor
