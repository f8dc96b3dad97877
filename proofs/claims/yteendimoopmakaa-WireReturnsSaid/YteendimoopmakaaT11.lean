/- String and Raw of a writer append the bytes or return the error. For a writer with fewer than 10^10 bytes and strings within the reach. -/
import Derived.Test.YteendimoopmakaaT7
import Derived.Lib.AppendStr
namespace Go.Proofs.Yteendimoopmakaa
open Go.RowKit

theorem strCells_u8s (s : ByteArray) : Lib.strCells s = u8s s.data.toList := rfl
theorem size_list (s : ByteArray) : s.data.toList.length = s.size := Array.length_toList

/-- Append of a string's bytes: the run, and where the new row lies. -/
theorem run_str_at {P : Program} (w : World) (base : Nat) (t u ty e : TypeId) (i : TypeInfo) (ht : P.underlying t = some (.slice e)) (hu : P.underlying u = some .string) (hi : P.info? e = some i) (hz : i.zero = some (.int .u8 0))
    (hsize : i.size = 1) (hby : i.bytes = 1) (v : Value) (n : Nat) (xs : List Value) (hown : w.ownsRow base e 1 v n xs) (s : ByteArray) (h63 : n + s.size ≤ maxLen) (hbytes : n + s.size ≤ 140737488355328) (hbase : base ≤ w.heap.size) :
    ∃ v' w', (Builtin.append_ #[t, u] ty #[v, .string s]).run P w = .ok v' w' ∧ w'.ownsRow base e 1 v' (n + s.size) (xs ++ Lib.strCells s) ∧ w.grownBy w' v.ownBlock ∧
      (v'.ownBlock = v.ownBlock ∨ ∀ k, v'.ownBlock = some k → w.heap.size ≤ k) := by
  obtain ⟨v', w', hr, h2, h3, h4⟩ := Lib.run_append_own_string (P := P) w base t u ty e i ht hu hi hz hsize hby v n xs hown s h63 hbytes hbase
  refine ⟨v', w', hr, h2, h3, ?_⟩
  rcases hown.2 with ⟨rfl, rfl⟩ | ⟨g, cap, cur, rfl, _, hg, hn, _, hcs, htk⟩
  · obtain ⟨v2, w2, hr2, g2, _⟩ := Lib.run_append_own_string (P := P) w w.heap.size t u ty e i ht hu hi hz hsize hby (.slice none 0 0) 0 [] (World.ownsRow_nil _ _ _ _) s (by omega) (by omega) (Nat.le_refl _)
    rw [hr] at hr2
    injection hr2 with e1 _
    subst e1
    exact .inr fun k hk => (g2.lt k hk).1
  · by_cases hroom : n + s.size ≤ cap
    · have hr2 := Lib.run_append_room_string (P := P) w t u ty e i ht hu hi hsize g n cap cur hg s hroom (by omega)
      rw [hr] at hr2
      injection hr2 with e1 _
      subst e1
      exact .inl rfl
    · have hr2 := Lib.run_append_grow_string (P := P) w t u ty e i (.int .u8 0) ht hu hi hz ⟨g, 0, none⟩ n cap xs (by rw [hown.1, hsize]) (hown.cells (g := g) rfl) s (by omega) (by simp only [maxLen] at h63; omega)
        (growslice_fits (by omega) (by rw [hby]; omega))
      rw [hr] at hr2
      injection hr2 with e1 _
      subst e1
      exact .inr fun k hk => by simp [Value.ownBlock] at hk; omega

theorem wpList_str_at {P : Program} {w : World} {ops : Array Oper} {rest : List Oper} {o : Oper} {a : Act} {Q : Exit → Act → World → Prop} (hgd : o.guard = none) (sl x : Operand) (t u : TypeId)
    (ho : o.op = .call { callee := .builtin .append, args := #[sl, x], argTypes := #[t, u] })
    (base : Nat) (e : TypeId) (i : TypeInfo) (ht : P.underlying t = some (.slice e)) (hu : P.underlying u = some .string) (hi : P.info? e = some i) (hz : i.zero = some (.int .u8 0)) (hsize : i.size = 1) (hby : i.bytes = 1)
    (v : Value) (n : Nat) (xs : List Value) (hs : a.eval sl = v) (hown : w.ownsRow base e 1 v n xs) (s : ByteArray) (hx : a.eval x = .string s)
    (h63 : n + s.size ≤ maxLen) (hbytes : n + s.size ≤ 140737488355328) (hbase : base ≤ w.heap.size)
    (h : ∀ v' w', w'.ownsRow base e 1 v' (n + s.size) (xs ++ Lib.strCells s) → w.grownBy w' v.ownBlock → (v'.ownBlock = v.ownBlock ∨ ∀ k, v'.ownBlock = some k → w.heap.size ≤ k) → wpList P ops Q rest (a.put o.dst v') w') : wpList P ops Q (o :: rest) a w := by
  refine wpList_plain hgd fun K hK => ?_
  obtain ⟨v', w', hr, h2, h3, h4⟩ := run_str_at (P := P) w base t u o.type e i ht hu hi hz hsize hby v n xs hown s h63 hbytes hbase
  unfold Oper.wp execOp
  simp only [ho, resolve, invoke, builtin, Sem.run_bind, Sem.run_pure, Result.andThen_ok, List.map_toArray, List.map_cons, List.map_nil, hs, hx, hr]
  exact hK _ _ (h v' w' h2 h3 h4)

/-- behind an append: the slice is still to be stored into the writer -/
theorem wrote_of' {w W w2 : World} {base b : Nat} {v v' : Value} {bs ns : List UInt8} {m : Nat} (hw : WrAt w base b v bs) (hb : Below w.heap.size w W) (hm : ns.length = m)
    (hown : w2.ownsRow base 5 1 v' (bs.length + m) (u8s bs ++ u8s ns)) (hg : W.grownBy w2 v.ownBlock) (hat : v'.ownBlock = v.ownBlock ∨ ∀ k, v'.ownBlock = some k → W.heap.size ≤ k) :
    w2.cell? ⟨b, 0, none⟩ = some v ∧ w2.frozen? ⟨b, 0, none⟩ = false ∧ Wrote w (w2.setCell ⟨b, 0, none⟩ v') base b v (bs ++ ns) := by
  rcases hat with h | h
  · exact wrote_of hw hb hm hown hg (S := w.heap.size) (.inl h) (Nat.le_refl _)
  · rcases hk : v'.ownBlock with _ | k
    · by_cases hv : v.ownBlock = none
      · exact wrote_of hw hb hm hown hg (S := w.heap.size) (.inl (by rw [hk, hv])) (Nat.le_refl _)
      · subst hm
        have hW := hw.below hb
        have h2 : Blk w2 b 64 [v] := hW.1.grown hg (own_ne hW.2 hW.1 (by decide)).symm
        refine ⟨by rw [h2.cell]; rfl, h2.frozen 0, v', ⟨h2.set_ 0 v', ?_⟩, ⟨hg.os.trans hb.os, hg.tape.trans hb.tape, hg.output.trans hb.output, ?_, ?_⟩, .inr fun k e => by rw [hk] at e; cases e⟩
        · rw [List.length_append, u8s_append]
          exact own_set hown (own_ne hown h2 (by decide)) _
        · have := hg.size; have := hb.size; simp [World.setCell]; omega
        · intro k hk hkb hkr
          rw [Below.heap_setCell _ _ _ _ hkb, hg.block k (by have := hb.size; omega) hkr, hb.block k hk]
    · exact wrote_of hw hb hm hown hg (S := k) (.inr hk) (Nat.le_trans hb.size (h k hk))

theorem Raw_nil (s : ByteArray) (w : World) : Calls Try.prog 43 #[.pointer none, .string s] w fun e w' => e = .returned (.int .i64 6) ∧ w = w' := by
  go_enter Try.func43, Try.ntmps43
  go_wp2
  go_ret
  exact ⟨rfl, rfl⟩
theorem String_nil (s : ByteArray) (w : World) : Calls Try.prog 42 #[.pointer none, .string s] w fun e w' => e = .returned (.int .i64 6) ∧ w = w' := by
  go_enter Try.func42, Try.ntmps42
  go_wp2
  go_ret
  exact ⟨rfl, rfl⟩
set_option maxHeartbeats 800000 in
theorem Raw_any (s : ByteArray) (base b : Nat) (v : Value) (bs : List UInt8) (w : World) (hs : s.size ≤ 140737488000000) (hlen : bs.length ≤ 100000) (hw : WrAt w base b v bs) (hbase : base ≤ w.heap.size) :
    Calls Try.prog 43 #[.pointer (some ⟨b, 0, none⟩), .string s] w fun e w' => e = .returned (.int .i64 0) ∧ Wrote w w' base b v (bs ++ s.data.toList) := by
  obtain ⟨i0, hi, hz0, hz1, hz2⟩ := info_parts Try.info5
  have hc : w.cell? ⟨b, 0, none⟩ = some v := hw.1.cell 0
  go_enter Try.func43, Try.ntmps43
  go_wp2_with (at_builtin; refine wpList_str_at rfl (.tmp 11) (.tmp 12) 62 9 rfl base 5 i0 Try.underlying62 Try.underlying9 hi hz0 hz1 hz2 v bs.length (u8s bs) rfl hw.2 s rfl ?b1 ?b2 hbase ?go)
  case b1 => unfold maxLen; omega
  case b2 => omega
  case go =>
    intro v' w2 hown hg hat
    obtain ⟨k1, k2, k3⟩ := wrote_of' hw (Below.refl _ _) (size_list s) hown hg hat
    have K3 := Lib.hid k3
    have hsh := hown.2
    clear k3 hg hat hown
    rcases hsh with ⟨rfl, _⟩ | ⟨g, cap, cur, rfl, _⟩
    · go_wp2
      go_ret
      exact ⟨rfl, K3.out⟩
    · go_wp2
      go_ret
      exact ⟨rfl, K3.out⟩
theorem String_limit (s : ByteArray) (b : Nat) (w : World) (hs : 1048576 < s.size) : Calls Try.prog 42 #[.pointer (some ⟨b, 0, none⟩), .string s] w fun e w' => e = .returned (.int .i64 3) ∧ w = w' := by
  go_enter Try.func42, Try.ntmps42
  go_wp2
  go_ret
  exact ⟨rfl, rfl⟩
set_option maxRecDepth 100000 in
set_option maxHeartbeats 800000 in
theorem String_any (s : ByteArray) (base b : Nat) (v : Value) (bs : List UInt8) (w : World) (hs : s.size ≤ 1048576) (hlen : bs.length ≤ 100000) (hw : WrAt w base b v bs) (hbase : base ≤ w.heap.size) :
    Calls Try.prog 42 #[.pointer (some ⟨b, 0, none⟩), .string s] w fun e w' => e = .returned (.int .i64 0) ∧ Wrote w w' base b v (bs ++ (numB s.size ++ s.data.toList)) := by
  obtain ⟨i0, hi, hz0, hz1, hz2⟩ := info_parts Try.info5
  have hnl : (numB s.size).length ≤ 9 := by rw [numB_length]; rcases sizeN_cases s.size with h | h | h | h <;> omega
  go_enter Try.func42, Try.ntmps42
  go_wp2_with fail
  refine (number_any s.size base b v bs _ (by omega) (by omega) (by omega) hw hbase).mono ?_
  rintro e w1 ⟨rfl, v1, hw1, hf1, ha1⟩
  have hb1 : (bs ++ numB s.size).length ≤ 100009 := by rw [List.length_append]; omega
  have hz := hf1.size
  have hc : w1.cell? ⟨b, 0, none⟩ = some v1 := hw1.1.cell 0
  generalize hB : bs ++ numB s.size = B at hw1 hb1
  have HBB := Lib.hid hB
  clear hB
  go_wp2_with (at_builtin; refine wpList_str_at rfl (.tmp 20) (.tmp 21) 62 9 rfl base 5 i0 Try.underlying62 Try.underlying9 hi hz0 hz1 hz2 v1 B.length (u8s B) rfl hw1.2 s rfl ?b1 ?b2 ?b3 ?go)
  case b1 => unfold maxLen; omega
  case b2 => omega
  case b3 => omega
  case go =>
    intro v' w2 hown hg hat
    obtain ⟨k1, k2, k3⟩ := wrote_of' hw1 (Below.refl _ _) (size_list s) hown hg hat
    rw [← HBB.out, List.append_assoc] at k3
    have K3 := Lib.hid (Wrote.trans hf1 ha1 k3)
    have hsh := hown.2
    clear k3 hg hat hown
    rcases hsh with ⟨rfl, _⟩ | ⟨g, cap, cur, rfl, _⟩
    · go_wp2
      go_ret
      exact ⟨rfl, K3.out⟩
    · go_wp2
      go_ret
      exact ⟨rfl, K3.out⟩
end Go.Proofs.Yteendimoopmakaa
