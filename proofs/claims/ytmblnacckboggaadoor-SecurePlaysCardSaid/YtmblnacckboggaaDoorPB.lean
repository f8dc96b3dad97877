/- What one side sends: pieces and records; Link.Send of the first side among the two sides. -/
import Derived.Test.YtmblnacckboggaaDoorPA
namespace Go.Proofs.YtmblnacckboggaaDoor
open Go.RowKit
theorem outL_recs (key : List UInt8) (side : Int) (k : Nat) (d : List UInt8) (i : Nat) : outL key side k d i = recsL key side k (piecesN d i) := by
  induction i with
  | zero => simp [outL, piecesN, recsL]
  | succ i ih => rw [outL, ih, piecesN_succ, recsL_app, pieces_len]; simp [recsL]
/-- the pieces of all data -/
def allPs (ds : List ByteArray) : List (List UInt8) := ds.flatMap fun d => piecesN d.data.toList (cntL d.size)
def allD (ds : List ByteArray) : List UInt8 := ds.flatMap fun d => d.data.toList
theorem allPs_snoc (ds : List ByteArray) (d : ByteArray) : allPs (ds ++ [d]) = allPs ds ++ piecesN d.data.toList (cntL d.size) := by simp [allPs]
theorem allD_snoc (ds : List ByteArray) (d : ByteArray) : allD (ds ++ [d]) = allD ds ++ d.data.toList := by simp [allD]
theorem piecesC_flat (d : ByteArray) : (piecesN d.data.toList (cntL d.size)).flatten = d.data.toList := by
  have := pieces_all d.data.toList
  rw [bytes_len] at this
  exact this
theorem allPs_flat (ds : List ByteArray) : (allPs ds).flatten = allD ds := by
  induction ds with
  | nil => rfl
  | cons d ds ih =>
    show (piecesN d.data.toList (cntL d.size) ++ allPs ds).flatten = d.data.toList ++ allD ds
    rw [List.flatten_append, piecesC_flat, ih]
theorem allPs_good (ds : List ByteArray) : Good (allPs ds) := by
  intro x hx
  unfold allPs at hx
  rw [List.mem_flatMap] at hx
  obtain ⟨d, _, hd⟩ := hx
  exact pieces_good d.data.toList (cntL d.size) (by rw [bytes_len]; exact Nat.le_refl _) x hd
theorem recsL_len (key : List UInt8) (side : Int) (ps : List (List UInt8)) : ∀ n, (recsL key side n ps).length = 34 * ps.length + ps.flatten.length := by
  induction ps with
  | nil => intro n; rfl
  | cons p ps ih =>
    intro n
    show (recL key side n p ++ recsL key side (n + 1) ps).length = _
    rw [List.length_append, rec_len, ih, List.flatten_cons, List.length_append, List.length_cons]
    omega
theorem recsL_nil {key : List UInt8} {side : Int} {n : Nat} {ps : List (List UInt8)} (h : recsL key side n ps = []) : ps = [] := by
  have := congrArg List.length h
  rw [recsL_len] at this
  cases ps with
  | nil => rfl
  | cons p ps => simp at this
/-- few data: what they come to -/
theorem allPs_few (ds : List ByteArray) (h : ∀ d ∈ ds, d.size ≤ 2500) : (allPs ds).length ≤ 3 * ds.length ∧ (allD ds).length ≤ 2500 * ds.length := by
  induction ds with
  | nil => exact ⟨Nat.le_refl _, Nat.le_refl _⟩
  | cons d ds ih =>
    obtain ⟨a, b⟩ := ih fun x hx => h x (by simp [hx])
    have hd := h d (by simp)
    have e1 : allPs (d :: ds) = piecesN d.data.toList (cntL d.size) ++ allPs ds := rfl
    have e2 : allD (d :: ds) = d.data.toList ++ allD ds := rfl
    rw [e1, e2, List.length_append, List.length_append, pieces_len, bytes_len, List.length_cons]
    have : cntL d.size ≤ 3 := by unfold cntL; omega
    omega
def lkS (k : ByteArray) (n : Nat) : Lk := ⟨keyB k, 1, n, 0, ⟨#[]⟩, false⟩
/-- Send of the first side, not ended, over a wire that takes all -/
theorem send_en (k : ByteArray) (n : Nat) (d R : ByteArray) (sends : Int) (w : World) (B g l0 l1 w0 w1 : Nat) (L1 : Lk) (X1 : Wi) (R0 R1 : Lk) (y0 y1 : ByteArray)
    (hE : En w B g l0 l1 w0 w1 (lkS k n) L1 ⟨R, sends, 0, ⟨#[]⟩, 0⟩ X1 R0 R1 y0 y1) (hn : n ≤ 1000) (hd : d.size ≤ 2500) (hR : R.size ≤ 1000000) (h1 : 0 ≤ sends) (h2 : sends ≤ 1000) (hB2 : 2 < B) (hT : Tabs w) :
    Calls Tryd.prog 14 #[.pointer (some ⟨l0, 0, none⟩), .string d] w fun e w' => e = .returned (.int .i64 0) ∧
      En w' B g l0 l1 w0 w1 (lkS k (n + cntL d.size)) L1 ⟨R ++ ⟨(recsL (keyL k) 1 n (piecesN d.data.toList (cntL d.size))).toArray⟩, if d.size = 0 then sends else sends + 1, 0, ⟨#[]⟩, 0⟩ X1 R0 R1 y0 y1 ∧ Below B w w' := by
  obtain ⟨a, b, c, d', e, f, g', h', i, j⟩ := hE
  have hgw := f.lt
  by_cases h0 : d.size = 0
  · have hde : d = ⟨#[]⟩ := ByteArray.size_eq_zero_iff.1 h0
    subst hde
    refine (send_empty l0 w0 (keyB k) 1 n 0 ⟨#[]⟩ w g').mono ?_
    rintro e' w' ⟨rfl, hb⟩
    have hr : (R ++ ⟨(recsL (keyL k) 1 n (piecesN (⟨#[]⟩ : ByteArray).data.toList (cntL (⟨#[]⟩ : ByteArray).size))).toArray⟩) = R := bytes_inj (by rw [ap_list]; exact List.append_nil _)
    rw [hr, if_pos (show (⟨#[]⟩ : ByteArray).size = 0 from rfl)]
    exact ⟨rfl, ⟨a, b, c, d', e, keepBlk hb f, keepBlk hb g', keepBlk hb h', keepBlk hb i, keepBlk hb j⟩, hb.mono (by omega)⟩
  · rw [if_neg h0]
    refine (send_ok l0 w0 (lkS k n) n ⟨R, sends, 0, ⟨#[]⟩, 0⟩ d (keyB_ok k 1 (.inl rfl)) rfl rfl (by omega) (by omega) h0 rfl h1 (by simp only; omega) (by simp only; omega) (by omega) w g' i hT (by omega) (by omega)).mono ?_
    rintro e' w' ⟨rfl, hL, hW, hT'⟩
    rw [outL_recs] at hW
    exact ⟨rfl, ⟨a, b, c, d', e, hT'.blk f (by omega) (by omega), hL, hT'.blk h' (by omega) (by omega), hW, hT'.blk j (by omega) (by omega)⟩, hT'.belowB ((Below.refl _ _)) (by omega) (by omega) (by omega)⟩
end Go.Proofs.YtmblnacckboggaaDoor
