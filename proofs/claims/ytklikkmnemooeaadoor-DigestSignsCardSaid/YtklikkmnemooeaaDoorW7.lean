/- WriteByte of a builder, by the shelf. -/
import Derived.Test.YtklikkmnemooeaaDoorSh
namespace Go.Proofs.YtklikkmnemooeaaDoor
open Go.RowKit Go.Shelf
def ren167 : Go.Shelf.Ren := ⟨fun x => match x with | 167 => 61 | 240 => 71 | 276 => 79 | n => n, Tryd.lays105_ren.t, Tryd.lays105_ren.g⟩
theorem lays167 : Lays.n167 Tryd.prog ren167 := { Tryd.lays105 with f167 := by kernel_rfl, f240 := by kernel_rfl, f276 := by kernel_rfl }
theorem extra167 : Builder.Extra Tryd.prog ren167 := { Tryd.Builder_Extra_105 with }
theorem wbyte (B b : Nat) (bs : List Value) (c : Int) (w : World) (h : Lib.IsBuilderF 72 5 B b bs w) (hlen : bs.length + 1 ≤ 140737488355328) (hBw : B ≤ w.heap.size) :
    Calls Tryd.prog 61 #[.pointer (some ⟨b, 0, none⟩), .int .u8 c] w fun e w' => e = .returned .nilIface ∧ (Lib.BuilderAtF 72 5 B b (.pointer (some ⟨b, 0, none⟩)) (bs ++ [.int .u8 c]) w' ∧ Below B w w' ∧ Lib.OthersKept 5 (some b) w w') := Any.Builder_WriteByte_k lays167 extra167 B b bs c w h hlen hBw
end Go.Proofs.YtklikkmnemooeaaDoor
