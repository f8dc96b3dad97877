import Derived.Test.YtmblnacckboggaaDoorSh
import Derived.Test.YtmblnacckboggaaDoorD5
namespace Go.Proofs.YtmblnacckboggaaDoor
open Go.RowKit
theorem wstr (B b : Nat) (bs : List Value) (s : ByteArray) (w : World) (h : Lib.IsBuilderF 85 5 B b bs w) (hlen : bs.length + s.size ≤ 140737488355328) (hBw : B ≤ w.heap.size) :
    Calls Tryd.prog 36 #[.pointer (some ⟨b, 0, none⟩), .string s] w fun e w' => e = .returned (.tuple #[.int .i64 s.size, .nilIface]) ∧ (Lib.BuilderAtF 85 5 B b (.pointer (some ⟨b, 0, none⟩)) (bs ++ Lib.strCells s) w' ∧ Below B w w' ∧ Lib.OthersKept 5 (some b) w w') := Any.Builder_WriteString_k { Tryd.lays105 with } Tryd.Builder_Extra_105 B b bs s w h hlen hBw
end Go.Proofs.YtmblnacckboggaaDoor
