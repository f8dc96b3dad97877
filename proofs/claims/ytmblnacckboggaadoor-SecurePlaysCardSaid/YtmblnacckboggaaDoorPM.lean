/- SecurePlays for all acts. -/
import Derived.Test.YtmblnacckboggaaDoorPJ
import Derived.Test.YtmblnacckboggaaDoorPK
namespace Go.Proofs.YtmblnacckboggaaDoor
open Go.RowKit
theorem plays_any (k : ByteArray) (sv : Value) (l : List PAct) (hk : k.size ≤ 200000000000000) (w : World) (hA : PActs w sv l) (hT : Tabs w) :
    Calls Tryd.prog 6 #[.string k, sv] w fun e w' => e = .returned (.bool true) ∧ Below w.heap.size w w' := by
  obtain ⟨sa, sc, rfl, hll⟩ := hA.form
  by_cases hs : smallB l = true
  · exact plays_ok k sa sc l hk hs hll w hA hT
  · exact plays_many k sa sc l hk (by simpa using hs) hll w hA hT
end Go.Proofs.YtmblnacckboggaaDoor
