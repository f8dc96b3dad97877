/- What the rows' condition gives the walks: the two tables. -/
import Derived.Test.YtmblnacckboggaaDoorL1
import Derived.Test.YtmblnacckboggaaDoorDA
import Derived.Test.YtmblnacckboggaaDoorTie
import Derived.Test.YtmblnacckboggaaDoorCards
import Derived.Lib.LaidTab
import Derived.LaidMore
import Derived.Stop.Joined
import Derived.Stop.LaidErr
namespace Go.Proofs.YtmblnacckboggaaDoor
open Go.ChangeShapes Go.WideShapes Go.ChangeAt Go.RowKit
abbrev laid2 : List (String × DataW Unit) := [("math/bits.deBruijn32tab", Rows.laid_math_bits_deBruijn32tab), ("math/bits.deBruijn64tab", Rows.laid_math_bits_deBruijn64tab), ("internal/strconv.uint64pow10", Rows.laid_internal_strconv_uint64pow10), ("acheron/digest.roots", Rows.laid_acheron_digest_roots), ("acheron/digest.cubes", Rows.laid_acheron_digest_cubes)]
theorem gRoots : Tryd.prog.globalNamed "acheron/digest.roots" = some 0 := by kernel_rfl
theorem gCubes : Tryd.prog.globalNamed "acheron/digest.cubes" = some 2 := by kernel_rfl
theorem tRoots : (Tryd.prog.globals[0]?).map (·.type) = some 112 := by kernel_rfl
theorem tCubes : (Tryd.prog.globals[2]?).map (·.type) = some 125 := by kernel_rfl
def rootZ : List Int := SH.roots.map fun (n : Nat) => (n : Int)
def cubeZ : List Int := SH.cubes.map fun (n : Nat) => (n : Int)
theorem roots_data : (Rows.laid_acheron_digest_roots : DataW Unit) = Lib.tabData .u32 rootZ := rfl
set_option maxRecDepth 100000 in
theorem cubes_data : (Rows.laid_acheron_digest_cubes : DataW Unit) = Lib.tabData .u32 cubeZ := rfl
theorem range_of {W : World} {name : String} {zs : List Int} {g : Nat} (h : Lib.TabIs Tryd.prog W name .u32 zs) (hg : Tryd.prog.globalNamed name = some g) : W.rangeAt g 0 (zs.map fun z => Value.int .u32 z) := by
  intro j v hv
  rw [List.getElem?_map] at hv
  cases hz : zs[j]? with
  | none => rw [hz] at hv; cases hv
  | some z =>
    rw [hz] at hv
    have hj : j < zs.length := (List.getElem?_eq_some_iff.1 hz).1
    have := h.cell hg j hj
    rw [List.getD_eq_getElem?_getD, hz] at this
    simpa using this.trans hv
set_option maxRecDepth 100000 in
theorem tabs_of {W : World} (h : laidMetH Tryd.prog laid2 W) : Tabs W := by
  rw [MakeChecks.laidMetH_plain _ _ _ (by kernel_rfl)] at h
  have h := h.tail.tail.tail
  have h2 := h.tail
  have h0 : laidMet Tryd.prog [("acheron/digest.roots", Lib.tabData .u32 rootZ), ("acheron/digest.cubes", Lib.tabData .u32 cubeZ)] W := h
  have r1 := range_of (Lib.tabIs_of_head (n := 8) (e := 105) gRoots tRoots Tryd.underlying112 Tryd.underlying105 (by kernel_rfl) (by kernel_rfl) h0) gRoots
  have h3 : laidMet Tryd.prog [("acheron/digest.cubes", Lib.tabData .u32 cubeZ)] W := h2
  have r2 := range_of (Lib.tabIs_of_head (n := 64) (e := 105) gCubes tCubes Tryd.underlying125 Tryd.underlying105 (by kernel_rfl) (by kernel_rfl) h3) gCubes
  refine ⟨r1, r2, ?_⟩
  have hc : W.cell? ⟨2, 0, none⟩ = some (.int .u32 1116352408) := r2 0 _ rfl
  rcases Nat.lt_or_ge 2 W.heap.size with hl | hl
  · exact hl
  · simp [World.cell?, Array.getElem?_eq_none hl] at hc
theorem door_met (os : Os) (args : Array Value) : laidMetH Tryd.prog laid2 ((World.doorLaid Tryd.prog 400 os).forCall (fun _ _ => 0) ⟨#[], args, []⟩).memory :=
  laidMetH_of_parts3 (fuel := 8) (laidMet_of_run' 8 (by kernel_rfl) (by kernel_rfl)) (by kernel_rfl) (by kernel_rfl)
end Go.Proofs.YtmblnacckboggaaDoor
