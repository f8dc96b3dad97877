/-
  No cell of these rows narrows 'for every input' (looked for: loops, veiled, ifaces, maps, wideKeys, modest, calm, conditions, laid).
  DERIVED. THE GIVEN ROWS OF THIS SEAT. 6 by the template 'for every input the law returns true; each argument reads behind the call as it read before'; 0 by the template 'total and deterministic' (their statements: YtmnlojbfdpjjdaaTotals.lean).
  GIVEN WITH THE SEED: the statements are not yours to turn. If you find one false, say at which input.
  Laid BY PROGRAM, IN A SANDBOX (cutbox-rows.mjs): the forced cells as the released guide's own fill.sh prints them over the translation 6757f213beb1f649… (all of the seat's roots in one cut). By AI agents, Wed Nov 11 2026. No macro, syntax, notation, axiom, sorry.
-/
import Derived.Test.YtmnlojbfdpjjdaaChecked
import GoSem.Claim
import GoSem.ClaimJoined
import GoSem.ClaimMapViews
import Derived.JoinedTies
import Derived.KernelRfl
namespace Go.Proofs.Ytmnlojbfdpjjdaa
/- THE CELL 'sum', in the pinned program and in every row, IS THE sha256 OF THE DUMP (.gsa) THAT YtmnlojbfdpjjdaaProg.lean LOADS. Nothing in Lean hashes anything: it is a label: what it is worth is what the hold of that sum in a sandbox is worth. -/
noncomputable def Try.pinned : Pinned := { name := "ytmnlojbfdpjjdaa", sum := "6757f213beb1f649bbae8d5c32f0f618e2d59baf388daad17dbd30d620f030d3", checked := Try.checked }
namespace Rows
def none {H : Type} : Left H := { results := [], args := [] }

/-- 'acheronlaw27.StreamCloses': WHATEVER THE INPUT: true; the input reads as it did. -/
def streamClosesSpec : ChangeSpec := { name := "streamCloses", fn := fun _ => fun
  | [d1, d2, d3] => { results := [.lit (.bool true)], args := [d1, d2, d3] }
  | _ => none }
def streamClosesRow : OpenClaim := { program := "ytmnlojbfdpjjdaa", sum := "6757f213beb1f649bbae8d5c32f0f618e2d59baf388daad17dbd30d620f030d3", func := "acheron/acheronlaw27.StreamCloses", spec := "streamCloses", unfollowed := true, recurses := true, plainKeys := false, apart := false }
def StreamClosesSaid : Prop := streamClosesRow.holds Try.pinned (OpenSpec.ofChange streamClosesSpec)

/-- ITS FALSE NEIGHBOUR: 'it returns false'. Refute it at one input. -/
def streamClosesWrong : ChangeSpec := { name := "streamCloses", fn := fun _ => fun
  | [d1, d2, d3] => { results := [.lit (.bool false)], args := [d1, d2, d3] }
  | _ => none }
def StreamClosesWrongFalsely : Prop := streamClosesRow.holds Try.pinned (OpenSpec.ofChange streamClosesWrong)

/-- 'acheronlaw27.StreamOrders': WHATEVER THE INPUT: true; the input reads as it did. -/
def streamOrdersSpec : ChangeSpec := { name := "streamOrders", fn := fun _ => fun
  | [d1, d2] => { results := [.lit (.bool true)], args := [d1, d2] }
  | _ => none }
def streamOrdersRow : OpenClaim := { program := "ytmnlojbfdpjjdaa", sum := "6757f213beb1f649bbae8d5c32f0f618e2d59baf388daad17dbd30d620f030d3", func := "acheron/acheronlaw27.StreamOrders", spec := "streamOrders", inPlace := ["internal/abi.NoEscape", "internal/bytealg.MakeNoZero"], unfollowed := true, recurses := true, plainKeys := false, apart := false }
def StreamOrdersSaid : Prop := streamOrdersRow.holds Try.pinned (OpenSpec.ofChange streamOrdersSpec)

/-- ITS FALSE NEIGHBOUR: 'it returns false'. Refute it at one input. -/
def streamOrdersWrong : ChangeSpec := { name := "streamOrders", fn := fun _ => fun
  | [d1, d2] => { results := [.lit (.bool false)], args := [d1, d2] }
  | _ => none }
def StreamOrdersWrongFalsely : Prop := streamOrdersRow.holds Try.pinned (OpenSpec.ofChange streamOrdersWrong)

/-- 'acheronlaw27.StreamPlays': WHATEVER THE INPUT: true; the input reads as it did. -/
def streamPlaysSpec : ChangeSpec := { name := "streamPlays", fn := fun _ => fun
  | [d1, d2] => { results := [.lit (.bool true)], args := [d1, d2] }
  | _ => none }
def streamPlaysRow : OpenClaim := { program := "ytmnlojbfdpjjdaa", sum := "6757f213beb1f649bbae8d5c32f0f618e2d59baf388daad17dbd30d620f030d3", func := "acheron/acheronlaw27.StreamPlays", spec := "streamPlays", unfollowed := true, recurses := true, plainKeys := false, apart := false }
def StreamPlaysSaid : Prop := streamPlaysRow.holds Try.pinned (OpenSpec.ofChange streamPlaysSpec)

/-- ITS FALSE NEIGHBOUR: 'it returns false'. Refute it at one input. -/
def streamPlaysWrong : ChangeSpec := { name := "streamPlays", fn := fun _ => fun
  | [d1, d2] => { results := [.lit (.bool false)], args := [d1, d2] }
  | _ => none }
def StreamPlaysWrongFalsely : Prop := streamPlaysRow.holds Try.pinned (OpenSpec.ofChange streamPlaysWrong)

/-- 'acheronlaw27.StreamServes': WHATEVER THE INPUT: true; the input reads as it did. -/
def streamServesSpec : ChangeSpec := { name := "streamServes", fn := fun _ => fun
  | [d1, d2] => { results := [.lit (.bool true)], args := [d1, d2] }
  | _ => none }
def streamServesRow : OpenClaim := { program := "ytmnlojbfdpjjdaa", sum := "6757f213beb1f649bbae8d5c32f0f618e2d59baf388daad17dbd30d620f030d3", func := "acheron/acheronlaw27.StreamServes", spec := "streamServes", unfollowed := true, recurses := true, plainKeys := false, apart := false }
def StreamServesSaid : Prop := streamServesRow.holds Try.pinned (OpenSpec.ofChange streamServesSpec)

/-- ITS FALSE NEIGHBOUR: 'it returns false'. Refute it at one input. -/
def streamServesWrong : ChangeSpec := { name := "streamServes", fn := fun _ => fun
  | [d1, d2] => { results := [.lit (.bool false)], args := [d1, d2] }
  | _ => none }
def StreamServesWrongFalsely : Prop := streamServesRow.holds Try.pinned (OpenSpec.ofChange streamServesWrong)

/-- 'acheronlaw27.StreamNil': WHATEVER THE INPUT: true; the input reads as it did. -/
def streamNilSpec : ChangeSpec := { name := "streamNil", fn := fun _ => fun
  | [d] => { results := [.lit (.bool true)], args := [d] }
  | _ => none }
def streamNilRow : OpenClaim := { program := "ytmnlojbfdpjjdaa", sum := "6757f213beb1f649bbae8d5c32f0f618e2d59baf388daad17dbd30d620f030d3", func := "acheron/acheronlaw27.StreamNil", spec := "streamNil", unfollowed := true, recurses := true, plainKeys := false, apart := false }
def StreamNilSaid : Prop := streamNilRow.holds Try.pinned (OpenSpec.ofChange streamNilSpec)

/-- ITS FALSE NEIGHBOUR: 'it returns false'. Refute it at one input. -/
def streamNilWrong : ChangeSpec := { name := "streamNil", fn := fun _ => fun
  | [d] => { results := [.lit (.bool false)], args := [d] }
  | _ => none }
def StreamNilWrongFalsely : Prop := streamNilRow.holds Try.pinned (OpenSpec.ofChange streamNilWrong)

/-- 'acheronlaw27.StreamBounds': WHATEVER THE INPUT: true; the input reads as it did. -/
def streamBoundsSpec : ChangeSpec := { name := "streamBounds", fn := fun _ => fun
  | [d1, d2] => { results := [.lit (.bool true)], args := [d1, d2] }
  | _ => none }
def streamBoundsRow : OpenClaim := { program := "ytmnlojbfdpjjdaa", sum := "6757f213beb1f649bbae8d5c32f0f618e2d59baf388daad17dbd30d620f030d3", func := "acheron/acheronlaw27.StreamBounds", spec := "streamBounds", inPlace := ["internal/abi.NoEscape", "internal/bytealg.MakeNoZero"], unfollowed := true, recurses := true, plainKeys := false, apart := false }
def StreamBoundsSaid : Prop := streamBoundsRow.holds Try.pinned (OpenSpec.ofChange streamBoundsSpec)

/-- ITS FALSE NEIGHBOUR: 'it returns false'. Refute it at one input. -/
def streamBoundsWrong : ChangeSpec := { name := "streamBounds", fn := fun _ => fun
  | [d1, d2] => { results := [.lit (.bool false)], args := [d1, d2] }
  | _ => none }
def StreamBoundsWrongFalsely : Prop := streamBoundsRow.holds Try.pinned (OpenSpec.ofChange streamBoundsWrong)

/- THE SECOND FORM. 'bulk': how many values and letters a reading holds, each counted each time it is reached (what is shared counts as often as it is met; a slice's spare places count too). A statement '..UptoSaid' is the law's where the arguments, and the package variables that the reading takes, are together of bulk at most 1048576: NARROWER than '..Said'. Prove '..Said' where nothing that the law and all that it calls make is longer than what came in: it says more and counts as full. Else prove '..UptoSaid'. A law counts once. -/
mutual
def uptoBulk {H : Type} : DataW H → Nat
  | .lit (.string bytes) => bytes.length + 1
  | .lit _ => 1
  | .nil => 1
  | .ptr d => uptoBulk d + 1
  | .slice elems spare => uptoBulkAll elems + uptoBulkAll spare + 1
  | .agg parts => uptoBulkAll parts + 1
  | .iface _ d => uptoBulk d + 1
  | .map entries => uptoBulkEntries entries + 1
  | .held _ => 1
def uptoBulkAll {H : Type} : List (DataW H) → Nat
  | [] => 0
  | d :: r => uptoBulk d + uptoBulkAll r
def uptoBulkEntries {H : Type} : List (Lit × DataW H) → Nat
  | [] => 0
  | x :: r => uptoBulkEntry x + uptoBulkEntries r
def uptoBulkEntry {H : Type} : Lit × DataW H → Nat
  | (.string bytes, d) => bytes.length + uptoBulk d + 1
  | (_, d) => uptoBulk d + 1
 end
def uptoSmall : (H : Type) → List (DataW H) → Bool := fun _ ds => decide (uptoBulkAll ds ≤ 1048576)
def OpenSpec.upto (s : _root_.Go.ChangeSpec) : _root_.Go.OpenSpec := { _root_.Go.OpenSpec.ofChange s with cond := some uptoSmall }

/-- 'acheronlaw27.StreamCloses', WHERE WHAT IT READS IS OF BULK AT MOST 1048576: true; the input reads as it did. -/
def streamClosesUptoRow : OpenClaim := { program := "ytmnlojbfdpjjdaa", sum := "6757f213beb1f649bbae8d5c32f0f618e2d59baf388daad17dbd30d620f030d3", func := "acheron/acheronlaw27.StreamCloses", spec := "streamCloses", unfollowed := true, recurses := true, plainKeys := false, apart := false, narrowed := true }
def StreamClosesUptoSaid : Prop := streamClosesUptoRow.holds Try.pinned (OpenSpec.upto streamClosesSpec)

/-- 'acheronlaw27.StreamOrders', WHERE WHAT IT READS IS OF BULK AT MOST 1048576: true; the input reads as it did. -/
def streamOrdersUptoRow : OpenClaim := { program := "ytmnlojbfdpjjdaa", sum := "6757f213beb1f649bbae8d5c32f0f618e2d59baf388daad17dbd30d620f030d3", func := "acheron/acheronlaw27.StreamOrders", spec := "streamOrders", inPlace := ["internal/abi.NoEscape", "internal/bytealg.MakeNoZero"], unfollowed := true, recurses := true, plainKeys := false, apart := false, narrowed := true }
def StreamOrdersUptoSaid : Prop := streamOrdersUptoRow.holds Try.pinned (OpenSpec.upto streamOrdersSpec)

/-- 'acheronlaw27.StreamPlays', WHERE WHAT IT READS IS OF BULK AT MOST 1048576: true; the input reads as it did. -/
def streamPlaysUptoRow : OpenClaim := { program := "ytmnlojbfdpjjdaa", sum := "6757f213beb1f649bbae8d5c32f0f618e2d59baf388daad17dbd30d620f030d3", func := "acheron/acheronlaw27.StreamPlays", spec := "streamPlays", unfollowed := true, recurses := true, plainKeys := false, apart := false, narrowed := true }
def StreamPlaysUptoSaid : Prop := streamPlaysUptoRow.holds Try.pinned (OpenSpec.upto streamPlaysSpec)

/-- 'acheronlaw27.StreamServes', WHERE WHAT IT READS IS OF BULK AT MOST 1048576: true; the input reads as it did. -/
def streamServesUptoRow : OpenClaim := { program := "ytmnlojbfdpjjdaa", sum := "6757f213beb1f649bbae8d5c32f0f618e2d59baf388daad17dbd30d620f030d3", func := "acheron/acheronlaw27.StreamServes", spec := "streamServes", unfollowed := true, recurses := true, plainKeys := false, apart := false, narrowed := true }
def StreamServesUptoSaid : Prop := streamServesUptoRow.holds Try.pinned (OpenSpec.upto streamServesSpec)

/-- 'acheronlaw27.StreamNil', WHERE WHAT IT READS IS OF BULK AT MOST 1048576: true; the input reads as it did. -/
def streamNilUptoRow : OpenClaim := { program := "ytmnlojbfdpjjdaa", sum := "6757f213beb1f649bbae8d5c32f0f618e2d59baf388daad17dbd30d620f030d3", func := "acheron/acheronlaw27.StreamNil", spec := "streamNil", unfollowed := true, recurses := true, plainKeys := false, apart := false, narrowed := true }
def StreamNilUptoSaid : Prop := streamNilUptoRow.holds Try.pinned (OpenSpec.upto streamNilSpec)

/-- 'acheronlaw27.StreamBounds', WHERE WHAT IT READS IS OF BULK AT MOST 1048576: true; the input reads as it did. -/
def streamBoundsUptoRow : OpenClaim := { program := "ytmnlojbfdpjjdaa", sum := "6757f213beb1f649bbae8d5c32f0f618e2d59baf388daad17dbd30d620f030d3", func := "acheron/acheronlaw27.StreamBounds", spec := "streamBounds", inPlace := ["internal/abi.NoEscape", "internal/bytealg.MakeNoZero"], unfollowed := true, recurses := true, plainKeys := false, apart := false, narrowed := true }
def StreamBoundsUptoSaid : Prop := streamBoundsUptoRow.holds Try.pinned (OpenSpec.upto streamBoundsSpec)

end Rows
end Go.Proofs.Ytmnlojbfdpjjdaa
