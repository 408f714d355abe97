/-
  No cell of these rows narrows 'for every input' (looked for: loops, veiled, ifaces, maps, wideKeys, modest, calm, conditions, laid).
  DERIVED. THE GIVEN ROWS OF THIS SEAT. 9 by the template 'for every input the law returns true; each argument reads behind the call as it read before'; 0 by the template 'total and deterministic' (their statements: YtacenhlcfeepgaaGreatTotals.lean).
  GIVEN WITH THE SEED: the statements are not yours to turn. If you find one false, say at which input.
  Laid BY PROGRAM, IN A SANDBOX (cutbox-rows.mjs): the forced cells as the released guide's own fill.sh prints them over the translation 3564f0e7763f0e08… (all of the seat's roots in one cut). By AI agents, Wed Nov 11 2026. No macro, syntax, notation, axiom, sorry.
-/
import Derived.Test.YtacenhlcfeepgaaGreatChecked
import GoSem.Claim
import GoSem.ClaimJoined
import GoSem.ClaimMapViews
import Derived.JoinedTies
import Derived.KernelRfl
namespace Go.Proofs.YtacenhlcfeepgaaGreat
/- THE CELL 'sum', in the pinned program and in every row, IS THE sha256 OF THE DUMP (.gsa) THAT YtacenhlcfeepgaaGreatProg.lean LOADS. Nothing in Lean hashes anything: it is a label: what it is worth is what the hold of that sum in a sandbox is worth. -/
noncomputable def Tryz.pinned : Pinned := { name := "ytacenhlcfeepgaagreat", sum := "3564f0e7763f0e08f3d5c6b2c3322ef7c3938660bac9b5ba5ca54222f09fb6fb", checked := Tryz.checked }
namespace Rows
def none {H : Type} : Left H := { results := [], args := [] }

/-- 'quadratrixlaw03.QpolySums': WHATEVER THE INPUT: true; the input reads as it did. -/
def qpolySumsSpec : ChangeSpec := { name := "qpolySums", fn := fun _ => fun
  | [d1, d2, d3, d4] => { results := [.lit (.bool true)], args := [d1, d2, d3, d4] }
  | _ => none }
def qpolySumsRow : OpenClaim := { program := "ytacenhlcfeepgaagreat", sum := "3564f0e7763f0e08f3d5c6b2c3322ef7c3938660bac9b5ba5ca54222f09fb6fb", func := "quadratrix/quadratrixlaw03.QpolySums", spec := "qpolySums", inPlace := ["math/bits.Sub64"], unfollowed := true, recurses := true, apart := false }
def QpolySumsSaid : Prop := qpolySumsRow.holds Tryz.pinned (OpenSpec.ofChange qpolySumsSpec)

/-- ITS FALSE NEIGHBOUR: 'it returns false'. Refute it at one input. -/
def qpolySumsWrong : ChangeSpec := { name := "qpolySums", fn := fun _ => fun
  | [d1, d2, d3, d4] => { results := [.lit (.bool false)], args := [d1, d2, d3, d4] }
  | _ => none }
def QpolySumsWrongFalsely : Prop := qpolySumsRow.holds Tryz.pinned (OpenSpec.ofChange qpolySumsWrong)

/-- 'quadratrixlaw03.QpolyDivides': WHATEVER THE INPUT: true; the input reads as it did. -/
def qpolyDividesSpec : ChangeSpec := { name := "qpolyDivides", fn := fun _ => fun
  | [d1, d2] => { results := [.lit (.bool true)], args := [d1, d2] }
  | _ => none }
def qpolyDividesRow : OpenClaim := { program := "ytacenhlcfeepgaagreat", sum := "3564f0e7763f0e08f3d5c6b2c3322ef7c3938660bac9b5ba5ca54222f09fb6fb", func := "quadratrix/quadratrixlaw03.QpolyDivides", spec := "qpolyDivides", inPlace := ["math/bits.Sub64"], unfollowed := true, recurses := true, apart := false }
def QpolyDividesSaid : Prop := qpolyDividesRow.holds Tryz.pinned (OpenSpec.ofChange qpolyDividesSpec)

/-- ITS FALSE NEIGHBOUR: 'it returns false'. Refute it at one input. -/
def qpolyDividesWrong : ChangeSpec := { name := "qpolyDivides", fn := fun _ => fun
  | [d1, d2] => { results := [.lit (.bool false)], args := [d1, d2] }
  | _ => none }
def QpolyDividesWrongFalsely : Prop := qpolyDividesRow.holds Tryz.pinned (OpenSpec.ofChange qpolyDividesWrong)

/-- 'quadratrixlaw03.QpolyCalculus': WHATEVER THE INPUT: true; the input reads as it did. -/
def qpolyCalculusSpec : ChangeSpec := { name := "qpolyCalculus", fn := fun _ => fun
  | [d1, d2, d3, d4] => { results := [.lit (.bool true)], args := [d1, d2, d3, d4] }
  | _ => none }
def qpolyCalculusRow : OpenClaim := { program := "ytacenhlcfeepgaagreat", sum := "3564f0e7763f0e08f3d5c6b2c3322ef7c3938660bac9b5ba5ca54222f09fb6fb", func := "quadratrix/quadratrixlaw03.QpolyCalculus", spec := "qpolyCalculus", inPlace := ["math/bits.Sub64"], unfollowed := true, recurses := true, apart := false }
def QpolyCalculusSaid : Prop := qpolyCalculusRow.holds Tryz.pinned (OpenSpec.ofChange qpolyCalculusSpec)

/-- ITS FALSE NEIGHBOUR: 'it returns false'. Refute it at one input. -/
def qpolyCalculusWrong : ChangeSpec := { name := "qpolyCalculus", fn := fun _ => fun
  | [d1, d2, d3, d4] => { results := [.lit (.bool false)], args := [d1, d2, d3, d4] }
  | _ => none }
def QpolyCalculusWrongFalsely : Prop := qpolyCalculusRow.holds Tryz.pinned (OpenSpec.ofChange qpolyCalculusWrong)

/-- 'quadratrixlaw03.QpolyResultant': WHATEVER THE INPUT: true; the input reads as it did. -/
def qpolyResultantSpec : ChangeSpec := { name := "qpolyResultant", fn := fun _ => fun
  | [d1, d2, d3] => { results := [.lit (.bool true)], args := [d1, d2, d3] }
  | _ => none }
def qpolyResultantRow : OpenClaim := { program := "ytacenhlcfeepgaagreat", sum := "3564f0e7763f0e08f3d5c6b2c3322ef7c3938660bac9b5ba5ca54222f09fb6fb", func := "quadratrix/quadratrixlaw03.QpolyResultant", spec := "qpolyResultant", inPlace := ["math/bits.Sub64"], unfollowed := true, recurses := true, apart := false }
def QpolyResultantSaid : Prop := qpolyResultantRow.holds Tryz.pinned (OpenSpec.ofChange qpolyResultantSpec)

/-- ITS FALSE NEIGHBOUR: 'it returns false'. Refute it at one input. -/
def qpolyResultantWrong : ChangeSpec := { name := "qpolyResultant", fn := fun _ => fun
  | [d1, d2, d3] => { results := [.lit (.bool false)], args := [d1, d2, d3] }
  | _ => none }
def QpolyResultantWrongFalsely : Prop := qpolyResultantRow.holds Tryz.pinned (OpenSpec.ofChange qpolyResultantWrong)

/-- 'quadratrixlaw03.QpolySquarefree': WHATEVER THE INPUT: true; the input reads as it did. -/
def qpolySquarefreeSpec : ChangeSpec := { name := "qpolySquarefree", fn := fun _ => fun
  | [d] => { results := [.lit (.bool true)], args := [d] }
  | _ => none }
def qpolySquarefreeRow : OpenClaim := { program := "ytacenhlcfeepgaagreat", sum := "3564f0e7763f0e08f3d5c6b2c3322ef7c3938660bac9b5ba5ca54222f09fb6fb", func := "quadratrix/quadratrixlaw03.QpolySquarefree", spec := "qpolySquarefree", inPlace := ["math/bits.Sub64"], unfollowed := true, recurses := true, apart := false }
def QpolySquarefreeSaid : Prop := qpolySquarefreeRow.holds Tryz.pinned (OpenSpec.ofChange qpolySquarefreeSpec)

/-- ITS FALSE NEIGHBOUR: 'it returns false'. Refute it at one input. -/
def qpolySquarefreeWrong : ChangeSpec := { name := "qpolySquarefree", fn := fun _ => fun
  | [d] => { results := [.lit (.bool false)], args := [d] }
  | _ => none }
def QpolySquarefreeWrongFalsely : Prop := qpolySquarefreeRow.holds Tryz.pinned (OpenSpec.ofChange qpolySquarefreeWrong)

/-- 'quadratrixlaw03.QpolyPrimitive': WHATEVER THE INPUT: true; the input reads as it did. -/
def qpolyPrimitiveSpec : ChangeSpec := { name := "qpolyPrimitive", fn := fun _ => fun
  | [d] => { results := [.lit (.bool true)], args := [d] }
  | _ => none }
def qpolyPrimitiveRow : OpenClaim := { program := "ytacenhlcfeepgaagreat", sum := "3564f0e7763f0e08f3d5c6b2c3322ef7c3938660bac9b5ba5ca54222f09fb6fb", func := "quadratrix/quadratrixlaw03.QpolyPrimitive", spec := "qpolyPrimitive", inPlace := ["math/bits.Sub64"], unfollowed := true, recurses := true, apart := false }
def QpolyPrimitiveSaid : Prop := qpolyPrimitiveRow.holds Tryz.pinned (OpenSpec.ofChange qpolyPrimitiveSpec)

/-- ITS FALSE NEIGHBOUR: 'it returns false'. Refute it at one input. -/
def qpolyPrimitiveWrong : ChangeSpec := { name := "qpolyPrimitive", fn := fun _ => fun
  | [d] => { results := [.lit (.bool false)], args := [d] }
  | _ => none }
def QpolyPrimitiveWrongFalsely : Prop := qpolyPrimitiveRow.holds Tryz.pinned (OpenSpec.ofChange qpolyPrimitiveWrong)

/-- 'quadratrixlaw03.QpolyRoots': WHATEVER THE INPUT: true; the input reads as it did. -/
def qpolyRootsSpec : ChangeSpec := { name := "qpolyRoots", fn := fun _ => fun
  | [d1, d2] => { results := [.lit (.bool true)], args := [d1, d2] }
  | _ => none }
def qpolyRootsRow : OpenClaim := { program := "ytacenhlcfeepgaagreat", sum := "3564f0e7763f0e08f3d5c6b2c3322ef7c3938660bac9b5ba5ca54222f09fb6fb", func := "quadratrix/quadratrixlaw03.QpolyRoots", spec := "qpolyRoots", inPlace := ["math/bits.Sub64"], unfollowed := true, recurses := true, apart := false }
def QpolyRootsSaid : Prop := qpolyRootsRow.holds Tryz.pinned (OpenSpec.ofChange qpolyRootsSpec)

/-- ITS FALSE NEIGHBOUR: 'it returns false'. Refute it at one input. -/
def qpolyRootsWrong : ChangeSpec := { name := "qpolyRoots", fn := fun _ => fun
  | [d1, d2] => { results := [.lit (.bool false)], args := [d1, d2] }
  | _ => none }
def QpolyRootsWrongFalsely : Prop := qpolyRootsRow.holds Tryz.pinned (OpenSpec.ofChange qpolyRootsWrong)

/-- 'quadratrixlaw03.QpolyRing': WHATEVER THE INPUT: true; the input reads as it did. -/
def qpolyRingSpec : ChangeSpec := { name := "qpolyRing", fn := fun _ => fun
  | [d1, d2, d3, d4] => { results := [.lit (.bool true)], args := [d1, d2, d3, d4] }
  | _ => none }
def qpolyRingRow : OpenClaim := { program := "ytacenhlcfeepgaagreat", sum := "3564f0e7763f0e08f3d5c6b2c3322ef7c3938660bac9b5ba5ca54222f09fb6fb", func := "quadratrix/quadratrixlaw03.QpolyRing", spec := "qpolyRing", inPlace := ["math/bits.Sub64"], unfollowed := true, recurses := true, apart := false }
def QpolyRingSaid : Prop := qpolyRingRow.holds Tryz.pinned (OpenSpec.ofChange qpolyRingSpec)

/-- ITS FALSE NEIGHBOUR: 'it returns false'. Refute it at one input. -/
def qpolyRingWrong : ChangeSpec := { name := "qpolyRing", fn := fun _ => fun
  | [d1, d2, d3, d4] => { results := [.lit (.bool false)], args := [d1, d2, d3, d4] }
  | _ => none }
def QpolyRingWrongFalsely : Prop := qpolyRingRow.holds Tryz.pinned (OpenSpec.ofChange qpolyRingWrong)

/-- 'quadratrixlaw03.QpolyStays': WHATEVER THE INPUT: true; the input reads as it did. -/
def qpolyStaysSpec : ChangeSpec := { name := "qpolyStays", fn := fun _ => fun
  | [d1, d2, d3, d4] => { results := [.lit (.bool true)], args := [d1, d2, d3, d4] }
  | _ => none }
def qpolyStaysRow : OpenClaim := { program := "ytacenhlcfeepgaagreat", sum := "3564f0e7763f0e08f3d5c6b2c3322ef7c3938660bac9b5ba5ca54222f09fb6fb", func := "quadratrix/quadratrixlaw03.QpolyStays", spec := "qpolyStays", inPlace := ["math/bits.Sub64"], unfollowed := true, recurses := true, apart := false }
def QpolyStaysSaid : Prop := qpolyStaysRow.holds Tryz.pinned (OpenSpec.ofChange qpolyStaysSpec)

/-- ITS FALSE NEIGHBOUR: 'it returns false'. Refute it at one input. -/
def qpolyStaysWrong : ChangeSpec := { name := "qpolyStays", fn := fun _ => fun
  | [d1, d2, d3, d4] => { results := [.lit (.bool false)], args := [d1, d2, d3, d4] }
  | _ => none }
def QpolyStaysWrongFalsely : Prop := qpolyStaysRow.holds Tryz.pinned (OpenSpec.ofChange qpolyStaysWrong)

/- THE SECOND FORM. 'bulk': how many values and letters a reading holds, each counted each time it is reached (what is shared counts as often as it is met; a slice's spare places count too). A statement '..UptoSaid' is the law's where the arguments, and the package variables that the reading takes, are together of bulk at most 1048576: NARROWER than '..Said'. Prove '..Said' where nothing that the law and all that it calls make is longer than what came in: it says more and counts as full. Else prove '..UptoSaid'. A law counts once. -/
mutual
def uptoBulk {H : Type} : DataW H → Nat
  | .lit (.string bytes) => bytes.length + 1
  | .lit _ => 1
  | .nil => 1
  | .ptr d => uptoBulk d + 1
  | .slice elems spare => uptoBulkAll elems + uptoBulkAll spare + 1
  | .agg parts => uptoBulkAll parts + 1
  | .iface _ d => uptoBulk d + 1
  | .map entries => uptoBulkEntries entries + 1
  | .held _ => 1
def uptoBulkAll {H : Type} : List (DataW H) → Nat
  | [] => 0
  | d :: r => uptoBulk d + uptoBulkAll r
def uptoBulkEntries {H : Type} : List (Lit × DataW H) → Nat
  | [] => 0
  | x :: r => uptoBulkEntry x + uptoBulkEntries r
def uptoBulkEntry {H : Type} : Lit × DataW H → Nat
  | (.string bytes, d) => bytes.length + uptoBulk d + 1
  | (_, d) => uptoBulk d + 1
 end
def uptoSmall : (H : Type) → List (DataW H) → Bool := fun _ ds => decide (uptoBulkAll ds ≤ 1048576)
def OpenSpec.upto (s : _root_.Go.ChangeSpec) : _root_.Go.OpenSpec := { _root_.Go.OpenSpec.ofChange s with cond := some uptoSmall }

/-- 'quadratrixlaw03.QpolySums', WHERE WHAT IT READS IS OF BULK AT MOST 1048576: true; the input reads as it did. -/
def qpolySumsUptoRow : OpenClaim := { program := "ytacenhlcfeepgaagreat", sum := "3564f0e7763f0e08f3d5c6b2c3322ef7c3938660bac9b5ba5ca54222f09fb6fb", func := "quadratrix/quadratrixlaw03.QpolySums", spec := "qpolySums", inPlace := ["math/bits.Sub64"], unfollowed := true, recurses := true, apart := false, narrowed := true }
def QpolySumsUptoSaid : Prop := qpolySumsUptoRow.holds Tryz.pinned (OpenSpec.upto qpolySumsSpec)

/-- 'quadratrixlaw03.QpolyDivides', WHERE WHAT IT READS IS OF BULK AT MOST 1048576: true; the input reads as it did. -/
def qpolyDividesUptoRow : OpenClaim := { program := "ytacenhlcfeepgaagreat", sum := "3564f0e7763f0e08f3d5c6b2c3322ef7c3938660bac9b5ba5ca54222f09fb6fb", func := "quadratrix/quadratrixlaw03.QpolyDivides", spec := "qpolyDivides", inPlace := ["math/bits.Sub64"], unfollowed := true, recurses := true, apart := false, narrowed := true }
def QpolyDividesUptoSaid : Prop := qpolyDividesUptoRow.holds Tryz.pinned (OpenSpec.upto qpolyDividesSpec)

/-- 'quadratrixlaw03.QpolyCalculus', WHERE WHAT IT READS IS OF BULK AT MOST 1048576: true; the input reads as it did. -/
def qpolyCalculusUptoRow : OpenClaim := { program := "ytacenhlcfeepgaagreat", sum := "3564f0e7763f0e08f3d5c6b2c3322ef7c3938660bac9b5ba5ca54222f09fb6fb", func := "quadratrix/quadratrixlaw03.QpolyCalculus", spec := "qpolyCalculus", inPlace := ["math/bits.Sub64"], unfollowed := true, recurses := true, apart := false, narrowed := true }
def QpolyCalculusUptoSaid : Prop := qpolyCalculusUptoRow.holds Tryz.pinned (OpenSpec.upto qpolyCalculusSpec)

/-- 'quadratrixlaw03.QpolyResultant', WHERE WHAT IT READS IS OF BULK AT MOST 1048576: true; the input reads as it did. -/
def qpolyResultantUptoRow : OpenClaim := { program := "ytacenhlcfeepgaagreat", sum := "3564f0e7763f0e08f3d5c6b2c3322ef7c3938660bac9b5ba5ca54222f09fb6fb", func := "quadratrix/quadratrixlaw03.QpolyResultant", spec := "qpolyResultant", inPlace := ["math/bits.Sub64"], unfollowed := true, recurses := true, apart := false, narrowed := true }
def QpolyResultantUptoSaid : Prop := qpolyResultantUptoRow.holds Tryz.pinned (OpenSpec.upto qpolyResultantSpec)

/-- 'quadratrixlaw03.QpolySquarefree', WHERE WHAT IT READS IS OF BULK AT MOST 1048576: true; the input reads as it did. -/
def qpolySquarefreeUptoRow : OpenClaim := { program := "ytacenhlcfeepgaagreat", sum := "3564f0e7763f0e08f3d5c6b2c3322ef7c3938660bac9b5ba5ca54222f09fb6fb", func := "quadratrix/quadratrixlaw03.QpolySquarefree", spec := "qpolySquarefree", inPlace := ["math/bits.Sub64"], unfollowed := true, recurses := true, apart := false, narrowed := true }
def QpolySquarefreeUptoSaid : Prop := qpolySquarefreeUptoRow.holds Tryz.pinned (OpenSpec.upto qpolySquarefreeSpec)

/-- 'quadratrixlaw03.QpolyPrimitive', WHERE WHAT IT READS IS OF BULK AT MOST 1048576: true; the input reads as it did. -/
def qpolyPrimitiveUptoRow : OpenClaim := { program := "ytacenhlcfeepgaagreat", sum := "3564f0e7763f0e08f3d5c6b2c3322ef7c3938660bac9b5ba5ca54222f09fb6fb", func := "quadratrix/quadratrixlaw03.QpolyPrimitive", spec := "qpolyPrimitive", inPlace := ["math/bits.Sub64"], unfollowed := true, recurses := true, apart := false, narrowed := true }
def QpolyPrimitiveUptoSaid : Prop := qpolyPrimitiveUptoRow.holds Tryz.pinned (OpenSpec.upto qpolyPrimitiveSpec)

/-- 'quadratrixlaw03.QpolyRoots', WHERE WHAT IT READS IS OF BULK AT MOST 1048576: true; the input reads as it did. -/
def qpolyRootsUptoRow : OpenClaim := { program := "ytacenhlcfeepgaagreat", sum := "3564f0e7763f0e08f3d5c6b2c3322ef7c3938660bac9b5ba5ca54222f09fb6fb", func := "quadratrix/quadratrixlaw03.QpolyRoots", spec := "qpolyRoots", inPlace := ["math/bits.Sub64"], unfollowed := true, recurses := true, apart := false, narrowed := true }
def QpolyRootsUptoSaid : Prop := qpolyRootsUptoRow.holds Tryz.pinned (OpenSpec.upto qpolyRootsSpec)

/-- 'quadratrixlaw03.QpolyRing', WHERE WHAT IT READS IS OF BULK AT MOST 1048576: true; the input reads as it did. -/
def qpolyRingUptoRow : OpenClaim := { program := "ytacenhlcfeepgaagreat", sum := "3564f0e7763f0e08f3d5c6b2c3322ef7c3938660bac9b5ba5ca54222f09fb6fb", func := "quadratrix/quadratrixlaw03.QpolyRing", spec := "qpolyRing", inPlace := ["math/bits.Sub64"], unfollowed := true, recurses := true, apart := false, narrowed := true }
def QpolyRingUptoSaid : Prop := qpolyRingUptoRow.holds Tryz.pinned (OpenSpec.upto qpolyRingSpec)

/-- 'quadratrixlaw03.QpolyStays', WHERE WHAT IT READS IS OF BULK AT MOST 1048576: true; the input reads as it did. -/
def qpolyStaysUptoRow : OpenClaim := { program := "ytacenhlcfeepgaagreat", sum := "3564f0e7763f0e08f3d5c6b2c3322ef7c3938660bac9b5ba5ca54222f09fb6fb", func := "quadratrix/quadratrixlaw03.QpolyStays", spec := "qpolyStays", inPlace := ["math/bits.Sub64"], unfollowed := true, recurses := true, apart := false, narrowed := true }
def QpolyStaysUptoSaid : Prop := qpolyStaysUptoRow.holds Tryz.pinned (OpenSpec.upto qpolyStaysSpec)

end Rows
end Go.Proofs.YtacenhlcfeepgaaGreat
