/-
  No cell of these rows narrows 'for every input' (looked for: loops, veiled, ifaces, maps, wideKeys, modest, calm, conditions, laid).
  DERIVED. THE GIVEN ROWS OF THIS SEAT. 6 by the template 'for every input the law returns true; each argument reads behind the call as it read before'; 0 by the template 'total and deterministic' (their statements: YteabkedhdgnhgabTotals.lean).
  GIVEN WITH THE SEED: the statements are not yours to turn. If you find one false, say at which input.
  Laid BY PROGRAM, IN A SANDBOX (cutbox-rows.mjs): the forced cells as the released guide's own fill.sh prints them over the translation d0f8bec2b12cb281… (all of the seat's roots in one cut). By AI agents, Wed Nov 11 2026. No macro, syntax, notation, axiom, sorry.
-/
import Derived.Test.YteabkedhdgnhgabChecked
import GoSem.Claim
import GoSem.ClaimJoined
import GoSem.ClaimMapViews
import Derived.JoinedTies
import Derived.KernelRfl
namespace Go.Proofs.Yteabkedhdgnhgab
/- THE CELL 'sum', in the pinned program and in every row, IS THE sha256 OF THE DUMP (.gsa) THAT YteabkedhdgnhgabProg.lean LOADS. Nothing in Lean hashes anything: it is a label: what it is worth is what the hold of that sum in a sandbox is worth. -/
noncomputable def Try.pinned : Pinned := { name := "yteabkedhdgnhgab", sum := "d0f8bec2b12cb281226c34bea6ab7893cebf16e21563e2bed90354b5d48b888e", checked := Try.checked }
namespace Rows
def none {H : Type} : Left H := { results := [], args := [] }

/-- 'windbreaklaw01.NatProducts': WHATEVER THE INPUT: true; the input reads as it did. -/
def natProductsSpec : ChangeSpec := { name := "natProducts", fn := fun _ => fun
  | [d1, d2] => { results := [.lit (.bool true)], args := [d1, d2] }
  | _ => none }
def natProductsRow : OpenClaim := { program := "yteabkedhdgnhgab", sum := "d0f8bec2b12cb281226c34bea6ab7893cebf16e21563e2bed90354b5d48b888e", func := "windbreak/windbreaklaw01.NatProducts", spec := "natProducts", inPlace := ["math/bits.Add64", "math/bits.Sub64"], unfollowed := true, recurses := true, apart := false }
def NatProductsSaid : Prop := natProductsRow.holds Try.pinned (OpenSpec.ofChange natProductsSpec)

/-- ITS FALSE NEIGHBOUR: 'it returns false'. Refute it at one input. -/
def natProductsWrong : ChangeSpec := { name := "natProducts", fn := fun _ => fun
  | [d1, d2] => { results := [.lit (.bool false)], args := [d1, d2] }
  | _ => none }
def NatProductsWrongFalsely : Prop := natProductsRow.holds Try.pinned (OpenSpec.ofChange natProductsWrong)

/-- 'windbreaklaw01.NatSpreads': WHATEVER THE INPUT: true; the input reads as it did. -/
def natSpreadsSpec : ChangeSpec := { name := "natSpreads", fn := fun _ => fun
  | [d1, d2, d3] => { results := [.lit (.bool true)], args := [d1, d2, d3] }
  | _ => none }
def natSpreadsRow : OpenClaim := { program := "yteabkedhdgnhgab", sum := "d0f8bec2b12cb281226c34bea6ab7893cebf16e21563e2bed90354b5d48b888e", func := "windbreak/windbreaklaw01.NatSpreads", spec := "natSpreads", inPlace := ["math/bits.Add64", "math/bits.Sub64"], unfollowed := true, recurses := true, apart := false }
def NatSpreadsSaid : Prop := natSpreadsRow.holds Try.pinned (OpenSpec.ofChange natSpreadsSpec)

/-- ITS FALSE NEIGHBOUR: 'it returns false'. Refute it at one input. -/
def natSpreadsWrong : ChangeSpec := { name := "natSpreads", fn := fun _ => fun
  | [d1, d2, d3] => { results := [.lit (.bool false)], args := [d1, d2, d3] }
  | _ => none }
def NatSpreadsWrongFalsely : Prop := natSpreadsRow.holds Try.pinned (OpenSpec.ofChange natSpreadsWrong)

/-- 'windbreaklaw01.NatRead': WHATEVER THE INPUT: true; the input reads as it did. -/
def natReadSpec : ChangeSpec := { name := "natRead", fn := fun _ => fun
  | [d] => { results := [.lit (.bool true)], args := [d] }
  | _ => none }
def natReadRow : OpenClaim := { program := "yteabkedhdgnhgab", sum := "d0f8bec2b12cb281226c34bea6ab7893cebf16e21563e2bed90354b5d48b888e", func := "windbreak/windbreaklaw01.NatRead", spec := "natRead", inPlace := ["math/bits.Add64"], unfollowed := true, recurses := true, named := ["math/bits.divideError", "math/bits.overflowError"], apart := false }
def NatReadSaid : Prop := natReadRow.holds Try.pinned (OpenSpec.ofChange natReadSpec)

/-- ITS FALSE NEIGHBOUR: 'it returns false'. Refute it at one input. -/
def natReadWrong : ChangeSpec := { name := "natRead", fn := fun _ => fun
  | [d] => { results := [.lit (.bool false)], args := [d] }
  | _ => none }
def NatReadWrongFalsely : Prop := natReadRow.holds Try.pinned (OpenSpec.ofChange natReadWrong)

/-- 'windbreaklaw01.NatQuotients': WHATEVER THE INPUT: true; the input reads as it did. -/
def natQuotientsSpec : ChangeSpec := { name := "natQuotients", fn := fun _ => fun
  | [d1, d2] => { results := [.lit (.bool true)], args := [d1, d2] }
  | _ => none }
def natQuotientsRow : OpenClaim := { program := "yteabkedhdgnhgab", sum := "d0f8bec2b12cb281226c34bea6ab7893cebf16e21563e2bed90354b5d48b888e", func := "windbreak/windbreaklaw01.NatQuotients", spec := "natQuotients", inPlace := ["math/bits.Add64", "math/bits.Sub64"], unfollowed := true, recurses := true, named := ["math/bits.divideError", "math/bits.overflowError"], apart := false }
def NatQuotientsSaid : Prop := natQuotientsRow.holds Try.pinned (OpenSpec.ofChange natQuotientsSpec)

/-- ITS FALSE NEIGHBOUR: 'it returns false'. Refute it at one input. -/
def natQuotientsWrong : ChangeSpec := { name := "natQuotients", fn := fun _ => fun
  | [d1, d2] => { results := [.lit (.bool false)], args := [d1, d2] }
  | _ => none }
def NatQuotientsWrongFalsely : Prop := natQuotientsRow.holds Try.pinned (OpenSpec.ofChange natQuotientsWrong)

/-- 'windbreaklaw01.NatBack': WHATEVER THE INPUT: true; the input reads as it did. -/
def natBackSpec : ChangeSpec := { name := "natBack", fn := fun _ => fun
  | [d1, d2] => { results := [.lit (.bool true)], args := [d1, d2] }
  | _ => none }
def natBackRow : OpenClaim := { program := "yteabkedhdgnhgab", sum := "d0f8bec2b12cb281226c34bea6ab7893cebf16e21563e2bed90354b5d48b888e", func := "windbreak/windbreaklaw01.NatBack", spec := "natBack", inPlace := ["math/bits.Add64", "math/bits.Sub64"], unfollowed := true, recurses := true, named := ["math/bits.divideError", "math/bits.overflowError"], apart := false }
def NatBackSaid : Prop := natBackRow.holds Try.pinned (OpenSpec.ofChange natBackSpec)

/-- ITS FALSE NEIGHBOUR: 'it returns false'. Refute it at one input. -/
def natBackWrong : ChangeSpec := { name := "natBack", fn := fun _ => fun
  | [d1, d2] => { results := [.lit (.bool false)], args := [d1, d2] }
  | _ => none }
def NatBackWrongFalsely : Prop := natBackRow.holds Try.pinned (OpenSpec.ofChange natBackWrong)

/-- 'windbreaklaw01.NatOwn': WHATEVER THE INPUT: true; the input reads as it did. -/
def natOwnSpec : ChangeSpec := { name := "natOwn", fn := fun _ => fun
  | [d1, d2] => { results := [.lit (.bool true)], args := [d1, d2] }
  | _ => none }
def natOwnRow : OpenClaim := { program := "yteabkedhdgnhgab", sum := "d0f8bec2b12cb281226c34bea6ab7893cebf16e21563e2bed90354b5d48b888e", func := "windbreak/windbreaklaw01.NatOwn", spec := "natOwn", inPlace := ["math/bits.Add64", "math/bits.Sub64"], unfollowed := true, recurses := true, named := ["math/bits.divideError", "math/bits.overflowError"], apart := false }
def NatOwnSaid : Prop := natOwnRow.holds Try.pinned (OpenSpec.ofChange natOwnSpec)

/-- ITS FALSE NEIGHBOUR: 'it returns false'. Refute it at one input. -/
def natOwnWrong : ChangeSpec := { name := "natOwn", fn := fun _ => fun
  | [d1, d2] => { results := [.lit (.bool false)], args := [d1, d2] }
  | _ => none }
def NatOwnWrongFalsely : Prop := natOwnRow.holds Try.pinned (OpenSpec.ofChange natOwnWrong)

/- THE SECOND FORM. 'bulk': how many values and letters a reading holds, each counted each time it is reached (what is shared counts as often as it is met; a slice's spare places count too). A statement '..UptoSaid' is the law's where the arguments, and the package variables that the reading takes, are together of bulk at most 1048576: NARROWER than '..Said'. Prove '..Said' where nothing that the law and all that it calls make is longer than what came in: it says more and counts as full. Else prove '..UptoSaid'. A law counts once. -/
mutual
def uptoBulk {H : Type} : DataW H → Nat
  | .lit (.string bytes) => bytes.length + 1
  | .lit _ => 1
  | .nil => 1
  | .ptr d => uptoBulk d + 1
  | .slice elems spare => uptoBulkAll elems + uptoBulkAll spare + 1
  | .agg parts => uptoBulkAll parts + 1
  | .iface _ d => uptoBulk d + 1
  | .map entries => uptoBulkEntries entries + 1
  | .held _ => 1
def uptoBulkAll {H : Type} : List (DataW H) → Nat
  | [] => 0
  | d :: r => uptoBulk d + uptoBulkAll r
def uptoBulkEntries {H : Type} : List (Lit × DataW H) → Nat
  | [] => 0
  | x :: r => uptoBulkEntry x + uptoBulkEntries r
def uptoBulkEntry {H : Type} : Lit × DataW H → Nat
  | (.string bytes, d) => bytes.length + uptoBulk d + 1
  | (_, d) => uptoBulk d + 1
 end
def uptoSmall : (H : Type) → List (DataW H) → Bool := fun _ ds => decide (uptoBulkAll ds ≤ 1048576)
def OpenSpec.upto (s : _root_.Go.ChangeSpec) : _root_.Go.OpenSpec := { _root_.Go.OpenSpec.ofChange s with cond := some uptoSmall }

/-- 'windbreaklaw01.NatProducts', WHERE WHAT IT READS IS OF BULK AT MOST 1048576: true; the input reads as it did. -/
def natProductsUptoRow : OpenClaim := { program := "yteabkedhdgnhgab", sum := "d0f8bec2b12cb281226c34bea6ab7893cebf16e21563e2bed90354b5d48b888e", func := "windbreak/windbreaklaw01.NatProducts", spec := "natProducts", inPlace := ["math/bits.Add64", "math/bits.Sub64"], unfollowed := true, recurses := true, apart := false, narrowed := true }
def NatProductsUptoSaid : Prop := natProductsUptoRow.holds Try.pinned (OpenSpec.upto natProductsSpec)

/-- 'windbreaklaw01.NatSpreads', WHERE WHAT IT READS IS OF BULK AT MOST 1048576: true; the input reads as it did. -/
def natSpreadsUptoRow : OpenClaim := { program := "yteabkedhdgnhgab", sum := "d0f8bec2b12cb281226c34bea6ab7893cebf16e21563e2bed90354b5d48b888e", func := "windbreak/windbreaklaw01.NatSpreads", spec := "natSpreads", inPlace := ["math/bits.Add64", "math/bits.Sub64"], unfollowed := true, recurses := true, apart := false, narrowed := true }
def NatSpreadsUptoSaid : Prop := natSpreadsUptoRow.holds Try.pinned (OpenSpec.upto natSpreadsSpec)

/-- 'windbreaklaw01.NatRead', WHERE WHAT IT READS IS OF BULK AT MOST 1048576: true; the input reads as it did. -/
def natReadUptoRow : OpenClaim := { program := "yteabkedhdgnhgab", sum := "d0f8bec2b12cb281226c34bea6ab7893cebf16e21563e2bed90354b5d48b888e", func := "windbreak/windbreaklaw01.NatRead", spec := "natRead", inPlace := ["math/bits.Add64"], unfollowed := true, recurses := true, named := ["math/bits.divideError", "math/bits.overflowError"], apart := false, narrowed := true }
def NatReadUptoSaid : Prop := natReadUptoRow.holds Try.pinned (OpenSpec.upto natReadSpec)

/-- 'windbreaklaw01.NatQuotients', WHERE WHAT IT READS IS OF BULK AT MOST 1048576: true; the input reads as it did. -/
def natQuotientsUptoRow : OpenClaim := { program := "yteabkedhdgnhgab", sum := "d0f8bec2b12cb281226c34bea6ab7893cebf16e21563e2bed90354b5d48b888e", func := "windbreak/windbreaklaw01.NatQuotients", spec := "natQuotients", inPlace := ["math/bits.Add64", "math/bits.Sub64"], unfollowed := true, recurses := true, named := ["math/bits.divideError", "math/bits.overflowError"], apart := false, narrowed := true }
def NatQuotientsUptoSaid : Prop := natQuotientsUptoRow.holds Try.pinned (OpenSpec.upto natQuotientsSpec)

/-- 'windbreaklaw01.NatBack', WHERE WHAT IT READS IS OF BULK AT MOST 1048576: true; the input reads as it did. -/
def natBackUptoRow : OpenClaim := { program := "yteabkedhdgnhgab", sum := "d0f8bec2b12cb281226c34bea6ab7893cebf16e21563e2bed90354b5d48b888e", func := "windbreak/windbreaklaw01.NatBack", spec := "natBack", inPlace := ["math/bits.Add64", "math/bits.Sub64"], unfollowed := true, recurses := true, named := ["math/bits.divideError", "math/bits.overflowError"], apart := false, narrowed := true }
def NatBackUptoSaid : Prop := natBackUptoRow.holds Try.pinned (OpenSpec.upto natBackSpec)

/-- 'windbreaklaw01.NatOwn', WHERE WHAT IT READS IS OF BULK AT MOST 1048576: true; the input reads as it did. -/
def natOwnUptoRow : OpenClaim := { program := "yteabkedhdgnhgab", sum := "d0f8bec2b12cb281226c34bea6ab7893cebf16e21563e2bed90354b5d48b888e", func := "windbreak/windbreaklaw01.NatOwn", spec := "natOwn", inPlace := ["math/bits.Add64", "math/bits.Sub64"], unfollowed := true, recurses := true, named := ["math/bits.divideError", "math/bits.overflowError"], apart := false, narrowed := true }
def NatOwnUptoSaid : Prop := natOwnUptoRow.holds Try.pinned (OpenSpec.upto natOwnSpec)

end Rows
end Go.Proofs.Yteabkedhdgnhgab
