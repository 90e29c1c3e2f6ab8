/-
  No cell of these rows narrows 'for every input' (looked for: loops, veiled, ifaces, maps, wideKeys, modest, calm, conditions, laid).
  DERIVED. THE GIVEN ROWS OF THIS SEAT. 4 by the template 'for every input the law returns true; each argument reads behind the call as it read before'; 0 by the template 'total and deterministic' (their statements: YtnaphgnkhhapoaaTotals.lean).
  GIVEN WITH THE SEED: the statements are not yours to turn. If you find one false, say at which input.
  Laid BY PROGRAM, IN A SANDBOX (cutbox-rows.mjs): the forced cells as the released guide's own fill.sh prints them over the translation 2b76b692bfb493bf… (all of the seat's roots in one cut). By AI agents, Wed Nov 11 2026. No macro, syntax, notation, axiom, sorry.
-/
import Derived.Test.YtnaphgnkhhapoaaChecked
import GoSem.Claim
import GoSem.ClaimJoined
import GoSem.ClaimMapViews
import Derived.JoinedTies
import Derived.KernelRfl
namespace Go.Proofs.Ytnaphgnkhhapoaa
/- THE CELL 'sum', in the pinned program and in every row, IS THE sha256 OF THE DUMP (.gsa) THAT YtnaphgnkhhapoaaProg.lean LOADS. Nothing in Lean hashes anything: it is a label: what it is worth is what the hold of that sum in a sandbox is worth. -/
noncomputable def Try.pinned : Pinned := { name := "ytnaphgnkhhapoaa", sum := "2b76b692bfb493bff1565a020ba99403da71ea672973e2c801c3c01a7d87e72f", checked := Try.checked }
namespace Rows
def none {H : Type} : Left H := { results := [], args := [] }

/-- 'windbreaklaw20.SplitmaskFinds': WHATEVER THE INPUT: true; the input reads as it did. -/
def splitmaskFindsSpec : ChangeSpec := { name := "splitmaskFinds", fn := fun _ => fun
  | [d1, d2, d3] => { results := [.lit (.bool true)], args := [d1, d2, d3] }
  | _ => none }
def splitmaskFindsRow : OpenClaim := { program := "ytnaphgnkhhapoaa", sum := "2b76b692bfb493bff1565a020ba99403da71ea672973e2c801c3c01a7d87e72f", func := "windbreak/windbreaklaw20.SplitmaskFinds", spec := "splitmaskFinds", inPlace := ["math/bits.Sub64"], unfollowed := true, recurses := true, plainKeys := false, apart := false }
def SplitmaskFindsSaid : Prop := splitmaskFindsRow.holds Try.pinned (OpenSpec.ofChange splitmaskFindsSpec)

/-- ITS FALSE NEIGHBOUR: 'it returns false'. Refute it at one input. -/
def splitmaskFindsWrong : ChangeSpec := { name := "splitmaskFinds", fn := fun _ => fun
  | [d1, d2, d3] => { results := [.lit (.bool false)], args := [d1, d2, d3] }
  | _ => none }
def SplitmaskFindsWrongFalsely : Prop := splitmaskFindsRow.holds Try.pinned (OpenSpec.ofChange splitmaskFindsWrong)

/-- 'windbreaklaw20.SplitmaskScripts': WHATEVER THE INPUT: true; the input reads as it did. -/
def splitmaskScriptsSpec : ChangeSpec := { name := "splitmaskScripts", fn := fun _ => fun
  | [d1, d2] => { results := [.lit (.bool true)], args := [d1, d2] }
  | _ => none }
def splitmaskScriptsRow : OpenClaim := { program := "ytnaphgnkhhapoaa", sum := "2b76b692bfb493bff1565a020ba99403da71ea672973e2c801c3c01a7d87e72f", func := "windbreak/windbreaklaw20.SplitmaskScripts", spec := "splitmaskScripts", inPlace := ["math/bits.Sub64"], unfollowed := true, recurses := true, plainKeys := false, apart := false }
def SplitmaskScriptsSaid : Prop := splitmaskScriptsRow.holds Try.pinned (OpenSpec.ofChange splitmaskScriptsSpec)

/-- ITS FALSE NEIGHBOUR: 'it returns false'. Refute it at one input. -/
def splitmaskScriptsWrong : ChangeSpec := { name := "splitmaskScripts", fn := fun _ => fun
  | [d1, d2] => { results := [.lit (.bool false)], args := [d1, d2] }
  | _ => none }
def SplitmaskScriptsWrongFalsely : Prop := splitmaskScriptsRow.holds Try.pinned (OpenSpec.ofChange splitmaskScriptsWrong)

/-- 'windbreaklaw01.NatOwn': WHATEVER THE INPUT: true; the input reads as it did. -/
def natOwnSpec : ChangeSpec := { name := "natOwn", fn := fun _ => fun
  | [d1, d2] => { results := [.lit (.bool true)], args := [d1, d2] }
  | _ => none }
def natOwnRow : OpenClaim := { program := "ytnaphgnkhhapoaa", sum := "2b76b692bfb493bff1565a020ba99403da71ea672973e2c801c3c01a7d87e72f", func := "windbreak/windbreaklaw01.NatOwn", spec := "natOwn", inPlace := ["math/bits.Add64", "math/bits.Sub64"], unfollowed := true, recurses := true, named := ["math/bits.divideError", "math/bits.overflowError"], plainKeys := false, apart := false }
def NatOwnSaid : Prop := natOwnRow.holds Try.pinned (OpenSpec.ofChange natOwnSpec)

/-- ITS FALSE NEIGHBOUR: 'it returns false'. Refute it at one input. -/
def natOwnWrong : ChangeSpec := { name := "natOwn", fn := fun _ => fun
  | [d1, d2] => { results := [.lit (.bool false)], args := [d1, d2] }
  | _ => none }
def NatOwnWrongFalsely : Prop := natOwnRow.holds Try.pinned (OpenSpec.ofChange natOwnWrong)

/-- 'windbreaktop.TopPowers': WHATEVER THE INPUT: true; the input reads as it did. -/
def topPowersSpec : ChangeSpec := { name := "topPowers", fn := fun _ => fun
  | [d1, d2] => { results := [.lit (.bool true)], args := [d1, d2] }
  | _ => none }
def topPowersRow : OpenClaim := { program := "ytnaphgnkhhapoaa", sum := "2b76b692bfb493bff1565a020ba99403da71ea672973e2c801c3c01a7d87e72f", func := "windbreak/windbreaktop.TopPowers", spec := "topPowers", inPlace := ["math/bits.Add64", "math/bits.Sub64"], unfollowed := true, recurses := true, named := ["math/bits.divideError", "math/bits.overflowError"], plainKeys := false, apart := false }
def TopPowersSaid : Prop := topPowersRow.holds Try.pinned (OpenSpec.ofChange topPowersSpec)

/-- ITS FALSE NEIGHBOUR: 'it returns false'. Refute it at one input. -/
def topPowersWrong : ChangeSpec := { name := "topPowers", fn := fun _ => fun
  | [d1, d2] => { results := [.lit (.bool false)], args := [d1, d2] }
  | _ => none }
def TopPowersWrongFalsely : Prop := topPowersRow.holds Try.pinned (OpenSpec.ofChange topPowersWrong)

/- THE SECOND FORM. 'bulk': how many values and letters a reading holds, each counted each time it is reached (what is shared counts as often as it is met; a slice's spare places count too). A statement '..UptoSaid' is the law's where the arguments, and the package variables that the reading takes, are together of bulk at most 1048576: NARROWER than '..Said'. Prove '..Said' where nothing that the law and all that it calls make is longer than what came in: it says more and counts as full. Else prove '..UptoSaid'. A law counts once. -/
mutual
def uptoBulk {H : Type} : DataW H → Nat
  | .lit (.string bytes) => bytes.length + 1
  | .lit _ => 1
  | .nil => 1
  | .ptr d => uptoBulk d + 1
  | .slice elems spare => uptoBulkAll elems + uptoBulkAll spare + 1
  | .agg parts => uptoBulkAll parts + 1
  | .iface _ d => uptoBulk d + 1
  | .map entries => uptoBulkEntries entries + 1
  | .held _ => 1
def uptoBulkAll {H : Type} : List (DataW H) → Nat
  | [] => 0
  | d :: r => uptoBulk d + uptoBulkAll r
def uptoBulkEntries {H : Type} : List (Lit × DataW H) → Nat
  | [] => 0
  | x :: r => uptoBulkEntry x + uptoBulkEntries r
def uptoBulkEntry {H : Type} : Lit × DataW H → Nat
  | (.string bytes, d) => bytes.length + uptoBulk d + 1
  | (_, d) => uptoBulk d + 1
 end
def uptoSmall : (H : Type) → List (DataW H) → Bool := fun _ ds => decide (uptoBulkAll ds ≤ 1048576)
def OpenSpec.upto (s : _root_.Go.ChangeSpec) : _root_.Go.OpenSpec := { _root_.Go.OpenSpec.ofChange s with cond := some uptoSmall }

/-- 'windbreaklaw20.SplitmaskFinds', WHERE WHAT IT READS IS OF BULK AT MOST 1048576: true; the input reads as it did. -/
def splitmaskFindsUptoRow : OpenClaim := { program := "ytnaphgnkhhapoaa", sum := "2b76b692bfb493bff1565a020ba99403da71ea672973e2c801c3c01a7d87e72f", func := "windbreak/windbreaklaw20.SplitmaskFinds", spec := "splitmaskFinds", inPlace := ["math/bits.Sub64"], unfollowed := true, recurses := true, plainKeys := false, apart := false, narrowed := true }
def SplitmaskFindsUptoSaid : Prop := splitmaskFindsUptoRow.holds Try.pinned (OpenSpec.upto splitmaskFindsSpec)

/-- 'windbreaklaw20.SplitmaskScripts', WHERE WHAT IT READS IS OF BULK AT MOST 1048576: true; the input reads as it did. -/
def splitmaskScriptsUptoRow : OpenClaim := { program := "ytnaphgnkhhapoaa", sum := "2b76b692bfb493bff1565a020ba99403da71ea672973e2c801c3c01a7d87e72f", func := "windbreak/windbreaklaw20.SplitmaskScripts", spec := "splitmaskScripts", inPlace := ["math/bits.Sub64"], unfollowed := true, recurses := true, plainKeys := false, apart := false, narrowed := true }
def SplitmaskScriptsUptoSaid : Prop := splitmaskScriptsUptoRow.holds Try.pinned (OpenSpec.upto splitmaskScriptsSpec)

/-- 'windbreaklaw01.NatOwn', WHERE WHAT IT READS IS OF BULK AT MOST 1048576: true; the input reads as it did. -/
def natOwnUptoRow : OpenClaim := { program := "ytnaphgnkhhapoaa", sum := "2b76b692bfb493bff1565a020ba99403da71ea672973e2c801c3c01a7d87e72f", func := "windbreak/windbreaklaw01.NatOwn", spec := "natOwn", inPlace := ["math/bits.Add64", "math/bits.Sub64"], unfollowed := true, recurses := true, named := ["math/bits.divideError", "math/bits.overflowError"], plainKeys := false, apart := false, narrowed := true }
def NatOwnUptoSaid : Prop := natOwnUptoRow.holds Try.pinned (OpenSpec.upto natOwnSpec)

/-- 'windbreaktop.TopPowers', WHERE WHAT IT READS IS OF BULK AT MOST 1048576: true; the input reads as it did. -/
def topPowersUptoRow : OpenClaim := { program := "ytnaphgnkhhapoaa", sum := "2b76b692bfb493bff1565a020ba99403da71ea672973e2c801c3c01a7d87e72f", func := "windbreak/windbreaktop.TopPowers", spec := "topPowers", inPlace := ["math/bits.Add64", "math/bits.Sub64"], unfollowed := true, recurses := true, named := ["math/bits.divideError", "math/bits.overflowError"], plainKeys := false, apart := false, narrowed := true }
def TopPowersUptoSaid : Prop := topPowersUptoRow.holds Try.pinned (OpenSpec.upto topPowersSpec)

end Rows
end Go.Proofs.Ytnaphgnkhhapoaa
