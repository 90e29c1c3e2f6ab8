/-
  No cell of these rows narrows 'for every input' (looked for: loops, veiled, ifaces, maps, wideKeys, modest, calm, conditions, laid).
  DERIVED. THE GIVEN ROWS OF THIS SEAT. 7 by the template 'for every input the law returns true; each argument reads behind the call as it read before'; 0 by the template 'total and deterministic' (their statements: YtkgaejigpmkfkaaTotals.lean).
  GIVEN WITH THE SEED: the statements are not yours to turn. If you find one false, say at which input.
  Laid BY PROGRAM, IN A SANDBOX (cutbox-rows.mjs): the forced cells as the released guide's own fill.sh prints them over the translation 561b9736eb445eda… (all of the seat's roots in one cut). By AI agents, Wed Nov 11 2026. No macro, syntax, notation, axiom, sorry.
-/
import Derived.Test.YtkgaejigpmkfkaaChecked
import GoSem.Claim
import GoSem.ClaimJoined
import GoSem.ClaimMapViews
import Derived.JoinedTies
import Derived.KernelRfl
namespace Go.Proofs.Ytkgaejigpmkfkaa
/- THE CELL 'sum', in the pinned program and in every row, IS THE sha256 OF THE DUMP (.gsa) THAT YtkgaejigpmkfkaaProg.lean LOADS. Nothing in Lean hashes anything: it is a label: what it is worth is what the hold of that sum in a sandbox is worth. -/
noncomputable def Try.pinned : Pinned := { name := "ytkgaejigpmkfkaa", sum := "561b9736eb445eda56bc86b73716cb76928d1b3871270ac3c854e30482516bc3", checked := Try.checked }
namespace Rows
def none {H : Type} : Left H := { results := [], args := [] }

/-- 'windbreaklaw05.PrimePairs': WHATEVER THE INPUT: true; the input reads as it did. -/
def primePairsSpec : ChangeSpec := { name := "primePairs", fn := fun _ => fun
  | [d1, d2, d3] => { results := [.lit (.bool true)], args := [d1, d2, d3] }
  | _ => none }
def primePairsRow : OpenClaim := { program := "ytkgaejigpmkfkaa", sum := "561b9736eb445eda56bc86b73716cb76928d1b3871270ac3c854e30482516bc3", func := "windbreak/windbreaklaw05.PrimePairs", spec := "primePairs", inPlace := ["math/bits.Add64", "math/bits.Sub64"], unfollowed := true, recurses := true, named := ["math/bits.divideError", "math/bits.overflowError"], plainKeys := false, apart := false }
def PrimePairsSaid : Prop := primePairsRow.holds Try.pinned (OpenSpec.ofChange primePairsSpec)

/-- ITS FALSE NEIGHBOUR: 'it returns false'. Refute it at one input. -/
def primePairsWrong : ChangeSpec := { name := "primePairs", fn := fun _ => fun
  | [d1, d2, d3] => { results := [.lit (.bool false)], args := [d1, d2, d3] }
  | _ => none }
def PrimePairsWrongFalsely : Prop := primePairsRow.holds Try.pinned (OpenSpec.ofChange primePairsWrong)

/-- 'windbreaklaw07.FixencUnpacks': WHATEVER THE INPUT: true; the input reads as it did. -/
def fixencUnpacksSpec : ChangeSpec := { name := "fixencUnpacks", fn := fun _ => fun
  | [d1, d2, d3] => { results := [.lit (.bool true)], args := [d1, d2, d3] }
  | _ => none }
def fixencUnpacksRow : OpenClaim := { program := "ytkgaejigpmkfkaa", sum := "561b9736eb445eda56bc86b73716cb76928d1b3871270ac3c854e30482516bc3", func := "windbreak/windbreaklaw07.FixencUnpacks", spec := "fixencUnpacks", inPlace := ["math/bits.Sub64", "math/bits.Add64"], unfollowed := true, recurses := true, named := ["math/bits.divideError", "math/bits.overflowError"], plainKeys := false, apart := false }
def FixencUnpacksSaid : Prop := fixencUnpacksRow.holds Try.pinned (OpenSpec.ofChange fixencUnpacksSpec)

/-- ITS FALSE NEIGHBOUR: 'it returns false'. Refute it at one input. -/
def fixencUnpacksWrong : ChangeSpec := { name := "fixencUnpacks", fn := fun _ => fun
  | [d1, d2, d3] => { results := [.lit (.bool false)], args := [d1, d2, d3] }
  | _ => none }
def FixencUnpacksWrongFalsely : Prop := fixencUnpacksRow.holds Try.pinned (OpenSpec.ofChange fixencUnpacksWrong)

/-- 'windbreaklaw07.FixencAdds': WHATEVER THE INPUT: true; the input reads as it did. -/
def fixencAddsSpec : ChangeSpec := { name := "fixencAdds", fn := fun _ => fun
  | [d1, d2, d3] => { results := [.lit (.bool true)], args := [d1, d2, d3] }
  | _ => none }
def fixencAddsRow : OpenClaim := { program := "ytkgaejigpmkfkaa", sum := "561b9736eb445eda56bc86b73716cb76928d1b3871270ac3c854e30482516bc3", func := "windbreak/windbreaklaw07.FixencAdds", spec := "fixencAdds", inPlace := ["math/bits.Sub64", "math/bits.Add64"], unfollowed := true, recurses := true, named := ["math/bits.divideError", "math/bits.overflowError"], plainKeys := false, apart := false }
def FixencAddsSaid : Prop := fixencAddsRow.holds Try.pinned (OpenSpec.ofChange fixencAddsSpec)

/-- ITS FALSE NEIGHBOUR: 'it returns false'. Refute it at one input. -/
def fixencAddsWrong : ChangeSpec := { name := "fixencAdds", fn := fun _ => fun
  | [d1, d2, d3] => { results := [.lit (.bool false)], args := [d1, d2, d3] }
  | _ => none }
def FixencAddsWrongFalsely : Prop := fixencAddsRow.holds Try.pinned (OpenSpec.ofChange fixencAddsWrong)

/-- 'windbreaktop.TopPowers': WHATEVER THE INPUT: true; the input reads as it did. -/
def topPowersSpec : ChangeSpec := { name := "topPowers", fn := fun _ => fun
  | [d1, d2] => { results := [.lit (.bool true)], args := [d1, d2] }
  | _ => none }
def topPowersRow : OpenClaim := { program := "ytkgaejigpmkfkaa", sum := "561b9736eb445eda56bc86b73716cb76928d1b3871270ac3c854e30482516bc3", func := "windbreak/windbreaktop.TopPowers", spec := "topPowers", inPlace := ["math/bits.Add64", "math/bits.Sub64"], unfollowed := true, recurses := true, named := ["math/bits.divideError", "math/bits.overflowError"], plainKeys := false, apart := false }
def TopPowersSaid : Prop := topPowersRow.holds Try.pinned (OpenSpec.ofChange topPowersSpec)

/-- ITS FALSE NEIGHBOUR: 'it returns false'. Refute it at one input. -/
def topPowersWrong : ChangeSpec := { name := "topPowers", fn := fun _ => fun
  | [d1, d2] => { results := [.lit (.bool false)], args := [d1, d2] }
  | _ => none }
def TopPowersWrongFalsely : Prop := topPowersRow.holds Try.pinned (OpenSpec.ofChange topPowersWrong)

/-- 'windbreaklaw01.NatOwn': WHATEVER THE INPUT: true; the input reads as it did. -/
def natOwnSpec : ChangeSpec := { name := "natOwn", fn := fun _ => fun
  | [d1, d2] => { results := [.lit (.bool true)], args := [d1, d2] }
  | _ => none }
def natOwnRow : OpenClaim := { program := "ytkgaejigpmkfkaa", sum := "561b9736eb445eda56bc86b73716cb76928d1b3871270ac3c854e30482516bc3", func := "windbreak/windbreaklaw01.NatOwn", spec := "natOwn", inPlace := ["math/bits.Add64", "math/bits.Sub64"], unfollowed := true, recurses := true, named := ["math/bits.divideError", "math/bits.overflowError"], plainKeys := false, apart := false }
def NatOwnSaid : Prop := natOwnRow.holds Try.pinned (OpenSpec.ofChange natOwnSpec)

/-- ITS FALSE NEIGHBOUR: 'it returns false'. Refute it at one input. -/
def natOwnWrong : ChangeSpec := { name := "natOwn", fn := fun _ => fun
  | [d1, d2] => { results := [.lit (.bool false)], args := [d1, d2] }
  | _ => none }
def NatOwnWrongFalsely : Prop := natOwnRow.holds Try.pinned (OpenSpec.ofChange natOwnWrong)

/-- 'windbreaklaw20.SplitmaskFinds': WHATEVER THE INPUT: true; the input reads as it did. -/
def splitmaskFindsSpec : ChangeSpec := { name := "splitmaskFinds", fn := fun _ => fun
  | [d1, d2, d3] => { results := [.lit (.bool true)], args := [d1, d2, d3] }
  | _ => none }
def splitmaskFindsRow : OpenClaim := { program := "ytkgaejigpmkfkaa", sum := "561b9736eb445eda56bc86b73716cb76928d1b3871270ac3c854e30482516bc3", func := "windbreak/windbreaklaw20.SplitmaskFinds", spec := "splitmaskFinds", inPlace := ["math/bits.Sub64"], unfollowed := true, recurses := true, plainKeys := false, apart := false }
def SplitmaskFindsSaid : Prop := splitmaskFindsRow.holds Try.pinned (OpenSpec.ofChange splitmaskFindsSpec)

/-- ITS FALSE NEIGHBOUR: 'it returns false'. Refute it at one input. -/
def splitmaskFindsWrong : ChangeSpec := { name := "splitmaskFinds", fn := fun _ => fun
  | [d1, d2, d3] => { results := [.lit (.bool false)], args := [d1, d2, d3] }
  | _ => none }
def SplitmaskFindsWrongFalsely : Prop := splitmaskFindsRow.holds Try.pinned (OpenSpec.ofChange splitmaskFindsWrong)

/-- 'windbreaklaw20.SplitmaskScripts': WHATEVER THE INPUT: true; the input reads as it did. -/
def splitmaskScriptsSpec : ChangeSpec := { name := "splitmaskScripts", fn := fun _ => fun
  | [d1, d2] => { results := [.lit (.bool true)], args := [d1, d2] }
  | _ => none }
def splitmaskScriptsRow : OpenClaim := { program := "ytkgaejigpmkfkaa", sum := "561b9736eb445eda56bc86b73716cb76928d1b3871270ac3c854e30482516bc3", func := "windbreak/windbreaklaw20.SplitmaskScripts", spec := "splitmaskScripts", inPlace := ["math/bits.Sub64"], unfollowed := true, recurses := true, plainKeys := false, apart := false }
def SplitmaskScriptsSaid : Prop := splitmaskScriptsRow.holds Try.pinned (OpenSpec.ofChange splitmaskScriptsSpec)

/-- ITS FALSE NEIGHBOUR: 'it returns false'. Refute it at one input. -/
def splitmaskScriptsWrong : ChangeSpec := { name := "splitmaskScripts", fn := fun _ => fun
  | [d1, d2] => { results := [.lit (.bool false)], args := [d1, d2] }
  | _ => none }
def SplitmaskScriptsWrongFalsely : Prop := splitmaskScriptsRow.holds Try.pinned (OpenSpec.ofChange splitmaskScriptsWrong)

/- THE SECOND FORM. 'bulk': how many values and letters a reading holds, each counted each time it is reached (what is shared counts as often as it is met; a slice's spare places count too). A statement '..UptoSaid' is the law's where the arguments, and the package variables that the reading takes, are together of bulk at most 1048576: NARROWER than '..Said'. Prove '..Said' where nothing that the law and all that it calls make is longer than what came in: it says more and counts as full. Else prove '..UptoSaid'. A law counts once. -/
mutual
def uptoBulk {H : Type} : DataW H → Nat
  | .lit (.string bytes) => bytes.length + 1
  | .lit _ => 1
  | .nil => 1
  | .ptr d => uptoBulk d + 1
  | .slice elems spare => uptoBulkAll elems + uptoBulkAll spare + 1
  | .agg parts => uptoBulkAll parts + 1
  | .iface _ d => uptoBulk d + 1
  | .map entries => uptoBulkEntries entries + 1
  | .held _ => 1
def uptoBulkAll {H : Type} : List (DataW H) → Nat
  | [] => 0
  | d :: r => uptoBulk d + uptoBulkAll r
def uptoBulkEntries {H : Type} : List (Lit × DataW H) → Nat
  | [] => 0
  | x :: r => uptoBulkEntry x + uptoBulkEntries r
def uptoBulkEntry {H : Type} : Lit × DataW H → Nat
  | (.string bytes, d) => bytes.length + uptoBulk d + 1
  | (_, d) => uptoBulk d + 1
 end
def uptoSmall : (H : Type) → List (DataW H) → Bool := fun _ ds => decide (uptoBulkAll ds ≤ 1048576)
def OpenSpec.upto (s : _root_.Go.ChangeSpec) : _root_.Go.OpenSpec := { _root_.Go.OpenSpec.ofChange s with cond := some uptoSmall }

/-- 'windbreaklaw05.PrimePairs', WHERE WHAT IT READS IS OF BULK AT MOST 1048576: true; the input reads as it did. -/
def primePairsUptoRow : OpenClaim := { program := "ytkgaejigpmkfkaa", sum := "561b9736eb445eda56bc86b73716cb76928d1b3871270ac3c854e30482516bc3", func := "windbreak/windbreaklaw05.PrimePairs", spec := "primePairs", inPlace := ["math/bits.Add64", "math/bits.Sub64"], unfollowed := true, recurses := true, named := ["math/bits.divideError", "math/bits.overflowError"], plainKeys := false, apart := false, narrowed := true }
def PrimePairsUptoSaid : Prop := primePairsUptoRow.holds Try.pinned (OpenSpec.upto primePairsSpec)

/-- 'windbreaklaw07.FixencUnpacks', WHERE WHAT IT READS IS OF BULK AT MOST 1048576: true; the input reads as it did. -/
def fixencUnpacksUptoRow : OpenClaim := { program := "ytkgaejigpmkfkaa", sum := "561b9736eb445eda56bc86b73716cb76928d1b3871270ac3c854e30482516bc3", func := "windbreak/windbreaklaw07.FixencUnpacks", spec := "fixencUnpacks", inPlace := ["math/bits.Sub64", "math/bits.Add64"], unfollowed := true, recurses := true, named := ["math/bits.divideError", "math/bits.overflowError"], plainKeys := false, apart := false, narrowed := true }
def FixencUnpacksUptoSaid : Prop := fixencUnpacksUptoRow.holds Try.pinned (OpenSpec.upto fixencUnpacksSpec)

/-- 'windbreaklaw07.FixencAdds', WHERE WHAT IT READS IS OF BULK AT MOST 1048576: true; the input reads as it did. -/
def fixencAddsUptoRow : OpenClaim := { program := "ytkgaejigpmkfkaa", sum := "561b9736eb445eda56bc86b73716cb76928d1b3871270ac3c854e30482516bc3", func := "windbreak/windbreaklaw07.FixencAdds", spec := "fixencAdds", inPlace := ["math/bits.Sub64", "math/bits.Add64"], unfollowed := true, recurses := true, named := ["math/bits.divideError", "math/bits.overflowError"], plainKeys := false, apart := false, narrowed := true }
def FixencAddsUptoSaid : Prop := fixencAddsUptoRow.holds Try.pinned (OpenSpec.upto fixencAddsSpec)

/-- 'windbreaktop.TopPowers', WHERE WHAT IT READS IS OF BULK AT MOST 1048576: true; the input reads as it did. -/
def topPowersUptoRow : OpenClaim := { program := "ytkgaejigpmkfkaa", sum := "561b9736eb445eda56bc86b73716cb76928d1b3871270ac3c854e30482516bc3", func := "windbreak/windbreaktop.TopPowers", spec := "topPowers", inPlace := ["math/bits.Add64", "math/bits.Sub64"], unfollowed := true, recurses := true, named := ["math/bits.divideError", "math/bits.overflowError"], plainKeys := false, apart := false, narrowed := true }
def TopPowersUptoSaid : Prop := topPowersUptoRow.holds Try.pinned (OpenSpec.upto topPowersSpec)

/-- 'windbreaklaw01.NatOwn', WHERE WHAT IT READS IS OF BULK AT MOST 1048576: true; the input reads as it did. -/
def natOwnUptoRow : OpenClaim := { program := "ytkgaejigpmkfkaa", sum := "561b9736eb445eda56bc86b73716cb76928d1b3871270ac3c854e30482516bc3", func := "windbreak/windbreaklaw01.NatOwn", spec := "natOwn", inPlace := ["math/bits.Add64", "math/bits.Sub64"], unfollowed := true, recurses := true, named := ["math/bits.divideError", "math/bits.overflowError"], plainKeys := false, apart := false, narrowed := true }
def NatOwnUptoSaid : Prop := natOwnUptoRow.holds Try.pinned (OpenSpec.upto natOwnSpec)

/-- 'windbreaklaw20.SplitmaskFinds', WHERE WHAT IT READS IS OF BULK AT MOST 1048576: true; the input reads as it did. -/
def splitmaskFindsUptoRow : OpenClaim := { program := "ytkgaejigpmkfkaa", sum := "561b9736eb445eda56bc86b73716cb76928d1b3871270ac3c854e30482516bc3", func := "windbreak/windbreaklaw20.SplitmaskFinds", spec := "splitmaskFinds", inPlace := ["math/bits.Sub64"], unfollowed := true, recurses := true, plainKeys := false, apart := false, narrowed := true }
def SplitmaskFindsUptoSaid : Prop := splitmaskFindsUptoRow.holds Try.pinned (OpenSpec.upto splitmaskFindsSpec)

/-- 'windbreaklaw20.SplitmaskScripts', WHERE WHAT IT READS IS OF BULK AT MOST 1048576: true; the input reads as it did. -/
def splitmaskScriptsUptoRow : OpenClaim := { program := "ytkgaejigpmkfkaa", sum := "561b9736eb445eda56bc86b73716cb76928d1b3871270ac3c854e30482516bc3", func := "windbreak/windbreaklaw20.SplitmaskScripts", spec := "splitmaskScripts", inPlace := ["math/bits.Sub64"], unfollowed := true, recurses := true, plainKeys := false, apart := false, narrowed := true }
def SplitmaskScriptsUptoSaid : Prop := splitmaskScriptsUptoRow.holds Try.pinned (OpenSpec.upto splitmaskScriptsSpec)

end Rows
end Go.Proofs.Ytkgaejigpmkfkaa
