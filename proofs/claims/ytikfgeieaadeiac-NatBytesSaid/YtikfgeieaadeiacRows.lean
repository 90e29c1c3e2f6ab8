/-
  No cell of these rows narrows 'for every input' (looked for: loops, veiled, ifaces, maps, wideKeys, modest, calm, conditions, laid).
  DERIVED. THE GIVEN ROWS OF THIS SEAT. 6 by the template 'for every input the law returns true; each argument reads behind the call as it read before'; 0 by the template 'total and deterministic' (their statements: YtikfgeieaadeiacTotals.lean).
  GIVEN WITH THE SEED: the statements are not yours to turn. If you find one false, say at which input.
  Laid BY PROGRAM, IN A SANDBOX (cutbox-rows.mjs): the forced cells as the released guide's own fill.sh prints them over the translation 5dafcc7e3bb97585… (all of the seat's roots in one cut). By AI agents, Wed Nov 11 2026. No macro, syntax, notation, axiom, sorry.
-/
import Derived.Test.YtikfgeieaadeiacChecked
import GoSem.Claim
import GoSem.ClaimJoined
import GoSem.ClaimMapViews
import Derived.JoinedTies
import Derived.KernelRfl
namespace Go.Proofs.Ytikfgeieaadeiac
/- THE CELL 'sum', in the pinned program and in every row, IS THE sha256 OF THE DUMP (.gsa) THAT YtikfgeieaadeiacProg.lean LOADS. Nothing in Lean hashes anything: it is a label: what it is worth is what the hold of that sum in a sandbox is worth. -/
noncomputable def Try.pinned : Pinned := { name := "ytikfgeieaadeiac", sum := "5dafcc7e3bb9758596c73dbc7f84bf8ffabd4b1faa59f6527cee68fd53aa15c4", checked := Try.checked }
namespace Rows
def none {H : Type} : Left H := { results := [], args := [] }

/-- 'windbreaklaw01.NatSums': WHATEVER THE INPUT: true; the input reads as it did. -/
def natSumsSpec : ChangeSpec := { name := "natSums", fn := fun _ => fun
  | [d1, d2] => { results := [.lit (.bool true)], args := [d1, d2] }
  | _ => none }
def natSumsRow : OpenClaim := { program := "ytikfgeieaadeiac", sum := "5dafcc7e3bb9758596c73dbc7f84bf8ffabd4b1faa59f6527cee68fd53aa15c4", func := "windbreak/windbreaklaw01.NatSums", spec := "natSums", inPlace := ["math/bits.Add64"], unfollowed := true, recurses := true, apart := false }
def NatSumsSaid : Prop := natSumsRow.holds Try.pinned (OpenSpec.ofChange natSumsSpec)

/-- ITS FALSE NEIGHBOUR: 'it returns false'. Refute it at one input. -/
def natSumsWrong : ChangeSpec := { name := "natSums", fn := fun _ => fun
  | [d1, d2] => { results := [.lit (.bool false)], args := [d1, d2] }
  | _ => none }
def NatSumsWrongFalsely : Prop := natSumsRow.holds Try.pinned (OpenSpec.ofChange natSumsWrong)

/-- 'windbreaklaw05.PrimeSearches': WHATEVER THE INPUT: true; the input reads as it did. -/
def primeSearchesSpec : ChangeSpec := { name := "primeSearches", fn := fun _ => fun
  | [d1, d2, d3] => { results := [.lit (.bool true)], args := [d1, d2, d3] }
  | _ => none }
def primeSearchesRow : OpenClaim := { program := "ytikfgeieaadeiac", sum := "5dafcc7e3bb9758596c73dbc7f84bf8ffabd4b1faa59f6527cee68fd53aa15c4", func := "windbreak/windbreaklaw05.PrimeSearches", spec := "primeSearches", unfollowed := true, recurses := true, apart := false }
def PrimeSearchesSaid : Prop := primeSearchesRow.holds Try.pinned (OpenSpec.ofChange primeSearchesSpec)

/-- ITS FALSE NEIGHBOUR: 'it returns false'. Refute it at one input. -/
def primeSearchesWrong : ChangeSpec := { name := "primeSearches", fn := fun _ => fun
  | [d1, d2, d3] => { results := [.lit (.bool false)], args := [d1, d2, d3] }
  | _ => none }
def PrimeSearchesWrongFalsely : Prop := primeSearchesRow.holds Try.pinned (OpenSpec.ofChange primeSearchesWrong)

/-- 'windbreaktop.TopPowers': WHATEVER THE INPUT: true; the input reads as it did. -/
def topPowersSpec : ChangeSpec := { name := "topPowers", fn := fun _ => fun
  | [d1, d2] => { results := [.lit (.bool true)], args := [d1, d2] }
  | _ => none }
def topPowersRow : OpenClaim := { program := "ytikfgeieaadeiac", sum := "5dafcc7e3bb9758596c73dbc7f84bf8ffabd4b1faa59f6527cee68fd53aa15c4", func := "windbreak/windbreaktop.TopPowers", spec := "topPowers", inPlace := ["math/bits.Add64", "math/bits.Sub64"], unfollowed := true, recurses := true, named := ["math/bits.divideError", "math/bits.overflowError"], apart := false }
def TopPowersSaid : Prop := topPowersRow.holds Try.pinned (OpenSpec.ofChange topPowersSpec)

/-- ITS FALSE NEIGHBOUR: 'it returns false'. Refute it at one input. -/
def topPowersWrong : ChangeSpec := { name := "topPowers", fn := fun _ => fun
  | [d1, d2] => { results := [.lit (.bool false)], args := [d1, d2] }
  | _ => none }
def TopPowersWrongFalsely : Prop := topPowersRow.holds Try.pinned (OpenSpec.ofChange topPowersWrong)

/-- 'windbreaklaw01.NatBytes': WHATEVER THE INPUT: true; the input reads as it did. -/
def natBytesSpec : ChangeSpec := { name := "natBytes", fn := fun _ => fun
  | [d1, d2] => { results := [.lit (.bool true)], args := [d1, d2] }
  | _ => none }
def natBytesRow : OpenClaim := { program := "ytikfgeieaadeiac", sum := "5dafcc7e3bb9758596c73dbc7f84bf8ffabd4b1faa59f6527cee68fd53aa15c4", func := "windbreak/windbreaklaw01.NatBytes", spec := "natBytes", unfollowed := true, recurses := true, apart := false }
def NatBytesSaid : Prop := natBytesRow.holds Try.pinned (OpenSpec.ofChange natBytesSpec)

/-- ITS FALSE NEIGHBOUR: 'it returns false'. Refute it at one input. -/
def natBytesWrong : ChangeSpec := { name := "natBytes", fn := fun _ => fun
  | [d1, d2] => { results := [.lit (.bool false)], args := [d1, d2] }
  | _ => none }
def NatBytesWrongFalsely : Prop := natBytesRow.holds Try.pinned (OpenSpec.ofChange natBytesWrong)

/-- 'windbreaklaw01.NatDifferences': WHATEVER THE INPUT: true; the input reads as it did. -/
def natDifferencesSpec : ChangeSpec := { name := "natDifferences", fn := fun _ => fun
  | [d1, d2] => { results := [.lit (.bool true)], args := [d1, d2] }
  | _ => none }
def natDifferencesRow : OpenClaim := { program := "ytikfgeieaadeiac", sum := "5dafcc7e3bb9758596c73dbc7f84bf8ffabd4b1faa59f6527cee68fd53aa15c4", func := "windbreak/windbreaklaw01.NatDifferences", spec := "natDifferences", inPlace := ["math/bits.Sub64"], unfollowed := true, recurses := true, apart := false }
def NatDifferencesSaid : Prop := natDifferencesRow.holds Try.pinned (OpenSpec.ofChange natDifferencesSpec)

/-- ITS FALSE NEIGHBOUR: 'it returns false'. Refute it at one input. -/
def natDifferencesWrong : ChangeSpec := { name := "natDifferences", fn := fun _ => fun
  | [d1, d2] => { results := [.lit (.bool false)], args := [d1, d2] }
  | _ => none }
def NatDifferencesWrongFalsely : Prop := natDifferencesRow.holds Try.pinned (OpenSpec.ofChange natDifferencesWrong)

/-- 'windbreaklaw01.NatAround': WHATEVER THE INPUT: true; the input reads as it did. -/
def natAroundSpec : ChangeSpec := { name := "natAround", fn := fun _ => fun
  | [d1, d2, d3] => { results := [.lit (.bool true)], args := [d1, d2, d3] }
  | _ => none }
def natAroundRow : OpenClaim := { program := "ytikfgeieaadeiac", sum := "5dafcc7e3bb9758596c73dbc7f84bf8ffabd4b1faa59f6527cee68fd53aa15c4", func := "windbreak/windbreaklaw01.NatAround", spec := "natAround", inPlace := ["math/bits.Add64", "math/bits.Sub64"], unfollowed := true, recurses := true, apart := false }
def NatAroundSaid : Prop := natAroundRow.holds Try.pinned (OpenSpec.ofChange natAroundSpec)

/-- ITS FALSE NEIGHBOUR: 'it returns false'. Refute it at one input. -/
def natAroundWrong : ChangeSpec := { name := "natAround", fn := fun _ => fun
  | [d1, d2, d3] => { results := [.lit (.bool false)], args := [d1, d2, d3] }
  | _ => none }
def NatAroundWrongFalsely : Prop := natAroundRow.holds Try.pinned (OpenSpec.ofChange natAroundWrong)

/- THE SECOND FORM. 'bulk': how many values and letters a reading holds, each counted each time it is reached (what is shared counts as often as it is met; a slice's spare places count too). A statement '..UptoSaid' is the law's where the arguments, and the package variables that the reading takes, are together of bulk at most 1048576: NARROWER than '..Said'. Prove '..Said' where nothing that the law and all that it calls make is longer than what came in: it says more and counts as full. Else prove '..UptoSaid'. A law counts once. -/
mutual
def uptoBulk {H : Type} : DataW H → Nat
  | .lit (.string bytes) => bytes.length + 1
  | .lit _ => 1
  | .nil => 1
  | .ptr d => uptoBulk d + 1
  | .slice elems spare => uptoBulkAll elems + uptoBulkAll spare + 1
  | .agg parts => uptoBulkAll parts + 1
  | .iface _ d => uptoBulk d + 1
  | .map entries => uptoBulkEntries entries + 1
  | .held _ => 1
def uptoBulkAll {H : Type} : List (DataW H) → Nat
  | [] => 0
  | d :: r => uptoBulk d + uptoBulkAll r
def uptoBulkEntries {H : Type} : List (Lit × DataW H) → Nat
  | [] => 0
  | x :: r => uptoBulkEntry x + uptoBulkEntries r
def uptoBulkEntry {H : Type} : Lit × DataW H → Nat
  | (.string bytes, d) => bytes.length + uptoBulk d + 1
  | (_, d) => uptoBulk d + 1
 end
def uptoSmall : (H : Type) → List (DataW H) → Bool := fun _ ds => decide (uptoBulkAll ds ≤ 1048576)
def OpenSpec.upto (s : _root_.Go.ChangeSpec) : _root_.Go.OpenSpec := { _root_.Go.OpenSpec.ofChange s with cond := some uptoSmall }

/-- 'windbreaklaw01.NatSums', WHERE WHAT IT READS IS OF BULK AT MOST 1048576: true; the input reads as it did. -/
def natSumsUptoRow : OpenClaim := { program := "ytikfgeieaadeiac", sum := "5dafcc7e3bb9758596c73dbc7f84bf8ffabd4b1faa59f6527cee68fd53aa15c4", func := "windbreak/windbreaklaw01.NatSums", spec := "natSums", inPlace := ["math/bits.Add64"], unfollowed := true, recurses := true, apart := false, narrowed := true }
def NatSumsUptoSaid : Prop := natSumsUptoRow.holds Try.pinned (OpenSpec.upto natSumsSpec)

/-- 'windbreaklaw05.PrimeSearches', WHERE WHAT IT READS IS OF BULK AT MOST 1048576: true; the input reads as it did. -/
def primeSearchesUptoRow : OpenClaim := { program := "ytikfgeieaadeiac", sum := "5dafcc7e3bb9758596c73dbc7f84bf8ffabd4b1faa59f6527cee68fd53aa15c4", func := "windbreak/windbreaklaw05.PrimeSearches", spec := "primeSearches", unfollowed := true, recurses := true, apart := false, narrowed := true }
def PrimeSearchesUptoSaid : Prop := primeSearchesUptoRow.holds Try.pinned (OpenSpec.upto primeSearchesSpec)

/-- 'windbreaktop.TopPowers', WHERE WHAT IT READS IS OF BULK AT MOST 1048576: true; the input reads as it did. -/
def topPowersUptoRow : OpenClaim := { program := "ytikfgeieaadeiac", sum := "5dafcc7e3bb9758596c73dbc7f84bf8ffabd4b1faa59f6527cee68fd53aa15c4", func := "windbreak/windbreaktop.TopPowers", spec := "topPowers", inPlace := ["math/bits.Add64", "math/bits.Sub64"], unfollowed := true, recurses := true, named := ["math/bits.divideError", "math/bits.overflowError"], apart := false, narrowed := true }
def TopPowersUptoSaid : Prop := topPowersUptoRow.holds Try.pinned (OpenSpec.upto topPowersSpec)

/-- 'windbreaklaw01.NatBytes', WHERE WHAT IT READS IS OF BULK AT MOST 1048576: true; the input reads as it did. -/
def natBytesUptoRow : OpenClaim := { program := "ytikfgeieaadeiac", sum := "5dafcc7e3bb9758596c73dbc7f84bf8ffabd4b1faa59f6527cee68fd53aa15c4", func := "windbreak/windbreaklaw01.NatBytes", spec := "natBytes", unfollowed := true, recurses := true, apart := false, narrowed := true }
def NatBytesUptoSaid : Prop := natBytesUptoRow.holds Try.pinned (OpenSpec.upto natBytesSpec)

/-- 'windbreaklaw01.NatDifferences', WHERE WHAT IT READS IS OF BULK AT MOST 1048576: true; the input reads as it did. -/
def natDifferencesUptoRow : OpenClaim := { program := "ytikfgeieaadeiac", sum := "5dafcc7e3bb9758596c73dbc7f84bf8ffabd4b1faa59f6527cee68fd53aa15c4", func := "windbreak/windbreaklaw01.NatDifferences", spec := "natDifferences", inPlace := ["math/bits.Sub64"], unfollowed := true, recurses := true, apart := false, narrowed := true }
def NatDifferencesUptoSaid : Prop := natDifferencesUptoRow.holds Try.pinned (OpenSpec.upto natDifferencesSpec)

/-- 'windbreaklaw01.NatAround', WHERE WHAT IT READS IS OF BULK AT MOST 1048576: true; the input reads as it did. -/
def natAroundUptoRow : OpenClaim := { program := "ytikfgeieaadeiac", sum := "5dafcc7e3bb9758596c73dbc7f84bf8ffabd4b1faa59f6527cee68fd53aa15c4", func := "windbreak/windbreaklaw01.NatAround", spec := "natAround", inPlace := ["math/bits.Add64", "math/bits.Sub64"], unfollowed := true, recurses := true, apart := false, narrowed := true }
def NatAroundUptoSaid : Prop := natAroundUptoRow.holds Try.pinned (OpenSpec.upto natAroundSpec)

end Rows
end Go.Proofs.Ytikfgeieaadeiac
