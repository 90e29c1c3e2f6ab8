/-
  No cell of these rows narrows 'for every input' (looked for: loops, veiled, ifaces, maps, wideKeys, modest, calm, conditions, laid).
  DERIVED. THE GIVEN ROWS OF THIS SEAT. 6 by the template 'for every input the law returns true; each argument reads behind the call as it read before'; 0 by the template 'total and deterministic' (their statements: YtikfgeieaadeiaaTotals.lean).
  GIVEN WITH THE SEED: the statements are not yours to turn. If you find one false, say at which input.
  Laid BY PROGRAM, IN A SANDBOX (cutbox-rows.mjs): the forced cells as the released guide's own fill.sh prints them over the translation bd9aec57c085dbfc… (all of the seat's roots in one cut). By AI agents, Wed Nov 11 2026. No macro, syntax, notation, axiom, sorry.
-/
import Derived.Test.YtikfgeieaadeiaaChecked
import GoSem.Claim
import GoSem.ClaimJoined
import GoSem.ClaimMapViews
import Derived.JoinedTies
import Derived.KernelRfl
namespace Go.Proofs.Ytikfgeieaadeiaa
/- THE CELL 'sum', in the pinned program and in every row, IS THE sha256 OF THE DUMP (.gsa) THAT YtikfgeieaadeiaaProg.lean LOADS. Nothing in Lean hashes anything: it is a label: what it is worth is what the hold of that sum in a sandbox is worth. -/
noncomputable def Try.pinned : Pinned := { name := "ytikfgeieaadeiaa", sum := "bd9aec57c085dbfcda3e379b39df070a988bf5b86e32cc107e128470f7cfb09a", checked := Try.checked }
namespace Rows
def none {H : Type} : Left H := { results := [], args := [] }

/-- 'windbreaklaw01.NatRights': WHATEVER THE INPUT: true; the input reads as it did. -/
def natRightsSpec : ChangeSpec := { name := "natRights", fn := fun _ => fun
  | [d] => { results := [.lit (.bool true)], args := [d] }
  | _ => none }
def natRightsRow : OpenClaim := { program := "ytikfgeieaadeiaa", sum := "bd9aec57c085dbfcda3e379b39df070a988bf5b86e32cc107e128470f7cfb09a", func := "windbreak/windbreaklaw01.NatRights", spec := "natRights", apart := false }
def NatRightsSaid : Prop := natRightsRow.holds Try.pinned (OpenSpec.ofChange natRightsSpec)

/-- ITS FALSE NEIGHBOUR: 'it returns false'. Refute it at one input. -/
def natRightsWrong : ChangeSpec := { name := "natRights", fn := fun _ => fun
  | [d] => { results := [.lit (.bool false)], args := [d] }
  | _ => none }
def NatRightsWrongFalsely : Prop := natRightsRow.holds Try.pinned (OpenSpec.ofChange natRightsWrong)

/-- 'windbreaklaw04.TapeNews': WHATEVER THE INPUT: true; the input reads as it did. -/
def tapeNewsSpec : ChangeSpec := { name := "tapeNews", fn := fun _ => fun
  | [d] => { results := [.lit (.bool true)], args := [d] }
  | _ => none }
def tapeNewsRow : OpenClaim := { program := "ytikfgeieaadeiaa", sum := "bd9aec57c085dbfcda3e379b39df070a988bf5b86e32cc107e128470f7cfb09a", func := "windbreak/windbreaklaw04.TapeNews", spec := "tapeNews", apart := false }
def TapeNewsSaid : Prop := tapeNewsRow.holds Try.pinned (OpenSpec.ofChange tapeNewsSpec)

/-- ITS FALSE NEIGHBOUR: 'it returns false'. Refute it at one input. -/
def tapeNewsWrong : ChangeSpec := { name := "tapeNews", fn := fun _ => fun
  | [d] => { results := [.lit (.bool false)], args := [d] }
  | _ => none }
def TapeNewsWrongFalsely : Prop := tapeNewsRow.holds Try.pinned (OpenSpec.ofChange tapeNewsWrong)

/-- 'windbreaklaw01.NatSmalls': WHATEVER THE INPUT: true; the input reads as it did. -/
def natSmallsSpec : ChangeSpec := { name := "natSmalls", fn := fun _ => fun
  | [d1, d2] => { results := [.lit (.bool true)], args := [d1, d2] }
  | _ => none }
def natSmallsRow : OpenClaim := { program := "ytikfgeieaadeiaa", sum := "bd9aec57c085dbfcda3e379b39df070a988bf5b86e32cc107e128470f7cfb09a", func := "windbreak/windbreaklaw01.NatSmalls", spec := "natSmalls", apart := false }
def NatSmallsSaid : Prop := natSmallsRow.holds Try.pinned (OpenSpec.ofChange natSmallsSpec)

/-- ITS FALSE NEIGHBOUR: 'it returns false'. Refute it at one input. -/
def natSmallsWrong : ChangeSpec := { name := "natSmalls", fn := fun _ => fun
  | [d1, d2] => { results := [.lit (.bool false)], args := [d1, d2] }
  | _ => none }
def NatSmallsWrongFalsely : Prop := natSmallsRow.holds Try.pinned (OpenSpec.ofChange natSmallsWrong)

/-- 'windbreaklaw04.TapeTwice': WHATEVER THE INPUT: true; the input reads as it did. -/
def tapeTwiceSpec : ChangeSpec := { name := "tapeTwice", fn := fun _ => fun
  | [d1, d2, d3] => { results := [.lit (.bool true)], args := [d1, d2, d3] }
  | _ => none }
def tapeTwiceRow : OpenClaim := { program := "ytikfgeieaadeiaa", sum := "bd9aec57c085dbfcda3e379b39df070a988bf5b86e32cc107e128470f7cfb09a", func := "windbreak/windbreaklaw04.TapeTwice", spec := "tapeTwice", apart := false }
def TapeTwiceSaid : Prop := tapeTwiceRow.holds Try.pinned (OpenSpec.ofChange tapeTwiceSpec)

/-- ITS FALSE NEIGHBOUR: 'it returns false'. Refute it at one input. -/
def tapeTwiceWrong : ChangeSpec := { name := "tapeTwice", fn := fun _ => fun
  | [d1, d2, d3] => { results := [.lit (.bool false)], args := [d1, d2, d3] }
  | _ => none }
def TapeTwiceWrongFalsely : Prop := tapeTwiceRow.holds Try.pinned (OpenSpec.ofChange tapeTwiceWrong)

/-- 'windbreaklaw01.NatBits': WHATEVER THE INPUT: true; the input reads as it did. -/
def natBitsSpec : ChangeSpec := { name := "natBits", fn := fun _ => fun
  | [d1, d2] => { results := [.lit (.bool true)], args := [d1, d2] }
  | _ => none }
def natBitsRow : OpenClaim := { program := "ytikfgeieaadeiaa", sum := "bd9aec57c085dbfcda3e379b39df070a988bf5b86e32cc107e128470f7cfb09a", func := "windbreak/windbreaklaw01.NatBits", spec := "natBits", apart := false }
def NatBitsSaid : Prop := natBitsRow.holds Try.pinned (OpenSpec.ofChange natBitsSpec)

/-- ITS FALSE NEIGHBOUR: 'it returns false'. Refute it at one input. -/
def natBitsWrong : ChangeSpec := { name := "natBits", fn := fun _ => fun
  | [d1, d2] => { results := [.lit (.bool false)], args := [d1, d2] }
  | _ => none }
def NatBitsWrongFalsely : Prop := natBitsRow.holds Try.pinned (OpenSpec.ofChange natBitsWrong)

/-- 'windbreaklaw04.TapeTakes': WHATEVER THE INPUT: true; the input reads as it did. -/
def tapeTakesSpec : ChangeSpec := { name := "tapeTakes", fn := fun _ => fun
  | [d1, d2] => { results := [.lit (.bool true)], args := [d1, d2] }
  | _ => none }
def tapeTakesRow : OpenClaim := { program := "ytikfgeieaadeiaa", sum := "bd9aec57c085dbfcda3e379b39df070a988bf5b86e32cc107e128470f7cfb09a", func := "windbreak/windbreaklaw04.TapeTakes", spec := "tapeTakes", apart := false }
def TapeTakesSaid : Prop := tapeTakesRow.holds Try.pinned (OpenSpec.ofChange tapeTakesSpec)

/-- ITS FALSE NEIGHBOUR: 'it returns false'. Refute it at one input. -/
def tapeTakesWrong : ChangeSpec := { name := "tapeTakes", fn := fun _ => fun
  | [d1, d2] => { results := [.lit (.bool false)], args := [d1, d2] }
  | _ => none }
def TapeTakesWrongFalsely : Prop := tapeTakesRow.holds Try.pinned (OpenSpec.ofChange tapeTakesWrong)

/- THE SECOND FORM. 'bulk': how many values and letters a reading holds, each counted each time it is reached (what is shared counts as often as it is met; a slice's spare places count too). A statement '..UptoSaid' is the law's where the arguments, and the package variables that the reading takes, are together of bulk at most 1048576: NARROWER than '..Said'. Prove '..Said' where nothing that the law and all that it calls make is longer than what came in: it says more and counts as full. Else prove '..UptoSaid'. A law counts once. -/
mutual
def uptoBulk {H : Type} : DataW H → Nat
  | .lit (.string bytes) => bytes.length + 1
  | .lit _ => 1
  | .nil => 1
  | .ptr d => uptoBulk d + 1
  | .slice elems spare => uptoBulkAll elems + uptoBulkAll spare + 1
  | .agg parts => uptoBulkAll parts + 1
  | .iface _ d => uptoBulk d + 1
  | .map entries => uptoBulkEntries entries + 1
  | .held _ => 1
def uptoBulkAll {H : Type} : List (DataW H) → Nat
  | [] => 0
  | d :: r => uptoBulk d + uptoBulkAll r
def uptoBulkEntries {H : Type} : List (Lit × DataW H) → Nat
  | [] => 0
  | x :: r => uptoBulkEntry x + uptoBulkEntries r
def uptoBulkEntry {H : Type} : Lit × DataW H → Nat
  | (.string bytes, d) => bytes.length + uptoBulk d + 1
  | (_, d) => uptoBulk d + 1
 end
def uptoSmall : (H : Type) → List (DataW H) → Bool := fun _ ds => decide (uptoBulkAll ds ≤ 1048576)
def OpenSpec.upto (s : _root_.Go.ChangeSpec) : _root_.Go.OpenSpec := { _root_.Go.OpenSpec.ofChange s with cond := some uptoSmall }

/-- 'windbreaklaw01.NatRights', WHERE WHAT IT READS IS OF BULK AT MOST 1048576: true; the input reads as it did. -/
def natRightsUptoRow : OpenClaim := { program := "ytikfgeieaadeiaa", sum := "bd9aec57c085dbfcda3e379b39df070a988bf5b86e32cc107e128470f7cfb09a", func := "windbreak/windbreaklaw01.NatRights", spec := "natRights", apart := false, narrowed := true }
def NatRightsUptoSaid : Prop := natRightsUptoRow.holds Try.pinned (OpenSpec.upto natRightsSpec)

/-- 'windbreaklaw04.TapeNews', WHERE WHAT IT READS IS OF BULK AT MOST 1048576: true; the input reads as it did. -/
def tapeNewsUptoRow : OpenClaim := { program := "ytikfgeieaadeiaa", sum := "bd9aec57c085dbfcda3e379b39df070a988bf5b86e32cc107e128470f7cfb09a", func := "windbreak/windbreaklaw04.TapeNews", spec := "tapeNews", apart := false, narrowed := true }
def TapeNewsUptoSaid : Prop := tapeNewsUptoRow.holds Try.pinned (OpenSpec.upto tapeNewsSpec)

/-- 'windbreaklaw01.NatSmalls', WHERE WHAT IT READS IS OF BULK AT MOST 1048576: true; the input reads as it did. -/
def natSmallsUptoRow : OpenClaim := { program := "ytikfgeieaadeiaa", sum := "bd9aec57c085dbfcda3e379b39df070a988bf5b86e32cc107e128470f7cfb09a", func := "windbreak/windbreaklaw01.NatSmalls", spec := "natSmalls", apart := false, narrowed := true }
def NatSmallsUptoSaid : Prop := natSmallsUptoRow.holds Try.pinned (OpenSpec.upto natSmallsSpec)

/-- 'windbreaklaw04.TapeTwice', WHERE WHAT IT READS IS OF BULK AT MOST 1048576: true; the input reads as it did. -/
def tapeTwiceUptoRow : OpenClaim := { program := "ytikfgeieaadeiaa", sum := "bd9aec57c085dbfcda3e379b39df070a988bf5b86e32cc107e128470f7cfb09a", func := "windbreak/windbreaklaw04.TapeTwice", spec := "tapeTwice", apart := false, narrowed := true }
def TapeTwiceUptoSaid : Prop := tapeTwiceUptoRow.holds Try.pinned (OpenSpec.upto tapeTwiceSpec)

/-- 'windbreaklaw01.NatBits', WHERE WHAT IT READS IS OF BULK AT MOST 1048576: true; the input reads as it did. -/
def natBitsUptoRow : OpenClaim := { program := "ytikfgeieaadeiaa", sum := "bd9aec57c085dbfcda3e379b39df070a988bf5b86e32cc107e128470f7cfb09a", func := "windbreak/windbreaklaw01.NatBits", spec := "natBits", apart := false, narrowed := true }
def NatBitsUptoSaid : Prop := natBitsUptoRow.holds Try.pinned (OpenSpec.upto natBitsSpec)

/-- 'windbreaklaw04.TapeTakes', WHERE WHAT IT READS IS OF BULK AT MOST 1048576: true; the input reads as it did. -/
def tapeTakesUptoRow : OpenClaim := { program := "ytikfgeieaadeiaa", sum := "bd9aec57c085dbfcda3e379b39df070a988bf5b86e32cc107e128470f7cfb09a", func := "windbreak/windbreaklaw04.TapeTakes", spec := "tapeTakes", apart := false, narrowed := true }
def TapeTakesUptoSaid : Prop := tapeTakesUptoRow.holds Try.pinned (OpenSpec.upto tapeTakesSpec)

end Rows
end Go.Proofs.Ytikfgeieaadeiaa
