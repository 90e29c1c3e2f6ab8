/-
  No cell of these rows narrows 'for every input' (looked for: loops, veiled, ifaces, maps, wideKeys, modest, calm, conditions, laid).
  DERIVED. THE GIVEN ROWS OF THIS SEAT. 6 by the template 'for every input the law returns true; each argument reads behind the call as it read before'; 0 by the template 'total and deterministic' (their statements: YteabkedhdgnhgaaTotals.lean).
  GIVEN WITH THE SEED: the statements are not yours to turn. If you find one false, say at which input.
  Laid BY PROGRAM, IN A SANDBOX (cutbox-rows.mjs): the forced cells as the released guide's own fill.sh prints them over the translation 406f35b49e1e6960… (all of the seat's roots in one cut). By AI agents, Wed Nov 11 2026. No macro, syntax, notation, axiom, sorry.
-/
import Derived.Test.YteabkedhdgnhgaaChecked
import GoSem.Claim
import GoSem.ClaimJoined
import GoSem.ClaimMapViews
import Derived.JoinedTies
import Derived.KernelRfl
namespace Go.Proofs.Yteabkedhdgnhgaa
/- THE CELL 'sum', in the pinned program and in every row, IS THE sha256 OF THE DUMP (.gsa) THAT YteabkedhdgnhgaaProg.lean LOADS. Nothing in Lean hashes anything: it is a label: what it is worth is what the hold of that sum in a sandbox is worth. -/
noncomputable def Try.pinned : Pinned := { name := "yteabkedhdgnhgaa", sum := "406f35b49e1e69605903da98b977a207a855f9a425ae89f597b3f1708a90ccc8", checked := Try.checked }
namespace Rows
def none {H : Type} : Left H := { results := [], args := [] }

/-- 'windbreaklaw04.TapeTwice': WHATEVER THE INPUT: true; the input reads as it did. -/
def tapeTwiceSpec : ChangeSpec := { name := "tapeTwice", fn := fun _ => fun
  | [d1, d2, d3] => { results := [.lit (.bool true)], args := [d1, d2, d3] }
  | _ => none }
def tapeTwiceRow : OpenClaim := { program := "yteabkedhdgnhgaa", sum := "406f35b49e1e69605903da98b977a207a855f9a425ae89f597b3f1708a90ccc8", func := "windbreak/windbreaklaw04.TapeTwice", spec := "tapeTwice", apart := false }
def TapeTwiceSaid : Prop := tapeTwiceRow.holds Try.pinned (OpenSpec.ofChange tapeTwiceSpec)

/-- ITS FALSE NEIGHBOUR: 'it returns false'. Refute it at one input. -/
def tapeTwiceWrong : ChangeSpec := { name := "tapeTwice", fn := fun _ => fun
  | [d1, d2, d3] => { results := [.lit (.bool false)], args := [d1, d2, d3] }
  | _ => none }
def TapeTwiceWrongFalsely : Prop := tapeTwiceRow.holds Try.pinned (OpenSpec.ofChange tapeTwiceWrong)

/-- 'windbreaklaw04.TapeTakes': WHATEVER THE INPUT: true; the input reads as it did. -/
def tapeTakesSpec : ChangeSpec := { name := "tapeTakes", fn := fun _ => fun
  | [d1, d2] => { results := [.lit (.bool true)], args := [d1, d2] }
  | _ => none }
def tapeTakesRow : OpenClaim := { program := "yteabkedhdgnhgaa", sum := "406f35b49e1e69605903da98b977a207a855f9a425ae89f597b3f1708a90ccc8", func := "windbreak/windbreaklaw04.TapeTakes", spec := "tapeTakes", apart := false }
def TapeTakesSaid : Prop := tapeTakesRow.holds Try.pinned (OpenSpec.ofChange tapeTakesSpec)

/-- ITS FALSE NEIGHBOUR: 'it returns false'. Refute it at one input. -/
def tapeTakesWrong : ChangeSpec := { name := "tapeTakes", fn := fun _ => fun
  | [d1, d2] => { results := [.lit (.bool false)], args := [d1, d2] }
  | _ => none }
def TapeTakesWrongFalsely : Prop := tapeTakesRow.holds Try.pinned (OpenSpec.ofChange tapeTakesWrong)

/-- 'windbreaklaw05.PrimeTells': WHATEVER THE INPUT: true; the input reads as it did. -/
def primeTellsSpec : ChangeSpec := { name := "primeTells", fn := fun _ => fun
  | [d] => { results := [.lit (.bool true)], args := [d] }
  | _ => none }
def primeTellsRow : OpenClaim := { program := "yteabkedhdgnhgaa", sum := "406f35b49e1e69605903da98b977a207a855f9a425ae89f597b3f1708a90ccc8", func := "windbreak/windbreaklaw05.PrimeTells", spec := "primeTells", unfollowed := true, recurses := true, apart := false }
def PrimeTellsSaid : Prop := primeTellsRow.holds Try.pinned (OpenSpec.ofChange primeTellsSpec)

/-- ITS FALSE NEIGHBOUR: 'it returns false'. Refute it at one input. -/
def primeTellsWrong : ChangeSpec := { name := "primeTells", fn := fun _ => fun
  | [d] => { results := [.lit (.bool false)], args := [d] }
  | _ => none }
def PrimeTellsWrongFalsely : Prop := primeTellsRow.holds Try.pinned (OpenSpec.ofChange primeTellsWrong)

/-- 'windbreaklaw05.PrimeLeast': WHATEVER THE INPUT: true; the input reads as it did. -/
def primeLeastSpec : ChangeSpec := { name := "primeLeast", fn := fun _ => fun
  | [d] => { results := [.lit (.bool true)], args := [d] }
  | _ => none }
def primeLeastRow : OpenClaim := { program := "yteabkedhdgnhgaa", sum := "406f35b49e1e69605903da98b977a207a855f9a425ae89f597b3f1708a90ccc8", func := "windbreak/windbreaklaw05.PrimeLeast", spec := "primeLeast", unfollowed := true, recurses := true, apart := false }
def PrimeLeastSaid : Prop := primeLeastRow.holds Try.pinned (OpenSpec.ofChange primeLeastSpec)

/-- ITS FALSE NEIGHBOUR: 'it returns false'. Refute it at one input. -/
def primeLeastWrong : ChangeSpec := { name := "primeLeast", fn := fun _ => fun
  | [d] => { results := [.lit (.bool false)], args := [d] }
  | _ => none }
def PrimeLeastWrongFalsely : Prop := primeLeastRow.holds Try.pinned (OpenSpec.ofChange primeLeastWrong)

/-- 'windbreaklaw05.PrimeParts': WHATEVER THE INPUT: true; the input reads as it did. -/
def primePartsSpec : ChangeSpec := { name := "primeParts", fn := fun _ => fun
  | [d] => { results := [.lit (.bool true)], args := [d] }
  | _ => none }
def primePartsRow : OpenClaim := { program := "yteabkedhdgnhgaa", sum := "406f35b49e1e69605903da98b977a207a855f9a425ae89f597b3f1708a90ccc8", func := "windbreak/windbreaklaw05.PrimeParts", spec := "primeParts", unfollowed := true, recurses := true, apart := false }
def PrimePartsSaid : Prop := primePartsRow.holds Try.pinned (OpenSpec.ofChange primePartsSpec)

/-- ITS FALSE NEIGHBOUR: 'it returns false'. Refute it at one input. -/
def primePartsWrong : ChangeSpec := { name := "primeParts", fn := fun _ => fun
  | [d] => { results := [.lit (.bool false)], args := [d] }
  | _ => none }
def PrimePartsWrongFalsely : Prop := primePartsRow.holds Try.pinned (OpenSpec.ofChange primePartsWrong)

/-- 'windbreaklaw01.NatParses': WHATEVER THE INPUT: true; the input reads as it did. -/
def natParsesSpec : ChangeSpec := { name := "natParses", fn := fun _ => fun
  | [d] => { results := [.lit (.bool true)], args := [d] }
  | _ => none }
def natParsesRow : OpenClaim := { program := "yteabkedhdgnhgaa", sum := "406f35b49e1e69605903da98b977a207a855f9a425ae89f597b3f1708a90ccc8", func := "windbreak/windbreaklaw01.NatParses", spec := "natParses", inPlace := ["math/bits.Add64"], apart := false }
def NatParsesSaid : Prop := natParsesRow.holds Try.pinned (OpenSpec.ofChange natParsesSpec)

/-- ITS FALSE NEIGHBOUR: 'it returns false'. Refute it at one input. -/
def natParsesWrong : ChangeSpec := { name := "natParses", fn := fun _ => fun
  | [d] => { results := [.lit (.bool false)], args := [d] }
  | _ => none }
def NatParsesWrongFalsely : Prop := natParsesRow.holds Try.pinned (OpenSpec.ofChange natParsesWrong)

/- THE SECOND FORM. 'bulk': how many values and letters a reading holds, each counted each time it is reached (what is shared counts as often as it is met; a slice's spare places count too). A statement '..UptoSaid' is the law's where the arguments, and the package variables that the reading takes, are together of bulk at most 1048576: NARROWER than '..Said'. Prove '..Said' where nothing that the law and all that it calls make is longer than what came in: it says more and counts as full. Else prove '..UptoSaid'. A law counts once. -/
mutual
def uptoBulk {H : Type} : DataW H → Nat
  | .lit (.string bytes) => bytes.length + 1
  | .lit _ => 1
  | .nil => 1
  | .ptr d => uptoBulk d + 1
  | .slice elems spare => uptoBulkAll elems + uptoBulkAll spare + 1
  | .agg parts => uptoBulkAll parts + 1
  | .iface _ d => uptoBulk d + 1
  | .map entries => uptoBulkEntries entries + 1
  | .held _ => 1
def uptoBulkAll {H : Type} : List (DataW H) → Nat
  | [] => 0
  | d :: r => uptoBulk d + uptoBulkAll r
def uptoBulkEntries {H : Type} : List (Lit × DataW H) → Nat
  | [] => 0
  | x :: r => uptoBulkEntry x + uptoBulkEntries r
def uptoBulkEntry {H : Type} : Lit × DataW H → Nat
  | (.string bytes, d) => bytes.length + uptoBulk d + 1
  | (_, d) => uptoBulk d + 1
 end
def uptoSmall : (H : Type) → List (DataW H) → Bool := fun _ ds => decide (uptoBulkAll ds ≤ 1048576)
def OpenSpec.upto (s : _root_.Go.ChangeSpec) : _root_.Go.OpenSpec := { _root_.Go.OpenSpec.ofChange s with cond := some uptoSmall }

/-- 'windbreaklaw04.TapeTwice', WHERE WHAT IT READS IS OF BULK AT MOST 1048576: true; the input reads as it did. -/
def tapeTwiceUptoRow : OpenClaim := { program := "yteabkedhdgnhgaa", sum := "406f35b49e1e69605903da98b977a207a855f9a425ae89f597b3f1708a90ccc8", func := "windbreak/windbreaklaw04.TapeTwice", spec := "tapeTwice", apart := false, narrowed := true }
def TapeTwiceUptoSaid : Prop := tapeTwiceUptoRow.holds Try.pinned (OpenSpec.upto tapeTwiceSpec)

/-- 'windbreaklaw04.TapeTakes', WHERE WHAT IT READS IS OF BULK AT MOST 1048576: true; the input reads as it did. -/
def tapeTakesUptoRow : OpenClaim := { program := "yteabkedhdgnhgaa", sum := "406f35b49e1e69605903da98b977a207a855f9a425ae89f597b3f1708a90ccc8", func := "windbreak/windbreaklaw04.TapeTakes", spec := "tapeTakes", apart := false, narrowed := true }
def TapeTakesUptoSaid : Prop := tapeTakesUptoRow.holds Try.pinned (OpenSpec.upto tapeTakesSpec)

/-- 'windbreaklaw05.PrimeTells', WHERE WHAT IT READS IS OF BULK AT MOST 1048576: true; the input reads as it did. -/
def primeTellsUptoRow : OpenClaim := { program := "yteabkedhdgnhgaa", sum := "406f35b49e1e69605903da98b977a207a855f9a425ae89f597b3f1708a90ccc8", func := "windbreak/windbreaklaw05.PrimeTells", spec := "primeTells", unfollowed := true, recurses := true, apart := false, narrowed := true }
def PrimeTellsUptoSaid : Prop := primeTellsUptoRow.holds Try.pinned (OpenSpec.upto primeTellsSpec)

/-- 'windbreaklaw05.PrimeLeast', WHERE WHAT IT READS IS OF BULK AT MOST 1048576: true; the input reads as it did. -/
def primeLeastUptoRow : OpenClaim := { program := "yteabkedhdgnhgaa", sum := "406f35b49e1e69605903da98b977a207a855f9a425ae89f597b3f1708a90ccc8", func := "windbreak/windbreaklaw05.PrimeLeast", spec := "primeLeast", unfollowed := true, recurses := true, apart := false, narrowed := true }
def PrimeLeastUptoSaid : Prop := primeLeastUptoRow.holds Try.pinned (OpenSpec.upto primeLeastSpec)

/-- 'windbreaklaw05.PrimeParts', WHERE WHAT IT READS IS OF BULK AT MOST 1048576: true; the input reads as it did. -/
def primePartsUptoRow : OpenClaim := { program := "yteabkedhdgnhgaa", sum := "406f35b49e1e69605903da98b977a207a855f9a425ae89f597b3f1708a90ccc8", func := "windbreak/windbreaklaw05.PrimeParts", spec := "primeParts", unfollowed := true, recurses := true, apart := false, narrowed := true }
def PrimePartsUptoSaid : Prop := primePartsUptoRow.holds Try.pinned (OpenSpec.upto primePartsSpec)

/-- 'windbreaklaw01.NatParses', WHERE WHAT IT READS IS OF BULK AT MOST 1048576: true; the input reads as it did. -/
def natParsesUptoRow : OpenClaim := { program := "yteabkedhdgnhgaa", sum := "406f35b49e1e69605903da98b977a207a855f9a425ae89f597b3f1708a90ccc8", func := "windbreak/windbreaklaw01.NatParses", spec := "natParses", inPlace := ["math/bits.Add64"], apart := false, narrowed := true }
def NatParsesUptoSaid : Prop := natParsesUptoRow.holds Try.pinned (OpenSpec.upto natParsesSpec)

end Rows
end Go.Proofs.Yteabkedhdgnhgaa
