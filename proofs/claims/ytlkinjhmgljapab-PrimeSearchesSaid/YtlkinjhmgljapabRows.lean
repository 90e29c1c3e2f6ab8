/-
  No cell of these rows narrows 'for every input' (looked for: loops, veiled, ifaces, maps, wideKeys, modest, calm, conditions, laid).
  DERIVED. THE GIVEN ROWS OF THIS SEAT. 9 by the template 'for every input the law returns true; each argument reads behind the call as it read before'; 0 by the template 'total and deterministic' (their statements: YtlkinjhmgljapabTotals.lean).
  GIVEN WITH THE SEED: the statements are not yours to turn. If you find one false, say at which input.
  Laid BY PROGRAM, IN A SANDBOX (cutbox-rows.mjs): the forced cells as the released guide's own fill.sh prints them over the translation c91c0090921b8d8f… (all of the seat's roots in one cut). By AI agents, Wed Nov 11 2026. No macro, syntax, notation, axiom, sorry.
-/
import Derived.Test.YtlkinjhmgljapabChecked
import GoSem.Claim
import GoSem.ClaimJoined
import GoSem.ClaimMapViews
import Derived.JoinedTies
import Derived.KernelRfl
namespace Go.Proofs.Ytlkinjhmgljapab
/- THE CELL 'sum', in the pinned program and in every row, IS THE sha256 OF THE DUMP (.gsa) THAT YtlkinjhmgljapabProg.lean LOADS. Nothing in Lean hashes anything: it is a label: what it is worth is what the hold of that sum in a sandbox is worth. -/
noncomputable def Try.pinned : Pinned := { name := "ytlkinjhmgljapab", sum := "c91c0090921b8d8f6aec9b75219cba06d6ec526f0f42f60ce23486b207333b56", checked := Try.checked }
namespace Rows
def none {H : Type} : Left H := { results := [], args := [] }

/-- 'windbreaklaw04.TapeDraws': WHATEVER THE INPUT: true; the input reads as it did. -/
def tapeDrawsSpec : ChangeSpec := { name := "tapeDraws", fn := fun _ => fun
  | [d1, d2] => { results := [.lit (.bool true)], args := [d1, d2] }
  | _ => none }
def tapeDrawsRow : OpenClaim := { program := "ytlkinjhmgljapab", sum := "c91c0090921b8d8f6aec9b75219cba06d6ec526f0f42f60ce23486b207333b56", func := "windbreak/windbreaklaw04.TapeDraws", spec := "tapeDraws", inPlace := ["math/bits.Sub64"], unfollowed := true, recurses := true, plainKeys := false, apart := false }
def TapeDrawsSaid : Prop := tapeDrawsRow.holds Try.pinned (OpenSpec.ofChange tapeDrawsSpec)

/-- ITS FALSE NEIGHBOUR: 'it returns false'. Refute it at one input. -/
def tapeDrawsWrong : ChangeSpec := { name := "tapeDraws", fn := fun _ => fun
  | [d1, d2] => { results := [.lit (.bool false)], args := [d1, d2] }
  | _ => none }
def TapeDrawsWrongFalsely : Prop := tapeDrawsRow.holds Try.pinned (OpenSpec.ofChange tapeDrawsWrong)

/-- 'windbreaklaw04.TapeHangs': WHATEVER THE INPUT: true; the input reads as it did. -/
def tapeHangsSpec : ChangeSpec := { name := "tapeHangs", fn := fun _ => fun
  | [d1, d2, d3] => { results := [.lit (.bool true)], args := [d1, d2, d3] }
  | _ => none }
def tapeHangsRow : OpenClaim := { program := "ytlkinjhmgljapab", sum := "c91c0090921b8d8f6aec9b75219cba06d6ec526f0f42f60ce23486b207333b56", func := "windbreak/windbreaklaw04.TapeHangs", spec := "tapeHangs", inPlace := ["math/bits.Sub64"], unfollowed := true, recurses := true, plainKeys := false, apart := false }
def TapeHangsSaid : Prop := tapeHangsRow.holds Try.pinned (OpenSpec.ofChange tapeHangsSpec)

/-- ITS FALSE NEIGHBOUR: 'it returns false'. Refute it at one input. -/
def tapeHangsWrong : ChangeSpec := { name := "tapeHangs", fn := fun _ => fun
  | [d1, d2, d3] => { results := [.lit (.bool false)], args := [d1, d2, d3] }
  | _ => none }
def TapeHangsWrongFalsely : Prop := tapeHangsRow.holds Try.pinned (OpenSpec.ofChange tapeHangsWrong)

/-- 'windbreaklaw04.TapeEven': WHATEVER THE INPUT: true; the input reads as it did. -/
def tapeEvenSpec : ChangeSpec := { name := "tapeEven", fn := fun _ => fun
  | [d] => { results := [.lit (.bool true)], args := [d] }
  | _ => none }
def tapeEvenRow : OpenClaim := { program := "ytlkinjhmgljapab", sum := "c91c0090921b8d8f6aec9b75219cba06d6ec526f0f42f60ce23486b207333b56", func := "windbreak/windbreaklaw04.TapeEven", spec := "tapeEven", inPlace := ["math/bits.Sub64"], unfollowed := true, recurses := true, plainKeys := false, apart := false }
def TapeEvenSaid : Prop := tapeEvenRow.holds Try.pinned (OpenSpec.ofChange tapeEvenSpec)

/-- ITS FALSE NEIGHBOUR: 'it returns false'. Refute it at one input. -/
def tapeEvenWrong : ChangeSpec := { name := "tapeEven", fn := fun _ => fun
  | [d] => { results := [.lit (.bool false)], args := [d] }
  | _ => none }
def TapeEvenWrongFalsely : Prop := tapeEvenRow.holds Try.pinned (OpenSpec.ofChange tapeEvenWrong)

/-- 'windbreaklaw05.PrimeSearches': WHATEVER THE INPUT: true; the input reads as it did. -/
def primeSearchesSpec : ChangeSpec := { name := "primeSearches", fn := fun _ => fun
  | [d1, d2, d3] => { results := [.lit (.bool true)], args := [d1, d2, d3] }
  | _ => none }
def primeSearchesRow : OpenClaim := { program := "ytlkinjhmgljapab", sum := "c91c0090921b8d8f6aec9b75219cba06d6ec526f0f42f60ce23486b207333b56", func := "windbreak/windbreaklaw05.PrimeSearches", spec := "primeSearches", unfollowed := true, recurses := true, plainKeys := false, apart := false }
def PrimeSearchesSaid : Prop := primeSearchesRow.holds Try.pinned (OpenSpec.ofChange primeSearchesSpec)

/-- ITS FALSE NEIGHBOUR: 'it returns false'. Refute it at one input. -/
def primeSearchesWrong : ChangeSpec := { name := "primeSearches", fn := fun _ => fun
  | [d1, d2, d3] => { results := [.lit (.bool false)], args := [d1, d2, d3] }
  | _ => none }
def PrimeSearchesWrongFalsely : Prop := primeSearchesRow.holds Try.pinned (OpenSpec.ofChange primeSearchesWrong)

/-- 'windbreaklaw05.PrimePairs': WHATEVER THE INPUT: true; the input reads as it did. -/
def primePairsSpec : ChangeSpec := { name := "primePairs", fn := fun _ => fun
  | [d1, d2, d3] => { results := [.lit (.bool true)], args := [d1, d2, d3] }
  | _ => none }
def primePairsRow : OpenClaim := { program := "ytlkinjhmgljapab", sum := "c91c0090921b8d8f6aec9b75219cba06d6ec526f0f42f60ce23486b207333b56", func := "windbreak/windbreaklaw05.PrimePairs", spec := "primePairs", inPlace := ["math/bits.Add64", "math/bits.Sub64"], unfollowed := true, recurses := true, named := ["math/bits.divideError", "math/bits.overflowError"], plainKeys := false, apart := false }
def PrimePairsSaid : Prop := primePairsRow.holds Try.pinned (OpenSpec.ofChange primePairsSpec)

/-- ITS FALSE NEIGHBOUR: 'it returns false'. Refute it at one input. -/
def primePairsWrong : ChangeSpec := { name := "primePairs", fn := fun _ => fun
  | [d1, d2, d3] => { results := [.lit (.bool false)], args := [d1, d2, d3] }
  | _ => none }
def PrimePairsWrongFalsely : Prop := primePairsRow.holds Try.pinned (OpenSpec.ofChange primePairsWrong)

/-- 'windbreaklaw20.SplitmaskOnce': WHATEVER THE INPUT: true; the input reads as it did. -/
def splitmaskOnceSpec : ChangeSpec := { name := "splitmaskOnce", fn := fun _ => fun
  | [d1, d2] => { results := [.lit (.bool true)], args := [d1, d2] }
  | _ => none }
def splitmaskOnceRow : OpenClaim := { program := "ytlkinjhmgljapab", sum := "c91c0090921b8d8f6aec9b75219cba06d6ec526f0f42f60ce23486b207333b56", func := "windbreak/windbreaklaw20.SplitmaskOnce", spec := "splitmaskOnce", inPlace := ["math/bits.Sub64"], unfollowed := true, recurses := true, plainKeys := false, apart := false }
def SplitmaskOnceSaid : Prop := splitmaskOnceRow.holds Try.pinned (OpenSpec.ofChange splitmaskOnceSpec)

/-- ITS FALSE NEIGHBOUR: 'it returns false'. Refute it at one input. -/
def splitmaskOnceWrong : ChangeSpec := { name := "splitmaskOnce", fn := fun _ => fun
  | [d1, d2] => { results := [.lit (.bool false)], args := [d1, d2] }
  | _ => none }
def SplitmaskOnceWrongFalsely : Prop := splitmaskOnceRow.holds Try.pinned (OpenSpec.ofChange splitmaskOnceWrong)

/-- 'windbreaklaw20.SplitmaskShuffles': WHATEVER THE INPUT: true; the input reads as it did. -/
def splitmaskShufflesSpec : ChangeSpec := { name := "splitmaskShuffles", fn := fun _ => fun
  | [d1, d2] => { results := [.lit (.bool true)], args := [d1, d2] }
  | _ => none }
def splitmaskShufflesRow : OpenClaim := { program := "ytlkinjhmgljapab", sum := "c91c0090921b8d8f6aec9b75219cba06d6ec526f0f42f60ce23486b207333b56", func := "windbreak/windbreaklaw20.SplitmaskShuffles", spec := "splitmaskShuffles", inPlace := ["math/bits.Sub64"], unfollowed := true, recurses := true, plainKeys := false, apart := false }
def SplitmaskShufflesSaid : Prop := splitmaskShufflesRow.holds Try.pinned (OpenSpec.ofChange splitmaskShufflesSpec)

/-- ITS FALSE NEIGHBOUR: 'it returns false'. Refute it at one input. -/
def splitmaskShufflesWrong : ChangeSpec := { name := "splitmaskShuffles", fn := fun _ => fun
  | [d1, d2] => { results := [.lit (.bool false)], args := [d1, d2] }
  | _ => none }
def SplitmaskShufflesWrongFalsely : Prop := splitmaskShufflesRow.holds Try.pinned (OpenSpec.ofChange splitmaskShufflesWrong)

/-- 'windbreaklaw20.SplitmaskFinds': WHATEVER THE INPUT: true; the input reads as it did. -/
def splitmaskFindsSpec : ChangeSpec := { name := "splitmaskFinds", fn := fun _ => fun
  | [d1, d2, d3] => { results := [.lit (.bool true)], args := [d1, d2, d3] }
  | _ => none }
def splitmaskFindsRow : OpenClaim := { program := "ytlkinjhmgljapab", sum := "c91c0090921b8d8f6aec9b75219cba06d6ec526f0f42f60ce23486b207333b56", func := "windbreak/windbreaklaw20.SplitmaskFinds", spec := "splitmaskFinds", inPlace := ["math/bits.Sub64"], unfollowed := true, recurses := true, plainKeys := false, apart := false }
def SplitmaskFindsSaid : Prop := splitmaskFindsRow.holds Try.pinned (OpenSpec.ofChange splitmaskFindsSpec)

/-- ITS FALSE NEIGHBOUR: 'it returns false'. Refute it at one input. -/
def splitmaskFindsWrong : ChangeSpec := { name := "splitmaskFinds", fn := fun _ => fun
  | [d1, d2, d3] => { results := [.lit (.bool false)], args := [d1, d2, d3] }
  | _ => none }
def SplitmaskFindsWrongFalsely : Prop := splitmaskFindsRow.holds Try.pinned (OpenSpec.ofChange splitmaskFindsWrong)

/-- 'windbreaklaw20.SplitmaskScripts': WHATEVER THE INPUT: true; the input reads as it did. -/
def splitmaskScriptsSpec : ChangeSpec := { name := "splitmaskScripts", fn := fun _ => fun
  | [d1, d2] => { results := [.lit (.bool true)], args := [d1, d2] }
  | _ => none }
def splitmaskScriptsRow : OpenClaim := { program := "ytlkinjhmgljapab", sum := "c91c0090921b8d8f6aec9b75219cba06d6ec526f0f42f60ce23486b207333b56", func := "windbreak/windbreaklaw20.SplitmaskScripts", spec := "splitmaskScripts", inPlace := ["math/bits.Sub64"], unfollowed := true, recurses := true, plainKeys := false, apart := false }
def SplitmaskScriptsSaid : Prop := splitmaskScriptsRow.holds Try.pinned (OpenSpec.ofChange splitmaskScriptsSpec)

/-- ITS FALSE NEIGHBOUR: 'it returns false'. Refute it at one input. -/
def splitmaskScriptsWrong : ChangeSpec := { name := "splitmaskScripts", fn := fun _ => fun
  | [d1, d2] => { results := [.lit (.bool false)], args := [d1, d2] }
  | _ => none }
def SplitmaskScriptsWrongFalsely : Prop := splitmaskScriptsRow.holds Try.pinned (OpenSpec.ofChange splitmaskScriptsWrong)

/- THE SECOND FORM. 'bulk': how many values and letters a reading holds, each counted each time it is reached (what is shared counts as often as it is met; a slice's spare places count too). A statement '..UptoSaid' is the law's where the arguments, and the package variables that the reading takes, are together of bulk at most 1048576: NARROWER than '..Said'. Prove '..Said' where nothing that the law and all that it calls make is longer than what came in: it says more and counts as full. Else prove '..UptoSaid'. A law counts once. -/
mutual
def uptoBulk {H : Type} : DataW H → Nat
  | .lit (.string bytes) => bytes.length + 1
  | .lit _ => 1
  | .nil => 1
  | .ptr d => uptoBulk d + 1
  | .slice elems spare => uptoBulkAll elems + uptoBulkAll spare + 1
  | .agg parts => uptoBulkAll parts + 1
  | .iface _ d => uptoBulk d + 1
  | .map entries => uptoBulkEntries entries + 1
  | .held _ => 1
def uptoBulkAll {H : Type} : List (DataW H) → Nat
  | [] => 0
  | d :: r => uptoBulk d + uptoBulkAll r
def uptoBulkEntries {H : Type} : List (Lit × DataW H) → Nat
  | [] => 0
  | x :: r => uptoBulkEntry x + uptoBulkEntries r
def uptoBulkEntry {H : Type} : Lit × DataW H → Nat
  | (.string bytes, d) => bytes.length + uptoBulk d + 1
  | (_, d) => uptoBulk d + 1
 end
def uptoSmall : (H : Type) → List (DataW H) → Bool := fun _ ds => decide (uptoBulkAll ds ≤ 1048576)
def OpenSpec.upto (s : _root_.Go.ChangeSpec) : _root_.Go.OpenSpec := { _root_.Go.OpenSpec.ofChange s with cond := some uptoSmall }

/-- 'windbreaklaw04.TapeDraws', WHERE WHAT IT READS IS OF BULK AT MOST 1048576: true; the input reads as it did. -/
def tapeDrawsUptoRow : OpenClaim := { program := "ytlkinjhmgljapab", sum := "c91c0090921b8d8f6aec9b75219cba06d6ec526f0f42f60ce23486b207333b56", func := "windbreak/windbreaklaw04.TapeDraws", spec := "tapeDraws", inPlace := ["math/bits.Sub64"], unfollowed := true, recurses := true, plainKeys := false, apart := false, narrowed := true }
def TapeDrawsUptoSaid : Prop := tapeDrawsUptoRow.holds Try.pinned (OpenSpec.upto tapeDrawsSpec)

/-- 'windbreaklaw04.TapeHangs', WHERE WHAT IT READS IS OF BULK AT MOST 1048576: true; the input reads as it did. -/
def tapeHangsUptoRow : OpenClaim := { program := "ytlkinjhmgljapab", sum := "c91c0090921b8d8f6aec9b75219cba06d6ec526f0f42f60ce23486b207333b56", func := "windbreak/windbreaklaw04.TapeHangs", spec := "tapeHangs", inPlace := ["math/bits.Sub64"], unfollowed := true, recurses := true, plainKeys := false, apart := false, narrowed := true }
def TapeHangsUptoSaid : Prop := tapeHangsUptoRow.holds Try.pinned (OpenSpec.upto tapeHangsSpec)

/-- 'windbreaklaw04.TapeEven', WHERE WHAT IT READS IS OF BULK AT MOST 1048576: true; the input reads as it did. -/
def tapeEvenUptoRow : OpenClaim := { program := "ytlkinjhmgljapab", sum := "c91c0090921b8d8f6aec9b75219cba06d6ec526f0f42f60ce23486b207333b56", func := "windbreak/windbreaklaw04.TapeEven", spec := "tapeEven", inPlace := ["math/bits.Sub64"], unfollowed := true, recurses := true, plainKeys := false, apart := false, narrowed := true }
def TapeEvenUptoSaid : Prop := tapeEvenUptoRow.holds Try.pinned (OpenSpec.upto tapeEvenSpec)

/-- 'windbreaklaw05.PrimeSearches', WHERE WHAT IT READS IS OF BULK AT MOST 1048576: true; the input reads as it did. -/
def primeSearchesUptoRow : OpenClaim := { program := "ytlkinjhmgljapab", sum := "c91c0090921b8d8f6aec9b75219cba06d6ec526f0f42f60ce23486b207333b56", func := "windbreak/windbreaklaw05.PrimeSearches", spec := "primeSearches", unfollowed := true, recurses := true, plainKeys := false, apart := false, narrowed := true }
def PrimeSearchesUptoSaid : Prop := primeSearchesUptoRow.holds Try.pinned (OpenSpec.upto primeSearchesSpec)

/-- 'windbreaklaw05.PrimePairs', WHERE WHAT IT READS IS OF BULK AT MOST 1048576: true; the input reads as it did. -/
def primePairsUptoRow : OpenClaim := { program := "ytlkinjhmgljapab", sum := "c91c0090921b8d8f6aec9b75219cba06d6ec526f0f42f60ce23486b207333b56", func := "windbreak/windbreaklaw05.PrimePairs", spec := "primePairs", inPlace := ["math/bits.Add64", "math/bits.Sub64"], unfollowed := true, recurses := true, named := ["math/bits.divideError", "math/bits.overflowError"], plainKeys := false, apart := false, narrowed := true }
def PrimePairsUptoSaid : Prop := primePairsUptoRow.holds Try.pinned (OpenSpec.upto primePairsSpec)

/-- 'windbreaklaw20.SplitmaskOnce', WHERE WHAT IT READS IS OF BULK AT MOST 1048576: true; the input reads as it did. -/
def splitmaskOnceUptoRow : OpenClaim := { program := "ytlkinjhmgljapab", sum := "c91c0090921b8d8f6aec9b75219cba06d6ec526f0f42f60ce23486b207333b56", func := "windbreak/windbreaklaw20.SplitmaskOnce", spec := "splitmaskOnce", inPlace := ["math/bits.Sub64"], unfollowed := true, recurses := true, plainKeys := false, apart := false, narrowed := true }
def SplitmaskOnceUptoSaid : Prop := splitmaskOnceUptoRow.holds Try.pinned (OpenSpec.upto splitmaskOnceSpec)

/-- 'windbreaklaw20.SplitmaskShuffles', WHERE WHAT IT READS IS OF BULK AT MOST 1048576: true; the input reads as it did. -/
def splitmaskShufflesUptoRow : OpenClaim := { program := "ytlkinjhmgljapab", sum := "c91c0090921b8d8f6aec9b75219cba06d6ec526f0f42f60ce23486b207333b56", func := "windbreak/windbreaklaw20.SplitmaskShuffles", spec := "splitmaskShuffles", inPlace := ["math/bits.Sub64"], unfollowed := true, recurses := true, plainKeys := false, apart := false, narrowed := true }
def SplitmaskShufflesUptoSaid : Prop := splitmaskShufflesUptoRow.holds Try.pinned (OpenSpec.upto splitmaskShufflesSpec)

/-- 'windbreaklaw20.SplitmaskFinds', WHERE WHAT IT READS IS OF BULK AT MOST 1048576: true; the input reads as it did. -/
def splitmaskFindsUptoRow : OpenClaim := { program := "ytlkinjhmgljapab", sum := "c91c0090921b8d8f6aec9b75219cba06d6ec526f0f42f60ce23486b207333b56", func := "windbreak/windbreaklaw20.SplitmaskFinds", spec := "splitmaskFinds", inPlace := ["math/bits.Sub64"], unfollowed := true, recurses := true, plainKeys := false, apart := false, narrowed := true }
def SplitmaskFindsUptoSaid : Prop := splitmaskFindsUptoRow.holds Try.pinned (OpenSpec.upto splitmaskFindsSpec)

/-- 'windbreaklaw20.SplitmaskScripts', WHERE WHAT IT READS IS OF BULK AT MOST 1048576: true; the input reads as it did. -/
def splitmaskScriptsUptoRow : OpenClaim := { program := "ytlkinjhmgljapab", sum := "c91c0090921b8d8f6aec9b75219cba06d6ec526f0f42f60ce23486b207333b56", func := "windbreak/windbreaklaw20.SplitmaskScripts", spec := "splitmaskScripts", inPlace := ["math/bits.Sub64"], unfollowed := true, recurses := true, plainKeys := false, apart := false, narrowed := true }
def SplitmaskScriptsUptoSaid : Prop := splitmaskScriptsUptoRow.holds Try.pinned (OpenSpec.upto splitmaskScriptsSpec)

end Rows
end Go.Proofs.Ytlkinjhmgljapab
