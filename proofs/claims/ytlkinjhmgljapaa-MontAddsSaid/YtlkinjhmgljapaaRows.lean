/-
  No cell of these rows narrows 'for every input' (looked for: loops, veiled, ifaces, maps, wideKeys, modest, calm, conditions, laid).
  DERIVED. THE GIVEN ROWS OF THIS SEAT. 9 by the template 'for every input the law returns true; each argument reads behind the call as it read before'; 0 by the template 'total and deterministic' (their statements: YtlkinjhmgljapaaTotals.lean).
  GIVEN WITH THE SEED: the statements are not yours to turn. If you find one false, say at which input.
  Laid BY PROGRAM, IN A SANDBOX (cutbox-rows.mjs): the forced cells as the released guide's own fill.sh prints them over the translation d9796ed6c4d08e15… (all of the seat's roots in one cut). By AI agents, Wed Nov 11 2026. No macro, syntax, notation, axiom, sorry.
-/
import Derived.Test.YtlkinjhmgljapaaChecked
import GoSem.Claim
import GoSem.ClaimJoined
import GoSem.ClaimMapViews
import Derived.JoinedTies
import Derived.KernelRfl
namespace Go.Proofs.Ytlkinjhmgljapaa
/- THE CELL 'sum', in the pinned program and in every row, IS THE sha256 OF THE DUMP (.gsa) THAT YtlkinjhmgljapaaProg.lean LOADS. Nothing in Lean hashes anything: it is a label: what it is worth is what the hold of that sum in a sandbox is worth. -/
noncomputable def Try.pinned : Pinned := { name := "ytlkinjhmgljapaa", sum := "d9796ed6c4d08e151de4bbf9a9631d9da93fb7a3de7e6ad951f1edb879edca1c", checked := Try.checked }
namespace Rows
def none {H : Type} : Left H := { results := [], args := [] }

/-- 'windbreaklaw02.MontProducts': WHATEVER THE INPUT: true; the input reads as it did. -/
def montProductsSpec : ChangeSpec := { name := "montProducts", fn := fun _ => fun
  | [d1, d2, d3] => { results := [.lit (.bool true)], args := [d1, d2, d3] }
  | _ => none }
def montProductsRow : OpenClaim := { program := "ytlkinjhmgljapaa", sum := "d9796ed6c4d08e151de4bbf9a9631d9da93fb7a3de7e6ad951f1edb879edca1c", func := "windbreak/windbreaklaw02.MontProducts", spec := "montProducts", inPlace := ["math/bits.Add64", "math/bits.Sub64"], unfollowed := true, recurses := true, named := ["math/bits.divideError", "math/bits.overflowError"], apart := false }
def MontProductsSaid : Prop := montProductsRow.holds Try.pinned (OpenSpec.ofChange montProductsSpec)

/-- ITS FALSE NEIGHBOUR: 'it returns false'. Refute it at one input. -/
def montProductsWrong : ChangeSpec := { name := "montProducts", fn := fun _ => fun
  | [d1, d2, d3] => { results := [.lit (.bool false)], args := [d1, d2, d3] }
  | _ => none }
def MontProductsWrongFalsely : Prop := montProductsRow.holds Try.pinned (OpenSpec.ofChange montProductsWrong)

/-- 'windbreaklaw02.MontIn': WHATEVER THE INPUT: true; the input reads as it did. -/
def montInSpec : ChangeSpec := { name := "montIn", fn := fun _ => fun
  | [d1, d2] => { results := [.lit (.bool true)], args := [d1, d2] }
  | _ => none }
def montInRow : OpenClaim := { program := "ytlkinjhmgljapaa", sum := "d9796ed6c4d08e151de4bbf9a9631d9da93fb7a3de7e6ad951f1edb879edca1c", func := "windbreak/windbreaklaw02.MontIn", spec := "montIn", inPlace := ["math/bits.Add64", "math/bits.Sub64"], unfollowed := true, recurses := true, named := ["math/bits.divideError", "math/bits.overflowError"], apart := false }
def MontInSaid : Prop := montInRow.holds Try.pinned (OpenSpec.ofChange montInSpec)

/-- ITS FALSE NEIGHBOUR: 'it returns false'. Refute it at one input. -/
def montInWrong : ChangeSpec := { name := "montIn", fn := fun _ => fun
  | [d1, d2] => { results := [.lit (.bool false)], args := [d1, d2] }
  | _ => none }
def MontInWrongFalsely : Prop := montInRow.holds Try.pinned (OpenSpec.ofChange montInWrong)

/-- 'windbreaklaw02.MontOut': WHATEVER THE INPUT: true; the input reads as it did. -/
def montOutSpec : ChangeSpec := { name := "montOut", fn := fun _ => fun
  | [d1, d2] => { results := [.lit (.bool true)], args := [d1, d2] }
  | _ => none }
def montOutRow : OpenClaim := { program := "ytlkinjhmgljapaa", sum := "d9796ed6c4d08e151de4bbf9a9631d9da93fb7a3de7e6ad951f1edb879edca1c", func := "windbreak/windbreaklaw02.MontOut", spec := "montOut", inPlace := ["math/bits.Add64", "math/bits.Sub64"], unfollowed := true, recurses := true, named := ["math/bits.divideError", "math/bits.overflowError"], apart := false }
def MontOutSaid : Prop := montOutRow.holds Try.pinned (OpenSpec.ofChange montOutSpec)

/-- ITS FALSE NEIGHBOUR: 'it returns false'. Refute it at one input. -/
def montOutWrong : ChangeSpec := { name := "montOut", fn := fun _ => fun
  | [d1, d2] => { results := [.lit (.bool false)], args := [d1, d2] }
  | _ => none }
def MontOutWrongFalsely : Prop := montOutRow.holds Try.pinned (OpenSpec.ofChange montOutWrong)

/-- 'windbreaklaw02.MontBack': WHATEVER THE INPUT: true; the input reads as it did. -/
def montBackSpec : ChangeSpec := { name := "montBack", fn := fun _ => fun
  | [d1, d2, d3] => { results := [.lit (.bool true)], args := [d1, d2, d3] }
  | _ => none }
def montBackRow : OpenClaim := { program := "ytlkinjhmgljapaa", sum := "d9796ed6c4d08e151de4bbf9a9631d9da93fb7a3de7e6ad951f1edb879edca1c", func := "windbreak/windbreaklaw02.MontBack", spec := "montBack", inPlace := ["math/bits.Add64", "math/bits.Sub64"], unfollowed := true, recurses := true, named := ["math/bits.divideError", "math/bits.overflowError"], apart := false }
def MontBackSaid : Prop := montBackRow.holds Try.pinned (OpenSpec.ofChange montBackSpec)

/-- ITS FALSE NEIGHBOUR: 'it returns false'. Refute it at one input. -/
def montBackWrong : ChangeSpec := { name := "montBack", fn := fun _ => fun
  | [d1, d2, d3] => { results := [.lit (.bool false)], args := [d1, d2, d3] }
  | _ => none }
def MontBackWrongFalsely : Prop := montBackRow.holds Try.pinned (OpenSpec.ofChange montBackWrong)

/-- 'windbreaklaw02.MontPowers': WHATEVER THE INPUT: true; the input reads as it did. -/
def montPowersSpec : ChangeSpec := { name := "montPowers", fn := fun _ => fun
  | [d1, d2, d3] => { results := [.lit (.bool true)], args := [d1, d2, d3] }
  | _ => none }
def montPowersRow : OpenClaim := { program := "ytlkinjhmgljapaa", sum := "d9796ed6c4d08e151de4bbf9a9631d9da93fb7a3de7e6ad951f1edb879edca1c", func := "windbreak/windbreaklaw02.MontPowers", spec := "montPowers", inPlace := ["math/bits.Add64", "math/bits.Sub64"], unfollowed := true, recurses := true, named := ["math/bits.divideError", "math/bits.overflowError"], apart := false }
def MontPowersSaid : Prop := montPowersRow.holds Try.pinned (OpenSpec.ofChange montPowersSpec)

/-- ITS FALSE NEIGHBOUR: 'it returns false'. Refute it at one input. -/
def montPowersWrong : ChangeSpec := { name := "montPowers", fn := fun _ => fun
  | [d1, d2, d3] => { results := [.lit (.bool false)], args := [d1, d2, d3] }
  | _ => none }
def MontPowersWrongFalsely : Prop := montPowersRow.holds Try.pinned (OpenSpec.ofChange montPowersWrong)

/-- 'windbreaklaw02.MontAdds': WHATEVER THE INPUT: true; the input reads as it did. -/
def montAddsSpec : ChangeSpec := { name := "montAdds", fn := fun _ => fun
  | [d1, d2, d3] => { results := [.lit (.bool true)], args := [d1, d2, d3] }
  | _ => none }
def montAddsRow : OpenClaim := { program := "ytlkinjhmgljapaa", sum := "d9796ed6c4d08e151de4bbf9a9631d9da93fb7a3de7e6ad951f1edb879edca1c", func := "windbreak/windbreaklaw02.MontAdds", spec := "montAdds", inPlace := ["math/bits.Add64", "math/bits.Sub64"], unfollowed := true, recurses := true, named := ["math/bits.divideError", "math/bits.overflowError"], apart := false }
def MontAddsSaid : Prop := montAddsRow.holds Try.pinned (OpenSpec.ofChange montAddsSpec)

/-- ITS FALSE NEIGHBOUR: 'it returns false'. Refute it at one input. -/
def montAddsWrong : ChangeSpec := { name := "montAdds", fn := fun _ => fun
  | [d1, d2, d3] => { results := [.lit (.bool false)], args := [d1, d2, d3] }
  | _ => none }
def MontAddsWrongFalsely : Prop := montAddsRow.holds Try.pinned (OpenSpec.ofChange montAddsWrong)

/-- 'windbreaklaw07.FixencUnpacks': WHATEVER THE INPUT: true; the input reads as it did. -/
def fixencUnpacksSpec : ChangeSpec := { name := "fixencUnpacks", fn := fun _ => fun
  | [d1, d2, d3] => { results := [.lit (.bool true)], args := [d1, d2, d3] }
  | _ => none }
def fixencUnpacksRow : OpenClaim := { program := "ytlkinjhmgljapaa", sum := "d9796ed6c4d08e151de4bbf9a9631d9da93fb7a3de7e6ad951f1edb879edca1c", func := "windbreak/windbreaklaw07.FixencUnpacks", spec := "fixencUnpacks", inPlace := ["math/bits.Sub64", "math/bits.Add64"], unfollowed := true, recurses := true, named := ["math/bits.divideError", "math/bits.overflowError"], apart := false }
def FixencUnpacksSaid : Prop := fixencUnpacksRow.holds Try.pinned (OpenSpec.ofChange fixencUnpacksSpec)

/-- ITS FALSE NEIGHBOUR: 'it returns false'. Refute it at one input. -/
def fixencUnpacksWrong : ChangeSpec := { name := "fixencUnpacks", fn := fun _ => fun
  | [d1, d2, d3] => { results := [.lit (.bool false)], args := [d1, d2, d3] }
  | _ => none }
def FixencUnpacksWrongFalsely : Prop := fixencUnpacksRow.holds Try.pinned (OpenSpec.ofChange fixencUnpacksWrong)

/-- 'windbreaklaw07.FixencAdds': WHATEVER THE INPUT: true; the input reads as it did. -/
def fixencAddsSpec : ChangeSpec := { name := "fixencAdds", fn := fun _ => fun
  | [d1, d2, d3] => { results := [.lit (.bool true)], args := [d1, d2, d3] }
  | _ => none }
def fixencAddsRow : OpenClaim := { program := "ytlkinjhmgljapaa", sum := "d9796ed6c4d08e151de4bbf9a9631d9da93fb7a3de7e6ad951f1edb879edca1c", func := "windbreak/windbreaklaw07.FixencAdds", spec := "fixencAdds", inPlace := ["math/bits.Sub64", "math/bits.Add64"], unfollowed := true, recurses := true, named := ["math/bits.divideError", "math/bits.overflowError"], apart := false }
def FixencAddsSaid : Prop := fixencAddsRow.holds Try.pinned (OpenSpec.ofChange fixencAddsSpec)

/-- ITS FALSE NEIGHBOUR: 'it returns false'. Refute it at one input. -/
def fixencAddsWrong : ChangeSpec := { name := "fixencAdds", fn := fun _ => fun
  | [d1, d2, d3] => { results := [.lit (.bool false)], args := [d1, d2, d3] }
  | _ => none }
def FixencAddsWrongFalsely : Prop := fixencAddsRow.holds Try.pinned (OpenSpec.ofChange fixencAddsWrong)

/-- 'windbreaktop.TopPowers': WHATEVER THE INPUT: true; the input reads as it did. -/
def topPowersSpec : ChangeSpec := { name := "topPowers", fn := fun _ => fun
  | [d1, d2] => { results := [.lit (.bool true)], args := [d1, d2] }
  | _ => none }
def topPowersRow : OpenClaim := { program := "ytlkinjhmgljapaa", sum := "d9796ed6c4d08e151de4bbf9a9631d9da93fb7a3de7e6ad951f1edb879edca1c", func := "windbreak/windbreaktop.TopPowers", spec := "topPowers", inPlace := ["math/bits.Add64", "math/bits.Sub64"], unfollowed := true, recurses := true, named := ["math/bits.divideError", "math/bits.overflowError"], apart := false }
def TopPowersSaid : Prop := topPowersRow.holds Try.pinned (OpenSpec.ofChange topPowersSpec)

/-- ITS FALSE NEIGHBOUR: 'it returns false'. Refute it at one input. -/
def topPowersWrong : ChangeSpec := { name := "topPowers", fn := fun _ => fun
  | [d1, d2] => { results := [.lit (.bool false)], args := [d1, d2] }
  | _ => none }
def TopPowersWrongFalsely : Prop := topPowersRow.holds Try.pinned (OpenSpec.ofChange topPowersWrong)

/- THE SECOND FORM. 'bulk': how many values and letters a reading holds, each counted each time it is reached (what is shared counts as often as it is met; a slice's spare places count too). A statement '..UptoSaid' is the law's where the arguments, and the package variables that the reading takes, are together of bulk at most 1048576: NARROWER than '..Said'. Prove '..Said' where nothing that the law and all that it calls make is longer than what came in: it says more and counts as full. Else prove '..UptoSaid'. A law counts once. -/
mutual
def uptoBulk {H : Type} : DataW H → Nat
  | .lit (.string bytes) => bytes.length + 1
  | .lit _ => 1
  | .nil => 1
  | .ptr d => uptoBulk d + 1
  | .slice elems spare => uptoBulkAll elems + uptoBulkAll spare + 1
  | .agg parts => uptoBulkAll parts + 1
  | .iface _ d => uptoBulk d + 1
  | .map entries => uptoBulkEntries entries + 1
  | .held _ => 1
def uptoBulkAll {H : Type} : List (DataW H) → Nat
  | [] => 0
  | d :: r => uptoBulk d + uptoBulkAll r
def uptoBulkEntries {H : Type} : List (Lit × DataW H) → Nat
  | [] => 0
  | x :: r => uptoBulkEntry x + uptoBulkEntries r
def uptoBulkEntry {H : Type} : Lit × DataW H → Nat
  | (.string bytes, d) => bytes.length + uptoBulk d + 1
  | (_, d) => uptoBulk d + 1
 end
def uptoSmall : (H : Type) → List (DataW H) → Bool := fun _ ds => decide (uptoBulkAll ds ≤ 1048576)
def OpenSpec.upto (s : _root_.Go.ChangeSpec) : _root_.Go.OpenSpec := { _root_.Go.OpenSpec.ofChange s with cond := some uptoSmall }

/-- 'windbreaklaw02.MontProducts', WHERE WHAT IT READS IS OF BULK AT MOST 1048576: true; the input reads as it did. -/
def montProductsUptoRow : OpenClaim := { program := "ytlkinjhmgljapaa", sum := "d9796ed6c4d08e151de4bbf9a9631d9da93fb7a3de7e6ad951f1edb879edca1c", func := "windbreak/windbreaklaw02.MontProducts", spec := "montProducts", inPlace := ["math/bits.Add64", "math/bits.Sub64"], unfollowed := true, recurses := true, named := ["math/bits.divideError", "math/bits.overflowError"], apart := false, narrowed := true }
def MontProductsUptoSaid : Prop := montProductsUptoRow.holds Try.pinned (OpenSpec.upto montProductsSpec)

/-- 'windbreaklaw02.MontIn', WHERE WHAT IT READS IS OF BULK AT MOST 1048576: true; the input reads as it did. -/
def montInUptoRow : OpenClaim := { program := "ytlkinjhmgljapaa", sum := "d9796ed6c4d08e151de4bbf9a9631d9da93fb7a3de7e6ad951f1edb879edca1c", func := "windbreak/windbreaklaw02.MontIn", spec := "montIn", inPlace := ["math/bits.Add64", "math/bits.Sub64"], unfollowed := true, recurses := true, named := ["math/bits.divideError", "math/bits.overflowError"], apart := false, narrowed := true }
def MontInUptoSaid : Prop := montInUptoRow.holds Try.pinned (OpenSpec.upto montInSpec)

/-- 'windbreaklaw02.MontOut', WHERE WHAT IT READS IS OF BULK AT MOST 1048576: true; the input reads as it did. -/
def montOutUptoRow : OpenClaim := { program := "ytlkinjhmgljapaa", sum := "d9796ed6c4d08e151de4bbf9a9631d9da93fb7a3de7e6ad951f1edb879edca1c", func := "windbreak/windbreaklaw02.MontOut", spec := "montOut", inPlace := ["math/bits.Add64", "math/bits.Sub64"], unfollowed := true, recurses := true, named := ["math/bits.divideError", "math/bits.overflowError"], apart := false, narrowed := true }
def MontOutUptoSaid : Prop := montOutUptoRow.holds Try.pinned (OpenSpec.upto montOutSpec)

/-- 'windbreaklaw02.MontBack', WHERE WHAT IT READS IS OF BULK AT MOST 1048576: true; the input reads as it did. -/
def montBackUptoRow : OpenClaim := { program := "ytlkinjhmgljapaa", sum := "d9796ed6c4d08e151de4bbf9a9631d9da93fb7a3de7e6ad951f1edb879edca1c", func := "windbreak/windbreaklaw02.MontBack", spec := "montBack", inPlace := ["math/bits.Add64", "math/bits.Sub64"], unfollowed := true, recurses := true, named := ["math/bits.divideError", "math/bits.overflowError"], apart := false, narrowed := true }
def MontBackUptoSaid : Prop := montBackUptoRow.holds Try.pinned (OpenSpec.upto montBackSpec)

/-- 'windbreaklaw02.MontPowers', WHERE WHAT IT READS IS OF BULK AT MOST 1048576: true; the input reads as it did. -/
def montPowersUptoRow : OpenClaim := { program := "ytlkinjhmgljapaa", sum := "d9796ed6c4d08e151de4bbf9a9631d9da93fb7a3de7e6ad951f1edb879edca1c", func := "windbreak/windbreaklaw02.MontPowers", spec := "montPowers", inPlace := ["math/bits.Add64", "math/bits.Sub64"], unfollowed := true, recurses := true, named := ["math/bits.divideError", "math/bits.overflowError"], apart := false, narrowed := true }
def MontPowersUptoSaid : Prop := montPowersUptoRow.holds Try.pinned (OpenSpec.upto montPowersSpec)

/-- 'windbreaklaw02.MontAdds', WHERE WHAT IT READS IS OF BULK AT MOST 1048576: true; the input reads as it did. -/
def montAddsUptoRow : OpenClaim := { program := "ytlkinjhmgljapaa", sum := "d9796ed6c4d08e151de4bbf9a9631d9da93fb7a3de7e6ad951f1edb879edca1c", func := "windbreak/windbreaklaw02.MontAdds", spec := "montAdds", inPlace := ["math/bits.Add64", "math/bits.Sub64"], unfollowed := true, recurses := true, named := ["math/bits.divideError", "math/bits.overflowError"], apart := false, narrowed := true }
def MontAddsUptoSaid : Prop := montAddsUptoRow.holds Try.pinned (OpenSpec.upto montAddsSpec)

/-- 'windbreaklaw07.FixencUnpacks', WHERE WHAT IT READS IS OF BULK AT MOST 1048576: true; the input reads as it did. -/
def fixencUnpacksUptoRow : OpenClaim := { program := "ytlkinjhmgljapaa", sum := "d9796ed6c4d08e151de4bbf9a9631d9da93fb7a3de7e6ad951f1edb879edca1c", func := "windbreak/windbreaklaw07.FixencUnpacks", spec := "fixencUnpacks", inPlace := ["math/bits.Sub64", "math/bits.Add64"], unfollowed := true, recurses := true, named := ["math/bits.divideError", "math/bits.overflowError"], apart := false, narrowed := true }
def FixencUnpacksUptoSaid : Prop := fixencUnpacksUptoRow.holds Try.pinned (OpenSpec.upto fixencUnpacksSpec)

/-- 'windbreaklaw07.FixencAdds', WHERE WHAT IT READS IS OF BULK AT MOST 1048576: true; the input reads as it did. -/
def fixencAddsUptoRow : OpenClaim := { program := "ytlkinjhmgljapaa", sum := "d9796ed6c4d08e151de4bbf9a9631d9da93fb7a3de7e6ad951f1edb879edca1c", func := "windbreak/windbreaklaw07.FixencAdds", spec := "fixencAdds", inPlace := ["math/bits.Sub64", "math/bits.Add64"], unfollowed := true, recurses := true, named := ["math/bits.divideError", "math/bits.overflowError"], apart := false, narrowed := true }
def FixencAddsUptoSaid : Prop := fixencAddsUptoRow.holds Try.pinned (OpenSpec.upto fixencAddsSpec)

/-- 'windbreaktop.TopPowers', WHERE WHAT IT READS IS OF BULK AT MOST 1048576: true; the input reads as it did. -/
def topPowersUptoRow : OpenClaim := { program := "ytlkinjhmgljapaa", sum := "d9796ed6c4d08e151de4bbf9a9631d9da93fb7a3de7e6ad951f1edb879edca1c", func := "windbreak/windbreaktop.TopPowers", spec := "topPowers", inPlace := ["math/bits.Add64", "math/bits.Sub64"], unfollowed := true, recurses := true, named := ["math/bits.divideError", "math/bits.overflowError"], apart := false, narrowed := true }
def TopPowersUptoSaid : Prop := topPowersUptoRow.holds Try.pinned (OpenSpec.upto topPowersSpec)

end Rows
end Go.Proofs.Ytlkinjhmgljapaa
