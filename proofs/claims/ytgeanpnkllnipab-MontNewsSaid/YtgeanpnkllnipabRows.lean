/-
  No cell of these rows narrows 'for every input' (looked for: loops, veiled, ifaces, maps, wideKeys, modest, calm, conditions, laid).
  DERIVED. THE GIVEN ROWS OF THIS SEAT. 12 by the template 'for every input the law returns true; each argument reads behind the call as it read before'; 0 by the template 'total and deterministic' (their statements: YtgeanpnkllnipabTotals.lean).
  GIVEN WITH THE SEED: the statements are not yours to turn. If you find one false, say at which input.
  Laid BY PROGRAM, IN A SANDBOX (cutbox-rows.mjs): the forced cells as the released guide's own fill.sh prints them over the translation 6d6c3effc9725ee5… (all of the seat's roots in one cut). By AI agents, Wed Nov 11 2026. No macro, syntax, notation, axiom, sorry.
-/
import Derived.Test.YtgeanpnkllnipabChecked
import GoSem.Claim
import GoSem.ClaimJoined
import GoSem.ClaimMapViews
import Derived.JoinedTies
import Derived.KernelRfl
namespace Go.Proofs.Ytgeanpnkllnipab
/- THE CELL 'sum', in the pinned program and in every row, IS THE sha256 OF THE DUMP (.gsa) THAT YtgeanpnkllnipabProg.lean LOADS. Nothing in Lean hashes anything: it is a label: what it is worth is what the hold of that sum in a sandbox is worth. -/
noncomputable def Try.pinned : Pinned := { name := "ytgeanpnkllnipab", sum := "6d6c3effc9725ee50a6333b01b67d98cdde29bd6947e73d381641545894ae7ad", checked := Try.checked }
namespace Rows
def none {H : Type} : Left H := { results := [], args := [] }

/-- 'windbreaklaw02.MontNews': WHATEVER THE INPUT: true; the input reads as it did. -/
def montNewsSpec : ChangeSpec := { name := "montNews", fn := fun _ => fun
  | [d] => { results := [.lit (.bool true)], args := [d] }
  | _ => none }
def montNewsRow : OpenClaim := { program := "ytgeanpnkllnipab", sum := "6d6c3effc9725ee50a6333b01b67d98cdde29bd6947e73d381641545894ae7ad", func := "windbreak/windbreaklaw02.MontNews", spec := "montNews", inPlace := ["math/bits.Add64", "math/bits.Sub64"], unfollowed := true, recurses := true, named := ["math/bits.divideError", "math/bits.overflowError"], apart := false }
def MontNewsSaid : Prop := montNewsRow.holds Try.pinned (OpenSpec.ofChange montNewsSpec)

/-- ITS FALSE NEIGHBOUR: 'it returns false'. Refute it at one input. -/
def montNewsWrong : ChangeSpec := { name := "montNews", fn := fun _ => fun
  | [d] => { results := [.lit (.bool false)], args := [d] }
  | _ => none }
def MontNewsWrongFalsely : Prop := montNewsRow.holds Try.pinned (OpenSpec.ofChange montNewsWrong)

/-- 'windbreaklaw02.MontProducts': WHATEVER THE INPUT: true; the input reads as it did. -/
def montProductsSpec : ChangeSpec := { name := "montProducts", fn := fun _ => fun
  | [d1, d2, d3] => { results := [.lit (.bool true)], args := [d1, d2, d3] }
  | _ => none }
def montProductsRow : OpenClaim := { program := "ytgeanpnkllnipab", sum := "6d6c3effc9725ee50a6333b01b67d98cdde29bd6947e73d381641545894ae7ad", func := "windbreak/windbreaklaw02.MontProducts", spec := "montProducts", inPlace := ["math/bits.Add64", "math/bits.Sub64"], unfollowed := true, recurses := true, named := ["math/bits.divideError", "math/bits.overflowError"], apart := false }
def MontProductsSaid : Prop := montProductsRow.holds Try.pinned (OpenSpec.ofChange montProductsSpec)

/-- ITS FALSE NEIGHBOUR: 'it returns false'. Refute it at one input. -/
def montProductsWrong : ChangeSpec := { name := "montProducts", fn := fun _ => fun
  | [d1, d2, d3] => { results := [.lit (.bool false)], args := [d1, d2, d3] }
  | _ => none }
def MontProductsWrongFalsely : Prop := montProductsRow.holds Try.pinned (OpenSpec.ofChange montProductsWrong)

/-- 'windbreaklaw02.MontIn': WHATEVER THE INPUT: true; the input reads as it did. -/
def montInSpec : ChangeSpec := { name := "montIn", fn := fun _ => fun
  | [d1, d2] => { results := [.lit (.bool true)], args := [d1, d2] }
  | _ => none }
def montInRow : OpenClaim := { program := "ytgeanpnkllnipab", sum := "6d6c3effc9725ee50a6333b01b67d98cdde29bd6947e73d381641545894ae7ad", func := "windbreak/windbreaklaw02.MontIn", spec := "montIn", inPlace := ["math/bits.Add64", "math/bits.Sub64"], unfollowed := true, recurses := true, named := ["math/bits.divideError", "math/bits.overflowError"], apart := false }
def MontInSaid : Prop := montInRow.holds Try.pinned (OpenSpec.ofChange montInSpec)

/-- ITS FALSE NEIGHBOUR: 'it returns false'. Refute it at one input. -/
def montInWrong : ChangeSpec := { name := "montIn", fn := fun _ => fun
  | [d1, d2] => { results := [.lit (.bool false)], args := [d1, d2] }
  | _ => none }
def MontInWrongFalsely : Prop := montInRow.holds Try.pinned (OpenSpec.ofChange montInWrong)

/-- 'windbreaklaw02.MontOut': WHATEVER THE INPUT: true; the input reads as it did. -/
def montOutSpec : ChangeSpec := { name := "montOut", fn := fun _ => fun
  | [d1, d2] => { results := [.lit (.bool true)], args := [d1, d2] }
  | _ => none }
def montOutRow : OpenClaim := { program := "ytgeanpnkllnipab", sum := "6d6c3effc9725ee50a6333b01b67d98cdde29bd6947e73d381641545894ae7ad", func := "windbreak/windbreaklaw02.MontOut", spec := "montOut", inPlace := ["math/bits.Add64", "math/bits.Sub64"], unfollowed := true, recurses := true, named := ["math/bits.divideError", "math/bits.overflowError"], apart := false }
def MontOutSaid : Prop := montOutRow.holds Try.pinned (OpenSpec.ofChange montOutSpec)

/-- ITS FALSE NEIGHBOUR: 'it returns false'. Refute it at one input. -/
def montOutWrong : ChangeSpec := { name := "montOut", fn := fun _ => fun
  | [d1, d2] => { results := [.lit (.bool false)], args := [d1, d2] }
  | _ => none }
def MontOutWrongFalsely : Prop := montOutRow.holds Try.pinned (OpenSpec.ofChange montOutWrong)

/-- 'windbreaklaw02.MontBack': WHATEVER THE INPUT: true; the input reads as it did. -/
def montBackSpec : ChangeSpec := { name := "montBack", fn := fun _ => fun
  | [d1, d2, d3] => { results := [.lit (.bool true)], args := [d1, d2, d3] }
  | _ => none }
def montBackRow : OpenClaim := { program := "ytgeanpnkllnipab", sum := "6d6c3effc9725ee50a6333b01b67d98cdde29bd6947e73d381641545894ae7ad", func := "windbreak/windbreaklaw02.MontBack", spec := "montBack", inPlace := ["math/bits.Add64", "math/bits.Sub64"], unfollowed := true, recurses := true, named := ["math/bits.divideError", "math/bits.overflowError"], apart := false }
def MontBackSaid : Prop := montBackRow.holds Try.pinned (OpenSpec.ofChange montBackSpec)

/-- ITS FALSE NEIGHBOUR: 'it returns false'. Refute it at one input. -/
def montBackWrong : ChangeSpec := { name := "montBack", fn := fun _ => fun
  | [d1, d2, d3] => { results := [.lit (.bool false)], args := [d1, d2, d3] }
  | _ => none }
def MontBackWrongFalsely : Prop := montBackRow.holds Try.pinned (OpenSpec.ofChange montBackWrong)

/-- 'windbreaklaw02.MontPowers': WHATEVER THE INPUT: true; the input reads as it did. -/
def montPowersSpec : ChangeSpec := { name := "montPowers", fn := fun _ => fun
  | [d1, d2, d3] => { results := [.lit (.bool true)], args := [d1, d2, d3] }
  | _ => none }
def montPowersRow : OpenClaim := { program := "ytgeanpnkllnipab", sum := "6d6c3effc9725ee50a6333b01b67d98cdde29bd6947e73d381641545894ae7ad", func := "windbreak/windbreaklaw02.MontPowers", spec := "montPowers", inPlace := ["math/bits.Add64", "math/bits.Sub64"], unfollowed := true, recurses := true, named := ["math/bits.divideError", "math/bits.overflowError"], apart := false }
def MontPowersSaid : Prop := montPowersRow.holds Try.pinned (OpenSpec.ofChange montPowersSpec)

/-- ITS FALSE NEIGHBOUR: 'it returns false'. Refute it at one input. -/
def montPowersWrong : ChangeSpec := { name := "montPowers", fn := fun _ => fun
  | [d1, d2, d3] => { results := [.lit (.bool false)], args := [d1, d2, d3] }
  | _ => none }
def MontPowersWrongFalsely : Prop := montPowersRow.holds Try.pinned (OpenSpec.ofChange montPowersWrong)

/-- 'windbreaklaw02.MontAdds': WHATEVER THE INPUT: true; the input reads as it did. -/
def montAddsSpec : ChangeSpec := { name := "montAdds", fn := fun _ => fun
  | [d1, d2, d3] => { results := [.lit (.bool true)], args := [d1, d2, d3] }
  | _ => none }
def montAddsRow : OpenClaim := { program := "ytgeanpnkllnipab", sum := "6d6c3effc9725ee50a6333b01b67d98cdde29bd6947e73d381641545894ae7ad", func := "windbreak/windbreaklaw02.MontAdds", spec := "montAdds", inPlace := ["math/bits.Add64", "math/bits.Sub64"], unfollowed := true, recurses := true, named := ["math/bits.divideError", "math/bits.overflowError"], apart := false }
def MontAddsSaid : Prop := montAddsRow.holds Try.pinned (OpenSpec.ofChange montAddsSpec)

/-- ITS FALSE NEIGHBOUR: 'it returns false'. Refute it at one input. -/
def montAddsWrong : ChangeSpec := { name := "montAdds", fn := fun _ => fun
  | [d1, d2, d3] => { results := [.lit (.bool false)], args := [d1, d2, d3] }
  | _ => none }
def MontAddsWrongFalsely : Prop := montAddsRow.holds Try.pinned (OpenSpec.ofChange montAddsWrong)

/-- 'windbreaklaw07.FixencPacks': WHATEVER THE INPUT: true; the input reads as it did. -/
def fixencPacksSpec : ChangeSpec := { name := "fixencPacks", fn := fun _ => fun
  | [d1, d2, d3] => { results := [.lit (.bool true)], args := [d1, d2, d3] }
  | _ => none }
def fixencPacksRow : OpenClaim := { program := "ytgeanpnkllnipab", sum := "6d6c3effc9725ee50a6333b01b67d98cdde29bd6947e73d381641545894ae7ad", func := "windbreak/windbreaklaw07.FixencPacks", spec := "fixencPacks", inPlace := ["math/bits.Sub64", "math/bits.Add64"], unfollowed := true, recurses := true, apart := false }
def FixencPacksSaid : Prop := fixencPacksRow.holds Try.pinned (OpenSpec.ofChange fixencPacksSpec)

/-- ITS FALSE NEIGHBOUR: 'it returns false'. Refute it at one input. -/
def fixencPacksWrong : ChangeSpec := { name := "fixencPacks", fn := fun _ => fun
  | [d1, d2, d3] => { results := [.lit (.bool false)], args := [d1, d2, d3] }
  | _ => none }
def FixencPacksWrongFalsely : Prop := fixencPacksRow.holds Try.pinned (OpenSpec.ofChange fixencPacksWrong)

/-- 'windbreaklaw07.FixencRooms': WHATEVER THE INPUT: true; the input reads as it did. -/
def fixencRoomsSpec : ChangeSpec := { name := "fixencRooms", fn := fun _ => fun
  | [d1, d2] => { results := [.lit (.bool true)], args := [d1, d2] }
  | _ => none }
def fixencRoomsRow : OpenClaim := { program := "ytgeanpnkllnipab", sum := "6d6c3effc9725ee50a6333b01b67d98cdde29bd6947e73d381641545894ae7ad", func := "windbreak/windbreaklaw07.FixencRooms", spec := "fixencRooms", inPlace := ["math/bits.Sub64", "math/bits.Add64"], unfollowed := true, recurses := true, apart := false }
def FixencRoomsSaid : Prop := fixencRoomsRow.holds Try.pinned (OpenSpec.ofChange fixencRoomsSpec)

/-- ITS FALSE NEIGHBOUR: 'it returns false'. Refute it at one input. -/
def fixencRoomsWrong : ChangeSpec := { name := "fixencRooms", fn := fun _ => fun
  | [d1, d2] => { results := [.lit (.bool false)], args := [d1, d2] }
  | _ => none }
def FixencRoomsWrongFalsely : Prop := fixencRoomsRow.holds Try.pinned (OpenSpec.ofChange fixencRoomsWrong)

/-- 'windbreaklaw07.FixencUnpacks': WHATEVER THE INPUT: true; the input reads as it did. -/
def fixencUnpacksSpec : ChangeSpec := { name := "fixencUnpacks", fn := fun _ => fun
  | [d1, d2, d3] => { results := [.lit (.bool true)], args := [d1, d2, d3] }
  | _ => none }
def fixencUnpacksRow : OpenClaim := { program := "ytgeanpnkllnipab", sum := "6d6c3effc9725ee50a6333b01b67d98cdde29bd6947e73d381641545894ae7ad", func := "windbreak/windbreaklaw07.FixencUnpacks", spec := "fixencUnpacks", inPlace := ["math/bits.Sub64", "math/bits.Add64"], unfollowed := true, recurses := true, named := ["math/bits.divideError", "math/bits.overflowError"], apart := false }
def FixencUnpacksSaid : Prop := fixencUnpacksRow.holds Try.pinned (OpenSpec.ofChange fixencUnpacksSpec)

/-- ITS FALSE NEIGHBOUR: 'it returns false'. Refute it at one input. -/
def fixencUnpacksWrong : ChangeSpec := { name := "fixencUnpacks", fn := fun _ => fun
  | [d1, d2, d3] => { results := [.lit (.bool false)], args := [d1, d2, d3] }
  | _ => none }
def FixencUnpacksWrongFalsely : Prop := fixencUnpacksRow.holds Try.pinned (OpenSpec.ofChange fixencUnpacksWrong)

/-- 'windbreaklaw07.FixencBack': WHATEVER THE INPUT: true; the input reads as it did. -/
def fixencBackSpec : ChangeSpec := { name := "fixencBack", fn := fun _ => fun
  | [d1, d2, d3] => { results := [.lit (.bool true)], args := [d1, d2, d3] }
  | _ => none }
def fixencBackRow : OpenClaim := { program := "ytgeanpnkllnipab", sum := "6d6c3effc9725ee50a6333b01b67d98cdde29bd6947e73d381641545894ae7ad", func := "windbreak/windbreaklaw07.FixencBack", spec := "fixencBack", inPlace := ["math/bits.Sub64", "math/bits.Add64"], unfollowed := true, recurses := true, named := ["math/bits.divideError", "math/bits.overflowError"], apart := false }
def FixencBackSaid : Prop := fixencBackRow.holds Try.pinned (OpenSpec.ofChange fixencBackSpec)

/-- ITS FALSE NEIGHBOUR: 'it returns false'. Refute it at one input. -/
def fixencBackWrong : ChangeSpec := { name := "fixencBack", fn := fun _ => fun
  | [d1, d2, d3] => { results := [.lit (.bool false)], args := [d1, d2, d3] }
  | _ => none }
def FixencBackWrongFalsely : Prop := fixencBackRow.holds Try.pinned (OpenSpec.ofChange fixencBackWrong)

/-- 'windbreaklaw07.FixencAdds': WHATEVER THE INPUT: true; the input reads as it did. -/
def fixencAddsSpec : ChangeSpec := { name := "fixencAdds", fn := fun _ => fun
  | [d1, d2, d3] => { results := [.lit (.bool true)], args := [d1, d2, d3] }
  | _ => none }
def fixencAddsRow : OpenClaim := { program := "ytgeanpnkllnipab", sum := "6d6c3effc9725ee50a6333b01b67d98cdde29bd6947e73d381641545894ae7ad", func := "windbreak/windbreaklaw07.FixencAdds", spec := "fixencAdds", inPlace := ["math/bits.Sub64", "math/bits.Add64"], unfollowed := true, recurses := true, named := ["math/bits.divideError", "math/bits.overflowError"], apart := false }
def FixencAddsSaid : Prop := fixencAddsRow.holds Try.pinned (OpenSpec.ofChange fixencAddsSpec)

/-- ITS FALSE NEIGHBOUR: 'it returns false'. Refute it at one input. -/
def fixencAddsWrong : ChangeSpec := { name := "fixencAdds", fn := fun _ => fun
  | [d1, d2, d3] => { results := [.lit (.bool false)], args := [d1, d2, d3] }
  | _ => none }
def FixencAddsWrongFalsely : Prop := fixencAddsRow.holds Try.pinned (OpenSpec.ofChange fixencAddsWrong)

/- THE SECOND FORM. 'bulk': how many values and letters a reading holds, each counted each time it is reached (what is shared counts as often as it is met; a slice's spare places count too). A statement '..UptoSaid' is the law's where the arguments, and the package variables that the reading takes, are together of bulk at most 1048576: NARROWER than '..Said'. Prove '..Said' where nothing that the law and all that it calls make is longer than what came in: it says more and counts as full. Else prove '..UptoSaid'. A law counts once. -/
mutual
def uptoBulk {H : Type} : DataW H → Nat
  | .lit (.string bytes) => bytes.length + 1
  | .lit _ => 1
  | .nil => 1
  | .ptr d => uptoBulk d + 1
  | .slice elems spare => uptoBulkAll elems + uptoBulkAll spare + 1
  | .agg parts => uptoBulkAll parts + 1
  | .iface _ d => uptoBulk d + 1
  | .map entries => uptoBulkEntries entries + 1
  | .held _ => 1
def uptoBulkAll {H : Type} : List (DataW H) → Nat
  | [] => 0
  | d :: r => uptoBulk d + uptoBulkAll r
def uptoBulkEntries {H : Type} : List (Lit × DataW H) → Nat
  | [] => 0
  | x :: r => uptoBulkEntry x + uptoBulkEntries r
def uptoBulkEntry {H : Type} : Lit × DataW H → Nat
  | (.string bytes, d) => bytes.length + uptoBulk d + 1
  | (_, d) => uptoBulk d + 1
 end
def uptoSmall : (H : Type) → List (DataW H) → Bool := fun _ ds => decide (uptoBulkAll ds ≤ 1048576)
def OpenSpec.upto (s : _root_.Go.ChangeSpec) : _root_.Go.OpenSpec := { _root_.Go.OpenSpec.ofChange s with cond := some uptoSmall }

/-- 'windbreaklaw02.MontNews', WHERE WHAT IT READS IS OF BULK AT MOST 1048576: true; the input reads as it did. -/
def montNewsUptoRow : OpenClaim := { program := "ytgeanpnkllnipab", sum := "6d6c3effc9725ee50a6333b01b67d98cdde29bd6947e73d381641545894ae7ad", func := "windbreak/windbreaklaw02.MontNews", spec := "montNews", inPlace := ["math/bits.Add64", "math/bits.Sub64"], unfollowed := true, recurses := true, named := ["math/bits.divideError", "math/bits.overflowError"], apart := false, narrowed := true }
def MontNewsUptoSaid : Prop := montNewsUptoRow.holds Try.pinned (OpenSpec.upto montNewsSpec)

/-- 'windbreaklaw02.MontProducts', WHERE WHAT IT READS IS OF BULK AT MOST 1048576: true; the input reads as it did. -/
def montProductsUptoRow : OpenClaim := { program := "ytgeanpnkllnipab", sum := "6d6c3effc9725ee50a6333b01b67d98cdde29bd6947e73d381641545894ae7ad", func := "windbreak/windbreaklaw02.MontProducts", spec := "montProducts", inPlace := ["math/bits.Add64", "math/bits.Sub64"], unfollowed := true, recurses := true, named := ["math/bits.divideError", "math/bits.overflowError"], apart := false, narrowed := true }
def MontProductsUptoSaid : Prop := montProductsUptoRow.holds Try.pinned (OpenSpec.upto montProductsSpec)

/-- 'windbreaklaw02.MontIn', WHERE WHAT IT READS IS OF BULK AT MOST 1048576: true; the input reads as it did. -/
def montInUptoRow : OpenClaim := { program := "ytgeanpnkllnipab", sum := "6d6c3effc9725ee50a6333b01b67d98cdde29bd6947e73d381641545894ae7ad", func := "windbreak/windbreaklaw02.MontIn", spec := "montIn", inPlace := ["math/bits.Add64", "math/bits.Sub64"], unfollowed := true, recurses := true, named := ["math/bits.divideError", "math/bits.overflowError"], apart := false, narrowed := true }
def MontInUptoSaid : Prop := montInUptoRow.holds Try.pinned (OpenSpec.upto montInSpec)

/-- 'windbreaklaw02.MontOut', WHERE WHAT IT READS IS OF BULK AT MOST 1048576: true; the input reads as it did. -/
def montOutUptoRow : OpenClaim := { program := "ytgeanpnkllnipab", sum := "6d6c3effc9725ee50a6333b01b67d98cdde29bd6947e73d381641545894ae7ad", func := "windbreak/windbreaklaw02.MontOut", spec := "montOut", inPlace := ["math/bits.Add64", "math/bits.Sub64"], unfollowed := true, recurses := true, named := ["math/bits.divideError", "math/bits.overflowError"], apart := false, narrowed := true }
def MontOutUptoSaid : Prop := montOutUptoRow.holds Try.pinned (OpenSpec.upto montOutSpec)

/-- 'windbreaklaw02.MontBack', WHERE WHAT IT READS IS OF BULK AT MOST 1048576: true; the input reads as it did. -/
def montBackUptoRow : OpenClaim := { program := "ytgeanpnkllnipab", sum := "6d6c3effc9725ee50a6333b01b67d98cdde29bd6947e73d381641545894ae7ad", func := "windbreak/windbreaklaw02.MontBack", spec := "montBack", inPlace := ["math/bits.Add64", "math/bits.Sub64"], unfollowed := true, recurses := true, named := ["math/bits.divideError", "math/bits.overflowError"], apart := false, narrowed := true }
def MontBackUptoSaid : Prop := montBackUptoRow.holds Try.pinned (OpenSpec.upto montBackSpec)

/-- 'windbreaklaw02.MontPowers', WHERE WHAT IT READS IS OF BULK AT MOST 1048576: true; the input reads as it did. -/
def montPowersUptoRow : OpenClaim := { program := "ytgeanpnkllnipab", sum := "6d6c3effc9725ee50a6333b01b67d98cdde29bd6947e73d381641545894ae7ad", func := "windbreak/windbreaklaw02.MontPowers", spec := "montPowers", inPlace := ["math/bits.Add64", "math/bits.Sub64"], unfollowed := true, recurses := true, named := ["math/bits.divideError", "math/bits.overflowError"], apart := false, narrowed := true }
def MontPowersUptoSaid : Prop := montPowersUptoRow.holds Try.pinned (OpenSpec.upto montPowersSpec)

/-- 'windbreaklaw02.MontAdds', WHERE WHAT IT READS IS OF BULK AT MOST 1048576: true; the input reads as it did. -/
def montAddsUptoRow : OpenClaim := { program := "ytgeanpnkllnipab", sum := "6d6c3effc9725ee50a6333b01b67d98cdde29bd6947e73d381641545894ae7ad", func := "windbreak/windbreaklaw02.MontAdds", spec := "montAdds", inPlace := ["math/bits.Add64", "math/bits.Sub64"], unfollowed := true, recurses := true, named := ["math/bits.divideError", "math/bits.overflowError"], apart := false, narrowed := true }
def MontAddsUptoSaid : Prop := montAddsUptoRow.holds Try.pinned (OpenSpec.upto montAddsSpec)

/-- 'windbreaklaw07.FixencPacks', WHERE WHAT IT READS IS OF BULK AT MOST 1048576: true; the input reads as it did. -/
def fixencPacksUptoRow : OpenClaim := { program := "ytgeanpnkllnipab", sum := "6d6c3effc9725ee50a6333b01b67d98cdde29bd6947e73d381641545894ae7ad", func := "windbreak/windbreaklaw07.FixencPacks", spec := "fixencPacks", inPlace := ["math/bits.Sub64", "math/bits.Add64"], unfollowed := true, recurses := true, apart := false, narrowed := true }
def FixencPacksUptoSaid : Prop := fixencPacksUptoRow.holds Try.pinned (OpenSpec.upto fixencPacksSpec)

/-- 'windbreaklaw07.FixencRooms', WHERE WHAT IT READS IS OF BULK AT MOST 1048576: true; the input reads as it did. -/
def fixencRoomsUptoRow : OpenClaim := { program := "ytgeanpnkllnipab", sum := "6d6c3effc9725ee50a6333b01b67d98cdde29bd6947e73d381641545894ae7ad", func := "windbreak/windbreaklaw07.FixencRooms", spec := "fixencRooms", inPlace := ["math/bits.Sub64", "math/bits.Add64"], unfollowed := true, recurses := true, apart := false, narrowed := true }
def FixencRoomsUptoSaid : Prop := fixencRoomsUptoRow.holds Try.pinned (OpenSpec.upto fixencRoomsSpec)

/-- 'windbreaklaw07.FixencUnpacks', WHERE WHAT IT READS IS OF BULK AT MOST 1048576: true; the input reads as it did. -/
def fixencUnpacksUptoRow : OpenClaim := { program := "ytgeanpnkllnipab", sum := "6d6c3effc9725ee50a6333b01b67d98cdde29bd6947e73d381641545894ae7ad", func := "windbreak/windbreaklaw07.FixencUnpacks", spec := "fixencUnpacks", inPlace := ["math/bits.Sub64", "math/bits.Add64"], unfollowed := true, recurses := true, named := ["math/bits.divideError", "math/bits.overflowError"], apart := false, narrowed := true }
def FixencUnpacksUptoSaid : Prop := fixencUnpacksUptoRow.holds Try.pinned (OpenSpec.upto fixencUnpacksSpec)

/-- 'windbreaklaw07.FixencBack', WHERE WHAT IT READS IS OF BULK AT MOST 1048576: true; the input reads as it did. -/
def fixencBackUptoRow : OpenClaim := { program := "ytgeanpnkllnipab", sum := "6d6c3effc9725ee50a6333b01b67d98cdde29bd6947e73d381641545894ae7ad", func := "windbreak/windbreaklaw07.FixencBack", spec := "fixencBack", inPlace := ["math/bits.Sub64", "math/bits.Add64"], unfollowed := true, recurses := true, named := ["math/bits.divideError", "math/bits.overflowError"], apart := false, narrowed := true }
def FixencBackUptoSaid : Prop := fixencBackUptoRow.holds Try.pinned (OpenSpec.upto fixencBackSpec)

/-- 'windbreaklaw07.FixencAdds', WHERE WHAT IT READS IS OF BULK AT MOST 1048576: true; the input reads as it did. -/
def fixencAddsUptoRow : OpenClaim := { program := "ytgeanpnkllnipab", sum := "6d6c3effc9725ee50a6333b01b67d98cdde29bd6947e73d381641545894ae7ad", func := "windbreak/windbreaklaw07.FixencAdds", spec := "fixencAdds", inPlace := ["math/bits.Sub64", "math/bits.Add64"], unfollowed := true, recurses := true, named := ["math/bits.divideError", "math/bits.overflowError"], apart := false, narrowed := true }
def FixencAddsUptoSaid : Prop := fixencAddsUptoRow.holds Try.pinned (OpenSpec.upto fixencAddsSpec)

end Rows
end Go.Proofs.Ytgeanpnkllnipab
