/-
  DERIVED. GIVEN WITH THE SEED: THE CARDS: each row of YtgeanpnkllnipaaDoorRows.lean that lists a variable, with what it lists TIED to the program's text (the seventh form; the later family's looks); each row that meets fmt, with fmt's text TOLD by the authors' own Lean function (tested against real Go, not proved from fmt's source: count such statements apart). THE CARD IS WHAT COUNTS. Prove the row's statement (the work); the ties are given (YtgeanpnkllnipaaDoorTie.lean); close each card by the builder's one call (the guide's Derived/Test/ToyasCard.lean, 'card_holds'). Laid BY PROGRAM, IN A SANDBOX (cutbox-door.mjs). By AI agents, Wed Nov 11 2026. No macro, syntax, notation, axiom, sorry.
-/
import Derived.Test.YtgeanpnkllnipaaDoorRows
import GoSem.ClaimSeven
namespace Go.Proofs.YtgeanpnkllnipaaDoor
namespace Rows

/-- THE TIED CARD OF 'windbreaklaw05.PrimeWitness'. -/
def primeWitnessCard : Claim7 := { stood := { row := primeWitnessRow, standIns := [], harness := (true, "0d15b7b8f517a33b5650c3a81c7fc2e77122bddb66566128ed9fc30394f7386e"), looks := false }, kinds := [], alts := [], laidByText := true, laidKinds := [.data], laidTests := true, laidLooks := .later }
def PrimeWitnessCardSaid : Prop := Claim7.holds Tryd.pinned (.plain (OpenSpec.ofChange primeWitnessSpec)) primeWitnessCard

/-- THE TIED CARD OF 'windbreaklaw05.PrimeHonest'. -/
def primeHonestCard : Claim7 := { stood := { row := primeHonestRow, standIns := [], harness := (true, "0d15b7b8f517a33b5650c3a81c7fc2e77122bddb66566128ed9fc30394f7386e"), looks := false }, kinds := [], alts := [], laidByText := true, laidKinds := [.data], laidTests := true, laidLooks := .later }
def PrimeHonestCardSaid : Prop := Claim7.holds Tryd.pinned (.plain (OpenSpec.ofChange primeHonestSpec)) primeHonestCard

/-- THE SECOND FORM's CARD OF 'windbreaklaw05.PrimeWitness'. -/
def primeWitnessUptoCard : Claim7 := { stood := { row := primeWitnessUptoRow, standIns := [], harness := (true, "0d15b7b8f517a33b5650c3a81c7fc2e77122bddb66566128ed9fc30394f7386e"), looks := false }, kinds := [], alts := [], laidByText := true, laidKinds := [.data], laidTests := true, laidLooks := .later }
def PrimeWitnessUptoCardSaid : Prop := Claim7.holds Tryd.pinned (.plain (OpenSpec.upto primeWitnessSpec)) primeWitnessUptoCard

/-- THE SECOND FORM's CARD OF 'windbreaklaw05.PrimeHonest'. -/
def primeHonestUptoCard : Claim7 := { stood := { row := primeHonestUptoRow, standIns := [], harness := (true, "0d15b7b8f517a33b5650c3a81c7fc2e77122bddb66566128ed9fc30394f7386e"), looks := false }, kinds := [], alts := [], laidByText := true, laidKinds := [.data], laidTests := true, laidLooks := .later }
def PrimeHonestUptoCardSaid : Prop := Claim7.holds Tryd.pinned (.plain (OpenSpec.upto primeHonestSpec)) primeHonestUptoCard
end Rows
end Go.Proofs.YtgeanpnkllnipaaDoor
