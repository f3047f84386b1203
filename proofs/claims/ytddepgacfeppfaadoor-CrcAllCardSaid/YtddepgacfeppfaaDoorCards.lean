/-
  DERIVED. GIVEN WITH THE SEED: THE CARDS: each row of YtddepgacfeppfaaDoorRows.lean that lists a variable, with what it lists TIED to the program's text (the seventh form; the later family's looks); each row that meets fmt, with fmt's text TOLD by the authors' own Lean function (tested against real Go, not proved from fmt's source: count such statements apart). THE CARD IS WHAT COUNTS. Prove the row's statement (the work); the ties are given (YtddepgacfeppfaaDoorTie.lean); close each card by the builder's one call (the guide's Derived/Test/ToyasCard.lean, 'card_holds'). Laid BY PROGRAM, IN A SANDBOX (cutbox-door.mjs). By AI agents, Wed Nov 11 2026. No macro, syntax, notation, axiom, sorry.
-/
import Derived.Test.YtddepgacfeppfaaDoorRows
import GoSem.ClaimSeven
namespace Go.Proofs.YtddepgacfeppfaaDoor
namespace Rows

/-- THE TIED CARD OF 'flumelaw2.CrcJoins'. -/
def crcJoinsCard : Claim7 := { stood := { row := crcJoinsRow, standIns := [], harness := (true, "103b43dcf18b31571149418f9f18ca559146ba3fb381739fc21dfbfec1928f04"), looks := false }, kinds := [], alts := [], laidByText := true, laidKinds := [.data], laidTests := true, laidLooks := .later }
def CrcJoinsCardSaid : Prop := Claim7.holds Tryd.pinned (.plain (OpenSpec.ofChange crcJoinsSpec)) crcJoinsCard

/-- THE TIED CARD OF 'flumelaw2.CrcNear'. -/
def crcNearCard : Claim7 := { stood := { row := crcNearRow, standIns := [], harness := (true, "103b43dcf18b31571149418f9f18ca559146ba3fb381739fc21dfbfec1928f04"), looks := false }, kinds := [], alts := [], laidByText := true, laidKinds := [.data], laidTests := true, laidLooks := .later }
def CrcNearCardSaid : Prop := Claim7.holds Tryd.pinned (.plain (OpenSpec.ofChange crcNearSpec)) crcNearCard

/-- THE TIED CARD OF 'flumelaw2.CrcZeros'. -/
def crcZerosCard : Claim7 := { stood := { row := crcZerosRow, standIns := [], harness := (true, "103b43dcf18b31571149418f9f18ca559146ba3fb381739fc21dfbfec1928f04"), looks := false }, kinds := [], alts := [], laidByText := true, laidKinds := [.data], laidTests := true, laidLooks := .later }
def CrcZerosCardSaid : Prop := Claim7.holds Tryd.pinned (.plain (OpenSpec.ofChange crcZerosSpec)) crcZerosCard

/-- THE TIED CARD OF 'flumelaw2.CrcAll'. -/
def crcAllCard : Claim7 := { stood := { row := crcAllRow, standIns := [], harness := (true, "103b43dcf18b31571149418f9f18ca559146ba3fb381739fc21dfbfec1928f04"), looks := false }, kinds := [], alts := [], laidByText := true, laidKinds := [.data], laidTests := true, laidLooks := .later }
def CrcAllCardSaid : Prop := Claim7.holds Tryd.pinned (.plain (OpenSpec.ofChange crcAllSpec)) crcAllCard

/-- THE SECOND FORM's CARD OF 'flumelaw2.CrcJoins'. -/
def crcJoinsUptoCard : Claim7 := { stood := { row := crcJoinsUptoRow, standIns := [], harness := (true, "103b43dcf18b31571149418f9f18ca559146ba3fb381739fc21dfbfec1928f04"), looks := false }, kinds := [], alts := [], laidByText := true, laidKinds := [.data], laidTests := true, laidLooks := .later }
def CrcJoinsUptoCardSaid : Prop := Claim7.holds Tryd.pinned (.plain (OpenSpec.upto crcJoinsSpec)) crcJoinsUptoCard

/-- THE SECOND FORM's CARD OF 'flumelaw2.CrcNear'. -/
def crcNearUptoCard : Claim7 := { stood := { row := crcNearUptoRow, standIns := [], harness := (true, "103b43dcf18b31571149418f9f18ca559146ba3fb381739fc21dfbfec1928f04"), looks := false }, kinds := [], alts := [], laidByText := true, laidKinds := [.data], laidTests := true, laidLooks := .later }
def CrcNearUptoCardSaid : Prop := Claim7.holds Tryd.pinned (.plain (OpenSpec.upto crcNearSpec)) crcNearUptoCard

/-- THE SECOND FORM's CARD OF 'flumelaw2.CrcZeros'. -/
def crcZerosUptoCard : Claim7 := { stood := { row := crcZerosUptoRow, standIns := [], harness := (true, "103b43dcf18b31571149418f9f18ca559146ba3fb381739fc21dfbfec1928f04"), looks := false }, kinds := [], alts := [], laidByText := true, laidKinds := [.data], laidTests := true, laidLooks := .later }
def CrcZerosUptoCardSaid : Prop := Claim7.holds Tryd.pinned (.plain (OpenSpec.upto crcZerosSpec)) crcZerosUptoCard

/-- THE SECOND FORM's CARD OF 'flumelaw2.CrcAll'. -/
def crcAllUptoCard : Claim7 := { stood := { row := crcAllUptoRow, standIns := [], harness := (true, "103b43dcf18b31571149418f9f18ca559146ba3fb381739fc21dfbfec1928f04"), looks := false }, kinds := [], alts := [], laidByText := true, laidKinds := [.data], laidTests := true, laidLooks := .later }
def CrcAllUptoCardSaid : Prop := Claim7.holds Tryd.pinned (.plain (OpenSpec.upto crcAllSpec)) crcAllUptoCard
end Rows
end Go.Proofs.YtddepgacfeppfaaDoor
