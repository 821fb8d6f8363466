/-
  DERIVED. GIVEN WITH THE SEED: THE CARDS: each row of YtpnigaoibhogfaaDoorRows.lean that lists a variable, with what it lists TIED to the program's text (the seventh form; the later family's looks); each row that meets fmt, with fmt's text TOLD by the authors' own Lean function (tested against real Go, not proved from fmt's source: count such statements apart). THE CARD IS WHAT COUNTS. Prove the row's statement (the work); the ties are given (YtpnigaoibhogfaaDoorTie.lean); close each card by the builder's one call (the guide's Derived/Test/ToyasCard.lean, 'card_holds'). Laid BY PROGRAM, IN A SANDBOX (cutbox-door.mjs). By AI agents, Wed Nov 11 2026. No macro, syntax, notation, axiom, sorry.
-/
import Derived.Test.YtpnigaoibhogfaaDoorRows
import GoSem.ClaimSeven
namespace Go.Proofs.YtpnigaoibhogfaaDoor
namespace Rows

/-- THE TIED CARD OF 'tidemilllaw11.VatSums'. -/
def vatSumsCard : Claim7 := { stood := { row := vatSumsRow, standIns := [], harness := (true, "bd2f5fb8a2e3d0ef2bf273fff60766853cee3ca2e6501f0f44ce5f7e9fc6e71c"), looks := false }, kinds := [], alts := [], laidByText := true, laidKinds := [.data], laidTests := true, laidLooks := .later }
def VatSumsCardSaid : Prop := Claim7.holds Tryd.pinned (.plain (OpenSpec.ofChange vatSumsSpec)) vatSumsCard

/-- THE TIED CARD OF 'tidemilllaw11.VatAdds'. -/
def vatAddsCard : Claim7 := { stood := { row := vatAddsRow, standIns := [], harness := (true, "bd2f5fb8a2e3d0ef2bf273fff60766853cee3ca2e6501f0f44ce5f7e9fc6e71c"), looks := false }, kinds := [], alts := [], laidByText := true, laidKinds := [.data], laidTests := true, laidLooks := .later }
def VatAddsCardSaid : Prop := Claim7.holds Tryd.pinned (.plain (OpenSpec.ofChange vatAddsSpec)) vatAddsCard

/-- THE TIED CARD OF 'tidemilllaw11.VatOrders'. -/
def vatOrdersCard : Claim7 := { stood := { row := vatOrdersRow, standIns := [], harness := (true, "bd2f5fb8a2e3d0ef2bf273fff60766853cee3ca2e6501f0f44ce5f7e9fc6e71c"), looks := false }, kinds := [], alts := [], laidByText := true, laidKinds := [.data], laidTests := true, laidLooks := .later }
def VatOrdersCardSaid : Prop := Claim7.holds Tryd.pinned (.plain (OpenSpec.ofChange vatOrdersSpec)) vatOrdersCard

/-- THE TIED CARD OF 'tidemilllaw11.VatWhole'. -/
def vatWholeCard : Claim7 := { stood := { row := vatWholeRow, standIns := [], harness := (true, "bd2f5fb8a2e3d0ef2bf273fff60766853cee3ca2e6501f0f44ce5f7e9fc6e71c"), looks := false }, kinds := [], alts := [], laidByText := true, laidKinds := [.data], laidTests := true, laidLooks := .later }
def VatWholeCardSaid : Prop := Claim7.holds Tryd.pinned (.plain (OpenSpec.ofChange vatWholeSpec)) vatWholeCard

/-- THE TIED CARD OF 'tidemilllaw11.VatMerges'. -/
def vatMergesCard : Claim7 := { stood := { row := vatMergesRow, standIns := [], harness := (true, "bd2f5fb8a2e3d0ef2bf273fff60766853cee3ca2e6501f0f44ce5f7e9fc6e71c"), looks := false }, kinds := [], alts := [], laidByText := true, laidKinds := [.data], laidTests := true, laidLooks := .later }
def VatMergesCardSaid : Prop := Claim7.holds Tryd.pinned (.plain (OpenSpec.ofChange vatMergesSpec)) vatMergesCard

/-- THE SECOND FORM's CARD OF 'tidemilllaw11.VatSums'. -/
def vatSumsUptoCard : Claim7 := { stood := { row := vatSumsUptoRow, standIns := [], harness := (true, "bd2f5fb8a2e3d0ef2bf273fff60766853cee3ca2e6501f0f44ce5f7e9fc6e71c"), looks := false }, kinds := [], alts := [], laidByText := true, laidKinds := [.data], laidTests := true, laidLooks := .later }
def VatSumsUptoCardSaid : Prop := Claim7.holds Tryd.pinned (.plain (OpenSpec.upto vatSumsSpec)) vatSumsUptoCard

/-- THE SECOND FORM's CARD OF 'tidemilllaw11.VatAdds'. -/
def vatAddsUptoCard : Claim7 := { stood := { row := vatAddsUptoRow, standIns := [], harness := (true, "bd2f5fb8a2e3d0ef2bf273fff60766853cee3ca2e6501f0f44ce5f7e9fc6e71c"), looks := false }, kinds := [], alts := [], laidByText := true, laidKinds := [.data], laidTests := true, laidLooks := .later }
def VatAddsUptoCardSaid : Prop := Claim7.holds Tryd.pinned (.plain (OpenSpec.upto vatAddsSpec)) vatAddsUptoCard

/-- THE SECOND FORM's CARD OF 'tidemilllaw11.VatOrders'. -/
def vatOrdersUptoCard : Claim7 := { stood := { row := vatOrdersUptoRow, standIns := [], harness := (true, "bd2f5fb8a2e3d0ef2bf273fff60766853cee3ca2e6501f0f44ce5f7e9fc6e71c"), looks := false }, kinds := [], alts := [], laidByText := true, laidKinds := [.data], laidTests := true, laidLooks := .later }
def VatOrdersUptoCardSaid : Prop := Claim7.holds Tryd.pinned (.plain (OpenSpec.upto vatOrdersSpec)) vatOrdersUptoCard

/-- THE SECOND FORM's CARD OF 'tidemilllaw11.VatWhole'. -/
def vatWholeUptoCard : Claim7 := { stood := { row := vatWholeUptoRow, standIns := [], harness := (true, "bd2f5fb8a2e3d0ef2bf273fff60766853cee3ca2e6501f0f44ce5f7e9fc6e71c"), looks := false }, kinds := [], alts := [], laidByText := true, laidKinds := [.data], laidTests := true, laidLooks := .later }
def VatWholeUptoCardSaid : Prop := Claim7.holds Tryd.pinned (.plain (OpenSpec.upto vatWholeSpec)) vatWholeUptoCard

/-- THE SECOND FORM's CARD OF 'tidemilllaw11.VatMerges'. -/
def vatMergesUptoCard : Claim7 := { stood := { row := vatMergesUptoRow, standIns := [], harness := (true, "bd2f5fb8a2e3d0ef2bf273fff60766853cee3ca2e6501f0f44ce5f7e9fc6e71c"), looks := false }, kinds := [], alts := [], laidByText := true, laidKinds := [.data], laidTests := true, laidLooks := .later }
def VatMergesUptoCardSaid : Prop := Claim7.holds Tryd.pinned (.plain (OpenSpec.upto vatMergesSpec)) vatMergesUptoCard
end Rows
end Go.Proofs.YtpnigaoibhogfaaDoor
