/-
  NARROWER THAN 'FOR EVERY INPUT', by the rows' own cells (each row's printed sentence says how): VatSums: laid · VatAdds: laid · VatOrders: laid · VatWhole: laid · VatMerges: laid.
  DERIVED. THE GIVEN ROWS OF THIS SEAT. 5 by the template 'for every input the law returns true; each argument reads behind the call as it read before'; 0 by the template 'total and deterministic' (their statements: YtpnigaoibhogfaaDoorTotals.lean).
  GIVEN WITH THE SEED: the statements are not yours to turn. If you find one false, say at which input.
  Laid BY PROGRAM, IN A SANDBOX (cutbox-rows.mjs): the forced cells as the released guide's own fill.sh prints them over the translation 0b142372d110c7b8… (all of the seat's roots in one cut). By AI agents, Wed Nov 11 2026. No macro, syntax, notation, axiom, sorry.
-/
import Derived.Test.YtpnigaoibhogfaaDoorChecked
import GoSem.Claim
import GoSem.ClaimJoined
import GoSem.ClaimMapViews
import Derived.JoinedTies
import Derived.KernelRfl
namespace Go.Proofs.YtpnigaoibhogfaaDoor
/- THE CELL 'sum', in the pinned program and in every row, IS THE sha256 OF THE DUMP (.gsa) THAT YtpnigaoibhogfaaDoorProg.lean LOADS. Nothing in Lean hashes anything: it is a label: what it is worth is what the hold of that sum in a sandbox is worth. -/
noncomputable def Tryd.pinned : Pinned := { name := "ytpnigaoibhogfaadoor", sum := "0b142372d110c7b8530890b5278a61fce9911e7af87ac9b5b40d72ae88bb164a", checked := Tryd.checked }
namespace Rows
def none {H : Type} : Left H := { results := [], args := [] }

/- WHAT THE LISTED PACKAGE-LEVEL VARIABLES READ AS WHEN THE CALL BEGINS. Each datum BY PROGRAM (the guide's laid-datum.mjs) off the statement by which the dump's own 'gosem.cut.vars' lays the variable. In a bare row this is a premise. The card (YtpnigaoibhogfaaDoorCards.lean) ties it to the program's text. -/
def laid_tidemill_vat_ranks {H : Type} : DataW H := .agg [.agg [.lit (.int .i64 1), .lit (.int .i64 2)], .agg [.lit (.int .i64 9), .lit (.int .i64 10)], .agg [.lit (.int .i64 99), .lit (.int .i64 100)]]

/-- 'tidemilllaw11.VatSums': WHATEVER THE INPUT: true; the input reads as it did. -/
def vatSumsSpec : ChangeSpec := { name := "vatSums", fn := fun _ => fun
  | [d1, d2, d3] => { results := [.lit (.bool true)], args := [d1, d2, d3] }
  | _ => none }
def vatSumsRow : OpenClaim := { program := "ytpnigaoibhogfaadoor", sum := "0b142372d110c7b8530890b5278a61fce9911e7af87ac9b5b40d72ae88bb164a", func := "tidemill/tidemilllaw11.VatSums", spec := "vatSums", unfollowed := true, recurses := true, named := ["tidemill/vat.ranks"], apart := false, laid := [("tidemill/vat.ranks", laid_tidemill_vat_ranks)] }
def VatSumsSaid : Prop := vatSumsRow.holds Tryd.pinned (OpenSpec.ofChange vatSumsSpec)

/-- ITS FALSE NEIGHBOUR: 'it returns false'. Refute it at one input. -/
def vatSumsWrong : ChangeSpec := { name := "vatSums", fn := fun _ => fun
  | [d1, d2, d3] => { results := [.lit (.bool false)], args := [d1, d2, d3] }
  | _ => none }
def VatSumsWrongFalsely : Prop := vatSumsRow.holds Tryd.pinned (OpenSpec.ofChange vatSumsWrong)

/-- 'tidemilllaw11.VatAdds': WHATEVER THE INPUT: true; the input reads as it did. -/
def vatAddsSpec : ChangeSpec := { name := "vatAdds", fn := fun _ => fun
  | [d1, d2] => { results := [.lit (.bool true)], args := [d1, d2] }
  | _ => none }
def vatAddsRow : OpenClaim := { program := "ytpnigaoibhogfaadoor", sum := "0b142372d110c7b8530890b5278a61fce9911e7af87ac9b5b40d72ae88bb164a", func := "tidemill/tidemilllaw11.VatAdds", spec := "vatAdds", unfollowed := true, recurses := true, named := ["tidemill/vat.ranks"], apart := false, laid := [("tidemill/vat.ranks", laid_tidemill_vat_ranks)] }
def VatAddsSaid : Prop := vatAddsRow.holds Tryd.pinned (OpenSpec.ofChange vatAddsSpec)

/-- ITS FALSE NEIGHBOUR: 'it returns false'. Refute it at one input. -/
def vatAddsWrong : ChangeSpec := { name := "vatAdds", fn := fun _ => fun
  | [d1, d2] => { results := [.lit (.bool false)], args := [d1, d2] }
  | _ => none }
def VatAddsWrongFalsely : Prop := vatAddsRow.holds Tryd.pinned (OpenSpec.ofChange vatAddsWrong)

/-- 'tidemilllaw11.VatOrders': WHATEVER THE INPUT: true; the input reads as it did. -/
def vatOrdersSpec : ChangeSpec := { name := "vatOrders", fn := fun _ => fun
  | [d1, d2, d3] => { results := [.lit (.bool true)], args := [d1, d2, d3] }
  | _ => none }
def vatOrdersRow : OpenClaim := { program := "ytpnigaoibhogfaadoor", sum := "0b142372d110c7b8530890b5278a61fce9911e7af87ac9b5b40d72ae88bb164a", func := "tidemill/tidemilllaw11.VatOrders", spec := "vatOrders", unfollowed := true, recurses := true, named := ["tidemill/vat.ranks"], apart := false, laid := [("tidemill/vat.ranks", laid_tidemill_vat_ranks)] }
def VatOrdersSaid : Prop := vatOrdersRow.holds Tryd.pinned (OpenSpec.ofChange vatOrdersSpec)

/-- ITS FALSE NEIGHBOUR: 'it returns false'. Refute it at one input. -/
def vatOrdersWrong : ChangeSpec := { name := "vatOrders", fn := fun _ => fun
  | [d1, d2, d3] => { results := [.lit (.bool false)], args := [d1, d2, d3] }
  | _ => none }
def VatOrdersWrongFalsely : Prop := vatOrdersRow.holds Tryd.pinned (OpenSpec.ofChange vatOrdersWrong)

/-- 'tidemilllaw11.VatWhole': WHATEVER THE INPUT: true; the input reads as it did. -/
def vatWholeSpec : ChangeSpec := { name := "vatWhole", fn := fun _ => fun
  | [d1, d2] => { results := [.lit (.bool true)], args := [d1, d2] }
  | _ => none }
def vatWholeRow : OpenClaim := { program := "ytpnigaoibhogfaadoor", sum := "0b142372d110c7b8530890b5278a61fce9911e7af87ac9b5b40d72ae88bb164a", func := "tidemill/tidemilllaw11.VatWhole", spec := "vatWhole", unfollowed := true, recurses := true, named := ["tidemill/vat.ranks"], apart := false, laid := [("tidemill/vat.ranks", laid_tidemill_vat_ranks)] }
def VatWholeSaid : Prop := vatWholeRow.holds Tryd.pinned (OpenSpec.ofChange vatWholeSpec)

/-- ITS FALSE NEIGHBOUR: 'it returns false'. Refute it at one input. -/
def vatWholeWrong : ChangeSpec := { name := "vatWhole", fn := fun _ => fun
  | [d1, d2] => { results := [.lit (.bool false)], args := [d1, d2] }
  | _ => none }
def VatWholeWrongFalsely : Prop := vatWholeRow.holds Tryd.pinned (OpenSpec.ofChange vatWholeWrong)

/-- 'tidemilllaw11.VatMerges': WHATEVER THE INPUT: true; the input reads as it did. -/
def vatMergesSpec : ChangeSpec := { name := "vatMerges", fn := fun _ => fun
  | [d1, d2, d3] => { results := [.lit (.bool true)], args := [d1, d2, d3] }
  | _ => none }
def vatMergesRow : OpenClaim := { program := "ytpnigaoibhogfaadoor", sum := "0b142372d110c7b8530890b5278a61fce9911e7af87ac9b5b40d72ae88bb164a", func := "tidemill/tidemilllaw11.VatMerges", spec := "vatMerges", unfollowed := true, recurses := true, named := ["tidemill/vat.ranks"], apart := false, laid := [("tidemill/vat.ranks", laid_tidemill_vat_ranks)] }
def VatMergesSaid : Prop := vatMergesRow.holds Tryd.pinned (OpenSpec.ofChange vatMergesSpec)

/-- ITS FALSE NEIGHBOUR: 'it returns false'. Refute it at one input. -/
def vatMergesWrong : ChangeSpec := { name := "vatMerges", fn := fun _ => fun
  | [d1, d2, d3] => { results := [.lit (.bool false)], args := [d1, d2, d3] }
  | _ => none }
def VatMergesWrongFalsely : Prop := vatMergesRow.holds Tryd.pinned (OpenSpec.ofChange vatMergesWrong)

/- THE SECOND FORM. 'bulk': how many values and letters a reading holds, each counted each time it is reached (what is shared counts as often as it is met; a slice's spare places count too). A statement '..UptoSaid' is the law's where the arguments, and the package variables that the reading takes, are together of bulk at most 1048576: NARROWER than '..Said'. Prove '..Said' where nothing that the law and all that it calls make is longer than what came in: it says more and counts as full. Else prove '..UptoSaid'. A law counts once. -/
mutual
def uptoBulk {H : Type} : DataW H → Nat
  | .lit (.string bytes) => bytes.length + 1
  | .lit _ => 1
  | .nil => 1
  | .ptr d => uptoBulk d + 1
  | .slice elems spare => uptoBulkAll elems + uptoBulkAll spare + 1
  | .agg parts => uptoBulkAll parts + 1
  | .iface _ d => uptoBulk d + 1
  | .map entries => uptoBulkEntries entries + 1
  | .held _ => 1
def uptoBulkAll {H : Type} : List (DataW H) → Nat
  | [] => 0
  | d :: r => uptoBulk d + uptoBulkAll r
def uptoBulkEntries {H : Type} : List (Lit × DataW H) → Nat
  | [] => 0
  | x :: r => uptoBulkEntry x + uptoBulkEntries r
def uptoBulkEntry {H : Type} : Lit × DataW H → Nat
  | (.string bytes, d) => bytes.length + uptoBulk d + 1
  | (_, d) => uptoBulk d + 1
 end
def uptoSmall : (H : Type) → List (DataW H) → Bool := fun _ ds => decide (uptoBulkAll ds ≤ 1048576)
def OpenSpec.upto (s : _root_.Go.ChangeSpec) : _root_.Go.OpenSpec := { _root_.Go.OpenSpec.ofChange s with cond := some uptoSmall }

/-- 'tidemilllaw11.VatSums', WHERE WHAT IT READS IS OF BULK AT MOST 1048576: true; the input reads as it did. -/
def vatSumsUptoRow : OpenClaim := { program := "ytpnigaoibhogfaadoor", sum := "0b142372d110c7b8530890b5278a61fce9911e7af87ac9b5b40d72ae88bb164a", func := "tidemill/tidemilllaw11.VatSums", spec := "vatSums", unfollowed := true, recurses := true, named := ["tidemill/vat.ranks"], apart := false, laid := [("tidemill/vat.ranks", laid_tidemill_vat_ranks)], narrowed := true }
def VatSumsUptoSaid : Prop := vatSumsUptoRow.holds Tryd.pinned (OpenSpec.upto vatSumsSpec)

/-- 'tidemilllaw11.VatAdds', WHERE WHAT IT READS IS OF BULK AT MOST 1048576: true; the input reads as it did. -/
def vatAddsUptoRow : OpenClaim := { program := "ytpnigaoibhogfaadoor", sum := "0b142372d110c7b8530890b5278a61fce9911e7af87ac9b5b40d72ae88bb164a", func := "tidemill/tidemilllaw11.VatAdds", spec := "vatAdds", unfollowed := true, recurses := true, named := ["tidemill/vat.ranks"], apart := false, laid := [("tidemill/vat.ranks", laid_tidemill_vat_ranks)], narrowed := true }
def VatAddsUptoSaid : Prop := vatAddsUptoRow.holds Tryd.pinned (OpenSpec.upto vatAddsSpec)

/-- 'tidemilllaw11.VatOrders', WHERE WHAT IT READS IS OF BULK AT MOST 1048576: true; the input reads as it did. -/
def vatOrdersUptoRow : OpenClaim := { program := "ytpnigaoibhogfaadoor", sum := "0b142372d110c7b8530890b5278a61fce9911e7af87ac9b5b40d72ae88bb164a", func := "tidemill/tidemilllaw11.VatOrders", spec := "vatOrders", unfollowed := true, recurses := true, named := ["tidemill/vat.ranks"], apart := false, laid := [("tidemill/vat.ranks", laid_tidemill_vat_ranks)], narrowed := true }
def VatOrdersUptoSaid : Prop := vatOrdersUptoRow.holds Tryd.pinned (OpenSpec.upto vatOrdersSpec)

/-- 'tidemilllaw11.VatWhole', WHERE WHAT IT READS IS OF BULK AT MOST 1048576: true; the input reads as it did. -/
def vatWholeUptoRow : OpenClaim := { program := "ytpnigaoibhogfaadoor", sum := "0b142372d110c7b8530890b5278a61fce9911e7af87ac9b5b40d72ae88bb164a", func := "tidemill/tidemilllaw11.VatWhole", spec := "vatWhole", unfollowed := true, recurses := true, named := ["tidemill/vat.ranks"], apart := false, laid := [("tidemill/vat.ranks", laid_tidemill_vat_ranks)], narrowed := true }
def VatWholeUptoSaid : Prop := vatWholeUptoRow.holds Tryd.pinned (OpenSpec.upto vatWholeSpec)

/-- 'tidemilllaw11.VatMerges', WHERE WHAT IT READS IS OF BULK AT MOST 1048576: true; the input reads as it did. -/
def vatMergesUptoRow : OpenClaim := { program := "ytpnigaoibhogfaadoor", sum := "0b142372d110c7b8530890b5278a61fce9911e7af87ac9b5b40d72ae88bb164a", func := "tidemill/tidemilllaw11.VatMerges", spec := "vatMerges", unfollowed := true, recurses := true, named := ["tidemill/vat.ranks"], apart := false, laid := [("tidemill/vat.ranks", laid_tidemill_vat_ranks)], narrowed := true }
def VatMergesUptoSaid : Prop := vatMergesUptoRow.holds Tryd.pinned (OpenSpec.upto vatMergesSpec)

end Rows
end Go.Proofs.YtpnigaoibhogfaaDoor
