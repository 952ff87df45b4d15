/-
  No cell of these rows narrows 'for every input' (looked for: loops, veiled, ifaces, maps, wideKeys, modest, calm, conditions, laid).
  DERIVED. THE GIVEN ROWS OF THIS SEAT. 9 by the template 'for every input the law returns true; each argument reads behind the call as it read before'; 0 by the template 'total and deterministic' (their statements: YtgelippmcflppaaGreatTotals.lean).
  GIVEN WITH THE SEED: the statements are not yours to turn. If you find one false, say at which input.
  Laid BY PROGRAM, IN A SANDBOX (cutbox-rows.mjs): the forced cells as the released guide's own fill.sh prints them over the translation 352031370916d3f1… (all of the seat's roots in one cut). By AI agents, Wed Nov 11 2026. No macro, syntax, notation, axiom, sorry.
-/
import Derived.Test.YtgelippmcflppaaGreatChecked
import GoSem.Claim
import GoSem.ClaimJoined
import GoSem.ClaimMapViews
import Derived.JoinedTies
import Derived.KernelRfl
namespace Go.Proofs.YtgelippmcflppaaGreat
/- THE CELL 'sum', in the pinned program and in every row, IS THE sha256 OF THE DUMP (.gsa) THAT YtgelippmcflppaaGreatProg.lean LOADS. Nothing in Lean hashes anything: it is a label: what it is worth is what the hold of that sum in a sandbox is worth. -/
noncomputable def Tryz.pinned : Pinned := { name := "ytgelippmcflppaagreat", sum := "352031370916d3f17c5e3d07e1870dd7e295f9839137123410a813c51fe21324", checked := Tryz.checked }
namespace Rows
def none {H : Type} : Left H := { results := [], args := [] }

/-- 'vellumlaw4.WalAll': WHATEVER THE INPUT: true; the input reads as it did. -/
def walAllSpec : ChangeSpec := { name := "walAll", fn := fun _ => fun
  | [d1, d2, d3] => { results := [.lit (.bool true)], args := [d1, d2, d3] }
  | _ => none }
def walAllRow : OpenClaim := { program := "ytgelippmcflppaagreat", sum := "352031370916d3f17c5e3d07e1870dd7e295f9839137123410a813c51fe21324", func := "vellum/vellumlaw4.WalAll", spec := "walAll", unfollowed := true, recurses := true, apart := false }
def WalAllSaid : Prop := walAllRow.holds Tryz.pinned (OpenSpec.ofChange walAllSpec)

/-- ITS FALSE NEIGHBOUR: 'it returns false'. Refute it at one input. -/
def walAllWrong : ChangeSpec := { name := "walAll", fn := fun _ => fun
  | [d1, d2, d3] => { results := [.lit (.bool false)], args := [d1, d2, d3] }
  | _ => none }
def WalAllWrongFalsely : Prop := walAllRow.holds Tryz.pinned (OpenSpec.ofChange walAllWrong)

/-- 'vellumlaw4.WalApart': WHATEVER THE INPUT: true; the input reads as it did. -/
def walApartSpec : ChangeSpec := { name := "walApart", fn := fun _ => fun
  | [d1, d2, d3, d4] => { results := [.lit (.bool true)], args := [d1, d2, d3, d4] }
  | _ => none }
def walApartRow : OpenClaim := { program := "ytgelippmcflppaagreat", sum := "352031370916d3f17c5e3d07e1870dd7e295f9839137123410a813c51fe21324", func := "vellum/vellumlaw4.WalApart", spec := "walApart", unfollowed := true, recurses := true, apart := false }
def WalApartSaid : Prop := walApartRow.holds Tryz.pinned (OpenSpec.ofChange walApartSpec)

/-- ITS FALSE NEIGHBOUR: 'it returns false'. Refute it at one input. -/
def walApartWrong : ChangeSpec := { name := "walApart", fn := fun _ => fun
  | [d1, d2, d3, d4] => { results := [.lit (.bool false)], args := [d1, d2, d3, d4] }
  | _ => none }
def WalApartWrongFalsely : Prop := walApartRow.holds Tryz.pinned (OpenSpec.ofChange walApartWrong)

/-- 'vellumlaw4.WalFormats': WHATEVER THE INPUT: true; the input reads as it did. -/
def walFormatsSpec : ChangeSpec := { name := "walFormats", fn := fun _ => fun
  | [d1, d2, d3] => { results := [.lit (.bool true)], args := [d1, d2, d3] }
  | _ => none }
def walFormatsRow : OpenClaim := { program := "ytgelippmcflppaagreat", sum := "352031370916d3f17c5e3d07e1870dd7e295f9839137123410a813c51fe21324", func := "vellum/vellumlaw4.WalFormats", spec := "walFormats", unfollowed := true, recurses := true, apart := false }
def WalFormatsSaid : Prop := walFormatsRow.holds Tryz.pinned (OpenSpec.ofChange walFormatsSpec)

/-- ITS FALSE NEIGHBOUR: 'it returns false'. Refute it at one input. -/
def walFormatsWrong : ChangeSpec := { name := "walFormats", fn := fun _ => fun
  | [d1, d2, d3] => { results := [.lit (.bool false)], args := [d1, d2, d3] }
  | _ => none }
def WalFormatsWrongFalsely : Prop := walFormatsRow.holds Tryz.pinned (OpenSpec.ofChange walFormatsWrong)

/-- 'vellumlaw4.WalOpens': WHATEVER THE INPUT: true; the input reads as it did. -/
def walOpensSpec : ChangeSpec := { name := "walOpens", fn := fun _ => fun
  | [d1, d2, d3] => { results := [.lit (.bool true)], args := [d1, d2, d3] }
  | _ => none }
def walOpensRow : OpenClaim := { program := "ytgelippmcflppaagreat", sum := "352031370916d3f17c5e3d07e1870dd7e295f9839137123410a813c51fe21324", func := "vellum/vellumlaw4.WalOpens", spec := "walOpens", unfollowed := true, recurses := true, apart := false }
def WalOpensSaid : Prop := walOpensRow.holds Tryz.pinned (OpenSpec.ofChange walOpensSpec)

/-- ITS FALSE NEIGHBOUR: 'it returns false'. Refute it at one input. -/
def walOpensWrong : ChangeSpec := { name := "walOpens", fn := fun _ => fun
  | [d1, d2, d3] => { results := [.lit (.bool false)], args := [d1, d2, d3] }
  | _ => none }
def WalOpensWrongFalsely : Prop := walOpensRow.holds Tryz.pinned (OpenSpec.ofChange walOpensWrong)

/-- 'vellumlaw4.WalStarts': WHATEVER THE INPUT: true; the input reads as it did. -/
def walStartsSpec : ChangeSpec := { name := "walStarts", fn := fun _ => fun
  | [d1, d2, d3] => { results := [.lit (.bool true)], args := [d1, d2, d3] }
  | _ => none }
def walStartsRow : OpenClaim := { program := "ytgelippmcflppaagreat", sum := "352031370916d3f17c5e3d07e1870dd7e295f9839137123410a813c51fe21324", func := "vellum/vellumlaw4.WalStarts", spec := "walStarts", unfollowed := true, recurses := true, apart := false }
def WalStartsSaid : Prop := walStartsRow.holds Tryz.pinned (OpenSpec.ofChange walStartsSpec)

/-- ITS FALSE NEIGHBOUR: 'it returns false'. Refute it at one input. -/
def walStartsWrong : ChangeSpec := { name := "walStarts", fn := fun _ => fun
  | [d1, d2, d3] => { results := [.lit (.bool false)], args := [d1, d2, d3] }
  | _ => none }
def WalStartsWrongFalsely : Prop := walStartsRow.holds Tryz.pinned (OpenSpec.ofChange walStartsWrong)

/-- 'vellumlaw4.WalAppends': WHATEVER THE INPUT: true; the input reads as it did. -/
def walAppendsSpec : ChangeSpec := { name := "walAppends", fn := fun _ => fun
  | [d1, d2, d3] => { results := [.lit (.bool true)], args := [d1, d2, d3] }
  | _ => none }
def walAppendsRow : OpenClaim := { program := "ytgelippmcflppaagreat", sum := "352031370916d3f17c5e3d07e1870dd7e295f9839137123410a813c51fe21324", func := "vellum/vellumlaw4.WalAppends", spec := "walAppends", unfollowed := true, recurses := true, apart := false }
def WalAppendsSaid : Prop := walAppendsRow.holds Tryz.pinned (OpenSpec.ofChange walAppendsSpec)

/-- ITS FALSE NEIGHBOUR: 'it returns false'. Refute it at one input. -/
def walAppendsWrong : ChangeSpec := { name := "walAppends", fn := fun _ => fun
  | [d1, d2, d3] => { results := [.lit (.bool false)], args := [d1, d2, d3] }
  | _ => none }
def WalAppendsWrongFalsely : Prop := walAppendsRow.holds Tryz.pinned (OpenSpec.ofChange walAppendsWrong)

/-- 'vellumlaw4.WalSyncs': WHATEVER THE INPUT: true; the input reads as it did. -/
def walSyncsSpec : ChangeSpec := { name := "walSyncs", fn := fun _ => fun
  | [d1, d2, d3] => { results := [.lit (.bool true)], args := [d1, d2, d3] }
  | _ => none }
def walSyncsRow : OpenClaim := { program := "ytgelippmcflppaagreat", sum := "352031370916d3f17c5e3d07e1870dd7e295f9839137123410a813c51fe21324", func := "vellum/vellumlaw4.WalSyncs", spec := "walSyncs", unfollowed := true, recurses := true, apart := false }
def WalSyncsSaid : Prop := walSyncsRow.holds Tryz.pinned (OpenSpec.ofChange walSyncsSpec)

/-- ITS FALSE NEIGHBOUR: 'it returns false'. Refute it at one input. -/
def walSyncsWrong : ChangeSpec := { name := "walSyncs", fn := fun _ => fun
  | [d1, d2, d3] => { results := [.lit (.bool false)], args := [d1, d2, d3] }
  | _ => none }
def WalSyncsWrongFalsely : Prop := walSyncsRow.holds Tryz.pinned (OpenSpec.ofChange walSyncsWrong)

/-- 'vellumlaw4.WalTrims': WHATEVER THE INPUT: true; the input reads as it did. -/
def walTrimsSpec : ChangeSpec := { name := "walTrims", fn := fun _ => fun
  | [d1, d2, d3] => { results := [.lit (.bool true)], args := [d1, d2, d3] }
  | _ => none }
def walTrimsRow : OpenClaim := { program := "ytgelippmcflppaagreat", sum := "352031370916d3f17c5e3d07e1870dd7e295f9839137123410a813c51fe21324", func := "vellum/vellumlaw4.WalTrims", spec := "walTrims", unfollowed := true, recurses := true, apart := false }
def WalTrimsSaid : Prop := walTrimsRow.holds Tryz.pinned (OpenSpec.ofChange walTrimsSpec)

/-- ITS FALSE NEIGHBOUR: 'it returns false'. Refute it at one input. -/
def walTrimsWrong : ChangeSpec := { name := "walTrims", fn := fun _ => fun
  | [d1, d2, d3] => { results := [.lit (.bool false)], args := [d1, d2, d3] }
  | _ => none }
def WalTrimsWrongFalsely : Prop := walTrimsRow.holds Tryz.pinned (OpenSpec.ofChange walTrimsWrong)

/-- 'vellumlaw4.WalMarks': WHATEVER THE INPUT: true; the input reads as it did. -/
def walMarksSpec : ChangeSpec := { name := "walMarks", fn := fun _ => fun
  | [d1, d2, d3] => { results := [.lit (.bool true)], args := [d1, d2, d3] }
  | _ => none }
def walMarksRow : OpenClaim := { program := "ytgelippmcflppaagreat", sum := "352031370916d3f17c5e3d07e1870dd7e295f9839137123410a813c51fe21324", func := "vellum/vellumlaw4.WalMarks", spec := "walMarks", unfollowed := true, recurses := true, apart := false }
def WalMarksSaid : Prop := walMarksRow.holds Tryz.pinned (OpenSpec.ofChange walMarksSpec)

/-- ITS FALSE NEIGHBOUR: 'it returns false'. Refute it at one input. -/
def walMarksWrong : ChangeSpec := { name := "walMarks", fn := fun _ => fun
  | [d1, d2, d3] => { results := [.lit (.bool false)], args := [d1, d2, d3] }
  | _ => none }
def WalMarksWrongFalsely : Prop := walMarksRow.holds Tryz.pinned (OpenSpec.ofChange walMarksWrong)

/- THE SECOND FORM. 'bulk': how many values and letters a reading holds, each counted each time it is reached (what is shared counts as often as it is met; a slice's spare places count too). A statement '..UptoSaid' is the law's where the arguments, and the package variables that the reading takes, are together of bulk at most 1048576: NARROWER than '..Said'. Prove '..Said' where nothing that the law and all that it calls make is longer than what came in: it says more and counts as full. Else prove '..UptoSaid'. A law counts once. -/
mutual
def uptoBulk {H : Type} : DataW H → Nat
  | .lit (.string bytes) => bytes.length + 1
  | .lit _ => 1
  | .nil => 1
  | .ptr d => uptoBulk d + 1
  | .slice elems spare => uptoBulkAll elems + uptoBulkAll spare + 1
  | .agg parts => uptoBulkAll parts + 1
  | .iface _ d => uptoBulk d + 1
  | .map entries => uptoBulkEntries entries + 1
  | .held _ => 1
def uptoBulkAll {H : Type} : List (DataW H) → Nat
  | [] => 0
  | d :: r => uptoBulk d + uptoBulkAll r
def uptoBulkEntries {H : Type} : List (Lit × DataW H) → Nat
  | [] => 0
  | x :: r => uptoBulkEntry x + uptoBulkEntries r
def uptoBulkEntry {H : Type} : Lit × DataW H → Nat
  | (.string bytes, d) => bytes.length + uptoBulk d + 1
  | (_, d) => uptoBulk d + 1
 end
def uptoSmall : (H : Type) → List (DataW H) → Bool := fun _ ds => decide (uptoBulkAll ds ≤ 1048576)
def OpenSpec.upto (s : _root_.Go.ChangeSpec) : _root_.Go.OpenSpec := { _root_.Go.OpenSpec.ofChange s with cond := some uptoSmall }

/-- 'vellumlaw4.WalAll', WHERE WHAT IT READS IS OF BULK AT MOST 1048576: true; the input reads as it did. -/
def walAllUptoRow : OpenClaim := { program := "ytgelippmcflppaagreat", sum := "352031370916d3f17c5e3d07e1870dd7e295f9839137123410a813c51fe21324", func := "vellum/vellumlaw4.WalAll", spec := "walAll", unfollowed := true, recurses := true, apart := false, narrowed := true }
def WalAllUptoSaid : Prop := walAllUptoRow.holds Tryz.pinned (OpenSpec.upto walAllSpec)

/-- 'vellumlaw4.WalApart', WHERE WHAT IT READS IS OF BULK AT MOST 1048576: true; the input reads as it did. -/
def walApartUptoRow : OpenClaim := { program := "ytgelippmcflppaagreat", sum := "352031370916d3f17c5e3d07e1870dd7e295f9839137123410a813c51fe21324", func := "vellum/vellumlaw4.WalApart", spec := "walApart", unfollowed := true, recurses := true, apart := false, narrowed := true }
def WalApartUptoSaid : Prop := walApartUptoRow.holds Tryz.pinned (OpenSpec.upto walApartSpec)

/-- 'vellumlaw4.WalFormats', WHERE WHAT IT READS IS OF BULK AT MOST 1048576: true; the input reads as it did. -/
def walFormatsUptoRow : OpenClaim := { program := "ytgelippmcflppaagreat", sum := "352031370916d3f17c5e3d07e1870dd7e295f9839137123410a813c51fe21324", func := "vellum/vellumlaw4.WalFormats", spec := "walFormats", unfollowed := true, recurses := true, apart := false, narrowed := true }
def WalFormatsUptoSaid : Prop := walFormatsUptoRow.holds Tryz.pinned (OpenSpec.upto walFormatsSpec)

/-- 'vellumlaw4.WalOpens', WHERE WHAT IT READS IS OF BULK AT MOST 1048576: true; the input reads as it did. -/
def walOpensUptoRow : OpenClaim := { program := "ytgelippmcflppaagreat", sum := "352031370916d3f17c5e3d07e1870dd7e295f9839137123410a813c51fe21324", func := "vellum/vellumlaw4.WalOpens", spec := "walOpens", unfollowed := true, recurses := true, apart := false, narrowed := true }
def WalOpensUptoSaid : Prop := walOpensUptoRow.holds Tryz.pinned (OpenSpec.upto walOpensSpec)

/-- 'vellumlaw4.WalStarts', WHERE WHAT IT READS IS OF BULK AT MOST 1048576: true; the input reads as it did. -/
def walStartsUptoRow : OpenClaim := { program := "ytgelippmcflppaagreat", sum := "352031370916d3f17c5e3d07e1870dd7e295f9839137123410a813c51fe21324", func := "vellum/vellumlaw4.WalStarts", spec := "walStarts", unfollowed := true, recurses := true, apart := false, narrowed := true }
def WalStartsUptoSaid : Prop := walStartsUptoRow.holds Tryz.pinned (OpenSpec.upto walStartsSpec)

/-- 'vellumlaw4.WalAppends', WHERE WHAT IT READS IS OF BULK AT MOST 1048576: true; the input reads as it did. -/
def walAppendsUptoRow : OpenClaim := { program := "ytgelippmcflppaagreat", sum := "352031370916d3f17c5e3d07e1870dd7e295f9839137123410a813c51fe21324", func := "vellum/vellumlaw4.WalAppends", spec := "walAppends", unfollowed := true, recurses := true, apart := false, narrowed := true }
def WalAppendsUptoSaid : Prop := walAppendsUptoRow.holds Tryz.pinned (OpenSpec.upto walAppendsSpec)

/-- 'vellumlaw4.WalSyncs', WHERE WHAT IT READS IS OF BULK AT MOST 1048576: true; the input reads as it did. -/
def walSyncsUptoRow : OpenClaim := { program := "ytgelippmcflppaagreat", sum := "352031370916d3f17c5e3d07e1870dd7e295f9839137123410a813c51fe21324", func := "vellum/vellumlaw4.WalSyncs", spec := "walSyncs", unfollowed := true, recurses := true, apart := false, narrowed := true }
def WalSyncsUptoSaid : Prop := walSyncsUptoRow.holds Tryz.pinned (OpenSpec.upto walSyncsSpec)

/-- 'vellumlaw4.WalTrims', WHERE WHAT IT READS IS OF BULK AT MOST 1048576: true; the input reads as it did. -/
def walTrimsUptoRow : OpenClaim := { program := "ytgelippmcflppaagreat", sum := "352031370916d3f17c5e3d07e1870dd7e295f9839137123410a813c51fe21324", func := "vellum/vellumlaw4.WalTrims", spec := "walTrims", unfollowed := true, recurses := true, apart := false, narrowed := true }
def WalTrimsUptoSaid : Prop := walTrimsUptoRow.holds Tryz.pinned (OpenSpec.upto walTrimsSpec)

/-- 'vellumlaw4.WalMarks', WHERE WHAT IT READS IS OF BULK AT MOST 1048576: true; the input reads as it did. -/
def walMarksUptoRow : OpenClaim := { program := "ytgelippmcflppaagreat", sum := "352031370916d3f17c5e3d07e1870dd7e295f9839137123410a813c51fe21324", func := "vellum/vellumlaw4.WalMarks", spec := "walMarks", unfollowed := true, recurses := true, apart := false, narrowed := true }
def WalMarksUptoSaid : Prop := walMarksUptoRow.holds Tryz.pinned (OpenSpec.upto walMarksSpec)

end Rows
end Go.Proofs.YtgelippmcflppaaGreat
