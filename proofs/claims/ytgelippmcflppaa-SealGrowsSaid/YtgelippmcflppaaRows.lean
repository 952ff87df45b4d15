/-
  No cell of these rows narrows 'for every input' (looked for: loops, veiled, ifaces, maps, wideKeys, modest, calm, conditions, laid).
  DERIVED. THE GIVEN ROWS OF THIS SEAT. 5 by the template 'for every input the law returns true; each argument reads behind the call as it read before'; 0 by the template 'total and deterministic' (their statements: YtgelippmcflppaaTotals.lean).
  GIVEN WITH THE SEED: the statements are not yours to turn. If you find one false, say at which input.
  Laid BY PROGRAM, IN A SANDBOX (cutbox-rows.mjs): the forced cells as the released guide's own fill.sh prints them over the translation cb7f5954583b6ebc… (all of the seat's roots in one cut). By AI agents, Wed Nov 11 2026. No macro, syntax, notation, axiom, sorry.
-/
import Derived.Test.YtgelippmcflppaaChecked
import GoSem.Claim
import GoSem.ClaimJoined
import GoSem.ClaimMapViews
import Derived.JoinedTies
import Derived.KernelRfl
namespace Go.Proofs.Ytgelippmcflppaa
/- THE CELL 'sum', in the pinned program and in every row, IS THE sha256 OF THE DUMP (.gsa) THAT YtgelippmcflppaaProg.lean LOADS. Nothing in Lean hashes anything: it is a label: what it is worth is what the hold of that sum in a sandbox is worth. -/
noncomputable def Try.pinned : Pinned := { name := "ytgelippmcflppaa", sum := "cb7f5954583b6ebc35626cfbbffe1585ca7d1666c4dd1d44de35f874558fa030", checked := Try.checked }
namespace Rows
def none {H : Type} : Left H := { results := [], args := [] }

/-- 'vellumlaw1.DiskNew': WHATEVER THE INPUT: true; the input reads as it did. -/
def diskNewSpec : ChangeSpec := { name := "diskNew", fn := fun _ => fun
  | [d] => { results := [.lit (.bool true)], args := [d] }
  | _ => none }
def diskNewRow : OpenClaim := { program := "ytgelippmcflppaa", sum := "cb7f5954583b6ebc35626cfbbffe1585ca7d1666c4dd1d44de35f874558fa030", func := "vellum/vellumlaw1.DiskNew", spec := "diskNew", apart := false }
def DiskNewSaid : Prop := diskNewRow.holds Try.pinned (OpenSpec.ofChange diskNewSpec)

/-- ITS FALSE NEIGHBOUR: 'it returns false'. Refute it at one input. -/
def diskNewWrong : ChangeSpec := { name := "diskNew", fn := fun _ => fun
  | [d] => { results := [.lit (.bool false)], args := [d] }
  | _ => none }
def DiskNewWrongFalsely : Prop := diskNewRow.holds Try.pinned (OpenSpec.ofChange diskNewWrong)

/-- 'vellumlaw3.SealRenews': WHATEVER THE INPUT: true; the input reads as it did. -/
def sealRenewsSpec : ChangeSpec := { name := "sealRenews", fn := fun _ => fun
  | [d1, d2, d3, d4] => { results := [.lit (.bool true)], args := [d1, d2, d3, d4] }
  | _ => none }
def sealRenewsRow : OpenClaim := { program := "ytgelippmcflppaa", sum := "cb7f5954583b6ebc35626cfbbffe1585ca7d1666c4dd1d44de35f874558fa030", func := "vellum/vellumlaw3.SealRenews", spec := "sealRenews", apart := false }
def SealRenewsSaid : Prop := sealRenewsRow.holds Try.pinned (OpenSpec.ofChange sealRenewsSpec)

/-- ITS FALSE NEIGHBOUR: 'it returns false'. Refute it at one input. -/
def sealRenewsWrong : ChangeSpec := { name := "sealRenews", fn := fun _ => fun
  | [d1, d2, d3, d4] => { results := [.lit (.bool false)], args := [d1, d2, d3, d4] }
  | _ => none }
def SealRenewsWrongFalsely : Prop := sealRenewsRow.holds Try.pinned (OpenSpec.ofChange sealRenewsWrong)

/-- 'vellumlaw3.SealPair': WHATEVER THE INPUT: true; the input reads as it did. -/
def sealPairSpec : ChangeSpec := { name := "sealPair", fn := fun _ => fun
  | [d1, d2, d3, d4, d5, d6] => { results := [.lit (.bool true)], args := [d1, d2, d3, d4, d5, d6] }
  | _ => none }
def sealPairRow : OpenClaim := { program := "ytgelippmcflppaa", sum := "cb7f5954583b6ebc35626cfbbffe1585ca7d1666c4dd1d44de35f874558fa030", func := "vellum/vellumlaw3.SealPair", spec := "sealPair", apart := false }
def SealPairSaid : Prop := sealPairRow.holds Try.pinned (OpenSpec.ofChange sealPairSpec)

/-- ITS FALSE NEIGHBOUR: 'it returns false'. Refute it at one input. -/
def sealPairWrong : ChangeSpec := { name := "sealPair", fn := fun _ => fun
  | [d1, d2, d3, d4, d5, d6] => { results := [.lit (.bool false)], args := [d1, d2, d3, d4, d5, d6] }
  | _ => none }
def SealPairWrongFalsely : Prop := sealPairRow.holds Try.pinned (OpenSpec.ofChange sealPairWrong)

/-- 'vellumlaw3.SealGrows': WHATEVER THE INPUT: true; the input reads as it did. -/
def sealGrowsSpec : ChangeSpec := { name := "sealGrows", fn := fun _ => fun
  | [d] => { results := [.lit (.bool true)], args := [d] }
  | _ => none }
def sealGrowsRow : OpenClaim := { program := "ytgelippmcflppaa", sum := "cb7f5954583b6ebc35626cfbbffe1585ca7d1666c4dd1d44de35f874558fa030", func := "vellum/vellumlaw3.SealGrows", spec := "sealGrows", apart := false }
def SealGrowsSaid : Prop := sealGrowsRow.holds Try.pinned (OpenSpec.ofChange sealGrowsSpec)

/-- ITS FALSE NEIGHBOUR: 'it returns false'. Refute it at one input. -/
def sealGrowsWrong : ChangeSpec := { name := "sealGrows", fn := fun _ => fun
  | [d] => { results := [.lit (.bool false)], args := [d] }
  | _ => none }
def SealGrowsWrongFalsely : Prop := sealGrowsRow.holds Try.pinned (OpenSpec.ofChange sealGrowsWrong)

/-- 'vellumlaw3.SealBook': WHATEVER THE INPUT: true; the input reads as it did. -/
def sealBookSpec : ChangeSpec := { name := "sealBook", fn := fun _ => fun
  | [d] => { results := [.lit (.bool true)], args := [d] }
  | _ => none }
def sealBookRow : OpenClaim := { program := "ytgelippmcflppaa", sum := "cb7f5954583b6ebc35626cfbbffe1585ca7d1666c4dd1d44de35f874558fa030", func := "vellum/vellumlaw3.SealBook", spec := "sealBook", apart := false }
def SealBookSaid : Prop := sealBookRow.holds Try.pinned (OpenSpec.ofChange sealBookSpec)

/-- ITS FALSE NEIGHBOUR: 'it returns false'. Refute it at one input. -/
def sealBookWrong : ChangeSpec := { name := "sealBook", fn := fun _ => fun
  | [d] => { results := [.lit (.bool false)], args := [d] }
  | _ => none }
def SealBookWrongFalsely : Prop := sealBookRow.holds Try.pinned (OpenSpec.ofChange sealBookWrong)

/- THE SECOND FORM. 'bulk': how many values and letters a reading holds, each counted each time it is reached (what is shared counts as often as it is met; a slice's spare places count too). A statement '..UptoSaid' is the law's where the arguments, and the package variables that the reading takes, are together of bulk at most 1048576: NARROWER than '..Said'. Prove '..Said' where nothing that the law and all that it calls make is longer than what came in: it says more and counts as full. Else prove '..UptoSaid'. A law counts once. -/
mutual
def uptoBulk {H : Type} : DataW H → Nat
  | .lit (.string bytes) => bytes.length + 1
  | .lit _ => 1
  | .nil => 1
  | .ptr d => uptoBulk d + 1
  | .slice elems spare => uptoBulkAll elems + uptoBulkAll spare + 1
  | .agg parts => uptoBulkAll parts + 1
  | .iface _ d => uptoBulk d + 1
  | .map entries => uptoBulkEntries entries + 1
  | .held _ => 1
def uptoBulkAll {H : Type} : List (DataW H) → Nat
  | [] => 0
  | d :: r => uptoBulk d + uptoBulkAll r
def uptoBulkEntries {H : Type} : List (Lit × DataW H) → Nat
  | [] => 0
  | x :: r => uptoBulkEntry x + uptoBulkEntries r
def uptoBulkEntry {H : Type} : Lit × DataW H → Nat
  | (.string bytes, d) => bytes.length + uptoBulk d + 1
  | (_, d) => uptoBulk d + 1
 end
def uptoSmall : (H : Type) → List (DataW H) → Bool := fun _ ds => decide (uptoBulkAll ds ≤ 1048576)
def OpenSpec.upto (s : _root_.Go.ChangeSpec) : _root_.Go.OpenSpec := { _root_.Go.OpenSpec.ofChange s with cond := some uptoSmall }

/-- 'vellumlaw1.DiskNew', WHERE WHAT IT READS IS OF BULK AT MOST 1048576: true; the input reads as it did. -/
def diskNewUptoRow : OpenClaim := { program := "ytgelippmcflppaa", sum := "cb7f5954583b6ebc35626cfbbffe1585ca7d1666c4dd1d44de35f874558fa030", func := "vellum/vellumlaw1.DiskNew", spec := "diskNew", apart := false, narrowed := true }
def DiskNewUptoSaid : Prop := diskNewUptoRow.holds Try.pinned (OpenSpec.upto diskNewSpec)

/-- 'vellumlaw3.SealRenews', WHERE WHAT IT READS IS OF BULK AT MOST 1048576: true; the input reads as it did. -/
def sealRenewsUptoRow : OpenClaim := { program := "ytgelippmcflppaa", sum := "cb7f5954583b6ebc35626cfbbffe1585ca7d1666c4dd1d44de35f874558fa030", func := "vellum/vellumlaw3.SealRenews", spec := "sealRenews", apart := false, narrowed := true }
def SealRenewsUptoSaid : Prop := sealRenewsUptoRow.holds Try.pinned (OpenSpec.upto sealRenewsSpec)

/-- 'vellumlaw3.SealPair', WHERE WHAT IT READS IS OF BULK AT MOST 1048576: true; the input reads as it did. -/
def sealPairUptoRow : OpenClaim := { program := "ytgelippmcflppaa", sum := "cb7f5954583b6ebc35626cfbbffe1585ca7d1666c4dd1d44de35f874558fa030", func := "vellum/vellumlaw3.SealPair", spec := "sealPair", apart := false, narrowed := true }
def SealPairUptoSaid : Prop := sealPairUptoRow.holds Try.pinned (OpenSpec.upto sealPairSpec)

/-- 'vellumlaw3.SealGrows', WHERE WHAT IT READS IS OF BULK AT MOST 1048576: true; the input reads as it did. -/
def sealGrowsUptoRow : OpenClaim := { program := "ytgelippmcflppaa", sum := "cb7f5954583b6ebc35626cfbbffe1585ca7d1666c4dd1d44de35f874558fa030", func := "vellum/vellumlaw3.SealGrows", spec := "sealGrows", apart := false, narrowed := true }
def SealGrowsUptoSaid : Prop := sealGrowsUptoRow.holds Try.pinned (OpenSpec.upto sealGrowsSpec)

/-- 'vellumlaw3.SealBook', WHERE WHAT IT READS IS OF BULK AT MOST 1048576: true; the input reads as it did. -/
def sealBookUptoRow : OpenClaim := { program := "ytgelippmcflppaa", sum := "cb7f5954583b6ebc35626cfbbffe1585ca7d1666c4dd1d44de35f874558fa030", func := "vellum/vellumlaw3.SealBook", spec := "sealBook", apart := false, narrowed := true }
def SealBookUptoSaid : Prop := sealBookUptoRow.holds Try.pinned (OpenSpec.upto sealBookSpec)

end Rows
end Go.Proofs.Ytgelippmcflppaa
