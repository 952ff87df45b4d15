/-
  No cell of these rows narrows 'for every input' (looked for: loops, veiled, ifaces, maps, wideKeys, modest, calm, conditions, laid).
  DERIVED. THE GIVEN ROWS OF THIS SEAT. 8 by the template 'for every input the law returns true; each argument reads behind the call as it read before'; 0 by the template 'total and deterministic' (their statements: YtbjijgmafloeaaaTotals.lean).
  GIVEN WITH THE SEED: the statements are not yours to turn. If you find one false, say at which input.
  Laid BY PROGRAM, IN A SANDBOX (cutbox-rows.mjs): the forced cells as the released guide's own fill.sh prints them over the translation 22fe3db899d25000… (all of the seat's roots in one cut). By AI agents, Wed Nov 11 2026. No macro, syntax, notation, axiom, sorry.
-/
import Derived.Test.YtbjijgmafloeaaaChecked
import GoSem.Claim
import GoSem.ClaimJoined
import GoSem.ClaimMapViews
import Derived.JoinedTies
import Derived.KernelRfl
namespace Go.Proofs.Ytbjijgmafloeaaa
/- THE CELL 'sum', in the pinned program and in every row, IS THE sha256 OF THE DUMP (.gsa) THAT YtbjijgmafloeaaaProg.lean LOADS. Nothing in Lean hashes anything: it is a label: what it is worth is what the hold of that sum in a sandbox is worth. -/
noncomputable def Try.pinned : Pinned := { name := "ytbjijgmafloeaaa", sum := "22fe3db899d250006536346c592ad36349ef04c5c00ac553732a3e2cb31c41cd", checked := Try.checked }
namespace Rows
def none {H : Type} : Left H := { results := [], args := [] }

/-- 'vellumlaw1.DiskNames': WHATEVER THE INPUT: true; the input reads as it did. -/
def diskNamesSpec : ChangeSpec := { name := "diskNames", fn := fun _ => fun
  | [] => { results := [.lit (.bool true)], args := [] }
  | _ => none }
def diskNamesRow : OpenClaim := { program := "ytbjijgmafloeaaa", sum := "22fe3db899d250006536346c592ad36349ef04c5c00ac553732a3e2cb31c41cd", func := "vellum/vellumlaw1.DiskNames", spec := "diskNames", apart := false }
def DiskNamesSaid : Prop := diskNamesRow.holds Try.pinned (OpenSpec.ofChange diskNamesSpec)

/-- ITS FALSE NEIGHBOUR: 'it returns false'. Refute it at one input. -/
def diskNamesWrong : ChangeSpec := { name := "diskNames", fn := fun _ => fun
  | [] => { results := [.lit (.bool false)], args := [] }
  | _ => none }
def DiskNamesWrongFalsely : Prop := diskNamesRow.holds Try.pinned (OpenSpec.ofChange diskNamesWrong)

/-- 'vellumlaw4.WalNames': WHATEVER THE INPUT: true; the input reads as it did. -/
def walNamesSpec : ChangeSpec := { name := "walNames", fn := fun _ => fun
  | [] => { results := [.lit (.bool true)], args := [] }
  | _ => none }
def walNamesRow : OpenClaim := { program := "ytbjijgmafloeaaa", sum := "22fe3db899d250006536346c592ad36349ef04c5c00ac553732a3e2cb31c41cd", func := "vellum/vellumlaw4.WalNames", spec := "walNames", apart := false }
def WalNamesSaid : Prop := walNamesRow.holds Try.pinned (OpenSpec.ofChange walNamesSpec)

/-- ITS FALSE NEIGHBOUR: 'it returns false'. Refute it at one input. -/
def walNamesWrong : ChangeSpec := { name := "walNames", fn := fun _ => fun
  | [] => { results := [.lit (.bool false)], args := [] }
  | _ => none }
def WalNamesWrongFalsely : Prop := walNamesRow.holds Try.pinned (OpenSpec.ofChange walNamesWrong)

/-- 'vellumlaw3.SealSplices': WHATEVER THE INPUT: true; the input reads as it did. -/
def sealSplicesSpec : ChangeSpec := { name := "sealSplices", fn := fun _ => fun
  | [d1, d2, d3] => { results := [.lit (.bool true)], args := [d1, d2, d3] }
  | _ => none }
def sealSplicesRow : OpenClaim := { program := "ytbjijgmafloeaaa", sum := "22fe3db899d250006536346c592ad36349ef04c5c00ac553732a3e2cb31c41cd", func := "vellum/vellumlaw3.SealSplices", spec := "sealSplices", apart := false }
def SealSplicesSaid : Prop := sealSplicesRow.holds Try.pinned (OpenSpec.ofChange sealSplicesSpec)

/-- ITS FALSE NEIGHBOUR: 'it returns false'. Refute it at one input. -/
def sealSplicesWrong : ChangeSpec := { name := "sealSplices", fn := fun _ => fun
  | [d1, d2, d3] => { results := [.lit (.bool false)], args := [d1, d2, d3] }
  | _ => none }
def SealSplicesWrongFalsely : Prop := sealSplicesRow.holds Try.pinned (OpenSpec.ofChange sealSplicesWrong)

/-- 'vellumlaw1.DiskNew': WHATEVER THE INPUT: true; the input reads as it did. -/
def diskNewSpec : ChangeSpec := { name := "diskNew", fn := fun _ => fun
  | [d] => { results := [.lit (.bool true)], args := [d] }
  | _ => none }
def diskNewRow : OpenClaim := { program := "ytbjijgmafloeaaa", sum := "22fe3db899d250006536346c592ad36349ef04c5c00ac553732a3e2cb31c41cd", func := "vellum/vellumlaw1.DiskNew", spec := "diskNew", apart := false }
def DiskNewSaid : Prop := diskNewRow.holds Try.pinned (OpenSpec.ofChange diskNewSpec)

/-- ITS FALSE NEIGHBOUR: 'it returns false'. Refute it at one input. -/
def diskNewWrong : ChangeSpec := { name := "diskNew", fn := fun _ => fun
  | [d] => { results := [.lit (.bool false)], args := [d] }
  | _ => none }
def DiskNewWrongFalsely : Prop := diskNewRow.holds Try.pinned (OpenSpec.ofChange diskNewWrong)

/-- 'vellumlaw3.SealOpens': WHATEVER THE INPUT: true; the input reads as it did. -/
def sealOpensSpec : ChangeSpec := { name := "sealOpens", fn := fun _ => fun
  | [d1, d2, d3, d4] => { results := [.lit (.bool true)], args := [d1, d2, d3, d4] }
  | _ => none }
def sealOpensRow : OpenClaim := { program := "ytbjijgmafloeaaa", sum := "22fe3db899d250006536346c592ad36349ef04c5c00ac553732a3e2cb31c41cd", func := "vellum/vellumlaw3.SealOpens", spec := "sealOpens", apart := false }
def SealOpensSaid : Prop := sealOpensRow.holds Try.pinned (OpenSpec.ofChange sealOpensSpec)

/-- ITS FALSE NEIGHBOUR: 'it returns false'. Refute it at one input. -/
def sealOpensWrong : ChangeSpec := { name := "sealOpens", fn := fun _ => fun
  | [d1, d2, d3, d4] => { results := [.lit (.bool false)], args := [d1, d2, d3, d4] }
  | _ => none }
def SealOpensWrongFalsely : Prop := sealOpensRow.holds Try.pinned (OpenSpec.ofChange sealOpensWrong)

/-- 'vellumlaw3.SealSeals': WHATEVER THE INPUT: true; the input reads as it did. -/
def sealSealsSpec : ChangeSpec := { name := "sealSeals", fn := fun _ => fun
  | [d1, d2] => { results := [.lit (.bool true)], args := [d1, d2] }
  | _ => none }
def sealSealsRow : OpenClaim := { program := "ytbjijgmafloeaaa", sum := "22fe3db899d250006536346c592ad36349ef04c5c00ac553732a3e2cb31c41cd", func := "vellum/vellumlaw3.SealSeals", spec := "sealSeals", apart := false }
def SealSealsSaid : Prop := sealSealsRow.holds Try.pinned (OpenSpec.ofChange sealSealsSpec)

/-- ITS FALSE NEIGHBOUR: 'it returns false'. Refute it at one input. -/
def sealSealsWrong : ChangeSpec := { name := "sealSeals", fn := fun _ => fun
  | [d1, d2] => { results := [.lit (.bool false)], args := [d1, d2] }
  | _ => none }
def SealSealsWrongFalsely : Prop := sealSealsRow.holds Try.pinned (OpenSpec.ofChange sealSealsWrong)

/-- 'vellumlaw1.DiskLoad': WHATEVER THE INPUT: true; the input reads as it did. -/
def diskLoadSpec : ChangeSpec := { name := "diskLoad", fn := fun _ => fun
  | [d] => { results := [.lit (.bool true)], args := [d] }
  | _ => none }
def diskLoadRow : OpenClaim := { program := "ytbjijgmafloeaaa", sum := "22fe3db899d250006536346c592ad36349ef04c5c00ac553732a3e2cb31c41cd", func := "vellum/vellumlaw1.DiskLoad", spec := "diskLoad", apart := false }
def DiskLoadSaid : Prop := diskLoadRow.holds Try.pinned (OpenSpec.ofChange diskLoadSpec)

/-- ITS FALSE NEIGHBOUR: 'it returns false'. Refute it at one input. -/
def diskLoadWrong : ChangeSpec := { name := "diskLoad", fn := fun _ => fun
  | [d] => { results := [.lit (.bool false)], args := [d] }
  | _ => none }
def DiskLoadWrongFalsely : Prop := diskLoadRow.holds Try.pinned (OpenSpec.ofChange diskLoadWrong)

/-- 'vellumlaw3.SealRound': WHATEVER THE INPUT: true; the input reads as it did. -/
def sealRoundSpec : ChangeSpec := { name := "sealRound", fn := fun _ => fun
  | [d1, d2] => { results := [.lit (.bool true)], args := [d1, d2] }
  | _ => none }
def sealRoundRow : OpenClaim := { program := "ytbjijgmafloeaaa", sum := "22fe3db899d250006536346c592ad36349ef04c5c00ac553732a3e2cb31c41cd", func := "vellum/vellumlaw3.SealRound", spec := "sealRound", apart := false }
def SealRoundSaid : Prop := sealRoundRow.holds Try.pinned (OpenSpec.ofChange sealRoundSpec)

/-- ITS FALSE NEIGHBOUR: 'it returns false'. Refute it at one input. -/
def sealRoundWrong : ChangeSpec := { name := "sealRound", fn := fun _ => fun
  | [d1, d2] => { results := [.lit (.bool false)], args := [d1, d2] }
  | _ => none }
def SealRoundWrongFalsely : Prop := sealRoundRow.holds Try.pinned (OpenSpec.ofChange sealRoundWrong)

/- THE SECOND FORM. 'bulk': how many values and letters a reading holds, each counted each time it is reached (what is shared counts as often as it is met; a slice's spare places count too). A statement '..UptoSaid' is the law's where the arguments, and the package variables that the reading takes, are together of bulk at most 1048576: NARROWER than '..Said'. Prove '..Said' where nothing that the law and all that it calls make is longer than what came in: it says more and counts as full. Else prove '..UptoSaid'. A law counts once. -/
mutual
def uptoBulk {H : Type} : DataW H → Nat
  | .lit (.string bytes) => bytes.length + 1
  | .lit _ => 1
  | .nil => 1
  | .ptr d => uptoBulk d + 1
  | .slice elems spare => uptoBulkAll elems + uptoBulkAll spare + 1
  | .agg parts => uptoBulkAll parts + 1
  | .iface _ d => uptoBulk d + 1
  | .map entries => uptoBulkEntries entries + 1
  | .held _ => 1
def uptoBulkAll {H : Type} : List (DataW H) → Nat
  | [] => 0
  | d :: r => uptoBulk d + uptoBulkAll r
def uptoBulkEntries {H : Type} : List (Lit × DataW H) → Nat
  | [] => 0
  | x :: r => uptoBulkEntry x + uptoBulkEntries r
def uptoBulkEntry {H : Type} : Lit × DataW H → Nat
  | (.string bytes, d) => bytes.length + uptoBulk d + 1
  | (_, d) => uptoBulk d + 1
 end
def uptoSmall : (H : Type) → List (DataW H) → Bool := fun _ ds => decide (uptoBulkAll ds ≤ 1048576)
def OpenSpec.upto (s : _root_.Go.ChangeSpec) : _root_.Go.OpenSpec := { _root_.Go.OpenSpec.ofChange s with cond := some uptoSmall }

/-- 'vellumlaw1.DiskNames', WHERE WHAT IT READS IS OF BULK AT MOST 1048576: true; the input reads as it did. -/
def diskNamesUptoRow : OpenClaim := { program := "ytbjijgmafloeaaa", sum := "22fe3db899d250006536346c592ad36349ef04c5c00ac553732a3e2cb31c41cd", func := "vellum/vellumlaw1.DiskNames", spec := "diskNames", apart := false, narrowed := true }
def DiskNamesUptoSaid : Prop := diskNamesUptoRow.holds Try.pinned (OpenSpec.upto diskNamesSpec)

/-- 'vellumlaw4.WalNames', WHERE WHAT IT READS IS OF BULK AT MOST 1048576: true; the input reads as it did. -/
def walNamesUptoRow : OpenClaim := { program := "ytbjijgmafloeaaa", sum := "22fe3db899d250006536346c592ad36349ef04c5c00ac553732a3e2cb31c41cd", func := "vellum/vellumlaw4.WalNames", spec := "walNames", apart := false, narrowed := true }
def WalNamesUptoSaid : Prop := walNamesUptoRow.holds Try.pinned (OpenSpec.upto walNamesSpec)

/-- 'vellumlaw3.SealSplices', WHERE WHAT IT READS IS OF BULK AT MOST 1048576: true; the input reads as it did. -/
def sealSplicesUptoRow : OpenClaim := { program := "ytbjijgmafloeaaa", sum := "22fe3db899d250006536346c592ad36349ef04c5c00ac553732a3e2cb31c41cd", func := "vellum/vellumlaw3.SealSplices", spec := "sealSplices", apart := false, narrowed := true }
def SealSplicesUptoSaid : Prop := sealSplicesUptoRow.holds Try.pinned (OpenSpec.upto sealSplicesSpec)

/-- 'vellumlaw1.DiskNew', WHERE WHAT IT READS IS OF BULK AT MOST 1048576: true; the input reads as it did. -/
def diskNewUptoRow : OpenClaim := { program := "ytbjijgmafloeaaa", sum := "22fe3db899d250006536346c592ad36349ef04c5c00ac553732a3e2cb31c41cd", func := "vellum/vellumlaw1.DiskNew", spec := "diskNew", apart := false, narrowed := true }
def DiskNewUptoSaid : Prop := diskNewUptoRow.holds Try.pinned (OpenSpec.upto diskNewSpec)

/-- 'vellumlaw3.SealOpens', WHERE WHAT IT READS IS OF BULK AT MOST 1048576: true; the input reads as it did. -/
def sealOpensUptoRow : OpenClaim := { program := "ytbjijgmafloeaaa", sum := "22fe3db899d250006536346c592ad36349ef04c5c00ac553732a3e2cb31c41cd", func := "vellum/vellumlaw3.SealOpens", spec := "sealOpens", apart := false, narrowed := true }
def SealOpensUptoSaid : Prop := sealOpensUptoRow.holds Try.pinned (OpenSpec.upto sealOpensSpec)

/-- 'vellumlaw3.SealSeals', WHERE WHAT IT READS IS OF BULK AT MOST 1048576: true; the input reads as it did. -/
def sealSealsUptoRow : OpenClaim := { program := "ytbjijgmafloeaaa", sum := "22fe3db899d250006536346c592ad36349ef04c5c00ac553732a3e2cb31c41cd", func := "vellum/vellumlaw3.SealSeals", spec := "sealSeals", apart := false, narrowed := true }
def SealSealsUptoSaid : Prop := sealSealsUptoRow.holds Try.pinned (OpenSpec.upto sealSealsSpec)

/-- 'vellumlaw1.DiskLoad', WHERE WHAT IT READS IS OF BULK AT MOST 1048576: true; the input reads as it did. -/
def diskLoadUptoRow : OpenClaim := { program := "ytbjijgmafloeaaa", sum := "22fe3db899d250006536346c592ad36349ef04c5c00ac553732a3e2cb31c41cd", func := "vellum/vellumlaw1.DiskLoad", spec := "diskLoad", apart := false, narrowed := true }
def DiskLoadUptoSaid : Prop := diskLoadUptoRow.holds Try.pinned (OpenSpec.upto diskLoadSpec)

/-- 'vellumlaw3.SealRound', WHERE WHAT IT READS IS OF BULK AT MOST 1048576: true; the input reads as it did. -/
def sealRoundUptoRow : OpenClaim := { program := "ytbjijgmafloeaaa", sum := "22fe3db899d250006536346c592ad36349ef04c5c00ac553732a3e2cb31c41cd", func := "vellum/vellumlaw3.SealRound", spec := "sealRound", apart := false, narrowed := true }
def SealRoundUptoSaid : Prop := sealRoundUptoRow.holds Try.pinned (OpenSpec.upto sealRoundSpec)

end Rows
end Go.Proofs.Ytbjijgmafloeaaa
