/-
  No cell of these rows narrows 'for every input' (looked for: loops, veiled, ifaces, maps, wideKeys, modest, calm, conditions, laid).
  DERIVED. THE GIVEN ROWS OF THIS SEAT. 10 by the template 'for every input the law returns true; each argument reads behind the call as it read before'; 0 by the template 'total and deterministic' (their statements: YtgeioealgidkiaaTotals.lean).
  GIVEN WITH THE SEED: the statements are not yours to turn. If you find one false, say at which input.
  Laid BY PROGRAM, IN A SANDBOX (cutbox-rows.mjs): the forced cells as the released guide's own fill.sh prints them over the translation 6fe17c556a4fe45d… (all of the seat's roots in one cut). By AI agents, Wed Nov 11 2026. No macro, syntax, notation, axiom, sorry.
-/
import Derived.Test.YtgeioealgidkiaaChecked
import GoSem.Claim
import GoSem.ClaimJoined
import GoSem.ClaimMapViews
import Derived.JoinedTies
import Derived.KernelRfl
namespace Go.Proofs.Ytgeioealgidkiaa
/- THE CELL 'sum', in the pinned program and in every row, IS THE sha256 OF THE DUMP (.gsa) THAT YtgeioealgidkiaaProg.lean LOADS. Nothing in Lean hashes anything: it is a label: what it is worth is what the hold of that sum in a sandbox is worth. -/
noncomputable def Try.pinned : Pinned := { name := "ytgeioealgidkiaa", sum := "6fe17c556a4fe45d5a0fa60e031de6cf912d38642a875fbb03213fb6a19106bc", checked := Try.checked }
namespace Rows
def none {H : Type} : Left H := { results := [], args := [] }

/-- 'vellumlaw1.DiskNew': WHATEVER THE INPUT: true; the input reads as it did. -/
def diskNewSpec : ChangeSpec := { name := "diskNew", fn := fun _ => fun
  | [d] => { results := [.lit (.bool true)], args := [d] }
  | _ => none }
def diskNewRow : OpenClaim := { program := "ytgeioealgidkiaa", sum := "6fe17c556a4fe45d5a0fa60e031de6cf912d38642a875fbb03213fb6a19106bc", func := "vellum/vellumlaw1.DiskNew", spec := "diskNew", apart := false }
def DiskNewSaid : Prop := diskNewRow.holds Try.pinned (OpenSpec.ofChange diskNewSpec)

/-- ITS FALSE NEIGHBOUR: 'it returns false'. Refute it at one input. -/
def diskNewWrong : ChangeSpec := { name := "diskNew", fn := fun _ => fun
  | [d] => { results := [.lit (.bool false)], args := [d] }
  | _ => none }
def DiskNewWrongFalsely : Prop := diskNewRow.holds Try.pinned (OpenSpec.ofChange diskNewWrong)

/-- 'vellumlaw1.DiskBook': WHATEVER THE INPUT: true; the input reads as it did. -/
def diskBookSpec : ChangeSpec := { name := "diskBook", fn := fun _ => fun
  | [d1, d2] => { results := [.lit (.bool true)], args := [d1, d2] }
  | _ => none }
def diskBookRow : OpenClaim := { program := "ytgeioealgidkiaa", sum := "6fe17c556a4fe45d5a0fa60e031de6cf912d38642a875fbb03213fb6a19106bc", func := "vellum/vellumlaw1.DiskBook", spec := "diskBook", unfollowed := true, recurses := true, apart := false }
def DiskBookSaid : Prop := diskBookRow.holds Try.pinned (OpenSpec.ofChange diskBookSpec)

/-- ITS FALSE NEIGHBOUR: 'it returns false'. Refute it at one input. -/
def diskBookWrong : ChangeSpec := { name := "diskBook", fn := fun _ => fun
  | [d1, d2] => { results := [.lit (.bool false)], args := [d1, d2] }
  | _ => none }
def DiskBookWrongFalsely : Prop := diskBookRow.holds Try.pinned (OpenSpec.ofChange diskBookWrong)

/-- 'vellumlaw3.SealBook': WHATEVER THE INPUT: true; the input reads as it did. -/
def sealBookSpec : ChangeSpec := { name := "sealBook", fn := fun _ => fun
  | [d] => { results := [.lit (.bool true)], args := [d] }
  | _ => none }
def sealBookRow : OpenClaim := { program := "ytgeioealgidkiaa", sum := "6fe17c556a4fe45d5a0fa60e031de6cf912d38642a875fbb03213fb6a19106bc", func := "vellum/vellumlaw3.SealBook", spec := "sealBook", apart := false }
def SealBookSaid : Prop := sealBookRow.holds Try.pinned (OpenSpec.ofChange sealBookSpec)

/-- ITS FALSE NEIGHBOUR: 'it returns false'. Refute it at one input. -/
def sealBookWrong : ChangeSpec := { name := "sealBook", fn := fun _ => fun
  | [d] => { results := [.lit (.bool false)], args := [d] }
  | _ => none }
def SealBookWrongFalsely : Prop := sealBookRow.holds Try.pinned (OpenSpec.ofChange sealBookWrong)

/-- 'vellumlaw3.SealDisk': WHATEVER THE INPUT: true; the input reads as it did. -/
def sealDiskSpec : ChangeSpec := { name := "sealDisk", fn := fun _ => fun
  | [d] => { results := [.lit (.bool true)], args := [d] }
  | _ => none }
def sealDiskRow : OpenClaim := { program := "ytgeioealgidkiaa", sum := "6fe17c556a4fe45d5a0fa60e031de6cf912d38642a875fbb03213fb6a19106bc", func := "vellum/vellumlaw3.SealDisk", spec := "sealDisk", unfollowed := true, recurses := true, apart := false }
def SealDiskSaid : Prop := sealDiskRow.holds Try.pinned (OpenSpec.ofChange sealDiskSpec)

/-- ITS FALSE NEIGHBOUR: 'it returns false'. Refute it at one input. -/
def sealDiskWrong : ChangeSpec := { name := "sealDisk", fn := fun _ => fun
  | [d] => { results := [.lit (.bool false)], args := [d] }
  | _ => none }
def SealDiskWrongFalsely : Prop := sealDiskRow.holds Try.pinned (OpenSpec.ofChange sealDiskWrong)

/-- 'vellumlaw4.WalRing': WHATEVER THE INPUT: true; the input reads as it did. -/
def walRingSpec : ChangeSpec := { name := "walRing", fn := fun _ => fun
  | [d1, d2] => { results := [.lit (.bool true)], args := [d1, d2] }
  | _ => none }
def walRingRow : OpenClaim := { program := "ytgeioealgidkiaa", sum := "6fe17c556a4fe45d5a0fa60e031de6cf912d38642a875fbb03213fb6a19106bc", func := "vellum/vellumlaw4.WalRing", spec := "walRing", unfollowed := true, recurses := true, apart := false }
def WalRingSaid : Prop := walRingRow.holds Try.pinned (OpenSpec.ofChange walRingSpec)

/-- ITS FALSE NEIGHBOUR: 'it returns false'. Refute it at one input. -/
def walRingWrong : ChangeSpec := { name := "walRing", fn := fun _ => fun
  | [d1, d2] => { results := [.lit (.bool false)], args := [d1, d2] }
  | _ => none }
def WalRingWrongFalsely : Prop := walRingRow.holds Try.pinned (OpenSpec.ofChange walRingWrong)

/-- 'vellumlaw4.WalLives': WHATEVER THE INPUT: true; the input reads as it did. -/
def walLivesSpec : ChangeSpec := { name := "walLives", fn := fun _ => fun
  | [d1, d2, d3] => { results := [.lit (.bool true)], args := [d1, d2, d3] }
  | _ => none }
def walLivesRow : OpenClaim := { program := "ytgeioealgidkiaa", sum := "6fe17c556a4fe45d5a0fa60e031de6cf912d38642a875fbb03213fb6a19106bc", func := "vellum/vellumlaw4.WalLives", spec := "walLives", unfollowed := true, recurses := true, apart := false }
def WalLivesSaid : Prop := walLivesRow.holds Try.pinned (OpenSpec.ofChange walLivesSpec)

/-- ITS FALSE NEIGHBOUR: 'it returns false'. Refute it at one input. -/
def walLivesWrong : ChangeSpec := { name := "walLives", fn := fun _ => fun
  | [d1, d2, d3] => { results := [.lit (.bool false)], args := [d1, d2, d3] }
  | _ => none }
def WalLivesWrongFalsely : Prop := walLivesRow.holds Try.pinned (OpenSpec.ofChange walLivesWrong)

/-- 'vellumlaw4.WalTorn': WHATEVER THE INPUT: true; the input reads as it did. -/
def walTornSpec : ChangeSpec := { name := "walTorn", fn := fun _ => fun
  | [d1, d2] => { results := [.lit (.bool true)], args := [d1, d2] }
  | _ => none }
def walTornRow : OpenClaim := { program := "ytgeioealgidkiaa", sum := "6fe17c556a4fe45d5a0fa60e031de6cf912d38642a875fbb03213fb6a19106bc", func := "vellum/vellumlaw4.WalTorn", spec := "walTorn", unfollowed := true, recurses := true, apart := false }
def WalTornSaid : Prop := walTornRow.holds Try.pinned (OpenSpec.ofChange walTornSpec)

/-- ITS FALSE NEIGHBOUR: 'it returns false'. Refute it at one input. -/
def walTornWrong : ChangeSpec := { name := "walTorn", fn := fun _ => fun
  | [d1, d2] => { results := [.lit (.bool false)], args := [d1, d2] }
  | _ => none }
def WalTornWrongFalsely : Prop := walTornRow.holds Try.pinned (OpenSpec.ofChange walTornWrong)

/-- 'vellumlaw4.WalKeeps': WHATEVER THE INPUT: true; the input reads as it did. -/
def walKeepsSpec : ChangeSpec := { name := "walKeeps", fn := fun _ => fun
  | [d1, d2] => { results := [.lit (.bool true)], args := [d1, d2] }
  | _ => none }
def walKeepsRow : OpenClaim := { program := "ytgeioealgidkiaa", sum := "6fe17c556a4fe45d5a0fa60e031de6cf912d38642a875fbb03213fb6a19106bc", func := "vellum/vellumlaw4.WalKeeps", spec := "walKeeps", unfollowed := true, recurses := true, apart := false }
def WalKeepsSaid : Prop := walKeepsRow.holds Try.pinned (OpenSpec.ofChange walKeepsSpec)

/-- ITS FALSE NEIGHBOUR: 'it returns false'. Refute it at one input. -/
def walKeepsWrong : ChangeSpec := { name := "walKeeps", fn := fun _ => fun
  | [d1, d2] => { results := [.lit (.bool false)], args := [d1, d2] }
  | _ => none }
def WalKeepsWrongFalsely : Prop := walKeepsRow.holds Try.pinned (OpenSpec.ofChange walKeepsWrong)

/-- 'vellumlaw4.WalBook': WHATEVER THE INPUT: true; the input reads as it did. -/
def walBookSpec : ChangeSpec := { name := "walBook", fn := fun _ => fun
  | [d1, d2] => { results := [.lit (.bool true)], args := [d1, d2] }
  | _ => none }
def walBookRow : OpenClaim := { program := "ytgeioealgidkiaa", sum := "6fe17c556a4fe45d5a0fa60e031de6cf912d38642a875fbb03213fb6a19106bc", func := "vellum/vellumlaw4.WalBook", spec := "walBook", unfollowed := true, recurses := true, apart := false }
def WalBookSaid : Prop := walBookRow.holds Try.pinned (OpenSpec.ofChange walBookSpec)

/-- ITS FALSE NEIGHBOUR: 'it returns false'. Refute it at one input. -/
def walBookWrong : ChangeSpec := { name := "walBook", fn := fun _ => fun
  | [d1, d2] => { results := [.lit (.bool false)], args := [d1, d2] }
  | _ => none }
def WalBookWrongFalsely : Prop := walBookRow.holds Try.pinned (OpenSpec.ofChange walBookWrong)

/-- 'vellumlaw4.WalAny': WHATEVER THE INPUT: true; the input reads as it did. -/
def walAnySpec : ChangeSpec := { name := "walAny", fn := fun _ => fun
  | [d1, d2, d3] => { results := [.lit (.bool true)], args := [d1, d2, d3] }
  | _ => none }
def walAnyRow : OpenClaim := { program := "ytgeioealgidkiaa", sum := "6fe17c556a4fe45d5a0fa60e031de6cf912d38642a875fbb03213fb6a19106bc", func := "vellum/vellumlaw4.WalAny", spec := "walAny", unfollowed := true, recurses := true, apart := false }
def WalAnySaid : Prop := walAnyRow.holds Try.pinned (OpenSpec.ofChange walAnySpec)

/-- ITS FALSE NEIGHBOUR: 'it returns false'. Refute it at one input. -/
def walAnyWrong : ChangeSpec := { name := "walAny", fn := fun _ => fun
  | [d1, d2, d3] => { results := [.lit (.bool false)], args := [d1, d2, d3] }
  | _ => none }
def WalAnyWrongFalsely : Prop := walAnyRow.holds Try.pinned (OpenSpec.ofChange walAnyWrong)

/- THE SECOND FORM. 'bulk': how many values and letters a reading holds, each counted each time it is reached (what is shared counts as often as it is met; a slice's spare places count too). A statement '..UptoSaid' is the law's where the arguments, and the package variables that the reading takes, are together of bulk at most 1048576: NARROWER than '..Said'. Prove '..Said' where nothing that the law and all that it calls make is longer than what came in: it says more and counts as full. Else prove '..UptoSaid'. A law counts once. -/
mutual
def uptoBulk {H : Type} : DataW H → Nat
  | .lit (.string bytes) => bytes.length + 1
  | .lit _ => 1
  | .nil => 1
  | .ptr d => uptoBulk d + 1
  | .slice elems spare => uptoBulkAll elems + uptoBulkAll spare + 1
  | .agg parts => uptoBulkAll parts + 1
  | .iface _ d => uptoBulk d + 1
  | .map entries => uptoBulkEntries entries + 1
  | .held _ => 1
def uptoBulkAll {H : Type} : List (DataW H) → Nat
  | [] => 0
  | d :: r => uptoBulk d + uptoBulkAll r
def uptoBulkEntries {H : Type} : List (Lit × DataW H) → Nat
  | [] => 0
  | x :: r => uptoBulkEntry x + uptoBulkEntries r
def uptoBulkEntry {H : Type} : Lit × DataW H → Nat
  | (.string bytes, d) => bytes.length + uptoBulk d + 1
  | (_, d) => uptoBulk d + 1
 end
def uptoSmall : (H : Type) → List (DataW H) → Bool := fun _ ds => decide (uptoBulkAll ds ≤ 1048576)
def OpenSpec.upto (s : _root_.Go.ChangeSpec) : _root_.Go.OpenSpec := { _root_.Go.OpenSpec.ofChange s with cond := some uptoSmall }

/-- 'vellumlaw1.DiskNew', WHERE WHAT IT READS IS OF BULK AT MOST 1048576: true; the input reads as it did. -/
def diskNewUptoRow : OpenClaim := { program := "ytgeioealgidkiaa", sum := "6fe17c556a4fe45d5a0fa60e031de6cf912d38642a875fbb03213fb6a19106bc", func := "vellum/vellumlaw1.DiskNew", spec := "diskNew", apart := false, narrowed := true }
def DiskNewUptoSaid : Prop := diskNewUptoRow.holds Try.pinned (OpenSpec.upto diskNewSpec)

/-- 'vellumlaw1.DiskBook', WHERE WHAT IT READS IS OF BULK AT MOST 1048576: true; the input reads as it did. -/
def diskBookUptoRow : OpenClaim := { program := "ytgeioealgidkiaa", sum := "6fe17c556a4fe45d5a0fa60e031de6cf912d38642a875fbb03213fb6a19106bc", func := "vellum/vellumlaw1.DiskBook", spec := "diskBook", unfollowed := true, recurses := true, apart := false, narrowed := true }
def DiskBookUptoSaid : Prop := diskBookUptoRow.holds Try.pinned (OpenSpec.upto diskBookSpec)

/-- 'vellumlaw3.SealBook', WHERE WHAT IT READS IS OF BULK AT MOST 1048576: true; the input reads as it did. -/
def sealBookUptoRow : OpenClaim := { program := "ytgeioealgidkiaa", sum := "6fe17c556a4fe45d5a0fa60e031de6cf912d38642a875fbb03213fb6a19106bc", func := "vellum/vellumlaw3.SealBook", spec := "sealBook", apart := false, narrowed := true }
def SealBookUptoSaid : Prop := sealBookUptoRow.holds Try.pinned (OpenSpec.upto sealBookSpec)

/-- 'vellumlaw3.SealDisk', WHERE WHAT IT READS IS OF BULK AT MOST 1048576: true; the input reads as it did. -/
def sealDiskUptoRow : OpenClaim := { program := "ytgeioealgidkiaa", sum := "6fe17c556a4fe45d5a0fa60e031de6cf912d38642a875fbb03213fb6a19106bc", func := "vellum/vellumlaw3.SealDisk", spec := "sealDisk", unfollowed := true, recurses := true, apart := false, narrowed := true }
def SealDiskUptoSaid : Prop := sealDiskUptoRow.holds Try.pinned (OpenSpec.upto sealDiskSpec)

/-- 'vellumlaw4.WalRing', WHERE WHAT IT READS IS OF BULK AT MOST 1048576: true; the input reads as it did. -/
def walRingUptoRow : OpenClaim := { program := "ytgeioealgidkiaa", sum := "6fe17c556a4fe45d5a0fa60e031de6cf912d38642a875fbb03213fb6a19106bc", func := "vellum/vellumlaw4.WalRing", spec := "walRing", unfollowed := true, recurses := true, apart := false, narrowed := true }
def WalRingUptoSaid : Prop := walRingUptoRow.holds Try.pinned (OpenSpec.upto walRingSpec)

/-- 'vellumlaw4.WalLives', WHERE WHAT IT READS IS OF BULK AT MOST 1048576: true; the input reads as it did. -/
def walLivesUptoRow : OpenClaim := { program := "ytgeioealgidkiaa", sum := "6fe17c556a4fe45d5a0fa60e031de6cf912d38642a875fbb03213fb6a19106bc", func := "vellum/vellumlaw4.WalLives", spec := "walLives", unfollowed := true, recurses := true, apart := false, narrowed := true }
def WalLivesUptoSaid : Prop := walLivesUptoRow.holds Try.pinned (OpenSpec.upto walLivesSpec)

/-- 'vellumlaw4.WalTorn', WHERE WHAT IT READS IS OF BULK AT MOST 1048576: true; the input reads as it did. -/
def walTornUptoRow : OpenClaim := { program := "ytgeioealgidkiaa", sum := "6fe17c556a4fe45d5a0fa60e031de6cf912d38642a875fbb03213fb6a19106bc", func := "vellum/vellumlaw4.WalTorn", spec := "walTorn", unfollowed := true, recurses := true, apart := false, narrowed := true }
def WalTornUptoSaid : Prop := walTornUptoRow.holds Try.pinned (OpenSpec.upto walTornSpec)

/-- 'vellumlaw4.WalKeeps', WHERE WHAT IT READS IS OF BULK AT MOST 1048576: true; the input reads as it did. -/
def walKeepsUptoRow : OpenClaim := { program := "ytgeioealgidkiaa", sum := "6fe17c556a4fe45d5a0fa60e031de6cf912d38642a875fbb03213fb6a19106bc", func := "vellum/vellumlaw4.WalKeeps", spec := "walKeeps", unfollowed := true, recurses := true, apart := false, narrowed := true }
def WalKeepsUptoSaid : Prop := walKeepsUptoRow.holds Try.pinned (OpenSpec.upto walKeepsSpec)

/-- 'vellumlaw4.WalBook', WHERE WHAT IT READS IS OF BULK AT MOST 1048576: true; the input reads as it did. -/
def walBookUptoRow : OpenClaim := { program := "ytgeioealgidkiaa", sum := "6fe17c556a4fe45d5a0fa60e031de6cf912d38642a875fbb03213fb6a19106bc", func := "vellum/vellumlaw4.WalBook", spec := "walBook", unfollowed := true, recurses := true, apart := false, narrowed := true }
def WalBookUptoSaid : Prop := walBookUptoRow.holds Try.pinned (OpenSpec.upto walBookSpec)

/-- 'vellumlaw4.WalAny', WHERE WHAT IT READS IS OF BULK AT MOST 1048576: true; the input reads as it did. -/
def walAnyUptoRow : OpenClaim := { program := "ytgeioealgidkiaa", sum := "6fe17c556a4fe45d5a0fa60e031de6cf912d38642a875fbb03213fb6a19106bc", func := "vellum/vellumlaw4.WalAny", spec := "walAny", unfollowed := true, recurses := true, apart := false, narrowed := true }
def WalAnyUptoSaid : Prop := walAnyUptoRow.holds Try.pinned (OpenSpec.upto walAnySpec)

end Rows
end Go.Proofs.Ytgeioealgidkiaa
