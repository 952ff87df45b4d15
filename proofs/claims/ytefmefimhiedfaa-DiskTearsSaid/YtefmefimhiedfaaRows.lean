/-
  No cell of these rows narrows 'for every input' (looked for: loops, veiled, ifaces, maps, wideKeys, modest, calm, conditions, laid).
  DERIVED. THE GIVEN ROWS OF THIS SEAT. 17 by the template 'for every input the law returns true; each argument reads behind the call as it read before'; 0 by the template 'total and deterministic' (their statements: YtefmefimhiedfaaTotals.lean).
  GIVEN WITH THE SEED: the statements are not yours to turn. If you find one false, say at which input.
  Laid BY PROGRAM, IN A SANDBOX (cutbox-rows.mjs): the forced cells as the released guide's own fill.sh prints them over the translation 9e4dbd531a142299… (all of the seat's roots in one cut). By AI agents, Wed Nov 11 2026. No macro, syntax, notation, axiom, sorry.
-/
import Derived.Test.YtefmefimhiedfaaChecked
import GoSem.Claim
import GoSem.ClaimJoined
import GoSem.ClaimMapViews
import Derived.JoinedTies
import Derived.KernelRfl
namespace Go.Proofs.Ytefmefimhiedfaa
/- THE CELL 'sum', in the pinned program and in every row, IS THE sha256 OF THE DUMP (.gsa) THAT YtefmefimhiedfaaProg.lean LOADS. Nothing in Lean hashes anything: it is a label: what it is worth is what the hold of that sum in a sandbox is worth. -/
noncomputable def Try.pinned : Pinned := { name := "ytefmefimhiedfaa", sum := "9e4dbd531a14229963e8553d0b13c66e64000ad9c2bddda28086a62e2a2df471", checked := Try.checked }
namespace Rows
def none {H : Type} : Left H := { results := [], args := [] }

/-- 'vellumlaw1.DiskNew': WHATEVER THE INPUT: true; the input reads as it did. -/
def diskNewSpec : ChangeSpec := { name := "diskNew", fn := fun _ => fun
  | [d] => { results := [.lit (.bool true)], args := [d] }
  | _ => none }
def diskNewRow : OpenClaim := { program := "ytefmefimhiedfaa", sum := "9e4dbd531a14229963e8553d0b13c66e64000ad9c2bddda28086a62e2a2df471", func := "vellum/vellumlaw1.DiskNew", spec := "diskNew", apart := false }
def DiskNewSaid : Prop := diskNewRow.holds Try.pinned (OpenSpec.ofChange diskNewSpec)

/-- ITS FALSE NEIGHBOUR: 'it returns false'. Refute it at one input. -/
def diskNewWrong : ChangeSpec := { name := "diskNew", fn := fun _ => fun
  | [d] => { results := [.lit (.bool false)], args := [d] }
  | _ => none }
def DiskNewWrongFalsely : Prop := diskNewRow.holds Try.pinned (OpenSpec.ofChange diskNewWrong)

/-- 'vellumlaw1.DiskLoad': WHATEVER THE INPUT: true; the input reads as it did. -/
def diskLoadSpec : ChangeSpec := { name := "diskLoad", fn := fun _ => fun
  | [d] => { results := [.lit (.bool true)], args := [d] }
  | _ => none }
def diskLoadRow : OpenClaim := { program := "ytefmefimhiedfaa", sum := "9e4dbd531a14229963e8553d0b13c66e64000ad9c2bddda28086a62e2a2df471", func := "vellum/vellumlaw1.DiskLoad", spec := "diskLoad", apart := false }
def DiskLoadSaid : Prop := diskLoadRow.holds Try.pinned (OpenSpec.ofChange diskLoadSpec)

/-- ITS FALSE NEIGHBOUR: 'it returns false'. Refute it at one input. -/
def diskLoadWrong : ChangeSpec := { name := "diskLoad", fn := fun _ => fun
  | [d] => { results := [.lit (.bool false)], args := [d] }
  | _ => none }
def DiskLoadWrongFalsely : Prop := diskLoadRow.holds Try.pinned (OpenSpec.ofChange diskLoadWrong)

/-- 'vellumlaw1.DiskReads': WHATEVER THE INPUT: true; the input reads as it did. -/
def diskReadsSpec : ChangeSpec := { name := "diskReads", fn := fun _ => fun
  | [d1, d2, d3] => { results := [.lit (.bool true)], args := [d1, d2, d3] }
  | _ => none }
def diskReadsRow : OpenClaim := { program := "ytefmefimhiedfaa", sum := "9e4dbd531a14229963e8553d0b13c66e64000ad9c2bddda28086a62e2a2df471", func := "vellum/vellumlaw1.DiskReads", spec := "diskReads", unfollowed := true, recurses := true, apart := false }
def DiskReadsSaid : Prop := diskReadsRow.holds Try.pinned (OpenSpec.ofChange diskReadsSpec)

/-- ITS FALSE NEIGHBOUR: 'it returns false'. Refute it at one input. -/
def diskReadsWrong : ChangeSpec := { name := "diskReads", fn := fun _ => fun
  | [d1, d2, d3] => { results := [.lit (.bool false)], args := [d1, d2, d3] }
  | _ => none }
def DiskReadsWrongFalsely : Prop := diskReadsRow.holds Try.pinned (OpenSpec.ofChange diskReadsWrong)

/-- 'vellumlaw1.DiskWrites': WHATEVER THE INPUT: true; the input reads as it did. -/
def diskWritesSpec : ChangeSpec := { name := "diskWrites", fn := fun _ => fun
  | [d1, d2, d3] => { results := [.lit (.bool true)], args := [d1, d2, d3] }
  | _ => none }
def diskWritesRow : OpenClaim := { program := "ytefmefimhiedfaa", sum := "9e4dbd531a14229963e8553d0b13c66e64000ad9c2bddda28086a62e2a2df471", func := "vellum/vellumlaw1.DiskWrites", spec := "diskWrites", unfollowed := true, recurses := true, apart := false }
def DiskWritesSaid : Prop := diskWritesRow.holds Try.pinned (OpenSpec.ofChange diskWritesSpec)

/-- ITS FALSE NEIGHBOUR: 'it returns false'. Refute it at one input. -/
def diskWritesWrong : ChangeSpec := { name := "diskWrites", fn := fun _ => fun
  | [d1, d2, d3] => { results := [.lit (.bool false)], args := [d1, d2, d3] }
  | _ => none }
def DiskWritesWrongFalsely : Prop := diskWritesRow.holds Try.pinned (OpenSpec.ofChange diskWritesWrong)

/-- 'vellumlaw1.DiskFlushes': WHATEVER THE INPUT: true; the input reads as it did. -/
def diskFlushesSpec : ChangeSpec := { name := "diskFlushes", fn := fun _ => fun
  | [d1, d2, d3] => { results := [.lit (.bool true)], args := [d1, d2, d3] }
  | _ => none }
def diskFlushesRow : OpenClaim := { program := "ytefmefimhiedfaa", sum := "9e4dbd531a14229963e8553d0b13c66e64000ad9c2bddda28086a62e2a2df471", func := "vellum/vellumlaw1.DiskFlushes", spec := "diskFlushes", unfollowed := true, recurses := true, apart := false }
def DiskFlushesSaid : Prop := diskFlushesRow.holds Try.pinned (OpenSpec.ofChange diskFlushesSpec)

/-- ITS FALSE NEIGHBOUR: 'it returns false'. Refute it at one input. -/
def diskFlushesWrong : ChangeSpec := { name := "diskFlushes", fn := fun _ => fun
  | [d1, d2, d3] => { results := [.lit (.bool false)], args := [d1, d2, d3] }
  | _ => none }
def DiskFlushesWrongFalsely : Prop := diskFlushesRow.holds Try.pinned (OpenSpec.ofChange diskFlushesWrong)

/-- 'vellumlaw1.DiskFuses': WHATEVER THE INPUT: true; the input reads as it did. -/
def diskFusesSpec : ChangeSpec := { name := "diskFuses", fn := fun _ => fun
  | [d1, d2, d3] => { results := [.lit (.bool true)], args := [d1, d2, d3] }
  | _ => none }
def diskFusesRow : OpenClaim := { program := "ytefmefimhiedfaa", sum := "9e4dbd531a14229963e8553d0b13c66e64000ad9c2bddda28086a62e2a2df471", func := "vellum/vellumlaw1.DiskFuses", spec := "diskFuses", unfollowed := true, recurses := true, apart := false }
def DiskFusesSaid : Prop := diskFusesRow.holds Try.pinned (OpenSpec.ofChange diskFusesSpec)

/-- ITS FALSE NEIGHBOUR: 'it returns false'. Refute it at one input. -/
def diskFusesWrong : ChangeSpec := { name := "diskFuses", fn := fun _ => fun
  | [d1, d2, d3] => { results := [.lit (.bool false)], args := [d1, d2, d3] }
  | _ => none }
def DiskFusesWrongFalsely : Prop := diskFusesRow.holds Try.pinned (OpenSpec.ofChange diskFusesWrong)

/-- 'vellumlaw1.DiskCuts': WHATEVER THE INPUT: true; the input reads as it did. -/
def diskCutsSpec : ChangeSpec := { name := "diskCuts", fn := fun _ => fun
  | [d1, d2, d3] => { results := [.lit (.bool true)], args := [d1, d2, d3] }
  | _ => none }
def diskCutsRow : OpenClaim := { program := "ytefmefimhiedfaa", sum := "9e4dbd531a14229963e8553d0b13c66e64000ad9c2bddda28086a62e2a2df471", func := "vellum/vellumlaw1.DiskCuts", spec := "diskCuts", unfollowed := true, recurses := true, apart := false }
def DiskCutsSaid : Prop := diskCutsRow.holds Try.pinned (OpenSpec.ofChange diskCutsSpec)

/-- ITS FALSE NEIGHBOUR: 'it returns false'. Refute it at one input. -/
def diskCutsWrong : ChangeSpec := { name := "diskCuts", fn := fun _ => fun
  | [d1, d2, d3] => { results := [.lit (.bool false)], args := [d1, d2, d3] }
  | _ => none }
def DiskCutsWrongFalsely : Prop := diskCutsRow.holds Try.pinned (OpenSpec.ofChange diskCutsWrong)

/-- 'vellumlaw1.DiskLives': WHATEVER THE INPUT: true; the input reads as it did. -/
def diskLivesSpec : ChangeSpec := { name := "diskLives", fn := fun _ => fun
  | [d1, d2, d3] => { results := [.lit (.bool true)], args := [d1, d2, d3] }
  | _ => none }
def diskLivesRow : OpenClaim := { program := "ytefmefimhiedfaa", sum := "9e4dbd531a14229963e8553d0b13c66e64000ad9c2bddda28086a62e2a2df471", func := "vellum/vellumlaw1.DiskLives", spec := "diskLives", unfollowed := true, recurses := true, apart := false }
def DiskLivesSaid : Prop := diskLivesRow.holds Try.pinned (OpenSpec.ofChange diskLivesSpec)

/-- ITS FALSE NEIGHBOUR: 'it returns false'. Refute it at one input. -/
def diskLivesWrong : ChangeSpec := { name := "diskLives", fn := fun _ => fun
  | [d1, d2, d3] => { results := [.lit (.bool false)], args := [d1, d2, d3] }
  | _ => none }
def DiskLivesWrongFalsely : Prop := diskLivesRow.holds Try.pinned (OpenSpec.ofChange diskLivesWrong)

/-- 'vellumlaw1.DiskCounts': WHATEVER THE INPUT: true; the input reads as it did. -/
def diskCountsSpec : ChangeSpec := { name := "diskCounts", fn := fun _ => fun
  | [d1, d2, d3] => { results := [.lit (.bool true)], args := [d1, d2, d3] }
  | _ => none }
def diskCountsRow : OpenClaim := { program := "ytefmefimhiedfaa", sum := "9e4dbd531a14229963e8553d0b13c66e64000ad9c2bddda28086a62e2a2df471", func := "vellum/vellumlaw1.DiskCounts", spec := "diskCounts", unfollowed := true, recurses := true, apart := false }
def DiskCountsSaid : Prop := diskCountsRow.holds Try.pinned (OpenSpec.ofChange diskCountsSpec)

/-- ITS FALSE NEIGHBOUR: 'it returns false'. Refute it at one input. -/
def diskCountsWrong : ChangeSpec := { name := "diskCounts", fn := fun _ => fun
  | [d1, d2, d3] => { results := [.lit (.bool false)], args := [d1, d2, d3] }
  | _ => none }
def DiskCountsWrongFalsely : Prop := diskCountsRow.holds Try.pinned (OpenSpec.ofChange diskCountsWrong)

/-- 'vellumlaw1.DiskAll': WHATEVER THE INPUT: true; the input reads as it did. -/
def diskAllSpec : ChangeSpec := { name := "diskAll", fn := fun _ => fun
  | [d1, d2, d3] => { results := [.lit (.bool true)], args := [d1, d2, d3] }
  | _ => none }
def diskAllRow : OpenClaim := { program := "ytefmefimhiedfaa", sum := "9e4dbd531a14229963e8553d0b13c66e64000ad9c2bddda28086a62e2a2df471", func := "vellum/vellumlaw1.DiskAll", spec := "diskAll", unfollowed := true, recurses := true, apart := false }
def DiskAllSaid : Prop := diskAllRow.holds Try.pinned (OpenSpec.ofChange diskAllSpec)

/-- ITS FALSE NEIGHBOUR: 'it returns false'. Refute it at one input. -/
def diskAllWrong : ChangeSpec := { name := "diskAll", fn := fun _ => fun
  | [d1, d2, d3] => { results := [.lit (.bool false)], args := [d1, d2, d3] }
  | _ => none }
def DiskAllWrongFalsely : Prop := diskAllRow.holds Try.pinned (OpenSpec.ofChange diskAllWrong)

/-- 'vellumlaw1.DiskNewest': WHATEVER THE INPUT: true; the input reads as it did. -/
def diskNewestSpec : ChangeSpec := { name := "diskNewest", fn := fun _ => fun
  | [d1, d2, d3] => { results := [.lit (.bool true)], args := [d1, d2, d3] }
  | _ => none }
def diskNewestRow : OpenClaim := { program := "ytefmefimhiedfaa", sum := "9e4dbd531a14229963e8553d0b13c66e64000ad9c2bddda28086a62e2a2df471", func := "vellum/vellumlaw1.DiskNewest", spec := "diskNewest", unfollowed := true, recurses := true, apart := false }
def DiskNewestSaid : Prop := diskNewestRow.holds Try.pinned (OpenSpec.ofChange diskNewestSpec)

/-- ITS FALSE NEIGHBOUR: 'it returns false'. Refute it at one input. -/
def diskNewestWrong : ChangeSpec := { name := "diskNewest", fn := fun _ => fun
  | [d1, d2, d3] => { results := [.lit (.bool false)], args := [d1, d2, d3] }
  | _ => none }
def DiskNewestWrongFalsely : Prop := diskNewestRow.holds Try.pinned (OpenSpec.ofChange diskNewestWrong)

/-- 'vellumlaw1.DiskLasts': WHATEVER THE INPUT: true; the input reads as it did. -/
def diskLastsSpec : ChangeSpec := { name := "diskLasts", fn := fun _ => fun
  | [d1, d2, d3, d4, d5, d6] => { results := [.lit (.bool true)], args := [d1, d2, d3, d4, d5, d6] }
  | _ => none }
def diskLastsRow : OpenClaim := { program := "ytefmefimhiedfaa", sum := "9e4dbd531a14229963e8553d0b13c66e64000ad9c2bddda28086a62e2a2df471", func := "vellum/vellumlaw1.DiskLasts", spec := "diskLasts", unfollowed := true, recurses := true, apart := false }
def DiskLastsSaid : Prop := diskLastsRow.holds Try.pinned (OpenSpec.ofChange diskLastsSpec)

/-- ITS FALSE NEIGHBOUR: 'it returns false'. Refute it at one input. -/
def diskLastsWrong : ChangeSpec := { name := "diskLasts", fn := fun _ => fun
  | [d1, d2, d3, d4, d5, d6] => { results := [.lit (.bool false)], args := [d1, d2, d3, d4, d5, d6] }
  | _ => none }
def DiskLastsWrongFalsely : Prop := diskLastsRow.holds Try.pinned (OpenSpec.ofChange diskLastsWrong)

/-- 'vellumlaw1.DiskTears': WHATEVER THE INPUT: true; the input reads as it did. -/
def diskTearsSpec : ChangeSpec := { name := "diskTears", fn := fun _ => fun
  | [d1, d2, d3] => { results := [.lit (.bool true)], args := [d1, d2, d3] }
  | _ => none }
def diskTearsRow : OpenClaim := { program := "ytefmefimhiedfaa", sum := "9e4dbd531a14229963e8553d0b13c66e64000ad9c2bddda28086a62e2a2df471", func := "vellum/vellumlaw1.DiskTears", spec := "diskTears", unfollowed := true, recurses := true, apart := false }
def DiskTearsSaid : Prop := diskTearsRow.holds Try.pinned (OpenSpec.ofChange diskTearsSpec)

/-- ITS FALSE NEIGHBOUR: 'it returns false'. Refute it at one input. -/
def diskTearsWrong : ChangeSpec := { name := "diskTears", fn := fun _ => fun
  | [d1, d2, d3] => { results := [.lit (.bool false)], args := [d1, d2, d3] }
  | _ => none }
def DiskTearsWrongFalsely : Prop := diskTearsRow.holds Try.pinned (OpenSpec.ofChange diskTearsWrong)

/-- 'vellumlaw1.DiskFused': WHATEVER THE INPUT: true; the input reads as it did. -/
def diskFusedSpec : ChangeSpec := { name := "diskFused", fn := fun _ => fun
  | [d1, d2, d3] => { results := [.lit (.bool true)], args := [d1, d2, d3] }
  | _ => none }
def diskFusedRow : OpenClaim := { program := "ytefmefimhiedfaa", sum := "9e4dbd531a14229963e8553d0b13c66e64000ad9c2bddda28086a62e2a2df471", func := "vellum/vellumlaw1.DiskFused", spec := "diskFused", unfollowed := true, recurses := true, apart := false }
def DiskFusedSaid : Prop := diskFusedRow.holds Try.pinned (OpenSpec.ofChange diskFusedSpec)

/-- ITS FALSE NEIGHBOUR: 'it returns false'. Refute it at one input. -/
def diskFusedWrong : ChangeSpec := { name := "diskFused", fn := fun _ => fun
  | [d1, d2, d3] => { results := [.lit (.bool false)], args := [d1, d2, d3] }
  | _ => none }
def DiskFusedWrongFalsely : Prop := diskFusedRow.holds Try.pinned (OpenSpec.ofChange diskFusedWrong)

/-- 'vellumlaw1.DiskReload': WHATEVER THE INPUT: true; the input reads as it did. -/
def diskReloadSpec : ChangeSpec := { name := "diskReload", fn := fun _ => fun
  | [d1, d2, d3] => { results := [.lit (.bool true)], args := [d1, d2, d3] }
  | _ => none }
def diskReloadRow : OpenClaim := { program := "ytefmefimhiedfaa", sum := "9e4dbd531a14229963e8553d0b13c66e64000ad9c2bddda28086a62e2a2df471", func := "vellum/vellumlaw1.DiskReload", spec := "diskReload", unfollowed := true, recurses := true, apart := false }
def DiskReloadSaid : Prop := diskReloadRow.holds Try.pinned (OpenSpec.ofChange diskReloadSpec)

/-- ITS FALSE NEIGHBOUR: 'it returns false'. Refute it at one input. -/
def diskReloadWrong : ChangeSpec := { name := "diskReload", fn := fun _ => fun
  | [d1, d2, d3] => { results := [.lit (.bool false)], args := [d1, d2, d3] }
  | _ => none }
def DiskReloadWrongFalsely : Prop := diskReloadRow.holds Try.pinned (OpenSpec.ofChange diskReloadWrong)

/-- 'vellumlaw1.DiskApart': WHATEVER THE INPUT: true; the input reads as it did. -/
def diskApartSpec : ChangeSpec := { name := "diskApart", fn := fun _ => fun
  | [d1, d2, d3, d4, d5] => { results := [.lit (.bool true)], args := [d1, d2, d3, d4, d5] }
  | _ => none }
def diskApartRow : OpenClaim := { program := "ytefmefimhiedfaa", sum := "9e4dbd531a14229963e8553d0b13c66e64000ad9c2bddda28086a62e2a2df471", func := "vellum/vellumlaw1.DiskApart", spec := "diskApart", unfollowed := true, recurses := true, apart := false }
def DiskApartSaid : Prop := diskApartRow.holds Try.pinned (OpenSpec.ofChange diskApartSpec)

/-- ITS FALSE NEIGHBOUR: 'it returns false'. Refute it at one input. -/
def diskApartWrong : ChangeSpec := { name := "diskApart", fn := fun _ => fun
  | [d1, d2, d3, d4, d5] => { results := [.lit (.bool false)], args := [d1, d2, d3, d4, d5] }
  | _ => none }
def DiskApartWrongFalsely : Prop := diskApartRow.holds Try.pinned (OpenSpec.ofChange diskApartWrong)

/-- 'vellumlaw1.DiskBook': WHATEVER THE INPUT: true; the input reads as it did. -/
def diskBookSpec : ChangeSpec := { name := "diskBook", fn := fun _ => fun
  | [d1, d2] => { results := [.lit (.bool true)], args := [d1, d2] }
  | _ => none }
def diskBookRow : OpenClaim := { program := "ytefmefimhiedfaa", sum := "9e4dbd531a14229963e8553d0b13c66e64000ad9c2bddda28086a62e2a2df471", func := "vellum/vellumlaw1.DiskBook", spec := "diskBook", unfollowed := true, recurses := true, apart := false }
def DiskBookSaid : Prop := diskBookRow.holds Try.pinned (OpenSpec.ofChange diskBookSpec)

/-- ITS FALSE NEIGHBOUR: 'it returns false'. Refute it at one input. -/
def diskBookWrong : ChangeSpec := { name := "diskBook", fn := fun _ => fun
  | [d1, d2] => { results := [.lit (.bool false)], args := [d1, d2] }
  | _ => none }
def DiskBookWrongFalsely : Prop := diskBookRow.holds Try.pinned (OpenSpec.ofChange diskBookWrong)

/- THE SECOND FORM. 'bulk': how many values and letters a reading holds, each counted each time it is reached (what is shared counts as often as it is met; a slice's spare places count too). A statement '..UptoSaid' is the law's where the arguments, and the package variables that the reading takes, are together of bulk at most 1048576: NARROWER than '..Said'. Prove '..Said' where nothing that the law and all that it calls make is longer than what came in: it says more and counts as full. Else prove '..UptoSaid'. A law counts once. -/
mutual
def uptoBulk {H : Type} : DataW H → Nat
  | .lit (.string bytes) => bytes.length + 1
  | .lit _ => 1
  | .nil => 1
  | .ptr d => uptoBulk d + 1
  | .slice elems spare => uptoBulkAll elems + uptoBulkAll spare + 1
  | .agg parts => uptoBulkAll parts + 1
  | .iface _ d => uptoBulk d + 1
  | .map entries => uptoBulkEntries entries + 1
  | .held _ => 1
def uptoBulkAll {H : Type} : List (DataW H) → Nat
  | [] => 0
  | d :: r => uptoBulk d + uptoBulkAll r
def uptoBulkEntries {H : Type} : List (Lit × DataW H) → Nat
  | [] => 0
  | x :: r => uptoBulkEntry x + uptoBulkEntries r
def uptoBulkEntry {H : Type} : Lit × DataW H → Nat
  | (.string bytes, d) => bytes.length + uptoBulk d + 1
  | (_, d) => uptoBulk d + 1
 end
def uptoSmall : (H : Type) → List (DataW H) → Bool := fun _ ds => decide (uptoBulkAll ds ≤ 1048576)
def OpenSpec.upto (s : _root_.Go.ChangeSpec) : _root_.Go.OpenSpec := { _root_.Go.OpenSpec.ofChange s with cond := some uptoSmall }

/-- 'vellumlaw1.DiskNew', WHERE WHAT IT READS IS OF BULK AT MOST 1048576: true; the input reads as it did. -/
def diskNewUptoRow : OpenClaim := { program := "ytefmefimhiedfaa", sum := "9e4dbd531a14229963e8553d0b13c66e64000ad9c2bddda28086a62e2a2df471", func := "vellum/vellumlaw1.DiskNew", spec := "diskNew", apart := false, narrowed := true }
def DiskNewUptoSaid : Prop := diskNewUptoRow.holds Try.pinned (OpenSpec.upto diskNewSpec)

/-- 'vellumlaw1.DiskLoad', WHERE WHAT IT READS IS OF BULK AT MOST 1048576: true; the input reads as it did. -/
def diskLoadUptoRow : OpenClaim := { program := "ytefmefimhiedfaa", sum := "9e4dbd531a14229963e8553d0b13c66e64000ad9c2bddda28086a62e2a2df471", func := "vellum/vellumlaw1.DiskLoad", spec := "diskLoad", apart := false, narrowed := true }
def DiskLoadUptoSaid : Prop := diskLoadUptoRow.holds Try.pinned (OpenSpec.upto diskLoadSpec)

/-- 'vellumlaw1.DiskReads', WHERE WHAT IT READS IS OF BULK AT MOST 1048576: true; the input reads as it did. -/
def diskReadsUptoRow : OpenClaim := { program := "ytefmefimhiedfaa", sum := "9e4dbd531a14229963e8553d0b13c66e64000ad9c2bddda28086a62e2a2df471", func := "vellum/vellumlaw1.DiskReads", spec := "diskReads", unfollowed := true, recurses := true, apart := false, narrowed := true }
def DiskReadsUptoSaid : Prop := diskReadsUptoRow.holds Try.pinned (OpenSpec.upto diskReadsSpec)

/-- 'vellumlaw1.DiskWrites', WHERE WHAT IT READS IS OF BULK AT MOST 1048576: true; the input reads as it did. -/
def diskWritesUptoRow : OpenClaim := { program := "ytefmefimhiedfaa", sum := "9e4dbd531a14229963e8553d0b13c66e64000ad9c2bddda28086a62e2a2df471", func := "vellum/vellumlaw1.DiskWrites", spec := "diskWrites", unfollowed := true, recurses := true, apart := false, narrowed := true }
def DiskWritesUptoSaid : Prop := diskWritesUptoRow.holds Try.pinned (OpenSpec.upto diskWritesSpec)

/-- 'vellumlaw1.DiskFlushes', WHERE WHAT IT READS IS OF BULK AT MOST 1048576: true; the input reads as it did. -/
def diskFlushesUptoRow : OpenClaim := { program := "ytefmefimhiedfaa", sum := "9e4dbd531a14229963e8553d0b13c66e64000ad9c2bddda28086a62e2a2df471", func := "vellum/vellumlaw1.DiskFlushes", spec := "diskFlushes", unfollowed := true, recurses := true, apart := false, narrowed := true }
def DiskFlushesUptoSaid : Prop := diskFlushesUptoRow.holds Try.pinned (OpenSpec.upto diskFlushesSpec)

/-- 'vellumlaw1.DiskFuses', WHERE WHAT IT READS IS OF BULK AT MOST 1048576: true; the input reads as it did. -/
def diskFusesUptoRow : OpenClaim := { program := "ytefmefimhiedfaa", sum := "9e4dbd531a14229963e8553d0b13c66e64000ad9c2bddda28086a62e2a2df471", func := "vellum/vellumlaw1.DiskFuses", spec := "diskFuses", unfollowed := true, recurses := true, apart := false, narrowed := true }
def DiskFusesUptoSaid : Prop := diskFusesUptoRow.holds Try.pinned (OpenSpec.upto diskFusesSpec)

/-- 'vellumlaw1.DiskCuts', WHERE WHAT IT READS IS OF BULK AT MOST 1048576: true; the input reads as it did. -/
def diskCutsUptoRow : OpenClaim := { program := "ytefmefimhiedfaa", sum := "9e4dbd531a14229963e8553d0b13c66e64000ad9c2bddda28086a62e2a2df471", func := "vellum/vellumlaw1.DiskCuts", spec := "diskCuts", unfollowed := true, recurses := true, apart := false, narrowed := true }
def DiskCutsUptoSaid : Prop := diskCutsUptoRow.holds Try.pinned (OpenSpec.upto diskCutsSpec)

/-- 'vellumlaw1.DiskLives', WHERE WHAT IT READS IS OF BULK AT MOST 1048576: true; the input reads as it did. -/
def diskLivesUptoRow : OpenClaim := { program := "ytefmefimhiedfaa", sum := "9e4dbd531a14229963e8553d0b13c66e64000ad9c2bddda28086a62e2a2df471", func := "vellum/vellumlaw1.DiskLives", spec := "diskLives", unfollowed := true, recurses := true, apart := false, narrowed := true }
def DiskLivesUptoSaid : Prop := diskLivesUptoRow.holds Try.pinned (OpenSpec.upto diskLivesSpec)

/-- 'vellumlaw1.DiskCounts', WHERE WHAT IT READS IS OF BULK AT MOST 1048576: true; the input reads as it did. -/
def diskCountsUptoRow : OpenClaim := { program := "ytefmefimhiedfaa", sum := "9e4dbd531a14229963e8553d0b13c66e64000ad9c2bddda28086a62e2a2df471", func := "vellum/vellumlaw1.DiskCounts", spec := "diskCounts", unfollowed := true, recurses := true, apart := false, narrowed := true }
def DiskCountsUptoSaid : Prop := diskCountsUptoRow.holds Try.pinned (OpenSpec.upto diskCountsSpec)

/-- 'vellumlaw1.DiskAll', WHERE WHAT IT READS IS OF BULK AT MOST 1048576: true; the input reads as it did. -/
def diskAllUptoRow : OpenClaim := { program := "ytefmefimhiedfaa", sum := "9e4dbd531a14229963e8553d0b13c66e64000ad9c2bddda28086a62e2a2df471", func := "vellum/vellumlaw1.DiskAll", spec := "diskAll", unfollowed := true, recurses := true, apart := false, narrowed := true }
def DiskAllUptoSaid : Prop := diskAllUptoRow.holds Try.pinned (OpenSpec.upto diskAllSpec)

/-- 'vellumlaw1.DiskNewest', WHERE WHAT IT READS IS OF BULK AT MOST 1048576: true; the input reads as it did. -/
def diskNewestUptoRow : OpenClaim := { program := "ytefmefimhiedfaa", sum := "9e4dbd531a14229963e8553d0b13c66e64000ad9c2bddda28086a62e2a2df471", func := "vellum/vellumlaw1.DiskNewest", spec := "diskNewest", unfollowed := true, recurses := true, apart := false, narrowed := true }
def DiskNewestUptoSaid : Prop := diskNewestUptoRow.holds Try.pinned (OpenSpec.upto diskNewestSpec)

/-- 'vellumlaw1.DiskLasts', WHERE WHAT IT READS IS OF BULK AT MOST 1048576: true; the input reads as it did. -/
def diskLastsUptoRow : OpenClaim := { program := "ytefmefimhiedfaa", sum := "9e4dbd531a14229963e8553d0b13c66e64000ad9c2bddda28086a62e2a2df471", func := "vellum/vellumlaw1.DiskLasts", spec := "diskLasts", unfollowed := true, recurses := true, apart := false, narrowed := true }
def DiskLastsUptoSaid : Prop := diskLastsUptoRow.holds Try.pinned (OpenSpec.upto diskLastsSpec)

/-- 'vellumlaw1.DiskTears', WHERE WHAT IT READS IS OF BULK AT MOST 1048576: true; the input reads as it did. -/
def diskTearsUptoRow : OpenClaim := { program := "ytefmefimhiedfaa", sum := "9e4dbd531a14229963e8553d0b13c66e64000ad9c2bddda28086a62e2a2df471", func := "vellum/vellumlaw1.DiskTears", spec := "diskTears", unfollowed := true, recurses := true, apart := false, narrowed := true }
def DiskTearsUptoSaid : Prop := diskTearsUptoRow.holds Try.pinned (OpenSpec.upto diskTearsSpec)

/-- 'vellumlaw1.DiskFused', WHERE WHAT IT READS IS OF BULK AT MOST 1048576: true; the input reads as it did. -/
def diskFusedUptoRow : OpenClaim := { program := "ytefmefimhiedfaa", sum := "9e4dbd531a14229963e8553d0b13c66e64000ad9c2bddda28086a62e2a2df471", func := "vellum/vellumlaw1.DiskFused", spec := "diskFused", unfollowed := true, recurses := true, apart := false, narrowed := true }
def DiskFusedUptoSaid : Prop := diskFusedUptoRow.holds Try.pinned (OpenSpec.upto diskFusedSpec)

/-- 'vellumlaw1.DiskReload', WHERE WHAT IT READS IS OF BULK AT MOST 1048576: true; the input reads as it did. -/
def diskReloadUptoRow : OpenClaim := { program := "ytefmefimhiedfaa", sum := "9e4dbd531a14229963e8553d0b13c66e64000ad9c2bddda28086a62e2a2df471", func := "vellum/vellumlaw1.DiskReload", spec := "diskReload", unfollowed := true, recurses := true, apart := false, narrowed := true }
def DiskReloadUptoSaid : Prop := diskReloadUptoRow.holds Try.pinned (OpenSpec.upto diskReloadSpec)

/-- 'vellumlaw1.DiskApart', WHERE WHAT IT READS IS OF BULK AT MOST 1048576: true; the input reads as it did. -/
def diskApartUptoRow : OpenClaim := { program := "ytefmefimhiedfaa", sum := "9e4dbd531a14229963e8553d0b13c66e64000ad9c2bddda28086a62e2a2df471", func := "vellum/vellumlaw1.DiskApart", spec := "diskApart", unfollowed := true, recurses := true, apart := false, narrowed := true }
def DiskApartUptoSaid : Prop := diskApartUptoRow.holds Try.pinned (OpenSpec.upto diskApartSpec)

/-- 'vellumlaw1.DiskBook', WHERE WHAT IT READS IS OF BULK AT MOST 1048576: true; the input reads as it did. -/
def diskBookUptoRow : OpenClaim := { program := "ytefmefimhiedfaa", sum := "9e4dbd531a14229963e8553d0b13c66e64000ad9c2bddda28086a62e2a2df471", func := "vellum/vellumlaw1.DiskBook", spec := "diskBook", unfollowed := true, recurses := true, apart := false, narrowed := true }
def DiskBookUptoSaid : Prop := diskBookUptoRow.holds Try.pinned (OpenSpec.upto diskBookSpec)

end Rows
end Go.Proofs.Ytefmefimhiedfaa
