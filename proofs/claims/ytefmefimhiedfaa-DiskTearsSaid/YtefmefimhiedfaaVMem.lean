/- Laws of the walk for blocks and slices of bytes, over any program: a block known whole, a slice that reads as a list of bytes; allocation, stores, loads, copy, append of these. -/
import Derived.Test.YtefmefimhiedfaaWMore
import Derived.WalkKit
import Derived.WalkSpells
import Derived.WalkLawsBesides
import Derived.Laws.CopyOwn
open Go Go.RowKit Go.Proofs.YtefmefimhiedfaaW.PrintWords Go.Proofs.YtefmefimhiedfaaW.PrintMore
namespace Go.Vel
def bv (b : UInt8) : Value := .int .u8 (b.toNat : Int)
/-- A row of cells, each a byte. -/
def bvs (l : List UInt8) : Array Value := (l.map bv).toArray
theorem get_bvs (l : List UInt8) (i : Nat) : (bvs l)[i]? = l[i]?.map bv := by simp [bvs]
theorem bvs_one (l : List UInt8) : ∀ v ∈ (bvs l).toList, v.oneCell' = true := by
  intro v hv
  simp [bvs] at hv
  obtain ⟨b, _, rfl⟩ := hv
  rfl
/-- Block g is whole: these cells, nothing frozen. -/
structure Blk (w : World) (g : Nat) (cs : Array Value) (t : TypeId) : Prop where
  out : w.heap[g]? = some (.cells cs t (0, 0))
theorem Blk.cell {w : World} {g : Nat} {cs : Array Value} {t : TypeId} (h : Blk w g cs t) (i : Nat) : w.cell? ⟨g, i, none⟩ = cs[i]? := cell_of_row w g i cs t (0, 0) h.out
theorem Blk.frozen {w : World} {g : Nat} {cs : Array Value} {t : TypeId} (h : Blk w g cs t) (i : Nat) : w.frozen? ⟨g, i, none⟩ = false := frozen_of_row w g i cs t h.out
/-- At most block g has turned. -/
structure Only (g : Nat) (w w' : World) : Prop where
  os : w'.os = w.os
  tape : w'.tape = w.tape
  output : w'.output = w.output
  size : w'.heap.size = w.heap.size
  block : ∀ k, k ≠ g → w'.heap[k]? = w.heap[k]?
theorem only_setCell (w : World) (g i : Nat) (v : Value) : Only g w (w.setCell ⟨g, i, none⟩ v) := ⟨rfl, rfl, rfl, by simp, fun k hk => heap_setCell_other w _ k v hk⟩
section
variable {P : Program} {ops : Array Oper} {rest : List Oper} {o o2 : Oper} {a : Act} {Q : Exit → Act → World → Prop} {w : World}
theorem map_bv_one (l : List UInt8) : ∀ v ∈ l.map bv, v.oneCell' = true := by
  intro v hv
  obtain ⟨b, _, rfl⟩ := List.mem_map.1 hv
  rfl
end
end Go.Vel
