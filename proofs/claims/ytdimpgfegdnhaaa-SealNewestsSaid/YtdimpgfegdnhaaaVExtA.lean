/- Contracts in the printed functions' own form (a Lean function of lists and numbers; the call answers what it answers) for functions that are proved by hand: seal.Splice, seal.Seal, seal.Open. -/
import Derived.Test.YtdimpgfegdnhaaaVOpen
open Go Go.RowKit Go.Proofs.YtdimpgfegdnhaaaW.PrintWords Go.Proofs.YtdimpgfegdnhaaaW.PrintMore
namespace Go.Proofs.Ytdimpgfegdnhaaa.Ext
open Go.Vel
/-- Are the numbers bytes? -/
def isB (l : List Int) : Bool := l.all fun x => decide (0 ≤ x) && decide (x < 256)
def toB (l : List Int) : List UInt8 := l.map fun x => UInt8.ofNat x.toNat
theorem ofB_toB {l : List Int} (h : isB l = true) : ofB (toB l) = l := by
  unfold ofB toB
  rw [List.map_map]
  conv => rhs; rw [← List.map_id l]
  apply List.map_congr_left
  intro x hx
  have := (List.all_eq_true.1 h) x hx
  simp only [Bool.and_eq_true, decide_eq_true_eq] at this
  simp only [Function.comp, UInt8.toNat_ofNat', id]
  rw [Nat.mod_eq_of_lt (by omega)]
  omega
theorem toB_ofB (b : List UInt8) : toB (ofB b) = b := by
  unfold ofB toB
  rw [List.map_map]
  conv => rhs; rw [← List.map_id b]
  apply List.map_congr_left
  intro x hx
  simp [Function.comp]
theorem isB_ofB (b : List UInt8) : isB (ofB b) = true := by
  unfold isB ofB
  rw [List.all_eq_true]
  intro x hx
  obtain ⟨y, _, rfl⟩ := List.mem_map.1 hx
  have := y.toNat_lt
  simp; omega
theorem of_isB {l : List Int} (h : isB l = true) : ∃ b, l = ofB b := ⟨toB l, (ofB_toB h).symm⟩
def seal_Splice.f (l0 l1 : List Int) (a2 : Int) : Option (List Int × Int) :=
  if isB l0 && isB l1 then some (ofB (spliceF (toB l0) (toB l1) a2).1, ((spliceF (toB l0) (toB l1) a2).2 : Int)) else none
theorem seal_Splice.calls (A0 : Option Addr) (c0 : Nat) (l0 : List Int) (A1 : Option Addr) (c1 : Nat) (l1 : List Int) (a2 : Int) (r1 : List Int) (r2 : Int) (w : World) (hr0 : Kd.C (Kd.int .u8) w A0 l0.length l0) (hc0 : l0.length ≤ c0) (hr1 : Kd.C (Kd.int .u8) w A1 l1.length l1) (hc1 : l1.length ≤ c1) (h : seal_Splice.f l0 l1 a2 = some (r1, r2)) :
    Calls Try.prog 53 #[.slice A0 l0.length c0, .slice A1 l1.length c1, .int .i64 a2] w fun e w' => ∃ v0_ : Value, e = .returned (.tuple #[v0_, .int .i64 r2]) ∧ Kd.V (Kd.int .u8) 5 w' w.heap.size (fun k_ => (w.heap.size ≤ k_)) v0_ r1 ∧ Below w.heap.size w w' := by
  unfold seal_Splice.f at h
  split at h
  · rename_i hb
    rw [Bool.and_eq_true] at hb
    obtain ⟨b0, rfl⟩ := of_isB hb.1
    obtain ⟨b1, rfl⟩ := of_isB hb.2
    rw [toB_ofB, toB_ofB] at h
    simp only [Option.some.injEq, Prod.mk.injEq] at h
    obtain ⟨rfl, rfl⟩ := h
    exact splice_any w A0 c0 b0 A1 c1 b1 a2 hr0 hr1
  · cases h
def seal_Seal.f (l0 l1 : List Int) : Option (List Int × Int) :=
  if isB l0 && isB l1 then some (ofB (sealF (toB l0) (toB l1)).1, ((sealF (toB l0) (toB l1)).2 : Int)) else none
theorem seal_Seal.calls (A0 : Option Addr) (c0 : Nat) (l0 : List Int) (A1 : Option Addr) (c1 : Nat) (l1 : List Int) (r1 : List Int) (r2 : Int) (w : World) (hr0 : Kd.C (Kd.int .u8) w A0 l0.length l0) (hc0 : l0.length ≤ c0) (hr1 : Kd.C (Kd.int .u8) w A1 l1.length l1) (hc1 : l1.length ≤ c1) (h : seal_Seal.f l0 l1 = some (r1, r2)) :
    Calls Try.prog 31 #[.slice A0 l0.length c0, .slice A1 l1.length c1] w fun e w' => ∃ v0_ : Value, e = .returned (.tuple #[v0_, .int .i64 r2]) ∧ Kd.V (Kd.int .u8) 5 w' w.heap.size (fun k_ => (w.heap.size ≤ k_)) v0_ r1 ∧ Below w.heap.size w w' := by
  unfold seal_Seal.f at h
  split at h
  · rename_i hb
    rw [Bool.and_eq_true] at hb
    obtain ⟨b0, rfl⟩ := of_isB hb.1
    obtain ⟨b1, rfl⟩ := of_isB hb.2
    rw [toB_ofB, toB_ofB] at h
    simp only [Option.some.injEq, Prod.mk.injEq] at h
    obtain ⟨rfl, rfl⟩ := h
    exact seal_any w A0 c0 b0 A1 c1 b1 hr0 hr1
  · cases h
def seal_Open.f (l0 : List Int) : Option (List Int × Int) :=
  if isB l0 then some (ofB (openF (toB l0)).1, ((openF (toB l0)).2 : Int)) else none
theorem seal_Open.calls (A0 : Option Addr) (c0 : Nat) (l0 : List Int) (r1 : List Int) (r2 : Int) (w : World) (hr0 : Kd.C (Kd.int .u8) w A0 l0.length l0) (hc0 : l0.length ≤ c0) (h : seal_Open.f l0 = some (r1, r2)) :
    Calls Try.prog 19 #[.slice A0 l0.length c0] w fun e w' => ∃ v0_ : Value, e = .returned (.tuple #[v0_, .int .i64 r2]) ∧ Kd.V (Kd.int .u8) 5 w' w.heap.size (fun k_ => (w.heap.size ≤ k_)) v0_ r1 ∧ Below w.heap.size w w' := by
  unfold seal_Open.f at h
  split at h
  · rename_i hb
    obtain ⟨b0, rfl⟩ := of_isB hb
    rw [toB_ofB] at h
    simp only [Option.some.injEq, Prod.mk.injEq] at h
    obtain ⟨rfl, rfl⟩ := h
    exact open_any w A0 c0 b0 hr0
  · cases h
end Go.Proofs.Ytdimpgfegdnhaaa.Ext
