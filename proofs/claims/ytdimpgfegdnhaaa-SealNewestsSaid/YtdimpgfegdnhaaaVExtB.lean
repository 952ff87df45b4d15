/- seal.Newest in the printed functions' own form. -/
import Derived.Test.YtdimpgfegdnhaaaVNewest
import Derived.Test.YtdimpgfegdnhaaaVExtA
open Go Go.RowKit Go.Proofs.YtdimpgfegdnhaaaW.PrintWords Go.Proofs.YtdimpgfegdnhaaaW.PrintMore
namespace Go.Proofs.Ytdimpgfegdnhaaa.Ext
open Go.Vel
def seal_Newest.f (l0 l1 : List Int) : Option (Int × Int × List Int × Int) :=
  if isB l0 && isB l1 then some (((newestF (toB l0) (toB l1)).1 : Int), ((newestF (toB l0) (toB l1)).2.1 : Int), ofB (newestF (toB l0) (toB l1)).2.2.1, ((newestF (toB l0) (toB l1)).2.2.2 : Int)) else none
theorem seal_Newest.calls (A0 : Option Addr) (c0 : Nat) (l0 : List Int) (A1 : Option Addr) (c1 : Nat) (l1 : List Int) (r1 r2 : Int) (r3 : List Int) (r4 : Int) (w : World) (hr0 : Kd.C (Kd.int .u8) w A0 l0.length l0) (hc0 : l0.length ≤ c0) (hr1 : Kd.C (Kd.int .u8) w A1 l1.length l1) (hc1 : l1.length ≤ c1) (h : seal_Newest.f l0 l1 = some (r1, r2, r3, r4)) :
    Calls Try.prog 39 #[.slice A0 l0.length c0, .slice A1 l1.length c1] w fun e w' => ∃ v2_ : Value, e = .returned (.tuple #[.int .i64 r1, .int .i64 r2, v2_, .int .i64 r4]) ∧ Kd.V (Kd.int .u8) 5 w' w.heap.size (fun k_ => (w.heap.size ≤ k_)) v2_ r3 ∧ Below w.heap.size w w' := by
  unfold seal_Newest.f at h
  split at h
  · rename_i hb
    rw [Bool.and_eq_true] at hb
    obtain ⟨b0, rfl⟩ := of_isB hb.1
    obtain ⟨b1, rfl⟩ := of_isB hb.2
    rw [toB_ofB, toB_ofB] at h
    simp only [Option.some.injEq, Prod.mk.injEq] at h
    obtain ⟨rfl, rfl, rfl, rfl⟩ := h
    exact newest_any w A0 c0 b0 A1 c1 b1 hr0 hr1
  · cases h
end Go.Proofs.Ytdimpgfegdnhaaa.Ext
