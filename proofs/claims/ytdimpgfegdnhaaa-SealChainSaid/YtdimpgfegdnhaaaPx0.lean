/- The machine side of laws (their functions as Lean functions, each call answers what they answer), printed by a program for this claim. No condition of its own. -/
import Derived.Test.YtdimpgfegdnhaaaProg
import Derived.Below
import Derived.Deep.Draws
import Derived.Deep.AppendLies
import Derived.Maps.AppendAt
import Derived.OwnWalk
import Derived.Laws.BytesArg
import Derived.Laws.MakeOwn
import Derived.Laws.OwnMore
import Derived.Deep.OwnRows
import Derived.Tactics
import Derived.Lib.ConvBytes
import Derived.Laws.Slices
import Derived.WalkKit
import Derived.KernelRfl
import Derived.RowKit3
import Derived.Deep.LoopGhost
import Derived.Deep.QuietTactic
import Derived.BigQuiet
import Derived.WideLaws
import Derived.Deep.DeepCutAuto
import Derived.Deep.CutBlock
import Derived.Deep.RegionHeld3
import Derived.Laws.Rows
import Derived.Lib.AppendStr
import Derived.ArgAppend
import Derived.Laws.IdiomCopy
import Derived.OrdersHeld
import Derived.Laws.BitsLemmas
import Derived.RowKit
import Derived.Test.YtdimpgfegdnhaaaVExtA
import Derived.Test.YtdimpgfegdnhaaaWWords
import Derived.Test.YtdimpgfegdnhaaaWLast
import Derived.Test.YtdimpgfegdnhaaaWTab
import Derived.Test.YtdimpgfegdnhaaaWFour
import Derived.Test.YtdimpgfegdnhaaaWQPut
import Derived.Test.YtdimpgfegdnhaaaWApart
import Derived.Test.YtdimpgfegdnhaaaWArr
import Derived.Test.YtdimpgfegdnhaaaWZeros
import Derived.Test.YtdimpgfegdnhaaaWFoot
import Derived.Test.YtdimpgfegdnhaaaWKept
import Derived.Test.YtdimpgfegdnhaaaWShare
import Derived.Test.YtdimpgfegdnhaaaWN
import Derived.Test.YtdimpgfegdnhaaaWFootNe
import Derived.Test.YtdimpgfegdnhaaaWAt
import Derived.Test.YtdimpgfegdnhaaaWEqStruct
import Derived.Test.YtdimpgfegdnhaaaWRepsOne
import Derived.Test.YtdimpgfegdnhaaaWInv
import Derived.Test.YtdimpgfegdnhaaaWInvWords
import Derived.Test.YtdimpgfegdnhaaaWGuard
import Derived.Test.YtdimpgfegdnhaaaWNEv
import Derived.Test.YtdimpgfegdnhaaaWMore
namespace Go.Proofs.Ytdimpgfegdnhaaa.P
set_option maxRecDepth 100000
open Go.RowKit Go.Proofs.YtdimpgfegdnhaaaW.PrintWords Go.Proofs.YtdimpgfegdnhaaaW.PrintLast Go.Proofs.YtdimpgfegdnhaaaW.PrintMore Go.Proofs.Ytdimpgfegdnhaaa.Ext
attribute [local go_sem] max2_int min2_int max_two min_two max_three min_three max_four min_four   -- for this text's walks alone
set_option linter.unusedVariables false
set_option linter.unusedSimpArgs false



def errW : Option Int → Value
  | none => .nilIface
  | some c => .iface 0 (.int .i64 c)
theorem errW_none : errW none = .nilIface := rfl
theorem errW_some (c : Int) : errW (some c) = .iface 0 (.int .i64 c) := rfl

theorem info5 : (Try.prog.info? 5).map (fun i => (i.zero, i.size, i.bytes)) = some (some (.int .u8 0), 1, 1) := by kernel_rfl
-- the values' own types
def rd_L1 (xs : List (List Int)) (i : Int) : (List Int) := xs.getD i.toNat ([] : List Int)
theorem at_L1 {w : World} {A : Option Addr} {n : Nat} {xs : List (List Int)} (h : Kd.C (Kd.slice 5 (Kd.int .u8)) w A n xs) (i : Int) (h0 : 0 ≤ i) (h1 : i < n) : ∃ ad A0 c0, A = some ad ∧ w.cell? (ad.add i.toNat) = some (.slice A0 (rd_L1 xs i).length c0) ∧ (rd_L1 xs i).length ≤ c0 ∧ (Kd.int .u8).C w A0 (rd_L1 xs i).length (rd_L1 xs i) := by
  obtain ⟨ad, c, e, _, hK, hc0⟩ := Kd.C_get h ([] : List Int) i h0 h1
  have hc : ∀ j u, c[j]? = some u → w.cell? (ad.add (i.toNat * 1 + j)) = some u := hc0
  obtain ⟨A0, c0, rfl, l0, g0⟩ := hK
  exact ⟨ad, A0, c0, e, by have hq := hc 0 _ rfl; rwa [Nat.mul_one, Nat.add_zero] at hq, l0, g0⟩

/-! #### struct type 32 -/
structure S32 where
  f0 : (List Int)
  f1 : Int
  f2 : Bool
  f3 : Bool
def z32 : S32 := ⟨([] : List Int), (0 : Int), false, false⟩
def k32 : Kd S32 := Kd.iso (Kd.pair (Kd.slice 5 (Kd.int .u8)) (Kd.pair (Kd.int .i64) (Kd.pair Kd.bool Kd.bool))) (fun x : S32 => (x.f0, x.f1, x.f2, x.f3))
theorem k32_open {w : World} {x : S32} {cs : List Value} (h : k32.K w x cs) : ∃ A0 c0, cs = [.slice A0 x.f0.length c0, .int .i64 x.f1, .bool x.f2, .bool x.f3] ∧ x.f0.length ≤ c0 ∧ (Kd.int .u8).C w A0 x.f0.length x.f0 := by
  obtain ⟨_, _, rfl, ⟨A0, c0, rfl, l0, g0⟩, ⟨_, _, rfl, rfl, ⟨_, _, rfl, rfl, rfl⟩⟩⟩ := h
  exact ⟨A0, c0, rfl, l0, g0⟩
theorem k32_openM {w : World} {base : Nat} {ok : Nat → Prop} {x : S32} {cs : List Value} (h : k32.M w base ok x cs) : ∃ v0, cs = [v0, .int .i64 x.f1, .bool x.f2, .bool x.f3] ∧ (Kd.int .u8).R 5 w base ok v0 x.f0 := by
  obtain ⟨_, _, rfl, ⟨v0, rfl, g0⟩, ⟨_, _, rfl, rfl, ⟨_, _, rfl, rfl, rfl⟩⟩⟩ := h
  exact ⟨v0, rfl, g0⟩
theorem k32_mk (w : World) (x : S32) {A0 : Option Addr} {c0 : Nat} (l0 : x.f0.length ≤ c0) (g0 : (Kd.int .u8).C w A0 x.f0.length x.f0) : k32.K w x [.slice A0 x.f0.length c0, .int .i64 x.f1, .bool x.f2, .bool x.f3] := ⟨[.slice A0 x.f0.length c0], [.int .i64 x.f1, .bool x.f2, .bool x.f3], rfl, ⟨A0, c0, rfl, l0, g0⟩, ⟨[.int .i64 x.f1], [.bool x.f2, .bool x.f3], rfl, rfl, ⟨[.bool x.f2], [.bool x.f3], rfl, rfl, rfl⟩⟩⟩
theorem k32_mkM (w : World) (base : Nat) (ok : Nat → Prop) (x : S32) {v0 : Value} (g0 : (Kd.int .u8).R 5 w base ok v0 x.f0) : k32.M w base ok x [v0, .int .i64 x.f1, .bool x.f2, .bool x.f3] := ⟨[v0], [.int .i64 x.f1, .bool x.f2, .bool x.f3], rfl, ⟨v0, rfl, g0⟩, ⟨[.int .i64 x.f1], [.bool x.f2, .bool x.f3], rfl, rfl, ⟨[.bool x.f2], [.bool x.f3], rfl, rfl, rfl⟩⟩⟩
theorem k32_openF {W : World} {ok : Nat → Prop} {x : S32} {cs : List Value} (h : Kd.FK k32 W ok x cs) : ∃ A0 c0, cs = [.slice A0 x.f0.length c0, .int .i64 x.f1, .bool x.f2, .bool x.f3] ∧ x.f0.length ≤ c0 ∧ Kd.F (Kd.int .u8) W ok A0 x.f0.length x.f0 := by
  obtain ⟨A0, c0, rfl, l0, _⟩ := k32_open (Kd.FK_now h)
  exact ⟨A0, c0, rfl, l0, (fun W' hW => by obtain ⟨A0_, c0_, he, l0_, g0_⟩ := k32_open (h W' hW); injection (Option.some.inj (show some (Value.slice A0 x.f0.length c0) = some (Value.slice A0_ x.f0.length c0_) from congrArg (fun l => l[0]?) he)) with ha_ _ _; rw [ha_]; exact g0_)⟩
theorem k32_mkF (W : World) (ok : Nat → Prop) (x : S32) {A0 : Option Addr} {c0 : Nat} (l0 : x.f0.length ≤ c0) (g0 : Kd.F (Kd.int .u8) W ok A0 x.f0.length x.f0) : Kd.FK k32 W ok x [.slice A0 x.f0.length c0, .int .i64 x.f1, .bool x.f2, .bool x.f3] := fun W2 hW => k32_mk W2 x l0 (g0 W2 hW)
def rd_T32 (xs : List S32) (i : Int) : S32 := xs.getD i.toNat z32
theorem at_T32 {w : World} {A : Option Addr} {n : Nat} {xs : List S32} (h : Kd.C k32 w A n xs) (i : Int) (h0 : 0 ≤ i) (h1 : i < n) : ∃ ad A0 c0, A = some ad ∧ w.cell? (ad.add (i.toNat * 4)) = some (.slice A0 (rd_T32 xs i).f0.length c0) ∧ w.cell? ⟨(ad.add (i.toNat * 4)).block, (ad.add (i.toNat * 4)).off + 1, none⟩ = some (.int .i64 (rd_T32 xs i).f1) ∧ w.cell? ⟨(ad.add (i.toNat * 4)).block, (ad.add (i.toNat * 4)).off + 2, none⟩ = some (.bool (rd_T32 xs i).f2) ∧ w.cell? ⟨(ad.add (i.toNat * 4)).block, (ad.add (i.toNat * 4)).off + 3, none⟩ = some (.bool (rd_T32 xs i).f3) ∧ (rd_T32 xs i).f0.length ≤ c0 ∧ (Kd.int .u8).C w A0 (rd_T32 xs i).f0.length (rd_T32 xs i).f0 := by
  obtain ⟨ad, c, e, _, hK, hc0⟩ := Kd.C_get h z32 i h0 h1
  have hc : ∀ j u, c[j]? = some u → w.cell? (ad.add (i.toNat * 4 + j)) = some u := hc0
  obtain ⟨A0, c0, rfl, l0, g0⟩ := k32_open hK
  exact ⟨ad, A0, c0, e, hc 0 _ rfl, by rw [← add_field _ _ 1 (by omega)]; exact hc 1 _ rfl, by rw [← add_field _ _ 2 (by omega)]; exact hc 2 _ rfl, by rw [← add_field _ _ 3 (by omega)]; exact hc 3 _ rfl, l0, g0⟩

end Go.Proofs.Ytdimpgfegdnhaaa.P
