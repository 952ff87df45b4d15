/- The printed functions of the laws on sealed sectors, in plain Lean: what twin, sector, upTo and same answer. -/
import Derived.Test.YtdimpgfegdnhaaaPx
import Derived.Test.YtdimpgfegdnhaaaVExtA
open Go Go.RowKit Go.Proofs.Ytdimpgfegdnhaaa.P Go.Proofs.Ytdimpgfegdnhaaa.Ext Go.Proofs.YtdimpgfegdnhaaaW.PrintWords Go.Proofs.YtdimpgfegdnhaaaW.PrintLast
namespace Go.Proofs.Ytdimpgfegdnhaaa.PureA
open Go.Vel
theorem wrap_succ {i : Nat} (h : i < 9223372036854775807) : wrap64 ((i : Int) + 1) = ((i + 1 : Nat) : Int) := by
  unfold wrap64; omega
theorem wrap_nat {i : Nat} (h : i < 4611686018427387904) : wrap64 (i : Int) = (i : Int) := by
  unfold wrap64; omega
theorem take_snoc {b : List UInt8} {i : Nat} (h : i < b.length) : ofB (b.take i) ++ [rd (ofB b) (i : Int)] = ofB (b.take (i + 1)) := by
  rw [rd_ofB]
  unfold ofB
  rw [List.take_add_one, List.getElem?_eq_getElem h, List.map_append, List.getD_eq_getElem?_getD, List.getElem?_eq_getElem h]
  rfl
theorem len_take {b : List UInt8} {i : Nat} (h : i ≤ b.length) : (ofB (b.take i)).length = i := by
  rw [len_ofB, List.length_take]; omega
theorem drop_cons {l : List Int} {i : Nat} (h : i < l.length) : l.drop i = rd l (i : Int) :: l.drop (i + 1) := by
  unfold rd
  rw [Int.toNat_natCast, List.getD_eq_getElem?_getD, List.getElem?_eq_getElem h, Option.getD_some, List.drop_eq_getElem_cons h]
theorem twin_l (b : List UInt8) (hb : b.length < 140737488355328) : ∀ m i, i + m = b.length → Ev (fun k => vellumlaw3_twin.l0 k (ofB b) (ofB (b.take i)) (i : Int)) (ofB b)
  | 0, i, h => by
    refine Ev.step (f := fun _ => some (ofB b)) (fun k => ?_) (Ev.now _)
    simp only [vellumlaw3_twin.l0]
    rw [if_neg (by rw [len_ofB]; omega), List.take_of_length_le (by omega)]
  | m + 1, i, h => by
    refine Ev.step (fun k => ?_) (twin_l b hb m (i + 1) (by omega))
    simp only [vellumlaw3_twin.l0]
    rw [if_pos (by rw [len_ofB]; omega), if_pos (by omega), if_pos (by rw [len_take (by omega)]; omega), take_snoc (by omega), wrap_succ (by omega)]
theorem twin_ev (b : List UInt8) (hb : b.length < 140737488355328) : Ev (fun k => vellumlaw3_twin.f k (ofB b)) (ofB b) := twin_l b hb b.length 0 (by omega)
/-- The first 512 bytes, zeros behind them. -/
def sectorB (b : List UInt8) : List UInt8 := b.take 512 ++ List.replicate (512 - b.length) 0
theorem length_sectorB (b : List UInt8) : (sectorB b).length = 512 := by simp [sectorB]; omega
theorem sectorB_get (b : List UInt8) (i : Nat) (h : i < 512) : (sectorB b).getD i 0 = if i < b.length then b.getD i 0 else 0 := by
  unfold sectorB
  simp only [List.getD_eq_getElem?_getD]
  by_cases hi : i < b.length
  · rw [if_pos hi, List.getElem?_append_left (by rw [List.length_take]; omega), List.getElem?_take_of_lt h]
  · rw [if_neg hi, List.getElem?_append_right (by rw [List.length_take]; omega)]
    rw [List.getElem?_replicate]
    split <;> rfl
theorem sector_l (b : List UInt8) : ∀ m i, i + m = 512 → Ev (fun k => vellumlaw3_sector.l0 k (ofB b) (ofB ((sectorB b).take i)) (i : Int)) (ofB (sectorB b))
  | 0, i, h => by
    refine Ev.step (f := fun _ => some (ofB (sectorB b))) (fun k => ?_) (Ev.now _)
    simp only [vellumlaw3_sector.l0]
    rw [if_neg (by omega), List.take_of_length_le (by rw [length_sectorB]; omega)]
  | m + 1, i, h => by
    refine Ev.step (fun k => ?_) (sector_l b m (i + 1) (by omega))
    have hS := length_sectorB b
    have hr : rd (ofB (sectorB b)) (i : Int) = if i < b.length then rd (ofB b) (i : Int) else 0 := by
      rw [rd_ofB, rd_ofB, sectorB_get b i (by omega)]
      split <;> rfl
    have ht := take_snoc (b := sectorB b) (i := i) (by omega)
    rw [hr] at ht
    simp only [vellumlaw3_sector.l0]
    rw [if_pos (by omega)]
    by_cases hi : i < b.length
    · rw [if_pos hi] at ht
      rw [if_pos (by rw [len_ofB]; omega), if_pos (by omega), if_pos (by rw [len_take (by omega)]; omega), ht, wrap_succ (by omega)]
    · rw [if_neg hi] at ht
      rw [if_neg (by rw [len_ofB]; omega), if_pos (by rw [len_take (by omega)]; omega), ht, wrap_succ (by omega)]
theorem sector_ev (b : List UInt8) : Ev (fun k => vellumlaw3_sector.f k (ofB b)) (ofB (sectorB b)) := sector_l b 512 0 (by omega)
theorem upTo_l (b : List UInt8) (n : Nat) (hn : n < 140737488355328) : ∀ m i, i + m = min n b.length → Ev (fun k => vellumlaw3_upTo.l0 k (ofB b) (n : Int) (ofB (b.take i)) (i : Int)) (ofB (b.take n))
  | 0, i, h => by
    refine Ev.step (f := fun _ => some (ofB (b.take n))) (fun k => ?_) (Ev.now _)
    have e : b.take i = b.take n := by
      rcases Nat.le_total n b.length with hle | hle
      · rw [show i = n by omega]
      · rw [List.take_of_length_le (by omega), List.take_of_length_le hle]
    simp only [vellumlaw3_upTo.l0]
    by_cases h1 : (i : Int) < ((ofB b).length : Int)
    · rw [if_pos h1, if_neg (by rw [len_ofB] at h1; omega), e]
    · rw [if_neg h1, e]
  | m + 1, i, h => by
    refine Ev.step (fun k => ?_) (upTo_l b n hn m (i + 1) (by omega))
    simp only [vellumlaw3_upTo.l0]
    rw [if_pos (by rw [len_ofB]; omega), if_pos (by omega), if_pos (by omega), if_pos (by rw [len_take (by omega)]; omega), take_snoc (by omega), wrap_succ (by omega)]
theorem upTo_ev (b : List UInt8) (n : Nat) (hn : n < 140737488355328) : Ev (fun k => vellumlaw3_upTo.f k (ofB b) (n : Int)) (ofB (b.take n)) := upTo_l b n hn (min n b.length) 0 (by omega)
theorem same_l (a b : List Int) (hl : a.length = b.length) (hb : a.length < 4611686018427387904) : ∀ m i, i + m = a.length → Ev (fun k => vellumlaw3_same.l0 k a b (i : Int)) (decide (a.drop i = b.drop i))
  | 0, i, h => by
    refine Ev.step (f := fun _ => some _) (fun k => ?_) (Ev.now _)
    simp only [vellumlaw3_same.l0]
    rw [if_neg (by omega), List.drop_of_length_le (by omega), List.drop_of_length_le (by omega)]
    rfl
  | m + 1, i, h => by
    by_cases hq : rd a (i : Int) = rd b (i : Int)
    · refine Ev.step (f := fun k => vellumlaw3_same.l0 k a b ((i + 1 : Nat) : Int)) (fun k => ?_) ?_
      · simp only [vellumlaw3_same.l0]
        rw [if_pos (by omega), if_pos (by omega), if_pos (by omega), if_pos hq, wrap_succ (by omega)]
      · have e : decide (a.drop i = b.drop i) = decide (a.drop (i + 1) = b.drop (i + 1)) := by
          rw [drop_cons (l := a) (by omega), drop_cons (l := b) (by omega), hq]; simp
        rw [e]
        exact same_l a b hl hb m (i + 1) (by omega)
    · refine Ev.step (f := fun _ => some _) (fun k => ?_) (Ev.now _)
      simp only [vellumlaw3_same.l0]
      rw [if_pos (by omega), if_pos (by omega), if_pos (by omega), if_neg hq]
      have e : decide (a.drop i = b.drop i) = false := by
        rw [drop_cons (l := a) (by omega), drop_cons (l := b) (by omega)]; simp [hq]
      rw [e]
theorem same_ev (a b : List Int) (hb : a.length < 4611686018427387904) : Ev (fun k => vellumlaw3_same.f k a b) (decide (a = b)) := by
  unfold vellumlaw3_same.f
  by_cases hl : a.length = b.length
  · refine Ev.congr (fun k => if_pos (by omega)) ?_
    exact same_l a b hl hb a.length 0 (by omega)
  · refine Ev.congr (fun k => if_neg (by omega)) ?_
    have : decide (a = b) = false := decide_eq_false (fun h => hl (by rw [h]))
    rw [this]; exact Ev.now _
theorem same_yes (a : List Int) (hb : a.length < 4611686018427387904) : Ev (fun k => vellumlaw3_same.f k a a) true := by
  have := same_ev a a hb
  simpa using this
theorem ofB_inj {a b : List UInt8} (h : ofB a = ofB b) : a = b := by
  have := congrArg toB h
  rwa [toB_ofB, toB_ofB] at this
end Go.Proofs.Ytdimpgfegdnhaaa.PureA
