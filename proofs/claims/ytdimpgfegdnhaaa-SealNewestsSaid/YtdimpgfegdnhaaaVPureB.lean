/- The document's Sum, form, Seal and Open (printed), in plain Lean. -/
import Derived.Test.YtdimpgfegdnhaaaVPureA
open Go Go.RowKit Go.Proofs.Ytdimpgfegdnhaaa.P Go.Proofs.Ytdimpgfegdnhaaa.Ext Go.Proofs.YtdimpgfegdnhaaaW.PrintWords Go.Proofs.YtdimpgfegdnhaaaW.PrintLast
namespace Go.Proofs.Ytdimpgfegdnhaaa.PureA
open Go.Vel
theorem bits_xor64 (a b : BitVec 32) : bits .xor .i64 (a.toNat : Int) (b.toNat : Int) = ((a ^^^ b).toNat : Int) := by
  have ha := a.isLt
  have hb := b.isLt
  have hc := (a ^^^ b).isLt
  show IntKind.i64.wrap ((BitVec.ofInt 64 (a.toNat : Int) ^^^ BitVec.ofInt 64 (b.toNat : Int)).toNat : Int) = _
  rw [BitVec.toNat_xor]
  have f1 : (BitVec.ofInt 64 (a.toNat : Int)).toNat = a.toNat := by simp; omega
  have f2 : (BitVec.ofInt 64 (b.toNat : Int)).toNat = b.toNat := by simp; omega
  rw [f1, f2, ← BitVec.toNat_xor, IntKind.wrap_i64]
  omega
theorem bits_and1 (r : BitVec 32) : bits .and .i64 (r.toNat : Int) 1 = ((r.toNat % 2 : Nat) : Int) := by
  have hr := r.isLt
  show IntKind.i64.wrap ((BitVec.ofInt 64 (r.toNat : Int) &&& BitVec.ofInt 64 1).toNat : Int) = _
  rw [BitVec.toNat_and]
  have f1 : (BitVec.ofInt 64 (r.toNat : Int)).toNat = r.toNat := by simp; omega
  have f2 : (BitVec.ofInt 64 (1 : Int)).toNat = 1 := rfl
  rw [f1, f2, Nat.and_one_is_mod, IntKind.wrap_i64]
  omega
theorem lsb_mod (r : BitVec 32) : r.getLsbD 0 = true ↔ r.toNat % 2 = 1 := by
  rw [BitVec.getLsbD, Nat.testBit_zero]; simp
theorem m1_num (r : BitVec 32) : (r.toNat % 2 = 1 → bits .xor .i64 ((r.toNat : Int) / 2) 2197175160 = ((m1 r).toNat : Int)) ∧ (r.toNat % 2 ≠ 1 → (r.toNat : Int) / 2 = ((m1 r).toNat : Int)) := by
  have e1 : ((r.toNat : Int) / 2 : Int) = ((r >>> 1).toNat : Int) := by
    rw [BitVec.toNat_ushiftRight, Nat.shiftRight_eq_div_pow]; omega
  have e2 : (2197175160 : Int) = ((BitVec.ofNat 32 2197175160).toNat : Int) := by decide
  constructor
  · intro h
    rw [e1, e2, bits_xor64]
    unfold m1
    rw [if_pos ((lsb_mod r).2 h)]
  · intro h
    rw [e1]
    unfold m1
    rw [if_neg (fun h2 => h ((lsb_mod r).1 h2))]
    simp
theorem sum_l1 (x0 : List Int) (i : Int) (R : Int) : ∀ m (j : Nat) (r : BitVec 32), j + m = 8 → Ev (fun k => vellumref3_Sum.l0 k x0 ((mk m r).toNat : Int) (wrap64 (i + 1))) R → Ev (fun k => vellumref3_Sum.l1 k x0 (r.toNat : Int) i (j : Int)) R
  | 0, j, r, h, H => by
    refine Ev.step (fun k => ?_) H
    simp only [vellumref3_Sum.l1]
    rw [if_neg (by omega)]
    rfl
  | m + 1, j, r, h, H => by
    refine Ev.step (fun k => ?_) (sum_l1 x0 i R m (j + 1) (m1 r) (by omega) H)
    simp only [vellumref3_Sum.l1]
    rw [if_pos (by omega), bits_and1]
    by_cases hr : r.toNat % 2 = 1
    · rw [if_pos (by omega), (m1_num r).1 hr, wrap_succ (by omega)]
    · rw [if_neg (by omega), (m1_num r).2 hr, wrap_succ (by omega)]
theorem sum_l0 (b : List UInt8) (hb : b.length < 140737488355328) : ∀ m i, i + m = b.length → Ev (fun k => vellumref3_Sum.l0 k (ofB b) ((raw (BitVec.ofNat 32 4294967295) (b.take i)).toNat : Int) (i : Int)) ((crc b).toNat : Int)
  | 0, i, h => by
    refine Ev.step (f := fun _ => some _) (fun k => ?_) (Ev.now _)
    simp only [vellumref3_Sum.l0]
    rw [if_neg (by rw [len_ofB]; omega), List.take_of_length_le (by omega)]
    have e : (4294967295 : Int) = ((BitVec.ofNat 32 4294967295).toNat : Int) := by decide
    have e2 : ∀ y : BitVec 32, y ^^^ BitVec.ofNat 32 4294967295 = ~~~ y := fun y => by
      rw [show BitVec.ofNat 32 4294967295 = BitVec.allOnes 32 from by decide, BitVec.xor_allOnes]
    conv => lhs; rw [e]
    rw [bits_xor64, e2]
    rfl
  | m + 1, i, h => by
    have hi : i < b.length := by omega
    have hr : rd (ofB b) (i : Int) = ((b.getD i 0).toNat : Int) := rd_ofB b i
    have hx := (b.getD i 0).toNat_lt
    have hs : raw (BitVec.ofNat 32 4294967295) (b.take (i + 1)) = upd (raw (BitVec.ofNat 32 4294967295) (b.take i)) (b.getD i 0) := by
      rw [List.take_succ_eq_append_getElem hi, raw_append, List.getD_eq_getElem?_getD, List.getElem?_eq_getElem hi]; rfl
    have ih := sum_l0 b hb m (i + 1) (by omega)
    rw [hs] at ih
    generalize raw (BitVec.ofNat 32 4294967295) (b.take i) = r at ih ⊢
    refine Ev.step (fun k => ?_) (sum_l1 (ofB b) (i : Int) _ 8 0 (r ^^^ ex (b.getD i 0)) (by omega) ?_)
    · simp only [vellumref3_Sum.l0]
      rw [if_pos (by rw [len_ofB]; omega), if_pos (by omega), hr, wrap_nat (by omega), ← ex_toNat, bits_xor64]
      rfl
    · rw [wrap_succ (by omega)]
      exact ih
theorem sum_ev (b : List UInt8) (hb : b.length < 140737488355328) : Ev (fun k => vellumref3_Sum.f k (ofB b)) ((crc b).toNat : Int) := sum_l0 b hb b.length 0 (by omega)
/-- One more byte. -/
theorem ofB_snoc (b : List UInt8) (x : UInt8) : ofB b ++ [(x.toNat : Int)] = ofB (b ++ [x]) := by simp [ofB]
theorem byte_mod {n : Nat} : (((UInt8.ofNat (n % 256)).toNat : Nat) : Int) = (n : Int) % 256 := by
  rw [UInt8.toNat_ofNat', Nat.mod_eq_of_lt (show n % 256 < 2 ^ 8 by omega)]; omega
theorem form_l3 (t : UInt8) (X : List UInt8) (pre : List UInt8) (hX : 2 ≤ X.length) (hX2 : X.length < 1000) (hp : pre.length < 1000) : ∀ m j, j + m = X.length - 2 → Ev (fun k => vellumref3_form.l3 k (t.toNat : Int) (ofB X) (ofB (pre ++ (X.drop 2).take j)) ((2 + j : Nat) : Int)) (ofB (pre ++ (X.drop 2 ++ [t])))
  | 0, j, h => by
    have ht := t.toNat_lt
    refine Ev.step (f := fun _ => some _) (fun k => ?_) (Ev.now _)
    simp only [vellumref3_form.l3]
    rw [if_neg (by rw [len_ofB]; omega), if_pos (by rw [len_ofB]; simp; omega), List.take_of_length_le (by rw [List.length_drop]; omega), show ((t.toNat : Int) % 256) = (t.toNat : Int) by omega, ofB_snoc, List.append_assoc]
  | m + 1, j, h => by
    refine Ev.step (fun k => ?_) (form_l3 t X pre hX hX2 hp m (j + 1) (by omega))
    have hs : ofB (pre ++ (X.drop 2).take j) ++ [rd (ofB X) ((2 + j : Nat) : Int)] = ofB (pre ++ (X.drop 2).take (j + 1)) := by
      have hj : j < (X.drop 2).length := by rw [List.length_drop]; omega
      rw [rd_ofB, ofB_snoc, List.append_assoc, List.take_succ_eq_append_getElem hj, List.getD_eq_getElem?_getD, List.getElem?_eq_getElem (by omega), List.getElem_drop]; rfl
    simp only [vellumref3_form.l3]
    rw [if_pos (by rw [len_ofB]; omega), if_pos (by omega), if_pos (by rw [len_ofB]; simp; omega), hs, wrap_succ (by omega)]
    rfl
theorem le4_snoc (q : BitVec 32) (k : Nat) (hk : k < 4) : (le4 q).take k ++ [UInt8.ofNat (q.toNat / 256 ^ k % 256)] = (le4 q).take (k + 1) := by
  have h : k = 0 ∨ k = 1 ∨ k = 2 ∨ k = 3 := by omega
  rcases h with rfl | rfl | rfl | rfl <;> simp [le4]
theorem form_l2 (x0 : Int) (X pre : List UInt8) (q : BitVec 32) (hp : pre.length < 900) (R : List Int) (H : Ev (fun k => vellumref3_form.l3 k x0 (ofB X) (ofB (pre ++ le4 q)) 2) R) : ∀ m j, j + m = 4 → Ev (fun k => vellumref3_form.l2 k x0 (ofB X) ((q.toNat / 256 ^ j : Nat) : Int) (ofB (pre ++ (le4 q).take j)) (j : Int)) R
  | 0, j, h => by
    refine Ev.step (fun k => ?_) H
    simp only [vellumref3_form.l2]
    rw [if_neg (by omega), show j = 4 by omega]
    rfl
  | m + 1, j, h => by
    refine Ev.step (fun k => ?_) (form_l2 x0 X pre q hp R H m (j + 1) (by omega))
    have hq := q.isLt
    have hle : q.toNat / 256 ^ j ≤ q.toNat := Nat.div_le_self _ _
    have e3 : q.toNat / 256 ^ (j + 1) = q.toNat / 256 ^ j / 256 := by rw [Nat.pow_succ, ← Nat.div_div_eq_div_mul]
    rw [e3]
    rw [← le4_snoc q j (by omega)]
    generalize q.toNat / 256 ^ j = u at *
    have e1 : (Int.tmod ((u : Nat) : Int) 256) % 256 = (((UInt8.ofNat (u % 256)).toNat : Nat) : Int) := by
      rw [byte_mod, Int.tmod_eq_emod_of_nonneg (by omega)]; omega
    have e2 : wrap64 (Int.tdiv ((u : Nat) : Int) 256) = ((u / 256 : Nat) : Int) := by
      rw [Int.tdiv_eq_ediv_of_nonneg (by omega)]
      unfold wrap64; omega
    simp only [vellumref3_form.l2]
    rw [if_pos (by omega), if_pos (by rw [len_ofB]; simp; omega), e1, e2, ofB_snoc, List.append_assoc, wrap_succ (by omega)]
theorem form_tail (t : UInt8) (X : List UInt8) (hX : X.length = 506) (body : List UInt8) (hb : text body = X) : Ev (fun k => vellumref3_form.l1 k (t.toNat : Int) (ofB X)) (ofB (form t body)) := by
  have ht := t.toNat_lt
  refine Ev.step (f := fun k => (vellumref3_Sum.f k (ofB X)).bind fun t207 => (if ([] : List Int).length < 140737488355328 then ((some (([] : List Int) ++ [((t.toNat : Int)) % 256] : List Int)).bind fun y208 => (if 0 < ((ofB X).length : Int) then (if y208.length < 140737488355328 then ((some (y208 ++ [rd (ofB X) 0] : List Int)).bind fun y212 => (if 1 < ((ofB X).length : Int) then (if y212.length < 140737488355328 then (vellumref3_form.l2 k (t.toNat : Int) (ofB X) t207 (y212 ++ [rd (ofB X) 1]) 0) else (none)) else (none))) else (none)) else (none))) else (none))) (fun k => ?_) (Ev.bind (sum_ev X (by omega)) ?_)
  · simp only [vellumref3_form.l1]
    rw [if_neg (by rw [len_ofB]; omega)]
  · have e0 : rd (ofB X) 0 = ((X.getD 0 0).toNat : Int) := rd_ofB X 0
    have e1 : rd (ofB X) 1 = ((X.getD 1 0).toNat : Int) := rd_ofB X 1
    have e2 : ([] : List Int) ++ [((t.toNat : Int)) % 256] = ofB [t] := by
      rw [show ((t.toNat : Int) % 256) = (t.toNat : Int) by omega]; rfl
    have e3 : X.take 2 = [X.getD 0 0, X.getD 1 0] := by
      match X, hX with
      | x :: y :: r, _ => rfl
    refine Ev.congr (f := fun k => vellumref3_form.l2 k (t.toNat : Int) (ofB X) (((crc X).toNat / 256 ^ 0 : Nat) : Int) (ofB ((t :: X.take 2) ++ (le4 (crc X)).take 0)) ((0 : Nat) : Int)) (fun k => ?_) ?_
    · rw [if_pos (by decide), Option.bind_some, e2, if_pos (by rw [len_ofB]; omega), if_pos (by rw [len_ofB]; simp), Option.bind_some, e0, ofB_snoc, if_pos (by rw [len_ofB]; omega), if_pos (by rw [len_ofB]; simp), e1, ofB_snoc, e3]
      simp
    · refine form_l2 (t.toNat : Int) X (t :: X.take 2) (crc X) (by rw [List.length_cons, List.length_take]; omega) _ ?_ 4 0 (by omega)
      have h3 := form_l3 t X ((t :: X.take 2) ++ le4 (crc X)) (by omega) (by omega) (by simp [length_le4]; omega) (X.length - 2) 0 (by omega)
      have e4 : (t :: X.take 2) ++ le4 (crc X) ++ (X.drop 2 ++ [t]) = form t body := by
        unfold form; rw [hb]; simp
      rw [e4] at h3
      simpa using h3
theorem form_l1 (t : UInt8) (body : List UInt8) (hb : body.length ≤ 504) : ∀ m j, j + m = 504 - body.length → Ev (fun k => vellumref3_form.l1 k (t.toNat : Int) (ofB (UInt8.ofNat (body.length % 256) :: UInt8.ofNat (body.length / 256) :: (body ++ List.replicate j 0)))) (ofB (form t body))
  | 0, j, h => by
    have hj : j = 504 - body.length := by omega
    subst hj
    exact form_tail t (text body) (length_text hb) body rfl
  | m + 1, j, h => by
    refine Ev.step (fun k => ?_) (form_l1 t body hb m (j + 1) (by omega))
    simp only [vellumref3_form.l1]
    rw [if_pos (by rw [len_ofB]; simp; omega), if_pos (by rw [len_ofB]; simp; omega)]
    have e : ofB (UInt8.ofNat (body.length % 256) :: UInt8.ofNat (body.length / 256) :: (body ++ List.replicate j 0)) ++ [0] = ofB (UInt8.ofNat (body.length % 256) :: UInt8.ofNat (body.length / 256) :: (body ++ List.replicate (j + 1) 0)) := by
      have := ofB_snoc (UInt8.ofNat (body.length % 256) :: UInt8.ofNat (body.length / 256) :: (body ++ List.replicate j 0)) 0
      rw [List.replicate_succ']
      simpa using this
    rw [e]
theorem form_l0 (t : UInt8) (body : List UInt8) (hb : body.length ≤ 504) : ∀ m i, i + m = body.length → Ev (fun k => vellumref3_form.l0 k (t.toNat : Int) (ofB body) (ofB (UInt8.ofNat (body.length % 256) :: UInt8.ofNat (body.length / 256) :: body.take i)) (i : Int)) (ofB (form t body))
  | 0, i, h => by
    refine Ev.step (fun k => ?_) (form_l1 t body hb (504 - body.length) 0 (by omega))
    simp only [vellumref3_form.l0]
    rw [if_neg (by rw [len_ofB]; omega), List.take_of_length_le (by omega)]
    simp
  | m + 1, i, h => by
    refine Ev.step (fun k => ?_) (form_l0 t body hb m (i + 1) (by omega))
    have hi : i < body.length := by omega
    simp only [vellumref3_form.l0]
    have e : ofB (UInt8.ofNat (body.length % 256) :: UInt8.ofNat (body.length / 256) :: body.take i) ++ [rd (ofB body) (i : Int)] = ofB (UInt8.ofNat (body.length % 256) :: UInt8.ofNat (body.length / 256) :: body.take (i + 1)) := by
      rw [rd_ofB, ofB_snoc, List.take_succ_eq_append_getElem hi, List.getD_eq_getElem?_getD, List.getElem?_eq_getElem hi]; rfl
    rw [if_pos (by rw [len_ofB]; omega), if_pos (by omega), if_pos (by rw [len_ofB]; simp; omega), e, wrap_succ (by omega)]
theorem form_ev (t : UInt8) (body : List UInt8) (hb : body.length ≤ 504) : Ev (fun k => vellumref3_form.f k (t.toNat : Int) (ofB body)) (ofB (form t body)) := by
  unfold vellumref3_form.f
  refine Ev.congr (fun k => ?_) (form_l0 t body hb body.length 0 (by omega))
  rw [if_pos (by decide), Option.bind_some, if_pos (by simp)]
  have e1 : (((ofB body).length : Int)) % 256 = (((UInt8.ofNat (body.length % 256)).toNat : Nat) : Int) := by rw [byte_mod, len_ofB]
  have e2 : (wrap64 (((ofB body).length : Int) / 256)) % 256 = (((UInt8.ofNat (body.length / 256)).toNat : Nat) : Int) := by
    rw [len_ofB, UInt8.toNat_ofNat', Nat.mod_eq_of_lt (show body.length / 256 < 2 ^ 8 by omega)]; unfold wrap64; omega
  rw [e1, e2]
  rfl
theorem seal_no (a b : List UInt8) (ha : a.length = 512) (j : Nat) (hj : j < 3) (h : ¬ ((a.getD 0 0).toNat ≠ j ∧ (a.getD 511 0).toNat ≠ j)) (R : List Int × Int) (H : Ev (fun k => vellumref3_Seal.l0 k (ofB a) (ofB b) ((j + 1 : Nat) : Int)) R) : Ev (fun k => vellumref3_Seal.l0 k (ofB a) (ofB b) (j : Int)) R := by
  have h0 : wrap64 (rd (ofB a) 0) = ((a.getD 0 0).toNat : Int) := by
    have := (a.getD 0 0).toNat_lt
    rw [show (0 : Int) = ((0 : Nat) : Int) from rfl, rd_ofB, wrap_nat (by omega)]
  have h1 : wrap64 (rd (ofB a) 511) = ((a.getD 511 0).toNat : Int) := by
    have := (a.getD 511 0).toNat_lt
    rw [show (511 : Int) = ((511 : Nat) : Int) from rfl, rd_ofB, wrap_nat (by omega)]
  refine Ev.step (fun k => ?_) H
  simp only [vellumref3_Seal.l0]
  rw [if_pos (by rw [len_ofB]; omega), h0, h1, wrap_succ (by omega)]
  by_cases e : (a.getD 0 0).toNat = j
  · rw [if_pos (by omega)]
  · rw [if_neg (by omega), if_pos (by rw [len_ofB]; omega), if_pos (by omega)]
theorem seal_yes (a b : List UInt8) (ha : a.length = 512) (hb : b.length ≤ 504) (t : UInt8) (h0 : (a.getD 0 0).toNat ≠ t.toNat) (h1 : (a.getD 511 0).toNat ≠ t.toNat) : Ev (fun k => vellumref3_Seal.l0 k (ofB a) (ofB b) (t.toNat : Int)) (ofB (form t b), (0 : Int)) := by
  have e0 : wrap64 (rd (ofB a) 0) = ((a.getD 0 0).toNat : Int) := by
    have := (a.getD 0 0).toNat_lt
    rw [show (0 : Int) = ((0 : Nat) : Int) from rfl, rd_ofB, wrap_nat (by omega)]
  have e1 : wrap64 (rd (ofB a) 511) = ((a.getD 511 0).toNat : Int) := by
    have := (a.getD 511 0).toNat_lt
    rw [show (511 : Int) = ((511 : Nat) : Int) from rfl, rd_ofB, wrap_nat (by omega)]
  refine Ev.step (f := fun k => (vellumref3_form.f k (t.toNat : Int) (ofB b)).bind fun t231 => (some (t231, (0 : Int)))) (fun k => ?_) (Ev.bind (form_ev t b hb) (Ev.now _))
  simp only [vellumref3_Seal.l0]
  rw [if_pos (by rw [len_ofB]; omega), e0, e1, if_neg (by omega), if_pos (by rw [len_ofB]; omega), if_neg (by omega)]
theorem sealR_ev (a b : List UInt8) : Ev (fun k => vellumref3_Seal.f k (ofB a) (ofB b)) (ofB (sealF a b).1, ((sealF a b).2 : Int)) := by
  unfold vellumref3_Seal.f
  by_cases ha : a.length = 512
  · refine Ev.congr (fun k => if_pos (by rw [len_ofB]; omega)) ?_
    by_cases hb : 504 < b.length
    · refine Ev.congr (fun k => if_pos (by rw [len_ofB]; omega)) ?_
      have e : sealF a b = ([], 7) := by simp [sealF, ha, hb]
      rw [e]; exact Ev.now _
    · refine Ev.congr (fun k => if_neg (by rw [len_ofB]; omega)) ?_
      have e : sealF a b = (form (turnOf (a.getD 0 0) (a.getD 511 0)) b, 0) := by simp [sealF, ha, hb]
      rw [e]
      have hx := (a.getD 0 0).toNat_lt
      have hy := (a.getD 511 0).toNat_lt
      have c0 : ∀ z : UInt8, (0 : UInt8) ≠ z ↔ z.toNat ≠ 0 := fun z => by rw [ne_eq, ← UInt8.toNat_inj]; simp; omega
      have c1 : ∀ z : UInt8, (1 : UInt8) ≠ z ↔ z.toNat ≠ 1 := fun z => by rw [ne_eq, ← UInt8.toNat_inj]; simp; omega
      have n0 := seal_no a b ha 0 (by omega)
      have n1 := seal_no a b ha 1 (by omega)
      have y0 := seal_yes a b ha (by omega) 0
      have y1 := seal_yes a b ha (by omega) 1
      have y2 := seal_yes a b ha (by omega) 2
      unfold turnOf
      simp only [c0, c1]
      generalize (a.getD 0 0).toNat = x at *
      generalize (a.getD 511 0).toNat = y at *
      by_cases h0 : x ≠ 0 ∧ y ≠ 0
      · rw [if_pos h0]; exact y0 h0.1 h0.2
      · rw [if_neg h0]
        refine n0 h0 _ ?_
        by_cases h1 : x ≠ 1 ∧ y ≠ 1
        · rw [if_pos h1]; exact y1 h1.1 h1.2
        · rw [if_neg h1]
          refine n1 h1 _ ?_
          exact y2 (show x ≠ 2 by omega) (show y ≠ 2 by omega)
  · refine Ev.congr (fun k => if_neg (by rw [len_ofB]; omega)) ?_
    have e : sealF a b = ([], 2) := by simp [sealF, ha]
    rw [e]; exact Ev.now _
theorem sameR_l (a b : List Int) (hl : a.length = b.length) (hb : a.length < 4611686018427387904) : ∀ m i, i + m = a.length → Ev (fun k => vellumref3_same.l0 k a b (i : Int)) (decide (a.drop i = b.drop i))
  | 0, i, h => by
    refine Ev.step (f := fun _ => some _) (fun k => ?_) (Ev.now _)
    simp only [vellumref3_same.l0]
    rw [if_neg (by omega), List.drop_of_length_le (by omega), List.drop_of_length_le (by omega)]
    rfl
  | m + 1, i, h => by
    by_cases hq : rd a (i : Int) = rd b (i : Int)
    · refine Ev.step (f := fun k => vellumref3_same.l0 k a b ((i + 1 : Nat) : Int)) (fun k => ?_) ?_
      · simp only [vellumref3_same.l0]
        rw [if_pos (by omega), if_pos (by omega), if_pos (by omega), if_pos hq, wrap_succ (by omega)]
      · have e : decide (a.drop i = b.drop i) = decide (a.drop (i + 1) = b.drop (i + 1)) := by
          rw [drop_cons (l := a) (by omega), drop_cons (l := b) (by omega), hq]; simp
        rw [e]
        exact sameR_l a b hl hb m (i + 1) (by omega)
    · refine Ev.step (f := fun _ => some _) (fun k => ?_) (Ev.now _)
      simp only [vellumref3_same.l0]
      rw [if_pos (by omega), if_pos (by omega), if_pos (by omega), if_neg hq]
      have e : decide (a.drop i = b.drop i) = false := by
        rw [drop_cons (l := a) (by omega), drop_cons (l := b) (by omega)]; simp [hq]
      rw [e]
theorem sameR_ev (a b : List Int) (hb : a.length < 4611686018427387904) : Ev (fun k => vellumref3_same.f k a b) (decide (a = b)) := by
  unfold vellumref3_same.f
  by_cases hl : a.length = b.length
  · refine Ev.congr (fun k => if_pos (by omega)) ?_
    exact sameR_l a b hl hb a.length 0 (by omega)
  · refine Ev.congr (fun k => if_neg (by omega)) ?_
    have : decide (a = b) = false := decide_eq_false (fun h => hl (by rw [h]))
    rw [this]; exact Ev.now _
theorem openR_l (s : List UInt8) (hs : s.length = 512) (n : Nat) (hn : n ≤ 504) : ∀ m i, i + m = n → Ev (fun k => vellumref3_Open.l0 k (ofB s) (n : Int) (ofB ((s.drop 7).take i)) (i : Int)) (if s = form (s.getD 0 0) ((s.drop 7).take n) then (ofB ((s.drop 7).take n), (0 : Int)) else (([] : List Int), (30 : Int)))
  | 0, i, h => by
    have hi : i = n := by omega
    subst hi
    have hx := (s.getD 0 0).toNat_lt
    have hl : ((s.drop 7).take i).length ≤ 504 := by rw [List.length_take]; omega
    refine Ev.step (f := fun k => (vellumref3_form.f k (((s.getD 0 0).toNat : Int)) (ofB ((s.drop 7).take i))).bind fun t248 => ((vellumref3_same.f k t248 (ofB s)).bind fun t251 => (if t251 = true then (some (ofB ((s.drop 7).take i), (0 : Int))) else (some (([] : List Int), (30 : Int)))))) (fun k => ?_) (Ev.bind (form_ev _ _ hl) (Ev.bind (sameR_ev _ _ (by rw [len_ofB, length_form _ hl]; decide)) ?_))
    · simp only [vellumref3_Open.l0]
      rw [if_neg (by omega), if_pos (by rw [len_ofB]; omega), show (0 : Int) = ((0 : Nat) : Int) from rfl, rd_ofB, wrap_nat (by omega)]
    · by_cases e : s = form (s.getD 0 0) ((s.drop 7).take i)
      · rw [if_pos e]
        refine Ev.congr (fun k => if_pos ?_) (Ev.now _)
        rw [← e]; simp
      · rw [if_neg e]
        refine Ev.congr (fun k => if_neg ?_) (Ev.now _)
        intro h2
        exact e (ofB_inj (of_decide_eq_true h2)).symm
  | m + 1, i, h => by
    refine Ev.step (fun k => ?_) (openR_l s hs n hn m (i + 1) (by omega))
    have hi : i < (s.drop 7).length := by rw [List.length_drop]; omega
    have ew : wrap64 (7 + (i : Int)) = ((7 + i : Nat) : Int) := by unfold wrap64; omega
    have e : ofB ((s.drop 7).take i) ++ [rd (ofB s) ((7 + i : Nat) : Int)] = ofB ((s.drop 7).take (i + 1)) := by
      rw [rd_ofB, ofB_snoc, List.take_succ_eq_append_getElem hi, List.getD_eq_getElem?_getD, List.getElem?_eq_getElem (by omega), List.getElem_drop]; rfl
    simp only [vellumref3_Open.l0]
    rw [if_pos (by omega), ew, if_pos (by omega), if_pos (by rw [len_ofB]; omega), if_pos (by rw [len_take (by omega)]; omega), e, wrap_succ (by omega)]
theorem openR_ev (s : List UInt8) : Ev (fun k => vellumref3_Open.f k (ofB s)) (ofB (openF s).1, ((openF s).2 : Int)) := by
  unfold vellumref3_Open.f
  by_cases hs : s.length = 512
  · have h1 : wrap64 (rd (ofB s) 1) = ((s.getD 1 0).toNat : Int) := by
      have := (s.getD 1 0).toNat_lt
      rw [show (1 : Int) = ((1 : Nat) : Int) from rfl, rd_ofB, wrap_nat (by omega)]
    have h2 : wrap64 (rd (ofB s) 2) = ((s.getD 2 0).toNat : Int) := by
      have := (s.getD 2 0).toNat_lt
      rw [show (2 : Int) = ((2 : Nat) : Int) from rfl, rd_ofB, wrap_nat (by omega)]
    have h0 : rd (ofB s) 0 = ((s.getD 0 0).toNat : Int) := rd_ofB s 0
    have hn : wrap64 ((wrap64 (rd (ofB s) 1)) + (wrap64 (256 * (wrap64 (rd (ofB s) 2))))) = (((s.getD 1 0).toNat + 256 * (s.getD 2 0).toNat : Nat) : Int) := by
      have := (s.getD 1 0).toNat_lt
      have := (s.getD 2 0).toNat_lt
      rw [h1, h2]; unfold wrap64; omega
    refine Ev.congr (fun k => if_pos (by rw [len_ofB]; omega)) (Ev.congr (fun k => if_pos (by rw [len_ofB]; omega)) (Ev.congr (fun k => if_pos (by rw [len_ofB]; omega)) ?_))
    rw [hn, h0]
    obtain ⟨n, en⟩ : ∃ n, n = (s.getD 1 0).toNat + 256 * (s.getD 2 0).toNat := ⟨_, rfl⟩
    rw [← en]
    have eF := openF_at hs rfl en
    have e1 : Ev (fun k => vellumref3_Open.j0 k (ofB s) (n : Int) true) (([] : List Int), (30 : Int)) :=
      Ev.step (f := fun _ => some _) (fun k => by simp only [vellumref3_Open.j0]; rfl) (Ev.now _)
    by_cases hN : 504 < n
    · rw [if_pos (Or.inr hN)] at eF
      rw [eF]
      exact Ev.congr (fun k => if_pos (by omega)) e1
    · refine Ev.congr (fun k => if_neg (by omega)) (Ev.congr (fun k => if_pos (by rw [len_ofB]; omega)) ?_)
      by_cases hA : 2 < (s.getD 0 0).toNat
      · rw [if_pos (Or.inl hA)] at eF
        rw [eF, decide_eq_true (show ((s.getD 0 0).toNat : Int) > 2 by omega)]
        exact e1
      · rw [if_neg (fun h => h.elim hA hN)] at eF
        rw [decide_eq_false (show ¬ ((s.getD 0 0).toNat : Int) > 2 by omega)]
        have hl := openR_l s hs n (by omega) n 0 (by omega)
        have : (ofB (openF s).1, ((openF s).2 : Int)) = (if s = form (s.getD 0 0) ((s.drop 7).take n) then (ofB ((s.drop 7).take n), (0 : Int)) else (([] : List Int), (30 : Int))) := by
          rw [eF]; split <;> rfl
        rw [this]
        exact Ev.step (fun k => by simp only [vellumref3_Open.j0]; rw [if_neg (by decide)]; rfl) hl
  · refine Ev.congr (fun k => if_neg (by rw [len_ofB]; omega)) ?_
    have e : openF s = ([], 2) := by simp [openF, hs]
    rw [e]; exact Ev.now _
end Go.Proofs.Ytdimpgfegdnhaaa.PureA
