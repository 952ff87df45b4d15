/- A pair of anchors behind a renewal: whole, it tells the new number; torn at any cut, that or what it told before. -/
import Derived.Test.YtgelippmcflppaaHSeal5
import Derived.Test.YtgelippmcflppaaVSyn
open Go Go.RowKit Go.Proofs.YtgelippmcflppaaW.PrintWords Go.Proofs.YtgelippmcflppaaW.PrintMore
namespace Go.Proofs
open Go.Vel
set_option linter.unusedVariables false
theorem openF_form (t : UInt8) (b : List UInt8) (ht : t.toNat ≤ 2) (hb : b.length ≤ 504) : openF (form t b) = (b, 0) := by
  obtain ⟨s0, s1, s2, s3, hs⟩ : ∃ s0 s1 s2 s3, le4 (crc (text b)) = [s0, s1, s2, s3] := ⟨_, _, _, _, rfl⟩
  have hf := form_eq t b s0 s1 s2 s3 hs
  have h1 : (form t b).getD 1 0 = UInt8.ofNat (b.length % 256) := by rw [hf]; rfl
  have h2 : (form t b).getD 2 0 = UInt8.ofNat (b.length / 256) := by rw [hf]; rfl
  have hn : b.length = ((form t b).getD 1 0).toNat + 256 * ((form t b).getD 2 0).toNat := by
    rw [h1, h2, UInt8.toNat_ofNat', UInt8.toNat_ofNat', Nat.mod_eq_of_lt (show b.length % 256 < 2 ^ 8 by omega), Nat.mod_eq_of_lt (show b.length / 256 < 2 ^ 8 by omega)]; omega
  have h0 : t = (form t b).getD 0 0 := rfl
  rw [openF_at (length_form t hb) h0 hn, if_neg (by omega)]
  have hd : ((form t b).drop 7).take b.length = b := by
    rw [hf]; simp
  rw [hd, if_pos rfl]
theorem turn_ne (x y : UInt8) : turnOf x y ≠ x ∧ turnOf x y ≠ y ∧ (turnOf x y).toNat ≤ 2 := by
  have e0 : ∀ z : UInt8, (0 : UInt8) ≠ z ↔ z.toNat ≠ 0 := fun z => by rw [ne_eq, ← UInt8.toNat_inj]; simp; omega
  have e1 : ∀ z : UInt8, (1 : UInt8) ≠ z ↔ z.toNat ≠ 1 := fun z => by rw [ne_eq, ← UInt8.toNat_inj]; simp; omega
  have e2 : ∀ z : UInt8, (2 : UInt8) ≠ z ↔ z.toNat ≠ 2 := fun z => by rw [ne_eq, ← UInt8.toNat_inj]; simp; omega
  unfold turnOf
  split
  · rename_i h; exact ⟨h.1, h.2, by decide⟩
  · split
    · rename_i h; exact ⟨h.1, h.2, by decide⟩
    · rename_i h h'
      rw [e0, e0] at h
      rw [e1, e1] at h'
      exact ⟨(e2 x).2 (by omega), (e2 y).2 (by omega), by decide⟩
theorem mix_is (a b : List UInt8) (c : Nat) (hc : c ≤ 512) (ha : a.length = 512) (hb : b.length = 512) (h : a.getD 0 0 ≠ b.getD 511 0) : (a.take c ++ b.drop c) = b ∨ (a.take c ++ b.drop c) = a ∨ openF (a.take c ++ b.drop c) = ([], 30) := by
  rcases Nat.eq_zero_or_pos c with h0 | h0
  · left; rw [h0]; simp
  · rcases Nat.lt_or_ge c 512 with h5 | h5
    · right; right
      refine open_ends _ (by simp; omega) ?_
      have e0 : (a.take c ++ b.drop c).getD 0 0 = a.getD 0 0 := by
        rw [List.getD_eq_getElem?_getD, List.getD_eq_getElem?_getD, List.getElem?_append_left (by simp; omega), List.getElem?_take_of_lt h0]
      have e1 : (a.take c ++ b.drop c).getD 511 0 = b.getD 511 0 := by
        rw [List.getD_eq_getElem?_getD, List.getD_eq_getElem?_getD, List.getElem?_append_right (by simp; omega), List.getElem?_drop]
        have : c + (511 - (a.take c).length) = 511 := by rw [List.length_take]; omega
        rw [this]
      rw [e0, e1]; exact h
    · right; left
      rw [List.take_of_length_le (by omega), List.drop_of_length_le (by omega), List.append_nil]
/-- What lies there, and the sector that is sealed over it. -/
theorem over_mixes (o b : List UInt8) (c : Nat) (hc : c ≤ 512) (ho : o.length = 512) (hb : b.length ≤ 504) (s : List UInt8) (hs : s = form (turnOf (o.getD 0 0) (o.getD 511 0)) b) :
    s.length = 512 ∧ (let m := o.take c ++ s.drop c; m = o ∨ m = s ∨ openF m = ([], 30)) ∧ (let m := s.take c ++ o.drop c; m = o ∨ m = s ∨ openF m = ([], 30)) := by
  obtain ⟨n0, n1, n2⟩ := turn_ne (o.getD 0 0) (o.getD 511 0)
  have hl : s.length = 512 := by rw [hs]; exact length_form _ hb
  have e0 : s.getD 0 0 = turnOf (o.getD 0 0) (o.getD 511 0) := by rw [hs]; rfl
  have e1 : s.getD 511 0 = turnOf (o.getD 0 0) (o.getD 511 0) := by rw [hs]; exact form_end _ b hb
  refine ⟨hl, ?_, ?_⟩
  · rcases mix_is o s c hc ho hl (by rw [e1]; exact n0.symm) with h | h | h
    · exact .inr (.inl h)
    · exact .inl h
    · exact .inr (.inr h)
  · rcases mix_is s o c hc hl ho (by rw [e0]; exact n1) with h | h | h
    · exact .inl h
    · exact .inr (.inl h)
    · exact .inr (.inr h)
theorem leN_le8 {no : Int} (h0 : 0 ≤ no) (h1 : no ≤ 9223372036854775807) : leN (le8 no) = no.toNat := by
  have e : le8 no = (List.range 8).map fun i => UInt8.ofNat (no.toNat / 256 ^ i % 256) := by
    apply List.ext_getElem?
    intro k
    rw [List.getElem?_map]
    by_cases hk : k < 8
    · have h2 := le8_nat h0 hk
      rw [List.getElem?_range hk, Option.map_some, ← h2, List.getD_eq_getElem?_getD, List.getElem?_eq_getElem (by rw [length_le8]; exact hk)]; rfl
    · rw [List.getElem?_eq_none (by rw [length_le8]; omega), List.getElem?_eq_none (by simpa using hk)]; rfl
  rw [e]
  have hn : no.toNat ≤ 9223372036854775807 := by omega
  generalize no.toNat = n at *
  simp only [List.range, List.range.loop, List.map_cons, List.map_nil, leN, UInt8.toNat_ofNat', Nat.reducePow, Nat.div_one]
  omega
theorem readF_new {t : UInt8} {no : Int} {d : List UInt8} (ht : t.toNat ≤ 2) (h0 : 1 ≤ no) (h1 : no ≤ 9223372036854775807) (hd : d.length ≤ 496) : readF (form t (le8 no ++ d)) = (no.toNat, d) := by
  have h8 := length_le8 no
  have ho := openF_form t (le8 no ++ d) ht (by rw [List.length_append]; omega)
  have hk : (le8 no ++ d).take 8 = le8 no := by rw [List.take_append_of_le_length (by omega), List.take_of_length_le (by omega)]
  have hdr : (le8 no ++ d).drop 8 = d := by rw [List.drop_append, List.drop_of_length_le (by omega), h8]; rfl
  have hn := leN_le8 (no := no) (by omega) h1
  unfold readF
  rw [ho]
  simp only []
  rw [if_neg (by rw [List.length_append]; omega), hk, hdr, hn, if_neg (by omega)]
theorem readF_torn {m : List UInt8} (h : openF m = ([], 30)) : readF m = (0, []) := by
  unfold readF; rw [h]; rfl
/-- The pair with a sector put into a slot. -/
def putIn (a b : List UInt8) (slot : Nat) (x : List UInt8) : List UInt8 × List UInt8 := if slot = 0 then (x, b) else (a, x)
theorem newest_of {l r : List UInt8} (h : l.length = 512 ∧ r.length = 512) : newestF l r = if (readF l).1 = 0 ∧ (readF r).1 = 0 then (0, 0, [], 30) else if (readF l).1 < (readF r).1 then (1, (readF r).1, (readF r).2, 0) else (0, (readF l).1, (readF l).2, 0) := by
  unfold newestF; rw [if_pos h]
structure Renewed (a b : List UInt8) (no : Int) (d : List UInt8) : Prop where
  len : (renewF a b no d).2.1.length = 512
  slot : (renewF a b no d).1 = 0 ∨ (renewF a b no d).1 = 1
  other : (newestF a b).2.2.2 = 0 → (renewF a b no d).1 ≠ (newestF a b).1
  first : (newestF a b).2.2.2 ≠ 0 → (renewF a b no d).1 = 0
  new : newestF (putIn a b (renewF a b no d).1 (renewF a b no d).2.1).1 (putIn a b (renewF a b no d).1 (renewF a b no d).2.1).2 = ((renewF a b no d).1, no.toNat, d, 0)
  torn : ∀ m, m = (if (renewF a b no d).1 = 1 then b else a) ∨ m = (renewF a b no d).2.1 ∨ openF m = ([], 30) → m.length = 512 → newestF (putIn a b (renewF a b no d).1 m).1 (putIn a b (renewF a b no d).1 m).2 = ((renewF a b no d).1, no.toNat, d, 0) ∨ newestF (putIn a b (renewF a b no d).1 m).1 (putIn a b (renewF a b no d).1 m).2 = newestF a b
  mix : ∀ c, c ≤ 512 → let o := (if (renewF a b no d).1 = 1 then b else a); let s := (renewF a b no d).2.1; (o.take c ++ s.drop c = o ∨ o.take c ++ s.drop c = s ∨ openF (o.take c ++ s.drop c) = ([], 30)) ∧ (s.take c ++ o.drop c = o ∨ s.take c ++ o.drop c = s ∨ openF (s.take c ++ o.drop c) = ([], 30))
/-- Renew, of two sectors and not too much: refused, just where the number is not above; else as told. -/
theorem renew_told {a b : List UInt8} {no : Int} {d : List UInt8} (hl : a.length = 512 ∧ b.length = 512) (hd : d.length ≤ 496) (hno : no ≤ 9223372036854775807) :
    ((renewF a b no d).2.2 ≠ 0 ∧ ¬ (1 ≤ no ∧ ((newestF a b).2.2.2 ≠ 0 ∨ ((newestF a b).2.1 : Int) < no))) ∨ ((renewF a b no d).2.2 = 0 ∧ (1 ≤ no ∧ ((newestF a b).2.2.2 ≠ 0 ∨ ((newestF a b).2.1 : Int) < no)) ∧ Renewed a b no d) := by
  by_cases h1 : no < 1
  · left
    have e : renewF a b no d = (0, [], 1) := by unfold renewF; rw [if_neg (fun h => h hl), if_pos h1]
    rw [e]; exact ⟨by decide, fun h => by omega⟩
  by_cases h3 : (newestF a b).2.2.2 = 0 ∧ no ≤ ((newestF a b).2.1 : Int)
  · left
    have e : renewF a b no d = (0, [], 31) := by rw [renew_mid hl h1 (by omega), if_pos h3]
    rw [e]; exact ⟨by decide, fun h => by omega⟩
  right
  have h8 := length_le8 no
  have hbl : (le8 no ++ d).length ≤ 504 := by rw [List.length_append]; omega
  have e := renew_end hl h1 (show ¬ 496 < d.length by omega) h3
  have sealed : ∀ o : List UInt8, o.length = 512 → sealF o (le8 no ++ d) = (form (turnOf (o.getD 0 0) (o.getD 511 0)) (le8 no ++ d), 0) := fun o ho => by unfold sealF; rw [if_neg (by omega), if_neg (by omega)]
  have hnn := newest_of hl
  have key : ∀ (slot : Nat) (o other : List UInt8), (slot = 0 ∧ o = a ∧ other = b) ∨ (slot = 1 ∧ o = b ∧ other = a) → (readF other).1 < no.toNat → ((newestF a b).2.2.2 = 0 → newestF a b = (1 - slot, (readF other).1, (readF other).2, 0)) → ((newestF a b).2.2.2 ≠ 0 → (readF other).1 = 0 ∧ newestF a b = (0, 0, [], 30) ∧ slot = 0) → renewF a b no d = (slot, form (turnOf (o.getD 0 0) (o.getD 511 0)) (le8 no ++ d), 0) → (renewF a b no d).2.2 = 0 ∧ Renewed a b no d := by
    intro slot o other hs hlt hq0 hq1 er
    have ho : o.length = 512 := by rcases hs with ⟨_, rfl, _⟩ | ⟨_, rfl, _⟩ <;> omega
    obtain ⟨n0, n1, n2⟩ := turn_ne (o.getD 0 0) (o.getD 511 0)
    obtain ⟨s, hsd⟩ : ∃ s, s = form (turnOf (o.getD 0 0) (o.getD 511 0)) (le8 no ++ d) := ⟨_, rfl⟩
    have hsl : s.length = 512 := by rw [hsd]; exact length_form _ hbl
    have hrs : readF s = (no.toNat, d) := by rw [hsd]; exact readF_new n2 (by omega) hno hd
    have hsl01 : slot = 0 ∨ slot = 1 := hs.elim (fun h => .inl h.1) (fun h => .inr h.1)
    have hold : (if slot = 1 then b else a) = o := by
      rcases hs with ⟨rfl, rfl, _⟩ | ⟨rfl, rfl, _⟩
      · exact if_neg (by decide)
      · exact if_pos rfl
    rw [← hsd] at er
    have hnew : newestF (putIn a b slot s).1 (putIn a b slot s).2 = (slot, no.toNat, d, 0) := by
      rcases hs with ⟨rfl, rfl, rfl⟩ | ⟨rfl, rfl, rfl⟩
      · show newestF s other = _
        rw [newest_of ⟨hsl, hl.2⟩, hrs, if_neg (by simp only []; omega), if_neg (by simp only []; omega)]
      · show newestF other s = _
        rw [newest_of ⟨hl.1, hsl⟩, hrs, if_neg (by simp only []; omega), if_pos (by simp only []; omega)]
    have hback : newestF (putIn a b slot o).1 (putIn a b slot o).2 = newestF a b := by
      rcases hs with ⟨rfl, rfl, rfl⟩ | ⟨rfl, rfl, rfl⟩ <;> rfl
    have htorn : ∀ m : List UInt8, m.length = 512 → openF m = ([], 30) → newestF (putIn a b slot m).1 (putIn a b slot m).2 = newestF a b := fun m hm ht => by
      have hr := readF_torn ht
      by_cases hq : (newestF a b).2.2.2 = 0
      · rw [hq0 hq]
        have hne : (readF other).1 ≠ 0 := fun h0 => by
          have h9 := hq0 hq
          rw [hnn] at h9
          split at h9
          · exact absurd (show (30 : Nat) = 0 from congrArg (fun x => x.2.2.2) h9) (by decide)
          · rename_i hz
            split at h9
            · rename_i hz2
              simp only [Prod.mk.injEq] at h9
              omega
            · rename_i hz2
              simp only [Prod.mk.injEq] at h9
              omega
        rcases hs with ⟨rfl, rfl, rfl⟩ | ⟨rfl, rfl, rfl⟩
        · show newestF m other = _
          rw [newest_of ⟨hm, hl.2⟩, hr, if_neg (by simp only []; omega), if_pos (by simp only []; omega)]
        · show newestF other m = _
          rw [newest_of ⟨hl.1, hm⟩, hr, if_neg (by simp only []; omega), if_neg (by simp only []; omega)]
      · obtain ⟨g1, g2, rfl⟩ := hq1 hq
        rw [g2]
        rcases hs with ⟨_, rfl, rfl⟩ | ⟨h, _⟩
        · show newestF m other = _
          rw [newest_of ⟨hm, hl.2⟩, hr, if_pos ⟨rfl, g1⟩]
        · cases h
    refine ⟨by rw [er], by rw [er]; exact hsl, by rw [er]; exact hsl01, fun hq => ?_, fun hq => ?_, by rw [er]; exact hnew, fun m hm hm5 => ?_, fun c hc => ?_⟩
    · rw [er, hq0 hq]; show slot ≠ 1 - slot; omega
    · rw [er]; exact (hq1 hq).2.2
    · rw [er] at hm ⊢
      simp only [] at hm ⊢
      rw [hold] at hm
      rcases hm with rfl | rfl | hm
      · exact .inr hback
      · exact .inl hnew
      · exact .inr (htorn m hm5 hm)
    · rw [er]
      simp only []
      rw [hold]
      exact (over_mixes o (le8 no ++ d) c hc ho hbl s hsd).2
  have h13 : 1 ≤ no ∧ ((newestF a b).2.2.2 ≠ 0 ∨ ((newestF a b).2.1 : Int) < no) := ⟨by omega, by omega⟩
  by_cases hz : (readF a).1 = 0 ∧ (readF b).1 = 0
  · rw [if_pos hz] at hnn
    rw [hnn] at e h3
    rw [if_neg (by simp), sealed a hl.1] at e
    obtain ⟨r1, r2⟩ := key 0 a b (.inl ⟨rfl, rfl, rfl⟩) (by omega) (fun h => by rw [hnn] at h; exact absurd (show (30 : Nat) = 0 from h) (by decide)) (fun _ => ⟨hz.2, hnn, rfl⟩) e
    exact ⟨r1, h13, r2⟩
  · rw [if_neg hz] at hnn
    by_cases hlt : (readF a).1 < (readF b).1
    · rw [if_pos hlt] at hnn
      rw [hnn] at e h3
      rw [if_neg (by simp), sealed a hl.1] at e
      obtain ⟨r1, r2⟩ := key 0 a b (.inl ⟨rfl, rfl, rfl⟩) (by have h4 : ¬ no ≤ ((readF b).1 : Int) := fun h => h3 ⟨rfl, h⟩; omega) (fun _ => hnn) (fun h => by rw [hnn] at h; exact absurd rfl h) e
      exact ⟨r1, h13, r2⟩
    · rw [if_neg hlt] at hnn
      rw [hnn] at e h3
      rw [if_pos ⟨rfl, rfl⟩, sealed b hl.2] at e
      obtain ⟨r1, r2⟩ := key 1 b a (.inr ⟨rfl, rfl, rfl⟩) (by have h4 : ¬ no ≤ ((readF a).1 : Int) := fun h => h3 ⟨rfl, h⟩; omega) (fun _ => hnn) (fun h => by rw [hnn] at h; exact absurd rfl h) e
      exact ⟨r1, h13, r2⟩
end Go.Proofs
