/- What is told of whole (printed) and of opening what was sealed, in plain Lean. -/
import Derived.Test.YtdimpgfegdnhaaaVPureA
open Go Go.RowKit Go.Proofs.Ytdimpgfegdnhaaa.P Go.Proofs.Ytdimpgfegdnhaaa.Ext Go.Proofs.YtdimpgfegdnhaaaW.PrintWords Go.Proofs.YtdimpgfegdnhaaaW.PrintLast
namespace Go.Proofs.Ytdimpgfegdnhaaa.PureA
open Go.Vel
theorem Ev_told {α : Type} {o : Option α} {x : α} (h : o = some x) : Ev (fun _ => o) x := Ev.congr (fun _ => h) (Ev.now _)
theorem Ev_yes {α : Type} {c : Prop} [Decidable c] {g f : Nat → Option α} {r : α} (h : c) (k : Ev g r) : Ev (fun n => if c then g n else f n) r := Ev.congr (fun _ => if_pos h) k
theorem Ev_no {α : Type} {c : Prop} [Decidable c] {g f : Nat → Option α} {r : α} (h : ¬ c) (k : Ev f r) : Ev (fun n => if c then g n else f n) r := Ev.congr (fun _ => if_neg h) k
theorem of_wf {l : List Int} (h : ∀ x ∈ l, (Lit.int .u8 x).wf = true) : ∃ b, l = ofB b := of_isB (by
  unfold isB
  rw [List.all_eq_true]
  intro x hx
  have := h x hx
  simp [Lit.wf, IntKind.min, IntKind.max, IntKind.bits, IntKind.signed] at this
  simp
  omega)
theorem ext_Splice (a b : List UInt8) (c : Int) : seal_Splice.f (ofB a) (ofB b) c = some (ofB (spliceF a b c).1, ((spliceF a b c).2 : Int)) := by simp [seal_Splice.f, isB_ofB, toB_ofB]
theorem ext_Seal (a b : List UInt8) : seal_Seal.f (ofB a) (ofB b) = some (ofB (sealF a b).1, ((sealF a b).2 : Int)) := by simp [seal_Seal.f, isB_ofB, toB_ofB]
theorem ext_Open (a : List UInt8) : seal_Open.f (ofB a) = some (ofB (openF a).1, ((openF a).2 : Int)) := by simp [seal_Open.f, isB_ofB, toB_ofB]
theorem small {b : List UInt8} (h : b.length < 4611686018427387904) : (ofB b).length < 4611686018427387904 := by rw [len_ofB]; exact h
theorem small_sector (b : List UInt8) : (ofB (sectorB b)).length < 4611686018427387904 := small (by rw [length_sectorB]; decide)
theorem small_splice (a b : List UInt8) (c : Int) : (ofB (spliceF a b c).1).length < 4611686018427387904 := by
  apply small
  unfold spliceF
  split
  · decide
  · split
    · decide
    · simp only [List.length_append, List.length_take, List.length_drop]; omega
theorem small_seal (a b : List UInt8) : (ofB (sealF a b).1).length < 4611686018427387904 := by
  apply small
  unfold sealF
  split
  · decide
  · split
    · decide
    · simp only []; rw [length_form _ (by omega)]; decide
theorem small_open (s : List UInt8) : (ofB (openF s).1).length < 4611686018427387904 := by
  apply small
  unfold openF
  split
  · decide
  · split
    · decide
    · split
      · simp only [List.length_take, List.length_drop]; omega
      · decide
theorem openF_form (t : UInt8) (b : List UInt8) (ht : t.toNat ≤ 2) (hb : b.length ≤ 504) : openF (form t b) = (b, 0) := by
  obtain ⟨s0, s1, s2, s3, hs⟩ : ∃ s0 s1 s2 s3, le4 (crc (text b)) = [s0, s1, s2, s3] := ⟨_, _, _, _, rfl⟩
  have hf := form_eq t b s0 s1 s2 s3 hs
  have h1 : (form t b).getD 1 0 = UInt8.ofNat (b.length % 256) := by rw [hf]; rfl
  have h2 : (form t b).getD 2 0 = UInt8.ofNat (b.length / 256) := by rw [hf]; rfl
  have hn : b.length = ((form t b).getD 1 0).toNat + 256 * ((form t b).getD 2 0).toNat := by
    rw [h1, h2, UInt8.toNat_ofNat', UInt8.toNat_ofNat', Nat.mod_eq_of_lt (show b.length % 256 < 2 ^ 8 by omega), Nat.mod_eq_of_lt (show b.length / 256 < 2 ^ 8 by omega)]; omega
  have h0 : t = (form t b).getD 0 0 := rfl
  rw [openF_at (length_form t hb) h0 hn, if_neg (by omega)]
  have hd : ((form t b).drop 7).take b.length = b := by
    rw [hf]; simp
  rw [hd, if_pos rfl]
theorem form_last (t : UInt8) (b : List UInt8) (hb : b.length ≤ 504) : (form t b).getD 511 0 = t := by
  have hl := length_text hb
  have e : form t b = (t :: ((text b).take 2 ++ (le4 (crc (text b)) ++ (text b).drop 2))) ++ [t] := by unfold form; simp
  have h511 : (t :: ((text b).take 2 ++ (le4 (crc (text b)) ++ (text b).drop 2))).length = 511 := by simp [length_le4]; omega
  rw [e, List.getD_eq_getElem?_getD, List.getElem?_append_right (by omega), h511]
  rfl
theorem turn_ne (x y : UInt8) : turnOf x y ≠ x ∧ turnOf x y ≠ y ∧ (turnOf x y).toNat ≤ 2 := by
  have e0 : ∀ z : UInt8, (0 : UInt8) ≠ z ↔ z.toNat ≠ 0 := fun z => by rw [ne_eq, ← UInt8.toNat_inj]; simp; omega
  have e1 : ∀ z : UInt8, (1 : UInt8) ≠ z ↔ z.toNat ≠ 1 := fun z => by rw [ne_eq, ← UInt8.toNat_inj]; simp; omega
  have e2 : ∀ z : UInt8, (2 : UInt8) ≠ z ↔ z.toNat ≠ 2 := fun z => by rw [ne_eq, ← UInt8.toNat_inj]; simp; omega
  unfold turnOf
  split
  · rename_i h; exact ⟨h.1, h.2, by decide⟩
  · split
    · rename_i h; exact ⟨h.1, h.2, by decide⟩
    · rename_i h h'
      rw [e0, e0] at h
      rw [e1, e1] at h'
      exact ⟨(e2 x).2 (by omega), (e2 y).2 (by omega), by decide⟩
end Go.Proofs.Ytdimpgfegdnhaaa.PureA
