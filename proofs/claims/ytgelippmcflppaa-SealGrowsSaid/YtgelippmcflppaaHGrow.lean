/- Facts that stand among what is owned; what a renewal hands back, in one form; how the pair's newest number goes on. -/
import Derived.Test.YtgelippmcflppaaHSeal6
open Go Go.RowKit Go.Proofs.YtgelippmcflppaaW.PrintWords Go.Proofs.YtgelippmcflppaaW.PrintMore
namespace Go.Vel
set_option linter.unusedVariables false
/-- A fact, and no memory. -/
def pureA (p : Prop) : Ast := fun h => p ∧ emp h
section
variable {F : Nat → Prop} {w0 w : World} {L : List Ast}
theorem St.pure_in {p : Prop} (S : St F w0 w L) (hp : p) : St F w0 w (pureA p :: L) :=
  (St.vec_nil (e := 0) (sz := 0) S).map1 fun h hv => by
    rcases hv with ⟨_, _, _, h1⟩ | ⟨_, _, _, h1, _⟩
    · exact ⟨hp, h1⟩
    · cases h1
theorem St.pure_out {p : Prop} (S : St F w0 w (pureA p :: L)) : p ∧ St F w0 w L := by
  obtain ⟨q, hq⟩ := S.own.holds
  exact ⟨hq.1, S.tail⟩
/-- A list of bytes that grows, as bytes that are read. -/
theorem St.vec_X {t : TypeId} {A : Option Addr} {n c : Nat} {l : List UInt8} (hn : n = l.length) (S : St F w0 w (vec t 1 (.slice A n c) n (l.map bv) :: L)) : St F w0 w (bytesX (.slice A n c) l :: L) :=
  S.map1 fun h hv => by
    subst hn
    rcases hv with ⟨e, e2, e3, _⟩ | ⟨g, c2, junk, e, h1, h2, h3, h4⟩
    · simp at e
      obtain ⟨rfl, _, rfl⟩ := e
      have hl : l = [] := by simpa using e3
      subst hl
      exact ⟨none, 0, rfl, Nat.le_refl _, fun w _ => RdB.nil⟩
    · simp at e
      obtain ⟨rfl, rfl⟩ := e
      refine ⟨_, c, rfl, h1, fun w hw => fun h0 => ⟨⟨g, 0, none⟩, rfl, fun j u hu => ?_⟩⟩
      have h5 : h g = some (.cells (l.map bv ++ junk).toArray t (0, 0)) := by have := h4 g; simpa using this
      have hB : Blk w g (l.map bv ++ junk).toArray t := ⟨hw _ _ h5⟩
      rw [Addr.add_lit, Nat.zero_add, hB.cell, List.getElem?_toArray, List.getElem?_append_left (List.getElem?_eq_some_iff.1 hu).1]; exact hu
end
end Go.Vel
namespace Go.Proofs
open Go.Vel
/-- What renews hands back. -/
structure RG where
  slot : Int
  A1 : Option Addr
  c1 : Nat
  s : List UInt8
  A2 : Option Addr
  c2 : Nat
  m : List UInt8
def RG.zero : RG := ⟨0, none, 0, [], none, 0, []⟩
/-- What is told of it: nothing was written, or a sector and its mixture of 512 bytes each, and the pair with either tells the new number or what it told. -/
def RG.Told (x : RG) (a b : List UInt8) : Prop := (x.s = [] ∧ x.m = []) ∨
  (x.s.length = 512 ∧ x.m.length = 512 ∧ (x.slot = 0 ∨ x.slot = 1) ∧ ∀ t, t = x.s ∨ t = x.m → (newestF (putIn a b x.slot.toNat t).1 (putIn a b x.slot.toNat t).2 = newestF a b) ∨ ((newestF (putIn a b x.slot.toNat t).1 (putIn a b x.slot.toNat t).2).2.2.2 = 0 ∧ ((newestF a b).2.2.2 = 0 → (newestF a b).2.1 < (newestF (putIn a b x.slot.toNat t).1 (putIn a b x.slot.toNat t).2).2.1)))
/-- 0 to 512. -/
def cutF (n : Int) : Nat := (if Int.tmod n 513 < 0 then Int.tmod n 513 + 513 else Int.tmod n 513).toNat
theorem tmod_bd (n : Int) : -513 < Int.tmod n 513 ∧ Int.tmod n 513 < 513 := by
  have h1 : Int.tmod n 513 < 513 := Int.tmod_lt_of_pos n (by decide)
  have h3 := Int.tmod_lt_of_pos (-n) (show (0 : Int) < 513 by decide)
  rw [Int.neg_tmod] at h3
  exact ⟨by omega, h1⟩
theorem cutF_le (n : Int) : cutF n ≤ 512 := by
  have := tmod_bd n
  unfold cutF
  split <;> omega
theorem newest_zero {a b : List UInt8} (h : (newestF a b).2.2.2 ≠ 0) : (newestF a b).2.1 = 0 := by
  unfold newestF at h ⊢
  split at h
  · rename_i hl
    rw [if_pos hl]
    split at h
    · rename_i hz; rw [if_pos hz]
    · rename_i hz
      split at h <;> exact absurd rfl h
  · rename_i hl; rw [if_neg hl]
theorem renews_rg {F : Nat → Prop} {w0 w : World} {L : List Ast} (S : St F w0 w L) {A B D : Option Addr} {a b d : List UInt8} {m n k ca cb cd c : Nat} {no : Int} {back : Bool} (hm0 : m = a.length) (hn0 : n = b.length) (hk0 : k = d.length) (ha : RoT F w0 L A a) (hb : RoT F w0 L B b) (hd : RoT F w0 L D d) (ha5 : a.length = 512) (hb5 : b.length = 512) (hd5 : d.length ≤ 496) (hc : c ≤ 512) (hno : no ≤ 9223372036854775807) :
    Calls Try.prog 20 #[.slice A m ca, .slice B n cb, .int .i64 no, .slice D k cd, .int .i64 ((c : Nat) : Int), .bool back] w fun e w' => ∃ x : RG, e = .returned (.tuple #[.bool true, .int .i64 x.slot, .slice x.A1 x.s.length x.c1, .slice x.A2 x.m.length x.c2]) ∧ St F w0 w' (pureA (x.Told a b) :: bytesX (.slice x.A1 x.s.length x.c1) x.s :: bytesX (.slice x.A2 x.m.length x.c2) x.m :: L) := by
  refine (renews_all S hm0 hn0 hk0 ha hb hd ha5 hb5 hd5 hc hno).mono fun e w' h => ?_
  rcases h with ⟨rfl, _, S2⟩ | ⟨As, Am, cs, cm, mm, rfl, h0, hR, hm, hm5, S2⟩
  · exact ⟨RG.zero, rfl, St.pure_in (St.bytesX_nil (St.bytesX_nil S2)) (.inl ⟨rfl, rfl⟩)⟩
  · have hs5 := hR.len
    have ht := renew_told (a := a) (b := b) (no := no) (d := d) ⟨ha5, hb5⟩ hd5 hno
    have hmay : 1 ≤ no ∧ ((newestF a b).2.2.2 ≠ 0 ∨ ((newestF a b).2.1 : Int) < no) := ht.elim (fun h => absurd h0 h.1) (fun h => h.2.1)
    refine ⟨⟨(renewF a b no d).1, As, cs, (renewF a b no d).2.1, Am, cm, mm⟩, by simp only [hs5, hm5], ?_⟩
    have S3 := St.swap (St.vec_X hm5.symm S2)
    simp only [hs5, hm5]
    refine St.pure_in S3 (.inr ⟨hs5, hm5, ?_, ?_⟩)
    · show ((renewF a b no d).1 : Int) = 0 ∨ ((renewF a b no d).1 : Int) = 1
      have := hR.slot
      omega
    · intro t hts
      have hn : ((renewF a b no d).1 : Int).toNat = (renewF a b no d).1 := Int.toNat_natCast _
      show newestF (putIn a b ((renewF a b no d).1 : Int).toNat t).1 _ = _ ∨ _
      rw [hn]
      have hnew : ∀ {q : Nat × Nat × List UInt8 × Nat}, q = ((renewF a b no d).1, no.toNat, d, 0) → q.2.2.2 = 0 ∧ ((newestF a b).2.2.2 = 0 → (newestF a b).2.1 < q.2.1) := fun hq => by
        subst hq
        exact ⟨rfl, fun h => by show (newestF a b).2.1 < no.toNat; omega⟩
      rcases hts with rfl | rfl
      · exact .inr (hnew hR.new)
      · rcases hR.torn t hm hm5 with h | h
        · exact .inr (hnew h)
        · exact .inl h
end Go.Proofs
