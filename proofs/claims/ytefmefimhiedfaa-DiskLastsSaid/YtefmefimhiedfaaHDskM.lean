/- More of what a disk's steps do: cuts that lose all, cuts of a disk with nothing pending, fuses; Burnt and Sector as the laws ask them. -/
import Derived.Test.YtefmefimhiedfaaHDskN
open Go Go.RowKit Go.Proofs.YtefmefimhiedfaaW.PrintWords Go.Proofs.YtefmefimhiedfaaW.PrintMore
namespace Go.Proofs
open Go.Vel
set_option linter.unusedVariables false
theorem crash_clean {s : Dsk} (h : s.pend = []) (ps : List Pick) : (s.crashR ps).last = s.last := by
  have hk : crashKeys s = [] := by
    unfold crashKeys keysTo
    rw [List.filter_eq_nil_iff]
    intro a _
    unfold pendOf; rw [h]; simp
  show applyP s.last (crashOuts s ps) = s.last
  unfold crashOuts
  rw [hk]; rfl
theorem fuse_off {s : Dsk} (h : s.left ≠ 0) : (s.fuseR (-1)).left = -1 ∧ (s.fuseR (-1)).last = s.last := by
  unfold Dsk.fuseR; rw [if_neg h]; exact ⟨rfl, rfl⟩
theorem pd_burnt' {F : Nat → Prop} {w0 w : World} {L : List Ast} {g : Nat} {s : Dsk} {b : Bool} (hb : decide (s.left = 0) = b) (S : St F w0 w L) (i : Nat) (hi : L[i]? = some (PDisk g s)) : Calls Try.prog 22 #[.pointer (some ⟨g, 0, none⟩)] w fun e w' => e = .returned (.bool b) ∧ w = w' := hb ▸ pd_burnt S i hi
theorem sector_all' {F : Nat → Prop} {w0 w : World} {L : List Ast} {A : Option Addr} {l : List UInt8} {c : Nat} (S : St F w0 w L) (hr : RoT F w0 L A l) : Calls Try.prog 39 #[.slice A l.length c] w fun e w' => ∃ g, e = .returned (.slice (some ⟨g, 0, none⟩) (sectorB l).length (sectorB l).length) ∧ St F w0 w' (row g (bvs (sectorB l)) 5 :: L) := by
  rw [sectorB_len]; exact sector_all S hr
/-- A write and a flush on a disk whose fuse is off, and the cut behind it: nothing is lost. -/
theorem lasts_ok {s : Dsk} {k : Nat} {d : List UInt8} (ps : List Pick) (h0 : s.left = -1) (hk : k < s.last.length) (hd : d.length = 512) :
    (s.writeR (k : Int) d).2 = 0 ∧ ((s.writeR (k : Int) d).1.flushR).2 = 0 ∧ ((s.writeR (k : Int) d).1.flushR.1.crashR ps).last = (s.writeR (k : Int) d).1.flushR.1.last ∧ (s.writeR (k : Int) d).1.flushR.1.last.length = s.last.length ∧ (((s.writeR (k : Int) d).1.flushR.1.crashR ps).readR (k : Int)).2.2 = 0 ∧ (((s.writeR (k : Int) d).1.flushR.1.crashR ps).readR (k : Int)).2.1 = d := by
  have e0 := writeR_yes (s := s) (a := (k : Int)) (d := d) (by rw [h0]; decide) (by omega) (by omega) hd
  obtain ⟨_, _, _, _, e1⟩ := writeR_ok e0
  generalize hs1 : (s.writeR (k : Int) d).1 = s1 at e1
  have hl1 : s1.left ≠ 0 := by rw [e1]; show spent s.left ≠ 0; rw [h0]; decide
  have hlast : s1.last = s.last := by rw [e1]
  have hpend : s1.pend = s.pend ++ [(k, d)] := by rw [e1]; simp
  rcases flushR_cases s1 with ⟨q, _⟩ | ⟨_, e2⟩
  · exact absurd q hl1
  · generalize hs2 : s1.flushR.1 = s2
    have e3 : s2 = { s1 with last := applyP s1.last s1.pend, pend := [], fl := inc s1.fl, left := spent s1.left } := by rw [← hs2, e2]
    have hp2 : s2.pend = [] := by rw [e3]
    have hl2 : s2.last.length = s.last.length := by rw [e3]; show (applyP s1.last s1.pend).length = _; rw [length_applyP, hlast]
    have hc := crash_clean hp2 ps
    have hcl : ((s2.crashR ps).last.length : Int) = s.last.length := by rw [hc, hl2]
    obtain ⟨q1, q2⟩ := readR_yes (s := s2.crashR ps) (a := (k : Int)) (by show (-1 : Int) ≠ 0; decide) (by omega) (by omega)
    refine ⟨e0, by rw [e2], hc, hl2, q1, q2.trans ?_⟩
    rw [Int.toNat_natCast, now_nil rfl, hc, ← now_nil hp2, now_flush (s := s1) (s' := s2) (by rw [e3]) hp2 (by rw [hlast]; exact hk), now_write hlast hpend, if_pos rfl]
end Go.Proofs
