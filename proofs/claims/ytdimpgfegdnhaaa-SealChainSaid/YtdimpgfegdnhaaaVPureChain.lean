/- The law SealChain, in plain Lean: over every start and every list of turns. -/
import Derived.Test.YtdimpgfegdnhaaaVPureT
open Go Go.RowKit Go.Proofs.Ytdimpgfegdnhaaa.P Go.Proofs.Ytdimpgfegdnhaaa.Ext Go.Proofs.YtdimpgfegdnhaaaW.PrintWords Go.Proofs.YtdimpgfegdnhaaaW.PrintLast
namespace Go.Proofs.Ytdimpgfegdnhaaa.PureA
open Go.Vel
theorem chain_l (ts : List S32) (hl : ts.length ≤ 9223372036854775807) (hts : ∀ t ∈ ts, ∃ b, t.f0 = ofB b) : ∀ m i (o : List UInt8), i + m = ts.length → o.length = 512 → Ev (fun k => vellumlaw3_SealChain.l0 k ts (ofB o) (i : Int)) true
  | 0, i, o, h, ho => by
    refine Ev.step (f := fun _ => some true) (fun k => ?_) (Ev.now _)
    simp only [vellumlaw3_SealChain.l0]
    rw [if_neg (by omega)]
  | m + 1, i, o, h, ho => by
    have ih := chain_l ts hl hts m (i + 1)
    have hi : i < ts.length := by omega
    obtain ⟨b, hb⟩ := hts (rd_T32 ts (i : Int)) (by
      unfold rd_T32
      rw [Int.toNat_natCast, List.getD_eq_getElem?_getD, List.getElem?_eq_getElem hi]
      exact List.getElem_mem hi)
    have hb5 : (b.take 504).length ≤ 504 := by rw [List.length_take]; omega
    obtain ⟨c, hc, hcut⟩ := cutOf_ev (rd_T32 ts (i : Int)).f1
    obtain ⟨s, hs⟩ : ∃ s, s = form (turnOf (o.getD 0 0) (o.getD 511 0)) (b.take 504) := ⟨_, rfl⟩
    obtain ⟨hsl, m1, m2⟩ := over_mixes o (b.take 504) c hc ho hb5 s hs
    have hw := whole_ok o (b.take 504) ho hb5
    rw [← hs] at hw
    have j1 : ∀ mm : List UInt8, mm.length = 512 → (mm = o ∨ mm = s ∨ openF mm = ([], 30)) → Ev (fun k => vellumlaw3_SealChain.j1 k ts (ofB o) (ofB s) (i : Int) (ofB mm)) true := fun mm hm ht => by
      refine Ev.step (fun k => vellumlaw3_SealChain.j1.eq_2 ..) (Ev.bind (told_ok mm o s hm ht) (Ev_yes rfl (Ev_yes (by omega) (Ev_yes (by omega) ?_))))
      rw [wrap_succ (by omega)]
      by_cases hf : (rd_T32 ts (i : Int)).f2 = true
      · exact Ev_yes hf (ih mm (by omega) hm)
      · exact Ev_no hf (ih s (by omega) hsl)
    refine Ev.step (fun k => vellumlaw3_SealChain.l0.eq_2 ..) (Ev_yes (by omega) (Ev_yes (by omega) ?_))
    rw [hb]
    refine Ev.bind (upTo_ev b 504 (by decide)) (Ev.bind hw (Ev_yes (by rw [len_ofB]; omega) (Ev.bind (Ev_told hcut) (Ev.bind (mix_ev o s c hc ho hsl) ?_))))
    by_cases hf : (rd_T32 ts (i : Int)).f3 = true
    · exact Ev_yes hf (Ev.bind (mix_ev s o c hc hsl ho) (j1 _ (by simp; omega) m2))
    · exact Ev_no hf (j1 _ (by simp; omega) m1)
theorem chain_ok (a : List UInt8) (ts : List S32) (hl : ts.length ≤ 9223372036854775807) (hts : ∀ t ∈ ts, ∃ b, t.f0 = ofB b) : Ev (fun k => vellumlaw3_SealChain.f k (ofB a) ts) true := by
  have hS := length_sectorB a
  unfold vellumlaw3_SealChain.f
  have h3 := whole_ok (sectorB a) [1, 2, 3] hS (by decide)
  have hl3 := length_form (turnOf ((sectorB a).getD 0 0) ((sectorB a).getD 511 0)) (show ([1, 2, 3] : List UInt8).length ≤ 504 by decide)
  exact Ev.bind (sector_ev a) (Ev.bind h3 (Ev_yes (by rw [len_ofB]; omega) (chain_l ts hl hts ts.length 0 _ (by omega) hS)))
end Go.Proofs.Ytdimpgfegdnhaaa.PureA
