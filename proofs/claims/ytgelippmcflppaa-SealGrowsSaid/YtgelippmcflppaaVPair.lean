/- seal.pair by the walk: both anchors, the newest's slot. -/
import Derived.Test.YtgelippmcflppaaVRead
open Go Go.RowKit Go.Proofs.YtgelippmcflppaaW.PrintWords Go.Proofs.YtgelippmcflppaaW.PrintMore
namespace Go.Proofs
open Go.Vel
def slotF (m n : Nat) : Int := if m = 0 ∧ n = 0 then -1 else if m < n then 1 else 0
def zPair : Array Value := #[.int .i64 0, .slice none 0 0, .int .i64 0, .slice none 0 0]
theorem aggPair : Agg Try.prog 100 zPair := ⟨⟨_, Try.underlying100, rfl⟩, by kernel_rfl, by kernel_rfl⟩
def isV (w : World) (w0 : World) (v : Value) (l : List UInt8) : Prop := Kd.V (Kd.int .u8) 5 w w0.heap.size (fun k_ => (w0.heap.size ≤ k_)) v (ofB l)
/-- What pair hands back. -/
def RetPair (l r : List UInt8) (w : World) (e : Ending) (w' : World) : Prop :=
  if l.length = 512 ∧ r.length = 512 then
    ∃ v0 v1 : Value, e = .returned (.tuple #[.agg #[.int .i64 (readF l).1, v0, .int .i64 (readF r).1, v1], .int .i64 (slotF (readF l).1 (readF r).1), .int .i64 0]) ∧ isV w' w v0 (readF l).2 ∧ isV w' w v1 (readF r).2 ∧ Below w.heap.size w w'
  else e = .returned (.tuple #[.agg zPair, .int .i64 (-1), .int .i64 2]) ∧ Below w.heap.size w w'
theorem results_cell3 {P : Program} {fn : Func} {p : Tmp} {ty : TypeId} {q r : Tmp} (h : fn.results = #[.cell p ty, .tmp q, .tmp r]) (tmps : Array Value) (w : World) (g : Nat) (t : TypeId) (cs : Array Value) (fr : Nat × Nat) (d : TypeDesc)
    (hp : tmps.getD p undef = .pointer (some ⟨g, 0, none⟩)) (hg : w.heap[g]? = some (.cells cs t fr))
    (hu : P.underlying ty = some d) (hd : (match d with | .struct _ | .array _ _ => true | _ => false) = true) (hi : (P.info? ty).map (·.size) = some cs.size) {x y : Value} (hx : tmps.getD q undef = x) (hy : tmps.getD r undef = y) :
    (results fn tmps).run P w = .ok (.tuple #[.agg cs, x, y]) w := by
  have hp' : tmps[p]?.getD undef = .pointer (some ⟨g, 0, none⟩) := by simpa using hp
  have hx' : tmps[q]?.getD undef = x := by simpa using hx
  have hy' : tmps[r]?.getD undef = y := by simpa using hy
  simp [results, h, hp', hx', hy', asAddr, run_loadVar_row w g t ty cs fr d hg hu hd hi]
/-- How the walk's end tells what pair hands back. -/
theorem pair_end {l r : List UInt8} {w w1 w2 w3 w4 w5 : World} {g : Nat} {v0 v1 : Value} {m n : Nat} {sl : Int} {t : TypeId} {z : Array Value} (hl : l.length = 512 ∧ r.length = 512) (hm : m = (readF l).1) (hn : n = (readF r).1) (hs : slotF m n = sl)
    (hg : w.heap.size ≤ g) (hB : Blk w1 g z t) (hW : Below w.heap.size w w1) (hB2 : Below w1.heap.size w1 w2) (hB3 : Below w2.heap.size w2 w3) (hO4 : Only g w3 w4) (hO5 : Only g w4 w5)
    (hv0 : Kd.V (Kd.int .u8) 5 w2 w1.heap.size (fun k_ => w1.heap.size ≤ k_) v0 (ofB (readF l).2)) (hv1 : Kd.V (Kd.int .u8) 5 w3 w2.heap.size (fun k_ => w2.heap.size ≤ k_) v1 (ofB (readF r).2)) :
    RetPair l r w (.returned (.tuple #[.agg #[.int .i64 (m : Int), v0, .int .i64 (n : Int), v1], .int .i64 sl, .int .i64 0])) w5 := by
  have hO := hO4.trans hO5
  have hgl := hB.lt
  unfold RetPair
  rw [if_pos hl]
  refine ⟨v0, v1, by rw [← hm, ← hn, hs], ?_, ?_, ?_⟩
  · refine V_move hv0 (fun k hk hlt => ⟨Nat.le_trans hW.size hk, ?_, ?_⟩)
    · rw [hO.size]; exact Nat.lt_of_lt_of_le hlt hB3.size
    · rw [hO.block k (by omega)]; exact hB3.block k hlt
  · refine V_move hv1 (fun k hk hlt => ⟨Nat.le_trans (Nat.le_trans hW.size hB2.size) hk, ?_, ?_⟩)
    · rw [hO.size]; exact hlt
    · have := hB2.size
      exact hO.block k (by omega)
  · have b2 := hW.trans (hB2.mono hW.size)
    have b3 := b2.trans (hB3.mono b2.size)
    exact b3.trans (hO.below hg)
set_option maxHeartbeats 1000000 in
set_option maxRecDepth 100000 in
theorem pair_any (w : World) (A0 : Option Addr) (c0 : Nat) (l : List UInt8) (A1 : Option Addr) (c1 : Nat) (r : List UInt8) (hr0 : Kd.C (Kd.int .u8) w A0 (ofB l).length (ofB l)) (hr1 : Kd.C (Kd.int .u8) w A1 (ofB r).length (ofB r)) :
    Calls Try.prog 47 #[.slice A0 (ofB l).length c0, .slice A1 (ofB r).length c1] w (RetPair l r w) := by
  have HR0 := Aside0.mk hr0
  have HR1 := Aside0.mk hr1
  clear hr0 hr1
  by_cases h : l.length = 512 ∧ r.length = 512
  · obtain ⟨RP, hRP⟩ : ∃ RP, RP = RetPair l r w := ⟨_, rfl⟩
    rw [← hRP]
    have HRP := Aside0.mk hRP
    clear hRP
    have h0 : ((((ofB l).length : Nat) : Int) != 512) = false := by rw [len_ofB, h.1]; rfl
    have h1 : ((((ofB r).length : Nat) : Int) != 512) = false := by rw [len_ofB, h.2]; rfl
    have HL := Aside0.mk h
    obtain ⟨m, hm⟩ : ∃ m, m = (readF l).1 := ⟨_, rfl⟩
    obtain ⟨n, hn⟩ : ∃ n, n = (readF r).1 := ⟨_, rfl⟩
    have Hm := Aside0.mk hm
    have Hn := Aside0.mk hn
    clear h hm hn
    have tok1 : True := trivial
    have tok2 : True := trivial
    by_cases hmz : m = 0
    · have b0 : ((m : Int) == 0) = true := by rw [beq_iff_eq]; omega
      by_cases hnz : n = 0
      · have b1 : ((n : Int) == 0) = true := by rw [beq_iff_eq]; omega
        have HS : Aside0 (slotF m n = -1) := ⟨by simp [slotF, hmz, hnz]⟩
        clear hmz hnz
        go_enter Try.func47, Try.ntmps47
        go_wp2_with (first
          | (refine wl_alloc rfl rfl aggPair ?_; intro g w1 hB hg hw; have HB := Aside0.mk hB; have HW := Aside0.mk hw; clear hB hw)
          | (have _t := tok1; go_at_call 55; refine (read_any _ _ _ _ (Kd.C_below HR0.out HW.out)).mono ?_; rintro e w2 ⟨v0, rfl, hv, hb⟩; rw [← Hm.out]; have HV0 := Aside0.mk hv; obtain ⟨A2, c2, rfl, _, _⟩ := V_slice hv; have HB2 := Aside0.mk hb; clear hv hb tok1)
          | (go_at_call 55; refine (read_any _ _ _ _ (Kd.C_below HR1.out (HW.out.trans (HB2.out.mono HW.out.size)))).mono ?_; rintro e w3 ⟨v1, rfl, hv, hb⟩; rw [← Hn.out]; have HV1 := Aside0.mk hv; obtain ⟨A3, c3, rfl, _, _⟩ := V_slice hv; have HB3 := Aside0.mk hb; clear hv hb)
          | (have _t := tok2; refine wl_store_row rfl rfl aggPair rfl rfl ((HB.out.below HB2.out).below HB3.out) rfl rfl (by intro v hv; simp at hv; rcases hv with rfl | rfl | rfl | rfl <;> rfl) ?_; intro w4 hB4 hO4; have HB4 := Aside0.mk hB4; have HO4 := Aside0.mk hO4; have hc0 := hB4.cell 0; have hc2 := hB4.cell 2; simp at hc0 hc2; clear hB4 hO4 tok2)
          | (refine wl_load_row rfl rfl aggPair rfl HB4.out rfl ?_)
          | (refine wl_store_row rfl rfl aggPair rfl rfl HB4.out rfl rfl (by intro v hv; simp at hv; rcases hv with rfl | rfl | rfl | rfl <;> rfl) ?_; intro w5 hB5 hO5; have HB5 := Aside0.mk hB5; have HO5 := Aside0.mk hO5; clear hB5 hO5))
        refine bodyPost_ret (v := .tuple #[.agg #[.int .i64 (m : Int), .slice A2 (ofB (readF l).2).length c2, .int .i64 (n : Int), .slice A3 (ofB (readF r).2).length c3], .int .i64 (-1), .int .i64 0]) (results_cell3 (P := Try.prog) rfl _ _ g 100 _ (0, 0) _ rfl HB5.out.out Try.underlying100 rfl (by kernel_rfl) rfl rfl) rfl ?_
        rw [HRP.out]
        exact pair_end HL.out Hm.out Hn.out HS.out hg HB.out HW.out HB2.out HB3.out HO4.out HO5.out HV0.out HV1.out
      · have b1 : ((n : Int) == 0) = false := by rw [beq_eq_false_iff_ne]; omega
        have hmn : m < n := by omega
        have HS : Aside0 (slotF m n = 1) := ⟨by simp [slotF, hmz, hnz]⟩
        clear hmz hnz
        go_enter Try.func47, Try.ntmps47
        go_wp2_with (first
          | (refine wl_alloc rfl rfl aggPair ?_; intro g w1 hB hg hw; have HB := Aside0.mk hB; have HW := Aside0.mk hw; clear hB hw)
          | (have _t := tok1; go_at_call 55; refine (read_any _ _ _ _ (Kd.C_below HR0.out HW.out)).mono ?_; rintro e w2 ⟨v0, rfl, hv, hb⟩; rw [← Hm.out]; have HV0 := Aside0.mk hv; obtain ⟨A2, c2, rfl, _, _⟩ := V_slice hv; have HB2 := Aside0.mk hb; clear hv hb tok1)
          | (go_at_call 55; refine (read_any _ _ _ _ (Kd.C_below HR1.out (HW.out.trans (HB2.out.mono HW.out.size)))).mono ?_; rintro e w3 ⟨v1, rfl, hv, hb⟩; rw [← Hn.out]; have HV1 := Aside0.mk hv; obtain ⟨A3, c3, rfl, _, _⟩ := V_slice hv; have HB3 := Aside0.mk hb; clear hv hb)
          | (have _t := tok2; refine wl_store_row rfl rfl aggPair rfl rfl ((HB.out.below HB2.out).below HB3.out) rfl rfl (by intro v hv; simp at hv; rcases hv with rfl | rfl | rfl | rfl <;> rfl) ?_; intro w4 hB4 hO4; have HB4 := Aside0.mk hB4; have HO4 := Aside0.mk hO4; have hc0 := hB4.cell 0; have hc2 := hB4.cell 2; simp at hc0 hc2; clear hB4 hO4 tok2)
          | (refine wl_load_row rfl rfl aggPair rfl HB4.out rfl ?_)
          | (refine wl_store_row rfl rfl aggPair rfl rfl HB4.out rfl rfl (by intro v hv; simp at hv; rcases hv with rfl | rfl | rfl | rfl <;> rfl) ?_; intro w5 hB5 hO5; have HB5 := Aside0.mk hB5; have HO5 := Aside0.mk hO5; clear hB5 hO5))
        refine bodyPost_ret (v := .tuple #[.agg #[.int .i64 (m : Int), .slice A2 (ofB (readF l).2).length c2, .int .i64 (n : Int), .slice A3 (ofB (readF r).2).length c3], .int .i64 1, .int .i64 0]) (results_cell3 (P := Try.prog) rfl _ _ g 100 _ (0, 0) _ rfl HB5.out.out Try.underlying100 rfl (by kernel_rfl) rfl rfl) rfl ?_
        rw [HRP.out]
        exact pair_end HL.out Hm.out Hn.out HS.out hg HB.out HW.out HB2.out HB3.out HO4.out HO5.out HV0.out HV1.out
    · have b0 : ((m : Int) == 0) = false := by rw [beq_eq_false_iff_ne]; omega
      by_cases hlt : m < n
      · have HS : Aside0 (slotF m n = 1) := ⟨by simp [slotF, hmz, hlt]⟩
        clear hmz
        go_enter Try.func47, Try.ntmps47
        go_wp2_with (first
          | (refine wl_alloc rfl rfl aggPair ?_; intro g w1 hB hg hw; have HB := Aside0.mk hB; have HW := Aside0.mk hw; clear hB hw)
          | (have _t := tok1; go_at_call 55; refine (read_any _ _ _ _ (Kd.C_below HR0.out HW.out)).mono ?_; rintro e w2 ⟨v0, rfl, hv, hb⟩; rw [← Hm.out]; have HV0 := Aside0.mk hv; obtain ⟨A2, c2, rfl, _, _⟩ := V_slice hv; have HB2 := Aside0.mk hb; clear hv hb tok1)
          | (go_at_call 55; refine (read_any _ _ _ _ (Kd.C_below HR1.out (HW.out.trans (HB2.out.mono HW.out.size)))).mono ?_; rintro e w3 ⟨v1, rfl, hv, hb⟩; rw [← Hn.out]; have HV1 := Aside0.mk hv; obtain ⟨A3, c3, rfl, _, _⟩ := V_slice hv; have HB3 := Aside0.mk hb; clear hv hb)
          | (have _t := tok2; refine wl_store_row rfl rfl aggPair rfl rfl ((HB.out.below HB2.out).below HB3.out) rfl rfl (by intro v hv; simp at hv; rcases hv with rfl | rfl | rfl | rfl <;> rfl) ?_; intro w4 hB4 hO4; have HB4 := Aside0.mk hB4; have HO4 := Aside0.mk hO4; have hc0 := hB4.cell 0; have hc2 := hB4.cell 2; simp at hc0 hc2; clear hB4 hO4 tok2)
          | (refine wl_load_row rfl rfl aggPair rfl HB4.out rfl ?_)
          | (refine wl_store_row rfl rfl aggPair rfl rfl HB4.out rfl rfl (by intro v hv; simp at hv; rcases hv with rfl | rfl | rfl | rfl <;> rfl) ?_; intro w5 hB5 hO5; have HB5 := Aside0.mk hB5; have HO5 := Aside0.mk hO5; clear hB5 hO5))
        refine bodyPost_ret (v := .tuple #[.agg #[.int .i64 (m : Int), .slice A2 (ofB (readF l).2).length c2, .int .i64 (n : Int), .slice A3 (ofB (readF r).2).length c3], .int .i64 1, .int .i64 0]) (results_cell3 (P := Try.prog) rfl _ _ g 100 _ (0, 0) _ rfl HB5.out.out Try.underlying100 rfl (by kernel_rfl) rfl rfl) rfl ?_
        rw [HRP.out]
        exact pair_end HL.out Hm.out Hn.out HS.out hg HB.out HW.out HB2.out HB3.out HO4.out HO5.out HV0.out HV1.out
      · have HS : Aside0 (slotF m n = 0) := ⟨by simp [slotF, hmz, hlt]⟩
        clear hmz
        go_enter Try.func47, Try.ntmps47
        go_wp2_with (first
          | (refine wl_alloc rfl rfl aggPair ?_; intro g w1 hB hg hw; have HB := Aside0.mk hB; have HW := Aside0.mk hw; clear hB hw)
          | (have _t := tok1; go_at_call 55; refine (read_any _ _ _ _ (Kd.C_below HR0.out HW.out)).mono ?_; rintro e w2 ⟨v0, rfl, hv, hb⟩; rw [← Hm.out]; have HV0 := Aside0.mk hv; obtain ⟨A2, c2, rfl, _, _⟩ := V_slice hv; have HB2 := Aside0.mk hb; clear hv hb tok1)
          | (go_at_call 55; refine (read_any _ _ _ _ (Kd.C_below HR1.out (HW.out.trans (HB2.out.mono HW.out.size)))).mono ?_; rintro e w3 ⟨v1, rfl, hv, hb⟩; rw [← Hn.out]; have HV1 := Aside0.mk hv; obtain ⟨A3, c3, rfl, _, _⟩ := V_slice hv; have HB3 := Aside0.mk hb; clear hv hb)
          | (have _t := tok2; refine wl_store_row rfl rfl aggPair rfl rfl ((HB.out.below HB2.out).below HB3.out) rfl rfl (by intro v hv; simp at hv; rcases hv with rfl | rfl | rfl | rfl <;> rfl) ?_; intro w4 hB4 hO4; have HB4 := Aside0.mk hB4; have HO4 := Aside0.mk hO4; have hc0 := hB4.cell 0; have hc2 := hB4.cell 2; simp at hc0 hc2; clear hB4 hO4 tok2)
          | (refine wl_load_row rfl rfl aggPair rfl HB4.out rfl ?_)
          | (refine wl_store_row rfl rfl aggPair rfl rfl HB4.out rfl rfl (by intro v hv; simp at hv; rcases hv with rfl | rfl | rfl | rfl <;> rfl) ?_; intro w5 hB5 hO5; have HB5 := Aside0.mk hB5; have HO5 := Aside0.mk hO5; clear hB5 hO5))
        refine bodyPost_ret (v := .tuple #[.agg #[.int .i64 (m : Int), .slice A2 (ofB (readF l).2).length c2, .int .i64 (n : Int), .slice A3 (ofB (readF r).2).length c3], .int .i64 0, .int .i64 0]) (results_cell3 (P := Try.prog) rfl _ _ g 100 _ (0, 0) _ rfl HB5.out.out Try.underlying100 rfl (by kernel_rfl) rfl rfl) rfl ?_
        rw [HRP.out]
        exact pair_end HL.out Hm.out Hn.out HS.out hg HB.out HW.out HB2.out HB3.out HO4.out HO5.out HV0.out HV1.out
  · have HRP : Aside0 (RetPair l r w = fun e w' => e = .returned (.tuple #[.agg zPair, .int .i64 (-1), .int .i64 2]) ∧ Below w.heap.size w w') := ⟨by funext e w'; unfold RetPair; rw [if_neg h]⟩
    obtain ⟨RP, hRP⟩ : ∃ RP, RP = RetPair l r w := ⟨_, rfl⟩
    rw [← hRP] at HRP ⊢
    clear hRP
    by_cases hl : l.length = 512
    · have h0 : ((((ofB l).length : Nat) : Int) != 512) = false := by rw [len_ofB, hl]; rfl
      have h1 : ((((ofB r).length : Nat) : Int) != 512) = true := by rw [len_ofB, bne_iff_ne]; omega
      clear h hl
      go_enter Try.func47, Try.ntmps47
      go_wp2_with (first
        | (refine wl_alloc rfl rfl aggPair ?_; intro g w1 hB hg hw; have HB := Aside0.mk hB; have HW := Aside0.mk hw; clear hB hw)
        | (refine wl_load_row rfl rfl aggPair rfl HB.out rfl ?_)
        | (refine wl_store_row rfl rfl aggPair rfl rfl HB.out rfl rfl (by decide) ?_; intro w5 hB5 hO5; have HB5 := Aside0.mk hB5; have HO5 := Aside0.mk hO5; clear hB5 hO5))
      refine bodyPost_ret (v := .tuple #[.agg zPair, .int .i64 (-1), .int .i64 2]) (results_cell3 (P := Try.prog) rfl _ _ g 100 _ (0, 0) _ rfl HB5.out.out Try.underlying100 rfl (by kernel_rfl) rfl rfl) rfl ?_
      rw [HRP.out]
      exact ⟨rfl, HW.out.trans (HO5.out.below hg)⟩
    · have h0 : ((((ofB l).length : Nat) : Int) != 512) = true := by rw [len_ofB, bne_iff_ne]; omega
      clear h hl
      go_enter Try.func47, Try.ntmps47
      go_wp2_with (first
        | (refine wl_alloc rfl rfl aggPair ?_; intro g w1 hB hg hw; have HB := Aside0.mk hB; have HW := Aside0.mk hw; clear hB hw)
        | (refine wl_load_row rfl rfl aggPair rfl HB.out rfl ?_)
        | (refine wl_store_row rfl rfl aggPair rfl rfl HB.out rfl rfl (by decide) ?_; intro w5 hB5 hO5; have HB5 := Aside0.mk hB5; have HO5 := Aside0.mk hO5; clear hB5 hO5))
      refine bodyPost_ret (v := .tuple #[.agg zPair, .int .i64 (-1), .int .i64 2]) (results_cell3 (P := Try.prog) rfl _ _ g 100 _ (0, 0) _ rfl HB5.out.out Try.underlying100 rfl (by kernel_rfl) rfl rfl) rfl ?_
      rw [HRP.out]
      exact ⟨rfl, HW.out.trans (HO5.out.below hg)⟩
end Go.Proofs
