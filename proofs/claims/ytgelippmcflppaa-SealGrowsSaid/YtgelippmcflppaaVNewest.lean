/- seal.Newest by the walk. -/
import Derived.Test.YtgelippmcflppaaVPair
import Derived.StillTailTactics
open Go Go.RowKit Go.Proofs.YtgelippmcflppaaW.PrintWords Go.Proofs.YtgelippmcflppaaW.PrintMore
namespace Go.Proofs
open Go.Vel
/-- Slot, number, data, error. -/
def newestF (l r : List UInt8) : Nat × Nat × List UInt8 × Nat :=
  if l.length = 512 ∧ r.length = 512 then
    if (readF l).1 = 0 ∧ (readF r).1 = 0 then (0, 0, [], 30) else if (readF l).1 < (readF r).1 then (1, (readF r).1, (readF r).2, 0) else (0, (readF l).1, (readF l).2, 0)
  else (0, 0, [], 2)
def Ret4 (a b : Int) (d : List Int) (n : Int) (w : World) (e : Ending) (w' : World) : Prop :=
  ∃ v : Value, e = .returned (.tuple #[.int .i64 a, .int .i64 b, v, .int .i64 n]) ∧ Kd.V (Kd.int .u8) 5 w' w.heap.size (fun k_ => (w.heap.size ≤ k_)) v d ∧ Below w.heap.size w w'
theorem results_tmp4 {P : Program} {fn : Func} {p q r t : Tmp} (h : fn.results = #[.tmp p, .tmp q, .tmp r, .tmp t]) (tmps : Array Value) (w : World) {a b c d : Value} (ha : tmps.getD p undef = a) (hb : tmps.getD q undef = b) (hc : tmps.getD r undef = c) (hd : tmps.getD t undef = d) :
    (results fn tmps).run P w = .ok (.tuple #[a, b, c, d]) w := by
  have ha' : tmps[p]?.getD undef = a := by simpa using ha
  have hb' : tmps[q]?.getD undef = b := by simpa using hb
  have hc' : tmps[r]?.getD undef = c := by simpa using hc
  have hd' : tmps[t]?.getD undef = d := by simpa using hd
  simp [results, h, ha', hb', hc', hd']
theorem fld0 (g k : Nat) (w : World) : ((Instr.fieldAt 99 (.pointer (some ⟨g, k, none⟩)) 0).run Try.prog w).andThen (fun a w' => .ok (.value a) w') = .ok (Next.value (.pointer (some ⟨g, k, none⟩))) w := by
  simp [Instr.fieldAt, run_underlying Try.underlying99, Instr.sureAddr, fieldPlace, Addr.add_lit]
theorem fld1 (g k : Nat) (w : World) : ((Instr.fieldAt 99 (.pointer (some ⟨g, k, none⟩)) 1).run Try.prog w).andThen (fun a w' => .ok (.value a) w') = .ok (Next.value (.pointer (some ⟨g, k + 1, none⟩))) w := by
  simp [Instr.fieldAt, run_underlying Try.underlying99, Instr.sureAddr, fieldPlace, Addr.add_lit]
set_option maxHeartbeats 1000000 in
set_option maxRecDepth 100000 in
theorem newest_any (w : World) (A0 : Option Addr) (c0 : Nat) (l : List UInt8) (A1 : Option Addr) (c1 : Nat) (r : List UInt8) (hr0 : Kd.C (Kd.int .u8) w A0 (ofB l).length (ofB l)) (hr1 : Kd.C (Kd.int .u8) w A1 (ofB r).length (ofB r)) :
    Calls Try.prog 37 #[.slice A0 (ofB l).length c0, .slice A1 (ofB r).length c1] w (Ret4 (newestF l r).1 (newestF l r).2.1 (ofB (newestF l r).2.2.1) (newestF l r).2.2.2 w) := by
  have HP := Aside0.mk (pair_any w A0 c0 l A1 c1 r hr0 hr1)
  clear hr0 hr1
  by_cases h : l.length = 512 ∧ r.length = 512
  · have e0 : RetPair l r w = fun e w' => ∃ v0 v1 : Value, e = .returned (.tuple #[.agg #[.int .i64 (readF l).1, v0, .int .i64 (readF r).1, v1], .int .i64 (slotF (readF l).1 (readF r).1), .int .i64 0]) ∧ isV w' w v0 (readF l).2 ∧ isV w' w v1 (readF r).2 ∧ Below w.heap.size w w' := by
      funext e w'; unfold RetPair; rw [if_pos h]
    rw [e0] at HP
    obtain ⟨m, hm⟩ : ∃ m, m = (readF l).1 := ⟨_, rfl⟩
    obtain ⟨n, hn⟩ : ∃ n, n = (readF r).1 := ⟨_, rfl⟩
    by_cases hz : m = 0 ∧ n = 0
    · have eF : newestF l r = (0, 0, [], 30) := by unfold newestF; rw [if_pos h, ← hm, ← hn, if_pos hz]
      have eS : slotF (readF l).1 (readF r).1 = -1 := by rw [← hm, ← hn]; simp [slotF, hz]
      rw [eF]
      rw [eS] at HP
      clear eF eS hz hm hn e0
      go_enter Try.func37, Try.ntmps37
      go_wp2_with (first
        | (go_at_call 47; refine HP.out.mono ?_; rintro e w1 ⟨v0, v1, rfl, hv0, hv1, hb⟩; have HV0 := Aside0.mk hv0; have HV1 := Aside0.mk hv1; obtain ⟨A2, c2, rfl, _, _⟩ := V_slice hv0; obtain ⟨A3, c3, rfl, _, _⟩ := V_slice hv1; have HB1 := Aside0.mk hb; clear hv0 hv1 hb)
        | (refine wl_alloc rfl rfl aggPair ?_; intro g w2 hB hg hw; have HB := Aside0.mk hB; have HW := Aside0.mk hw; clear hB hw)
        | (refine wl_store_row rfl rfl aggPair rfl rfl HB.out rfl rfl (by intro v hv; simp at hv; rcases hv with rfl | rfl | rfl | rfl <;> rfl) ?_; intro w4 hB4 hO4; have HB4 := Aside0.mk hB4; have HO4 := Aside0.mk hO4; have hc0 := hB4.cell 0; have hc1 := hB4.cell 1; have hc2 := hB4.cell 2; have hc3 := hB4.cell 3; simp at hc0 hc1 hc2 hc3; clear hB4 hO4))
      exact bodyPost_ret (v := .tuple #[.int .i64 0, .int .i64 0, .slice none 0 0, .int .i64 30]) (results_tmp4 rfl _ _ rfl rfl rfl rfl) rfl ⟨_, rfl, V_nil, (HB1.out.trans (HW.out.mono HB1.out.size)).trans (HO4.out.below (Nat.le_trans HB1.out.size hg))⟩
    · by_cases hlt : m < n
      · have eF : newestF l r = (1, n, (readF r).2, 0) := by unfold newestF; rw [if_pos h, ← hm, ← hn, if_neg hz, if_pos hlt]
        have eS : slotF (readF l).1 (readF r).1 = 1 := by rw [← hm, ← hn]; simp only [slotF]; rw [if_neg hz, if_pos hlt]
        rw [eF]
        rw [eS, ← hm, ← hn] at HP
        clear eF eS hz hm hn e0 hlt
        go_enter Try.func37, Try.ntmps37
        go_wp2_with (first
          | (go_at_call 47; refine HP.out.mono ?_; rintro e w1 ⟨v0, v1, rfl, hv0, hv1, hb⟩; have HV0 := Aside0.mk hv0; have HV1 := Aside0.mk hv1; obtain ⟨A2, c2, rfl, _, _⟩ := V_slice hv0; obtain ⟨A3, c3, rfl, _, _⟩ := V_slice hv1; have HB1 := Aside0.mk hb; clear hv0 hv1 hb)
          | (refine wl_alloc rfl rfl aggPair ?_; intro g w2 hB hg hw; have HB := Aside0.mk hB; have HW := Aside0.mk hw; clear hB hw)
          | (refine wl_store_row rfl rfl aggPair rfl rfl HB.out rfl rfl (by intro v hv; simp at hv; rcases hv with rfl | rfl | rfl | rfl <;> rfl) ?_; intro w4 hB4 hO4; have HB4 := Aside0.mk hB4; have HO4 := Aside0.mk hO4; have hc0 := hB4.cell 0; have hc1 := hB4.cell 1; have hc2 := hB4.cell 2; have hc3 := hB4.cell 3; simp at hc0 hc1 hc2 hc3; clear hB4 hO4))
        refine wp_region_told 13 (fun w3 => Below w4.heap.size w4 w3) (ListS [.int .i64 1, .int .i64 1, .pointer (some ⟨g, 2, none⟩), .pointer (some ⟨g, 2, none⟩), .int .i64 (n : Int), .int .i64 1, .pointer (some ⟨g, 2, none⟩), .pointer (some ⟨g, 3, none⟩), .slice A3 (ofB (readF r).2).length c3, .int .i64 1, .int .i64 (n : Int), .slice A3 (ofB (readF r).2).length c3, .int .i64 0]) (by kernel_rfl) (by kernel_rfl) (by kernel_rfl) (Below.refl _ _).drew (fun _ _ _ _ _ h => h) ?_ ?_
        · intro i vals w1 hi hc hd
          have D : ∀ k, waitsAt _ i k = true → vals k = _ := fun k hw => hd k hw
          rcases i with _ | _ | _ | _ | _ | _ | _ | _ | _ | _ | _ | _ | _ | i
          rotate_right 1
          · exact absurd hi (Nat.not_lt.2 (Nat.le_add_left 13 i))
          · exact StepOK.move (x := .tmp 9) (.free (by kernel_rfl)) hc ((look_miss (by kernel_rfl) (by kernel_rfl)).trans rfl) rfl
          · exact StepOK.move (x := .tmp 9) (.free (by kernel_rfl)) hc ((look_miss (by kernel_rfl) (by kernel_rfl)).trans rfl) rfl
          · exact StepOK.atArrN (T := 100) (x := .tmp 8) (y := .tmp 26) (k := 1) (sz := 2) (g := g) (.free (by kernel_rfl)) hc (by kernel_rfl) (by kernel_rfl) ((look_miss (by kernel_rfl) (by kernel_rfl)).trans rfl) ((look_hit (k := 1) (by kernel_rfl) (by kernel_rfl)).trans (D 1 (by kernel_rfl))) (by kernel_rfl) rfl
          · exact StepOK.fieldP (T := 99) (x := .tmp 27) (f := 0) (g := g) (k := 2) (k' := 2) (.free (by kernel_rfl)) hc ((look_hit (k := 2) (by kernel_rfl) (by kernel_rfl)).trans (D 2 (by kernel_rfl))) (fld0 g 2 w1) rfl
          · exact StepOK.load (T := 3) (x := .tmp 28) (.free (by kernel_rfl)) hc rfl Try.underlying3 ((look_hit (k := 3) (by kernel_rfl) (by kernel_rfl)).trans (D 3 (by kernel_rfl))) (cell_below hc hc2) rfl
          · exact StepOK.move (x := .tmp 9) (.free (by kernel_rfl)) hc ((look_miss (by kernel_rfl) (by kernel_rfl)).trans rfl) rfl
          · exact StepOK.atArrN (T := 100) (x := .tmp 8) (y := .tmp 30) (k := 1) (sz := 2) (g := g) (.free (by kernel_rfl)) hc (by kernel_rfl) (by kernel_rfl) ((look_miss (by kernel_rfl) (by kernel_rfl)).trans rfl) ((look_hit (k := 5) (by kernel_rfl) (by kernel_rfl)).trans (D 5 (by kernel_rfl))) (by kernel_rfl) rfl
          · exact StepOK.fieldP (T := 99) (x := .tmp 31) (f := 1) (g := g) (k := 2) (k' := 3) (.free (by kernel_rfl)) hc ((look_hit (k := 6) (by kernel_rfl) (by kernel_rfl)).trans (D 6 (by kernel_rfl))) (fld1 g 2 w1) rfl
          · exact StepOK.load (T := 31) (x := .tmp 32) (.free (by kernel_rfl)) hc rfl Try.underlying31 ((look_hit (k := 7) (by kernel_rfl) (by kernel_rfl)).trans (D 7 (by kernel_rfl))) (cell_below hc hc3) rfl
          · exact StepOK.assign (x := .tmp 25) (.free (by kernel_rfl)) hc ((look_hit (k := 0) (by kernel_rfl) (by kernel_rfl)).trans (D 0 (by kernel_rfl))) rfl
          · exact StepOK.assign (x := .tmp 29) (.free (by kernel_rfl)) hc ((look_hit (k := 4) (by kernel_rfl) (by kernel_rfl)).trans (D 4 (by kernel_rfl))) rfl
          · exact StepOK.assign (x := .tmp 33) (.free (by kernel_rfl)) hc ((look_hit (k := 8) (by kernel_rfl) (by kernel_rfl)).trans (D 8 (by kernel_rfl))) rfl
          · exact StepOK.assign (x := .const (.int .i64 0)) (.free (by kernel_rfl)) hc (look_const (by kernel_rfl)) rfl
        · intro vals w3 hc hS
          have f4 : vals 9 = .int .i64 1 := hS 9 (by decide)
          have f5 : vals 10 = .int .i64 (n : Int) := hS 10 (by decide)
          have f6 : vals 11 = .slice A3 (ofB (readF r).2).length c3 := hS 11 (by decide)
          have f7 : vals 12 = .int .i64 0 := hS 12 (by decide)
          refine wl_frame ⟨#[.slice A0 (ofB l).length c0, .slice A1 (ofB r).length c1, undef, undef, vals 9, vals 10, vals 11, vals 12, .pointer (some ⟨g, 0, none⟩), .int .i64 1, .int .i64 0, .tuple #[.agg #[.int .i64 (m : Int), .slice A2 (ofB (readF l).2).length c2, .int .i64 (n : Int), .slice A3 (ofB (readF r).2).length c3], .int .i64 1, .int .i64 0], .slice A0 (ofB l).length c0, .slice A1 (ofB r).length c1, .tuple #[.agg #[.int .i64 (m : Int), .slice A2 (ofB (readF l).2).length c2, .int .i64 (n : Int), .slice A3 (ofB (readF r).2).length c3], .int .i64 1, .int .i64 0], .agg #[.int .i64 (m : Int), .slice A2 (ofB (readF l).2).length c2, .int .i64 (n : Int), .slice A3 (ofB (readF r).2).length c3], .int .i64 1, .int .i64 0, .bool false, .int .i64 0, .bool false, undef, .bool false, .int .i64 1, .bool false, vals 0, vals 1, vals 2, vals 3, vals 4, vals 5, vals 6, vals 7, vals 8], []⟩ (by kernel_rfl) ?_
          rw [f4, f5, f6, f7]
          go_wp2
          refine bodyPost_ret (v := .tuple #[.int .i64 1, .int .i64 (n : Int), .slice A3 (ofB (readF r).2).length c3, .int .i64 0]) (results_tmp4 rfl _ _ rfl rfl rfl rfl) rfl ?_
          · exact ⟨_, rfl, V_move HV1.out (fun k hk hlt => ⟨hk, by have h1 := HW.out.size; have h2 := HO4.out.size; have h3 := hc.size; omega, by rw [hc.block k (by have h1 := HW.out.size; have h2 := HO4.out.size; omega), HO4.out.block k (by omega), HW.out.block k hlt]⟩), ((HB1.out.trans (HW.out.mono HB1.out.size)).trans (HO4.out.below (Nat.le_trans HB1.out.size hg))).trans (hc.mono (by have h0 := HB1.out.size; have h1 := HW.out.size; have h2 := HO4.out.size; omega))⟩
      · have eF : newestF l r = (0, m, (readF l).2, 0) := by unfold newestF; rw [if_pos h, ← hm, ← hn, if_neg hz, if_neg hlt]
        have eS : slotF (readF l).1 (readF r).1 = 0 := by rw [← hm, ← hn]; simp only [slotF]; rw [if_neg hz, if_neg hlt]
        rw [eF]
        rw [eS, ← hm, ← hn] at HP
        clear eF eS hz hm hn e0 hlt
        go_enter Try.func37, Try.ntmps37
        go_wp2_with (first
          | (go_at_call 47; refine HP.out.mono ?_; rintro e w1 ⟨v0, v1, rfl, hv0, hv1, hb⟩; have HV0 := Aside0.mk hv0; have HV1 := Aside0.mk hv1; obtain ⟨A2, c2, rfl, _, _⟩ := V_slice hv0; obtain ⟨A3, c3, rfl, _, _⟩ := V_slice hv1; have HB1 := Aside0.mk hb; clear hv0 hv1 hb)
          | (refine wl_alloc rfl rfl aggPair ?_; intro g w2 hB hg hw; have HB := Aside0.mk hB; have HW := Aside0.mk hw; clear hB hw)
          | (refine wl_store_row rfl rfl aggPair rfl rfl HB.out rfl rfl (by intro v hv; simp at hv; rcases hv with rfl | rfl | rfl | rfl <;> rfl) ?_; intro w4 hB4 hO4; have HB4 := Aside0.mk hB4; have HO4 := Aside0.mk hO4; have hc0 := hB4.cell 0; have hc1 := hB4.cell 1; have hc2 := hB4.cell 2; have hc3 := hB4.cell 3; simp at hc0 hc1 hc2 hc3; clear hB4 hO4))
        refine wp_region_told 13 (fun w3 => Below w4.heap.size w4 w3) (ListS [.int .i64 0, .int .i64 0, .pointer (some ⟨g, 0, none⟩), .pointer (some ⟨g, 0, none⟩), .int .i64 (m : Int), .int .i64 0, .pointer (some ⟨g, 0, none⟩), .pointer (some ⟨g, 1, none⟩), .slice A2 (ofB (readF l).2).length c2, .int .i64 0, .int .i64 (m : Int), .slice A2 (ofB (readF l).2).length c2, .int .i64 0]) (by kernel_rfl) (by kernel_rfl) (by kernel_rfl) (Below.refl _ _).drew (fun _ _ _ _ _ h => h) ?_ ?_
        · intro i vals w1 hi hc hd
          have D : ∀ k, waitsAt _ i k = true → vals k = _ := fun k hw => hd k hw
          rcases i with _ | _ | _ | _ | _ | _ | _ | _ | _ | _ | _ | _ | _ | i
          rotate_right 1
          · exact absurd hi (Nat.not_lt.2 (Nat.le_add_left 13 i))
          · exact StepOK.move (x := .tmp 9) (.free (by kernel_rfl)) hc ((look_miss (by kernel_rfl) (by kernel_rfl)).trans rfl) rfl
          · exact StepOK.move (x := .tmp 9) (.free (by kernel_rfl)) hc ((look_miss (by kernel_rfl) (by kernel_rfl)).trans rfl) rfl
          · exact StepOK.atArrN (T := 100) (x := .tmp 8) (y := .tmp 26) (k := 0) (sz := 2) (g := g) (.free (by kernel_rfl)) hc (by kernel_rfl) (by kernel_rfl) ((look_miss (by kernel_rfl) (by kernel_rfl)).trans rfl) ((look_hit (k := 1) (by kernel_rfl) (by kernel_rfl)).trans (D 1 (by kernel_rfl))) (by kernel_rfl) rfl
          · exact StepOK.fieldP (T := 99) (x := .tmp 27) (f := 0) (g := g) (k := 0) (k' := 0) (.free (by kernel_rfl)) hc ((look_hit (k := 2) (by kernel_rfl) (by kernel_rfl)).trans (D 2 (by kernel_rfl))) (fld0 g 0 w1) rfl
          · exact StepOK.load (T := 3) (x := .tmp 28) (.free (by kernel_rfl)) hc rfl Try.underlying3 ((look_hit (k := 3) (by kernel_rfl) (by kernel_rfl)).trans (D 3 (by kernel_rfl))) (cell_below hc hc0) rfl
          · exact StepOK.move (x := .tmp 9) (.free (by kernel_rfl)) hc ((look_miss (by kernel_rfl) (by kernel_rfl)).trans rfl) rfl
          · exact StepOK.atArrN (T := 100) (x := .tmp 8) (y := .tmp 30) (k := 0) (sz := 2) (g := g) (.free (by kernel_rfl)) hc (by kernel_rfl) (by kernel_rfl) ((look_miss (by kernel_rfl) (by kernel_rfl)).trans rfl) ((look_hit (k := 5) (by kernel_rfl) (by kernel_rfl)).trans (D 5 (by kernel_rfl))) (by kernel_rfl) rfl
          · exact StepOK.fieldP (T := 99) (x := .tmp 31) (f := 1) (g := g) (k := 0) (k' := 1) (.free (by kernel_rfl)) hc ((look_hit (k := 6) (by kernel_rfl) (by kernel_rfl)).trans (D 6 (by kernel_rfl))) (fld1 g 0 w1) rfl
          · exact StepOK.load (T := 31) (x := .tmp 32) (.free (by kernel_rfl)) hc rfl Try.underlying31 ((look_hit (k := 7) (by kernel_rfl) (by kernel_rfl)).trans (D 7 (by kernel_rfl))) (cell_below hc hc1) rfl
          · exact StepOK.assign (x := .tmp 25) (.free (by kernel_rfl)) hc ((look_hit (k := 0) (by kernel_rfl) (by kernel_rfl)).trans (D 0 (by kernel_rfl))) rfl
          · exact StepOK.assign (x := .tmp 29) (.free (by kernel_rfl)) hc ((look_hit (k := 4) (by kernel_rfl) (by kernel_rfl)).trans (D 4 (by kernel_rfl))) rfl
          · exact StepOK.assign (x := .tmp 33) (.free (by kernel_rfl)) hc ((look_hit (k := 8) (by kernel_rfl) (by kernel_rfl)).trans (D 8 (by kernel_rfl))) rfl
          · exact StepOK.assign (x := .const (.int .i64 0)) (.free (by kernel_rfl)) hc (look_const (by kernel_rfl)) rfl
        · intro vals w3 hc hS
          have f4 : vals 9 = .int .i64 0 := hS 9 (by decide)
          have f5 : vals 10 = .int .i64 (m : Int) := hS 10 (by decide)
          have f6 : vals 11 = .slice A2 (ofB (readF l).2).length c2 := hS 11 (by decide)
          have f7 : vals 12 = .int .i64 0 := hS 12 (by decide)
          refine wl_frame ⟨#[.slice A0 (ofB l).length c0, .slice A1 (ofB r).length c1, undef, undef, vals 9, vals 10, vals 11, vals 12, .pointer (some ⟨g, 0, none⟩), .int .i64 0, .int .i64 0, .tuple #[.agg #[.int .i64 (m : Int), .slice A2 (ofB (readF l).2).length c2, .int .i64 (n : Int), .slice A3 (ofB (readF r).2).length c3], .int .i64 0, .int .i64 0], .slice A0 (ofB l).length c0, .slice A1 (ofB r).length c1, .tuple #[.agg #[.int .i64 (m : Int), .slice A2 (ofB (readF l).2).length c2, .int .i64 (n : Int), .slice A3 (ofB (readF r).2).length c3], .int .i64 0, .int .i64 0], .agg #[.int .i64 (m : Int), .slice A2 (ofB (readF l).2).length c2, .int .i64 (n : Int), .slice A3 (ofB (readF r).2).length c3], .int .i64 0, .int .i64 0, .bool false, .int .i64 0, .bool false, undef, .bool false, .int .i64 0, .bool false, vals 0, vals 1, vals 2, vals 3, vals 4, vals 5, vals 6, vals 7, vals 8], []⟩ (by kernel_rfl) ?_
          rw [f4, f5, f6, f7]
          go_wp2
          refine bodyPost_ret (v := .tuple #[.int .i64 0, .int .i64 (m : Int), .slice A2 (ofB (readF l).2).length c2, .int .i64 0]) (results_tmp4 rfl _ _ rfl rfl rfl rfl) rfl ?_
          · exact ⟨_, rfl, V_move HV0.out (fun k hk hlt => ⟨hk, by have h1 := HW.out.size; have h2 := HO4.out.size; have h3 := hc.size; omega, by rw [hc.block k (by have h1 := HW.out.size; have h2 := HO4.out.size; omega), HO4.out.block k (by omega), HW.out.block k hlt]⟩), ((HB1.out.trans (HW.out.mono HB1.out.size)).trans (HO4.out.below (Nat.le_trans HB1.out.size hg))).trans (hc.mono (by have h0 := HB1.out.size; have h1 := HW.out.size; have h2 := HO4.out.size; omega))⟩
  · have e0 : RetPair l r w = fun e w' => e = .returned (.tuple #[.agg zPair, .int .i64 (-1), .int .i64 2]) ∧ Below w.heap.size w w' := by
      funext e w'; unfold RetPair; rw [if_neg h]
    rw [e0] at HP
    have eF : newestF l r = (0, 0, [], 2) := by unfold newestF; rw [if_neg h]
    rw [eF]
    clear eF e0 h
    go_enter Try.func37, Try.ntmps37
    go_wp2_with (first
      | (go_at_call 47; refine HP.out.mono ?_; rintro e w1 ⟨rfl, hb⟩; have HB1 := Aside0.mk hb; clear hb)
      | (refine wl_alloc rfl rfl aggPair ?_; intro g w2 hB hg hw; have HB := Aside0.mk hB; have HW := Aside0.mk hw; clear hB hw)
      | (refine wl_store_row rfl rfl aggPair rfl rfl HB.out rfl rfl (by decide) ?_; intro w4 hB4 hO4; have HB4 := Aside0.mk hB4; have HO4 := Aside0.mk hO4; clear hB4 hO4))
    exact bodyPost_ret (v := .tuple #[.int .i64 0, .int .i64 0, .slice none 0 0, .int .i64 2]) (results_tmp4 rfl _ _ rfl rfl rfl rfl) rfl ⟨_, rfl, V_nil, (HB1.out.trans (HW.out.mono HB1.out.size)).trans (HO4.out.below (Nat.le_trans HB1.out.size hg))⟩
end Go.Proofs
