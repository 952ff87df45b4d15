/- seal.Open by the walk: for every slice of bytes Open returns what the pure openF says, in new memory; nothing that was there turns. -/
import Derived.Test.YtgelippmcflppaaVSeal
open Go Go.RowKit Go.Proofs.YtgelippmcflppaaW.PrintWords Go.Proofs.YtgelippmcflppaaW.PrintMore
namespace Go.Proofs
open Go.Vel
/-- Each operation of a drawing region leaves its entry of a list. -/
def ListS (L : List Value) (i : Nat) (v : Value) (_ : World) : Prop := v = L.getD i undef
theorem bits_or_bytes (x y : UInt8) : bits .or .i64 (wrap64 (x.toNat : Int)) (wrap64 (wrap64 (y.toNat : Int) * 256)) = ((x.toNat + 256 * y.toNat : Nat) : Int) := by
  have hx := x.toNat_lt
  have hy := y.toNat_lt
  have e1 : wrap64 (x.toNat : Int) = ((x.toNat : Nat) : Int) := by unfold wrap64; omega
  have e2 : wrap64 (wrap64 (y.toNat : Int) * 256) = ((y.toNat * 256 : Nat) : Int) := by unfold wrap64; omega
  rw [e1, e2]
  show IntKind.i64.wrap ((BitVec.ofInt 64 ((x.toNat : Nat) : Int) ||| BitVec.ofInt 64 ((y.toNat * 256 : Nat) : Int)).toNat : Int) = _
  rw [BitVec.toNat_or]
  have f1 : (BitVec.ofInt 64 ((x.toNat : Nat) : Int)).toNat = x.toNat := by simp
  have f2 : (BitVec.ofInt 64 ((y.toNat * 256 : Nat) : Int)).toNat = y.toNat * 256 := by simp; omega
  rw [f1, f2, Nat.or_comm, Nat.mul_comm]
  have := Nat.two_pow_add_eq_or_of_lt (i := 8) hx y.toNat
  rw [show (256 : Nat) = 2 ^ 8 from rfl, ← this, IntKind.wrap_i64]
  omega
theorem openF_at {s : List UInt8} {x0 : UInt8} {n : Nat} (hl : s.length = 512) (h0 : x0 = s.getD 0 0) (hn : n = (s.getD 1 0).toNat + 256 * (s.getD 2 0).toNat) :
    openF s = if 2 < x0.toNat ∨ 504 < n then ([], 30) else if s = form x0 ((s.drop 7).take n) then ((s.drop 7).take n, 0) else ([], 30) := by
  subst h0 hn
  unfold openF
  rw [if_neg (fun h => h hl)]
theorem wl_slice3 {P : Program} {ops : Array Oper} {rest : List Oper} {o : Oper} {a : Act} {Q : Exit → Act → World → Prop} {w : World} (hg : o.guard = none) {T E : TypeId} {N : Nat} {x p q r : Operand} (ho : o.op = .slice T x (some p) (some q) (some r)) (hT : P.underlying T = some (.array N E)) (hE : (P.info? E).map (·.size) = some 1)
    {g lo n : Nat} {v : Int} (hx : a.eval x = .pointer (some ⟨g, 0, none⟩)) (hp : a.eval p = .int .i64 (lo : Int)) (hq : a.eval q = .int .i64 v) (hr : a.eval r = .int .i64 v) (hv : v = ((lo + n : Nat) : Int)) (hN : lo + n ≤ N)
    (h : ∀ f, (n = 0 ∧ f = 0 ∨ f = lo) → wpList P ops Q rest (a.put o.dst (.slice (some ⟨g, f, none⟩) n n)) w) : wpList P ops Q (o :: rest) a w := by
  subst hv
  refine wl_val hg ?_ (h (if n = 0 then 0 else lo) (by split <;> simp_all))
  cases hq2 : P.info? E with
  | none => rw [hq2] at hE; cases hE
  | some e2 =>
    have he : e2.size = 1 := by rw [hq2] at hE; simpa using hE
    simp only [execOp, ho, hx, hp, hq, hr, Option.map_some]
    have e1 : ∀ code, (Instr.sliceBound (.int .i64 ((lo + n : Nat) : Int)) N code).run P w = .ok (lo + n) w := fun code => by
      rw [run_sliceBound w .i64 _ N code (by omega) (by omega), Int.toNat_natCast]
    have e2 : ∀ code, (Instr.sliceBound (.int .i64 ((lo + n : Nat) : Int)) (lo + n) code).run P w = .ok (lo + n) w := fun code => by
      rw [run_sliceBound w .i64 _ (lo + n) code (by omega) (by omega), Int.toNat_natCast]
    have e3 : ∀ code, (Instr.sliceBound (.int .i64 (lo : Int)) (lo + n) code).run P w = .ok lo w := fun code => by
      rw [run_sliceBound w .i64 _ (lo + n) code (by omega) (by omega), Int.toNat_natCast]
    simp only [Instr.sliceAt, Sem.run_bind, run_underlying hT, Result.andThen_ok, Instr.sureAddr, Sem.run_pure, Instr.sliceBounds, e1, e2, e3, sizeOf, typeInfo]
    simp [hq2, he]
    by_cases h0 : n = 0
    · simp [h0]
    · simp [h0, Addr.add_lit]
theorem cell_below' {w w1 : World} {a : Addr} {v : Value} (h : Below w.heap.size w w1) (hc : w.cell? a = some v) : w1.cell? a = some v := cell_below h hc
section
variable {P : Program} {T : TypeId} {w : World}
theorem run_geq_u8 {x0 : UInt8} {b : Bool} (h : Aside0 (decide (3 ≤ x0.toNat) = b)) : (binOp .geq T (.int .u8 (x0.toNat : Int)) (.int .u8 3)).run P w = .ok (.bool b) w := by
  have : decide ((3 : Int) ≤ (x0.toNat : Int)) = b := by rw [← h.out]; congr 1; simp only [eq_iff_iff]; omega
  simp [binOp, Op.intCmp, this]
theorem run_gtr_i64 {n : Nat} {b : Bool} (h : Aside0 (decide (504 < n) = b)) : (binOp .gtr T (.int .i64 (n : Int)) (.int .i64 504)).run P w = .ok (.bool b) w := by
  have : decide ((504 : Int) < (n : Int)) = b := by rw [← h.out]; congr 1; simp only [eq_iff_iff]; omega
  simp [binOp, Op.intCmp, this]
theorem run_add7 {n : Nat} (h : n ≤ 504) : (binOp .add T (.int .i64 7) (.int .i64 (n : Int))).run P w = .ok (.int .i64 ((7 + n : Nat) : Int)) w := by
  have : IntKind.i64.wrap (7 + (n : Int)) = ((7 + n : Nat) : Int) := by rw [IntKind.wrap_i64]; omega
  simp [binOp, Op.intArith, this]
end
set_option maxHeartbeats 1000000 in
set_option maxRecDepth 100000 in
theorem open_any (w : World) (A0 : Option Addr) (c0 : Nat) (s : List UInt8) (hr0 : Kd.C (Kd.int .u8) w A0 (ofB s).length (ofB s)) :
    Calls Try.prog 50 #[.slice A0 (ofB s).length c0] w (Ret2 (ofB (openF s).1) (openF s).2 w) := by
  have HR0 := Aside0.mk hr0
  clear hr0
  by_cases ha : s.length = 512
  · have ha' : ((((ofB s).length : Nat) : Int) != 512) = false := by rw [len_ofB, ha]; rfl
    have hlb : 512 ≤ (ofB s).length := by rw [len_ofB, ha]; exact Nat.le_refl _
    have Ha := Aside0.mk ha
    clear ha
    obtain ⟨R, hR⟩ : ∃ R, R = openF s := ⟨_, rfl⟩
    rw [← hR]
    obtain ⟨x0, hx0⟩ : ∃ x, x = s.getD 0 0 := ⟨_, rfl⟩
    obtain ⟨x1, hx1⟩ : ∃ x, x = s.getD 1 0 := ⟨_, rfl⟩
    obtain ⟨x2, hx2⟩ : ∃ x, x = s.getD 2 0 := ⟨_, rfl⟩
    go_enter Try.func50, Try.ntmps50
    go_wp2_with (first
      | (refine wl_arrayPtr rfl rfl Try.underlying91 rfl hlb ?_)
      | (refine wl_load_bytes rfl rfl agg50 rfl HR0.out (by rw [Ha.out]; decide) (by rw [Ha.out]; decide) ?_)
      | (refine wl_alloc rfl rfl agg50 ?_; intro g w1 hB hg hw; have HB := Aside0.mk hB; have HW := Aside0.mk hw; clear hB hw)
      | (refine wl_store_row rfl rfl agg50 rfl rfl HB.out (by rw [size_bvs, size_bvs, Ha.out]; rfl) rfl (bvs_one _) ?_; intro w2 hB2 hO2; have HB2 := Aside0.mk hB2; have HO2 := Aside0.mk hO2; have hc0 : w2.cell? ⟨g, 0, none⟩ = some (.int .u8 (x0.toNat : Int)) := hx0 ▸ hB2.byte 0 (by rw [Ha.out]; decide); have hc1 : w2.cell? ⟨g, 1, none⟩ = some (.int .u8 (x1.toNat : Int)) := hx1 ▸ hB2.byte 1 (by rw [Ha.out]; decide); have hc2 : w2.cell? ⟨g, 2, none⟩ = some (.int .u8 (x2.toNat : Int)) := hx2 ▸ hB2.byte 2 (by rw [Ha.out]; decide); clear hB2 hO2))
    have eor := bits_or_bytes (s.getD 1 0) (s.getD 2 0)
    obtain ⟨n, hn⟩ : ∃ n, n = (s.getD 1 0).toNat + 256 * (s.getD 2 0).toNat := ⟨_, rfl⟩
    have eF := openF_at Ha.out hx0 hn
    rw [← hn, List.getD_eq_getElem?_getD, List.getD_eq_getElem?_getD] at eor
    rw [eor]
    generalize Value.int IntKind.u8 ((s[1]?.getD 0).toNat : Int) = t13
    generalize Value.int IntKind.i64 (wrap64 ((s[1]?.getD 0).toNat : Int)) = t14
    generalize Value.pointer (some { block := g, off := 2, spot := none }) = t15
    generalize Value.int IntKind.u8 ((s[2]?.getD 0).toNat : Int) = t16
    generalize Value.int IntKind.i64 (wrap64 ((s[2]?.getD 0).toNat : Int)) = t17
    generalize Value.int IntKind.i64 (wrap64 (wrap64 ((s[2]?.getD 0).toNat : Int) * 256)) = t18
    have HBB : Aside0 (Below w.heap.size w w2) := ⟨HW.out.trans (HO2.out.below hg)⟩
    clear eor hlb ha' hc1 hc2 hx1 hx2 HB hx0 hn
    rename Aside0 (Below w.heap.size w w2) => HB
    by_cases hA : 3 ≤ x0.toNat
    · rw [if_pos (Or.inl (show 2 < x0.toNat from hA))] at eF
      have eR := hR.trans eF
      clear hR
      subst eR
      have HB0 := Aside0.mk (decide_eq_true hA)
      clear hA eF
      refine wp_region_told 17 (fun w3 => Below w2.heap.size w2 w3) (ListS [.pointer (some ⟨g, 0, none⟩), .int .u8 (x0.toNat : Int), .bool true, .bool true, undef, undef, .bool true, .bool true, undef, undef, undef, undef, undef, undef, undef, undef, .bool true]) (by kernel_rfl) (by kernel_rfl) (by kernel_rfl) (Below.refl _ _).drew (fun _ _ _ _ _ h => h) ?_ ?_
      · intro i vals w1 hi hc hd
        have D : ∀ k, waitsAt _ i k = true → vals k = _ := fun k hw => hd k hw
        rcases i with _ | _ | _ | _ | _ | _ | _ | _ | _ | _ | _ | _ | _ | _ | _ | _ | _ | i
        rotate_right 1
        · exact absurd hi (Nat.not_lt.2 (Nat.le_add_left 17 i))
        · exact StepOK.atArr (T := 91) (x := .tmp 4) (y := .const (.int .i64 0)) (k := 0) (.free (by kernel_rfl)) hc (by kernel_rfl) (by kernel_rfl) ((look_miss (by kernel_rfl) (by kernel_rfl)).trans rfl) (look_const (by kernel_rfl)) (by kernel_rfl) rfl
        · exact StepOK.load (T := 5) (x := .tmp 20) (.free (by kernel_rfl)) hc rfl Try.underlying5 ((look_hit (k := 0) (by kernel_rfl) (by kernel_rfl)).trans (D 0 (by kernel_rfl))) (cell_below' hc hc0) rfl
        · exact StepOK.bin (op := .geq) (T := 5) (T2 := 5) (x := .tmp 21) (y := .const (.int .u8 3)) (.free (by kernel_rfl)) hc ((look_hit (k := 1) (by kernel_rfl) (by kernel_rfl)).trans (D 1 (by kernel_rfl))) (look_const (by kernel_rfl)) rfl (run_geq_u8 HB0) rfl
        · exact StepOK.move (x := .tmp 22) (.free (by kernel_rfl)) hc ((look_hit (k := 2) (by kernel_rfl) (by kernel_rfl)).trans (D 2 (by kernel_rfl))) rfl
        · exact StepOK.not (g := 3) (t := 23) (gd := some (3, false)) (by kernel_rfl) (b := false) (b' := true) rfl (by kernel_rfl) (by kernel_rfl) (by kernel_rfl) (D 3 (by kernel_rfl)) (by decide) rfl
        · exact StepOK.not (g := 3) (t := 23) (gd := some (3, false)) (by kernel_rfl) (b := false) (b' := true) rfl (by kernel_rfl) (by kernel_rfl) (by kernel_rfl) (D 3 (by kernel_rfl)) (by decide) rfl
        · exact StepOK.pick (b := true) (u := .bool true) (v := undef) (x := .tmp 23) (y := .const (.bool true)) (z := .tmp 25) (.free (by kernel_rfl)) hc ((look_hit (k := 3) (by kernel_rfl) (by kernel_rfl)).trans (D 3 (by kernel_rfl))) (look_const (by kernel_rfl)) ((look_hit (k := 5) (by kernel_rfl) (by kernel_rfl)).trans (D 5 (by kernel_rfl))) rfl
        · exact StepOK.move (x := .tmp 26) (.free (by kernel_rfl)) hc ((look_hit (k := 6) (by kernel_rfl) (by kernel_rfl)).trans (D 6 (by kernel_rfl))) rfl
        · exact StepOK.not (g := 7) (t := 27) (gd := some (7, false)) (by kernel_rfl) (b := false) (b' := true) rfl (by kernel_rfl) (by kernel_rfl) (by kernel_rfl) (D 7 (by kernel_rfl)) (by decide) rfl
        · exact StepOK.not (g := 7) (t := 27) (gd := some (7, false)) (by kernel_rfl) (b := false) (b' := true) rfl (by kernel_rfl) (by kernel_rfl) (by kernel_rfl) (D 7 (by kernel_rfl)) (by decide) rfl
        · exact StepOK.not (g := 7) (t := 27) (gd := some (7, false)) (by kernel_rfl) (b := false) (b' := true) rfl (by kernel_rfl) (by kernel_rfl) (by kernel_rfl) (D 7 (by kernel_rfl)) (by decide) rfl
        · exact StepOK.not (g := 7) (t := 27) (gd := some (7, false)) (by kernel_rfl) (b := false) (b' := true) rfl (by kernel_rfl) (by kernel_rfl) (by kernel_rfl) (D 7 (by kernel_rfl)) (by decide) rfl
        · exact StepOK.not (g := 7) (t := 27) (gd := some (7, false)) (by kernel_rfl) (b := false) (b' := true) rfl (by kernel_rfl) (by kernel_rfl) (by kernel_rfl) (D 7 (by kernel_rfl)) (by decide) rfl
        · exact StepOK.not (g := 7) (t := 27) (gd := some (7, false)) (by kernel_rfl) (b := false) (b' := true) rfl (by kernel_rfl) (by kernel_rfl) (by kernel_rfl) (D 7 (by kernel_rfl)) (by decide) rfl
        · exact StepOK.not (g := 7) (t := 27) (gd := some (7, false)) (by kernel_rfl) (b := false) (b' := true) rfl (by kernel_rfl) (by kernel_rfl) (by kernel_rfl) (D 7 (by kernel_rfl)) (by decide) rfl
        · exact StepOK.not (g := 7) (t := 27) (gd := some (7, false)) (by kernel_rfl) (b := false) (b' := true) rfl (by kernel_rfl) (by kernel_rfl) (by kernel_rfl) (D 7 (by kernel_rfl)) (by decide) rfl
        · exact StepOK.pick (b := true) (u := .bool true) (v := undef) (x := .tmp 27) (y := .const (.bool true)) (z := .tmp 35) (.free (by kernel_rfl)) hc ((look_hit (k := 7) (by kernel_rfl) (by kernel_rfl)).trans (D 7 (by kernel_rfl))) (look_const (by kernel_rfl)) ((look_hit (k := 15) (by kernel_rfl) (by kernel_rfl)).trans (D 15 (by kernel_rfl))) rfl
      · intro vals w3 hc hS
        refine wl_frame ⟨#[.slice A0 (ofB s).length c0, undef, .slice none 0 0, .int .i64 0, .pointer (some ⟨g, 0, none⟩), .int .i64 (n : Int), .slice A0 (ofB s).length c0, .int .i64 (ofB s).length, .bool false, .slice A0 (ofB s).length c0, .pointer A0, .agg (bvs s), .pointer (some ⟨g, 1, none⟩), t13, t14, t15, t16, t17, t18, .int .i64 (n : Int), vals 0, vals 1, vals 2, vals 3, vals 4, vals 5, vals 6, vals 7, vals 8, vals 9, vals 10, vals 11, vals 12, vals 13, vals 14, vals 15, vals 16, undef, undef, undef, undef, undef], []⟩ (by kernel_rfl) ?_
        have e16 : vals 16 = .bool true := hS 16 (by decide)
        rw [e16]
        clear e16 hS
        go_wp2
        go_ret2
        exact ⟨_, rfl, V_nil, HB.out.trans (hc.mono HB.out.size)⟩
    · by_cases hN : 504 < n
      · rw [if_pos (Or.inr hN)] at eF
        have eR := hR.trans eF
        clear hR
        subst eR
        have HB0 := Aside0.mk (decide_eq_false hA)
        have HB1 := Aside0.mk (decide_eq_true hN)
        clear hA hN eF
        refine wp_region_told 17 (fun w3 => Below w2.heap.size w2 w3) (ListS [.pointer (some ⟨g, 0, none⟩), .int .u8 (x0.toNat : Int), .bool false, .bool false, .int .i64 (n : Int), .bool true, .bool true, .bool true, undef, undef, undef, undef, undef, undef, undef, undef, .bool true]) (by kernel_rfl) (by kernel_rfl) (by kernel_rfl) (Below.refl _ _).drew (fun _ _ _ _ _ h => h) ?_ ?_
        · intro i vals w1 hi hc hd
          have D : ∀ k, waitsAt _ i k = true → vals k = _ := fun k hw => hd k hw
          rcases i with _ | _ | _ | _ | _ | _ | _ | _ | _ | _ | _ | _ | _ | _ | _ | _ | _ | i
          rotate_right 1
          · exact absurd hi (Nat.not_lt.2 (Nat.le_add_left 17 i))
          · exact StepOK.atArr (T := 91) (x := .tmp 4) (y := .const (.int .i64 0)) (k := 0) (.free (by kernel_rfl)) hc (by kernel_rfl) (by kernel_rfl) ((look_miss (by kernel_rfl) (by kernel_rfl)).trans rfl) (look_const (by kernel_rfl)) (by kernel_rfl) rfl
          · exact StepOK.load (T := 5) (x := .tmp 20) (.free (by kernel_rfl)) hc rfl Try.underlying5 ((look_hit (k := 0) (by kernel_rfl) (by kernel_rfl)).trans (D 0 (by kernel_rfl))) (cell_below' hc hc0) rfl
          · exact StepOK.bin (op := .geq) (T := 5) (T2 := 5) (x := .tmp 21) (y := .const (.int .u8 3)) (.free (by kernel_rfl)) hc ((look_hit (k := 1) (by kernel_rfl) (by kernel_rfl)).trans (D 1 (by kernel_rfl))) (look_const (by kernel_rfl)) rfl (run_geq_u8 HB0) rfl
          · exact StepOK.move (x := .tmp 22) (.free (by kernel_rfl)) hc ((look_hit (k := 2) (by kernel_rfl) (by kernel_rfl)).trans (D 2 (by kernel_rfl))) rfl
          · exact StepOK.move (x := .tmp 5) (.when (g := 3) (t := 23) (b := false) (by kernel_rfl) (by kernel_rfl) (by kernel_rfl) (by kernel_rfl) (D 3 (by kernel_rfl))) hc ((look_miss (by kernel_rfl) (by kernel_rfl)).trans rfl) rfl
          · exact StepOK.bin (op := .gtr) (T := 3) (T2 := 3) (x := .tmp 24) (y := .const (.int .i64 504)) (.when (g := 3) (t := 23) (b := false) (by kernel_rfl) (by kernel_rfl) (by kernel_rfl) (by kernel_rfl) (D 3 (by kernel_rfl))) hc ((look_hit (k := 4) (by kernel_rfl) (by kernel_rfl)).trans (D 4 (by kernel_rfl))) (look_const (by kernel_rfl)) rfl (run_gtr_i64 HB1) rfl
          · exact StepOK.pick (b := false) (u := .bool true) (v := .bool true) (x := .tmp 23) (y := .const (.bool true)) (z := .tmp 25) (.free (by kernel_rfl)) hc ((look_hit (k := 3) (by kernel_rfl) (by kernel_rfl)).trans (D 3 (by kernel_rfl))) (look_const (by kernel_rfl)) ((look_hit (k := 5) (by kernel_rfl) (by kernel_rfl)).trans (D 5 (by kernel_rfl))) rfl
          · exact StepOK.move (x := .tmp 26) (.free (by kernel_rfl)) hc ((look_hit (k := 6) (by kernel_rfl) (by kernel_rfl)).trans (D 6 (by kernel_rfl))) rfl
          · exact StepOK.not (g := 7) (t := 27) (gd := some (7, false)) (by kernel_rfl) (b := false) (b' := true) rfl (by kernel_rfl) (by kernel_rfl) (by kernel_rfl) (D 7 (by kernel_rfl)) (by decide) rfl
          · exact StepOK.not (g := 7) (t := 27) (gd := some (7, false)) (by kernel_rfl) (b := false) (b' := true) rfl (by kernel_rfl) (by kernel_rfl) (by kernel_rfl) (D 7 (by kernel_rfl)) (by decide) rfl
          · exact StepOK.not (g := 7) (t := 27) (gd := some (7, false)) (by kernel_rfl) (b := false) (b' := true) rfl (by kernel_rfl) (by kernel_rfl) (by kernel_rfl) (D 7 (by kernel_rfl)) (by decide) rfl
          · exact StepOK.not (g := 7) (t := 27) (gd := some (7, false)) (by kernel_rfl) (b := false) (b' := true) rfl (by kernel_rfl) (by kernel_rfl) (by kernel_rfl) (D 7 (by kernel_rfl)) (by decide) rfl
          · exact StepOK.not (g := 7) (t := 27) (gd := some (7, false)) (by kernel_rfl) (b := false) (b' := true) rfl (by kernel_rfl) (by kernel_rfl) (by kernel_rfl) (D 7 (by kernel_rfl)) (by decide) rfl
          · exact StepOK.not (g := 7) (t := 27) (gd := some (7, false)) (by kernel_rfl) (b := false) (b' := true) rfl (by kernel_rfl) (by kernel_rfl) (by kernel_rfl) (D 7 (by kernel_rfl)) (by decide) rfl
          · exact StepOK.not (g := 7) (t := 27) (gd := some (7, false)) (by kernel_rfl) (b := false) (b' := true) rfl (by kernel_rfl) (by kernel_rfl) (by kernel_rfl) (D 7 (by kernel_rfl)) (by decide) rfl
          · exact StepOK.not (g := 7) (t := 27) (gd := some (7, false)) (by kernel_rfl) (b := false) (b' := true) rfl (by kernel_rfl) (by kernel_rfl) (by kernel_rfl) (D 7 (by kernel_rfl)) (by decide) rfl
          · exact StepOK.pick (b := true) (u := .bool true) (v := undef) (x := .tmp 27) (y := .const (.bool true)) (z := .tmp 35) (.free (by kernel_rfl)) hc ((look_hit (k := 7) (by kernel_rfl) (by kernel_rfl)).trans (D 7 (by kernel_rfl))) (look_const (by kernel_rfl)) ((look_hit (k := 15) (by kernel_rfl) (by kernel_rfl)).trans (D 15 (by kernel_rfl))) rfl
        · intro vals w3 hc hS
          refine wl_frame ⟨#[.slice A0 (ofB s).length c0, undef, .slice none 0 0, .int .i64 0, .pointer (some ⟨g, 0, none⟩), .int .i64 (n : Int), .slice A0 (ofB s).length c0, .int .i64 (ofB s).length, .bool false, .slice A0 (ofB s).length c0, .pointer A0, .agg (bvs s), .pointer (some ⟨g, 1, none⟩), t13, t14, t15, t16, t17, t18, .int .i64 (n : Int), vals 0, vals 1, vals 2, vals 3, vals 4, vals 5, vals 6, vals 7, vals 8, vals 9, vals 10, vals 11, vals 12, vals 13, vals 14, vals 15, vals 16, undef, undef, undef, undef, undef], []⟩ (by kernel_rfl) ?_
          have e16 : vals 16 = .bool true := hS 16 (by decide)
          rw [e16]
          clear e16 hS
          go_wp2
          go_ret2
          exact ⟨_, rfl, V_nil, HB.out.trans (hc.mono HB.out.size)⟩
      · rw [if_neg (fun h => h.elim hA hN)] at eF
        have HB0 := Aside0.mk (decide_eq_false hA)
        have HB1 := Aside0.mk (decide_eq_false hN)
        have HN := Aside0.mk (Nat.le_of_not_lt hN)
        obtain ⟨d, hdd⟩ : ∃ d, d = decide (s ≠ form x0 ((s.drop 7).take n)) := ⟨_, rfl⟩
        have HF := Aside0.mk (hR.trans eF)
        clear hA hN eF hR
        refine wp_region_told 17 (fun w3 => Below w2.heap.size w2 w3) (ListS [.pointer (some ⟨g, 0, none⟩), .int .u8 (x0.toNat : Int), .bool false, .bool false, .int .i64 (n : Int), .bool false, .bool false, .bool false, .agg (bvs s), .pointer (some ⟨g, 0, none⟩), .int .u8 (x0.toNat : Int), .int .i64 (n : Int), .int .i64 ((7 + n : Nat) : Int), .slice (some ⟨g, 7, none⟩) n 505, .agg (bvs (form x0 ((s.drop 7).take n))), .bool d, .bool d]) (by kernel_rfl) (by kernel_rfl) (by kernel_rfl) (Below.refl _ _).drew (fun _ _ _ _ _ h => h) ?_ ?_
        · intro i vals w1 hi hc hd
          have D : ∀ k, waitsAt _ i k = true → vals k = _ := fun k hw => hd k hw
          rcases i with _ | _ | _ | _ | _ | _ | _ | _ | _ | _ | _ | _ | _ | _ | _ | _ | _ | i
          rotate_right 1
          · exact absurd hi (Nat.not_lt.2 (Nat.le_add_left 17 i))
          · exact StepOK.atArr (T := 91) (x := .tmp 4) (y := .const (.int .i64 0)) (k := 0) (.free (by kernel_rfl)) hc (by kernel_rfl) (by kernel_rfl) ((look_miss (by kernel_rfl) (by kernel_rfl)).trans rfl) (look_const (by kernel_rfl)) (by kernel_rfl) rfl
          · exact StepOK.load (T := 5) (x := .tmp 20) (.free (by kernel_rfl)) hc rfl Try.underlying5 ((look_hit (k := 0) (by kernel_rfl) (by kernel_rfl)).trans (D 0 (by kernel_rfl))) (cell_below' hc hc0) rfl
          · exact StepOK.bin (op := .geq) (T := 5) (T2 := 5) (x := .tmp 21) (y := .const (.int .u8 3)) (.free (by kernel_rfl)) hc ((look_hit (k := 1) (by kernel_rfl) (by kernel_rfl)).trans (D 1 (by kernel_rfl))) (look_const (by kernel_rfl)) rfl (run_geq_u8 HB0) rfl
          · exact StepOK.move (x := .tmp 22) (.free (by kernel_rfl)) hc ((look_hit (k := 2) (by kernel_rfl) (by kernel_rfl)).trans (D 2 (by kernel_rfl))) rfl
          · exact StepOK.move (x := .tmp 5) (.when (g := 3) (t := 23) (b := false) (by kernel_rfl) (by kernel_rfl) (by kernel_rfl) (by kernel_rfl) (D 3 (by kernel_rfl))) hc ((look_miss (by kernel_rfl) (by kernel_rfl)).trans rfl) rfl
          · exact StepOK.bin (op := .gtr) (T := 3) (T2 := 3) (x := .tmp 24) (y := .const (.int .i64 504)) (.when (g := 3) (t := 23) (b := false) (by kernel_rfl) (by kernel_rfl) (by kernel_rfl) (by kernel_rfl) (D 3 (by kernel_rfl))) hc ((look_hit (k := 4) (by kernel_rfl) (by kernel_rfl)).trans (D 4 (by kernel_rfl))) (look_const (by kernel_rfl)) rfl (run_gtr_i64 HB1) rfl
          · exact StepOK.pick (b := false) (u := .bool true) (v := .bool false) (x := .tmp 23) (y := .const (.bool true)) (z := .tmp 25) (.free (by kernel_rfl)) hc ((look_hit (k := 3) (by kernel_rfl) (by kernel_rfl)).trans (D 3 (by kernel_rfl))) (look_const (by kernel_rfl)) ((look_hit (k := 5) (by kernel_rfl) (by kernel_rfl)).trans (D 5 (by kernel_rfl))) rfl
          · exact StepOK.move (x := .tmp 26) (.free (by kernel_rfl)) hc ((look_hit (k := 6) (by kernel_rfl) (by kernel_rfl)).trans (D 6 (by kernel_rfl))) rfl
          · exact StepOK.loadRow (T := 91) (x := .tmp 4) (.when (g := 7) (t := 27) (b := false) (by kernel_rfl) (by kernel_rfl) (by kernel_rfl) (by kernel_rfl) (D 7 (by kernel_rfl))) hc agg50 ((look_miss (by kernel_rfl) (by kernel_rfl)).trans rfl) (HB2.out.below hc) (by rw [size_bvs, size_bvs, Ha.out]; rfl) rfl
          · exact StepOK.atArr (T := 91) (x := .tmp 4) (y := .const (.int .i64 0)) (k := 0) (.when (g := 7) (t := 27) (b := false) (by kernel_rfl) (by kernel_rfl) (by kernel_rfl) (by kernel_rfl) (D 7 (by kernel_rfl))) hc (by kernel_rfl) (by kernel_rfl) ((look_miss (by kernel_rfl) (by kernel_rfl)).trans rfl) (look_const (by kernel_rfl)) (by kernel_rfl) rfl
          · exact StepOK.load (T := 5) (x := .tmp 29) (.when (g := 7) (t := 27) (b := false) (by kernel_rfl) (by kernel_rfl) (by kernel_rfl) (by kernel_rfl) (D 7 (by kernel_rfl))) hc rfl Try.underlying5 ((look_hit (k := 9) (by kernel_rfl) (by kernel_rfl)).trans (D 9 (by kernel_rfl))) (cell_below' hc hc0) rfl
          · exact StepOK.move (x := .tmp 5) (.when (g := 7) (t := 27) (b := false) (by kernel_rfl) (by kernel_rfl) (by kernel_rfl) (by kernel_rfl) (D 7 (by kernel_rfl))) hc ((look_miss (by kernel_rfl) (by kernel_rfl)).trans rfl) rfl
          · exact StepOK.bin (op := .add) (T := 3) (T2 := 3) (x := .const (.int .i64 7)) (y := .tmp 31) (.when (g := 7) (t := 27) (b := false) (by kernel_rfl) (by kernel_rfl) (by kernel_rfl) (by kernel_rfl) (D 7 (by kernel_rfl))) hc (look_const (by kernel_rfl)) ((look_hit (k := 11) (by kernel_rfl) (by kernel_rfl)).trans (D 11 (by kernel_rfl))) rfl (run_add7 HN.out) rfl
          · exact StepOK.sliceArr (T := 91) (x := .tmp 4) (p := .const (.int .i64 7)) (q := .tmp 32) (lo := 7) (hi := 7 + n) (.when (g := 7) (t := 27) (b := false) (by kernel_rfl) (by kernel_rfl) (by kernel_rfl) (by kernel_rfl) (D 7 (by kernel_rfl))) hc (by kernel_rfl) (by kernel_rfl) ((look_miss (by kernel_rfl) (by kernel_rfl)).trans rfl) (look_const (by kernel_rfl)) ((look_hit (k := 12) (by kernel_rfl) (by kernel_rfl)).trans (D 12 (by kernel_rfl))) (Nat.le_add_right 7 n) (by have := HN.out; show 7 + n ≤ 512; omega) (by kernel_rfl) (by show Value.slice _ _ _ = _; rw [Nat.add_sub_cancel_left, Addr.add_lit]; rfl)
          · refine StepOK.call (f := 40) (xs := #[.tmp 30, .tmp 33]) (ts := #[5, 31]) (fn := Try.f40) (.when (g := 7) (t := 27) (b := false) (by kernel_rfl) (by kernel_rfl) (by kernel_rfl) (by kernel_rfl) (D 7 (by kernel_rfl))) (by kernel_rfl) (by kernel_rfl) rfl (look2 ((look_hit (k := 10) (by kernel_rfl) (by kernel_rfl)).trans (D 10 (by kernel_rfl))) ((look_hit (k := 13) (by kernel_rfl) (by kernel_rfl)).trans (D 13 (by kernel_rfl)))) ?_
            have hC := (HB2.out.below hc).C 7 n (by have := HN.out; rw [Ha.out]; omega) (by have := HN.out; omega)
            have hl : (ofB ((s.drop 7).take n)).length = n := by have := HN.out; rw [len_ofB, List.length_take, List.length_drop, Ha.out]; omega
            have hL := lay_any w1 (some ⟨g, 7, none⟩) 505 x0 ((s.drop 7).take n) (by rw [len_ofB] at hl; have := HN.out; omega) hC
            rw [hl] at hL
            refine Calls.mono hL ?_
            rintro _ w3 ⟨rfl, hb3⟩
            exact ⟨_, rfl, hb3, hc.trans (hb3.mono hc.size), rfl⟩
          · exact StepOK.bin (op := .neq) (T := 91) (T2 := 91) (x := .tmp 28) (y := .tmp 34) (.when (g := 7) (t := 27) (b := false) (by kernel_rfl) (by kernel_rfl) (by kernel_rfl) (by kernel_rfl) (D 7 (by kernel_rfl))) hc ((look_hit (k := 8) (by kernel_rfl) (by kernel_rfl)).trans (D 8 (by kernel_rfl))) ((look_hit (k := 14) (by kernel_rfl) (by kernel_rfl)).trans (D 14 (by kernel_rfl))) (run_eqGuard_bytes _ (by kernel_rfl) _ _ _ _) (run_neq_bytes _ Try.underlying91 Try.underlying5 size5 _ _ Ha.out (length_form _ (by have := HN.out; rw [List.length_take]; omega))) (by rw [← hdd]; rfl)
          · exact StepOK.pick (b := false) (u := .bool true) (v := .bool d) (x := .tmp 27) (y := .const (.bool true)) (z := .tmp 35) (.free (by kernel_rfl)) hc ((look_hit (k := 7) (by kernel_rfl) (by kernel_rfl)).trans (D 7 (by kernel_rfl))) (look_const (by kernel_rfl)) ((look_hit (k := 15) (by kernel_rfl) (by kernel_rfl)).trans (D 15 (by kernel_rfl))) rfl
        · intro vals w3 hc hS
          refine wl_frame ⟨#[.slice A0 (ofB s).length c0, undef, .slice none 0 0, .int .i64 0, .pointer (some ⟨g, 0, none⟩), .int .i64 (n : Int), .slice A0 (ofB s).length c0, .int .i64 (ofB s).length, .bool false, .slice A0 (ofB s).length c0, .pointer A0, .agg (bvs s), .pointer (some ⟨g, 1, none⟩), t13, t14, t15, t16, t17, t18, .int .i64 (n : Int), vals 0, vals 1, vals 2, vals 3, vals 4, vals 5, vals 6, vals 7, vals 8, vals 9, vals 10, vals 11, vals 12, vals 13, vals 14, vals 15, vals 16, undef, undef, undef, undef, undef], []⟩ (by kernel_rfl) ?_
          have e16 : vals 16 = .bool d := hS 16 (by decide)
          rw [e16]
          clear e16 hS
          have hs := @of_decide_eq_true (s ≠ form x0 ((s.drop 7).take n)) inferInstance
          have hs2 := @of_decide_eq_false (s ≠ form x0 ((s.drop 7).take n)) inferInstance
          have hR := HF.out
          cases d
          · rw [if_pos (Decidable.not_not.1 (hs2 hdd.symm))] at hR
            subst hR
            have hn5 : (n : Int) ≤ 504 := by have := HN.out; omega
            clear hs hs2 hdd HB0 HB1 HF
            go_wp2_with (refine wl_slice3 (lo := 7) (n := n) rfl rfl Try.underlying91 size5 rfl rfl rfl rfl (by omega) (by have := HN.out; show 7 + n ≤ 512; omega) ?_; intro f hf; have HFo := Aside0.mk hf; clear hf)
            go_ret2
            refine ⟨_, rfl, ?_, HB.out.trans (hc.mono HB.out.size)⟩
            refine V_of_blk (HB2.out.below hc) hg f n n ?_ (by have := HN.out; omega) (Nat.le_refl _) ?_
            · have := HN.out; have := HFo.out; rw [Ha.out]; omega
            · rcases HFo.out with ⟨h0, hf⟩ | hf
              · rw [h0, hf]; rfl
              · rw [hf]
          · rw [if_neg (hs hdd.symm)] at hR
            subst hR
            clear hs hs2 hdd
            go_wp2
            go_ret2
            exact ⟨_, rfl, V_nil, HB.out.trans (hc.mono HB.out.size)⟩
  · have e : openF s = ([], 2) := by simp [openF, ha]
    rw [e]
    have ha' : ((((ofB s).length : Nat) : Int) != 512) = true := by rw [len_ofB, bne_iff_ne]; omega
    clear ha e
    go_enter Try.func50, Try.ntmps50
    go_wp2
    go_ret2
    exact ⟨_, rfl, V_nil, Below.refl _ _⟩
end Go.Proofs
