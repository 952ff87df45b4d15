/- Scripts are played alike on both disks. -/
import Derived.Test.YtefmefimhiedfaaHLaw1c
open Go Go.RowKit Go.Proofs.YtefmefimhiedfaaW.PrintWords Go.Proofs.YtefmefimhiedfaaW.PrintMore
namespace Go.Proofs
open Go.Vel
set_option linter.unusedVariables false
set_option maxRecDepth 100000
set_option maxHeartbeats 4000000
attribute [local irreducible] gives wpList Code.wp

theorem RdV.fr {F : Nat → Prop} {w w' : World} {A : Option Addr} {vs : List Value} (h : RdV w A vs) (hf : Fr F w w') (hF : ∀ k, F k → False) : RdV w' A vs := fun h0 => by
  obtain ⟨ad, e, hc⟩ := h h0
  refine ⟨ad, e, fun j u hu => ?_⟩
  have h1 := hc j u hu
  have hb : (ad.add j).block < w.heap.size := by
    unfold World.cell? at h1
    cases hq : w.heap[(ad.add j).block]? with
    | none => simp [hq] at h1
    | some o => exact (Array.getElem?_eq_some_iff.1 hq).1
  rw [← h1]
  unfold World.cell?
  rw [hf.block _ hb (fun hk => hF _ hk)]
theorem RoV.of_rd {w : World} {A : Option Addr} {vs : List Value} (h : RdV w A vs) (L : List Ast) : RoV none' w L A vs := ⟨fun w' L' S => RdV.fr h S.fr (fun _ h => h)⟩
/-- A step of a script as it lies in memory. -/
structure OpD where
  kind : Int
  at_ : Int
  A : Option Addr
  d : List UInt8
  cd : Nat
  A2 : Option Addr
  ps : List Pick
  cp : Nat
def OpD.cells (o : OpD) : List Value := [.int .i64 o.kind, .int .i64 o.at_, .slice o.A o.d.length o.cd, .slice o.A2 o.ps.length o.cp]
def opsV (l : List OpD) : List Value := l.flatMap OpD.cells
theorem length_opsV (l : List OpD) : (opsV l).length = l.length * 4 := by
  induction l with
  | nil => rfl
  | cons p r ih => simp [opsV, OpD.cells] at ih ⊢; omega
theorem opsV_at : ∀ (l : List OpD) (i : Nat) (p : OpD), l[i]? = some p → ∀ j u, p.cells[j]? = some u → (opsV l)[i * 4 + j]? = some u
  | [], i, p, h, _, _, _ => by simp at h
  | q :: r, 0, p, h, j, u, hu => by
    simp at h; subst h
    have := (List.getElem?_eq_some_iff.1 hu).1
    show ((q.cells ++ opsV r))[0 * 4 + j]? = some u
    rw [List.getElem?_append_left (by omega)]; simpa using hu
  | q :: r, i + 1, p, h, j, u, hu => by
    have ih := opsV_at r i p (by simpa using h) j u hu
    show ((q.cells ++ opsV r))[(i + 1) * 4 + j]? = some u
    rw [List.getElem?_append_right (by simp [OpD.cells]; omega)]
    simpa [OpD.cells, show (i + 1) * 4 + j - 4 = i * 4 + j from by omega] using ih
structure OpD.Ok (w : World) (o : OpD) : Prop where
  d : RdB w o.A o.d
  p : RdV w o.A2 (picksV o.ps)
  dm : o.d.length ≤ 140737488355328
  pm : o.ps.length * 24 ≤ 140737488355328
  hat : o.at_ ≤ 9223372036854775807
theorem begin_odd {F : Nat → Prop} {w0 w : World} {L : List Ast} {A : Option Addr} {l : List UInt8} {ca : Nat} (S : St F w0 w L) (hr : RoT F w0 L A l) (hlm : l.length ≤ 140737488351232) {n : Int} (h0 : 0 < l.length) (ho : l.length % 512 ≠ 0) : Calls Try.prog 31 #[.int .i64 n, .slice A l.length ca] w fun e w' => e = .returned (.tuple #[.pointer none, .pointer none, .bool true]) ∧ St F w0 w' L := by
  refine wp_enter (fr [iv n, .slice A l.length ca] 61) Try.func31 rfl (by kernel_rfl) ?_
  refine wp_seq ?_
  refine wp_region_lit ?_
  refine pv pn ?_
  refine pv pn ?_
  refine pv fv ?_
  refine wl_end (fr [iv n, .slice A l.length ca, ud, ud, pn, pn, fv] 56) (by kernel_rfl) ?_
  refine then_n ?_
  refine wp_seq ?_
  refine wp_seq ?_
  refine wp_region_lit ?_
  refine pv (.slice A l.length ca) ?_
  refine pv (iv (l.length : Nat)) ?_
  refine wl_gv rfl (gv_dec (p := ((l.length : Nat) : Int) > 0) (by kernel_rfl) (fun _ => ?_) (fun hd1 => False.elim (by omega)))
  refine wl_end (fr [iv n, .slice A l.length ca, ud, ud, pn, pn, fv, ud, ud, ud, ud, ud, ud, ud, ud, .slice A l.length ca, iv (l.length : Nat), tv] 45) (by kernel_rfl) ?_
  refine then_n ?_
  refine wp_cond_true (by kernel_rfl) ?_
  refine wp_seq ?_
  refine wp_region_lit ?_
  refine pv (.slice A l.length ca) ?_
  refine wl_gv rfl (gv_call (args := #[.slice A l.length ca]) rfl Try.func27 (by kernel_rfl) rfl rfl (by kernel_rfl) ?_)
  refine Calls.mono (ltwinS (l := l) S hr (by omega)) ?_
  rintro _ w3 ⟨g2, rfl, S4⟩
  refine ⟨_, rfl, ?_⟩
  refine wl_gv rfl (gv_call (args := #[.slice (some ⟨g2, 0, none⟩) l.length l.length]) rfl Try.func26 (by kernel_rfl) rfl rfl (by kernel_rfl) ?_)
  refine Calls.mono (pd_load_odd S4 (RoT.item 0 rfl 0 l.length l (by rw [List.drop_zero, List.take_length])) (by omega) ho) ?_
  rintro _ w5 ⟨rfl, S6⟩
  refine ⟨_, rfl, ?_⟩
  refine pv (.tuple #[pn, iv 2]) ?_
  refine pv pn ?_
  refine pv (iv 2) ?_
  refine pv pn ?_
  refine pv (iv 2) ?_
  refine wl_end (fr [iv n, .slice A l.length ca, ud, ud, pn, pn, fv, pn, iv 2, ud, ud, ud, ud, ud, ud, .slice A l.length ca, iv (l.length : Nat), tv, .tuple #[pn, iv 2], .slice A l.length ca, sl g2 0 l.length l.length, .tuple #[pn, iv 2], pn, iv 2] 39) (by kernel_rfl) ?_
  refine then_n ?_
  refine wp_seq ?_
  refine wp_region_lit ?_
  refine pv (.slice A l.length ca) ?_
  refine wl_gv rfl (gv_call (args := #[.slice A l.length ca]) rfl Try.func46 (by kernel_rfl) rfl rfl (by kernel_rfl) ?_)
  refine Calls.mono (rd_load_odd S6 (RoT.more hr) (by omega) ho) ?_
  rintro _ w7 ⟨rfl, S8⟩
  refine ⟨_, rfl, ?_⟩
  refine pv (.tuple #[pn, iv 2]) ?_
  refine pv pn ?_
  refine pv (iv 2) ?_
  refine pv pn ?_
  refine pv (iv 2) ?_
  refine wl_end (fr [iv n, .slice A l.length ca, ud, ud, pn, pn, fv, pn, iv 2, pn, iv 2, ud, ud, ud, ud, .slice A l.length ca, iv (l.length : Nat), tv, .tuple #[pn, iv 2], .slice A l.length ca, sl g2 0 l.length l.length, .tuple #[pn, iv 2], pn, iv 2, .tuple #[pn, iv 2], .slice A l.length ca, .tuple #[pn, iv 2], pn, iv 2] 34) (by kernel_rfl) ?_
  refine then_n ?_
  refine wp_seq ?_
  refine wp_region_lit ?_
  refine pv pn ?_
  refine pv pn ?_
  refine pv (iv 2) ?_
  refine pv (iv 2) ?_
  refine wl_gv rfl (gv_eq (x := 2) (y := 2) (by kernel_rfl) (fun _ => ?_) (fun hd9 => False.elim (hd9 rfl)))
  refine pv tv ?_
  refine wl_when (by kernel_rfl) (gv_val (v := .pointer none) (w' := w7) (by kernel_rfl) ?_)
  refine wl_when (by kernel_rfl) (gv_val (v := .bool true) (w' := w7) (by kernel_rfl) ?_)
  refine wl_when (by kernel_rfl) (gv_val (v := .pointer none) (w' := w7) (by kernel_rfl) ?_)
  refine wl_when (by kernel_rfl) (gv_val (v := .bool true) (w' := w7) (by kernel_rfl) ?_)
  refine wl_when (by kernel_rfl) (gv_val (v := .bool true) (w' := w7) (by kernel_rfl) ?_)
  refine pv tv ?_
  refine pv pn ?_
  refine pv pn ?_
  refine pv tv ?_
  refine wl_end (fr [iv n, .slice A l.length ca, ud, ud, pn, pn, tv, pn, iv 2, pn, iv 2, ud, ud, ud, ud, .slice A l.length ca, iv (l.length : Nat), tv, .tuple #[pn, iv 2], .slice A l.length ca, sl g2 0 l.length l.length, .tuple #[pn, iv 2], pn, iv 2, .tuple #[pn, iv 2], .slice A l.length ca, .tuple #[pn, iv 2], pn, iv 2, pn, pn, iv 2, iv 2, tv, tv, pn, tv, pn, tv, tv, tv] 22) (by kernel_rfl) ?_
  refine then_n ?_
  refine wp_ret ?_
  refine then_r ?_
  refine bodyPost_ret (v := .tuple #[.pointer none, .pointer none, .bool true]) (Go.Vel.results_tmp3 rfl _ _ (by kernel_rfl) (by kernel_rfl) (by kernel_rfl)) rfl ?_
  have S10 : St F w0 w7 (L) := St.permT [row g2 (bvs l) 5] [] (by decide) rfl S8
  exact ⟨rfl, S10⟩
theorem begin_bad {F : Nat → Prop} {w0 w : World} {L : List Ast} {A : Option Addr} {l : List UInt8} {ca : Nat} (S : St F w0 w L) (hr : RoT F w0 L A l) (hlm : l.length ≤ 140737488351232) {n : Int} (h0 : 0 < l.length) (ho : l.length % 512 = 0) (hb : l.length / 512 < 1 ∨ 2048 < l.length / 512) : Calls Try.prog 31 #[.int .i64 n, .slice A l.length ca] w fun e w' => e = .returned (.tuple #[.pointer none, .pointer none, .bool true]) ∧ St F w0 w' L := by
  refine wp_enter (fr [iv n, .slice A l.length ca] 61) Try.func31 rfl (by kernel_rfl) ?_
  refine wp_seq ?_
  refine wp_region_lit ?_
  refine pv pn ?_
  refine pv pn ?_
  refine pv fv ?_
  refine wl_end (fr [iv n, .slice A l.length ca, ud, ud, pn, pn, fv] 56) (by kernel_rfl) ?_
  refine then_n ?_
  refine wp_seq ?_
  refine wp_seq ?_
  refine wp_region_lit ?_
  refine pv (.slice A l.length ca) ?_
  refine pv (iv (l.length : Nat)) ?_
  refine wl_gv rfl (gv_dec (p := ((l.length : Nat) : Int) > 0) (by kernel_rfl) (fun _ => ?_) (fun hd1 => False.elim (by omega)))
  refine wl_end (fr [iv n, .slice A l.length ca, ud, ud, pn, pn, fv, ud, ud, ud, ud, ud, ud, ud, ud, .slice A l.length ca, iv (l.length : Nat), tv] 45) (by kernel_rfl) ?_
  refine then_n ?_
  refine wp_cond_true (by kernel_rfl) ?_
  refine wp_seq ?_
  refine wp_region_lit ?_
  refine pv (.slice A l.length ca) ?_
  refine wl_gv rfl (gv_call (args := #[.slice A l.length ca]) rfl Try.func27 (by kernel_rfl) rfl rfl (by kernel_rfl) ?_)
  refine Calls.mono (ltwinS (l := l) S hr (by omega)) ?_
  rintro _ w3 ⟨g2, rfl, S4⟩
  refine ⟨_, rfl, ?_⟩
  refine wl_gv rfl (gv_call (args := #[.slice (some ⟨g2, 0, none⟩) l.length l.length]) rfl Try.func26 (by kernel_rfl) rfl rfl (by kernel_rfl) ?_)
  refine Calls.mono (pd_load_bad S4 (RoT.item 0 rfl 0 l.length l (by rw [List.drop_zero, List.take_length])) (by omega) ho hb) ?_
  rintro _ w5 ⟨rfl, S6⟩
  refine ⟨_, rfl, ?_⟩
  refine pv (.tuple #[pn, iv 10]) ?_
  refine pv pn ?_
  refine pv (iv 10) ?_
  refine pv pn ?_
  refine pv (iv 10) ?_
  refine wl_end (fr [iv n, .slice A l.length ca, ud, ud, pn, pn, fv, pn, iv 10, ud, ud, ud, ud, ud, ud, .slice A l.length ca, iv (l.length : Nat), tv, .tuple #[pn, iv 10], .slice A l.length ca, sl g2 0 l.length l.length, .tuple #[pn, iv 10], pn, iv 10] 39) (by kernel_rfl) ?_
  refine then_n ?_
  refine wp_seq ?_
  refine wp_region_lit ?_
  refine pv (.slice A l.length ca) ?_
  refine wl_gv rfl (gv_call (args := #[.slice A l.length ca]) rfl Try.func46 (by kernel_rfl) rfl rfl (by kernel_rfl) ?_)
  refine Calls.mono (rd_load_bad S6 (RoT.more hr) (by omega) ho hb) ?_
  rintro _ w7 ⟨rfl, S8⟩
  refine ⟨_, rfl, ?_⟩
  refine pv (.tuple #[pn, iv 10]) ?_
  refine pv pn ?_
  refine pv (iv 10) ?_
  refine pv pn ?_
  refine pv (iv 10) ?_
  refine wl_end (fr [iv n, .slice A l.length ca, ud, ud, pn, pn, fv, pn, iv 10, pn, iv 10, ud, ud, ud, ud, .slice A l.length ca, iv (l.length : Nat), tv, .tuple #[pn, iv 10], .slice A l.length ca, sl g2 0 l.length l.length, .tuple #[pn, iv 10], pn, iv 10, .tuple #[pn, iv 10], .slice A l.length ca, .tuple #[pn, iv 10], pn, iv 10] 34) (by kernel_rfl) ?_
  refine then_n ?_
  refine wp_seq ?_
  refine wp_region_lit ?_
  refine pv pn ?_
  refine pv pn ?_
  refine pv (iv 10) ?_
  refine pv (iv 10) ?_
  refine wl_gv rfl (gv_eq (x := 10) (y := 10) (by kernel_rfl) (fun _ => ?_) (fun hd9 => False.elim (hd9 rfl)))
  refine pv tv ?_
  refine wl_when (by kernel_rfl) (gv_val (v := .pointer none) (w' := w7) (by kernel_rfl) ?_)
  refine wl_when (by kernel_rfl) (gv_val (v := .bool true) (w' := w7) (by kernel_rfl) ?_)
  refine wl_when (by kernel_rfl) (gv_val (v := .pointer none) (w' := w7) (by kernel_rfl) ?_)
  refine wl_when (by kernel_rfl) (gv_val (v := .bool true) (w' := w7) (by kernel_rfl) ?_)
  refine wl_when (by kernel_rfl) (gv_val (v := .bool true) (w' := w7) (by kernel_rfl) ?_)
  refine pv tv ?_
  refine pv pn ?_
  refine pv pn ?_
  refine pv tv ?_
  refine wl_end (fr [iv n, .slice A l.length ca, ud, ud, pn, pn, tv, pn, iv 10, pn, iv 10, ud, ud, ud, ud, .slice A l.length ca, iv (l.length : Nat), tv, .tuple #[pn, iv 10], .slice A l.length ca, sl g2 0 l.length l.length, .tuple #[pn, iv 10], pn, iv 10, .tuple #[pn, iv 10], .slice A l.length ca, .tuple #[pn, iv 10], pn, iv 10, pn, pn, iv 10, iv 10, tv, tv, pn, tv, pn, tv, tv, tv] 22) (by kernel_rfl) ?_
  refine then_n ?_
  refine wp_ret ?_
  refine then_r ?_
  refine bodyPost_ret (v := .tuple #[.pointer none, .pointer none, .bool true]) (Go.Vel.results_tmp3 rfl _ _ (by kernel_rfl) (by kernel_rfl) (by kernel_rfl)) rfl ?_
  have S10 : St F w0 w7 (L) := St.permT [row g2 (bvs l) 5] [] (by decide) rfl S8
  exact ⟨rfl, S10⟩
theorem begin_good {F : Nat → Prop} {w0 w : World} {L : List Ast} {A : Option Addr} {l : List UInt8} {ca : Nat} (S : St F w0 w L) (hr : RoT F w0 L A l) (hlm : l.length ≤ 140737488351232) {n : Int} {m : Nat} (hca : l.length ≤ ca) (h0 : 0 < l.length) (ho : l.length = 512 * m) (h1 : 1 ≤ m) (h2 : m ≤ 2048) : Calls Try.prog 31 #[.int .i64 n, .slice A l.length ca] w fun e w' => ∃ gd gr, e = .returned (.tuple #[.pointer (some ⟨gd, 0, none⟩), .pointer (some ⟨gr, 0, none⟩), .bool true]) ∧ St F w0 w' (PDisk gd (Dsk.mk0 (secs l m)) :: RDisk gr (Dsk.mk0 (secs l m)) :: L) := by
  refine wp_enter (fr [iv n, .slice A l.length ca] 61) Try.func31 rfl (by kernel_rfl) ?_
  refine wp_seq ?_
  refine wp_region_lit ?_
  refine pv pn ?_
  refine pv pn ?_
  refine pv fv ?_
  refine wl_end (fr [iv n, .slice A l.length ca, ud, ud, pn, pn, fv] 56) (by kernel_rfl) ?_
  refine then_n ?_
  refine wp_seq ?_
  refine wp_seq ?_
  refine wp_region_lit ?_
  refine pv (.slice A l.length ca) ?_
  refine pv (iv (l.length : Nat)) ?_
  refine wl_gv rfl (gv_dec (p := ((l.length : Nat) : Int) > 0) (by kernel_rfl) (fun _ => ?_) (fun hd1 => False.elim (by omega)))
  refine wl_end (fr [iv n, .slice A l.length ca, ud, ud, pn, pn, fv, ud, ud, ud, ud, ud, ud, ud, ud, .slice A l.length ca, iv (l.length : Nat), tv] 45) (by kernel_rfl) ?_
  refine then_n ?_
  refine wp_cond_true (by kernel_rfl) ?_
  refine wp_seq ?_
  refine wp_region_lit ?_
  refine pv (.slice A l.length ca) ?_
  refine wl_gv rfl (gv_call (args := #[.slice A l.length ca]) rfl Try.func27 (by kernel_rfl) rfl rfl (by kernel_rfl) ?_)
  refine Calls.mono (ltwinS (l := l) S hr (by omega)) ?_
  rintro _ w3 ⟨g2, rfl, S4⟩
  refine ⟨_, rfl, ?_⟩
  refine wl_gv rfl (gv_call (args := #[.slice (some ⟨g2, 0, none⟩) l.length l.length]) rfl Try.func26 (by kernel_rfl) rfl rfl (by kernel_rfl) ?_)
  refine Calls.mono (pd_load S4 (RoT.item 0 rfl 0 l.length l (by rw [List.drop_zero, List.take_length])) (by omega) ho h1 h2) ?_
  rintro _ w6 ⟨gp5, rfl, S7⟩
  refine ⟨_, rfl, ?_⟩
  refine pv (.tuple #[pq gp5, iv 0]) ?_
  refine pv (pq gp5) ?_
  refine pv (iv 0) ?_
  refine pv (pq gp5) ?_
  refine pv (iv 0) ?_
  refine wl_end (fr [iv n, .slice A l.length ca, ud, ud, pn, pn, fv, pq gp5, iv 0, ud, ud, ud, ud, ud, ud, .slice A l.length ca, iv (l.length : Nat), tv, .tuple #[pq gp5, iv 0], .slice A l.length ca, sl g2 0 l.length l.length, .tuple #[pq gp5, iv 0], pq gp5, iv 0] 39) (by kernel_rfl) ?_
  refine then_n ?_
  refine wp_seq ?_
  refine wp_region_lit ?_
  refine pv (.slice A l.length ca) ?_
  refine wl_gv rfl (gv_call (args := #[.slice A l.length ca]) rfl Try.func46 (by kernel_rfl) rfl rfl (by kernel_rfl) ?_)
  refine Calls.mono (rd_load S7 (RoT.more (RoT.more hr)) (by omega) hca ho h1 h2) ?_
  rintro _ w9 ⟨gr8, rfl, S10⟩
  refine ⟨_, rfl, ?_⟩
  refine pv (.tuple #[pq gr8, iv 0]) ?_
  refine pv (pq gr8) ?_
  refine pv (iv 0) ?_
  refine pv (pq gr8) ?_
  refine pv (iv 0) ?_
  refine wl_end (fr [iv n, .slice A l.length ca, ud, ud, pn, pn, fv, pq gp5, iv 0, pq gr8, iv 0, ud, ud, ud, ud, .slice A l.length ca, iv (l.length : Nat), tv, .tuple #[pq gp5, iv 0], .slice A l.length ca, sl g2 0 l.length l.length, .tuple #[pq gp5, iv 0], pq gp5, iv 0, .tuple #[pq gr8, iv 0], .slice A l.length ca, .tuple #[pq gr8, iv 0], pq gr8, iv 0] 34) (by kernel_rfl) ?_
  refine then_n ?_
  refine wp_seq ?_
  refine wp_region_lit ?_
  refine pv (pq gp5) ?_
  refine pv (pq gr8) ?_
  refine pv (iv 0) ?_
  refine pv (iv 0) ?_
  refine wl_gv rfl (gv_eq (x := 0) (y := 0) (by kernel_rfl) (fun _ => ?_) (fun hd11 => False.elim (hd11 rfl)))
  refine pv tv ?_
  refine wl_when (by kernel_rfl) (gv_val (v := .pointer (some ⟨gp5, 0, none⟩)) (w' := w9) (by kernel_rfl) ?_)
  refine wl_when (by kernel_rfl) (gv_val (v := .bool false) (w' := w9) (by kernel_rfl) ?_)
  refine wl_when (by kernel_rfl) (gv_val (v := .pointer (some ⟨gr8, 0, none⟩)) (w' := w9) (by kernel_rfl) ?_)
  refine wl_when (by kernel_rfl) (gv_val (v := .bool false) (w' := w9) (by kernel_rfl) ?_)
  refine wl_when (by kernel_rfl) (gv_val (v := .bool true) (w' := w9) (by kernel_rfl) ?_)
  refine pv tv ?_
  refine pv (pq gp5) ?_
  refine pv (pq gr8) ?_
  refine pv tv ?_
  refine wl_end (fr [iv n, .slice A l.length ca, ud, ud, pq gp5, pq gr8, tv, pq gp5, iv 0, pq gr8, iv 0, ud, ud, ud, ud, .slice A l.length ca, iv (l.length : Nat), tv, .tuple #[pq gp5, iv 0], .slice A l.length ca, sl g2 0 l.length l.length, .tuple #[pq gp5, iv 0], pq gp5, iv 0, .tuple #[pq gr8, iv 0], .slice A l.length ca, .tuple #[pq gr8, iv 0], pq gr8, iv 0, pq gp5, pq gr8, iv 0, iv 0, tv, tv, pq gp5, fv, pq gr8, fv, tv, tv] 22) (by kernel_rfl) ?_
  refine then_n ?_
  refine wp_ret ?_
  refine then_r ?_
  refine bodyPost_ret (v := .tuple #[.pointer (some ⟨gp5, 0, none⟩), .pointer (some ⟨gr8, 0, none⟩), .bool true]) (Go.Vel.results_tmp3 rfl _ _ (by kernel_rfl) (by kernel_rfl) (by kernel_rfl)) rfl ?_
  have S12 : St F w0 w9 (PDisk gp5 (Dsk.mk0 (secs l m)) :: RDisk gr8 (Dsk.mk0 (secs l m)) :: L) := St.permT [RDisk gr8 (Dsk.mk0 (secs l m)), PDisk gp5 (Dsk.mk0 (secs l m)), row g2 (bvs l) 5] [1, 0] (by decide) rfl S10
  exact ⟨_, _, rfl, S12⟩
theorem begin_nbad {F : Nat → Prop} {w0 w : World} {L : List Ast} {A : Option Addr} {l : List UInt8} {ca : Nat} (S : St F w0 w L) (hr : RoT F w0 L A l) (hlm : l.length ≤ 140737488351232) {n : Int} (h0 : l.length = 0) (hb : n < 1 ∨ 2048 < n) : Calls Try.prog 31 #[.int .i64 n, .slice A l.length ca] w fun e w' => e = .returned (.tuple #[.pointer none, .pointer none, .bool true]) ∧ St F w0 w' L := by
  refine wp_enter (fr [iv n, .slice A l.length ca] 61) Try.func31 rfl (by kernel_rfl) ?_
  refine wp_seq ?_
  refine wp_region_lit ?_
  refine pv pn ?_
  refine pv pn ?_
  refine pv fv ?_
  refine wl_end (fr [iv n, .slice A l.length ca, ud, ud, pn, pn, fv] 56) (by kernel_rfl) ?_
  refine then_n ?_
  refine wp_seq ?_
  refine wp_seq ?_
  refine wp_region_lit ?_
  refine pv (.slice A l.length ca) ?_
  refine pv (iv (l.length : Nat)) ?_
  refine wl_gv rfl (gv_dec (p := ((l.length : Nat) : Int) > 0) (by kernel_rfl) (fun hd1 => False.elim (by omega)) (fun _ => ?_))
  refine wl_end (fr [iv n, .slice A l.length ca, ud, ud, pn, pn, fv, ud, ud, ud, ud, ud, ud, ud, ud, .slice A l.length ca, iv (l.length : Nat), fv] 45) (by kernel_rfl) ?_
  refine then_n ?_
  refine wp_cond_false (by kernel_rfl) ?_
  refine wp_skip ?_
  refine then_n ?_
  refine wp_seq ?_
  refine wp_region_lit ?_
  refine pv (iv n) ?_
  refine wl_gv rfl (gv_call (args := #[.int .i64 n]) rfl Try.func20 (by kernel_rfl) rfl rfl (by kernel_rfl) ?_)
  refine Calls.mono (pd_new_bad hb S) ?_
  rintro _ w2 ⟨rfl, S3⟩
  refine ⟨_, rfl, ?_⟩
  refine pv (.tuple #[pn, iv 10]) ?_
  refine pv pn ?_
  refine pv (iv 10) ?_
  refine pv pn ?_
  refine pv (iv 10) ?_
  refine wl_end (fr [iv n, .slice A l.length ca, ud, ud, pn, pn, fv, ud, ud, ud, ud, pn, iv 10, ud, ud, .slice A l.length ca, iv (l.length : Nat), fv, ud, ud, ud, ud, ud, ud, ud, ud, ud, ud, ud, ud, ud, ud, ud, ud, ud, ud, ud, ud, ud, ud, ud, .tuple #[pn, iv 10], iv n, .tuple #[pn, iv 10], pn, iv 10] 17) (by kernel_rfl) ?_
  refine then_n ?_
  refine wp_seq ?_
  refine wp_region_lit ?_
  refine pv (iv n) ?_
  refine wl_gv rfl (gv_call (args := #[.int .i64 n]) rfl Try.func63 (by kernel_rfl) rfl rfl (by kernel_rfl) ?_)
  refine Calls.mono (rd_new_bad hb S3) ?_
  rintro _ w4 ⟨rfl, S5⟩
  refine ⟨_, rfl, ?_⟩
  refine pv (.tuple #[pn, iv 10]) ?_
  refine pv pn ?_
  refine pv (iv 10) ?_
  refine pv pn ?_
  refine pv (iv 10) ?_
  refine wl_end (fr [iv n, .slice A l.length ca, ud, ud, pn, pn, fv, ud, ud, ud, ud, pn, iv 10, pn, iv 10, .slice A l.length ca, iv (l.length : Nat), fv, ud, ud, ud, ud, ud, ud, ud, ud, ud, ud, ud, ud, ud, ud, ud, ud, ud, ud, ud, ud, ud, ud, ud, .tuple #[pn, iv 10], iv n, .tuple #[pn, iv 10], pn, iv 10, .tuple #[pn, iv 10], iv n, .tuple #[pn, iv 10], pn, iv 10] 12) (by kernel_rfl) ?_
  refine then_n ?_
  refine wp_seq ?_
  refine wp_region_lit ?_
  refine pv pn ?_
  refine pv pn ?_
  refine pv (iv 10) ?_
  refine pv (iv 10) ?_
  refine wl_gv rfl (gv_eq (x := 10) (y := 10) (by kernel_rfl) (fun _ => ?_) (fun hd6 => False.elim (hd6 rfl)))
  refine pv tv ?_
  refine wl_when (by kernel_rfl) (gv_val (v := .pointer none) (w' := w4) (by kernel_rfl) ?_)
  refine wl_when (by kernel_rfl) (gv_val (v := .bool true) (w' := w4) (by kernel_rfl) ?_)
  refine wl_when (by kernel_rfl) (gv_val (v := .pointer none) (w' := w4) (by kernel_rfl) ?_)
  refine wl_when (by kernel_rfl) (gv_val (v := .bool true) (w' := w4) (by kernel_rfl) ?_)
  refine wl_when (by kernel_rfl) (gv_val (v := .bool true) (w' := w4) (by kernel_rfl) ?_)
  refine pv tv ?_
  refine pv pn ?_
  refine pv pn ?_
  refine pv tv ?_
  refine wl_end (fr [iv n, .slice A l.length ca, ud, ud, pn, pn, tv, ud, ud, ud, ud, pn, iv 10, pn, iv 10, .slice A l.length ca, iv (l.length : Nat), fv, ud, ud, ud, ud, ud, ud, ud, ud, ud, ud, ud, ud, ud, ud, ud, ud, ud, ud, ud, ud, ud, ud, ud, .tuple #[pn, iv 10], iv n, .tuple #[pn, iv 10], pn, iv 10, .tuple #[pn, iv 10], iv n, .tuple #[pn, iv 10], pn, iv 10, pn, pn, iv 10, iv 10, tv, tv, pn, tv, pn, tv, tv, tv] 0) (by kernel_rfl) ?_
  refine then_n ?_
  refine wp_ret ?_
  refine bodyPost_ret (v := .tuple #[.pointer none, .pointer none, .bool true]) (Go.Vel.results_tmp3 rfl _ _ (by kernel_rfl) (by kernel_rfl) (by kernel_rfl)) rfl ?_
  exact ⟨rfl, S5⟩
theorem begin_ngood {F : Nat → Prop} {w0 w : World} {L : List Ast} {A : Option Addr} {l : List UInt8} {ca : Nat} (S : St F w0 w L) (hr : RoT F w0 L A l) (hlm : l.length ≤ 140737488351232) {m : Nat} (h0 : l.length = 0) (h1 : 1 ≤ m) (h2 : m ≤ 2048) : Calls Try.prog 31 #[.int .i64 ((m : Nat) : Int), .slice A l.length ca] w fun e w' => ∃ gd gr, e = .returned (.tuple #[.pointer (some ⟨gd, 0, none⟩), .pointer (some ⟨gr, 0, none⟩), .bool true]) ∧ St F w0 w' (PDisk gd (Dsk.mk0 (List.replicate m zsec)) :: RDisk gr (Dsk.mk0 (List.replicate m zsec)) :: L) := by
  refine wp_enter (fr [iv ((m : Nat) : Int), .slice A l.length ca] 61) Try.func31 rfl (by kernel_rfl) ?_
  refine wp_seq ?_
  refine wp_region_lit ?_
  refine pv pn ?_
  refine pv pn ?_
  refine pv fv ?_
  refine wl_end (fr [iv ((m : Nat) : Int), .slice A l.length ca, ud, ud, pn, pn, fv] 56) (by kernel_rfl) ?_
  refine then_n ?_
  refine wp_seq ?_
  refine wp_seq ?_
  refine wp_region_lit ?_
  refine pv (.slice A l.length ca) ?_
  refine pv (iv (l.length : Nat)) ?_
  refine wl_gv rfl (gv_dec (p := ((l.length : Nat) : Int) > 0) (by kernel_rfl) (fun hd1 => False.elim (by omega)) (fun _ => ?_))
  refine wl_end (fr [iv ((m : Nat) : Int), .slice A l.length ca, ud, ud, pn, pn, fv, ud, ud, ud, ud, ud, ud, ud, ud, .slice A l.length ca, iv (l.length : Nat), fv] 45) (by kernel_rfl) ?_
  refine then_n ?_
  refine wp_cond_false (by kernel_rfl) ?_
  refine wp_skip ?_
  refine then_n ?_
  refine wp_seq ?_
  refine wp_region_lit ?_
  refine pv (iv ((m : Nat) : Int)) ?_
  refine wl_gv rfl (gv_call (args := #[.int .i64 ((m : Nat) : Int)]) rfl Try.func20 (by kernel_rfl) rfl rfl (by kernel_rfl) ?_)
  refine Calls.mono (pd_new h1 h2 S) ?_
  rintro _ w3 ⟨gp2, rfl, S4⟩
  refine ⟨_, rfl, ?_⟩
  refine pv (.tuple #[pq gp2, iv 0]) ?_
  refine pv (pq gp2) ?_
  refine pv (iv 0) ?_
  refine pv (pq gp2) ?_
  refine pv (iv 0) ?_
  refine wl_end (fr [iv ((m : Nat) : Int), .slice A l.length ca, ud, ud, pn, pn, fv, ud, ud, ud, ud, pq gp2, iv 0, ud, ud, .slice A l.length ca, iv (l.length : Nat), fv, ud, ud, ud, ud, ud, ud, ud, ud, ud, ud, ud, ud, ud, ud, ud, ud, ud, ud, ud, ud, ud, ud, ud, .tuple #[pq gp2, iv 0], iv ((m : Nat) : Int), .tuple #[pq gp2, iv 0], pq gp2, iv 0] 17) (by kernel_rfl) ?_
  refine then_n ?_
  refine wp_seq ?_
  refine wp_region_lit ?_
  refine pv (iv ((m : Nat) : Int)) ?_
  refine wl_gv rfl (gv_call (args := #[.int .i64 ((m : Nat) : Int)]) rfl Try.func63 (by kernel_rfl) rfl rfl (by kernel_rfl) ?_)
  refine Calls.mono (rd_new h1 h2 S4) ?_
  rintro _ w6 ⟨gr5, rfl, S7⟩
  refine ⟨_, rfl, ?_⟩
  refine pv (.tuple #[pq gr5, iv 0]) ?_
  refine pv (pq gr5) ?_
  refine pv (iv 0) ?_
  refine pv (pq gr5) ?_
  refine pv (iv 0) ?_
  refine wl_end (fr [iv ((m : Nat) : Int), .slice A l.length ca, ud, ud, pn, pn, fv, ud, ud, ud, ud, pq gp2, iv 0, pq gr5, iv 0, .slice A l.length ca, iv (l.length : Nat), fv, ud, ud, ud, ud, ud, ud, ud, ud, ud, ud, ud, ud, ud, ud, ud, ud, ud, ud, ud, ud, ud, ud, ud, .tuple #[pq gp2, iv 0], iv ((m : Nat) : Int), .tuple #[pq gp2, iv 0], pq gp2, iv 0, .tuple #[pq gr5, iv 0], iv ((m : Nat) : Int), .tuple #[pq gr5, iv 0], pq gr5, iv 0] 12) (by kernel_rfl) ?_
  refine then_n ?_
  refine wp_seq ?_
  refine wp_region_lit ?_
  refine pv (pq gp2) ?_
  refine pv (pq gr5) ?_
  refine pv (iv 0) ?_
  refine pv (iv 0) ?_
  refine wl_gv rfl (gv_eq (x := 0) (y := 0) (by kernel_rfl) (fun _ => ?_) (fun hd8 => False.elim (hd8 rfl)))
  refine pv tv ?_
  refine wl_when (by kernel_rfl) (gv_val (v := .pointer (some ⟨gp2, 0, none⟩)) (w' := w6) (by kernel_rfl) ?_)
  refine wl_when (by kernel_rfl) (gv_val (v := .bool false) (w' := w6) (by kernel_rfl) ?_)
  refine wl_when (by kernel_rfl) (gv_val (v := .pointer (some ⟨gr5, 0, none⟩)) (w' := w6) (by kernel_rfl) ?_)
  refine wl_when (by kernel_rfl) (gv_val (v := .bool false) (w' := w6) (by kernel_rfl) ?_)
  refine wl_when (by kernel_rfl) (gv_val (v := .bool true) (w' := w6) (by kernel_rfl) ?_)
  refine pv tv ?_
  refine pv (pq gp2) ?_
  refine pv (pq gr5) ?_
  refine pv tv ?_
  refine wl_end (fr [iv ((m : Nat) : Int), .slice A l.length ca, ud, ud, pq gp2, pq gr5, tv, ud, ud, ud, ud, pq gp2, iv 0, pq gr5, iv 0, .slice A l.length ca, iv (l.length : Nat), fv, ud, ud, ud, ud, ud, ud, ud, ud, ud, ud, ud, ud, ud, ud, ud, ud, ud, ud, ud, ud, ud, ud, ud, .tuple #[pq gp2, iv 0], iv ((m : Nat) : Int), .tuple #[pq gp2, iv 0], pq gp2, iv 0, .tuple #[pq gr5, iv 0], iv ((m : Nat) : Int), .tuple #[pq gr5, iv 0], pq gr5, iv 0, pq gp2, pq gr5, iv 0, iv 0, tv, tv, pq gp2, fv, pq gr5, fv, tv, tv] 0) (by kernel_rfl) ?_
  refine then_n ?_
  refine wp_ret ?_
  refine bodyPost_ret (v := .tuple #[.pointer (some ⟨gp2, 0, none⟩), .pointer (some ⟨gr5, 0, none⟩), .bool true]) (Go.Vel.results_tmp3 rfl _ _ (by kernel_rfl) (by kernel_rfl) (by kernel_rfl)) rfl ?_
  have S9 : St F w0 w6 (PDisk gp2 (Dsk.mk0 (List.replicate m zsec)) :: RDisk gr5 (Dsk.mk0 (List.replicate m zsec)) :: L) := St.permT [RDisk gr5 (Dsk.mk0 (List.replicate m zsec)), PDisk gp2 (Dsk.mk0 (List.replicate m zsec))] [1, 0] (by decide) rfl S7
  exact ⟨_, _, rfl, S9⟩
/-- What Begin hands back: nothing at all, or the two disks with the same in them. -/
theorem begin_all {F : Nat → Prop} {w0 w : World} {L : List Ast} {A : Option Addr} {l : List UInt8} {ca : Nat} (S : St F w0 w L) (hr : RoT F w0 L A l) (hlm : l.length ≤ 140737488351232) (hca : l.length ≤ ca) (n : Int) : Calls Try.prog 31 #[.int .i64 n, .slice A l.length ca] w fun e w' => (e = .returned (.tuple #[.pointer none, .pointer none, .bool true]) ∧ St F w0 w' L) ∨ ∃ gd gr s, e = .returned (.tuple #[.pointer (some ⟨gd, 0, none⟩), .pointer (some ⟨gr, 0, none⟩), .bool true]) ∧ s.pend = [] ∧ St F w0 w' (PDisk gd s :: RDisk gr s :: L) := by
  by_cases h0 : 0 < l.length
  · by_cases ho : l.length % 512 = 0
    · by_cases hb : l.length / 512 < 1 ∨ 2048 < l.length / 512
      · exact (begin_bad S hr hlm h0 ho hb).mono fun e w' h => .inl h
      · refine (begin_good S hr hlm (m := l.length / 512) hca h0 (by omega) (by omega) (by omega)).mono fun e w' h => .inr ?_
        obtain ⟨gd, gr, h1, h2⟩ := h
        exact ⟨gd, gr, _, h1, rfl, h2⟩
    · exact (begin_odd S hr hlm h0 ho).mono fun e w' h => .inl h
  · by_cases hb : n < 1 ∨ 2048 < n
    · exact (begin_nbad S hr hlm (by omega) hb).mono fun e w' h => .inl h
    · obtain ⟨m, rfl⟩ : ∃ m : Nat, n = (m : Int) := ⟨n.toNat, by omega⟩
      refine (begin_ngood S hr hlm (by omega) (by omega) (by omega)).mono fun e w' h => .inr ?_
      obtain ⟨gd, gr, h1, h2⟩ := h
      exact ⟨gd, gr, _, h1, rfl, h2⟩
end Go.Proofs
