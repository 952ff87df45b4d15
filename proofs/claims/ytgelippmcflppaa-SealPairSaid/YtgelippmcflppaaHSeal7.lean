/- The law SealPair answers true. -/
import Derived.Test.YtgelippmcflppaaHSeal6
open Go Go.RowKit Go.Proofs.YtgelippmcflppaaW.PrintWords Go.Proofs.YtgelippmcflppaaW.PrintMore
namespace Go.Proofs
open Go.Vel
set_option linter.unusedVariables false
set_option maxRecDepth 100000
set_option maxHeartbeats 4000000
attribute [local irreducible] gives wpList Code.wp

theorem sealPair_all (w : World) {A B D : Option Addr} {l r d : List UInt8} {ca cb cd : Nat} (k1 n1 o1 k2 n2 o2 no cut : Int) (back : Bool) (hl : RdB w A l) (hlm : l.length ≤ 140737488351232) (hr : RdB w B r) (hrm : r.length ≤ 140737488351232) (hd : RdB w D d) (hdm : d.length ≤ 140737488351232) (hno : no ≤ 9223372036854775807) : Calls Try.prog 5 #[.agg #[.int .i64 k1, .int .i64 n1, .int .i64 o1, .slice A l.length ca], .agg #[.int .i64 k2, .int .i64 n2, .int .i64 o2, .slice B r.length cb], .int .i64 no, .slice D d.length cd, .int .i64 cut, .bool back] w fun e w' => e = .returned (.bool true) ∧ Below w.heap.size w w' := by
  have hd4 : (d.take (496 : Int).toNat).length ≤ 496 := by rw [List.length_take]; exact Nat.min_le_left _ _
  have S0 : St none' w w [] := St.init none' w
  have hL : ∀ L, RoT none' w L A l := fun L => (Ro.of_C hl (fun _ h => h)).T
  have hR : ∀ L, RoT none' w L B r := fun L => (Ro.of_C hr (fun _ h => h)).T
  have hD : ∀ L, RoT none' w L D d := fun L => (Ro.of_C hd (fun _ h => h)).T
  refine wp_enter (fr [.agg #[iv k1, iv n1, iv o1, .slice A l.length ca], .agg #[iv k2, iv n2, iv o2, .slice B r.length cb], iv no, .slice D d.length cd, iv cut, .bool back] 51) Try.func5 rfl (by kernel_rfl) ?_
  refine wp_seq ?_
  refine wp_region_lit ?_
  refine wl_gv rfl (gv_box (v := .agg #[.int .i64 k1, .int .i64 n1, .int .i64 o1, .slice A l.length ca]) S0 rfl (by kernel_rfl) (fun g1 w2 hg3 S4 => ?_))
  refine wl_gv rfl (gv_box (v := .agg #[.int .i64 k2, .int .i64 n2, .int .i64 o2, .slice B r.length cb]) S4 rfl (by kernel_rfl) (fun g5 w6 hg7 S8 => ?_))
  refine pv fv ?_
  refine wl_end (fr [.agg #[iv k1, iv n1, iv o1, .slice A l.length ca], .agg #[iv k2, iv n2, iv o2, .slice B r.length cb], iv no, .slice D d.length cd, iv cut, .bool back, pq g1, pq g5, ud, ud, ud, ud, fv] 44) (by kernel_rfl) ?_
  refine then_n ?_
  refine wp_seq ?_
  refine wp_seq ?_
  refine wp_region_lit ?_
  refine wl_gv rfl (gv_call (args := #[]) rfl Try.func19 (by kernel_rfl) rfl rfl (by kernel_rfl) ?_)
  refine Calls.mono (first_all S8) ?_
  rintro _ w9 ⟨rfl, S10⟩
  refine ⟨_, rfl, ?_⟩
  refine pv fv ?_
  refine wl_end (fr [.agg #[iv k1, iv n1, iv o1, .slice A l.length ca], .agg #[iv k2, iv n2, iv o2, .slice B r.length cb], iv no, .slice D d.length cd, iv cut, .bool back, pq g1, pq g5, ud, ud, ud, ud, fv, ud, ud, ud, ud, ud, ud, tv, fv] 36) (by kernel_rfl) ?_
  refine then_n ?_
  refine wp_cond_false (by kernel_rfl) ?_
  refine wp_skip ?_
  refine then_n ?_
  refine wp_seq ?_
  refine wp_region_lit ?_
  refine wl_gv rfl (gv_ldA (k := 0) (n := 4) (vs := [.int .i64 k1, .int .i64 n1, .int .i64 o1, .slice A l.length ca]) S10 1 rfl rfl (by kernel_rfl) (by kernel_rfl) rfl rfl ?_)
  refine wl_gv rfl (gv_call (args := #[.agg #[.int .i64 k1, .int .i64 n1, .int .i64 o1, .slice A l.length ca]]) rfl Try.func14 (by kernel_rfl) rfl rfl (by kernel_rfl) ?_)
  refine Calls.mono (made_all S10 (hL _) hlm) ?_
  rintro _ w11 ⟨AX, cX, X, rfl, hXm, S12⟩
  refine ⟨_, rfl, ?_⟩
  refine wl_gv rfl (gv_call (args := #[.slice AX X.length cX]) rfl Try.func18 (by kernel_rfl) rfl rfl (by kernel_rfl) ?_)
  refine Calls.mono (se3 (l := X) S12 (RoT.ofVec 0 rfl) (by omega)) ?_
  rintro _ w13 ⟨AsX, csX, rfl, S14⟩
  refine ⟨_, rfl, ?_⟩
  have S15 : St none' w w13 [vec 5 1 (.slice AsX 512 csX) 512 ((sec3 X).map bv), row g5 #[.int .i64 k2, .int .i64 n2, .int .i64 o2, .slice B r.length cb] 35, row g1 #[.int .i64 k1, .int .i64 n1, .int .i64 o1, .slice A l.length ca] 35] := St.permT [vec 5 1 (.slice AsX 512 csX) 512 ((sec3 X).map bv), vec 5 1 (.slice AX X.length cX) X.length (X.map bv), row g5 #[.int .i64 k2, .int .i64 n2, .int .i64 o2, .slice B r.length cb] 35, row g1 #[.int .i64 k1, .int .i64 n1, .int .i64 o1, .slice A l.length ca] 35] [0, 2, 3] (by decide) rfl S14
  refine pv (.slice AsX 512 csX) ?_
  refine wl_end (fr [.agg #[iv k1, iv n1, iv o1, .slice A l.length ca], .agg #[iv k2, iv n2, iv o2, .slice B r.length cb], iv no, .slice D d.length cd, iv cut, .bool back, pq g1, pq g5, ud, ud, ud, ud, fv, .slice AsX 512 csX, ud, ud, ud, ud, ud, tv, fv, .agg #[iv k1, iv n1, iv o1, .slice A l.length ca], .slice AX X.length cX, .slice AsX 512 csX] 33) (by kernel_rfl) ?_
  refine then_n ?_
  refine wp_seq ?_
  refine wp_region_lit ?_
  refine wl_gv rfl (gv_ldA (k := 0) (n := 4) (vs := [.int .i64 k2, .int .i64 n2, .int .i64 o2, .slice B r.length cb]) S15 1 rfl rfl (by kernel_rfl) (by kernel_rfl) rfl rfl ?_)
  refine wl_gv rfl (gv_call (args := #[.agg #[.int .i64 k2, .int .i64 n2, .int .i64 o2, .slice B r.length cb]]) rfl Try.func14 (by kernel_rfl) rfl rfl (by kernel_rfl) ?_)
  refine Calls.mono (made_all S15 (hR _) hrm) ?_
  rintro _ w16 ⟨AY, cY, Y, rfl, hYm, S17⟩
  refine ⟨_, rfl, ?_⟩
  refine wl_gv rfl (gv_call (args := #[.slice AY Y.length cY]) rfl Try.func18 (by kernel_rfl) rfl rfl (by kernel_rfl) ?_)
  refine Calls.mono (se3 (l := Y) S17 (RoT.ofVec 0 rfl) (by omega)) ?_
  rintro _ w18 ⟨AsY, csY, rfl, S19⟩
  refine ⟨_, rfl, ?_⟩
  have S20 : St none' w w18 [vec 5 1 (.slice AsY 512 csY) 512 ((sec3 Y).map bv), vec 5 1 (.slice AsX 512 csX) 512 ((sec3 X).map bv), row g5 #[.int .i64 k2, .int .i64 n2, .int .i64 o2, .slice B r.length cb] 35, row g1 #[.int .i64 k1, .int .i64 n1, .int .i64 o1, .slice A l.length ca] 35] := St.permT [vec 5 1 (.slice AsY 512 csY) 512 ((sec3 Y).map bv), vec 5 1 (.slice AY Y.length cY) Y.length (Y.map bv), vec 5 1 (.slice AsX 512 csX) 512 ((sec3 X).map bv), row g5 #[.int .i64 k2, .int .i64 n2, .int .i64 o2, .slice B r.length cb] 35, row g1 #[.int .i64 k1, .int .i64 n1, .int .i64 o1, .slice A l.length ca] 35] [0, 2, 3, 4] (by decide) rfl S19
  refine pv (.slice AsY 512 csY) ?_
  refine wl_end (fr [.agg #[iv k1, iv n1, iv o1, .slice A l.length ca], .agg #[iv k2, iv n2, iv o2, .slice B r.length cb], iv no, .slice D d.length cd, iv cut, .bool back, pq g1, pq g5, ud, ud, ud, ud, fv, .slice AsX 512 csX, .slice AsY 512 csY, ud, ud, ud, ud, tv, fv, .agg #[iv k1, iv n1, iv o1, .slice A l.length ca], .slice AX X.length cX, .slice AsX 512 csX, .agg #[iv k2, iv n2, iv o2, .slice B r.length cb], .slice AY Y.length cY, .slice AsY 512 csY] 30) (by kernel_rfl) ?_
  refine then_n ?_
  refine wp_seq ?_
  refine wp_region_lit ?_
  refine pv (.slice AsX 512 csX) ?_
  refine pv (.slice AsY 512 csY) ?_
  refine pv (iv no) ?_
  refine pv (.slice D d.length cd) ?_
  refine wl_gv rfl (gv_call (args := #[.slice D d.length cd, .int .i64 496]) rfl Try.func16 (by kernel_rfl) rfl rfl (by kernel_rfl) ?_)
  refine Calls.mono (up3 (n := 496) (l := d) S20 (hD _) (by omega)) ?_
  rintro _ w21 ⟨A23, c24, rfl, S22⟩
  refine ⟨_, rfl, ?_⟩
  refine pv (iv cut) ?_
  refine wl_gv rfl (gv_call (args := #[.int .i64 cut]) rfl Try.func21 (by kernel_rfl) rfl rfl (by kernel_rfl) ?_)
  refine Calls.mono (cutOf_all (n := cut)) ?_
  rintro _ _ ⟨k25, rfl, hk25, rfl⟩
  refine ⟨_, rfl, ?_⟩
  refine pv (.bool back) ?_
  refine wl_gv rfl (gv_call (args := #[.slice AsX 512 csX, .slice AsY 512 csY, .int .i64 no, .slice A23 ((d.take (496 : Int).toNat).length) c24, .int .i64 ((k25 : Nat) : Int), .bool back]) rfl Try.func20 (by kernel_rfl) rfl rfl (by kernel_rfl) ?_)
  refine Calls.mono (renews_all (a := sec3 X) (b := sec3 Y) (d := (d.take (496 : Int).toNat)) (no := no) (c := k25) (back := back) S22 (sec3_len X).symm (sec3_len Y).symm rfl (RoT.ofVec 2 rfl) (RoT.ofVec 1 rfl) (RoT.ofVec 0 rfl) (sec3_len X) (sec3_len Y) hd4 hk25 hno) ?_
  rintro _ w26 (⟨rfl, _, S27⟩ | ⟨P28, Q29, cp30, cq31, mm32, rfl, _, _, _, _, S27⟩)
  · refine ⟨_, rfl, ?_⟩
    refine pv (.tuple #[tv, iv 0, .slice none 0 0, .slice none 0 0]) ?_
    refine pv tv ?_
    refine pv (iv 0) ?_
    refine pv (.slice none 0 0) ?_
    refine pv (.slice none 0 0) ?_
    refine pv tv ?_
    refine pv (iv 0) ?_
    refine pv (.slice none 0 0) ?_
    refine pv (.slice none 0 0) ?_
    refine wl_end (fr [.agg #[iv k1, iv n1, iv o1, .slice A l.length ca], .agg #[iv k2, iv n2, iv o2, .slice B r.length cb], iv no, .slice D d.length cd, iv cut, .bool back, pq g1, pq g5, ud, ud, ud, ud, fv, .slice AsX 512 csX, .slice AsY 512 csY, tv, iv 0, .slice none 0 0, .slice none 0 0, tv, fv, .agg #[iv k1, iv n1, iv o1, .slice A l.length ca], .slice AX X.length cX, .slice AsX 512 csX, .agg #[iv k2, iv n2, iv o2, .slice B r.length cb], .slice AY Y.length cY, .slice AsY 512 csY, .tuple #[tv, iv 0, .slice none 0 0, .slice none 0 0], .slice AsX 512 csX, .slice AsY 512 csY, iv no, .slice D d.length cd, .slice A23 ((d.take (496 : Int).toNat).length) c24, iv cut, iv ((k25 : Nat) : Int), .bool back, .tuple #[tv, iv 0, .slice none 0 0, .slice none 0 0], tv, iv 0, .slice none 0 0, .slice none 0 0] 16) (by kernel_rfl) ?_
    refine then_n ?_
    refine wp_seq ?_
    refine wp_seq ?_
    refine wp_region_lit ?_
    refine pv tv ?_
    refine pv fv ?_
    refine wl_end (fr [.agg #[iv k1, iv n1, iv o1, .slice A l.length ca], .agg #[iv k2, iv n2, iv o2, .slice B r.length cb], iv no, .slice D d.length cd, iv cut, .bool back, pq g1, pq g5, ud, ud, ud, ud, fv, .slice AsX 512 csX, .slice AsY 512 csY, tv, iv 0, .slice none 0 0, .slice none 0 0, tv, fv, .agg #[iv k1, iv n1, iv o1, .slice A l.length ca], .slice AX X.length cX, .slice AsX 512 csX, .agg #[iv k2, iv n2, iv o2, .slice B r.length cb], .slice AY Y.length cY, .slice AsY 512 csY, .tuple #[tv, iv 0, .slice none 0 0, .slice none 0 0], .slice AsX 512 csX, .slice AsY 512 csY, iv no, .slice D d.length cd, .slice A23 ((d.take (496 : Int).toNat).length) c24, iv cut, iv ((k25 : Nat) : Int), .bool back, .tuple #[tv, iv 0, .slice none 0 0, .slice none 0 0], tv, iv 0, .slice none 0 0, .slice none 0 0, tv, fv] 14) (by kernel_rfl) ?_
    refine then_n ?_
    refine wp_cond_false (by kernel_rfl) ?_
    refine wp_skip ?_
    refine then_n ?_
    refine wp_seq ?_
    refine wp_region_lit ?_
    refine pv (.slice AsX 512 csX) ?_
    refine pv (.slice AsY 512 csY) ?_
    refine pv (.slice D d.length cd) ?_
    refine wl_gv rfl (gv_call (args := #[.slice D d.length cd, .int .i64 496]) rfl Try.func16 (by kernel_rfl) rfl rfl (by kernel_rfl) ?_)
    refine Calls.mono (up3 (n := 496) (l := d) S27 (hD _) (by omega)) ?_
    rintro _ w33 ⟨A35, c36, rfl, S34⟩
    refine ⟨_, rfl, ?_⟩
    refine pv (iv cut) ?_
    refine wl_gv rfl (gv_call (args := #[.int .i64 cut]) rfl Try.func21 (by kernel_rfl) rfl rfl (by kernel_rfl) ?_)
    refine Calls.mono (cutOf_all (n := cut)) ?_
    rintro _ _ ⟨k37, rfl, hk37, rfl⟩
    refine ⟨_, rfl, ?_⟩
    refine pv (.bool back) ?_
    refine wl_gv rfl (gv_call (args := #[.slice AsX 512 csX, .slice AsY 512 csY, .int .i64 1, .slice A35 ((d.take (496 : Int).toNat).length) c36, .int .i64 ((k37 : Nat) : Int), .bool back]) rfl Try.func20 (by kernel_rfl) rfl rfl (by kernel_rfl) ?_)
    refine Calls.mono (renews_all (a := sec3 X) (b := sec3 Y) (d := (d.take (496 : Int).toNat)) (no := 1) (c := k37) (back := back) S34 (sec3_len X).symm (sec3_len Y).symm rfl (RoT.ofVec 3 rfl) (RoT.ofVec 2 rfl) (RoT.ofVec 0 rfl) (sec3_len X) (sec3_len Y) hd4 hk37 (by decide)) ?_
    rintro _ w38 (⟨rfl, _, S39⟩ | ⟨P40, Q41, cp42, cq43, mm44, rfl, _, _, _, _, S39⟩)
    · refine ⟨_, rfl, ?_⟩
      refine pv (.tuple #[tv, iv 0, .slice none 0 0, .slice none 0 0]) ?_
      refine pv tv ?_
      refine pv (iv 0) ?_
      refine pv (.slice none 0 0) ?_
      refine pv (.slice none 0 0) ?_
      refine pv tv ?_
      refine wl_end (fr [.agg #[iv k1, iv n1, iv o1, .slice A l.length ca], .agg #[iv k2, iv n2, iv o2, .slice B r.length cb], iv no, .slice D d.length cd, iv cut, .bool back, pq g1, pq g5, ud, ud, ud, ud, fv, .slice AsX 512 csX, .slice AsY 512 csY, tv, iv 0, .slice none 0 0, .slice none 0 0, tv, fv, .agg #[iv k1, iv n1, iv o1, .slice A l.length ca], .slice AX X.length cX, .slice AsX 512 csX, .agg #[iv k2, iv n2, iv o2, .slice B r.length cb], .slice AY Y.length cY, .slice AsY 512 csY, .tuple #[tv, iv 0, .slice none 0 0, .slice none 0 0], .slice AsX 512 csX, .slice AsY 512 csY, iv no, .slice D d.length cd, .slice A23 ((d.take (496 : Int).toNat).length) c24, iv cut, iv ((k25 : Nat) : Int), .bool back, .tuple #[tv, iv 0, .slice none 0 0, .slice none 0 0], tv, iv 0, .slice none 0 0, .slice none 0 0, tv, fv, .tuple #[tv, iv 0, .slice none 0 0, .slice none 0 0], .slice AsX 512 csX, .slice AsY 512 csY, .slice D d.length cd, .slice A35 ((d.take (496 : Int).toNat).length) c36, iv cut, iv ((k37 : Nat) : Int), .bool back, .tuple #[tv, iv 0, .slice none 0 0, .slice none 0 0], tv, iv 0, .slice none 0 0, .slice none 0 0] 1) (by kernel_rfl) ?_
      refine then_n ?_
      refine wp_seq ?_
      refine wp_region_lit ?_
      refine pv tv ?_
      refine pv tv ?_
      refine wl_end (fr [.agg #[iv k1, iv n1, iv o1, .slice A l.length ca], .agg #[iv k2, iv n2, iv o2, .slice B r.length cb], iv no, .slice D d.length cd, iv cut, .bool back, pq g1, pq g5, ud, ud, ud, ud, tv, .slice AsX 512 csX, .slice AsY 512 csY, tv, iv 0, .slice none 0 0, .slice none 0 0, tv, fv, .agg #[iv k1, iv n1, iv o1, .slice A l.length ca], .slice AX X.length cX, .slice AsX 512 csX, .agg #[iv k2, iv n2, iv o2, .slice B r.length cb], .slice AY Y.length cY, .slice AsY 512 csY, .tuple #[tv, iv 0, .slice none 0 0, .slice none 0 0], .slice AsX 512 csX, .slice AsY 512 csY, iv no, .slice D d.length cd, .slice A23 ((d.take (496 : Int).toNat).length) c24, iv cut, iv ((k25 : Nat) : Int), .bool back, .tuple #[tv, iv 0, .slice none 0 0, .slice none 0 0], tv, iv 0, .slice none 0 0, .slice none 0 0, tv, fv, .tuple #[tv, iv 0, .slice none 0 0, .slice none 0 0], .slice AsX 512 csX, .slice AsY 512 csY, .slice D d.length cd, .slice A35 ((d.take (496 : Int).toNat).length) c36, iv cut, iv ((k37 : Nat) : Int), .bool back, .tuple #[tv, iv 0, .slice none 0 0, .slice none 0 0], tv, iv 0, .slice none 0 0, .slice none 0 0, tv] 0) (by kernel_rfl) ?_
      refine then_n ?_
      refine wp_ret ?_
      refine bodyPost_ret (v := .bool true) (results_t1 rfl (by kernel_rfl)) rfl ?_
      exact ⟨rfl, S39.fr.below⟩
    · refine ⟨_, rfl, ?_⟩
      have S45 : St none' w w38 [vec 5 1 (.slice A35 ((d.take (496 : Int).toNat).length) c36) ((d.take (496 : Int).toNat).length) ((d.take (496 : Int).toNat).map bv), vec 5 1 (.slice A23 ((d.take (496 : Int).toNat).length) c24) ((d.take (496 : Int).toNat).length) ((d.take (496 : Int).toNat).map bv), vec 5 1 (.slice AsY 512 csY) 512 ((sec3 Y).map bv), vec 5 1 (.slice AsX 512 csX) 512 ((sec3 X).map bv), row g5 #[.int .i64 k2, .int .i64 n2, .int .i64 o2, .slice B r.length cb] 35, row g1 #[.int .i64 k1, .int .i64 n1, .int .i64 o1, .slice A l.length ca] 35] := St.tail (St.tail S39)
      refine pv (.tuple #[tv, iv ((renewF (sec3 X) (sec3 Y) 1 (d.take (496 : Int).toNat)).1 : Int), .slice P40 512 cp42, .slice Q41 512 cq43]) ?_
      refine pv tv ?_
      refine pv (iv ((renewF (sec3 X) (sec3 Y) 1 (d.take (496 : Int).toNat)).1 : Int)) ?_
      refine pv (.slice P40 512 cp42) ?_
      refine pv (.slice Q41 512 cq43) ?_
      refine pv tv ?_
      refine wl_end (fr [.agg #[iv k1, iv n1, iv o1, .slice A l.length ca], .agg #[iv k2, iv n2, iv o2, .slice B r.length cb], iv no, .slice D d.length cd, iv cut, .bool back, pq g1, pq g5, ud, ud, ud, ud, fv, .slice AsX 512 csX, .slice AsY 512 csY, tv, iv 0, .slice none 0 0, .slice none 0 0, tv, fv, .agg #[iv k1, iv n1, iv o1, .slice A l.length ca], .slice AX X.length cX, .slice AsX 512 csX, .agg #[iv k2, iv n2, iv o2, .slice B r.length cb], .slice AY Y.length cY, .slice AsY 512 csY, .tuple #[tv, iv 0, .slice none 0 0, .slice none 0 0], .slice AsX 512 csX, .slice AsY 512 csY, iv no, .slice D d.length cd, .slice A23 ((d.take (496 : Int).toNat).length) c24, iv cut, iv ((k25 : Nat) : Int), .bool back, .tuple #[tv, iv 0, .slice none 0 0, .slice none 0 0], tv, iv 0, .slice none 0 0, .slice none 0 0, tv, fv, .tuple #[tv, iv ((renewF (sec3 X) (sec3 Y) 1 (d.take (496 : Int).toNat)).1 : Int), .slice P40 512 cp42, .slice Q41 512 cq43], .slice AsX 512 csX, .slice AsY 512 csY, .slice D d.length cd, .slice A35 ((d.take (496 : Int).toNat).length) c36, iv cut, iv ((k37 : Nat) : Int), .bool back, .tuple #[tv, iv ((renewF (sec3 X) (sec3 Y) 1 (d.take (496 : Int).toNat)).1 : Int), .slice P40 512 cp42, .slice Q41 512 cq43], tv, iv ((renewF (sec3 X) (sec3 Y) 1 (d.take (496 : Int).toNat)).1 : Int), .slice P40 512 cp42, .slice Q41 512 cq43] 1) (by kernel_rfl) ?_
      refine then_n ?_
      refine wp_seq ?_
      refine wp_region_lit ?_
      refine pv tv ?_
      refine pv tv ?_
      refine wl_end (fr [.agg #[iv k1, iv n1, iv o1, .slice A l.length ca], .agg #[iv k2, iv n2, iv o2, .slice B r.length cb], iv no, .slice D d.length cd, iv cut, .bool back, pq g1, pq g5, ud, ud, ud, ud, tv, .slice AsX 512 csX, .slice AsY 512 csY, tv, iv 0, .slice none 0 0, .slice none 0 0, tv, fv, .agg #[iv k1, iv n1, iv o1, .slice A l.length ca], .slice AX X.length cX, .slice AsX 512 csX, .agg #[iv k2, iv n2, iv o2, .slice B r.length cb], .slice AY Y.length cY, .slice AsY 512 csY, .tuple #[tv, iv 0, .slice none 0 0, .slice none 0 0], .slice AsX 512 csX, .slice AsY 512 csY, iv no, .slice D d.length cd, .slice A23 ((d.take (496 : Int).toNat).length) c24, iv cut, iv ((k25 : Nat) : Int), .bool back, .tuple #[tv, iv 0, .slice none 0 0, .slice none 0 0], tv, iv 0, .slice none 0 0, .slice none 0 0, tv, fv, .tuple #[tv, iv ((renewF (sec3 X) (sec3 Y) 1 (d.take (496 : Int).toNat)).1 : Int), .slice P40 512 cp42, .slice Q41 512 cq43], .slice AsX 512 csX, .slice AsY 512 csY, .slice D d.length cd, .slice A35 ((d.take (496 : Int).toNat).length) c36, iv cut, iv ((k37 : Nat) : Int), .bool back, .tuple #[tv, iv ((renewF (sec3 X) (sec3 Y) 1 (d.take (496 : Int).toNat)).1 : Int), .slice P40 512 cp42, .slice Q41 512 cq43], tv, iv ((renewF (sec3 X) (sec3 Y) 1 (d.take (496 : Int).toNat)).1 : Int), .slice P40 512 cp42, .slice Q41 512 cq43, tv] 0) (by kernel_rfl) ?_
      refine then_n ?_
      refine wp_ret ?_
      refine bodyPost_ret (v := .bool true) (results_t1 rfl (by kernel_rfl)) rfl ?_
      exact ⟨rfl, S45.fr.below⟩
  · refine ⟨_, rfl, ?_⟩
    have S46 : St none' w w26 [vec 5 1 (.slice A23 ((d.take (496 : Int).toNat).length) c24) ((d.take (496 : Int).toNat).length) ((d.take (496 : Int).toNat).map bv), vec 5 1 (.slice AsY 512 csY) 512 ((sec3 Y).map bv), vec 5 1 (.slice AsX 512 csX) 512 ((sec3 X).map bv), row g5 #[.int .i64 k2, .int .i64 n2, .int .i64 o2, .slice B r.length cb] 35, row g1 #[.int .i64 k1, .int .i64 n1, .int .i64 o1, .slice A l.length ca] 35] := St.tail (St.tail S27)
    refine pv (.tuple #[tv, iv ((renewF (sec3 X) (sec3 Y) no (d.take (496 : Int).toNat)).1 : Int), .slice P28 512 cp30, .slice Q29 512 cq31]) ?_
    refine pv tv ?_
    refine pv (iv ((renewF (sec3 X) (sec3 Y) no (d.take (496 : Int).toNat)).1 : Int)) ?_
    refine pv (.slice P28 512 cp30) ?_
    refine pv (.slice Q29 512 cq31) ?_
    refine pv tv ?_
    refine pv (iv ((renewF (sec3 X) (sec3 Y) no (d.take (496 : Int).toNat)).1 : Int)) ?_
    refine pv (.slice P28 512 cp30) ?_
    refine pv (.slice Q29 512 cq31) ?_
    refine wl_end (fr [.agg #[iv k1, iv n1, iv o1, .slice A l.length ca], .agg #[iv k2, iv n2, iv o2, .slice B r.length cb], iv no, .slice D d.length cd, iv cut, .bool back, pq g1, pq g5, ud, ud, ud, ud, fv, .slice AsX 512 csX, .slice AsY 512 csY, tv, iv ((renewF (sec3 X) (sec3 Y) no (d.take (496 : Int).toNat)).1 : Int), .slice P28 512 cp30, .slice Q29 512 cq31, tv, fv, .agg #[iv k1, iv n1, iv o1, .slice A l.length ca], .slice AX X.length cX, .slice AsX 512 csX, .agg #[iv k2, iv n2, iv o2, .slice B r.length cb], .slice AY Y.length cY, .slice AsY 512 csY, .tuple #[tv, iv ((renewF (sec3 X) (sec3 Y) no (d.take (496 : Int).toNat)).1 : Int), .slice P28 512 cp30, .slice Q29 512 cq31], .slice AsX 512 csX, .slice AsY 512 csY, iv no, .slice D d.length cd, .slice A23 ((d.take (496 : Int).toNat).length) c24, iv cut, iv ((k25 : Nat) : Int), .bool back, .tuple #[tv, iv ((renewF (sec3 X) (sec3 Y) no (d.take (496 : Int).toNat)).1 : Int), .slice P28 512 cp30, .slice Q29 512 cq31], tv, iv ((renewF (sec3 X) (sec3 Y) no (d.take (496 : Int).toNat)).1 : Int), .slice P28 512 cp30, .slice Q29 512 cq31] 16) (by kernel_rfl) ?_
    refine then_n ?_
    refine wp_seq ?_
    refine wp_seq ?_
    refine wp_region_lit ?_
    refine pv tv ?_
    refine pv fv ?_
    refine wl_end (fr [.agg #[iv k1, iv n1, iv o1, .slice A l.length ca], .agg #[iv k2, iv n2, iv o2, .slice B r.length cb], iv no, .slice D d.length cd, iv cut, .bool back, pq g1, pq g5, ud, ud, ud, ud, fv, .slice AsX 512 csX, .slice AsY 512 csY, tv, iv ((renewF (sec3 X) (sec3 Y) no (d.take (496 : Int).toNat)).1 : Int), .slice P28 512 cp30, .slice Q29 512 cq31, tv, fv, .agg #[iv k1, iv n1, iv o1, .slice A l.length ca], .slice AX X.length cX, .slice AsX 512 csX, .agg #[iv k2, iv n2, iv o2, .slice B r.length cb], .slice AY Y.length cY, .slice AsY 512 csY, .tuple #[tv, iv ((renewF (sec3 X) (sec3 Y) no (d.take (496 : Int).toNat)).1 : Int), .slice P28 512 cp30, .slice Q29 512 cq31], .slice AsX 512 csX, .slice AsY 512 csY, iv no, .slice D d.length cd, .slice A23 ((d.take (496 : Int).toNat).length) c24, iv cut, iv ((k25 : Nat) : Int), .bool back, .tuple #[tv, iv ((renewF (sec3 X) (sec3 Y) no (d.take (496 : Int).toNat)).1 : Int), .slice P28 512 cp30, .slice Q29 512 cq31], tv, iv ((renewF (sec3 X) (sec3 Y) no (d.take (496 : Int).toNat)).1 : Int), .slice P28 512 cp30, .slice Q29 512 cq31, tv, fv] 14) (by kernel_rfl) ?_
    refine then_n ?_
    refine wp_cond_false (by kernel_rfl) ?_
    refine wp_skip ?_
    refine then_n ?_
    refine wp_seq ?_
    refine wp_region_lit ?_
    refine pv (.slice AsX 512 csX) ?_
    refine pv (.slice AsY 512 csY) ?_
    refine pv (.slice D d.length cd) ?_
    refine wl_gv rfl (gv_call (args := #[.slice D d.length cd, .int .i64 496]) rfl Try.func16 (by kernel_rfl) rfl rfl (by kernel_rfl) ?_)
    refine Calls.mono (up3 (n := 496) (l := d) S46 (hD _) (by omega)) ?_
    rintro _ w47 ⟨A49, c50, rfl, S48⟩
    refine ⟨_, rfl, ?_⟩
    refine pv (iv cut) ?_
    refine wl_gv rfl (gv_call (args := #[.int .i64 cut]) rfl Try.func21 (by kernel_rfl) rfl rfl (by kernel_rfl) ?_)
    refine Calls.mono (cutOf_all (n := cut)) ?_
    rintro _ _ ⟨k51, rfl, hk51, rfl⟩
    refine ⟨_, rfl, ?_⟩
    refine pv (.bool back) ?_
    refine wl_gv rfl (gv_call (args := #[.slice AsX 512 csX, .slice AsY 512 csY, .int .i64 1, .slice A49 ((d.take (496 : Int).toNat).length) c50, .int .i64 ((k51 : Nat) : Int), .bool back]) rfl Try.func20 (by kernel_rfl) rfl rfl (by kernel_rfl) ?_)
    refine Calls.mono (renews_all (a := sec3 X) (b := sec3 Y) (d := (d.take (496 : Int).toNat)) (no := 1) (c := k51) (back := back) S48 (sec3_len X).symm (sec3_len Y).symm rfl (RoT.ofVec 3 rfl) (RoT.ofVec 2 rfl) (RoT.ofVec 0 rfl) (sec3_len X) (sec3_len Y) hd4 hk51 (by decide)) ?_
    rintro _ w52 (⟨rfl, _, S53⟩ | ⟨P54, Q55, cp56, cq57, mm58, rfl, _, _, _, _, S53⟩)
    · refine ⟨_, rfl, ?_⟩
      refine pv (.tuple #[tv, iv 0, .slice none 0 0, .slice none 0 0]) ?_
      refine pv tv ?_
      refine pv (iv 0) ?_
      refine pv (.slice none 0 0) ?_
      refine pv (.slice none 0 0) ?_
      refine pv tv ?_
      refine wl_end (fr [.agg #[iv k1, iv n1, iv o1, .slice A l.length ca], .agg #[iv k2, iv n2, iv o2, .slice B r.length cb], iv no, .slice D d.length cd, iv cut, .bool back, pq g1, pq g5, ud, ud, ud, ud, fv, .slice AsX 512 csX, .slice AsY 512 csY, tv, iv ((renewF (sec3 X) (sec3 Y) no (d.take (496 : Int).toNat)).1 : Int), .slice P28 512 cp30, .slice Q29 512 cq31, tv, fv, .agg #[iv k1, iv n1, iv o1, .slice A l.length ca], .slice AX X.length cX, .slice AsX 512 csX, .agg #[iv k2, iv n2, iv o2, .slice B r.length cb], .slice AY Y.length cY, .slice AsY 512 csY, .tuple #[tv, iv ((renewF (sec3 X) (sec3 Y) no (d.take (496 : Int).toNat)).1 : Int), .slice P28 512 cp30, .slice Q29 512 cq31], .slice AsX 512 csX, .slice AsY 512 csY, iv no, .slice D d.length cd, .slice A23 ((d.take (496 : Int).toNat).length) c24, iv cut, iv ((k25 : Nat) : Int), .bool back, .tuple #[tv, iv ((renewF (sec3 X) (sec3 Y) no (d.take (496 : Int).toNat)).1 : Int), .slice P28 512 cp30, .slice Q29 512 cq31], tv, iv ((renewF (sec3 X) (sec3 Y) no (d.take (496 : Int).toNat)).1 : Int), .slice P28 512 cp30, .slice Q29 512 cq31, tv, fv, .tuple #[tv, iv 0, .slice none 0 0, .slice none 0 0], .slice AsX 512 csX, .slice AsY 512 csY, .slice D d.length cd, .slice A49 ((d.take (496 : Int).toNat).length) c50, iv cut, iv ((k51 : Nat) : Int), .bool back, .tuple #[tv, iv 0, .slice none 0 0, .slice none 0 0], tv, iv 0, .slice none 0 0, .slice none 0 0] 1) (by kernel_rfl) ?_
      refine then_n ?_
      refine wp_seq ?_
      refine wp_region_lit ?_
      refine pv tv ?_
      refine pv tv ?_
      refine wl_end (fr [.agg #[iv k1, iv n1, iv o1, .slice A l.length ca], .agg #[iv k2, iv n2, iv o2, .slice B r.length cb], iv no, .slice D d.length cd, iv cut, .bool back, pq g1, pq g5, ud, ud, ud, ud, tv, .slice AsX 512 csX, .slice AsY 512 csY, tv, iv ((renewF (sec3 X) (sec3 Y) no (d.take (496 : Int).toNat)).1 : Int), .slice P28 512 cp30, .slice Q29 512 cq31, tv, fv, .agg #[iv k1, iv n1, iv o1, .slice A l.length ca], .slice AX X.length cX, .slice AsX 512 csX, .agg #[iv k2, iv n2, iv o2, .slice B r.length cb], .slice AY Y.length cY, .slice AsY 512 csY, .tuple #[tv, iv ((renewF (sec3 X) (sec3 Y) no (d.take (496 : Int).toNat)).1 : Int), .slice P28 512 cp30, .slice Q29 512 cq31], .slice AsX 512 csX, .slice AsY 512 csY, iv no, .slice D d.length cd, .slice A23 ((d.take (496 : Int).toNat).length) c24, iv cut, iv ((k25 : Nat) : Int), .bool back, .tuple #[tv, iv ((renewF (sec3 X) (sec3 Y) no (d.take (496 : Int).toNat)).1 : Int), .slice P28 512 cp30, .slice Q29 512 cq31], tv, iv ((renewF (sec3 X) (sec3 Y) no (d.take (496 : Int).toNat)).1 : Int), .slice P28 512 cp30, .slice Q29 512 cq31, tv, fv, .tuple #[tv, iv 0, .slice none 0 0, .slice none 0 0], .slice AsX 512 csX, .slice AsY 512 csY, .slice D d.length cd, .slice A49 ((d.take (496 : Int).toNat).length) c50, iv cut, iv ((k51 : Nat) : Int), .bool back, .tuple #[tv, iv 0, .slice none 0 0, .slice none 0 0], tv, iv 0, .slice none 0 0, .slice none 0 0, tv] 0) (by kernel_rfl) ?_
      refine then_n ?_
      refine wp_ret ?_
      refine bodyPost_ret (v := .bool true) (results_t1 rfl (by kernel_rfl)) rfl ?_
      exact ⟨rfl, S53.fr.below⟩
    · refine ⟨_, rfl, ?_⟩
      have S59 : St none' w w52 [vec 5 1 (.slice A49 ((d.take (496 : Int).toNat).length) c50) ((d.take (496 : Int).toNat).length) ((d.take (496 : Int).toNat).map bv), vec 5 1 (.slice A23 ((d.take (496 : Int).toNat).length) c24) ((d.take (496 : Int).toNat).length) ((d.take (496 : Int).toNat).map bv), vec 5 1 (.slice AsY 512 csY) 512 ((sec3 Y).map bv), vec 5 1 (.slice AsX 512 csX) 512 ((sec3 X).map bv), row g5 #[.int .i64 k2, .int .i64 n2, .int .i64 o2, .slice B r.length cb] 35, row g1 #[.int .i64 k1, .int .i64 n1, .int .i64 o1, .slice A l.length ca] 35] := St.tail (St.tail S53)
      refine pv (.tuple #[tv, iv ((renewF (sec3 X) (sec3 Y) 1 (d.take (496 : Int).toNat)).1 : Int), .slice P54 512 cp56, .slice Q55 512 cq57]) ?_
      refine pv tv ?_
      refine pv (iv ((renewF (sec3 X) (sec3 Y) 1 (d.take (496 : Int).toNat)).1 : Int)) ?_
      refine pv (.slice P54 512 cp56) ?_
      refine pv (.slice Q55 512 cq57) ?_
      refine pv tv ?_
      refine wl_end (fr [.agg #[iv k1, iv n1, iv o1, .slice A l.length ca], .agg #[iv k2, iv n2, iv o2, .slice B r.length cb], iv no, .slice D d.length cd, iv cut, .bool back, pq g1, pq g5, ud, ud, ud, ud, fv, .slice AsX 512 csX, .slice AsY 512 csY, tv, iv ((renewF (sec3 X) (sec3 Y) no (d.take (496 : Int).toNat)).1 : Int), .slice P28 512 cp30, .slice Q29 512 cq31, tv, fv, .agg #[iv k1, iv n1, iv o1, .slice A l.length ca], .slice AX X.length cX, .slice AsX 512 csX, .agg #[iv k2, iv n2, iv o2, .slice B r.length cb], .slice AY Y.length cY, .slice AsY 512 csY, .tuple #[tv, iv ((renewF (sec3 X) (sec3 Y) no (d.take (496 : Int).toNat)).1 : Int), .slice P28 512 cp30, .slice Q29 512 cq31], .slice AsX 512 csX, .slice AsY 512 csY, iv no, .slice D d.length cd, .slice A23 ((d.take (496 : Int).toNat).length) c24, iv cut, iv ((k25 : Nat) : Int), .bool back, .tuple #[tv, iv ((renewF (sec3 X) (sec3 Y) no (d.take (496 : Int).toNat)).1 : Int), .slice P28 512 cp30, .slice Q29 512 cq31], tv, iv ((renewF (sec3 X) (sec3 Y) no (d.take (496 : Int).toNat)).1 : Int), .slice P28 512 cp30, .slice Q29 512 cq31, tv, fv, .tuple #[tv, iv ((renewF (sec3 X) (sec3 Y) 1 (d.take (496 : Int).toNat)).1 : Int), .slice P54 512 cp56, .slice Q55 512 cq57], .slice AsX 512 csX, .slice AsY 512 csY, .slice D d.length cd, .slice A49 ((d.take (496 : Int).toNat).length) c50, iv cut, iv ((k51 : Nat) : Int), .bool back, .tuple #[tv, iv ((renewF (sec3 X) (sec3 Y) 1 (d.take (496 : Int).toNat)).1 : Int), .slice P54 512 cp56, .slice Q55 512 cq57], tv, iv ((renewF (sec3 X) (sec3 Y) 1 (d.take (496 : Int).toNat)).1 : Int), .slice P54 512 cp56, .slice Q55 512 cq57] 1) (by kernel_rfl) ?_
      refine then_n ?_
      refine wp_seq ?_
      refine wp_region_lit ?_
      refine pv tv ?_
      refine pv tv ?_
      refine wl_end (fr [.agg #[iv k1, iv n1, iv o1, .slice A l.length ca], .agg #[iv k2, iv n2, iv o2, .slice B r.length cb], iv no, .slice D d.length cd, iv cut, .bool back, pq g1, pq g5, ud, ud, ud, ud, tv, .slice AsX 512 csX, .slice AsY 512 csY, tv, iv ((renewF (sec3 X) (sec3 Y) no (d.take (496 : Int).toNat)).1 : Int), .slice P28 512 cp30, .slice Q29 512 cq31, tv, fv, .agg #[iv k1, iv n1, iv o1, .slice A l.length ca], .slice AX X.length cX, .slice AsX 512 csX, .agg #[iv k2, iv n2, iv o2, .slice B r.length cb], .slice AY Y.length cY, .slice AsY 512 csY, .tuple #[tv, iv ((renewF (sec3 X) (sec3 Y) no (d.take (496 : Int).toNat)).1 : Int), .slice P28 512 cp30, .slice Q29 512 cq31], .slice AsX 512 csX, .slice AsY 512 csY, iv no, .slice D d.length cd, .slice A23 ((d.take (496 : Int).toNat).length) c24, iv cut, iv ((k25 : Nat) : Int), .bool back, .tuple #[tv, iv ((renewF (sec3 X) (sec3 Y) no (d.take (496 : Int).toNat)).1 : Int), .slice P28 512 cp30, .slice Q29 512 cq31], tv, iv ((renewF (sec3 X) (sec3 Y) no (d.take (496 : Int).toNat)).1 : Int), .slice P28 512 cp30, .slice Q29 512 cq31, tv, fv, .tuple #[tv, iv ((renewF (sec3 X) (sec3 Y) 1 (d.take (496 : Int).toNat)).1 : Int), .slice P54 512 cp56, .slice Q55 512 cq57], .slice AsX 512 csX, .slice AsY 512 csY, .slice D d.length cd, .slice A49 ((d.take (496 : Int).toNat).length) c50, iv cut, iv ((k51 : Nat) : Int), .bool back, .tuple #[tv, iv ((renewF (sec3 X) (sec3 Y) 1 (d.take (496 : Int).toNat)).1 : Int), .slice P54 512 cp56, .slice Q55 512 cq57], tv, iv ((renewF (sec3 X) (sec3 Y) 1 (d.take (496 : Int).toNat)).1 : Int), .slice P54 512 cp56, .slice Q55 512 cq57, tv] 0) (by kernel_rfl) ?_
      refine then_n ?_
      refine wp_ret ?_
      refine bodyPost_ret (v := .bool true) (results_t1 rfl (by kernel_rfl)) rfl ?_
      exact ⟨rfl, S59.fr.below⟩
end Go.Proofs
