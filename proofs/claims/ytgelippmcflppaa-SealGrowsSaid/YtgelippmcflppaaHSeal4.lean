/- Renew of the document and of the program, over owned memory. -/
import Derived.Test.YtgelippmcflppaaHSeal3
open Go Go.RowKit Go.Proofs.YtgelippmcflppaaW.PrintWords Go.Proofs.YtgelippmcflppaaW.PrintMore
namespace Go.Proofs
open Go.Vel
set_option linter.unusedVariables false
set_option maxRecDepth 100000
set_option maxHeartbeats 4000000
attribute [local irreducible] gives wpList Code.wp

theorem ps_seal' {F : Nat → Prop} {w0 w : World} {L : List Ast} (S : St F w0 w L) {A B : Option Addr} {a b : List UInt8} {m n ca cb : Nat} (hm0 : m = a.length) (hn0 : n = b.length) (ha : RoT F w0 L A a) (hb : RoT F w0 L B b) (hma : a.length ≤ 9223372036854775807) (hmb : b.length ≤ 9223372036854775807) : Calls Try.prog 24 #[.slice A m ca, .slice B n cb] w fun e w' => ∃ A c, e = .returned (.tuple #[.slice A (sealF a b).1.length c, .int .i64 ((sealF a b).2 : Int)]) ∧ St F w0 w' (bytesX (.slice A (sealF a b).1.length c) (sealF a b).1 :: L) := by
  subst hm0 hn0
  refine (ps_seal S ha hb hma hmb).mono fun e w' h => ?_
  obtain ⟨v, rfl, S2⟩ := h
  obtain ⟨A', c', rfl, _⟩ := St.bytesX_v S2
  exact ⟨A', c', rfl, S2⟩
theorem _root_.Go.Vel.St.bytesX_nil {F : Nat → Prop} {w0 w : World} {L : List Ast} (S : St F w0 w L) : St F w0 w (bytesX (.slice none 0 0) [] :: L) :=
  (St.vec_nil (e := 0) (sz := 0) S).map1 fun p _ => ⟨none, 0, rfl, Nat.le_refl _, fun w _ => RdB.nil⟩
theorem length_le8 (no : Int) : (le8 no).length = 8 := by simp [le8]
theorem le8_get (no : Int) {k : Nat} (hk : k < 8) : (le8 no).getD k 0 = UInt8.ofNat ((no / 2 ^ (8 * k)) % 256).toNat := by
  unfold le8
  rw [List.getD_eq_getElem?_getD, List.getElem?_map, List.getElem?_range hk]; rfl
theorem le8_nat {no : Int} (h : 0 ≤ no) {k : Nat} (hk : k < 8) : (le8 no).getD k 0 = UInt8.ofNat (no.toNat / 256 ^ k % 256) := by
  rw [le8_get no hk]
  obtain ⟨m, rfl⟩ : ∃ m : Nat, no = (m : Int) := ⟨no.toNat, by omega⟩
  have e : ((2 : Int) ^ (8 * k)) = ((256 ^ k : Nat) : Int) := by
    rw [show (256 : Nat) = 2 ^ 8 from rfl, ← Nat.pow_mul]; simp
  rw [e, ← Int.natCast_ediv, Int.toNat_natCast]
  congr 1
theorem bvs_set (X : List UInt8) (k : Nat) (b : UInt8) : (bvs X).setIfInBounds k (.int .u8 (b.toNat : Int)) = bvs (X.set k b) := by
  unfold bvs
  rw [List.setIfInBounds_toArray, List.map_set]; rfl
theorem fill_set {l : List UInt8} {k m : Nat} (h : k < l.length) (hm : l.length = 8) : (l.take k ++ List.replicate (8 - k + m) 0).set k (l.getD k 0) = l.take (k + 1) ++ List.replicate (8 - (k + 1) + m) 0 := by
  have hl : (l.take k).length = k := by rw [List.length_take]; omega
  rw [List.set_append_right _ _ (by omega), hl, Nat.sub_self, show 8 - k + m = (8 - (k + 1) + m) + 1 from by omega, List.replicate_succ, List.set_cons_zero, show l.take (k + 1) = l.take k ++ [l[k]] from List.take_succ_eq_append_getElem h, List.getD_eq_getElem?_getD, List.getElem?_eq_getElem h]
  show l.take k ++ l[k] :: _ = (l.take k ++ [l[k]]) ++ _
  rw [List.append_assoc]; rfl
theorem readF_lt (s : List UInt8) : (readF s).1 ≤ 9223372036854775807 := by
  unfold readF
  split
  · exact Nat.zero_le _
  · split
    · exact Nat.zero_le _
    · show leN _ ≤ _; omega
theorem newest_lt (a b : List UInt8) : (newestF a b).2.1 ≤ 9223372036854775807 := by
  unfold newestF
  split
  · split
    · exact Nat.zero_le _
    · split
      · exact readF_lt _
      · exact readF_lt _
  · exact Nat.zero_le _
theorem renew_end {a b : List UInt8} {no : Int} {d : List UInt8} (h : a.length = 512 ∧ b.length = 512) (h1 : ¬ no < 1) (h2 : ¬ 496 < d.length) (h3 : ¬ ((newestF a b).2.2.2 = 0 ∧ no ≤ ((newestF a b).2.1 : Int))) : renewF a b no d = if (newestF a b).2.2.2 = 0 ∧ (newestF a b).1 = 0 then (1, (sealF b (le8 no ++ d)).1, (sealF b (le8 no ++ d)).2) else (0, (sealF a (le8 no ++ d)).1, (sealF a (le8 no ++ d)).2) := by
  rw [renew_mid h h1 h2, if_neg h3]
theorem ps_pair_bad {F : Nat → Prop} {w0 w : World} {L : List Ast} (S : St F w0 w L) {A B : Option Addr} {a b : List UInt8} {ca cb : Nat} (ha : RoT F w0 L A a) (hb : RoT F w0 L B b) (hma : a.length ≤ 9223372036854775807) (hmb : b.length ≤ 9223372036854775807) (hl : ¬ (a.length = 512 ∧ b.length = 512)) : Calls Try.prog 47 #[.slice A a.length ca, .slice B b.length cb] w fun e w' => e = .returned (.tuple #[.agg #[.int .i64 0, .slice none 0 0, .int .i64 0, .slice none 0 0], .int .i64 (-1), .int .i64 2]) ∧ St F w0 w' L := by
  have h := pair_any w A ca a B cb b (ha.to_C S hma) (hb.to_C S hmb)
  rw [len_ofB, len_ofB] at h
  refine h.mono fun e w' h => ?_
  unfold RetPair at h
  rw [if_neg hl] at h
  exact ⟨h.1, S.below h.2⟩
theorem ps_renew {F : Nat → Prop} {w0 w : World} {L : List Ast} (S : St F w0 w L) {A B D : Option Addr} {a b d : List UInt8} {ca cb cd : Nat} {no : Int} (ha : RoT F w0 L A a) (hb : RoT F w0 L B b) (hd : RoT F w0 L D d) (hma : a.length ≤ 9223372036854775807) (hmb : b.length ≤ 9223372036854775807) (hmd : d.length ≤ 140737488355328) (hno : no ≤ 9223372036854775807) : Calls Try.prog 33 #[.slice A a.length ca, .slice B b.length cb, .int .i64 no, .slice D d.length cd] w fun e w' => ∃ A c, e = .returned (.tuple #[.int .i64 ((renewF a b no d).1 : Int), .slice A (renewF a b no d).2.1.length c, .int .i64 ((renewF a b no d).2.2 : Int)]) ∧ St F w0 w' (bytesX (.slice A (renewF a b no d).2.1.length c) (renewF a b no d).2.1 :: L) := by
  have h8 := length_le8 no
  by_cases hl : ¬ (a.length = 512 ∧ b.length = 512)
  · skip
    refine wp_enter (fr [.slice A a.length ca, .slice B b.length cb, iv no, .slice D d.length cd] 77) Try.func33 rfl (by kernel_rfl) ?_
    refine wp_seq ?_
    refine wp_region_lit ?_
    refine pv (iv 0) ?_
    refine pv (.slice none 0 0) ?_
    refine pv (iv 0) ?_
    refine wl_end (fr [.slice A a.length ca, .slice B b.length cb, iv no, .slice D d.length cd, ud, ud, ud, ud, iv 0, .slice none 0 0, iv 0] 70) (by kernel_rfl) ?_
    refine then_n ?_
    refine wp_seq ?_
    refine wp_region_lit ?_
    refine pv (.slice A a.length ca) ?_
    refine pv (.slice B b.length cb) ?_
    refine wl_gv rfl (gv_call (args := #[.slice A a.length ca, .slice B b.length cb]) rfl Try.func47 (by kernel_rfl) rfl rfl (by kernel_rfl) ?_)
    refine Calls.mono (ps_pair_bad S ha hb hma hmb hl) ?_
    rintro _ w1 ⟨rfl, S2⟩
    refine ⟨_, rfl, ?_⟩
    refine pv (.tuple #[.agg #[iv 0, .slice none 0 0, iv 0, .slice none 0 0], iv (-1), iv 2]) ?_
    refine pv (.agg #[iv 0, .slice none 0 0, iv 0, .slice none 0 0]) ?_
    refine pv (iv (-1)) ?_
    refine pv (iv 2) ?_
    refine wl_gv rfl (gv_new (z := .agg #[.int .i64 0, .slice none 0 0, .int .i64 0, .slice none 0 0]) S2 rfl (by kernel_rfl) (fun g3 w4 hg5 S6 => ?_))
    refine wl_gv rfl (gv_stA (k := 0) (vs := [.int .i64 0, .slice none 0 0, .int .i64 0, .slice none 0 0]) S6 0 rfl rfl (by kernel_rfl) (by kernel_rfl) (by kernel_rfl) rfl (by simp [Value.oneCell']) (Nat.le_of_ble_eq_true (by kernel_rfl)) (L' := (row g3 #[.int .i64 0, .slice none 0 0, .int .i64 0, .slice none 0 0] 100 :: L)) rfl (fun w7 S8 => ?_))
    refine pv (iv (-1)) ?_
    refine pv (iv 2) ?_
    refine wl_end (fr [.slice A a.length ca, .slice B b.length cb, iv no, .slice D d.length cd, ud, ud, ud, ud, iv 0, .slice none 0 0, iv 0, pq g3, iv (-1), iv 2, ud, ud, ud, ud, ud, .tuple #[.agg #[iv 0, .slice none 0 0, iv 0, .slice none 0 0], iv (-1), iv 2], .slice A a.length ca, .slice B b.length cb, .tuple #[.agg #[iv 0, .slice none 0 0, iv 0, .slice none 0 0], iv (-1), iv 2], .agg #[iv 0, .slice none 0 0, iv 0, .slice none 0 0], iv (-1), iv 2] 55) (by kernel_rfl) ?_
    refine then_n ?_
    refine wp_seq ?_
    refine wp_block ?_
    refine wp_seq ?_
    refine wp_region_lit ?_
    refine pv (iv 2) ?_
    refine wl_gv rfl (gv_ne (x := 2) (y := 0) (by kernel_rfl) (fun _ => ?_) (fun hd9 => False.elim (absurd hd9 (by decide))))
    refine pv tv ?_
    refine wl_end (fr [.slice A a.length ca, .slice B b.length cb, iv no, .slice D d.length cd, ud, ud, ud, ud, iv 0, .slice none 0 0, iv 0, pq g3, iv (-1), iv 2, ud, ud, ud, ud, ud, .tuple #[.agg #[iv 0, .slice none 0 0, iv 0, .slice none 0 0], iv (-1), iv 2], .slice A a.length ca, .slice B b.length cb, .tuple #[.agg #[iv 0, .slice none 0 0, iv 0, .slice none 0 0], iv (-1), iv 2], .agg #[iv 0, .slice none 0 0, iv 0, .slice none 0 0], iv (-1), iv 2, tv, iv 2, tv] 52) (by kernel_rfl) ?_
    refine then_n ?_
    refine wp_cond_true (by kernel_rfl) ?_
    refine wp_seq ?_
    refine wp_region_lit ?_
    refine pv (iv 2) ?_
    refine pv (iv 0) ?_
    refine pv (.slice none 0 0) ?_
    refine pv (iv 2) ?_
    refine wl_end (fr [.slice A a.length ca, .slice B b.length cb, iv no, .slice D d.length cd, ud, ud, ud, ud, iv 0, .slice none 0 0, iv 2, pq g3, iv (-1), iv 2, ud, ud, ud, ud, ud, .tuple #[.agg #[iv 0, .slice none 0 0, iv 0, .slice none 0 0], iv (-1), iv 2], .slice A a.length ca, .slice B b.length cb, .tuple #[.agg #[iv 0, .slice none 0 0, iv 0, .slice none 0 0], iv (-1), iv 2], .agg #[iv 0, .slice none 0 0, iv 0, .slice none 0 0], iv (-1), iv 2, tv, iv 2, tv, iv 2] 51) (by kernel_rfl) ?_
    refine then_n ?_
    refine wp_ret ?_
    refine inb_r ?_
    refine then_r ?_
    refine bodyPost_ret (v := .tuple #[.int .i64 0, .slice none 0 0, .int .i64 2]) (Go.Vel.results_tmp3 rfl _ _ (by kernel_rfl) (by kernel_rfl) (by kernel_rfl)) rfl ?_
    have e : renewF a b no d = (0, [], 2) := by unfold renewF; rw [if_pos hl]
    rw [e]
    have S10 : St F w0 w7 (L) := St.permT [row g3 #[.int .i64 0, .slice none 0 0, .int .i64 0, .slice none 0 0] 100] [] (by decide) rfl S8
    exact ⟨none, 0, rfl, St.bytesX_nil S10⟩
  have hl : a.length = 512 ∧ b.length = 512 := by omega
  obtain ⟨m, hm⟩ : ∃ m, m = (readF a).1 := ⟨_, rfl⟩
  obtain ⟨n, hn⟩ : ∃ n, n = (readF b).1 := ⟨_, rfl⟩
  have hml := readF_lt a
  have hnl := readF_lt b
  rw [← hm] at hml
  rw [← hn] at hnl
  rcases slot_three m n with hs | hs | hs
  · have hnw := newest_none ⟨hl, hm, hn, hs⟩
    refine wp_enter (fr [.slice A a.length ca, .slice B b.length cb, iv no, .slice D d.length cd] 77) Try.func33 rfl (by kernel_rfl) ?_
    refine wp_seq ?_
    refine wp_region_lit ?_
    refine pv (iv 0) ?_
    refine pv (.slice none 0 0) ?_
    refine pv (iv 0) ?_
    refine wl_end (fr [.slice A a.length ca, .slice B b.length cb, iv no, .slice D d.length cd, ud, ud, ud, ud, iv 0, .slice none 0 0, iv 0] 70) (by kernel_rfl) ?_
    refine then_n ?_
    refine wp_seq ?_
    refine wp_region_lit ?_
    refine pv (.slice A a.length ca) ?_
    refine pv (.slice B b.length cb) ?_
    refine wl_gv rfl (gv_call (args := #[.slice A a.length ca, .slice B b.length cb]) rfl Try.func47 (by kernel_rfl) rfl rfl (by kernel_rfl) ?_)
    refine Calls.mono (ps_pair (sl := (-1)) S ha hb hl hm hn hs) ?_
    rintro _ w1 ⟨v0, v1, rfl, ho0, ho1, S2⟩
    refine ⟨_, rfl, ?_⟩
    refine pv (.tuple #[.agg #[iv ((m : Nat) : Int), v0, iv ((n : Nat) : Int), v1], iv (-1), iv 0]) ?_
    refine pv (.agg #[iv ((m : Nat) : Int), v0, iv ((n : Nat) : Int), v1]) ?_
    refine pv (iv (-1)) ?_
    refine pv (iv 0) ?_
    refine wl_gv rfl (gv_new (z := .agg #[.int .i64 0, .slice none 0 0, .int .i64 0, .slice none 0 0]) S2 rfl (by kernel_rfl) (fun g3 w4 hg5 S6 => ?_))
    refine wl_gv rfl (gv_stA (k := 0) (vs := [.int .i64 ((m : Nat) : Int), v0, .int .i64 ((n : Nat) : Int), v1]) S6 0 rfl rfl (by kernel_rfl) (by kernel_rfl) (by kernel_rfl) rfl (by intro u hu; simp only [List.mem_cons, List.not_mem_nil, or_false] at hu; rcases hu with rfl | rfl | rfl | rfl <;> first | rfl | assumption) (Nat.le_of_ble_eq_true (by kernel_rfl)) (L' := (row g3 #[.int .i64 ((m : Nat) : Int), v0, .int .i64 ((n : Nat) : Int), v1] 100 :: L)) rfl (fun w7 S8 => ?_))
    refine pv (iv (-1)) ?_
    refine pv (iv 0) ?_
    refine wl_end (fr [.slice A a.length ca, .slice B b.length cb, iv no, .slice D d.length cd, ud, ud, ud, ud, iv 0, .slice none 0 0, iv 0, pq g3, iv (-1), iv 0, ud, ud, ud, ud, ud, .tuple #[.agg #[iv ((m : Nat) : Int), v0, iv ((n : Nat) : Int), v1], iv (-1), iv 0], .slice A a.length ca, .slice B b.length cb, .tuple #[.agg #[iv ((m : Nat) : Int), v0, iv ((n : Nat) : Int), v1], iv (-1), iv 0], .agg #[iv ((m : Nat) : Int), v0, iv ((n : Nat) : Int), v1], iv (-1), iv 0] 55) (by kernel_rfl) ?_
    refine then_n ?_
    refine wp_seq ?_
    refine wp_block ?_
    refine wp_seq ?_
    refine wp_region_lit ?_
    refine pv (iv 0) ?_
    refine wl_gv rfl (gv_ne (x := 0) (y := 0) (by kernel_rfl) (fun hd9 => False.elim (hd9 (by decide))) (fun _ => ?_))
    refine pv fv ?_
    refine wl_end (fr [.slice A a.length ca, .slice B b.length cb, iv no, .slice D d.length cd, ud, ud, ud, ud, iv 0, .slice none 0 0, iv 0, pq g3, iv (-1), iv 0, ud, ud, ud, ud, ud, .tuple #[.agg #[iv ((m : Nat) : Int), v0, iv ((n : Nat) : Int), v1], iv (-1), iv 0], .slice A a.length ca, .slice B b.length cb, .tuple #[.agg #[iv ((m : Nat) : Int), v0, iv ((n : Nat) : Int), v1], iv (-1), iv 0], .agg #[iv ((m : Nat) : Int), v0, iv ((n : Nat) : Int), v1], iv (-1), iv 0, fv, iv 0, fv] 52) (by kernel_rfl) ?_
    refine then_n ?_
    refine wp_cond_false (by kernel_rfl) ?_
    refine wp_seq ?_
    refine wp_region_lit ?_
    refine pv (iv no) ?_
    refine wl_gv rfl (gv_dec (p := (no : Int) < 1) (by kernel_rfl) (fun hb10 => ?_) (fun hb10 => ?_))
    · skip
      refine pv tv ?_
      refine wl_end (fr [.slice A a.length ca, .slice B b.length cb, iv no, .slice D d.length cd, ud, ud, ud, ud, iv 0, .slice none 0 0, iv 0, pq g3, iv (-1), iv 0, ud, ud, ud, ud, ud, .tuple #[.agg #[iv ((m : Nat) : Int), v0, iv ((n : Nat) : Int), v1], iv (-1), iv 0], .slice A a.length ca, .slice B b.length cb, .tuple #[.agg #[iv ((m : Nat) : Int), v0, iv ((n : Nat) : Int), v1], iv (-1), iv 0], .agg #[iv ((m : Nat) : Int), v0, iv ((n : Nat) : Int), v1], iv (-1), iv 0, fv, iv 0, fv, ud, tv, iv no, tv] 48) (by kernel_rfl) ?_
      refine then_n ?_
      refine wp_cond_true (by kernel_rfl) ?_
      refine wp_seq ?_
      refine wp_region_lit ?_
      refine pv (iv 0) ?_
      refine pv (.slice none 0 0) ?_
      refine pv (iv 1) ?_
      refine wl_end (fr [.slice A a.length ca, .slice B b.length cb, iv no, .slice D d.length cd, ud, ud, ud, ud, iv 0, .slice none 0 0, iv 1, pq g3, iv (-1), iv 0, ud, ud, ud, ud, ud, .tuple #[.agg #[iv ((m : Nat) : Int), v0, iv ((n : Nat) : Int), v1], iv (-1), iv 0], .slice A a.length ca, .slice B b.length cb, .tuple #[.agg #[iv ((m : Nat) : Int), v0, iv ((n : Nat) : Int), v1], iv (-1), iv 0], .agg #[iv ((m : Nat) : Int), v0, iv ((n : Nat) : Int), v1], iv (-1), iv 0, fv, iv 0, fv, ud, tv, iv no, tv] 48) (by kernel_rfl) ?_
      refine then_n ?_
      refine wp_ret ?_
      refine inb_r ?_
      refine then_r ?_
      refine bodyPost_ret (v := .tuple #[.int .i64 0, .slice none 0 0, .int .i64 1]) (Go.Vel.results_tmp3 rfl _ _ (by kernel_rfl) (by kernel_rfl) (by kernel_rfl)) rfl ?_
      have e : renewF a b no d = (0, [], 1) := by unfold renewF; rw [if_neg (fun h => h hl), if_pos (by omega)]
      rw [e]
      have S11 : St F w0 w7 (L) := St.permT [row g3 #[.int .i64 ((m : Nat) : Int), v0, .int .i64 ((n : Nat) : Int), v1] 100] [] (by decide) rfl S8
      exact ⟨none, 0, rfl, St.bytesX_nil S11⟩
    · skip
      refine pv fv ?_
      refine wl_end (fr [.slice A a.length ca, .slice B b.length cb, iv no, .slice D d.length cd, ud, ud, ud, ud, iv 0, .slice none 0 0, iv 0, pq g3, iv (-1), iv 0, ud, ud, ud, ud, ud, .tuple #[.agg #[iv ((m : Nat) : Int), v0, iv ((n : Nat) : Int), v1], iv (-1), iv 0], .slice A a.length ca, .slice B b.length cb, .tuple #[.agg #[iv ((m : Nat) : Int), v0, iv ((n : Nat) : Int), v1], iv (-1), iv 0], .agg #[iv ((m : Nat) : Int), v0, iv ((n : Nat) : Int), v1], iv (-1), iv 0, fv, iv 0, fv, ud, fv, iv no, fv] 48) (by kernel_rfl) ?_
      refine then_n ?_
      refine wp_cond_false (by kernel_rfl) ?_
      refine wp_seq ?_
      refine wp_region_lit ?_
      refine pv (.slice D d.length cd) ?_
      refine pv (iv (d.length : Nat)) ?_
      refine wl_gv rfl (gv_dec (p := ((d.length : Nat) : Int) > 496) (by kernel_rfl) (fun hb12 => ?_) (fun hb12 => ?_))
      · skip
        refine pv tv ?_
        refine wl_end (fr [.slice A a.length ca, .slice B b.length cb, iv no, .slice D d.length cd, ud, ud, ud, ud, iv 0, .slice none 0 0, iv 0, pq g3, iv (-1), iv 0, ud, ud, ud, ud, ud, .tuple #[.agg #[iv ((m : Nat) : Int), v0, iv ((n : Nat) : Int), v1], iv (-1), iv 0], .slice A a.length ca, .slice B b.length cb, .tuple #[.agg #[iv ((m : Nat) : Int), v0, iv ((n : Nat) : Int), v1], iv (-1), iv 0], .agg #[iv ((m : Nat) : Int), v0, iv ((n : Nat) : Int), v1], iv (-1), iv 0, fv, iv 0, fv, ud, fv, iv no, fv, tv, .slice D d.length cd, iv (d.length : Nat), tv] 44) (by kernel_rfl) ?_
        refine then_n ?_
        refine wp_cond_true (by kernel_rfl) ?_
        refine wp_seq ?_
        refine wp_region_lit ?_
        refine pv (iv 0) ?_
        refine pv (.slice none 0 0) ?_
        refine pv (iv 7) ?_
        refine wl_end (fr [.slice A a.length ca, .slice B b.length cb, iv no, .slice D d.length cd, ud, ud, ud, ud, iv 0, .slice none 0 0, iv 7, pq g3, iv (-1), iv 0, ud, ud, ud, ud, ud, .tuple #[.agg #[iv ((m : Nat) : Int), v0, iv ((n : Nat) : Int), v1], iv (-1), iv 0], .slice A a.length ca, .slice B b.length cb, .tuple #[.agg #[iv ((m : Nat) : Int), v0, iv ((n : Nat) : Int), v1], iv (-1), iv 0], .agg #[iv ((m : Nat) : Int), v0, iv ((n : Nat) : Int), v1], iv (-1), iv 0, fv, iv 0, fv, ud, fv, iv no, fv, tv, .slice D d.length cd, iv (d.length : Nat), tv] 44) (by kernel_rfl) ?_
        refine then_n ?_
        refine wp_ret ?_
        refine inb_r ?_
        refine then_r ?_
        refine bodyPost_ret (v := .tuple #[.int .i64 0, .slice none 0 0, .int .i64 7]) (Go.Vel.results_tmp3 rfl _ _ (by kernel_rfl) (by kernel_rfl) (by kernel_rfl)) rfl ?_
        have e : renewF a b no d = (0, [], 7) := by unfold renewF; rw [if_neg (fun h => h hl), if_neg (by omega), if_pos (by omega)]
        rw [e]
        have S13 : St F w0 w7 (L) := St.permT [row g3 #[.int .i64 ((m : Nat) : Int), v0, .int .i64 ((n : Nat) : Int), v1] 100] [] (by decide) rfl S8
        exact ⟨none, 0, rfl, St.bytesX_nil S13⟩
      · skip
        refine pv fv ?_
        refine wl_end (fr [.slice A a.length ca, .slice B b.length cb, iv no, .slice D d.length cd, ud, ud, ud, ud, iv 0, .slice none 0 0, iv 0, pq g3, iv (-1), iv 0, ud, ud, ud, ud, ud, .tuple #[.agg #[iv ((m : Nat) : Int), v0, iv ((n : Nat) : Int), v1], iv (-1), iv 0], .slice A a.length ca, .slice B b.length cb, .tuple #[.agg #[iv ((m : Nat) : Int), v0, iv ((n : Nat) : Int), v1], iv (-1), iv 0], .agg #[iv ((m : Nat) : Int), v0, iv ((n : Nat) : Int), v1], iv (-1), iv 0, fv, iv 0, fv, ud, fv, iv no, fv, fv, .slice D d.length cd, iv (d.length : Nat), fv] 44) (by kernel_rfl) ?_
        refine then_n ?_
        refine wp_cond_false (by kernel_rfl) ?_
        refine wp_seq ?_
        refine wp_region_lit ?_
        refine pv (iv (-1)) ?_
        refine wl_gv rfl (gv_dec (p := ((-1) : Int) ≥ 0) (by kernel_rfl) (fun hd14 => False.elim ((by omega))) (fun _ => ?_))
        refine pv fv ?_
        refine wl_not (by kernel_rfl) ?_
        refine wl_not (by kernel_rfl) ?_
        refine wl_not (by kernel_rfl) ?_
        refine wl_not (by kernel_rfl) ?_
        refine wl_not (by kernel_rfl) ?_
        refine wl_not (by kernel_rfl) ?_
        refine pv fv ?_
        refine pv fv ?_
        refine wl_end (fr [.slice A a.length ca, .slice B b.length cb, iv no, .slice D d.length cd, ud, ud, ud, ud, iv 0, .slice none 0 0, iv 0, pq g3, iv (-1), iv 0, ud, ud, ud, ud, ud, .tuple #[.agg #[iv ((m : Nat) : Int), v0, iv ((n : Nat) : Int), v1], iv (-1), iv 0], .slice A a.length ca, .slice B b.length cb, .tuple #[.agg #[iv ((m : Nat) : Int), v0, iv ((n : Nat) : Int), v1], iv (-1), iv 0], .agg #[iv ((m : Nat) : Int), v0, iv ((n : Nat) : Int), v1], iv (-1), iv 0, fv, iv 0, fv, ud, fv, iv no, fv, fv, .slice D d.length cd, iv (d.length : Nat), fv, fv, iv (-1), fv, fv, ud, ud, ud, ud, ud, ud, fv] 33) (by kernel_rfl) ?_
        refine then_n ?_
        refine wp_cond_false (by kernel_rfl) ?_
        refine wp_skip ?_
        refine inb_n ?_
        refine then_n ?_
        refine wp_seq ?_
        refine wp_region_lit ?_
        refine pv (.slice D d.length cd) ?_
        refine pv (iv (d.length : Nat)) ?_
        refine wl_gv rfl (gv_int (k := .i64) (z := IntKind.i64.wrap (8 + (d.length : Nat))) (z' := ((8 + d.length : Nat) : Int)) (by kernel_rfl) (wr_eq (by omega) (by omega) (by omega)) ?_)
        have hd9 : d.length ≤ 496 := by omega
        refine wl_gv rfl (gv_make (e := 5) (u := 8) (v := ((8 + d.length : Nat) : Int)) (z := .int .u8 0) (sz := 1) (by_ := 1) (n := 8) (c := 8 + d.length) (cs := bvs (List.replicate (8 + d.length) 0)) S8 rfl (by kernel_rfl) ⟨by kernel_rfl⟩ (by kernel_rfl) (by kernel_rfl) rfl rfl (by omega) (by omega) (by omega) (mk_bytes _) (fun g15 w16 hg17 S18 => ?_))
        change St F w0 w16 (row g15 (bvs ((le8 no).take 0 ++ List.replicate (8 - 0 + d.length) 0)) 5 :: row g3 #[.int .i64 ((m : Nat) : Int), v0, .int .i64 ((n : Nat) : Int), v1] 100 :: L) at S18
        refine pv (sl g15 0 8 (8 + d.length)) ?_
        refine wl_end (fr [.slice A a.length ca, .slice B b.length cb, iv no, .slice D d.length cd, ud, ud, ud, ud, iv 0, .slice none 0 0, iv 0, pq g3, iv (-1), iv 0, sl g15 0 8 (8 + d.length), ud, ud, ud, ud, .tuple #[.agg #[iv ((m : Nat) : Int), v0, iv ((n : Nat) : Int), v1], iv (-1), iv 0], .slice A a.length ca, .slice B b.length cb, .tuple #[.agg #[iv ((m : Nat) : Int), v0, iv ((n : Nat) : Int), v1], iv (-1), iv 0], .agg #[iv ((m : Nat) : Int), v0, iv ((n : Nat) : Int), v1], iv (-1), iv 0, fv, iv 0, fv, ud, fv, iv no, fv, fv, .slice D d.length cd, iv (d.length : Nat), fv, fv, iv (-1), fv, fv, ud, ud, ud, ud, ud, ud, fv, .slice D d.length cd, iv (d.length : Nat), iv ((8 + d.length : Nat) : Int), sl g15 0 8 (8 + d.length)] 29) (by kernel_rfl) ?_
        refine then_n ?_
        refine wp_seq ?_
        refine wp_seq ?_
        refine wp_region_lit ?_
        refine pv (sl g15 0 8 (8 + d.length)) ?_
        refine pv (iv 8) ?_
        refine pv (iv 0) ?_
        refine wl_end (fr [.slice A a.length ca, .slice B b.length cb, iv no, .slice D d.length cd, ud, ud, ud, ud, iv 0, .slice none 0 0, iv 0, pq g3, iv (-1), iv 0, sl g15 0 8 (8 + d.length), ud, ud, ud, ud, .tuple #[.agg #[iv ((m : Nat) : Int), v0, iv ((n : Nat) : Int), v1], iv (-1), iv 0], .slice A a.length ca, .slice B b.length cb, .tuple #[.agg #[iv ((m : Nat) : Int), v0, iv ((n : Nat) : Int), v1], iv (-1), iv 0], .agg #[iv ((m : Nat) : Int), v0, iv ((n : Nat) : Int), v1], iv (-1), iv 0, fv, iv 0, fv, ud, fv, iv no, fv, fv, .slice D d.length cd, iv (d.length : Nat), fv, fv, iv (-1), fv, fv, ud, ud, ud, ud, ud, ud, fv, .slice D d.length cd, iv (d.length : Nat), iv ((8 + d.length : Nat) : Int), sl g15 0 8 (8 + d.length), sl g15 0 8 (8 + d.length), iv 8, iv 0] 26) (by kernel_rfl) ?_
        refine then_n ?_
        refine wp_block ?_
        have S19 : St F w0 w16 (row g15 (bvs ((le8 no).take 0 ++ List.replicate (8 - 0 + d.length) 0)) 5 :: L) := St.permT [row g15 (bvs ((le8 no).take 0 ++ List.replicate (8 - 0 + d.length) 0)) 5, row g3 #[.int .i64 ((m : Nat) : Int), v0, .int .i64 ((n : Nat) : Int), v1] 100] [0] (by decide) rfl S18
        refine wp_loop_g (G := Nat) (fun (g_ : Nat) (a_ : Act) (w_ : World) => ∃ J : Nat → Value, a_ = (fr [.slice A a.length ca, .slice B b.length cb, iv no, .slice D d.length cd, ud, ud, ud, ud, iv 0, .slice none 0 0, iv 0, pq g3, iv (-1), iv 0, sl g15 0 8 (8 + d.length), J 15, ud, ud, ud, .tuple #[.agg #[iv ((m : Nat) : Int), v0, iv ((n : Nat) : Int), v1], iv (-1), iv 0], .slice A a.length ca, .slice B b.length cb, .tuple #[.agg #[iv ((m : Nat) : Int), v0, iv ((n : Nat) : Int), v1], iv (-1), iv 0], .agg #[iv ((m : Nat) : Int), v0, iv ((n : Nat) : Int), v1], iv (-1), iv 0, fv, iv 0, fv, ud, fv, iv no, fv, fv, .slice D d.length cd, iv (d.length : Nat), fv, fv, iv (-1), fv, fv, ud, ud, ud, ud, ud, ud, fv, .slice D d.length cd, iv (d.length : Nat), iv ((8 + d.length : Nat) : Int), sl g15 0 8 (8 + d.length), sl g15 0 8 (8 + d.length), iv 8, iv ((g_ : Nat) : Int), J 55, J 56, J 57, J 58, J 59, J 60, J 61, J 62, J 63, J 64, J 65] 15) ∧ St F w0 w_ (row g15 (bvs ((le8 no).take g_ ++ List.replicate (8 - g_ + d.length) 0)) 5 :: L) ∧ (g_ ≤ 8)) (fun g_ => 8 - g_) 0 ⟨(jl []), by kernel_rfl, S19, Nat.zero_le _⟩ ?_
        rintro k a_ w20 ⟨J, rfl, S21, hI22⟩
        skip
        have S21 : St F w0 w20 (row g15 (bvs ((le8 no).take k ++ List.replicate (8 - k + d.length) 0)) 5 :: L) := S21
        have hI22 : (k ≤ 8) := hI22
        refine wp_seq ?_
        refine wp_region_lit ?_
        refine wl_gv rfl (gv_dec (p := (((k : Nat) : Int) : Int) < 8) (by kernel_rfl) (fun hb23 => ?_) (fun hb23 => ?_))
        · skip
          have hk8 : k < 8 := by omega
          refine wl_end (fr [.slice A a.length ca, .slice B b.length cb, iv no, .slice D d.length cd, ud, ud, ud, ud, iv 0, .slice none 0 0, iv 0, pq g3, iv (-1), iv 0, sl g15 0 8 (8 + d.length), J 15, ud, ud, ud, .tuple #[.agg #[iv ((m : Nat) : Int), v0, iv ((n : Nat) : Int), v1], iv (-1), iv 0], .slice A a.length ca, .slice B b.length cb, .tuple #[.agg #[iv ((m : Nat) : Int), v0, iv ((n : Nat) : Int), v1], iv (-1), iv 0], .agg #[iv ((m : Nat) : Int), v0, iv ((n : Nat) : Int), v1], iv (-1), iv 0, fv, iv 0, fv, ud, fv, iv no, fv, fv, .slice D d.length cd, iv (d.length : Nat), fv, fv, iv (-1), fv, fv, ud, ud, ud, ud, ud, ud, fv, .slice D d.length cd, iv (d.length : Nat), iv ((8 + d.length : Nat) : Int), sl g15 0 8 (8 + d.length), sl g15 0 8 (8 + d.length), iv 8, iv ((k : Nat) : Int), tv, J 56, J 57, J 58, J 59, J 60, J 61, J 62, J 63, J 64, J 65] 15) (by kernel_rfl) ?_
          refine then_n ?_
          refine wp_seq ?_
          refine wp_cond_true (by kernel_rfl) ?_
          refine wp_skip ?_
          refine then_n ?_
          refine wp_seq ?_
          refine wp_block ?_
          refine wp_seq ?_
          refine wp_region_lit ?_
          refine pv (iv ((k : Nat) : Int)) ?_
          refine pv (iv ((k : Nat) : Int)) ?_
          refine wl_end (fr [.slice A a.length ca, .slice B b.length cb, iv no, .slice D d.length cd, ud, ud, ud, ud, iv 0, .slice none 0 0, iv 0, pq g3, iv (-1), iv 0, sl g15 0 8 (8 + d.length), iv ((k : Nat) : Int), ud, ud, ud, .tuple #[.agg #[iv ((m : Nat) : Int), v0, iv ((n : Nat) : Int), v1], iv (-1), iv 0], .slice A a.length ca, .slice B b.length cb, .tuple #[.agg #[iv ((m : Nat) : Int), v0, iv ((n : Nat) : Int), v1], iv (-1), iv 0], .agg #[iv ((m : Nat) : Int), v0, iv ((n : Nat) : Int), v1], iv (-1), iv 0, fv, iv 0, fv, ud, fv, iv no, fv, fv, .slice D d.length cd, iv (d.length : Nat), fv, fv, iv (-1), fv, fv, ud, ud, ud, ud, ud, ud, fv, .slice D d.length cd, iv (d.length : Nat), iv ((8 + d.length : Nat) : Int), sl g15 0 8 (8 + d.length), sl g15 0 8 (8 + d.length), iv 8, iv ((k : Nat) : Int), tv, iv ((k : Nat) : Int), J 57, J 58, J 59, J 60, J 61, J 62, J 63, J 64, J 65] 15) (by kernel_rfl) ?_
          refine then_n ?_
          refine wp_region_lit ?_
          refine pv (sl g15 0 8 (8 + d.length)) ?_
          refine pv (iv ((k : Nat) : Int)) ?_
          refine pv (iv no) ?_
          refine pv (iv ((k : Nat) : Int)) ?_
          refine wl_gv rfl (gv_int (k := .i64) (z := IntKind.i64.wrap (8 * ((k : Nat) : Int))) (z' := ((8 * k : Nat) : Int)) (by kernel_rfl) (wr_eq (by omega) (by omega) (by omega)) ?_)
          refine wl_gv rfl (gv_shr (k := .i64) (yk := .i64) (z := no) (i := ((8 * k : Nat) : Int)) (j := (8 * k)) (z' := (no / 2 ^ (8 * k))) rfl (by kernel_rfl) (by kernel_rfl) rfl (by show 8 * k ≤ 64; omega) rfl ?_)
          refine wl_gv rfl (gv_int (k := .u8) (z := IntKind.u8.wrap (no / 2 ^ (8 * k))) (z' := (((le8 no).getD k 0).toNat : Int)) (by kernel_rfl) (by rw [wrap_u8, le8_get no hk8]) ?_)
          refine wl_gv rfl (gv_ixE (e := 5) (sz := 1) (g := g15) (off := 0) (n := 8) (c := (8 + d.length)) (i := ((k : Nat) : Int)) (k := .i64) (j := k) (off' := k) rfl (by kernel_rfl) (by kernel_rfl) (by kernel_rfl) (by kernel_rfl) rfl (by omega) (by omega) ?_)
          refine wl_gv rfl (gv_st (k := k) (v := .int .u8 (((le8 no).getD k 0).toNat : Int)) S21 0 rfl rfl (by kernel_rfl) (by kernel_rfl) (by kernel_rfl) rfl (Nat.ble_eq_true_of_le (by rw [size_bvs, List.length_append, List.length_take, List.length_replicate]; omega)) (L' := (row g15 (bvs ((le8 no).take (k + 1) ++ List.replicate (8 - (k + 1) + d.length) 0)) 5 :: L)) (by rw [bvs_set, fill_set (by omega) h8]; rfl) (fun w24 S25 => ?_))
          refine wl_end (fr [.slice A a.length ca, .slice B b.length cb, iv no, .slice D d.length cd, ud, ud, ud, ud, iv 0, .slice none 0 0, iv 0, pq g3, iv (-1), iv 0, sl g15 0 8 (8 + d.length), iv ((k : Nat) : Int), ud, ud, ud, .tuple #[.agg #[iv ((m : Nat) : Int), v0, iv ((n : Nat) : Int), v1], iv (-1), iv 0], .slice A a.length ca, .slice B b.length cb, .tuple #[.agg #[iv ((m : Nat) : Int), v0, iv ((n : Nat) : Int), v1], iv (-1), iv 0], .agg #[iv ((m : Nat) : Int), v0, iv ((n : Nat) : Int), v1], iv (-1), iv 0, fv, iv 0, fv, ud, fv, iv no, fv, fv, .slice D d.length cd, iv (d.length : Nat), fv, fv, iv (-1), fv, fv, ud, ud, ud, ud, ud, ud, fv, .slice D d.length cd, iv (d.length : Nat), iv ((8 + d.length : Nat) : Int), sl g15 0 8 (8 + d.length), sl g15 0 8 (8 + d.length), iv 8, iv ((k : Nat) : Int), tv, iv ((k : Nat) : Int), sl g15 0 8 (8 + d.length), iv ((k : Nat) : Int), iv no, iv ((k : Nat) : Int), iv ((8 * k : Nat) : Int), iv (no / 2 ^ (8 * k)), .int .u8 (((le8 no).getD k 0).toNat : Int), po g15 k, J 65] 15) (by kernel_rfl) ?_
          refine inb_n ?_
          refine then_n ?_
          refine wp_region_lit ?_
          refine wl_gv rfl (gv_int (k := .i64) (z := IntKind.i64.wrap (((k : Nat) : Int) + 1)) (z' := ((k + 1 : Nat) : Int)) (by kernel_rfl) (wr_eq (by omega) (by omega) (by omega)) ?_)
          refine pv (iv ((k + 1 : Nat) : Int)) ?_
          refine wl_end (fr [.slice A a.length ca, .slice B b.length cb, iv no, .slice D d.length cd, ud, ud, ud, ud, iv 0, .slice none 0 0, iv 0, pq g3, iv (-1), iv 0, sl g15 0 8 (8 + d.length), iv ((k : Nat) : Int), ud, ud, ud, .tuple #[.agg #[iv ((m : Nat) : Int), v0, iv ((n : Nat) : Int), v1], iv (-1), iv 0], .slice A a.length ca, .slice B b.length cb, .tuple #[.agg #[iv ((m : Nat) : Int), v0, iv ((n : Nat) : Int), v1], iv (-1), iv 0], .agg #[iv ((m : Nat) : Int), v0, iv ((n : Nat) : Int), v1], iv (-1), iv 0, fv, iv 0, fv, ud, fv, iv no, fv, fv, .slice D d.length cd, iv (d.length : Nat), fv, fv, iv (-1), fv, fv, ud, ud, ud, ud, ud, ud, fv, .slice D d.length cd, iv (d.length : Nat), iv ((8 + d.length : Nat) : Int), sl g15 0 8 (8 + d.length), sl g15 0 8 (8 + d.length), iv 8, iv ((k + 1 : Nat) : Int), tv, iv ((k : Nat) : Int), sl g15 0 8 (8 + d.length), iv ((k : Nat) : Int), iv no, iv ((k : Nat) : Int), iv ((8 * k : Nat) : Int), iv (no / 2 ^ (8 * k)), .int .u8 (((le8 no).getD k 0).toNat : Int), po g15 k, iv ((k + 1 : Nat) : Int)] 15) (by kernel_rfl) ?_
          refine then_n ?_
          exact ⟨k + 1, ⟨(jl [ud, ud, ud, ud, ud, ud, ud, ud, ud, ud, ud, ud, ud, ud, ud, iv ((k : Nat) : Int), ud, ud, ud, ud, ud, ud, ud, ud, ud, ud, ud, ud, ud, ud, ud, ud, ud, ud, ud, ud, ud, ud, ud, ud, ud, ud, ud, ud, ud, ud, ud, ud, ud, ud, ud, ud, ud, ud, ud, tv, iv ((k : Nat) : Int), sl g15 0 8 (8 + d.length), iv ((k : Nat) : Int), iv no, iv ((k : Nat) : Int), iv ((8 * k : Nat) : Int), iv (no / 2 ^ (8 * k)), .int .u8 (((le8 no).getD k 0).toNat : Int), po g15 k, iv ((k + 1 : Nat) : Int)]), by kernel_rfl, S25, (by omega)⟩, (by show 8 - (k + 1) < 8 - k; omega)⟩
        · skip
          have hk8 : k = 8 := by omega
          have ht8 : (le8 no).take 8 = le8 no := List.take_of_length_le (by omega)
          rw [hk8, ht8] at S21
          refine wl_end (fr [.slice A a.length ca, .slice B b.length cb, iv no, .slice D d.length cd, ud, ud, ud, ud, iv 0, .slice none 0 0, iv 0, pq g3, iv (-1), iv 0, sl g15 0 8 (8 + d.length), J 15, ud, ud, ud, .tuple #[.agg #[iv ((m : Nat) : Int), v0, iv ((n : Nat) : Int), v1], iv (-1), iv 0], .slice A a.length ca, .slice B b.length cb, .tuple #[.agg #[iv ((m : Nat) : Int), v0, iv ((n : Nat) : Int), v1], iv (-1), iv 0], .agg #[iv ((m : Nat) : Int), v0, iv ((n : Nat) : Int), v1], iv (-1), iv 0, fv, iv 0, fv, ud, fv, iv no, fv, fv, .slice D d.length cd, iv (d.length : Nat), fv, fv, iv (-1), fv, fv, ud, ud, ud, ud, ud, ud, fv, .slice D d.length cd, iv (d.length : Nat), iv ((8 + d.length : Nat) : Int), sl g15 0 8 (8 + d.length), sl g15 0 8 (8 + d.length), iv 8, iv ((k : Nat) : Int), fv, J 56, J 57, J 58, J 59, J 60, J 61, J 62, J 63, J 64, J 65] 15) (by kernel_rfl) ?_
          refine then_n ?_
          refine wp_seq ?_
          refine wp_cond_false (by kernel_rfl) ?_
          refine wp_exit ?_
          refine then_x ?_
          refine then_x ?_
          refine inb_x ?_
          refine then_n ?_
          refine wp_seq ?_
          refine wp_region_lit ?_
          refine pv (.slice A a.length ca) ?_
          refine pv (iv 0) ?_
          refine pv (.slice A a.length ca) ?_
          refine wl_end (fr [.slice A a.length ca, .slice B b.length cb, iv no, .slice D d.length cd, ud, ud, ud, ud, iv 0, .slice none 0 0, iv 0, pq g3, iv (-1), iv 0, sl g15 0 8 (8 + d.length), J 15, iv 0, .slice A a.length ca, ud, .tuple #[.agg #[iv ((m : Nat) : Int), v0, iv ((n : Nat) : Int), v1], iv (-1), iv 0], .slice A a.length ca, .slice B b.length cb, .tuple #[.agg #[iv ((m : Nat) : Int), v0, iv ((n : Nat) : Int), v1], iv (-1), iv 0], .agg #[iv ((m : Nat) : Int), v0, iv ((n : Nat) : Int), v1], iv (-1), iv 0, fv, iv 0, fv, ud, fv, iv no, fv, fv, .slice D d.length cd, iv (d.length : Nat), fv, fv, iv (-1), fv, fv, ud, ud, ud, ud, ud, ud, fv, .slice D d.length cd, iv (d.length : Nat), iv ((8 + d.length : Nat) : Int), sl g15 0 8 (8 + d.length), sl g15 0 8 (8 + d.length), iv 8, iv ((k : Nat) : Int), fv, J 56, J 57, J 58, J 59, J 60, J 61, J 62, J 63, J 64, J 65, .slice A a.length ca] 14) (by kernel_rfl) ?_
          refine then_n ?_
          refine wp_seq ?_
          refine wp_seq ?_
          refine wp_region_lit ?_
          refine pv (iv (-1)) ?_
          refine wl_gv rfl (gv_eq (x := (-1)) (y := 0) (by kernel_rfl) (fun hd26 => False.elim ((by omega))) (fun _ => ?_))
          refine wl_end (fr [.slice A a.length ca, .slice B b.length cb, iv no, .slice D d.length cd, ud, ud, ud, ud, iv 0, .slice none 0 0, iv 0, pq g3, iv (-1), iv 0, sl g15 0 8 (8 + d.length), J 15, iv 0, .slice A a.length ca, ud, .tuple #[.agg #[iv ((m : Nat) : Int), v0, iv ((n : Nat) : Int), v1], iv (-1), iv 0], .slice A a.length ca, .slice B b.length cb, .tuple #[.agg #[iv ((m : Nat) : Int), v0, iv ((n : Nat) : Int), v1], iv (-1), iv 0], .agg #[iv ((m : Nat) : Int), v0, iv ((n : Nat) : Int), v1], iv (-1), iv 0, fv, iv 0, fv, ud, fv, iv no, fv, fv, .slice D d.length cd, iv (d.length : Nat), fv, fv, iv (-1), fv, fv, ud, ud, ud, ud, ud, ud, fv, .slice D d.length cd, iv (d.length : Nat), iv ((8 + d.length : Nat) : Int), sl g15 0 8 (8 + d.length), sl g15 0 8 (8 + d.length), iv 8, iv ((k : Nat) : Int), fv, J 56, J 57, J 58, J 59, J 60, J 61, J 62, J 63, J 64, J 65, .slice A a.length ca, iv (-1), fv] 12) (by kernel_rfl) ?_
          refine then_n ?_
          refine wp_cond_false (by kernel_rfl) ?_
          refine wp_skip ?_
          refine then_n ?_
          refine wp_seq ?_
          refine wp_region_lit ?_
          refine pv (.slice A a.length ca) ?_
          refine pv (sl g15 0 8 (8 + d.length)) ?_
          refine pv (.slice D d.length cd) ?_
          have hln : 8 + d.length = (le8 no ++ d).length := by rw [List.length_append]; omega
          have hsp : splice (le8 no ++ List.replicate (8 - 8 + d.length) 0) 8 d = le8 no ++ d := by unfold splice; rw [List.take_left' h8, List.drop_of_length_le (by rw [List.length_append, List.length_replicate]; omega), List.append_nil]
          refine wl_gv rfl (gv_appendB (e := 5) (n := 8) (c := 8 + d.length) (m := d.length) (c' := cd) (A := D) (l := d) (X := le8 no ++ List.replicate (8 - 8 + d.length) 0) (n' := 8 + d.length) S21 0 rfl rfl (by kernel_rfl) (by kernel_rfl) (by kernel_rfl) (by kernel_rfl) rfl (hd.out _ [row g15 (bvs (le8 no ++ List.replicate (8 - 8 + d.length) 0)) 5] S21) (Nat.le_refl _) (by rw [List.length_append, List.length_replicate]; omega) rfl (L' := (row g15 (bvs (le8 no ++ d)) 5 :: L)) (by rw [hsp]; rfl) (fun w27 S28 => ?_))
          refine wl_gv rfl (gv_call (args := #[.slice A a.length ca, .slice (some ⟨g15, 0, none⟩) (8 + d.length) (8 + d.length)]) rfl Try.func24 (by kernel_rfl) rfl rfl (by kernel_rfl) ?_)
          refine Calls.mono (ps_seal' (a := a) (b := le8 no ++ d) S28 rfl hln ha.more (RoT.item 0 rfl 0 (le8 no ++ d).length _ (by rw [List.drop_zero, List.take_length])) (by omega) (by omega)) ?_
          rintro _ w29 ⟨A31, c32, rfl, S30⟩
          refine ⟨_, rfl, ?_⟩
          refine pv (.tuple #[.slice A31 ((sealF a (le8 no ++ d)).1.length) c32, iv ((sealF a (le8 no ++ d)).2 : Int)]) ?_
          refine pv (.slice A31 ((sealF a (le8 no ++ d)).1.length) c32) ?_
          refine pv (iv ((sealF a (le8 no ++ d)).2 : Int)) ?_
          refine pv (.slice A31 ((sealF a (le8 no ++ d)).1.length) c32) ?_
          refine pv (iv ((sealF a (le8 no ++ d)).2 : Int)) ?_
          refine wl_end (fr [.slice A a.length ca, .slice B b.length cb, iv no, .slice D d.length cd, ud, ud, ud, ud, iv 0, .slice none 0 0, iv 0, pq g3, iv (-1), iv ((sealF a (le8 no ++ d)).2 : Int), sl g15 0 8 (8 + d.length), J 15, iv 0, .slice A a.length ca, .slice A31 ((sealF a (le8 no ++ d)).1.length) c32, .tuple #[.agg #[iv ((m : Nat) : Int), v0, iv ((n : Nat) : Int), v1], iv (-1), iv 0], .slice A a.length ca, .slice B b.length cb, .tuple #[.agg #[iv ((m : Nat) : Int), v0, iv ((n : Nat) : Int), v1], iv (-1), iv 0], .agg #[iv ((m : Nat) : Int), v0, iv ((n : Nat) : Int), v1], iv (-1), iv 0, fv, iv 0, fv, ud, fv, iv no, fv, fv, .slice D d.length cd, iv (d.length : Nat), fv, fv, iv (-1), fv, fv, ud, ud, ud, ud, ud, ud, fv, .slice D d.length cd, iv (d.length : Nat), iv ((8 + d.length : Nat) : Int), sl g15 0 8 (8 + d.length), sl g15 0 8 (8 + d.length), iv 8, iv ((k : Nat) : Int), fv, J 56, J 57, J 58, J 59, J 60, J 61, J 62, J 63, J 64, J 65, .slice A a.length ca, iv (-1), fv, ud, .tuple #[.slice A31 ((sealF a (le8 no ++ d)).1.length) c32, iv ((sealF a (le8 no ++ d)).2 : Int)], .slice A a.length ca, sl g15 0 8 (8 + d.length), .slice D d.length cd, sl g15 0 (8 + d.length) (8 + d.length), .tuple #[.slice A31 ((sealF a (le8 no ++ d)).1.length) c32, iv ((sealF a (le8 no ++ d)).2 : Int)], .slice A31 ((sealF a (le8 no ++ d)).1.length) c32, iv ((sealF a (le8 no ++ d)).2 : Int)] 3) (by kernel_rfl) ?_
          refine then_n ?_
          refine wp_seq ?_
          refine wp_region_lit ?_
          refine pv (iv 0) ?_
          refine pv (.slice A31 ((sealF a (le8 no ++ d)).1.length) c32) ?_
          refine pv (iv ((sealF a (le8 no ++ d)).2 : Int)) ?_
          refine pv (iv 0) ?_
          refine pv (.slice A31 ((sealF a (le8 no ++ d)).1.length) c32) ?_
          refine pv (iv ((sealF a (le8 no ++ d)).2 : Int)) ?_
          refine wl_end (fr [.slice A a.length ca, .slice B b.length cb, iv no, .slice D d.length cd, ud, ud, ud, ud, iv 0, .slice A31 ((sealF a (le8 no ++ d)).1.length) c32, iv ((sealF a (le8 no ++ d)).2 : Int), pq g3, iv (-1), iv ((sealF a (le8 no ++ d)).2 : Int), sl g15 0 8 (8 + d.length), J 15, iv 0, .slice A a.length ca, .slice A31 ((sealF a (le8 no ++ d)).1.length) c32, .tuple #[.agg #[iv ((m : Nat) : Int), v0, iv ((n : Nat) : Int), v1], iv (-1), iv 0], .slice A a.length ca, .slice B b.length cb, .tuple #[.agg #[iv ((m : Nat) : Int), v0, iv ((n : Nat) : Int), v1], iv (-1), iv 0], .agg #[iv ((m : Nat) : Int), v0, iv ((n : Nat) : Int), v1], iv (-1), iv 0, fv, iv 0, fv, ud, fv, iv no, fv, fv, .slice D d.length cd, iv (d.length : Nat), fv, fv, iv (-1), fv, fv, ud, ud, ud, ud, ud, ud, fv, .slice D d.length cd, iv (d.length : Nat), iv ((8 + d.length : Nat) : Int), sl g15 0 8 (8 + d.length), sl g15 0 8 (8 + d.length), iv 8, iv ((k : Nat) : Int), fv, J 56, J 57, J 58, J 59, J 60, J 61, J 62, J 63, J 64, J 65, .slice A a.length ca, iv (-1), fv, ud, .tuple #[.slice A31 ((sealF a (le8 no ++ d)).1.length) c32, iv ((sealF a (le8 no ++ d)).2 : Int)], .slice A a.length ca, sl g15 0 8 (8 + d.length), .slice D d.length cd, sl g15 0 (8 + d.length) (8 + d.length), .tuple #[.slice A31 ((sealF a (le8 no ++ d)).1.length) c32, iv ((sealF a (le8 no ++ d)).2 : Int)], .slice A31 ((sealF a (le8 no ++ d)).1.length) c32, iv ((sealF a (le8 no ++ d)).2 : Int), iv 0, .slice A31 ((sealF a (le8 no ++ d)).1.length) c32, iv ((sealF a (le8 no ++ d)).2 : Int)] 0) (by kernel_rfl) ?_
          refine then_n ?_
          refine wp_ret ?_
          refine bodyPost_ret (v := .tuple #[.int .i64 0, .slice A31 ((sealF a (le8 no ++ d)).1.length) c32, .int .i64 ((sealF a (le8 no ++ d)).2 : Int)]) (Go.Vel.results_tmp3 rfl _ _ (by kernel_rfl) (by kernel_rfl) (by kernel_rfl)) rfl ?_
          have e := renew_end (a := a) (b := b) (no := no) (d := d) hl (by omega) (by omega) (by rw [hnw]; simp <;> omega)
          rw [hnw, if_neg (by simp)] at e
          rw [e]
          have S33 : St F w0 w29 (bytesX (.slice A31 (sealF a (le8 no ++ d)).1.length c32) (sealF a (le8 no ++ d)).1 :: L) := St.permT [bytesX (.slice A31 (sealF a (le8 no ++ d)).1.length c32) (sealF a (le8 no ++ d)).1, row g15 (bvs (le8 no ++ d)) 5] [0] (by decide) rfl S30
          exact ⟨A31, c32, rfl, S33⟩
  · have hnw := newest_left ⟨hl, hm, hn, hs⟩
    refine wp_enter (fr [.slice A a.length ca, .slice B b.length cb, iv no, .slice D d.length cd] 77) Try.func33 rfl (by kernel_rfl) ?_
    refine wp_seq ?_
    refine wp_region_lit ?_
    refine pv (iv 0) ?_
    refine pv (.slice none 0 0) ?_
    refine pv (iv 0) ?_
    refine wl_end (fr [.slice A a.length ca, .slice B b.length cb, iv no, .slice D d.length cd, ud, ud, ud, ud, iv 0, .slice none 0 0, iv 0] 70) (by kernel_rfl) ?_
    refine then_n ?_
    refine wp_seq ?_
    refine wp_region_lit ?_
    refine pv (.slice A a.length ca) ?_
    refine pv (.slice B b.length cb) ?_
    refine wl_gv rfl (gv_call (args := #[.slice A a.length ca, .slice B b.length cb]) rfl Try.func47 (by kernel_rfl) rfl rfl (by kernel_rfl) ?_)
    refine Calls.mono (ps_pair (sl := 0) S ha hb hl hm hn hs) ?_
    rintro _ w1 ⟨v0, v1, rfl, ho0, ho1, S2⟩
    refine ⟨_, rfl, ?_⟩
    refine pv (.tuple #[.agg #[iv ((m : Nat) : Int), v0, iv ((n : Nat) : Int), v1], iv 0, iv 0]) ?_
    refine pv (.agg #[iv ((m : Nat) : Int), v0, iv ((n : Nat) : Int), v1]) ?_
    refine pv (iv 0) ?_
    refine pv (iv 0) ?_
    refine wl_gv rfl (gv_new (z := .agg #[.int .i64 0, .slice none 0 0, .int .i64 0, .slice none 0 0]) S2 rfl (by kernel_rfl) (fun g3 w4 hg5 S6 => ?_))
    refine wl_gv rfl (gv_stA (k := 0) (vs := [.int .i64 ((m : Nat) : Int), v0, .int .i64 ((n : Nat) : Int), v1]) S6 0 rfl rfl (by kernel_rfl) (by kernel_rfl) (by kernel_rfl) rfl (by intro u hu; simp only [List.mem_cons, List.not_mem_nil, or_false] at hu; rcases hu with rfl | rfl | rfl | rfl <;> first | rfl | assumption) (Nat.le_of_ble_eq_true (by kernel_rfl)) (L' := (row g3 #[.int .i64 ((m : Nat) : Int), v0, .int .i64 ((n : Nat) : Int), v1] 100 :: L)) rfl (fun w7 S8 => ?_))
    refine pv (iv 0) ?_
    refine pv (iv 0) ?_
    refine wl_end (fr [.slice A a.length ca, .slice B b.length cb, iv no, .slice D d.length cd, ud, ud, ud, ud, iv 0, .slice none 0 0, iv 0, pq g3, iv 0, iv 0, ud, ud, ud, ud, ud, .tuple #[.agg #[iv ((m : Nat) : Int), v0, iv ((n : Nat) : Int), v1], iv 0, iv 0], .slice A a.length ca, .slice B b.length cb, .tuple #[.agg #[iv ((m : Nat) : Int), v0, iv ((n : Nat) : Int), v1], iv 0, iv 0], .agg #[iv ((m : Nat) : Int), v0, iv ((n : Nat) : Int), v1], iv 0, iv 0] 55) (by kernel_rfl) ?_
    refine then_n ?_
    refine wp_seq ?_
    refine wp_block ?_
    refine wp_seq ?_
    refine wp_region_lit ?_
    refine pv (iv 0) ?_
    refine wl_gv rfl (gv_ne (x := 0) (y := 0) (by kernel_rfl) (fun hd9 => False.elim (hd9 (by decide))) (fun _ => ?_))
    refine pv fv ?_
    refine wl_end (fr [.slice A a.length ca, .slice B b.length cb, iv no, .slice D d.length cd, ud, ud, ud, ud, iv 0, .slice none 0 0, iv 0, pq g3, iv 0, iv 0, ud, ud, ud, ud, ud, .tuple #[.agg #[iv ((m : Nat) : Int), v0, iv ((n : Nat) : Int), v1], iv 0, iv 0], .slice A a.length ca, .slice B b.length cb, .tuple #[.agg #[iv ((m : Nat) : Int), v0, iv ((n : Nat) : Int), v1], iv 0, iv 0], .agg #[iv ((m : Nat) : Int), v0, iv ((n : Nat) : Int), v1], iv 0, iv 0, fv, iv 0, fv] 52) (by kernel_rfl) ?_
    refine then_n ?_
    refine wp_cond_false (by kernel_rfl) ?_
    refine wp_seq ?_
    refine wp_region_lit ?_
    refine pv (iv no) ?_
    refine wl_gv rfl (gv_dec (p := (no : Int) < 1) (by kernel_rfl) (fun hb10 => ?_) (fun hb10 => ?_))
    · skip
      refine pv tv ?_
      refine wl_end (fr [.slice A a.length ca, .slice B b.length cb, iv no, .slice D d.length cd, ud, ud, ud, ud, iv 0, .slice none 0 0, iv 0, pq g3, iv 0, iv 0, ud, ud, ud, ud, ud, .tuple #[.agg #[iv ((m : Nat) : Int), v0, iv ((n : Nat) : Int), v1], iv 0, iv 0], .slice A a.length ca, .slice B b.length cb, .tuple #[.agg #[iv ((m : Nat) : Int), v0, iv ((n : Nat) : Int), v1], iv 0, iv 0], .agg #[iv ((m : Nat) : Int), v0, iv ((n : Nat) : Int), v1], iv 0, iv 0, fv, iv 0, fv, ud, tv, iv no, tv] 48) (by kernel_rfl) ?_
      refine then_n ?_
      refine wp_cond_true (by kernel_rfl) ?_
      refine wp_seq ?_
      refine wp_region_lit ?_
      refine pv (iv 0) ?_
      refine pv (.slice none 0 0) ?_
      refine pv (iv 1) ?_
      refine wl_end (fr [.slice A a.length ca, .slice B b.length cb, iv no, .slice D d.length cd, ud, ud, ud, ud, iv 0, .slice none 0 0, iv 1, pq g3, iv 0, iv 0, ud, ud, ud, ud, ud, .tuple #[.agg #[iv ((m : Nat) : Int), v0, iv ((n : Nat) : Int), v1], iv 0, iv 0], .slice A a.length ca, .slice B b.length cb, .tuple #[.agg #[iv ((m : Nat) : Int), v0, iv ((n : Nat) : Int), v1], iv 0, iv 0], .agg #[iv ((m : Nat) : Int), v0, iv ((n : Nat) : Int), v1], iv 0, iv 0, fv, iv 0, fv, ud, tv, iv no, tv] 48) (by kernel_rfl) ?_
      refine then_n ?_
      refine wp_ret ?_
      refine inb_r ?_
      refine then_r ?_
      refine bodyPost_ret (v := .tuple #[.int .i64 0, .slice none 0 0, .int .i64 1]) (Go.Vel.results_tmp3 rfl _ _ (by kernel_rfl) (by kernel_rfl) (by kernel_rfl)) rfl ?_
      have e : renewF a b no d = (0, [], 1) := by unfold renewF; rw [if_neg (fun h => h hl), if_pos (by omega)]
      rw [e]
      have S11 : St F w0 w7 (L) := St.permT [row g3 #[.int .i64 ((m : Nat) : Int), v0, .int .i64 ((n : Nat) : Int), v1] 100] [] (by decide) rfl S8
      exact ⟨none, 0, rfl, St.bytesX_nil S11⟩
    · skip
      refine pv fv ?_
      refine wl_end (fr [.slice A a.length ca, .slice B b.length cb, iv no, .slice D d.length cd, ud, ud, ud, ud, iv 0, .slice none 0 0, iv 0, pq g3, iv 0, iv 0, ud, ud, ud, ud, ud, .tuple #[.agg #[iv ((m : Nat) : Int), v0, iv ((n : Nat) : Int), v1], iv 0, iv 0], .slice A a.length ca, .slice B b.length cb, .tuple #[.agg #[iv ((m : Nat) : Int), v0, iv ((n : Nat) : Int), v1], iv 0, iv 0], .agg #[iv ((m : Nat) : Int), v0, iv ((n : Nat) : Int), v1], iv 0, iv 0, fv, iv 0, fv, ud, fv, iv no, fv] 48) (by kernel_rfl) ?_
      refine then_n ?_
      refine wp_cond_false (by kernel_rfl) ?_
      refine wp_seq ?_
      refine wp_region_lit ?_
      refine pv (.slice D d.length cd) ?_
      refine pv (iv (d.length : Nat)) ?_
      refine wl_gv rfl (gv_dec (p := ((d.length : Nat) : Int) > 496) (by kernel_rfl) (fun hb12 => ?_) (fun hb12 => ?_))
      · skip
        refine pv tv ?_
        refine wl_end (fr [.slice A a.length ca, .slice B b.length cb, iv no, .slice D d.length cd, ud, ud, ud, ud, iv 0, .slice none 0 0, iv 0, pq g3, iv 0, iv 0, ud, ud, ud, ud, ud, .tuple #[.agg #[iv ((m : Nat) : Int), v0, iv ((n : Nat) : Int), v1], iv 0, iv 0], .slice A a.length ca, .slice B b.length cb, .tuple #[.agg #[iv ((m : Nat) : Int), v0, iv ((n : Nat) : Int), v1], iv 0, iv 0], .agg #[iv ((m : Nat) : Int), v0, iv ((n : Nat) : Int), v1], iv 0, iv 0, fv, iv 0, fv, ud, fv, iv no, fv, tv, .slice D d.length cd, iv (d.length : Nat), tv] 44) (by kernel_rfl) ?_
        refine then_n ?_
        refine wp_cond_true (by kernel_rfl) ?_
        refine wp_seq ?_
        refine wp_region_lit ?_
        refine pv (iv 0) ?_
        refine pv (.slice none 0 0) ?_
        refine pv (iv 7) ?_
        refine wl_end (fr [.slice A a.length ca, .slice B b.length cb, iv no, .slice D d.length cd, ud, ud, ud, ud, iv 0, .slice none 0 0, iv 7, pq g3, iv 0, iv 0, ud, ud, ud, ud, ud, .tuple #[.agg #[iv ((m : Nat) : Int), v0, iv ((n : Nat) : Int), v1], iv 0, iv 0], .slice A a.length ca, .slice B b.length cb, .tuple #[.agg #[iv ((m : Nat) : Int), v0, iv ((n : Nat) : Int), v1], iv 0, iv 0], .agg #[iv ((m : Nat) : Int), v0, iv ((n : Nat) : Int), v1], iv 0, iv 0, fv, iv 0, fv, ud, fv, iv no, fv, tv, .slice D d.length cd, iv (d.length : Nat), tv] 44) (by kernel_rfl) ?_
        refine then_n ?_
        refine wp_ret ?_
        refine inb_r ?_
        refine then_r ?_
        refine bodyPost_ret (v := .tuple #[.int .i64 0, .slice none 0 0, .int .i64 7]) (Go.Vel.results_tmp3 rfl _ _ (by kernel_rfl) (by kernel_rfl) (by kernel_rfl)) rfl ?_
        have e : renewF a b no d = (0, [], 7) := by unfold renewF; rw [if_neg (fun h => h hl), if_neg (by omega), if_pos (by omega)]
        rw [e]
        have S13 : St F w0 w7 (L) := St.permT [row g3 #[.int .i64 ((m : Nat) : Int), v0, .int .i64 ((n : Nat) : Int), v1] 100] [] (by decide) rfl S8
        exact ⟨none, 0, rfl, St.bytesX_nil S13⟩
      · skip
        refine pv fv ?_
        refine wl_end (fr [.slice A a.length ca, .slice B b.length cb, iv no, .slice D d.length cd, ud, ud, ud, ud, iv 0, .slice none 0 0, iv 0, pq g3, iv 0, iv 0, ud, ud, ud, ud, ud, .tuple #[.agg #[iv ((m : Nat) : Int), v0, iv ((n : Nat) : Int), v1], iv 0, iv 0], .slice A a.length ca, .slice B b.length cb, .tuple #[.agg #[iv ((m : Nat) : Int), v0, iv ((n : Nat) : Int), v1], iv 0, iv 0], .agg #[iv ((m : Nat) : Int), v0, iv ((n : Nat) : Int), v1], iv 0, iv 0, fv, iv 0, fv, ud, fv, iv no, fv, fv, .slice D d.length cd, iv (d.length : Nat), fv] 44) (by kernel_rfl) ?_
        refine then_n ?_
        refine wp_cond_false (by kernel_rfl) ?_
        refine wp_seq ?_
        refine wp_region_lit ?_
        refine pv (iv 0) ?_
        refine wl_gv rfl (gv_dec (p := (0 : Int) ≥ 0) (by kernel_rfl) (fun _ => ?_) (fun hd14 => False.elim ((by omega))))
        refine pv tv ?_
        refine wl_when (by kernel_rfl) (gv_val (v := .int .i64 no) (w' := w7) (by kernel_rfl) ?_)
        refine wl_when (by kernel_rfl) (gv_val (v := .int .i64 0) (w' := w7) (by kernel_rfl) ?_)
        refine wl_when (by kernel_rfl) (gv_ixArr (sz := 2) (g := g3) (off := 0) (N := 2) (k := .i64) (i := 0) (j := 0) (off' := 0) rfl (by kernel_rfl) (by kernel_rfl) (by kernel_rfl) (by kernel_rfl) (by kernel_rfl) rfl (by decide) rfl ?_)
        refine wl_when (by kernel_rfl) (gv_val (v := .pointer (some ⟨g3, 0, none⟩)) (w' := w7) (by kernel_rfl) ?_)
        refine wl_when (by kernel_rfl) (gv_ldR (v := .int .i64 ((m : Nat) : Int)) rfl (by kernel_rfl) (by kernel_rfl) (((S8.blk 0 rfl).cell 0).trans rfl) ?_)
        refine wl_when (by kernel_rfl) (gv_dec (p := (no : Int) ≤ ((m : Nat) : Int)) (by kernel_rfl) (fun hb15 => ?_) (fun hb15 => ?_))
        · skip
          refine pv tv ?_
          refine pv tv ?_
          refine wl_end (fr [.slice A a.length ca, .slice B b.length cb, iv no, .slice D d.length cd, ud, ud, ud, ud, iv 0, .slice none 0 0, iv 0, pq g3, iv 0, iv 0, ud, ud, ud, ud, ud, .tuple #[.agg #[iv ((m : Nat) : Int), v0, iv ((n : Nat) : Int), v1], iv 0, iv 0], .slice A a.length ca, .slice B b.length cb, .tuple #[.agg #[iv ((m : Nat) : Int), v0, iv ((n : Nat) : Int), v1], iv 0, iv 0], .agg #[iv ((m : Nat) : Int), v0, iv ((n : Nat) : Int), v1], iv 0, iv 0, fv, iv 0, fv, ud, fv, iv no, fv, fv, .slice D d.length cd, iv (d.length : Nat), fv, tv, iv 0, tv, tv, iv no, iv 0, pq g3, pq g3, iv ((m : Nat) : Int), tv, tv] 33) (by kernel_rfl) ?_
          refine then_n ?_
          refine wp_cond_true (by kernel_rfl) ?_
          refine wp_seq ?_
          refine wp_region_lit ?_
          refine pv (iv 0) ?_
          refine pv (.slice none 0 0) ?_
          refine pv (iv 31) ?_
          refine wl_end (fr [.slice A a.length ca, .slice B b.length cb, iv no, .slice D d.length cd, ud, ud, ud, ud, iv 0, .slice none 0 0, iv 31, pq g3, iv 0, iv 0, ud, ud, ud, ud, ud, .tuple #[.agg #[iv ((m : Nat) : Int), v0, iv ((n : Nat) : Int), v1], iv 0, iv 0], .slice A a.length ca, .slice B b.length cb, .tuple #[.agg #[iv ((m : Nat) : Int), v0, iv ((n : Nat) : Int), v1], iv 0, iv 0], .agg #[iv ((m : Nat) : Int), v0, iv ((n : Nat) : Int), v1], iv 0, iv 0, fv, iv 0, fv, ud, fv, iv no, fv, fv, .slice D d.length cd, iv (d.length : Nat), fv, tv, iv 0, tv, tv, iv no, iv 0, pq g3, pq g3, iv ((m : Nat) : Int), tv, tv] 33) (by kernel_rfl) ?_
          refine then_n ?_
          refine wp_ret ?_
          refine inb_r ?_
          refine then_r ?_
          refine bodyPost_ret (v := .tuple #[.int .i64 0, .slice none 0 0, .int .i64 31]) (Go.Vel.results_tmp3 rfl _ _ (by kernel_rfl) (by kernel_rfl) (by kernel_rfl)) rfl ?_
          have e : renewF a b no d = (0, [], 31) := by unfold renewF; rw [if_neg (fun h => h hl), if_neg (by omega), if_neg (by omega), if_pos (by rw [hnw]; exact ⟨rfl, by omega⟩)]
          rw [e]
          have S16 : St F w0 w7 (L) := St.permT [row g3 #[.int .i64 ((m : Nat) : Int), v0, .int .i64 ((n : Nat) : Int), v1] 100] [] (by decide) rfl S8
          exact ⟨none, 0, rfl, St.bytesX_nil S16⟩
        · skip
          refine pv fv ?_
          refine pv fv ?_
          refine wl_end (fr [.slice A a.length ca, .slice B b.length cb, iv no, .slice D d.length cd, ud, ud, ud, ud, iv 0, .slice none 0 0, iv 0, pq g3, iv 0, iv 0, ud, ud, ud, ud, ud, .tuple #[.agg #[iv ((m : Nat) : Int), v0, iv ((n : Nat) : Int), v1], iv 0, iv 0], .slice A a.length ca, .slice B b.length cb, .tuple #[.agg #[iv ((m : Nat) : Int), v0, iv ((n : Nat) : Int), v1], iv 0, iv 0], .agg #[iv ((m : Nat) : Int), v0, iv ((n : Nat) : Int), v1], iv 0, iv 0, fv, iv 0, fv, ud, fv, iv no, fv, fv, .slice D d.length cd, iv (d.length : Nat), fv, fv, iv 0, tv, tv, iv no, iv 0, pq g3, pq g3, iv ((m : Nat) : Int), fv, fv] 33) (by kernel_rfl) ?_
          refine then_n ?_
          refine wp_cond_false (by kernel_rfl) ?_
          refine wp_skip ?_
          refine inb_n ?_
          refine then_n ?_
          refine wp_seq ?_
          refine wp_region_lit ?_
          refine pv (.slice D d.length cd) ?_
          refine pv (iv (d.length : Nat)) ?_
          refine wl_gv rfl (gv_int (k := .i64) (z := IntKind.i64.wrap (8 + (d.length : Nat))) (z' := ((8 + d.length : Nat) : Int)) (by kernel_rfl) (wr_eq (by omega) (by omega) (by omega)) ?_)
          have hd9 : d.length ≤ 496 := by omega
          refine wl_gv rfl (gv_make (e := 5) (u := 8) (v := ((8 + d.length : Nat) : Int)) (z := .int .u8 0) (sz := 1) (by_ := 1) (n := 8) (c := 8 + d.length) (cs := bvs (List.replicate (8 + d.length) 0)) S8 rfl (by kernel_rfl) ⟨by kernel_rfl⟩ (by kernel_rfl) (by kernel_rfl) rfl rfl (by omega) (by omega) (by omega) (mk_bytes _) (fun g17 w18 hg19 S20 => ?_))
          change St F w0 w18 (row g17 (bvs ((le8 no).take 0 ++ List.replicate (8 - 0 + d.length) 0)) 5 :: row g3 #[.int .i64 ((m : Nat) : Int), v0, .int .i64 ((n : Nat) : Int), v1] 100 :: L) at S20
          refine pv (sl g17 0 8 (8 + d.length)) ?_
          refine wl_end (fr [.slice A a.length ca, .slice B b.length cb, iv no, .slice D d.length cd, ud, ud, ud, ud, iv 0, .slice none 0 0, iv 0, pq g3, iv 0, iv 0, sl g17 0 8 (8 + d.length), ud, ud, ud, ud, .tuple #[.agg #[iv ((m : Nat) : Int), v0, iv ((n : Nat) : Int), v1], iv 0, iv 0], .slice A a.length ca, .slice B b.length cb, .tuple #[.agg #[iv ((m : Nat) : Int), v0, iv ((n : Nat) : Int), v1], iv 0, iv 0], .agg #[iv ((m : Nat) : Int), v0, iv ((n : Nat) : Int), v1], iv 0, iv 0, fv, iv 0, fv, ud, fv, iv no, fv, fv, .slice D d.length cd, iv (d.length : Nat), fv, fv, iv 0, tv, tv, iv no, iv 0, pq g3, pq g3, iv ((m : Nat) : Int), fv, fv, .slice D d.length cd, iv (d.length : Nat), iv ((8 + d.length : Nat) : Int), sl g17 0 8 (8 + d.length)] 29) (by kernel_rfl) ?_
          refine then_n ?_
          refine wp_seq ?_
          refine wp_seq ?_
          refine wp_region_lit ?_
          refine pv (sl g17 0 8 (8 + d.length)) ?_
          refine pv (iv 8) ?_
          refine pv (iv 0) ?_
          refine wl_end (fr [.slice A a.length ca, .slice B b.length cb, iv no, .slice D d.length cd, ud, ud, ud, ud, iv 0, .slice none 0 0, iv 0, pq g3, iv 0, iv 0, sl g17 0 8 (8 + d.length), ud, ud, ud, ud, .tuple #[.agg #[iv ((m : Nat) : Int), v0, iv ((n : Nat) : Int), v1], iv 0, iv 0], .slice A a.length ca, .slice B b.length cb, .tuple #[.agg #[iv ((m : Nat) : Int), v0, iv ((n : Nat) : Int), v1], iv 0, iv 0], .agg #[iv ((m : Nat) : Int), v0, iv ((n : Nat) : Int), v1], iv 0, iv 0, fv, iv 0, fv, ud, fv, iv no, fv, fv, .slice D d.length cd, iv (d.length : Nat), fv, fv, iv 0, tv, tv, iv no, iv 0, pq g3, pq g3, iv ((m : Nat) : Int), fv, fv, .slice D d.length cd, iv (d.length : Nat), iv ((8 + d.length : Nat) : Int), sl g17 0 8 (8 + d.length), sl g17 0 8 (8 + d.length), iv 8, iv 0] 26) (by kernel_rfl) ?_
          refine then_n ?_
          refine wp_block ?_
          have S21 : St F w0 w18 (row g17 (bvs ((le8 no).take 0 ++ List.replicate (8 - 0 + d.length) 0)) 5 :: L) := St.permT [row g17 (bvs ((le8 no).take 0 ++ List.replicate (8 - 0 + d.length) 0)) 5, row g3 #[.int .i64 ((m : Nat) : Int), v0, .int .i64 ((n : Nat) : Int), v1] 100] [0] (by decide) rfl S20
          refine wp_loop_g (G := Nat) (fun (g_ : Nat) (a_ : Act) (w_ : World) => ∃ J : Nat → Value, a_ = (fr [.slice A a.length ca, .slice B b.length cb, iv no, .slice D d.length cd, ud, ud, ud, ud, iv 0, .slice none 0 0, iv 0, pq g3, iv 0, iv 0, sl g17 0 8 (8 + d.length), J 15, ud, ud, ud, .tuple #[.agg #[iv ((m : Nat) : Int), v0, iv ((n : Nat) : Int), v1], iv 0, iv 0], .slice A a.length ca, .slice B b.length cb, .tuple #[.agg #[iv ((m : Nat) : Int), v0, iv ((n : Nat) : Int), v1], iv 0, iv 0], .agg #[iv ((m : Nat) : Int), v0, iv ((n : Nat) : Int), v1], iv 0, iv 0, fv, iv 0, fv, ud, fv, iv no, fv, fv, .slice D d.length cd, iv (d.length : Nat), fv, fv, iv 0, tv, tv, iv no, iv 0, pq g3, pq g3, iv ((m : Nat) : Int), fv, fv, .slice D d.length cd, iv (d.length : Nat), iv ((8 + d.length : Nat) : Int), sl g17 0 8 (8 + d.length), sl g17 0 8 (8 + d.length), iv 8, iv ((g_ : Nat) : Int), J 55, J 56, J 57, J 58, J 59, J 60, J 61, J 62, J 63, J 64, J 65] 15) ∧ St F w0 w_ (row g17 (bvs ((le8 no).take g_ ++ List.replicate (8 - g_ + d.length) 0)) 5 :: L) ∧ (g_ ≤ 8)) (fun g_ => 8 - g_) 0 ⟨(jl []), by kernel_rfl, S21, Nat.zero_le _⟩ ?_
          rintro k a_ w22 ⟨J, rfl, S23, hI24⟩
          skip
          have S23 : St F w0 w22 (row g17 (bvs ((le8 no).take k ++ List.replicate (8 - k + d.length) 0)) 5 :: L) := S23
          have hI24 : (k ≤ 8) := hI24
          refine wp_seq ?_
          refine wp_region_lit ?_
          refine wl_gv rfl (gv_dec (p := (((k : Nat) : Int) : Int) < 8) (by kernel_rfl) (fun hb25 => ?_) (fun hb25 => ?_))
          · skip
            have hk8 : k < 8 := by omega
            refine wl_end (fr [.slice A a.length ca, .slice B b.length cb, iv no, .slice D d.length cd, ud, ud, ud, ud, iv 0, .slice none 0 0, iv 0, pq g3, iv 0, iv 0, sl g17 0 8 (8 + d.length), J 15, ud, ud, ud, .tuple #[.agg #[iv ((m : Nat) : Int), v0, iv ((n : Nat) : Int), v1], iv 0, iv 0], .slice A a.length ca, .slice B b.length cb, .tuple #[.agg #[iv ((m : Nat) : Int), v0, iv ((n : Nat) : Int), v1], iv 0, iv 0], .agg #[iv ((m : Nat) : Int), v0, iv ((n : Nat) : Int), v1], iv 0, iv 0, fv, iv 0, fv, ud, fv, iv no, fv, fv, .slice D d.length cd, iv (d.length : Nat), fv, fv, iv 0, tv, tv, iv no, iv 0, pq g3, pq g3, iv ((m : Nat) : Int), fv, fv, .slice D d.length cd, iv (d.length : Nat), iv ((8 + d.length : Nat) : Int), sl g17 0 8 (8 + d.length), sl g17 0 8 (8 + d.length), iv 8, iv ((k : Nat) : Int), tv, J 56, J 57, J 58, J 59, J 60, J 61, J 62, J 63, J 64, J 65] 15) (by kernel_rfl) ?_
            refine then_n ?_
            refine wp_seq ?_
            refine wp_cond_true (by kernel_rfl) ?_
            refine wp_skip ?_
            refine then_n ?_
            refine wp_seq ?_
            refine wp_block ?_
            refine wp_seq ?_
            refine wp_region_lit ?_
            refine pv (iv ((k : Nat) : Int)) ?_
            refine pv (iv ((k : Nat) : Int)) ?_
            refine wl_end (fr [.slice A a.length ca, .slice B b.length cb, iv no, .slice D d.length cd, ud, ud, ud, ud, iv 0, .slice none 0 0, iv 0, pq g3, iv 0, iv 0, sl g17 0 8 (8 + d.length), iv ((k : Nat) : Int), ud, ud, ud, .tuple #[.agg #[iv ((m : Nat) : Int), v0, iv ((n : Nat) : Int), v1], iv 0, iv 0], .slice A a.length ca, .slice B b.length cb, .tuple #[.agg #[iv ((m : Nat) : Int), v0, iv ((n : Nat) : Int), v1], iv 0, iv 0], .agg #[iv ((m : Nat) : Int), v0, iv ((n : Nat) : Int), v1], iv 0, iv 0, fv, iv 0, fv, ud, fv, iv no, fv, fv, .slice D d.length cd, iv (d.length : Nat), fv, fv, iv 0, tv, tv, iv no, iv 0, pq g3, pq g3, iv ((m : Nat) : Int), fv, fv, .slice D d.length cd, iv (d.length : Nat), iv ((8 + d.length : Nat) : Int), sl g17 0 8 (8 + d.length), sl g17 0 8 (8 + d.length), iv 8, iv ((k : Nat) : Int), tv, iv ((k : Nat) : Int), J 57, J 58, J 59, J 60, J 61, J 62, J 63, J 64, J 65] 15) (by kernel_rfl) ?_
            refine then_n ?_
            refine wp_region_lit ?_
            refine pv (sl g17 0 8 (8 + d.length)) ?_
            refine pv (iv ((k : Nat) : Int)) ?_
            refine pv (iv no) ?_
            refine pv (iv ((k : Nat) : Int)) ?_
            refine wl_gv rfl (gv_int (k := .i64) (z := IntKind.i64.wrap (8 * ((k : Nat) : Int))) (z' := ((8 * k : Nat) : Int)) (by kernel_rfl) (wr_eq (by omega) (by omega) (by omega)) ?_)
            refine wl_gv rfl (gv_shr (k := .i64) (yk := .i64) (z := no) (i := ((8 * k : Nat) : Int)) (j := (8 * k)) (z' := (no / 2 ^ (8 * k))) rfl (by kernel_rfl) (by kernel_rfl) rfl (by show 8 * k ≤ 64; omega) rfl ?_)
            refine wl_gv rfl (gv_int (k := .u8) (z := IntKind.u8.wrap (no / 2 ^ (8 * k))) (z' := (((le8 no).getD k 0).toNat : Int)) (by kernel_rfl) (by rw [wrap_u8, le8_get no hk8]) ?_)
            refine wl_gv rfl (gv_ixE (e := 5) (sz := 1) (g := g17) (off := 0) (n := 8) (c := (8 + d.length)) (i := ((k : Nat) : Int)) (k := .i64) (j := k) (off' := k) rfl (by kernel_rfl) (by kernel_rfl) (by kernel_rfl) (by kernel_rfl) rfl (by omega) (by omega) ?_)
            refine wl_gv rfl (gv_st (k := k) (v := .int .u8 (((le8 no).getD k 0).toNat : Int)) S23 0 rfl rfl (by kernel_rfl) (by kernel_rfl) (by kernel_rfl) rfl (Nat.ble_eq_true_of_le (by rw [size_bvs, List.length_append, List.length_take, List.length_replicate]; omega)) (L' := (row g17 (bvs ((le8 no).take (k + 1) ++ List.replicate (8 - (k + 1) + d.length) 0)) 5 :: L)) (by rw [bvs_set, fill_set (by omega) h8]; rfl) (fun w26 S27 => ?_))
            refine wl_end (fr [.slice A a.length ca, .slice B b.length cb, iv no, .slice D d.length cd, ud, ud, ud, ud, iv 0, .slice none 0 0, iv 0, pq g3, iv 0, iv 0, sl g17 0 8 (8 + d.length), iv ((k : Nat) : Int), ud, ud, ud, .tuple #[.agg #[iv ((m : Nat) : Int), v0, iv ((n : Nat) : Int), v1], iv 0, iv 0], .slice A a.length ca, .slice B b.length cb, .tuple #[.agg #[iv ((m : Nat) : Int), v0, iv ((n : Nat) : Int), v1], iv 0, iv 0], .agg #[iv ((m : Nat) : Int), v0, iv ((n : Nat) : Int), v1], iv 0, iv 0, fv, iv 0, fv, ud, fv, iv no, fv, fv, .slice D d.length cd, iv (d.length : Nat), fv, fv, iv 0, tv, tv, iv no, iv 0, pq g3, pq g3, iv ((m : Nat) : Int), fv, fv, .slice D d.length cd, iv (d.length : Nat), iv ((8 + d.length : Nat) : Int), sl g17 0 8 (8 + d.length), sl g17 0 8 (8 + d.length), iv 8, iv ((k : Nat) : Int), tv, iv ((k : Nat) : Int), sl g17 0 8 (8 + d.length), iv ((k : Nat) : Int), iv no, iv ((k : Nat) : Int), iv ((8 * k : Nat) : Int), iv (no / 2 ^ (8 * k)), .int .u8 (((le8 no).getD k 0).toNat : Int), po g17 k, J 65] 15) (by kernel_rfl) ?_
            refine inb_n ?_
            refine then_n ?_
            refine wp_region_lit ?_
            refine wl_gv rfl (gv_int (k := .i64) (z := IntKind.i64.wrap (((k : Nat) : Int) + 1)) (z' := ((k + 1 : Nat) : Int)) (by kernel_rfl) (wr_eq (by omega) (by omega) (by omega)) ?_)
            refine pv (iv ((k + 1 : Nat) : Int)) ?_
            refine wl_end (fr [.slice A a.length ca, .slice B b.length cb, iv no, .slice D d.length cd, ud, ud, ud, ud, iv 0, .slice none 0 0, iv 0, pq g3, iv 0, iv 0, sl g17 0 8 (8 + d.length), iv ((k : Nat) : Int), ud, ud, ud, .tuple #[.agg #[iv ((m : Nat) : Int), v0, iv ((n : Nat) : Int), v1], iv 0, iv 0], .slice A a.length ca, .slice B b.length cb, .tuple #[.agg #[iv ((m : Nat) : Int), v0, iv ((n : Nat) : Int), v1], iv 0, iv 0], .agg #[iv ((m : Nat) : Int), v0, iv ((n : Nat) : Int), v1], iv 0, iv 0, fv, iv 0, fv, ud, fv, iv no, fv, fv, .slice D d.length cd, iv (d.length : Nat), fv, fv, iv 0, tv, tv, iv no, iv 0, pq g3, pq g3, iv ((m : Nat) : Int), fv, fv, .slice D d.length cd, iv (d.length : Nat), iv ((8 + d.length : Nat) : Int), sl g17 0 8 (8 + d.length), sl g17 0 8 (8 + d.length), iv 8, iv ((k + 1 : Nat) : Int), tv, iv ((k : Nat) : Int), sl g17 0 8 (8 + d.length), iv ((k : Nat) : Int), iv no, iv ((k : Nat) : Int), iv ((8 * k : Nat) : Int), iv (no / 2 ^ (8 * k)), .int .u8 (((le8 no).getD k 0).toNat : Int), po g17 k, iv ((k + 1 : Nat) : Int)] 15) (by kernel_rfl) ?_
            refine then_n ?_
            exact ⟨k + 1, ⟨(jl [ud, ud, ud, ud, ud, ud, ud, ud, ud, ud, ud, ud, ud, ud, ud, iv ((k : Nat) : Int), ud, ud, ud, ud, ud, ud, ud, ud, ud, ud, ud, ud, ud, ud, ud, ud, ud, ud, ud, ud, ud, ud, ud, ud, ud, ud, ud, ud, ud, ud, ud, ud, ud, ud, ud, ud, ud, ud, ud, tv, iv ((k : Nat) : Int), sl g17 0 8 (8 + d.length), iv ((k : Nat) : Int), iv no, iv ((k : Nat) : Int), iv ((8 * k : Nat) : Int), iv (no / 2 ^ (8 * k)), .int .u8 (((le8 no).getD k 0).toNat : Int), po g17 k, iv ((k + 1 : Nat) : Int)]), by kernel_rfl, S27, (by omega)⟩, (by show 8 - (k + 1) < 8 - k; omega)⟩
          · skip
            have hk8 : k = 8 := by omega
            have ht8 : (le8 no).take 8 = le8 no := List.take_of_length_le (by omega)
            rw [hk8, ht8] at S23
            refine wl_end (fr [.slice A a.length ca, .slice B b.length cb, iv no, .slice D d.length cd, ud, ud, ud, ud, iv 0, .slice none 0 0, iv 0, pq g3, iv 0, iv 0, sl g17 0 8 (8 + d.length), J 15, ud, ud, ud, .tuple #[.agg #[iv ((m : Nat) : Int), v0, iv ((n : Nat) : Int), v1], iv 0, iv 0], .slice A a.length ca, .slice B b.length cb, .tuple #[.agg #[iv ((m : Nat) : Int), v0, iv ((n : Nat) : Int), v1], iv 0, iv 0], .agg #[iv ((m : Nat) : Int), v0, iv ((n : Nat) : Int), v1], iv 0, iv 0, fv, iv 0, fv, ud, fv, iv no, fv, fv, .slice D d.length cd, iv (d.length : Nat), fv, fv, iv 0, tv, tv, iv no, iv 0, pq g3, pq g3, iv ((m : Nat) : Int), fv, fv, .slice D d.length cd, iv (d.length : Nat), iv ((8 + d.length : Nat) : Int), sl g17 0 8 (8 + d.length), sl g17 0 8 (8 + d.length), iv 8, iv ((k : Nat) : Int), fv, J 56, J 57, J 58, J 59, J 60, J 61, J 62, J 63, J 64, J 65] 15) (by kernel_rfl) ?_
            refine then_n ?_
            refine wp_seq ?_
            refine wp_cond_false (by kernel_rfl) ?_
            refine wp_exit ?_
            refine then_x ?_
            refine then_x ?_
            refine inb_x ?_
            refine then_n ?_
            refine wp_seq ?_
            refine wp_region_lit ?_
            refine pv (.slice A a.length ca) ?_
            refine pv (iv 0) ?_
            refine pv (.slice A a.length ca) ?_
            refine wl_end (fr [.slice A a.length ca, .slice B b.length cb, iv no, .slice D d.length cd, ud, ud, ud, ud, iv 0, .slice none 0 0, iv 0, pq g3, iv 0, iv 0, sl g17 0 8 (8 + d.length), J 15, iv 0, .slice A a.length ca, ud, .tuple #[.agg #[iv ((m : Nat) : Int), v0, iv ((n : Nat) : Int), v1], iv 0, iv 0], .slice A a.length ca, .slice B b.length cb, .tuple #[.agg #[iv ((m : Nat) : Int), v0, iv ((n : Nat) : Int), v1], iv 0, iv 0], .agg #[iv ((m : Nat) : Int), v0, iv ((n : Nat) : Int), v1], iv 0, iv 0, fv, iv 0, fv, ud, fv, iv no, fv, fv, .slice D d.length cd, iv (d.length : Nat), fv, fv, iv 0, tv, tv, iv no, iv 0, pq g3, pq g3, iv ((m : Nat) : Int), fv, fv, .slice D d.length cd, iv (d.length : Nat), iv ((8 + d.length : Nat) : Int), sl g17 0 8 (8 + d.length), sl g17 0 8 (8 + d.length), iv 8, iv ((k : Nat) : Int), fv, J 56, J 57, J 58, J 59, J 60, J 61, J 62, J 63, J 64, J 65, .slice A a.length ca] 14) (by kernel_rfl) ?_
            refine then_n ?_
            refine wp_seq ?_
            refine wp_seq ?_
            refine wp_region_lit ?_
            refine pv (iv 0) ?_
            refine wl_gv rfl (gv_eq (x := 0) (y := 0) (by kernel_rfl) (fun _ => ?_) (fun hd28 => False.elim ((by omega))))
            refine wl_end (fr [.slice A a.length ca, .slice B b.length cb, iv no, .slice D d.length cd, ud, ud, ud, ud, iv 0, .slice none 0 0, iv 0, pq g3, iv 0, iv 0, sl g17 0 8 (8 + d.length), J 15, iv 0, .slice A a.length ca, ud, .tuple #[.agg #[iv ((m : Nat) : Int), v0, iv ((n : Nat) : Int), v1], iv 0, iv 0], .slice A a.length ca, .slice B b.length cb, .tuple #[.agg #[iv ((m : Nat) : Int), v0, iv ((n : Nat) : Int), v1], iv 0, iv 0], .agg #[iv ((m : Nat) : Int), v0, iv ((n : Nat) : Int), v1], iv 0, iv 0, fv, iv 0, fv, ud, fv, iv no, fv, fv, .slice D d.length cd, iv (d.length : Nat), fv, fv, iv 0, tv, tv, iv no, iv 0, pq g3, pq g3, iv ((m : Nat) : Int), fv, fv, .slice D d.length cd, iv (d.length : Nat), iv ((8 + d.length : Nat) : Int), sl g17 0 8 (8 + d.length), sl g17 0 8 (8 + d.length), iv 8, iv ((k : Nat) : Int), fv, J 56, J 57, J 58, J 59, J 60, J 61, J 62, J 63, J 64, J 65, .slice A a.length ca, iv 0, tv] 12) (by kernel_rfl) ?_
            refine then_n ?_
            refine wp_cond_true (by kernel_rfl) ?_
            refine wp_region_lit ?_
            refine pv (.slice B b.length cb) ?_
            refine pv (iv 1) ?_
            refine pv (.slice B b.length cb) ?_
            refine wl_end (fr [.slice A a.length ca, .slice B b.length cb, iv no, .slice D d.length cd, ud, ud, ud, ud, iv 0, .slice none 0 0, iv 0, pq g3, iv 0, iv 0, sl g17 0 8 (8 + d.length), J 15, iv 1, .slice B b.length cb, ud, .tuple #[.agg #[iv ((m : Nat) : Int), v0, iv ((n : Nat) : Int), v1], iv 0, iv 0], .slice A a.length ca, .slice B b.length cb, .tuple #[.agg #[iv ((m : Nat) : Int), v0, iv ((n : Nat) : Int), v1], iv 0, iv 0], .agg #[iv ((m : Nat) : Int), v0, iv ((n : Nat) : Int), v1], iv 0, iv 0, fv, iv 0, fv, ud, fv, iv no, fv, fv, .slice D d.length cd, iv (d.length : Nat), fv, fv, iv 0, tv, tv, iv no, iv 0, pq g3, pq g3, iv ((m : Nat) : Int), fv, fv, .slice D d.length cd, iv (d.length : Nat), iv ((8 + d.length : Nat) : Int), sl g17 0 8 (8 + d.length), sl g17 0 8 (8 + d.length), iv 8, iv ((k : Nat) : Int), fv, J 56, J 57, J 58, J 59, J 60, J 61, J 62, J 63, J 64, J 65, .slice A a.length ca, iv 0, tv, .slice B b.length cb] 11) (by kernel_rfl) ?_
            refine then_n ?_
            refine wp_seq ?_
            refine wp_region_lit ?_
            refine pv (.slice B b.length cb) ?_
            refine pv (sl g17 0 8 (8 + d.length)) ?_
            refine pv (.slice D d.length cd) ?_
            have hln : 8 + d.length = (le8 no ++ d).length := by rw [List.length_append]; omega
            have hsp : splice (le8 no ++ List.replicate (8 - 8 + d.length) 0) 8 d = le8 no ++ d := by unfold splice; rw [List.take_left' h8, List.drop_of_length_le (by rw [List.length_append, List.length_replicate]; omega), List.append_nil]
            refine wl_gv rfl (gv_appendB (e := 5) (n := 8) (c := 8 + d.length) (m := d.length) (c' := cd) (A := D) (l := d) (X := le8 no ++ List.replicate (8 - 8 + d.length) 0) (n' := 8 + d.length) S23 0 rfl rfl (by kernel_rfl) (by kernel_rfl) (by kernel_rfl) (by kernel_rfl) rfl (hd.out _ [row g17 (bvs (le8 no ++ List.replicate (8 - 8 + d.length) 0)) 5] S23) (Nat.le_refl _) (by rw [List.length_append, List.length_replicate]; omega) rfl (L' := (row g17 (bvs (le8 no ++ d)) 5 :: L)) (by rw [hsp]; rfl) (fun w29 S30 => ?_))
            refine wl_gv rfl (gv_call (args := #[.slice B b.length cb, .slice (some ⟨g17, 0, none⟩) (8 + d.length) (8 + d.length)]) rfl Try.func24 (by kernel_rfl) rfl rfl (by kernel_rfl) ?_)
            refine Calls.mono (ps_seal' (a := b) (b := le8 no ++ d) S30 rfl hln hb.more (RoT.item 0 rfl 0 (le8 no ++ d).length _ (by rw [List.drop_zero, List.take_length])) (by omega) (by omega)) ?_
            rintro _ w31 ⟨A33, c34, rfl, S32⟩
            refine ⟨_, rfl, ?_⟩
            refine pv (.tuple #[.slice A33 ((sealF b (le8 no ++ d)).1.length) c34, iv ((sealF b (le8 no ++ d)).2 : Int)]) ?_
            refine pv (.slice A33 ((sealF b (le8 no ++ d)).1.length) c34) ?_
            refine pv (iv ((sealF b (le8 no ++ d)).2 : Int)) ?_
            refine pv (.slice A33 ((sealF b (le8 no ++ d)).1.length) c34) ?_
            refine pv (iv ((sealF b (le8 no ++ d)).2 : Int)) ?_
            refine wl_end (fr [.slice A a.length ca, .slice B b.length cb, iv no, .slice D d.length cd, ud, ud, ud, ud, iv 0, .slice none 0 0, iv 0, pq g3, iv 0, iv ((sealF b (le8 no ++ d)).2 : Int), sl g17 0 8 (8 + d.length), J 15, iv 1, .slice B b.length cb, .slice A33 ((sealF b (le8 no ++ d)).1.length) c34, .tuple #[.agg #[iv ((m : Nat) : Int), v0, iv ((n : Nat) : Int), v1], iv 0, iv 0], .slice A a.length ca, .slice B b.length cb, .tuple #[.agg #[iv ((m : Nat) : Int), v0, iv ((n : Nat) : Int), v1], iv 0, iv 0], .agg #[iv ((m : Nat) : Int), v0, iv ((n : Nat) : Int), v1], iv 0, iv 0, fv, iv 0, fv, ud, fv, iv no, fv, fv, .slice D d.length cd, iv (d.length : Nat), fv, fv, iv 0, tv, tv, iv no, iv 0, pq g3, pq g3, iv ((m : Nat) : Int), fv, fv, .slice D d.length cd, iv (d.length : Nat), iv ((8 + d.length : Nat) : Int), sl g17 0 8 (8 + d.length), sl g17 0 8 (8 + d.length), iv 8, iv ((k : Nat) : Int), fv, J 56, J 57, J 58, J 59, J 60, J 61, J 62, J 63, J 64, J 65, .slice A a.length ca, iv 0, tv, .slice B b.length cb, .tuple #[.slice A33 ((sealF b (le8 no ++ d)).1.length) c34, iv ((sealF b (le8 no ++ d)).2 : Int)], .slice B b.length cb, sl g17 0 8 (8 + d.length), .slice D d.length cd, sl g17 0 (8 + d.length) (8 + d.length), .tuple #[.slice A33 ((sealF b (le8 no ++ d)).1.length) c34, iv ((sealF b (le8 no ++ d)).2 : Int)], .slice A33 ((sealF b (le8 no ++ d)).1.length) c34, iv ((sealF b (le8 no ++ d)).2 : Int)] 3) (by kernel_rfl) ?_
            refine then_n ?_
            refine wp_seq ?_
            refine wp_region_lit ?_
            refine pv (iv 1) ?_
            refine pv (.slice A33 ((sealF b (le8 no ++ d)).1.length) c34) ?_
            refine pv (iv ((sealF b (le8 no ++ d)).2 : Int)) ?_
            refine pv (iv 1) ?_
            refine pv (.slice A33 ((sealF b (le8 no ++ d)).1.length) c34) ?_
            refine pv (iv ((sealF b (le8 no ++ d)).2 : Int)) ?_
            refine wl_end (fr [.slice A a.length ca, .slice B b.length cb, iv no, .slice D d.length cd, ud, ud, ud, ud, iv 1, .slice A33 ((sealF b (le8 no ++ d)).1.length) c34, iv ((sealF b (le8 no ++ d)).2 : Int), pq g3, iv 0, iv ((sealF b (le8 no ++ d)).2 : Int), sl g17 0 8 (8 + d.length), J 15, iv 1, .slice B b.length cb, .slice A33 ((sealF b (le8 no ++ d)).1.length) c34, .tuple #[.agg #[iv ((m : Nat) : Int), v0, iv ((n : Nat) : Int), v1], iv 0, iv 0], .slice A a.length ca, .slice B b.length cb, .tuple #[.agg #[iv ((m : Nat) : Int), v0, iv ((n : Nat) : Int), v1], iv 0, iv 0], .agg #[iv ((m : Nat) : Int), v0, iv ((n : Nat) : Int), v1], iv 0, iv 0, fv, iv 0, fv, ud, fv, iv no, fv, fv, .slice D d.length cd, iv (d.length : Nat), fv, fv, iv 0, tv, tv, iv no, iv 0, pq g3, pq g3, iv ((m : Nat) : Int), fv, fv, .slice D d.length cd, iv (d.length : Nat), iv ((8 + d.length : Nat) : Int), sl g17 0 8 (8 + d.length), sl g17 0 8 (8 + d.length), iv 8, iv ((k : Nat) : Int), fv, J 56, J 57, J 58, J 59, J 60, J 61, J 62, J 63, J 64, J 65, .slice A a.length ca, iv 0, tv, .slice B b.length cb, .tuple #[.slice A33 ((sealF b (le8 no ++ d)).1.length) c34, iv ((sealF b (le8 no ++ d)).2 : Int)], .slice B b.length cb, sl g17 0 8 (8 + d.length), .slice D d.length cd, sl g17 0 (8 + d.length) (8 + d.length), .tuple #[.slice A33 ((sealF b (le8 no ++ d)).1.length) c34, iv ((sealF b (le8 no ++ d)).2 : Int)], .slice A33 ((sealF b (le8 no ++ d)).1.length) c34, iv ((sealF b (le8 no ++ d)).2 : Int), iv 1, .slice A33 ((sealF b (le8 no ++ d)).1.length) c34, iv ((sealF b (le8 no ++ d)).2 : Int)] 0) (by kernel_rfl) ?_
            refine then_n ?_
            refine wp_ret ?_
            refine bodyPost_ret (v := .tuple #[.int .i64 1, .slice A33 ((sealF b (le8 no ++ d)).1.length) c34, .int .i64 ((sealF b (le8 no ++ d)).2 : Int)]) (Go.Vel.results_tmp3 rfl _ _ (by kernel_rfl) (by kernel_rfl) (by kernel_rfl)) rfl ?_
            have e := renew_end (a := a) (b := b) (no := no) (d := d) hl (by omega) (by omega) (by rw [hnw]; simp <;> omega)
            rw [hnw, if_pos ⟨rfl, rfl⟩] at e
            rw [e]
            have S35 : St F w0 w31 (bytesX (.slice A33 (sealF b (le8 no ++ d)).1.length c34) (sealF b (le8 no ++ d)).1 :: L) := St.permT [bytesX (.slice A33 (sealF b (le8 no ++ d)).1.length c34) (sealF b (le8 no ++ d)).1, row g17 (bvs (le8 no ++ d)) 5] [0] (by decide) rfl S32
            exact ⟨A33, c34, rfl, S35⟩
  · have hnw := newest_right ⟨hl, hm, hn, hs⟩
    refine wp_enter (fr [.slice A a.length ca, .slice B b.length cb, iv no, .slice D d.length cd] 77) Try.func33 rfl (by kernel_rfl) ?_
    refine wp_seq ?_
    refine wp_region_lit ?_
    refine pv (iv 0) ?_
    refine pv (.slice none 0 0) ?_
    refine pv (iv 0) ?_
    refine wl_end (fr [.slice A a.length ca, .slice B b.length cb, iv no, .slice D d.length cd, ud, ud, ud, ud, iv 0, .slice none 0 0, iv 0] 70) (by kernel_rfl) ?_
    refine then_n ?_
    refine wp_seq ?_
    refine wp_region_lit ?_
    refine pv (.slice A a.length ca) ?_
    refine pv (.slice B b.length cb) ?_
    refine wl_gv rfl (gv_call (args := #[.slice A a.length ca, .slice B b.length cb]) rfl Try.func47 (by kernel_rfl) rfl rfl (by kernel_rfl) ?_)
    refine Calls.mono (ps_pair (sl := 1) S ha hb hl hm hn hs) ?_
    rintro _ w1 ⟨v0, v1, rfl, ho0, ho1, S2⟩
    refine ⟨_, rfl, ?_⟩
    refine pv (.tuple #[.agg #[iv ((m : Nat) : Int), v0, iv ((n : Nat) : Int), v1], iv 1, iv 0]) ?_
    refine pv (.agg #[iv ((m : Nat) : Int), v0, iv ((n : Nat) : Int), v1]) ?_
    refine pv (iv 1) ?_
    refine pv (iv 0) ?_
    refine wl_gv rfl (gv_new (z := .agg #[.int .i64 0, .slice none 0 0, .int .i64 0, .slice none 0 0]) S2 rfl (by kernel_rfl) (fun g3 w4 hg5 S6 => ?_))
    refine wl_gv rfl (gv_stA (k := 0) (vs := [.int .i64 ((m : Nat) : Int), v0, .int .i64 ((n : Nat) : Int), v1]) S6 0 rfl rfl (by kernel_rfl) (by kernel_rfl) (by kernel_rfl) rfl (by intro u hu; simp only [List.mem_cons, List.not_mem_nil, or_false] at hu; rcases hu with rfl | rfl | rfl | rfl <;> first | rfl | assumption) (Nat.le_of_ble_eq_true (by kernel_rfl)) (L' := (row g3 #[.int .i64 ((m : Nat) : Int), v0, .int .i64 ((n : Nat) : Int), v1] 100 :: L)) rfl (fun w7 S8 => ?_))
    refine pv (iv 1) ?_
    refine pv (iv 0) ?_
    refine wl_end (fr [.slice A a.length ca, .slice B b.length cb, iv no, .slice D d.length cd, ud, ud, ud, ud, iv 0, .slice none 0 0, iv 0, pq g3, iv 1, iv 0, ud, ud, ud, ud, ud, .tuple #[.agg #[iv ((m : Nat) : Int), v0, iv ((n : Nat) : Int), v1], iv 1, iv 0], .slice A a.length ca, .slice B b.length cb, .tuple #[.agg #[iv ((m : Nat) : Int), v0, iv ((n : Nat) : Int), v1], iv 1, iv 0], .agg #[iv ((m : Nat) : Int), v0, iv ((n : Nat) : Int), v1], iv 1, iv 0] 55) (by kernel_rfl) ?_
    refine then_n ?_
    refine wp_seq ?_
    refine wp_block ?_
    refine wp_seq ?_
    refine wp_region_lit ?_
    refine pv (iv 0) ?_
    refine wl_gv rfl (gv_ne (x := 0) (y := 0) (by kernel_rfl) (fun hd9 => False.elim (hd9 (by decide))) (fun _ => ?_))
    refine pv fv ?_
    refine wl_end (fr [.slice A a.length ca, .slice B b.length cb, iv no, .slice D d.length cd, ud, ud, ud, ud, iv 0, .slice none 0 0, iv 0, pq g3, iv 1, iv 0, ud, ud, ud, ud, ud, .tuple #[.agg #[iv ((m : Nat) : Int), v0, iv ((n : Nat) : Int), v1], iv 1, iv 0], .slice A a.length ca, .slice B b.length cb, .tuple #[.agg #[iv ((m : Nat) : Int), v0, iv ((n : Nat) : Int), v1], iv 1, iv 0], .agg #[iv ((m : Nat) : Int), v0, iv ((n : Nat) : Int), v1], iv 1, iv 0, fv, iv 0, fv] 52) (by kernel_rfl) ?_
    refine then_n ?_
    refine wp_cond_false (by kernel_rfl) ?_
    refine wp_seq ?_
    refine wp_region_lit ?_
    refine pv (iv no) ?_
    refine wl_gv rfl (gv_dec (p := (no : Int) < 1) (by kernel_rfl) (fun hb10 => ?_) (fun hb10 => ?_))
    · skip
      refine pv tv ?_
      refine wl_end (fr [.slice A a.length ca, .slice B b.length cb, iv no, .slice D d.length cd, ud, ud, ud, ud, iv 0, .slice none 0 0, iv 0, pq g3, iv 1, iv 0, ud, ud, ud, ud, ud, .tuple #[.agg #[iv ((m : Nat) : Int), v0, iv ((n : Nat) : Int), v1], iv 1, iv 0], .slice A a.length ca, .slice B b.length cb, .tuple #[.agg #[iv ((m : Nat) : Int), v0, iv ((n : Nat) : Int), v1], iv 1, iv 0], .agg #[iv ((m : Nat) : Int), v0, iv ((n : Nat) : Int), v1], iv 1, iv 0, fv, iv 0, fv, ud, tv, iv no, tv] 48) (by kernel_rfl) ?_
      refine then_n ?_
      refine wp_cond_true (by kernel_rfl) ?_
      refine wp_seq ?_
      refine wp_region_lit ?_
      refine pv (iv 0) ?_
      refine pv (.slice none 0 0) ?_
      refine pv (iv 1) ?_
      refine wl_end (fr [.slice A a.length ca, .slice B b.length cb, iv no, .slice D d.length cd, ud, ud, ud, ud, iv 0, .slice none 0 0, iv 1, pq g3, iv 1, iv 0, ud, ud, ud, ud, ud, .tuple #[.agg #[iv ((m : Nat) : Int), v0, iv ((n : Nat) : Int), v1], iv 1, iv 0], .slice A a.length ca, .slice B b.length cb, .tuple #[.agg #[iv ((m : Nat) : Int), v0, iv ((n : Nat) : Int), v1], iv 1, iv 0], .agg #[iv ((m : Nat) : Int), v0, iv ((n : Nat) : Int), v1], iv 1, iv 0, fv, iv 0, fv, ud, tv, iv no, tv] 48) (by kernel_rfl) ?_
      refine then_n ?_
      refine wp_ret ?_
      refine inb_r ?_
      refine then_r ?_
      refine bodyPost_ret (v := .tuple #[.int .i64 0, .slice none 0 0, .int .i64 1]) (Go.Vel.results_tmp3 rfl _ _ (by kernel_rfl) (by kernel_rfl) (by kernel_rfl)) rfl ?_
      have e : renewF a b no d = (0, [], 1) := by unfold renewF; rw [if_neg (fun h => h hl), if_pos (by omega)]
      rw [e]
      have S11 : St F w0 w7 (L) := St.permT [row g3 #[.int .i64 ((m : Nat) : Int), v0, .int .i64 ((n : Nat) : Int), v1] 100] [] (by decide) rfl S8
      exact ⟨none, 0, rfl, St.bytesX_nil S11⟩
    · skip
      refine pv fv ?_
      refine wl_end (fr [.slice A a.length ca, .slice B b.length cb, iv no, .slice D d.length cd, ud, ud, ud, ud, iv 0, .slice none 0 0, iv 0, pq g3, iv 1, iv 0, ud, ud, ud, ud, ud, .tuple #[.agg #[iv ((m : Nat) : Int), v0, iv ((n : Nat) : Int), v1], iv 1, iv 0], .slice A a.length ca, .slice B b.length cb, .tuple #[.agg #[iv ((m : Nat) : Int), v0, iv ((n : Nat) : Int), v1], iv 1, iv 0], .agg #[iv ((m : Nat) : Int), v0, iv ((n : Nat) : Int), v1], iv 1, iv 0, fv, iv 0, fv, ud, fv, iv no, fv] 48) (by kernel_rfl) ?_
      refine then_n ?_
      refine wp_cond_false (by kernel_rfl) ?_
      refine wp_seq ?_
      refine wp_region_lit ?_
      refine pv (.slice D d.length cd) ?_
      refine pv (iv (d.length : Nat)) ?_
      refine wl_gv rfl (gv_dec (p := ((d.length : Nat) : Int) > 496) (by kernel_rfl) (fun hb12 => ?_) (fun hb12 => ?_))
      · skip
        refine pv tv ?_
        refine wl_end (fr [.slice A a.length ca, .slice B b.length cb, iv no, .slice D d.length cd, ud, ud, ud, ud, iv 0, .slice none 0 0, iv 0, pq g3, iv 1, iv 0, ud, ud, ud, ud, ud, .tuple #[.agg #[iv ((m : Nat) : Int), v0, iv ((n : Nat) : Int), v1], iv 1, iv 0], .slice A a.length ca, .slice B b.length cb, .tuple #[.agg #[iv ((m : Nat) : Int), v0, iv ((n : Nat) : Int), v1], iv 1, iv 0], .agg #[iv ((m : Nat) : Int), v0, iv ((n : Nat) : Int), v1], iv 1, iv 0, fv, iv 0, fv, ud, fv, iv no, fv, tv, .slice D d.length cd, iv (d.length : Nat), tv] 44) (by kernel_rfl) ?_
        refine then_n ?_
        refine wp_cond_true (by kernel_rfl) ?_
        refine wp_seq ?_
        refine wp_region_lit ?_
        refine pv (iv 0) ?_
        refine pv (.slice none 0 0) ?_
        refine pv (iv 7) ?_
        refine wl_end (fr [.slice A a.length ca, .slice B b.length cb, iv no, .slice D d.length cd, ud, ud, ud, ud, iv 0, .slice none 0 0, iv 7, pq g3, iv 1, iv 0, ud, ud, ud, ud, ud, .tuple #[.agg #[iv ((m : Nat) : Int), v0, iv ((n : Nat) : Int), v1], iv 1, iv 0], .slice A a.length ca, .slice B b.length cb, .tuple #[.agg #[iv ((m : Nat) : Int), v0, iv ((n : Nat) : Int), v1], iv 1, iv 0], .agg #[iv ((m : Nat) : Int), v0, iv ((n : Nat) : Int), v1], iv 1, iv 0, fv, iv 0, fv, ud, fv, iv no, fv, tv, .slice D d.length cd, iv (d.length : Nat), tv] 44) (by kernel_rfl) ?_
        refine then_n ?_
        refine wp_ret ?_
        refine inb_r ?_
        refine then_r ?_
        refine bodyPost_ret (v := .tuple #[.int .i64 0, .slice none 0 0, .int .i64 7]) (Go.Vel.results_tmp3 rfl _ _ (by kernel_rfl) (by kernel_rfl) (by kernel_rfl)) rfl ?_
        have e : renewF a b no d = (0, [], 7) := by unfold renewF; rw [if_neg (fun h => h hl), if_neg (by omega), if_pos (by omega)]
        rw [e]
        have S13 : St F w0 w7 (L) := St.permT [row g3 #[.int .i64 ((m : Nat) : Int), v0, .int .i64 ((n : Nat) : Int), v1] 100] [] (by decide) rfl S8
        exact ⟨none, 0, rfl, St.bytesX_nil S13⟩
      · skip
        refine pv fv ?_
        refine wl_end (fr [.slice A a.length ca, .slice B b.length cb, iv no, .slice D d.length cd, ud, ud, ud, ud, iv 0, .slice none 0 0, iv 0, pq g3, iv 1, iv 0, ud, ud, ud, ud, ud, .tuple #[.agg #[iv ((m : Nat) : Int), v0, iv ((n : Nat) : Int), v1], iv 1, iv 0], .slice A a.length ca, .slice B b.length cb, .tuple #[.agg #[iv ((m : Nat) : Int), v0, iv ((n : Nat) : Int), v1], iv 1, iv 0], .agg #[iv ((m : Nat) : Int), v0, iv ((n : Nat) : Int), v1], iv 1, iv 0, fv, iv 0, fv, ud, fv, iv no, fv, fv, .slice D d.length cd, iv (d.length : Nat), fv] 44) (by kernel_rfl) ?_
        refine then_n ?_
        refine wp_cond_false (by kernel_rfl) ?_
        refine wp_seq ?_
        refine wp_region_lit ?_
        refine pv (iv 1) ?_
        refine wl_gv rfl (gv_dec (p := (1 : Int) ≥ 0) (by kernel_rfl) (fun _ => ?_) (fun hd14 => False.elim ((by omega))))
        refine pv tv ?_
        refine wl_when (by kernel_rfl) (gv_val (v := .int .i64 no) (w' := w7) (by kernel_rfl) ?_)
        refine wl_when (by kernel_rfl) (gv_val (v := .int .i64 1) (w' := w7) (by kernel_rfl) ?_)
        refine wl_when (by kernel_rfl) (gv_ixArr (sz := 2) (g := g3) (off := 0) (N := 2) (k := .i64) (i := 1) (j := 1) (off' := 2) rfl (by kernel_rfl) (by kernel_rfl) (by kernel_rfl) (by kernel_rfl) (by kernel_rfl) rfl (by decide) rfl ?_)
        refine wl_when (by kernel_rfl) (gv_val (v := .pointer (some ⟨g3, 2, none⟩)) (w' := w7) (by kernel_rfl) ?_)
        refine wl_when (by kernel_rfl) (gv_ldR (v := .int .i64 ((n : Nat) : Int)) rfl (by kernel_rfl) (by kernel_rfl) (((S8.blk 0 rfl).cell 2).trans rfl) ?_)
        refine wl_when (by kernel_rfl) (gv_dec (p := (no : Int) ≤ ((n : Nat) : Int)) (by kernel_rfl) (fun hb15 => ?_) (fun hb15 => ?_))
        · skip
          refine pv tv ?_
          refine pv tv ?_
          refine wl_end (fr [.slice A a.length ca, .slice B b.length cb, iv no, .slice D d.length cd, ud, ud, ud, ud, iv 0, .slice none 0 0, iv 0, pq g3, iv 1, iv 0, ud, ud, ud, ud, ud, .tuple #[.agg #[iv ((m : Nat) : Int), v0, iv ((n : Nat) : Int), v1], iv 1, iv 0], .slice A a.length ca, .slice B b.length cb, .tuple #[.agg #[iv ((m : Nat) : Int), v0, iv ((n : Nat) : Int), v1], iv 1, iv 0], .agg #[iv ((m : Nat) : Int), v0, iv ((n : Nat) : Int), v1], iv 1, iv 0, fv, iv 0, fv, ud, fv, iv no, fv, fv, .slice D d.length cd, iv (d.length : Nat), fv, tv, iv 1, tv, tv, iv no, iv 1, po g3 2, po g3 2, iv ((n : Nat) : Int), tv, tv] 33) (by kernel_rfl) ?_
          refine then_n ?_
          refine wp_cond_true (by kernel_rfl) ?_
          refine wp_seq ?_
          refine wp_region_lit ?_
          refine pv (iv 0) ?_
          refine pv (.slice none 0 0) ?_
          refine pv (iv 31) ?_
          refine wl_end (fr [.slice A a.length ca, .slice B b.length cb, iv no, .slice D d.length cd, ud, ud, ud, ud, iv 0, .slice none 0 0, iv 31, pq g3, iv 1, iv 0, ud, ud, ud, ud, ud, .tuple #[.agg #[iv ((m : Nat) : Int), v0, iv ((n : Nat) : Int), v1], iv 1, iv 0], .slice A a.length ca, .slice B b.length cb, .tuple #[.agg #[iv ((m : Nat) : Int), v0, iv ((n : Nat) : Int), v1], iv 1, iv 0], .agg #[iv ((m : Nat) : Int), v0, iv ((n : Nat) : Int), v1], iv 1, iv 0, fv, iv 0, fv, ud, fv, iv no, fv, fv, .slice D d.length cd, iv (d.length : Nat), fv, tv, iv 1, tv, tv, iv no, iv 1, po g3 2, po g3 2, iv ((n : Nat) : Int), tv, tv] 33) (by kernel_rfl) ?_
          refine then_n ?_
          refine wp_ret ?_
          refine inb_r ?_
          refine then_r ?_
          refine bodyPost_ret (v := .tuple #[.int .i64 0, .slice none 0 0, .int .i64 31]) (Go.Vel.results_tmp3 rfl _ _ (by kernel_rfl) (by kernel_rfl) (by kernel_rfl)) rfl ?_
          have e : renewF a b no d = (0, [], 31) := by unfold renewF; rw [if_neg (fun h => h hl), if_neg (by omega), if_neg (by omega), if_pos (by rw [hnw]; exact ⟨rfl, by omega⟩)]
          rw [e]
          have S16 : St F w0 w7 (L) := St.permT [row g3 #[.int .i64 ((m : Nat) : Int), v0, .int .i64 ((n : Nat) : Int), v1] 100] [] (by decide) rfl S8
          exact ⟨none, 0, rfl, St.bytesX_nil S16⟩
        · skip
          refine pv fv ?_
          refine pv fv ?_
          refine wl_end (fr [.slice A a.length ca, .slice B b.length cb, iv no, .slice D d.length cd, ud, ud, ud, ud, iv 0, .slice none 0 0, iv 0, pq g3, iv 1, iv 0, ud, ud, ud, ud, ud, .tuple #[.agg #[iv ((m : Nat) : Int), v0, iv ((n : Nat) : Int), v1], iv 1, iv 0], .slice A a.length ca, .slice B b.length cb, .tuple #[.agg #[iv ((m : Nat) : Int), v0, iv ((n : Nat) : Int), v1], iv 1, iv 0], .agg #[iv ((m : Nat) : Int), v0, iv ((n : Nat) : Int), v1], iv 1, iv 0, fv, iv 0, fv, ud, fv, iv no, fv, fv, .slice D d.length cd, iv (d.length : Nat), fv, fv, iv 1, tv, tv, iv no, iv 1, po g3 2, po g3 2, iv ((n : Nat) : Int), fv, fv] 33) (by kernel_rfl) ?_
          refine then_n ?_
          refine wp_cond_false (by kernel_rfl) ?_
          refine wp_skip ?_
          refine inb_n ?_
          refine then_n ?_
          refine wp_seq ?_
          refine wp_region_lit ?_
          refine pv (.slice D d.length cd) ?_
          refine pv (iv (d.length : Nat)) ?_
          refine wl_gv rfl (gv_int (k := .i64) (z := IntKind.i64.wrap (8 + (d.length : Nat))) (z' := ((8 + d.length : Nat) : Int)) (by kernel_rfl) (wr_eq (by omega) (by omega) (by omega)) ?_)
          have hd9 : d.length ≤ 496 := by omega
          refine wl_gv rfl (gv_make (e := 5) (u := 8) (v := ((8 + d.length : Nat) : Int)) (z := .int .u8 0) (sz := 1) (by_ := 1) (n := 8) (c := 8 + d.length) (cs := bvs (List.replicate (8 + d.length) 0)) S8 rfl (by kernel_rfl) ⟨by kernel_rfl⟩ (by kernel_rfl) (by kernel_rfl) rfl rfl (by omega) (by omega) (by omega) (mk_bytes _) (fun g17 w18 hg19 S20 => ?_))
          change St F w0 w18 (row g17 (bvs ((le8 no).take 0 ++ List.replicate (8 - 0 + d.length) 0)) 5 :: row g3 #[.int .i64 ((m : Nat) : Int), v0, .int .i64 ((n : Nat) : Int), v1] 100 :: L) at S20
          refine pv (sl g17 0 8 (8 + d.length)) ?_
          refine wl_end (fr [.slice A a.length ca, .slice B b.length cb, iv no, .slice D d.length cd, ud, ud, ud, ud, iv 0, .slice none 0 0, iv 0, pq g3, iv 1, iv 0, sl g17 0 8 (8 + d.length), ud, ud, ud, ud, .tuple #[.agg #[iv ((m : Nat) : Int), v0, iv ((n : Nat) : Int), v1], iv 1, iv 0], .slice A a.length ca, .slice B b.length cb, .tuple #[.agg #[iv ((m : Nat) : Int), v0, iv ((n : Nat) : Int), v1], iv 1, iv 0], .agg #[iv ((m : Nat) : Int), v0, iv ((n : Nat) : Int), v1], iv 1, iv 0, fv, iv 0, fv, ud, fv, iv no, fv, fv, .slice D d.length cd, iv (d.length : Nat), fv, fv, iv 1, tv, tv, iv no, iv 1, po g3 2, po g3 2, iv ((n : Nat) : Int), fv, fv, .slice D d.length cd, iv (d.length : Nat), iv ((8 + d.length : Nat) : Int), sl g17 0 8 (8 + d.length)] 29) (by kernel_rfl) ?_
          refine then_n ?_
          refine wp_seq ?_
          refine wp_seq ?_
          refine wp_region_lit ?_
          refine pv (sl g17 0 8 (8 + d.length)) ?_
          refine pv (iv 8) ?_
          refine pv (iv 0) ?_
          refine wl_end (fr [.slice A a.length ca, .slice B b.length cb, iv no, .slice D d.length cd, ud, ud, ud, ud, iv 0, .slice none 0 0, iv 0, pq g3, iv 1, iv 0, sl g17 0 8 (8 + d.length), ud, ud, ud, ud, .tuple #[.agg #[iv ((m : Nat) : Int), v0, iv ((n : Nat) : Int), v1], iv 1, iv 0], .slice A a.length ca, .slice B b.length cb, .tuple #[.agg #[iv ((m : Nat) : Int), v0, iv ((n : Nat) : Int), v1], iv 1, iv 0], .agg #[iv ((m : Nat) : Int), v0, iv ((n : Nat) : Int), v1], iv 1, iv 0, fv, iv 0, fv, ud, fv, iv no, fv, fv, .slice D d.length cd, iv (d.length : Nat), fv, fv, iv 1, tv, tv, iv no, iv 1, po g3 2, po g3 2, iv ((n : Nat) : Int), fv, fv, .slice D d.length cd, iv (d.length : Nat), iv ((8 + d.length : Nat) : Int), sl g17 0 8 (8 + d.length), sl g17 0 8 (8 + d.length), iv 8, iv 0] 26) (by kernel_rfl) ?_
          refine then_n ?_
          refine wp_block ?_
          have S21 : St F w0 w18 (row g17 (bvs ((le8 no).take 0 ++ List.replicate (8 - 0 + d.length) 0)) 5 :: L) := St.permT [row g17 (bvs ((le8 no).take 0 ++ List.replicate (8 - 0 + d.length) 0)) 5, row g3 #[.int .i64 ((m : Nat) : Int), v0, .int .i64 ((n : Nat) : Int), v1] 100] [0] (by decide) rfl S20
          refine wp_loop_g (G := Nat) (fun (g_ : Nat) (a_ : Act) (w_ : World) => ∃ J : Nat → Value, a_ = (fr [.slice A a.length ca, .slice B b.length cb, iv no, .slice D d.length cd, ud, ud, ud, ud, iv 0, .slice none 0 0, iv 0, pq g3, iv 1, iv 0, sl g17 0 8 (8 + d.length), J 15, ud, ud, ud, .tuple #[.agg #[iv ((m : Nat) : Int), v0, iv ((n : Nat) : Int), v1], iv 1, iv 0], .slice A a.length ca, .slice B b.length cb, .tuple #[.agg #[iv ((m : Nat) : Int), v0, iv ((n : Nat) : Int), v1], iv 1, iv 0], .agg #[iv ((m : Nat) : Int), v0, iv ((n : Nat) : Int), v1], iv 1, iv 0, fv, iv 0, fv, ud, fv, iv no, fv, fv, .slice D d.length cd, iv (d.length : Nat), fv, fv, iv 1, tv, tv, iv no, iv 1, po g3 2, po g3 2, iv ((n : Nat) : Int), fv, fv, .slice D d.length cd, iv (d.length : Nat), iv ((8 + d.length : Nat) : Int), sl g17 0 8 (8 + d.length), sl g17 0 8 (8 + d.length), iv 8, iv ((g_ : Nat) : Int), J 55, J 56, J 57, J 58, J 59, J 60, J 61, J 62, J 63, J 64, J 65] 15) ∧ St F w0 w_ (row g17 (bvs ((le8 no).take g_ ++ List.replicate (8 - g_ + d.length) 0)) 5 :: L) ∧ (g_ ≤ 8)) (fun g_ => 8 - g_) 0 ⟨(jl []), by kernel_rfl, S21, Nat.zero_le _⟩ ?_
          rintro k a_ w22 ⟨J, rfl, S23, hI24⟩
          skip
          have S23 : St F w0 w22 (row g17 (bvs ((le8 no).take k ++ List.replicate (8 - k + d.length) 0)) 5 :: L) := S23
          have hI24 : (k ≤ 8) := hI24
          refine wp_seq ?_
          refine wp_region_lit ?_
          refine wl_gv rfl (gv_dec (p := (((k : Nat) : Int) : Int) < 8) (by kernel_rfl) (fun hb25 => ?_) (fun hb25 => ?_))
          · skip
            have hk8 : k < 8 := by omega
            refine wl_end (fr [.slice A a.length ca, .slice B b.length cb, iv no, .slice D d.length cd, ud, ud, ud, ud, iv 0, .slice none 0 0, iv 0, pq g3, iv 1, iv 0, sl g17 0 8 (8 + d.length), J 15, ud, ud, ud, .tuple #[.agg #[iv ((m : Nat) : Int), v0, iv ((n : Nat) : Int), v1], iv 1, iv 0], .slice A a.length ca, .slice B b.length cb, .tuple #[.agg #[iv ((m : Nat) : Int), v0, iv ((n : Nat) : Int), v1], iv 1, iv 0], .agg #[iv ((m : Nat) : Int), v0, iv ((n : Nat) : Int), v1], iv 1, iv 0, fv, iv 0, fv, ud, fv, iv no, fv, fv, .slice D d.length cd, iv (d.length : Nat), fv, fv, iv 1, tv, tv, iv no, iv 1, po g3 2, po g3 2, iv ((n : Nat) : Int), fv, fv, .slice D d.length cd, iv (d.length : Nat), iv ((8 + d.length : Nat) : Int), sl g17 0 8 (8 + d.length), sl g17 0 8 (8 + d.length), iv 8, iv ((k : Nat) : Int), tv, J 56, J 57, J 58, J 59, J 60, J 61, J 62, J 63, J 64, J 65] 15) (by kernel_rfl) ?_
            refine then_n ?_
            refine wp_seq ?_
            refine wp_cond_true (by kernel_rfl) ?_
            refine wp_skip ?_
            refine then_n ?_
            refine wp_seq ?_
            refine wp_block ?_
            refine wp_seq ?_
            refine wp_region_lit ?_
            refine pv (iv ((k : Nat) : Int)) ?_
            refine pv (iv ((k : Nat) : Int)) ?_
            refine wl_end (fr [.slice A a.length ca, .slice B b.length cb, iv no, .slice D d.length cd, ud, ud, ud, ud, iv 0, .slice none 0 0, iv 0, pq g3, iv 1, iv 0, sl g17 0 8 (8 + d.length), iv ((k : Nat) : Int), ud, ud, ud, .tuple #[.agg #[iv ((m : Nat) : Int), v0, iv ((n : Nat) : Int), v1], iv 1, iv 0], .slice A a.length ca, .slice B b.length cb, .tuple #[.agg #[iv ((m : Nat) : Int), v0, iv ((n : Nat) : Int), v1], iv 1, iv 0], .agg #[iv ((m : Nat) : Int), v0, iv ((n : Nat) : Int), v1], iv 1, iv 0, fv, iv 0, fv, ud, fv, iv no, fv, fv, .slice D d.length cd, iv (d.length : Nat), fv, fv, iv 1, tv, tv, iv no, iv 1, po g3 2, po g3 2, iv ((n : Nat) : Int), fv, fv, .slice D d.length cd, iv (d.length : Nat), iv ((8 + d.length : Nat) : Int), sl g17 0 8 (8 + d.length), sl g17 0 8 (8 + d.length), iv 8, iv ((k : Nat) : Int), tv, iv ((k : Nat) : Int), J 57, J 58, J 59, J 60, J 61, J 62, J 63, J 64, J 65] 15) (by kernel_rfl) ?_
            refine then_n ?_
            refine wp_region_lit ?_
            refine pv (sl g17 0 8 (8 + d.length)) ?_
            refine pv (iv ((k : Nat) : Int)) ?_
            refine pv (iv no) ?_
            refine pv (iv ((k : Nat) : Int)) ?_
            refine wl_gv rfl (gv_int (k := .i64) (z := IntKind.i64.wrap (8 * ((k : Nat) : Int))) (z' := ((8 * k : Nat) : Int)) (by kernel_rfl) (wr_eq (by omega) (by omega) (by omega)) ?_)
            refine wl_gv rfl (gv_shr (k := .i64) (yk := .i64) (z := no) (i := ((8 * k : Nat) : Int)) (j := (8 * k)) (z' := (no / 2 ^ (8 * k))) rfl (by kernel_rfl) (by kernel_rfl) rfl (by show 8 * k ≤ 64; omega) rfl ?_)
            refine wl_gv rfl (gv_int (k := .u8) (z := IntKind.u8.wrap (no / 2 ^ (8 * k))) (z' := (((le8 no).getD k 0).toNat : Int)) (by kernel_rfl) (by rw [wrap_u8, le8_get no hk8]) ?_)
            refine wl_gv rfl (gv_ixE (e := 5) (sz := 1) (g := g17) (off := 0) (n := 8) (c := (8 + d.length)) (i := ((k : Nat) : Int)) (k := .i64) (j := k) (off' := k) rfl (by kernel_rfl) (by kernel_rfl) (by kernel_rfl) (by kernel_rfl) rfl (by omega) (by omega) ?_)
            refine wl_gv rfl (gv_st (k := k) (v := .int .u8 (((le8 no).getD k 0).toNat : Int)) S23 0 rfl rfl (by kernel_rfl) (by kernel_rfl) (by kernel_rfl) rfl (Nat.ble_eq_true_of_le (by rw [size_bvs, List.length_append, List.length_take, List.length_replicate]; omega)) (L' := (row g17 (bvs ((le8 no).take (k + 1) ++ List.replicate (8 - (k + 1) + d.length) 0)) 5 :: L)) (by rw [bvs_set, fill_set (by omega) h8]; rfl) (fun w26 S27 => ?_))
            refine wl_end (fr [.slice A a.length ca, .slice B b.length cb, iv no, .slice D d.length cd, ud, ud, ud, ud, iv 0, .slice none 0 0, iv 0, pq g3, iv 1, iv 0, sl g17 0 8 (8 + d.length), iv ((k : Nat) : Int), ud, ud, ud, .tuple #[.agg #[iv ((m : Nat) : Int), v0, iv ((n : Nat) : Int), v1], iv 1, iv 0], .slice A a.length ca, .slice B b.length cb, .tuple #[.agg #[iv ((m : Nat) : Int), v0, iv ((n : Nat) : Int), v1], iv 1, iv 0], .agg #[iv ((m : Nat) : Int), v0, iv ((n : Nat) : Int), v1], iv 1, iv 0, fv, iv 0, fv, ud, fv, iv no, fv, fv, .slice D d.length cd, iv (d.length : Nat), fv, fv, iv 1, tv, tv, iv no, iv 1, po g3 2, po g3 2, iv ((n : Nat) : Int), fv, fv, .slice D d.length cd, iv (d.length : Nat), iv ((8 + d.length : Nat) : Int), sl g17 0 8 (8 + d.length), sl g17 0 8 (8 + d.length), iv 8, iv ((k : Nat) : Int), tv, iv ((k : Nat) : Int), sl g17 0 8 (8 + d.length), iv ((k : Nat) : Int), iv no, iv ((k : Nat) : Int), iv ((8 * k : Nat) : Int), iv (no / 2 ^ (8 * k)), .int .u8 (((le8 no).getD k 0).toNat : Int), po g17 k, J 65] 15) (by kernel_rfl) ?_
            refine inb_n ?_
            refine then_n ?_
            refine wp_region_lit ?_
            refine wl_gv rfl (gv_int (k := .i64) (z := IntKind.i64.wrap (((k : Nat) : Int) + 1)) (z' := ((k + 1 : Nat) : Int)) (by kernel_rfl) (wr_eq (by omega) (by omega) (by omega)) ?_)
            refine pv (iv ((k + 1 : Nat) : Int)) ?_
            refine wl_end (fr [.slice A a.length ca, .slice B b.length cb, iv no, .slice D d.length cd, ud, ud, ud, ud, iv 0, .slice none 0 0, iv 0, pq g3, iv 1, iv 0, sl g17 0 8 (8 + d.length), iv ((k : Nat) : Int), ud, ud, ud, .tuple #[.agg #[iv ((m : Nat) : Int), v0, iv ((n : Nat) : Int), v1], iv 1, iv 0], .slice A a.length ca, .slice B b.length cb, .tuple #[.agg #[iv ((m : Nat) : Int), v0, iv ((n : Nat) : Int), v1], iv 1, iv 0], .agg #[iv ((m : Nat) : Int), v0, iv ((n : Nat) : Int), v1], iv 1, iv 0, fv, iv 0, fv, ud, fv, iv no, fv, fv, .slice D d.length cd, iv (d.length : Nat), fv, fv, iv 1, tv, tv, iv no, iv 1, po g3 2, po g3 2, iv ((n : Nat) : Int), fv, fv, .slice D d.length cd, iv (d.length : Nat), iv ((8 + d.length : Nat) : Int), sl g17 0 8 (8 + d.length), sl g17 0 8 (8 + d.length), iv 8, iv ((k + 1 : Nat) : Int), tv, iv ((k : Nat) : Int), sl g17 0 8 (8 + d.length), iv ((k : Nat) : Int), iv no, iv ((k : Nat) : Int), iv ((8 * k : Nat) : Int), iv (no / 2 ^ (8 * k)), .int .u8 (((le8 no).getD k 0).toNat : Int), po g17 k, iv ((k + 1 : Nat) : Int)] 15) (by kernel_rfl) ?_
            refine then_n ?_
            exact ⟨k + 1, ⟨(jl [ud, ud, ud, ud, ud, ud, ud, ud, ud, ud, ud, ud, ud, ud, ud, iv ((k : Nat) : Int), ud, ud, ud, ud, ud, ud, ud, ud, ud, ud, ud, ud, ud, ud, ud, ud, ud, ud, ud, ud, ud, ud, ud, ud, ud, ud, ud, ud, ud, ud, ud, ud, ud, ud, ud, ud, ud, ud, ud, tv, iv ((k : Nat) : Int), sl g17 0 8 (8 + d.length), iv ((k : Nat) : Int), iv no, iv ((k : Nat) : Int), iv ((8 * k : Nat) : Int), iv (no / 2 ^ (8 * k)), .int .u8 (((le8 no).getD k 0).toNat : Int), po g17 k, iv ((k + 1 : Nat) : Int)]), by kernel_rfl, S27, (by omega)⟩, (by show 8 - (k + 1) < 8 - k; omega)⟩
          · skip
            have hk8 : k = 8 := by omega
            have ht8 : (le8 no).take 8 = le8 no := List.take_of_length_le (by omega)
            rw [hk8, ht8] at S23
            refine wl_end (fr [.slice A a.length ca, .slice B b.length cb, iv no, .slice D d.length cd, ud, ud, ud, ud, iv 0, .slice none 0 0, iv 0, pq g3, iv 1, iv 0, sl g17 0 8 (8 + d.length), J 15, ud, ud, ud, .tuple #[.agg #[iv ((m : Nat) : Int), v0, iv ((n : Nat) : Int), v1], iv 1, iv 0], .slice A a.length ca, .slice B b.length cb, .tuple #[.agg #[iv ((m : Nat) : Int), v0, iv ((n : Nat) : Int), v1], iv 1, iv 0], .agg #[iv ((m : Nat) : Int), v0, iv ((n : Nat) : Int), v1], iv 1, iv 0, fv, iv 0, fv, ud, fv, iv no, fv, fv, .slice D d.length cd, iv (d.length : Nat), fv, fv, iv 1, tv, tv, iv no, iv 1, po g3 2, po g3 2, iv ((n : Nat) : Int), fv, fv, .slice D d.length cd, iv (d.length : Nat), iv ((8 + d.length : Nat) : Int), sl g17 0 8 (8 + d.length), sl g17 0 8 (8 + d.length), iv 8, iv ((k : Nat) : Int), fv, J 56, J 57, J 58, J 59, J 60, J 61, J 62, J 63, J 64, J 65] 15) (by kernel_rfl) ?_
            refine then_n ?_
            refine wp_seq ?_
            refine wp_cond_false (by kernel_rfl) ?_
            refine wp_exit ?_
            refine then_x ?_
            refine then_x ?_
            refine inb_x ?_
            refine then_n ?_
            refine wp_seq ?_
            refine wp_region_lit ?_
            refine pv (.slice A a.length ca) ?_
            refine pv (iv 0) ?_
            refine pv (.slice A a.length ca) ?_
            refine wl_end (fr [.slice A a.length ca, .slice B b.length cb, iv no, .slice D d.length cd, ud, ud, ud, ud, iv 0, .slice none 0 0, iv 0, pq g3, iv 1, iv 0, sl g17 0 8 (8 + d.length), J 15, iv 0, .slice A a.length ca, ud, .tuple #[.agg #[iv ((m : Nat) : Int), v0, iv ((n : Nat) : Int), v1], iv 1, iv 0], .slice A a.length ca, .slice B b.length cb, .tuple #[.agg #[iv ((m : Nat) : Int), v0, iv ((n : Nat) : Int), v1], iv 1, iv 0], .agg #[iv ((m : Nat) : Int), v0, iv ((n : Nat) : Int), v1], iv 1, iv 0, fv, iv 0, fv, ud, fv, iv no, fv, fv, .slice D d.length cd, iv (d.length : Nat), fv, fv, iv 1, tv, tv, iv no, iv 1, po g3 2, po g3 2, iv ((n : Nat) : Int), fv, fv, .slice D d.length cd, iv (d.length : Nat), iv ((8 + d.length : Nat) : Int), sl g17 0 8 (8 + d.length), sl g17 0 8 (8 + d.length), iv 8, iv ((k : Nat) : Int), fv, J 56, J 57, J 58, J 59, J 60, J 61, J 62, J 63, J 64, J 65, .slice A a.length ca] 14) (by kernel_rfl) ?_
            refine then_n ?_
            refine wp_seq ?_
            refine wp_seq ?_
            refine wp_region_lit ?_
            refine pv (iv 1) ?_
            refine wl_gv rfl (gv_eq (x := 1) (y := 0) (by kernel_rfl) (fun hd28 => False.elim ((by omega))) (fun _ => ?_))
            refine wl_end (fr [.slice A a.length ca, .slice B b.length cb, iv no, .slice D d.length cd, ud, ud, ud, ud, iv 0, .slice none 0 0, iv 0, pq g3, iv 1, iv 0, sl g17 0 8 (8 + d.length), J 15, iv 0, .slice A a.length ca, ud, .tuple #[.agg #[iv ((m : Nat) : Int), v0, iv ((n : Nat) : Int), v1], iv 1, iv 0], .slice A a.length ca, .slice B b.length cb, .tuple #[.agg #[iv ((m : Nat) : Int), v0, iv ((n : Nat) : Int), v1], iv 1, iv 0], .agg #[iv ((m : Nat) : Int), v0, iv ((n : Nat) : Int), v1], iv 1, iv 0, fv, iv 0, fv, ud, fv, iv no, fv, fv, .slice D d.length cd, iv (d.length : Nat), fv, fv, iv 1, tv, tv, iv no, iv 1, po g3 2, po g3 2, iv ((n : Nat) : Int), fv, fv, .slice D d.length cd, iv (d.length : Nat), iv ((8 + d.length : Nat) : Int), sl g17 0 8 (8 + d.length), sl g17 0 8 (8 + d.length), iv 8, iv ((k : Nat) : Int), fv, J 56, J 57, J 58, J 59, J 60, J 61, J 62, J 63, J 64, J 65, .slice A a.length ca, iv 1, fv] 12) (by kernel_rfl) ?_
            refine then_n ?_
            refine wp_cond_false (by kernel_rfl) ?_
            refine wp_skip ?_
            refine then_n ?_
            refine wp_seq ?_
            refine wp_region_lit ?_
            refine pv (.slice A a.length ca) ?_
            refine pv (sl g17 0 8 (8 + d.length)) ?_
            refine pv (.slice D d.length cd) ?_
            have hln : 8 + d.length = (le8 no ++ d).length := by rw [List.length_append]; omega
            have hsp : splice (le8 no ++ List.replicate (8 - 8 + d.length) 0) 8 d = le8 no ++ d := by unfold splice; rw [List.take_left' h8, List.drop_of_length_le (by rw [List.length_append, List.length_replicate]; omega), List.append_nil]
            refine wl_gv rfl (gv_appendB (e := 5) (n := 8) (c := 8 + d.length) (m := d.length) (c' := cd) (A := D) (l := d) (X := le8 no ++ List.replicate (8 - 8 + d.length) 0) (n' := 8 + d.length) S23 0 rfl rfl (by kernel_rfl) (by kernel_rfl) (by kernel_rfl) (by kernel_rfl) rfl (hd.out _ [row g17 (bvs (le8 no ++ List.replicate (8 - 8 + d.length) 0)) 5] S23) (Nat.le_refl _) (by rw [List.length_append, List.length_replicate]; omega) rfl (L' := (row g17 (bvs (le8 no ++ d)) 5 :: L)) (by rw [hsp]; rfl) (fun w29 S30 => ?_))
            refine wl_gv rfl (gv_call (args := #[.slice A a.length ca, .slice (some ⟨g17, 0, none⟩) (8 + d.length) (8 + d.length)]) rfl Try.func24 (by kernel_rfl) rfl rfl (by kernel_rfl) ?_)
            refine Calls.mono (ps_seal' (a := a) (b := le8 no ++ d) S30 rfl hln ha.more (RoT.item 0 rfl 0 (le8 no ++ d).length _ (by rw [List.drop_zero, List.take_length])) (by omega) (by omega)) ?_
            rintro _ w31 ⟨A33, c34, rfl, S32⟩
            refine ⟨_, rfl, ?_⟩
            refine pv (.tuple #[.slice A33 ((sealF a (le8 no ++ d)).1.length) c34, iv ((sealF a (le8 no ++ d)).2 : Int)]) ?_
            refine pv (.slice A33 ((sealF a (le8 no ++ d)).1.length) c34) ?_
            refine pv (iv ((sealF a (le8 no ++ d)).2 : Int)) ?_
            refine pv (.slice A33 ((sealF a (le8 no ++ d)).1.length) c34) ?_
            refine pv (iv ((sealF a (le8 no ++ d)).2 : Int)) ?_
            refine wl_end (fr [.slice A a.length ca, .slice B b.length cb, iv no, .slice D d.length cd, ud, ud, ud, ud, iv 0, .slice none 0 0, iv 0, pq g3, iv 1, iv ((sealF a (le8 no ++ d)).2 : Int), sl g17 0 8 (8 + d.length), J 15, iv 0, .slice A a.length ca, .slice A33 ((sealF a (le8 no ++ d)).1.length) c34, .tuple #[.agg #[iv ((m : Nat) : Int), v0, iv ((n : Nat) : Int), v1], iv 1, iv 0], .slice A a.length ca, .slice B b.length cb, .tuple #[.agg #[iv ((m : Nat) : Int), v0, iv ((n : Nat) : Int), v1], iv 1, iv 0], .agg #[iv ((m : Nat) : Int), v0, iv ((n : Nat) : Int), v1], iv 1, iv 0, fv, iv 0, fv, ud, fv, iv no, fv, fv, .slice D d.length cd, iv (d.length : Nat), fv, fv, iv 1, tv, tv, iv no, iv 1, po g3 2, po g3 2, iv ((n : Nat) : Int), fv, fv, .slice D d.length cd, iv (d.length : Nat), iv ((8 + d.length : Nat) : Int), sl g17 0 8 (8 + d.length), sl g17 0 8 (8 + d.length), iv 8, iv ((k : Nat) : Int), fv, J 56, J 57, J 58, J 59, J 60, J 61, J 62, J 63, J 64, J 65, .slice A a.length ca, iv 1, fv, ud, .tuple #[.slice A33 ((sealF a (le8 no ++ d)).1.length) c34, iv ((sealF a (le8 no ++ d)).2 : Int)], .slice A a.length ca, sl g17 0 8 (8 + d.length), .slice D d.length cd, sl g17 0 (8 + d.length) (8 + d.length), .tuple #[.slice A33 ((sealF a (le8 no ++ d)).1.length) c34, iv ((sealF a (le8 no ++ d)).2 : Int)], .slice A33 ((sealF a (le8 no ++ d)).1.length) c34, iv ((sealF a (le8 no ++ d)).2 : Int)] 3) (by kernel_rfl) ?_
            refine then_n ?_
            refine wp_seq ?_
            refine wp_region_lit ?_
            refine pv (iv 0) ?_
            refine pv (.slice A33 ((sealF a (le8 no ++ d)).1.length) c34) ?_
            refine pv (iv ((sealF a (le8 no ++ d)).2 : Int)) ?_
            refine pv (iv 0) ?_
            refine pv (.slice A33 ((sealF a (le8 no ++ d)).1.length) c34) ?_
            refine pv (iv ((sealF a (le8 no ++ d)).2 : Int)) ?_
            refine wl_end (fr [.slice A a.length ca, .slice B b.length cb, iv no, .slice D d.length cd, ud, ud, ud, ud, iv 0, .slice A33 ((sealF a (le8 no ++ d)).1.length) c34, iv ((sealF a (le8 no ++ d)).2 : Int), pq g3, iv 1, iv ((sealF a (le8 no ++ d)).2 : Int), sl g17 0 8 (8 + d.length), J 15, iv 0, .slice A a.length ca, .slice A33 ((sealF a (le8 no ++ d)).1.length) c34, .tuple #[.agg #[iv ((m : Nat) : Int), v0, iv ((n : Nat) : Int), v1], iv 1, iv 0], .slice A a.length ca, .slice B b.length cb, .tuple #[.agg #[iv ((m : Nat) : Int), v0, iv ((n : Nat) : Int), v1], iv 1, iv 0], .agg #[iv ((m : Nat) : Int), v0, iv ((n : Nat) : Int), v1], iv 1, iv 0, fv, iv 0, fv, ud, fv, iv no, fv, fv, .slice D d.length cd, iv (d.length : Nat), fv, fv, iv 1, tv, tv, iv no, iv 1, po g3 2, po g3 2, iv ((n : Nat) : Int), fv, fv, .slice D d.length cd, iv (d.length : Nat), iv ((8 + d.length : Nat) : Int), sl g17 0 8 (8 + d.length), sl g17 0 8 (8 + d.length), iv 8, iv ((k : Nat) : Int), fv, J 56, J 57, J 58, J 59, J 60, J 61, J 62, J 63, J 64, J 65, .slice A a.length ca, iv 1, fv, ud, .tuple #[.slice A33 ((sealF a (le8 no ++ d)).1.length) c34, iv ((sealF a (le8 no ++ d)).2 : Int)], .slice A a.length ca, sl g17 0 8 (8 + d.length), .slice D d.length cd, sl g17 0 (8 + d.length) (8 + d.length), .tuple #[.slice A33 ((sealF a (le8 no ++ d)).1.length) c34, iv ((sealF a (le8 no ++ d)).2 : Int)], .slice A33 ((sealF a (le8 no ++ d)).1.length) c34, iv ((sealF a (le8 no ++ d)).2 : Int), iv 0, .slice A33 ((sealF a (le8 no ++ d)).1.length) c34, iv ((sealF a (le8 no ++ d)).2 : Int)] 0) (by kernel_rfl) ?_
            refine then_n ?_
            refine wp_ret ?_
            refine bodyPost_ret (v := .tuple #[.int .i64 0, .slice A33 ((sealF a (le8 no ++ d)).1.length) c34, .int .i64 ((sealF a (le8 no ++ d)).2 : Int)]) (Go.Vel.results_tmp3 rfl _ _ (by kernel_rfl) (by kernel_rfl) (by kernel_rfl)) rfl ?_
            have e := renew_end (a := a) (b := b) (no := no) (d := d) hl (by omega) (by omega) (by rw [hnw]; simp <;> omega)
            rw [hnw, if_neg (by simp)] at e
            rw [e]
            have S35 : St F w0 w31 (bytesX (.slice A33 (sealF a (le8 no ++ d)).1.length c34) (sealF a (le8 no ++ d)).1 :: L) := St.permT [bytesX (.slice A33 (sealF a (le8 no ++ d)).1.length c34) (sealF a (le8 no ++ d)).1, row g17 (bvs (le8 no ++ d)) 5] [0] (by decide) rfl S32
            exact ⟨A33, c34, rfl, S35⟩
end Go.Proofs
