/- seal.read by the walk: for every slice of bytes read tells the anchor that the pure readF tells, in new memory; nothing that was there turns. -/
import Derived.Test.YtgelippmcflppaaVOpen
open Go Go.RowKit Go.Proofs.YtgelippmcflppaaW.PrintWords Go.Proofs.YtgelippmcflppaaW.PrintMore
namespace Go.Proofs
open Go.Vel
/-- A number, its lowest byte first. -/
def leN : List UInt8 → Nat
  | [] => 0
  | x :: l => x.toNat + 256 * leN l
def readF (s : List UInt8) : Nat × List UInt8 :=
  if (openF s).2 ≠ 0 ∨ (openF s).1.length < 8 then (0, []) else
  if leN ((openF s).1.take 8) = 0 ∨ 9223372036854775807 < leN ((openF s).1.take 8) then (0, []) else (leN ((openF s).1.take 8), (openF s).1.drop 8)
def zAnchor : Array Value := #[.int .i64 0, .slice none 0 0]
theorem aggAnchor : Agg Try.prog 99 zAnchor := ⟨⟨_, Try.underlying99, rfl⟩, by kernel_rfl, by kernel_rfl⟩
theorem leN_lt : ∀ l : List UInt8, leN l < 256 ^ l.length
  | [] => by simp [leN]
  | x :: l => by
    have := leN_lt l
    have hx := x.toNat_lt
    simp only [leN, List.length_cons, Nat.pow_succ]
    omega
theorem leN_drop (l : List UInt8) (j : Nat) (h : j < l.length) : leN (l.drop j) = (l.getD j 0).toNat + 256 * leN (l.drop (j + 1)) := by
  rw [List.drop_eq_getElem_cons h, List.getD_eq_getElem?_getD, List.getElem?_eq_getElem h]; rfl
theorem bits_or_u64 (n : Nat) (x : UInt8) (hn : n < 72057594037927936) : bits .or .u64 (IntKind.u64.wrap ((n : Int) * 256)) (IntKind.u64.wrap (x.toNat : Int)) = ((x.toNat + 256 * n : Nat) : Int) := by
  have hx := x.toNat_lt
  have e1 : IntKind.u64.wrap (x.toNat : Int) = ((x.toNat : Nat) : Int) := by rw [IntKind.wrap_u64]; omega
  have e2 : IntKind.u64.wrap ((n : Int) * 256) = ((n * 256 : Nat) : Int) := by rw [IntKind.wrap_u64]; omega
  rw [e1, e2]
  show IntKind.u64.wrap ((BitVec.ofInt 64 ((n * 256 : Nat) : Int) ||| BitVec.ofInt 64 ((x.toNat : Nat) : Int)).toNat : Int) = _
  rw [BitVec.toNat_or]
  have f1 : (BitVec.ofInt 64 ((x.toNat : Nat) : Int)).toNat = x.toNat := by simp
  have f2 : (BitVec.ofInt 64 ((n * 256 : Nat) : Int)).toNat = n * 256 := by
    rw [BitVec.toNat_ofInt]; omega
  rw [f1, f2, Nat.mul_comm]
  have := Nat.two_pow_add_eq_or_of_lt (i := 8) hx n
  rw [show (256 : Nat) = 2 ^ 8 from rfl, ← this, IntKind.wrap_u64]
  omega
/-- An anchor is returned. -/
def RetAnchor (n : Int) (d : List Int) (w : World) (e : Ending) (w' : World) : Prop :=
  ∃ v : Value, e = .returned (.agg #[.int .i64 n, v]) ∧ Kd.V (Kd.int .u8) 5 w' w.heap.size (fun k_ => (w.heap.size ≤ k_)) v d ∧ Below w.heap.size w w'
theorem V_slice {w : World} {base e : Nat} {ok : Nat → Prop} {v : Value} {l : List Int} (h : Kd.V (Kd.int .u8) e w base ok v l) : ∃ A c, v = .slice A l.length c ∧ l.length ≤ c ∧ Kd.F (Kd.int .u8) w ok A l.length l := h
theorem F_now {w : World} {ok : Nat → Prop} {A : Option Addr} {l : List Int} (h : Kd.F (Kd.int .u8) w ok A l.length l) : Kd.C (Kd.int .u8) w A l.length l := h w (fun _ _ _ => rfl)
theorem addr_add_add (a : Addr) (i j : Nat) : (a.add i).add j = a.add (i + j) := by
  unfold Addr.add
  by_cases h0 : i = 0
  · subst h0; simp
  · by_cases h1 : j = 0
    · subst h1; simp
    · have h2 : ¬ (i + j = 0) := by omega
      simp only [h0, h1, h2, if_false, Nat.add_assoc]
/-- From place k on. -/
theorem C_drop {w : World} {ad : Addr} {l : List Int} (h : Kd.C (Kd.int .u8) w (some ad) l.length l) (k : Nat) (hk : k ≤ l.length) : Kd.C (Kd.int .u8) w (some (ad.add k)) (l.drop k).length (l.drop k) := by
  obtain ⟨_, h2, h3⟩ := h
  refine ⟨rfl, by rw [List.length_drop]; omega, fun hp => ?_⟩
  obtain ⟨ad', e, hc⟩ := h3 (by rw [List.length_drop] at hp; omega)
  cases e
  refine ⟨_, rfl, fun j p hj => ?_⟩
  rw [List.getElem?_drop] at hj
  obtain ⟨c, hc1, hc2, hc3⟩ := hc _ p hj
  refine ⟨c, hc1, hc2, fun i u hu => ?_⟩
  have := hc3 i u hu
  have e2 : (ad.add k).add (j * (Kd.int .u8).sz + i) = ad.add ((k + j) * (Kd.int .u8).sz + i) := by
    show (ad.add k).add (j * 1 + i) = ad.add ((k + j) * 1 + i)
    rw [addr_add_add]; congr 1; omega
  rw [e2]; exact this
theorem V_drop {w : World} {base e : Nat} {ok : Nat → Prop} {ad : Addr} {c : Nat} {b : List UInt8} (h : Kd.F (Kd.int .u8) w ok (some ad) (ofB b).length (ofB b)) (hc : (ofB b).length ≤ c) (k : Nat) (hk : k ≤ b.length) (A' : Option Addr) (hA : A' = some (ad.add k) ∨ b.length = k) : Kd.V (Kd.int .u8) e w base ok (.slice A' (b.length - k) (c - k)) (ofB (b.drop k)) := by
  have hl : (ofB (b.drop k)).length = b.length - k := by rw [len_ofB, List.length_drop]
  rw [len_ofB] at hc
  refine ⟨A', c - k, by rw [hl], by rw [hl]; omega, fun W' hW => ?_⟩
  rcases hA with hA | hA
  · subst hA
    have h1 := C_drop (h W' hW) k (by rw [len_ofB]; exact hk)
    have e2 : (ofB b).drop k = ofB (b.drop k) := by unfold ofB; rw [List.map_drop]
    rwa [e2] at h1
  · have e0 : b.drop k = [] := List.drop_of_length_le (by omega)
    rw [e0]
    exact ⟨rfl, Nat.zero_le _, fun h0 => absurd h0 (Nat.lt_irrefl 0)⟩
theorem V_move {w w' : World} {base base' e e' : Nat} {ok ok' : Nat → Prop} {v : Value} {l : List Int} (h : Kd.V (Kd.int .u8) e w base ok v l) (hm : ∀ k, ok k → k < w.heap.size → ok' k ∧ k < w'.heap.size ∧ w'.heap[k]? = w.heap[k]?) : Kd.V (Kd.int .u8) e' w' base' ok' v l := by
  obtain ⟨A, c, h1, h2, h3⟩ := h
  refine ⟨A, c, h1, h2, fun W' hW => h3 W' (fun k hk hlt => ?_)⟩
  obtain ⟨a, b, c⟩ := hm k hk hlt
  exact (hW k a b).trans c
set_option maxHeartbeats 1000000 in
set_option maxRecDepth 100000 in
theorem read_any (w : World) (A0 : Option Addr) (c0 : Nat) (s : List UInt8) (hr0 : Kd.C (Kd.int .u8) w A0 (ofB s).length (ofB s)) :
    Calls Try.prog 55 #[.slice A0 (ofB s).length c0] w (RetAnchor (readF s).1 (ofB (readF s).2) w) := by
  have HR0 := Aside0.mk hr0
  clear hr0
  obtain ⟨R, hR⟩ : ∃ R, R = readF s := ⟨_, rfl⟩
  rw [← hR]
  obtain ⟨O, hO⟩ : ∃ O, O = openF s := ⟨_, rfl⟩
  have hR2 : R = if O.2 ≠ 0 ∨ O.1.length < 8 then (0, []) else if leN (O.1.take 8) = 0 ∨ 9223372036854775807 < leN (O.1.take 8) then (0, []) else (leN (O.1.take 8), O.1.drop 8) := by rw [hR, hO]; rfl
  have HOpen : Aside0 (∀ (w : World) (A0 : Option Addr) (c0 : Nat), Kd.C (Kd.int .u8) w A0 (ofB s).length (ofB s) → Calls Try.prog 50 #[.slice A0 (ofB s).length c0] w (Ret2 (ofB O.1) O.2 w)) := ⟨fun w A0 c0 h => by rw [hO]; exact open_any w A0 c0 s h⟩
  clear hR hO
  obtain ⟨b, en⟩ := O
  by_cases he : en ≠ 0
  · rw [if_pos (Or.inl he)] at hR2
    subst hR2
    have he' : ((en : Int) != 0) = true := by rw [bne_iff_ne]; omega
    clear he
    go_enter Try.func55, Try.ntmps55
    go_wp2_with (first
      | (refine wl_alloc rfl rfl aggAnchor ?_; intro g w1 hB hg hw; have HB := Aside0.mk hB; have HW := Aside0.mk hw; clear hB hw)
      | (go_at_call 50; refine (HOpen.out _ _ _ (Kd.C_below HR0.out HW.out)).mono ?_; rintro e w2 ⟨v, rfl, hv, hb⟩; have HV := Aside0.mk hv; have HB2 := Aside0.mk hb; clear hv hb)
      | (refine wl_store_row rfl rfl aggAnchor rfl rfl (HB.out.below HB2.out) rfl rfl (by decide) ?_; intro w3 hB3 hO3; have HB3 := Aside0.mk hB3; have HO3 := Aside0.mk hO3; clear hB3 hO3))
    exact bodyPost_ret (v := .agg #[.int .i64 0, .slice none 0 0]) (results_cell_row (P := Try.prog) rfl _ _ g 99 _ (0, 0) _ rfl HB3.out.out Try.underlying99 rfl (by kernel_rfl)) rfl ⟨_, rfl, V_nil, (HW.out.trans (HB2.out.mono HW.out.size)).trans (HO3.out.below hg)⟩
  · have he0 : en = 0 := Decidable.not_not.1 he
    subst he0
    by_cases hl : b.length < 8
    · rw [if_pos (Or.inr hl)] at hR2
      subst hR2
      have hl' : ((ofB b).length : Int) < 8 := by rw [len_ofB]; omega
      clear he hl
      go_enter Try.func55, Try.ntmps55
      go_wp2_with (first
        | (refine wl_alloc rfl rfl aggAnchor ?_; intro g w1 hB hg hw; have HB := Aside0.mk hB; have HW := Aside0.mk hw; clear hB hw)
        | (go_at_call 50; refine (HOpen.out _ _ _ (Kd.C_below HR0.out HW.out)).mono ?_; rintro e w2 ⟨v, rfl, hv, hb⟩; obtain ⟨A1, c1, rfl, hle, hF⟩ := V_slice hv; have HV := Aside0.mk hF; have HB2 := Aside0.mk hb; have HLE := Aside0.mk hle; clear hv hb hF hle)
        | (refine wl_store_row rfl rfl aggAnchor rfl rfl (HB.out.below HB2.out) rfl rfl (by decide) ?_; intro w3 hB3 hO3; have HB3 := Aside0.mk hB3; have HO3 := Aside0.mk hO3; clear hB3 hO3))
      exact bodyPost_ret (v := .agg #[.int .i64 0, .slice none 0 0]) (results_cell_row (P := Try.prog) rfl _ _ g 99 _ (0, 0) _ rfl HB3.out.out Try.underlying99 rfl (by kernel_rfl)) rfl ⟨_, rfl, V_nil, (HW.out.trans (HB2.out.mono HW.out.size)).trans (HO3.out.below hg)⟩
    · rw [if_neg (fun h => h.elim he hl)] at hR2
      have hl' : ¬ ((ofB b).length : Int) < 8 := by rw [len_ofB]; omega
      have HR2 := Aside0.mk hR2
      have HL := Aside0.mk hl
      clear he hl hR2
      go_enter Try.func55, Try.ntmps55
      go_wp2_with (first
        | (refine wl_alloc rfl rfl aggAnchor ?_; intro g w1 hB hg hw; have HB := Aside0.mk hB; have HW := Aside0.mk hw; clear hB hw)
        | (go_at_call 50; refine (HOpen.out _ _ _ (Kd.C_below HR0.out HW.out)).mono ?_; rintro e w2 ⟨v, rfl, hv, hb⟩; obtain ⟨A1, c1, rfl, hle, hF⟩ := V_slice hv; have HV := Aside0.mk hF; have HB2 := Aside0.mk hb; have HLE := Aside0.mk hle; clear hv hb hF hle)
        | (refine wl_store_row rfl rfl aggAnchor rfl rfl (HB.out.below HB2.out) rfl rfl (by decide) ?_; intro w3 hB3 hO3; have HB3 := Aside0.mk hB3; have HO3 := Aside0.mk hO3; clear hB3 hO3))
      obtain ⟨N, hN⟩ : ∃ N, N = leN (b.take 8) := ⟨_, rfl⟩
      rw [← hN] at HR2
      have HN := Aside0.mk hN
      clear hN
      go_loop [5, 6] (fun v5 v6 => ∃ k n : Nat, k ≤ 8 ∧ v6 = .int .i64 ((k : Int) - 1) ∧ v5 = .int .u64 (n : Int) ∧ n = leN ((b.take 8).drop k)) (fun v5 v6 => (intOf v6 + 1).toNat)
      case atStart => exact ⟨8, 0, by omega, rfl, rfl, by rw [List.drop_of_length_le (by rw [List.length_take]; omega)]; rfl⟩
      case round =>
        obtain ⟨k, n, hk, rfl, rfl, hn⟩ := hrel
        have Hn := Aside0.mk hn
        clear hn
        rcases k with _ | j
        · have hnN : n = N := by rw [Hn.out, HN.out]; rfl
          subst hnN
          have em : (((0 : Nat) : Int) - 1) = -1 := rfl
          rw [em]
          clear em Hn
          by_cases hz : n = 0
          · have hRz := HR2.out
            rw [if_pos (Or.inl hz)] at hRz
            subst hRz
            have hzb : ((n : Int) == 0) = true := by rw [beq_iff_eq]; omega
            clear hz
            go_wp2_with (refine wl_store_row rfl rfl aggAnchor rfl rfl (HB.out.below HB2.out) rfl rfl (by decide) ?_; intro w3 hB3 hO3; have HB3 := Aside0.mk hB3; have HO3 := Aside0.mk hO3; clear hB3 hO3)
            exact bodyPost_ret (v := .agg #[.int .i64 0, .slice none 0 0]) (results_cell_row (P := Try.prog) rfl _ _ g 99 _ (0, 0) _ rfl HB3.out.out Try.underlying99 rfl (by kernel_rfl)) rfl ⟨_, rfl, V_nil, (HW.out.trans (HB2.out.mono HW.out.size)).trans (HO3.out.below hg)⟩
          · by_cases hm : 9223372036854775807 < n
            · have hRz := HR2.out
              rw [if_pos (Or.inr hm)] at hRz
              subst hRz
              have hzb : ((n : Int) == 0) = false := by rw [beq_eq_false_iff_ne]; omega
              have hmb : decide ((9223372036854775807 : Int) < (n : Int)) = true := decide_eq_true (by omega)
              clear hz hm
              go_wp2_with (refine wl_store_row rfl rfl aggAnchor rfl rfl (HB.out.below HB2.out) rfl rfl (by decide) ?_; intro w3 hB3 hO3; have HB3 := Aside0.mk hB3; have HO3 := Aside0.mk hO3; clear hB3 hO3)
              exact bodyPost_ret (v := .agg #[.int .i64 0, .slice none 0 0]) (results_cell_row (P := Try.prog) rfl _ _ g 99 _ (0, 0) _ rfl HB3.out.out Try.underlying99 rfl (by kernel_rfl)) rfl ⟨_, rfl, V_nil, (HW.out.trans (HB2.out.mono HW.out.size)).trans (HO3.out.below hg)⟩
            · have hRz := HR2.out
              rw [if_neg (fun h => h.elim hz hm)] at hRz
              subst hRz
              have hzb : ((n : Int) == 0) = false := by rw [beq_eq_false_iff_ne]; omega
              have hmb : decide ((9223372036854775807 : Int) < (n : Int)) = false := decide_eq_false (by omega)
              have Hm := Aside0.mk hm
              clear hz hm
              have hw64 : wrap64 (n : Int) = (n : Int) := by have := Hm.out; unfold wrap64; omega
              obtain ⟨ad, e, _⟩ := C_byte (F_now HV.out) (Below.refl _ _) 0 (by have := HL.out; rw [len_ofB]; omega)
              subst e
              by_cases hc8 : c1 = 8
              · have hb8 : b.length = 8 := by have := HLE.out; rw [len_ofB] at this; have := HL.out; omega
                go_wp2_with (refine wl_store_row rfl rfl aggAnchor rfl rfl (HB.out.below HB2.out) rfl rfl (by intro v hv; simp at hv; rcases hv with rfl | rfl <;> rfl) ?_; intro w3 hB3 hO3; have HB3 := Aside0.mk hB3; have HO3 := Aside0.mk hO3; clear hB3 hO3)
                subst hc8
                have hV := V_drop (e := 5) (base := w1.heap.size) HV.out HLE.out 8 (by have := HL.out; omega) (some ad) (Or.inr hb8)
                rw [← len_ofB b] at hV
                exact bodyPost_ret (v := .agg #[.int .i64 (n : Int), .slice (some ad) ((ofB b).length - 8) (0)]) (results_cell_row (P := Try.prog) rfl _ _ g 99 _ (0, 0) _ rfl HB3.out.out Try.underlying99 rfl (by kernel_rfl)) rfl ⟨_, rfl, V_move hV (fun k hk hlt => ⟨Nat.le_trans HW.out.size hk, by rw [HO3.out.size]; exact hlt, HO3.out.block k (by have := HB.out.lt; omega)⟩), (HW.out.trans (HB2.out.mono HW.out.size)).trans (HO3.out.below hg)⟩
              · go_wp2_with (refine wl_store_row rfl rfl aggAnchor rfl rfl (HB.out.below HB2.out) rfl rfl (by intro v hv; simp at hv; rcases hv with rfl | rfl <;> rfl) ?_; intro w3 hB3 hO3; have HB3 := Aside0.mk hB3; have HO3 := Aside0.mk hO3; clear hB3 hO3)
                have hV := V_drop (e := 5) (base := w1.heap.size) HV.out HLE.out 8 (by have := HL.out; omega) (some (ad.add 8)) (Or.inl rfl)
                rw [← len_ofB b] at hV
                exact bodyPost_ret (v := .agg #[.int .i64 (n : Int), .slice (some (ad.add 8)) ((ofB b).length - 8) (c1 - 8)]) (results_cell_row (P := Try.prog) rfl _ _ g 99 _ (0, 0) _ rfl HB3.out.out Try.underlying99 rfl (by kernel_rfl)) rfl ⟨_, rfl, V_move hV (fun k hk hlt => ⟨Nat.le_trans HW.out.size hk, by rw [HO3.out.size]; exact hlt, HO3.out.block k (by have := HB.out.lt; omega)⟩), (HW.out.trans (HB2.out.mono HW.out.size)).trans (HO3.out.below hg)⟩
        · have ej : (((j + 1 : Nat) : Int) - 1) = (j : Int) := by omega
          rw [ej]
          clear ej
          have hlen := HL.out
          obtain ⟨ad, e, hx⟩ := C_byte (F_now HV.out) (Below.refl _ _) j (by rw [len_ofB]; omega)
          subst e
          have hjl : (j : Int) < ((ofB b).length : Int) := by rw [len_ofB]; omega
          clear hlen hl'
          go_wp2
          have hd := leN_drop (b.take 8) j (by rw [List.length_take]; have := HL.out; omega)
          have hlt := leN_lt ((b.take 8).drop (j + 1))
          rw [← Hn.out] at hd hlt
          have hp : 256 ^ ((b.take 8).drop (j + 1)).length ≤ 256 ^ 7 := Nat.pow_le_pow_right (by decide) (by rw [List.length_drop, List.length_take]; omega)
          have hg2 : (b.take 8).getD j 0 = b.getD j 0 := by
            rw [List.getD_eq_getElem?_getD, List.getD_eq_getElem?_getD, List.getElem?_take_of_lt (by omega)]
          rw [hg2] at hd
          refine ⟨⟨j, (b.getD j 0).toNat + 256 * n, by omega, rfl, ?_, hd.symm⟩, by simp only [intOf]; omega⟩
          have h7 : (256 : Nat) ^ 7 = 72057594037927936 := by decide
          have := bits_or_u64 n (b.getD j 0) (by omega)
          rw [List.getD_eq_getElem?_getD] at this ⊢
          rw [this]
end Go.Proofs
