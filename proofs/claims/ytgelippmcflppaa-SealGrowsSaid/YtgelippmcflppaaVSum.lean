/- codec.Sum (and its table, codec.halves) by the walk: for every slice of bytes it returns the list's CRC32C; nothing that was there turns. -/
import Derived.Test.YtgelippmcflppaaChecked
import Derived.Test.YtgelippmcflppaaWMore
import Derived.WalkKit
import Derived.WalkSpells
import Derived.WalkLawsBesides
import Derived.Deep.QuietTactic
import Derived.BigQuiet
import Derived.Test.YtgelippmcflppaaVCrc
import Derived.Test.YtgelippmcflppaaVMem
open Go Go.RowKit Go.Proofs.YtgelippmcflppaaW.PrintWords Go.Proofs.YtgelippmcflppaaW.PrintMore
namespace Go.Proofs
open Go.Vel
def tabV : Array Value := #[.int .u32 0, .int .u32 274646895, .int .u32 549293790, .int .u32 820201905, .int .u32 1098587580, .int .u32 1361435347, .int .u32 1640403810, .int .u32 1905808397, .int .u32 2197175160, .int .u32 2460548119, .int .u32 2722870694, .int .u32 2987750089, .int .u32 3280807620, .int .u32 3553878443, .int .u32 3811616794, .int .u32 4084100981]
def zeroV : Array Value := #[.int .u32 0, .int .u32 0, .int .u32 0, .int .u32 0, .int .u32 0, .int .u32 0, .int .u32 0, .int .u32 0, .int .u32 0, .int .u32 0, .int .u32 0, .int .u32 0, .int .u32 0, .int .u32 0, .int .u32 0, .int .u32 0]
theorem tab_at : ∀ i, i < 16 → tabV[i]? = some (.int .u32 ((tab16.getD i 0 : Nat) : Int)) := by
  intro i hi
  rcases i with _ | _ | _ | _ | _ | _ | _ | _ | _ | _ | _ | _ | _ | _ | _ | _ | i
  all_goals first | rfl | omega
theorem agg66 : Agg Try.prog 111 zeroV := ⟨⟨_, Try.underlying111, rfl⟩, by kernel_rfl, by kernel_rfl⟩
theorem tabV_one : ∀ v ∈ tabV.toList, v.oneCell' = true := by simp [tabV, Value.oneCell']
set_option maxHeartbeats 1000000 in
theorem halves_any (w : World) : Calls Try.prog 57 #[] w fun e w' => e = .returned (.agg tabV) ∧ Below w.heap.size w w' := by
  go_enter Try.func57, Try.ntmps57
  go_wp2_with (first | (refine wl_alloc rfl rfl agg66 ?_; intro g1 w1 hB1 hg1 hb1) | (refine wl_store_row rfl rfl agg66 rfl rfl (by assumption) (cs := tabV) rfl rfl tabV_one ?_; intro w2 hB2 hb2))
  refine bodyPost_ret (v := .agg tabV) ?_ rfl ⟨rfl, ?_⟩
  · exact results_cell_row (P := Try.prog) rfl _ _ g1 111 tabV (0, 0) (.array 16 110) rfl hB2.out Try.underlying111 rfl (by kernel_rfl)
  · exact hb1.trans (hb2.below hg1)
theorem bits_xor32 (a b : BitVec 32) : bits .xor .u32 (a.toNat : Int) (b.toNat : Int) = ((a ^^^ b).toNat : Int) := by
  have h1 : BitVec.ofInt 32 (a.toNat : Int) = a := by simp
  have h2 : BitVec.ofInt 32 (b.toNat : Int) = b := by simp
  show IntKind.u32.wrap ((BitVec.ofInt 32 (a.toNat : Int) ^^^ BitVec.ofInt 32 (b.toNat : Int)).toNat : Int) = _
  rw [h1, h2, IntKind.wrap_u32]
  have := (a ^^^ b).isLt
  omega
theorem bits_and15 (a : BitVec 32) : bits .and .u32 (a.toNat : Int) 15 = ((a.toNat % 16 : Nat) : Int) := by
  have h := bits_mask .u32 32 (by decide) (fun n h0 h1 => by rw [IntKind.wrap_u32]; omega) 4 (by decide) (a.toNat : Int) (by omega) (by have := a.isLt; omega)
  have e : ((2 : Int) ^ 4 - 1) = 15 := by decide
  rw [e] at h
  rw [h]
  omega
theorem ex_toNat (x : UInt8) : ((ex x).toNat : Int) = (x.toNat : Int) := by
  unfold ex
  have := x.toNat_lt
  rw [BitVec.toNat_ofNat, Nat.mod_eq_of_lt (by omega)]
theorem wl_not32 {P : Program} {ops : Array Oper} {rest : List Oper} {o : Oper} {a : Act} {Q : Exit → Act → World → Prop} {w : World} (hg : o.guard = none) {T : TypeId} {x : Operand} (ho : o.op = .unOp .xor T x) {r : BitVec 32} (hx : a.eval x = .int .u32 (r.toNat : Int))
    (h : wpList P ops Q rest (a.put o.dst (.int .u32 ((~~~ r).toNat : Int))) w) : wpList P ops Q (o :: rest) a w := by
  refine wl_val hg ?_ h
  have e : IntKind.u32.max = (((BitVec.ofNat 32 4294967295).toNat : Nat) : Int) := by decide
  have e2 : ∀ y : BitVec 32, BitVec.ofNat 32 4294967295 ^^^ y = ~~~ y := fun y => by
    rw [show BitVec.ofNat 32 4294967295 = BitVec.allOnes 32 from by decide, BitVec.allOnes_xor]
  have h2 := bits_xor32 (BitVec.ofNat 32 4294967295) r
  rw [e2] at h2
  simp only [execOp, ho, hx]
  show ((Op.intBits .xor .u32 (if IntKind.u32.signed then -1 else IntKind.u32.max) (r.toNat : Int) >>= fun v => pure (.value v)) : Sem Next).run P w = _
  rw [if_neg (by decide), e]
  have h3 : (Op.intBits .xor .u32 ((BitVec.ofNat 32 4294967295).toNat : Int) (r.toNat : Int)).run P w = .ok (.int .u32 (bits .xor .u32 ((BitVec.ofNat 32 4294967295).toNat : Int) (r.toNat : Int))) w := by
    simp [Op.intBits, bits]
  rw [Sem.run_bind, h3, h2]
  rfl
theorem not32_num (r : BitVec 32) : ∃ q : Nat, Aside0 ((~~~ r).toNat = q) ∧ ((~~~ r).toNat : Int) = (q : Int) ∧ (q : Int) < 4294967296 := ⟨_, ⟨rfl⟩, rfl, by have := (~~~ r).isLt; omega⟩
theorem nib_bits (r1 : BitVec 32) : bits .xor .u32 ((r1.toNat : Int) / 16) ((tab16.getD (r1.toNat % 16) 0 : Nat) : Int) = ((nib r1).toNat : Int) := by
  have e1 : ((r1.toNat : Int) / 16 : Int) = ((r1 >>> 4).toNat : Int) := by
    rw [BitVec.toNat_ushiftRight, Nat.shiftRight_eq_div_pow]; omega
  have hb : ∀ i, i < 16 → tab16.getD i 0 < 4294967296 := by decide
  have e2 : ((tab16.getD (r1.toNat % 16) 0 : Nat) : Int) = ((BitVec.ofNat 32 (tab16.getD (r1.toNat % 16) 0)).toNat : Int) := by
    rw [BitVec.toNat_ofNat, Nat.mod_eq_of_lt (hb _ (Nat.mod_lt _ (by decide)))]
  rw [e2, e1, bits_xor32]; rfl
set_option maxHeartbeats 1000000 in
set_option maxRecDepth 100000 in
theorem sum_any (w : World) (A : Option Addr) (c : Nat) (b : List UInt8) (hr : Kd.C (Kd.int .u8) w A (ofB b).length (ofB b)) : Calls Try.prog 49 #[.slice A (ofB b).length c] w fun e w' => e = .returned (.int .i64 (crc b).toNat) ∧ Below w.heap.size w w' := by
  have HR := Aside0.mk hr
  clear hr
  go_enter Try.func49, Try.ntmps49
  go_wp2_with (first | (go_at_call 57; refine (halves_any _).mono ?_; rintro e w1 ⟨rfl, hb1⟩) | (refine wl_alloc rfl rfl agg66 ?_; intro g1 w2 hB2 hg1 hb2) | (refine wl_store_row rfl rfl agg66 rfl rfl (by assumption) (cs := tabV) rfl rfl tabV_one ?_; intro w3 hB3 hb3))
  have HB3 := Aside0.mk hB3
  have HW := Aside0.mk ((hb1.trans (hb2.mono hb1.size)).trans (hb3.below (Nat.le_trans hb1.size hg1)))
  have hlen : (ofB b).length ≤ 9223372036854775807 := HR.out.2.1
  clear hB3 hb1 hb2 hb3 hB2 hg1
  go_loop [4, 10] (fun v4 v10 => ∃ k : Nat, k ≤ (ofB b).length ∧ v10 = .int .i64 k ∧ v4 = .int .u32 ((raw (BitVec.ofNat 32 4294967295) (b.take k)).toNat : Int)) (fun _ v10 => (ofB b).length - (intOf v10).toNat)
  case atStart => exact ⟨0, Nat.zero_le _, rfl, rfl⟩
  case round =>
    obtain ⟨k, hk, rfl, rfl⟩ := hrel
    by_cases hlt : k < (ofB b).length
    · obtain ⟨r, hr⟩ : ∃ r, r = raw (BitVec.ofNat 32 4294967295) (b.take k) := ⟨_, rfl⟩
      rw [← hr]
      have Hr := Aside0.mk hr
      clear hr
      obtain ⟨ad, e, hx⟩ := C_byte HR.out HW.out k hlt
      cases e
      obtain ⟨x, hx0⟩ : ∃ x, x = b.getD k 0 := ⟨_, rfl⟩
      rw [← hx0] at hx
      have Hx0 := Aside0.mk hx0
      clear hx0
      have hxb : (x.toNat : Int) < 256 := by have := x.toNat_lt; omega
      obtain ⟨r1, hr1⟩ : ∃ r1, r1 = r ^^^ ex x := ⟨_, rfl⟩
      have e1 : bits .xor .u32 (r.toNat : Int) (x.toNat : Int) = (r1.toNat : Int) := by rw [← ex_toNat, bits_xor32, hr1]
      have e2 := bits_and15 r1
      obtain ⟨i1, hi1⟩ : ∃ i1, i1 = r1.toNat % 16 := ⟨_, rfl⟩
      have hi1l : i1 < 16 := by rw [hi1]; exact Nat.mod_lt _ (by decide)
      rw [← hi1] at e2
      have c1 := HB3.out.cell i1
      rw [tab_at i1 hi1l] at c1
      have n1 := nib_bits r1
      rw [← hi1] at n1
      obtain ⟨t1, ht1⟩ : ∃ t1, t1 = tab16.getD i1 0 := ⟨_, rfl⟩
      rw [← ht1] at n1 c1
      obtain ⟨r2, hr2⟩ : ∃ r2, r2 = nib r1 := ⟨_, rfl⟩
      rw [← hr2] at n1
      have e3 := bits_and15 r2
      obtain ⟨i2, hi2⟩ : ∃ i2, i2 = r2.toNat % 16 := ⟨_, rfl⟩
      have hi2l : i2 < 16 := by rw [hi2]; exact Nat.mod_lt _ (by decide)
      rw [← hi2] at e3
      have c2 := HB3.out.cell i2
      rw [tab_at i2 hi2l] at c2
      have n2 := nib_bits r2
      rw [← hi2] at n2
      obtain ⟨t2, ht2⟩ : ∃ t2, t2 = tab16.getD i2 0 := ⟨_, rfl⟩
      rw [← ht2] at n2 c2
      obtain ⟨r3, hr3⟩ : ∃ r3, r3 = nib r2 := ⟨_, rfl⟩
      rw [← hr3] at n2
      have Hr3 := Aside0.mk (show r3 = upd r x by rw [upd_nib, hr3, hr2, hr1])
      clear hr1 hr2 hr3 hi1 hi2 ht1 ht2
      have hlt' : (k : Int) < ((ofB b).length : Int) := by omega
      go_wp2
      have hkb : k < b.length := by rw [len_ofB] at hlt; exact hlt
      have hs : raw (BitVec.ofNat 32 4294967295) (b.take (k + 1)) = r3 := by
        rw [Hr3.out, Hr.out, Hx0.out, List.take_succ_eq_append_getElem hkb, raw_append, List.getD_eq_getElem?_getD, List.getElem?_eq_getElem hkb]; rfl
      exact ⟨⟨k + 1, by omega, by go_num, by rw [hs]⟩, by simp [intOf]; omega⟩
    · have hk2 : b.take k = b := List.take_of_length_le (by rw [len_ofB] at hlt; omega)
      rw [hk2]
      clear hk2
      obtain ⟨r, hr⟩ : ∃ r, r = raw (BitVec.ofNat 32 4294967295) b := ⟨_, rfl⟩
      have Hc : Aside0 ((crc b) = ~~~ r) := ⟨by rw [hr]; rfl⟩
      rw [← hr]
      clear hr
      have hge : ¬ ((k : Int) < ((ofB b).length : Int)) := by omega
      go_wp2_with (refine wl_not32 rfl rfl rfl ?_; obtain ⟨q, hq, hq2, hq3⟩ := not32_num r; rw [hq2]; clear hq2)
      go_ret
      refine ⟨?_, HW.out⟩
      rw [Hc.out, hq.out]
      rfl
end Go.Proofs
