/- How an argument opens: from the datum that a row reads to the words of the printed contracts (Kd.C): numbers, bools, slices of anything, structs of one-cell fields. -/
import Derived.Test.YtgelippmcflppaaWMore
import Derived.Deep.Slices
import Derived.ChangeArms
import Derived.SizedLaws
open Go Go.RowKit Go.Deep Go.Proofs.YtgelippmcflppaaW.PrintWords Go.Proofs.YtgelippmcflppaaW.PrintMore
namespace Go.Vel
/-- Whatever is read as type t is an element of the kind d, and Q is told of it. -/
def Opens {H : Type} (enc : TypeId × Value → H) (P : Program) (W : World) (t : TypeId) {α : Type} (d : Kd α) (Q : α → Prop) : Prop :=
  ∀ fuel cs x, DataW.trod enc P W 0 (fun _ => true) true fuel t cs = some x → (∀ n ∈ x.1.weights P t, n ≤ reachBytes) → ∃ a, d.K W a cs ∧ Q a
section
variable {H : Type} {enc : TypeId × Value → H} {P : Program} {W : World} {α : Type}
theorem Opens.bool {t : TypeId} (ht : P.underlying t = some .bool) : Opens enc P W t Kd.bool (fun _ => True) := by
  intro fuel cs x h _
  obtain ⟨n, e, _⟩ := DataW.trod_bool ht h
  exact ⟨n, e, trivial⟩
theorem Opens.mono {t : TypeId} {d : Kd α} {Q Q' : α → Prop} (h : Opens enc P W t d Q) (hq : ∀ a, Q a → Q' a) : Opens enc P W t d Q' := fun fuel cs x hx hw => by
  obtain ⟨a, h1, h2⟩ := h fuel cs x hx hw
  exact ⟨a, h1, hq a h2⟩
theorem add_add (a : Addr) (i j : Nat) : (a.add i).add j = a.add (i + j) := by
  unfold Addr.add
  by_cases h0 : i = 0
  · subst h0; simp
  · by_cases h1 : j = 0
    · subst h1; simp
    · have h2 : ¬ (i + j = 0) := by omega
      simp only [h0, h1, h2, if_false, Nat.add_assoc]
theorem weightsAll_mem {e : TypeId} : ∀ {ds : List (DataW H)} {d : DataW H}, d ∈ ds → ∀ n ∈ d.weights P e, n ∈ DataW.weightsAll P e ds
  | [], _, h => by cases h
  | x :: r, d, h => fun n hn => by
    unfold DataW.weightsAll
    rcases List.mem_cons.1 h with rfl | h
    · exact List.mem_append_left _ hn
    · exact List.mem_append_right _ (weightsAll_mem h n hn)
theorem Opens.slice [Inhabited α] {t e : TypeId} {d : Kd α} {Q : α → Prop} {B : Nat} (ht : P.underlying t = some (.slice e)) (hd : Opens enc P W e d Q) (hsz : d.sz = P.cellsOf e) (hB : P.bytesOf e = B) : Opens enc P W t (Kd.slice e d) (fun xs => xs.length ≤ maxLen ∧ xs.length * B ≤ reachBytes ∧ ∀ x ∈ xs, Q x) := by
  intro fuel cs x h hw
  rcases open_slice ht h with ⟨rfl, _⟩ | ⟨a, len, cap, m, n, D, Pl, rfl, _, hl, hm, hmm, hx, he⟩
  · exact ⟨[], ⟨none, 0, rfl, Nat.le_refl _, rfl, Nat.zero_le _, fun h => absurd h (Nat.lt_irrefl 0)⟩, Nat.zero_le _, by simp, fun x hx => by cases hx⟩
  · rw [if_pos rfl] at hmm
    subst hmm
    have hw1 : ∀ n ∈ ((((List.range len).map D).length * P.bytesOf e + ((List.range (m - len)).map fun j => D (len + j)).length * P.bytesOf e) :: (DataW.weightsAll P e ((List.range len).map D) ++ DataW.weightsAll P e ((List.range (m - len)).map fun j => D (len + j))) : List Nat), n ≤ reachBytes := by
      rw [hx] at hw
      simp only [DataW.weights, ht] at hw
      rw [Nat.add_mul] at hw
      exact hw
    have hfirst := hw1 _ List.mem_cons_self
    have hex : ∀ i, i < len → ∃ y : α, ∃ cs', W.cells? 0 (a.add (i * P.cellsOf e)) (P.cellsOf e) = some cs' ∧ d.K W y cs' ∧ Q y := by
      intro i hi
      obtain ⟨cs', h1, h2⟩ := he i (by omega)
      obtain ⟨y, h3, h4⟩ := hd _ _ _ h2 (fun n hn => hw1 n (List.mem_cons_of_mem _ (List.mem_append_left _ (weightsAll_mem (d := D i) (List.mem_map.2 ⟨i, List.mem_range.2 hi, rfl⟩) n hn))))
      exact ⟨y, cs', h1, h3, h4⟩
    obtain ⟨f, hf⟩ := choose_lt hex
    have hlen : ((List.range len).map f).length = len := by simp
    have hmx : maxLen ≤ 9223372036854775807 := by decide
    refine ⟨(List.range len).map f, ⟨some a, m, by rw [hlen], by rw [hlen]; exact hl, rfl, by rw [hlen]; omega, fun _ => ⟨a, rfl, fun j p hp => ?_⟩⟩, by rw [hlen]; omega, ?_, ?_⟩
    · have hj : j < len := by
        have := (List.getElem?_eq_some_iff.1 hp).1
        rwa [hlen] at this
      rw [List.getElem?_map, List.getElem?_range hj] at hp
      simp only [Option.map_some, Option.some.injEq] at hp
      subst hp
      obtain ⟨cs', h1, h2, _⟩ := hf j hj
      obtain ⟨_, hl2, hc⟩ := World.cells?_some h1
      refine ⟨cs', by rw [hl2, hsz], h2, fun i u hu => ?_⟩
      have hi : i < P.cellsOf e := by
        have := (List.getElem?_eq_some_iff.1 hu).1
        omega
      have := hc i hi
      rw [hu, add_add] at this
      rw [hsz]; exact this
    · rw [hlen, ← hB]
      simp only [List.length_map, List.length_range] at hfirst
      exact Nat.le_trans (Nat.le_add_right _ _) hfirst
    · intro x hx
      obtain ⟨i, hi, rfl⟩ := List.mem_map.1 hx
      obtain ⟨_, _, _, hq⟩ := hf i (List.mem_range.1 hi)
      exact hq
end
end Go.Vel
