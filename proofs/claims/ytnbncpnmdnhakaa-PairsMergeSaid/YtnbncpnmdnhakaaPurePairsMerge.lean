/- PairsMerge: whichever list is named first, and whichever two of three are put together first, what comes of them is one. For every three lists; no condition. -/
import Derived.Test.YtnbncpnmdnhakaaStatPairsMerge
import Derived.Test.YtnbncpnmdnhakaaPrsPairsMerge
namespace Go.Proofs.Ytnbncpnmdnhakaa.Pure
open Go.RowKit Go.Proofs.Ytnbncpnmdnhakaa.PPairsMerge Go.Proofs.YtnbncpnmdnhakaaW.PrintWords Go.Proofs.YtnbncpnmdnhakaaW.PrintLast Go.Proofs.Ytnbncpnmdnhakaa.Aid Go.Proofs.Ytnbncpnmdnhakaa.OrdPairsMerge

theorem merge_f (a b : List PP) (h : (a.length + b.length) * 16 ≤ 140737488355328) : pairs_Merge.f a b = some (joinL (sortL a) (sortL b) []) := by
  unfold pairs_Merge.f; rw [if_pos h]
theorem merge_srt (a b : List PP) : Srt (joinL (sortL a) (sortL b) []) := (join_nil (sort_srt a) (sort_srt b)).1
theorem merge_mem (a b : List PP) (p : PP) : p ∈ joinL (sortL a) (sortL b) [] ↔ p ∈ a ∨ p ∈ b := by
  rw [(join_nil (sort_srt a) (sort_srt b)).2, sort_mem, sort_mem]
theorem len_le {a : List PP} : ∀ {b : List PP}, Srt a → (∀ p, p ∈ a → p ∈ b) → a.length ≤ b.length := by
  induction a with
  | nil => intro b _ _; exact Nat.zero_le _
  | cons x a ih =>
    intro b ha h
    have hs := List.pairwise_cons.mp ha
    have hx : x ∈ b := h x (by simp)
    have hp := List.length_pos_of_mem hx
    have he := List.length_erase_of_mem hx
    have := ih (b := b.erase x) hs.2 (fun p hp => (List.mem_erase_of_ne (fun e => lt_irr x (by have := hs.1 p hp; rwa [e] at this))).mpr (h p (List.mem_cons_of_mem _ hp)))
    rw [List.length_cons]
    omega
theorem merge_len (a b : List PP) : (joinL (sortL a) (sortL b) []).length ≤ a.length + b.length := by
  have := len_le (b := a ++ b) (merge_srt a b) (fun p hp => List.mem_append.mpr ((merge_mem a b p).mp hp))
  rwa [List.length_append] at this

theorem PairsMerge : Go.Proofs.Ytnbncpnmdnhakaa.StatPairsMerge.Pure := by
  intro a b c _ _ _ _ _ _ _ _ _
  refine Ev.rounds (g := fun k => _) (r := true) ?_
  unfold seinelaw03_PairsMerge.f
  refine Ev.bind awake_ev ?_
  simp only [if_true]
  have ht : Ev (fun k => seinelaw03_PairsMerge.j0 k a b c true) true := by
    refine Ev.succ ?_
    simp only [seinelaw03_PairsMerge.j0, if_true]
    exact Ev.const rfl
  by_cases h1 : (a.length : Int) > 40
  · simp only [if_pos h1]; exact ht
  by_cases h2 : (b.length : Int) > 40
  · simp only [if_neg h1, if_pos h2]; exact ht
  by_cases h3 : (c.length : Int) > 40
  · simp only [if_neg h1, if_neg h2, decide_eq_true h3]; exact ht
  simp only [if_neg h1, if_neg h2, decide_eq_false h3]
  have la := merge_len a b
  have lc := merge_len c b
  have ln := merge_len [] a
  have lx := merge_len (joinL (sortL a) (sortL b) []) c
  have hxy : joinL (sortL (joinL (sortL a) (sortL b) [])) (sortL c) [] = joinL (sortL a) (sortL (joinL (sortL c) (sortL b) [])) [] := by
    refine srt_one (merge_srt _ _) (merge_srt _ _) (fun p => ?_)
    rw [merge_mem, merge_mem, merge_mem, merge_mem]
    constructor
    · rintro ((h | h) | h)
      · exact .inl h
      · exact .inr (.inr h)
      · exact .inr (.inl h)
    · rintro (h | h | h)
      · exact .inl (.inl h)
      · exact .inr h
      · exact .inl (.inr h)
  have hz : joinL (sortL []) (sortL a) [] = sortL a := by
    refine srt_one (merge_srt _ _) (sort_srt _) (fun p => ?_)
    rw [merge_mem, sort_mem]; simp
  have hl : (joinL (sortL []) (sortL a) []).length ≤ (joinL (sortL (joinL (sortL a) (sortL b) [])) (sortL c) []).length := by
    refine len_le (merge_srt _ _) (fun p hp => ?_)
    rw [merge_mem] at hp
    rw [merge_mem, merge_mem]
    rcases hp with h | h
    · cases h
    · exact .inl (.inl h)
  refine Ev.succ ?_
  simp only [seinelaw03_PairsMerge.j0, Bool.false_eq_true, if_false]
  rw [merge_f a b (by omega)]; simp only [Option.bind_some]
  rw [merge_f _ c (by omega)]; simp only [Option.bind_some]
  rw [merge_f c b (by omega)]; simp only [Option.bind_some]
  rw [merge_f a _ (by omega)]; simp only [Option.bind_some]
  rw [merge_f [] a (by simp; omega)]; simp only [Option.bind_some]
  simp only [← hxy, sort_f a (show a.length ≤ 1000 by omega), Option.bind_some]
  rw [hz] at hl ln ⊢
  simp only [List.length_nil] at ln
  refine Ev.bind (same_t _ (by omega)) ?_
  simp only [if_true]
  refine Ev.bind (same_t _ (by omega)) ?_
  simp only [if_true]
  exact Ev.const (by rw [decide_eq_true (by omega)])

end Go.Proofs.Ytnbncpnmdnhakaa.Pure
