/- What joining and sorting pairs comes to: in order, each once, just those that were there. For every list; no condition. -/
import Derived.Test.YtnbncpnmdnhakaaPPairsFitsx
namespace Go.Proofs.Ytnbncpnmdnhakaa.OrdPairsFits
open Go.RowKit Go.Proofs.Ytnbncpnmdnhakaa.PPairsFits Go.Proofs.YtnbncpnmdnhakaaW.PrintWords

abbrev PP := S23
theorem pp_ext {a b : PP} (h0 : a.f0 = b.f0) (h1 : a.f1 = b.f1) : a = b := by cases a; cases b; simp_all
instance decPP : DecidableEq PP := fun a b => if h : a.f0 = b.f0 ∧ a.f1 = b.f1 then isTrue (pp_ext h.1 h.2) else isFalse (fun e => h ⟨by rw [e], by rw [e]⟩)
def lt (a b : PP) : Prop := lessB a b = true
theorem lt_iff (a b : PP) : lt a b ↔ a.f0 < b.f0 ∨ (a.f0 = b.f0 ∧ a.f1 < b.f1) := by
  unfold lt lessB
  by_cases h : a.f0 = b.f0
  · simp [h]
  · have hb : (a.f0 == b.f0) = false := beq_eq_false_iff_ne.mpr h
    rw [hb]; simp [h]
theorem lt_irr (a : PP) : ¬ lt a a := by rw [lt_iff]; omega
theorem lt_tr {a b c : PP} (h : lt a b) (k : lt b c) : lt a c := by rw [lt_iff] at *; omega
theorem lt_tot (a b : PP) : a = b ∨ lt a b ∨ lt b a := by
  rw [lt_iff, lt_iff]
  by_cases h0 : a.f0 = b.f0
  · by_cases h1 : a.f1 = b.f1
    · exact .inl (pp_ext h0 h1)
    · omega
  · omega
theorem lt_asym {a b : PP} (h : lt a b) : ¬ lt b a := fun k => lt_irr _ (lt_tr h k)
/-- at most -/
def le (a b : PP) : Prop := ¬ lt b a
theorem le_of_lt {a b : PP} (h : lt a b) : le a b := lt_asym h
theorem le_tr {a b c : PP} (h : le a b) (k : le b c) : le a c := by unfold le at *; rw [lt_iff] at *; omega
theorem lt_of_le_ne {a b : PP} (h : le a b) (k : a ≠ b) : lt a b := by
  rcases lt_tot a b with e | e | e
  · exact absurd e k
  · exact e
  · exact absurd e h
/-- in order, each once -/
def Srt (l : List PP) : Prop := l.Pairwise lt

theorem rd_last (out : List PP) (z : PP) : rd_T23 (out ++ [z]) (((out ++ [z]).length : Int) - 1) = z := by
  unfold rd_T23
  rw [show (((out ++ [z]).length : Int) - 1).toNat = out.length by simp]
  simp [List.getD_eq_getElem?_getD]
theorem putL_nil (x : PP) : putL [] x = [x] := by unfold putL; rw [if_pos (.inl rfl)]; rfl
theorem putL_snoc (out : List PP) (z x : PP) : putL (out ++ [z]) x = if z = x then out ++ [z] else out ++ [z] ++ [x] := by
  unfold putL
  rw [rd_last]
  by_cases h : z = x
  · subst h
    rw [if_neg (by simp), if_pos rfl]
  · rw [if_neg h, if_pos]
    right
    by_cases h0 : z.f0 = x.f0
    · have h1 : ¬ z.f1 = x.f1 := fun h1 => h (pp_ext h0 h1)
      simp [h0, h1]
    · simp [h0]
theorem put_srt {out : List PP} {x : PP} (hs : Srt out) (hx : ∀ o ∈ out, le o x) : Srt (putL out x) := by
  rcases List.eq_nil_or_concat out with rfl | ⟨o, z, rfl⟩
  · rw [putL_nil]; exact List.pairwise_singleton _ _
  · rw [List.concat_eq_append] at *
    rw [putL_snoc]
    split
    · exact hs
    · rename_i hzx
      refine List.pairwise_append.mpr ⟨hs, List.pairwise_singleton _ _, fun p hp q hq => ?_⟩
      obtain rfl : q = x := by simpa using hq
      have hz : lt z q := lt_of_le_ne (hx z (by simp)) hzx
      rcases List.mem_append.mp hp with hp' | hp'
      · exact lt_tr ((List.pairwise_append.mp hs).2.2 p hp' z (by simp)) hz
      · obtain rfl : p = z := by simpa using hp'
        exact hz
theorem put_mem (out : List PP) (x p : PP) : p ∈ putL out x ↔ p ∈ out ∨ p = x := by
  rcases List.eq_nil_or_concat out with rfl | ⟨o, z, rfl⟩
  · rw [putL_nil]; simp
  · rw [List.concat_eq_append, putL_snoc]
    split
    · rename_i h
      subst h
      simp only [List.mem_append, List.mem_singleton]
      constructor
      · exact fun h => .inl h
      · rintro (h | h)
        · exact h
        · exact .inr h
    · simp only [List.mem_append, List.mem_singleton]
theorem join_spec (n : Nat) : ∀ a b out : List PP, a.length + b.length = n → Srt a → Srt b → Srt out → (∀ o ∈ out, ∀ z, z ∈ a ∨ z ∈ b → le o z) →
    Srt (joinL a b out) ∧ ∀ p, p ∈ joinL a b out ↔ p ∈ out ∨ p ∈ a ∨ p ∈ b := by
  induction n with
  | zero =>
    intro a b out h _ _ ho _
    obtain rfl : a = [] := List.length_eq_zero_iff.mp (by omega)
    obtain rfl : b = [] := List.length_eq_zero_iff.mp (by omega)
    rw [joinL]
    exact ⟨ho, fun p => by simp⟩
  | succ n ih =>
    intro a b out h ha hb ho hle
    match a, b with
    | [], [] => simp at h
    | x :: a, [] =>
      rw [joinL]
      have hsx := List.pairwise_cons.mp ha
      have hp : ∀ o ∈ putL out x, ∀ z, z ∈ a ∨ z ∈ ([] : List PP) → le o z := by
        intro o hom z hz
        rcases (put_mem _ _ _).mp hom with h1 | rfl
        · exact hle o h1 z (hz.elim (fun h => .inl (List.mem_cons_of_mem _ h)) .inr)
        · exact le_of_lt (hsx.1 z (by simpa using hz))
      obtain ⟨h1, h2⟩ := ih a [] (putL out x) (by simp at h ⊢; omega) hsx.2 hb (put_srt ho (fun o hom => hle o hom x (.inl (by simp)))) hp
      refine ⟨h1, fun p => ?_⟩
      rw [h2, put_mem]; simp only [List.mem_cons]
      constructor
      · rintro ((h | h) | h | h)
        · exact .inl h
        · exact .inr (.inl (.inl h))
        · exact .inr (.inl (.inr h))
        · exact .inr (.inr h)
      · rintro (h | (h | h) | h)
        · exact .inl (.inl h)
        · exact .inl (.inr h)
        · exact .inr (.inl h)
        · exact .inr (.inr h)
    | [], y :: b =>
      rw [joinL]
      have hsy := List.pairwise_cons.mp hb
      have hp : ∀ o ∈ putL out y, ∀ z, z ∈ ([] : List PP) ∨ z ∈ b → le o z := by
        intro o hom z hz
        rcases (put_mem _ _ _).mp hom with h1 | rfl
        · exact hle o h1 z (hz.elim .inl (fun h => .inr (List.mem_cons_of_mem _ h)))
        · exact le_of_lt (hsy.1 z (by simpa using hz))
      obtain ⟨h1, h2⟩ := ih [] b (putL out y) (by simp at h ⊢; omega) ha hsy.2 (put_srt ho (fun o hom => hle o hom y (.inr (by simp)))) hp
      refine ⟨h1, fun p => ?_⟩
      rw [h2, put_mem]; simp only [List.mem_cons]
      constructor
      · rintro ((h | h) | h | h)
        · exact .inl h
        · exact .inr (.inr (.inl h))
        · exact .inr (.inl h)
        · exact .inr (.inr (.inr h))
      · rintro (h | h | (h | h))
        · exact .inl (.inl h)
        · exact .inr (.inl h)
        · exact .inl (.inr h)
        · exact .inr (.inr h)
    | x :: a, y :: b =>
      have hsx := List.pairwise_cons.mp ha
      have hsy := List.pairwise_cons.mp hb
      rw [joinL]
      by_cases hl : lessB y x = true
      · rw [if_pos hl]
        have hyx : lt y x := hl
        have hp : ∀ o ∈ putL out y, ∀ z, z ∈ x :: a ∨ z ∈ b → le o z := by
          intro o hom z hz
          rcases (put_mem _ _ _).mp hom with h1 | rfl
          · exact hle o h1 z (hz.elim .inl (fun h => .inr (List.mem_cons_of_mem _ h)))
          · rcases hz with hz | hz
            · rcases List.mem_cons.mp hz with rfl | hz
              · exact le_of_lt hyx
              · exact le_of_lt (lt_tr hyx (hsx.1 z hz))
            · exact le_of_lt (hsy.1 z hz)
        obtain ⟨h1, h2⟩ := ih (x :: a) b (putL out y) (by simp at h ⊢; omega) ha hsy.2 (put_srt ho (fun o hom => hle o hom y (.inr (by simp)))) hp
        refine ⟨h1, fun p => ?_⟩
        rw [h2, put_mem]; simp only [List.mem_cons]
        constructor
        · rintro ((h | h) | h | h)
          · exact .inl h
          · exact .inr (.inr (.inl h))
          · exact .inr (.inl h)
          · exact .inr (.inr (.inr h))
        · rintro (h | h | (h | h))
          · exact .inl (.inl h)
          · exact .inr (.inl h)
          · exact .inl (.inr h)
          · exact .inr (.inr h)
      · rw [if_neg hl]
        have hxy : le x y := hl
        have hp : ∀ o ∈ putL out x, ∀ z, z ∈ a ∨ z ∈ y :: b → le o z := by
          intro o hom z hz
          rcases (put_mem _ _ _).mp hom with h1 | rfl
          · exact hle o h1 z (hz.elim (fun h => .inl (List.mem_cons_of_mem _ h)) .inr)
          · rcases hz with hz | hz
            · exact le_of_lt (hsx.1 z hz)
            · rcases List.mem_cons.mp hz with rfl | hz
              · exact hxy
              · exact le_tr hxy (le_of_lt (hsy.1 z hz))
        obtain ⟨h1, h2⟩ := ih a (y :: b) (putL out x) (by simp at h ⊢; omega) hsx.2 hb (put_srt ho (fun o hom => hle o hom x (.inl (by simp)))) hp
        refine ⟨h1, fun p => ?_⟩
        rw [h2, put_mem]; simp only [List.mem_cons]
        constructor
        · rintro ((h | h) | h | h)
          · exact .inl h
          · exact .inr (.inl (.inl h))
          · exact .inr (.inl (.inr h))
          · exact .inr (.inr h)
        · rintro (h | (h | h) | h)
          · exact .inl (.inl h)
          · exact .inl (.inr h)
          · exact .inr (.inl h)
          · exact .inr (.inr h)
theorem join_nil {a b : List PP} (ha : Srt a) (hb : Srt b) : Srt (joinL a b []) ∧ ∀ p, p ∈ joinL a b [] ↔ p ∈ a ∨ p ∈ b := by
  obtain ⟨h1, h2⟩ := join_spec _ a b [] rfl ha hb List.Pairwise.nil (by simp)
  exact ⟨h1, fun p => by rw [h2]; simp⟩
theorem sort_spec (n : Nat) : ∀ l : List PP, l.length = n → Srt (sortL l) ∧ ∀ p, p ∈ sortL l ↔ p ∈ l := by
  induction n using Nat.strongRecOn with
  | _ n ih =>
    intro l hl
    rw [sortL]
    by_cases h : l.length < 2
    · rw [dif_pos h]
      refine ⟨?_, fun p => Iff.rfl⟩
      match l, h with
      | [], _ => exact List.Pairwise.nil
      | [x], _ => exact List.pairwise_singleton _ _
    · rw [dif_neg h]
      obtain ⟨a1, a2⟩ := ih (l.take (l.length / 2)).length (by rw [List.length_take]; omega) _ rfl
      obtain ⟨b1, b2⟩ := ih (l.drop (l.length / 2)).length (by rw [List.length_drop]; omega) _ rfl
      obtain ⟨c1, c2⟩ := join_nil a1 b1
      refine ⟨c1, fun p => ?_⟩
      rw [c2, a2, b2, ← List.mem_append, List.take_append_drop]
theorem sort_srt (l : List PP) : Srt (sortL l) := (sort_spec _ l rfl).1
theorem sort_mem (l : List PP) (p : PP) : p ∈ sortL l ↔ p ∈ l := (sort_spec _ l rfl).2 p
/-- One list alone is in order, each once, and has just these. -/
theorem srt_one : ∀ {a b : List PP}, Srt a → Srt b → (∀ p, p ∈ a ↔ p ∈ b) → a = b
  | [], [], _, _, _ => rfl
  | [], y :: b, _, _, h => by have := (h y).mpr (by simp); simp at this
  | x :: a, [], _, _, h => by have := (h x).mp (by simp); simp at this
  | x :: a, y :: b, ha, hb, h => by
    have hsx := List.pairwise_cons.mp ha
    have hsy := List.pairwise_cons.mp hb
    have exy : x = y := by
      rcases List.mem_cons.mp ((h x).mp (by simp)) with e | e
      · exact e
      · rcases List.mem_cons.mp ((h y).mpr (by simp)) with e' | e'
        · exact e'.symm
        · exact absurd (hsx.1 y e') (lt_asym (hsy.1 x e))
    subst exy
    rw [srt_one hsx.2 hsy.2 (fun p => ?_)]
    constructor
    · intro hp
      rcases List.mem_cons.mp ((h p).mp (List.mem_cons_of_mem _ hp)) with rfl | e
      · exact absurd (hsx.1 _ hp) (lt_irr _)
      · exact e
    · intro hp
      rcases List.mem_cons.mp ((h p).mpr (List.mem_cons_of_mem _ hp)) with rfl | e
      · exact absurd (hsy.1 _ hp) (lt_irr _)
      · exact e
theorem sort_of_srt {l : List PP} (h : Srt l) : sortL l = l := srt_one (sort_srt l) h (sort_mem l)
theorem sort_congr {a b : List PP} (h : ∀ p, p ∈ a ↔ p ∈ b) : sortL a = sortL b := srt_one (sort_srt a) (sort_srt b) (fun p => by rw [sort_mem, sort_mem, h])
end Go.Proofs.Ytnbncpnmdnhakaa.OrdPairsFits
