/- How many bytes a stream moves: plain. -/
import Derived.Test.YtgiaabgmnjaefaaStrV
namespace Go.Proofs.Ytgiaabgmnjaefaa.Str
open Go Go.RowKit Go.Proofs Go.Proofs.Ytgiaabgmnjaefaa.Met Go.Proofs.Ytgiaabgmnjaefaa.Win Go.Proofs.YtgiaabgmnjaefaaW.PrintWords Go.Proofs.YtgiaabgmnjaefaaW.PrintMore
set_option linter.unusedVariables false
set_option linter.unusedSimpArgs false
/-- of N bytes added, so many are moved at most -/
structure Good (st : St) (N : Nat) : Prop where
  hi : st.mv ≤ 3 * N
  pot : st.mv ≤ N + st.room
  held : st.held.length ≤ N
  room : st.held.length ≤ st.room
theorem good_new : Good newS 0 := ⟨Nat.le_refl _, Nat.le_refl _, Nat.le_refl _, Nat.le_refl _⟩
theorem Good.mono {st : St} {N N' : Nat} (h : Good st N) (hN : N ≤ N') : Good st N' := ⟨by have := h.hi; omega, by have := h.pot; omega, by have := h.held; omega, h.room⟩
theorem good_add {st : St} {N : Nat} (h : Good st N) (l : List Int) : Good (addS st l) (N + l.length) := by
  have h1 := h.hi
  have h2 := h.pot
  have h3 := h.held
  have h4 := h.room
  have h5 := add_held st l
  have h6 : (addS st l).held.length = st.held.length + l.length := by rw [h5, List.length_append]
  by_cases hf : st.held.length + l.length ≤ st.room
  · obtain ⟨q1, q2⟩ := add_fit st l hf
    exact ⟨by omega, by omega, by omega, by omega⟩
  · obtain ⟨q1, q2⟩ := add_grow st l hf h4
    unfold roomN at q1
    exact ⟨by omega, by omega, by omega, by omega⟩
theorem good_clear {st : St} {N : Nat} (h : Good st N) : Good (clearS st) N := ⟨h.hi, h.pot, Nat.zero_le _, Nat.zero_le _⟩
theorem good_line {s : SS} {N : Nat} (h : Good s.st N) (part : List Int) : Good (lineS s part).st (N + part.length) := by
  unfold lineS
  dsimp only
  split
  · exact h.mono (Nat.le_add_right _ _)
  · exact good_clear (good_add h part)
theorem good_feed : ∀ (cs part : List Int) (s : SS) (N : Nat), Good s.st N → Good (feed s part cs).1.st (N + part.length + cs.length)
  | [], part, s, N, h => by
    rw [feed_nil]
    exact good_add h part
  | c :: cs, part, s, N, h => by
    rw [List.length_cons]
    by_cases hc : c = 10
    · rw [feed_nl _ _ _ hc]
      have h1 : Good (lineS (readS s) part).st (N + part.length) := good_line (s := readS s) h part
      exact (good_feed cs [] _ _ h1).mono (by simp only [List.length_nil]; omega)
    · by_cases hm : s.most ≤ (s.st.held.length : Int) + (part.length : Int)
      · rw [feed_bad _ _ _ hc hm]
        exact Good.mono (st := s.st) h (by omega)
      · rw [feed_go _ _ _ hc hm]
        exact (good_feed cs (part ++ [c]) (readS s) N h).mono (by rw [List.length_append]; simp only [List.length_cons, List.length_nil]; omega)
theorem good_step (s : SS) (c : List Int) (N : Nat) (h : Good s.st N) : Good (step s c).1.st (N + c.length) := by
  unfold step
  split
  · exact h.mono (Nat.le_add_right _ _)
  · have := good_feed c [] s N h
    simpa using this
theorem good_runs : ∀ (L : List (List Int)) (s : SS) (N : Nat), Good s.st N → Good (runs s L).1.st (N + tot L)
  | [], s, N, h => h
  | c :: L, s, N, h => by
    have h1 := good_runs L _ _ (good_step s c N h)
    simp only [tot]
    exact h1.mono (by omega)
theorem good_end {s : SS} {N : Nat} (h : Good s.st N) : Good (endS s).1.st N := by
  unfold endS
  split
  · exact h
  · split
    · exact h
    · exact good_line (s := overS s) h []
theorem good_runF (L : List (List Int)) (s : SS) (N : Nat) (h : Good s.st N) : Good (runF s L).1.st (N + tot L) := good_end (good_runs L s N h)
theorem moves_most (most : Int) (L : List (List Int)) : (runF (newSS most 0) L).1.st.mv ≤ 3 * tot L := by
  have := (good_runF L (newSS most 0) 0 good_new).hi
  omega
/-- a chunk of whole lines alone moves nothing -/
theorem feed_whole : ∀ (cs part : List Int) (s : SS), s.st.held = [] → ((part.length + cs.length : Nat) : Int) ≤ s.most → (feed s part (cs ++ [10])).1.st = s.st ∧ (feed s part (cs ++ [10])).1.hunt = s.hunt + (cs.length + 1)
  | [], part, s, h, hm => by
    have h0 : s.st.held.length = 0 := by rw [h]; rfl
    have e1 : (lineS (readS s) part).st = s.st := if_pos h0
    rw [List.nil_append, feed_nl _ _ _ rfl, feed_nil]
    refine ⟨?_, rfl⟩
    show addS (lineS (readS s) part).st [] = s.st
    rw [e1]
    rfl
  | c :: cs, part, s, h, hm => by
    rw [List.length_cons] at hm
    have h0 : s.st.held.length = 0 := by rw [h]; rfl
    rw [List.cons_append, List.length_cons]
    by_cases hc : c = 10
    · rw [feed_nl _ _ _ hc]
      have e1 : (lineS (readS s) part).st = s.st := if_pos h0
      obtain ⟨q1, q2⟩ := feed_whole cs [] (lineS (readS s) part) (by rw [e1]; exact h) (by show ((0 + cs.length : Nat) : Int) ≤ s.most; omega)
      refine ⟨q1.trans e1, ?_⟩
      show (feed (lineS (readS s) part) [] (cs ++ [10])).1.hunt = _
      rw [q2]
      show s.hunt + 1 + (cs.length + 1) = _
      omega
    · rw [feed_go _ _ _ hc (by rw [h0]; omega)]
      obtain ⟨q1, q2⟩ := feed_whole cs (part ++ [c]) (readS s) h (by show _ ≤ s.most; rw [List.length_append]; simp only [List.length_cons, List.length_nil]; omega)
      refine ⟨q1, ?_⟩
      rw [q2]
      show s.hunt + 1 + (cs.length + 1) = _
      omega
theorem new_most (n : Nat) : (newSS (n : Int) 0).most = (n : Int) := by
  show (if (n : Int) < 0 then 0 else (n : Int)) = (n : Int)
  exact if_neg (by omega)
theorem step_whole (n : Nat) (b : List Int) (hb : b.length ≤ n) : (step (newSS (n : Int) 0) (b ++ [10])).1.st = newS ∧ (step (newSS (n : Int) 0) (b ++ [10])).1.hunt = b.length + 1 := by
  have h1 := new_most n
  have h2 : step (newSS (n : Int) 0) (b ++ [10]) = feed (newSS (n : Int) 0) [] (b ++ [10]) := if_neg (by show ¬ false = true; decide)
  rw [h2]
  obtain ⟨q1, q2⟩ := feed_whole b [] (newSS (n : Int) 0) rfl (by rw [h1]; simp only [List.length_nil]; omega)
  refine ⟨q1, ?_⟩
  rw [q2]
  show 0 + (b.length + 1) = _
  omega
/-- how many bytes are no newlines -/
def bareN : List Int → Nat
  | [] => 0
  | c :: cs => (if c = 10 then 0 else 1) + bareN cs
theorem bare_app : ∀ a b : List Int, bareN (a ++ b) = bareN a + bareN b
  | [], b => by simp [bareN]
  | c :: a, b => by rw [List.cons_append, bareN, bareN, bare_app a b]; omega
theorem bare_le : ∀ a : List Int, bareN a ≤ a.length
  | [] => Nat.le_refl _
  | c :: a => by have := bare_le a; rw [bareN, List.length_cons]; split <;> omega
/-- one byte at a time -/
structure Slow (s : SS) (i N n : Nat) : Prop where
  good : Good s.st N
  lo : N ≤ s.st.mv
  hunt : s.hunt = i
  over : s.over = false
  most : s.most = (n : Int)
  Ni : N ≤ i
theorem slow_new (n : Nat) : Slow (newSS (n : Int) 0) 0 0 n := ⟨good_new, Nat.le_refl _, rfl, rfl, new_most n, Nat.le_refl _⟩
theorem add_nil (st : St) : addS st [] = st := rfl
theorem slow_step {s : SS} {i N n : Nat} (h : Slow s i N n) (c : Int) (hi : i < n) : Slow (step s [c]).1 (i + 1) (N + (if c = 10 then 0 else 1)) n := by
  have h2 : step s [c] = feed s [] [c] := if_neg (by rw [h.over]; decide)
  rw [h2]
  have hN := h.Ni
  by_cases hc : c = 10
  · rw [feed_nl _ _ _ hc, if_pos hc, feed_nil]
    have e1 : (restS (lineS (readS s) []) []).st = (lineS (readS s) []).st := add_nil _
    have e2 : Good (lineS (readS s) []).st (N + 0) := good_line (s := readS s) h.good []
    have e3 : (lineS (readS s) []).st.mv = s.st.mv := by
      unfold lineS
      dsimp only
      split
      · rfl
      · show (addS (readS s).st []).mv = _
        rw [add_nil]
        rfl
    exact ⟨by rw [e1]; exact e2, by rw [e1, e3]; exact h.lo, by show s.hunt + 1 = _; rw [h.hunt], h.over, h.most, by omega⟩
  · have h3 := h.good.held
    have h5 := h.most
    rw [feed_go _ _ _ hc (by simp only [List.length_nil]; omega), if_neg hc, List.nil_append, feed_nil]
    refine ⟨good_add h.good [c], ?_, by show s.hunt + 1 = _; rw [h.hunt], h.over, h.most, by omega⟩
    show N + 1 ≤ (addS s.st [c]).mv
    have h4 := h.lo
    by_cases hf : s.st.held.length + [c].length ≤ s.st.room
    · have := (add_fit s.st [c] hf).2
      simp only [List.length_cons, List.length_nil] at this
      omega
    · have := (add_grow s.st [c] hf h.good.room).2
      simp only [List.length_cons, List.length_nil] at this
      omega
theorem slow_rest {s : SS} {i N n : Nat} (h : Slow s i N n) : (step s []).1 = s := by
  have h2 : step s [] = feed s [] [] := if_neg (by rw [h.over]; decide)
  rw [h2, feed_nil]
  show restS s [] = s
  unfold restS
  rw [add_nil]
theorem slow_bd {s : SS} {i N n : Nat} (h : Slow s i N n) (hn : n ≤ 1500) (hi : i ≤ n) (hr : s.st.room ≤ 10000) (hnum : s.num ≤ i) (hoff : s.off ≤ 10000 * i) : Bd s i := by
  have h1 := h.Ni
  have h2 := h.good.hi
  exact ⟨hr, h.good.room, by omega, hnum, hoff, by rw [h.hunt]; exact Nat.le_refl _⟩
end Go.Proofs.Ytgiaabgmnjaefaa.Str
