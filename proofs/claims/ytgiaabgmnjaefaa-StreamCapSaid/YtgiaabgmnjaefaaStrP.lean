/- What a stream tells, byte by byte: however its bytes are cut. -/
import Derived.Test.YtgiaabgmnjaefaaStrK
namespace Go.Proofs.Ytgiaabgmnjaefaa.Str
open Go Go.RowKit Go.Proofs Go.Proofs.Ytgiaabgmnjaefaa.Met Go.Proofs.Ytgiaabgmnjaefaa.Win Go.Proofs.YtgiaabgmnjaefaaW.PrintWords Go.Proofs.YtgiaabgmnjaefaaW.PrintMore
set_option linter.unusedVariables false
set_option linter.unusedSimpArgs false
/-- a stream as its bytes alone make it -/
structure Co where
  held : List Int
  num : Nat
  off : Nat
  hunt : Nat
  over : Bool
  bad : Int
def co1 (most : Int) (a : Co) (c : Int) : Co :=
  if a.over = true then a
  else if c = 10 then { a with held := [], num := a.num + 1, off := a.off + (a.held.length + 1), hunt := a.hunt + 1 }
  else if most ≤ (a.held.length : Int) then { a with hunt := a.hunt + 1, over := true, bad := 15 }
  else { a with held := a.held ++ [c], hunt := a.hunt + 1 }
def ln1 (a : Co) (c : Int) : List Ln := if a.over = true then [] else if c = 10 then [((a.num : Int), (a.off : Int), a.held)] else []
def coB (most : Int) : Co → List Int → Co
  | a, [] => a
  | a, c :: cs => coB most (co1 most a c) cs
def lnB (most : Int) : Co → List Int → List Ln
  | a, [] => []
  | a, c :: cs => ln1 a c ++ lnB most (co1 most a c) cs
def coE (a : Co) : Co := if a.over = true then a else if a.held.length = 0 then { a with over := true } else { a with held := [], num := a.num + 1, off := a.off + (a.held.length + 1), over := true }
def lnE (a : Co) : List Ln := if a.over = true then [] else if a.held.length = 0 then [] else [((a.num : Int), (a.off : Int), a.held)]
theorem coB_app (most : Int) : ∀ (x y : List Int) (a : Co), coB most a (x ++ y) = coB most (coB most a x) y
  | [], y, a => rfl
  | c :: x, y, a => coB_app most x y _
theorem lnB_app (most : Int) : ∀ (x y : List Int) (a : Co), lnB most a (x ++ y) = lnB most a x ++ lnB most (coB most a x) y
  | [], y, a => rfl
  | c :: x, y, a => by
    show ln1 a c ++ lnB most (co1 most a c) (x ++ y) = (ln1 a c ++ lnB most (co1 most a c) x) ++ _
    rw [lnB_app most x y, List.append_assoc]
    rfl
theorem coB_over (most : Int) : ∀ (x : List Int) (a : Co), a.over = true → coB most a x = a
  | [], a, h => rfl
  | c :: x, a, h => by
    show coB most (co1 most a c) x = a
    rw [show co1 most a c = a from if_pos h]
    exact coB_over most x a h
theorem lnB_over (most : Int) : ∀ (x : List Int) (a : Co), a.over = true → lnB most a x = []
  | [], a, h => rfl
  | c :: x, a, h => by
    show ln1 a c ++ lnB most (co1 most a c) x = []
    rw [show co1 most a c = a from if_pos h, show ln1 a c = [] from if_pos h]
    exact lnB_over most x a h
/-- a stream, and its bytes' own -/
structure Sim (s : SS) (part : List Int) (a : Co) : Prop where
  num : a.num = s.num
  off : a.off = s.off
  hunt : a.hunt = s.hunt
  over : a.over = s.over
  bad : a.bad = s.bad
  held : s.over = false → a.held = s.st.held ++ part
theorem feed_sim (most : Int) : ∀ (cs part : List Int) (s : SS) (a : Co), s.most = most → s.over = false → Sim s part a → Sim (feed s part cs).1 [] (coB most a cs) ∧ (feed s part cs).2 = lnB most a cs ∧ (feed s part cs).1.most = most
  | [], part, s, a, hm, ho, h => by
    rw [feed_nil]
    exact ⟨⟨h.num, h.off, h.hunt, h.over, h.bad, fun _ => by rw [List.append_nil]; exact (h.held ho).trans (add_held _ _).symm⟩, rfl, hm⟩
  | c :: cs, part, s, a, hm, ho, h => by
    have hao : ¬ a.over = true := by rw [h.over, ho]; decide
    have hh := h.held ho
    by_cases hc : c = 10
    · rw [feed_nl _ _ _ hc]
      have e1 : co1 most a c = { a with held := [], num := a.num + 1, off := a.off + (a.held.length + 1), hunt := a.hunt + 1 } := by unfold co1; rw [if_neg hao, if_pos hc]
      have e2 : ln1 a c = [lnOf s part] := by unfold ln1 lnOf; rw [if_neg hao, if_pos hc, h.num, h.off, hh]
      have hl : (lineS (readS s) part).st.held = [] := by
        unfold lineS
        dsimp only
        split
        · rename_i q; exact List.eq_nil_of_length_eq_zero q
        · rfl
      obtain ⟨q1, q2, q3⟩ := feed_sim most cs [] (lineS (readS s) part) (co1 most a c) hm ho (by
        rw [e1]
        refine ⟨?_, ?_, ?_, h.over, h.bad, fun _ => by rw [hl]; rfl⟩
        · show a.num + 1 = s.num + 1; rw [h.num]
        · show a.off + (a.held.length + 1) = s.off + ((s.st.held ++ part).length + 1); rw [h.off, hh]
        · show a.hunt + 1 = s.hunt + 1; rw [h.hunt])
      refine ⟨q1, ?_, q3⟩
      show lnOf s part :: (feed (lineS (readS s) part) [] cs).2 = ln1 a c ++ lnB most (co1 most a c) cs
      rw [q2, e2]
      rfl
    · by_cases hb : s.most ≤ (s.st.held.length : Int) + (part.length : Int)
      · rw [feed_bad _ _ _ hc hb]
        have e1 : co1 most a c = { a with hunt := a.hunt + 1, over := true, bad := 15 } := by
          unfold co1; rw [if_neg hao, if_neg hc, if_pos]; rw [hh, List.length_append, ← hm]; omega
        have e2 : ln1 a c = [] := by unfold ln1; rw [if_neg hao, if_neg hc]
        refine ⟨?_, ?_, hm⟩
        · show Sim (badS (readS s)) [] (coB most (co1 most a c) cs)
          rw [e1, coB_over _ _ _ rfl]
          exact ⟨h.num, h.off, by show a.hunt + 1 = s.hunt + 1; rw [h.hunt], rfl, rfl, fun e => by cases e⟩
        · show ([] : List Ln) = ln1 a c ++ lnB most (co1 most a c) cs
          rw [e1, lnB_over _ _ _ rfl, e2]
          rfl
      · rw [feed_go _ _ _ hc hb]
        have e1 : co1 most a c = { a with held := a.held ++ [c], hunt := a.hunt + 1 } := by
          unfold co1; rw [if_neg hao, if_neg hc, if_neg]; rw [hh, List.length_append, ← hm]; omega
        have e2 : ln1 a c = [] := by unfold ln1; rw [if_neg hao, if_neg hc]
        obtain ⟨q1, q2, q3⟩ := feed_sim most cs (part ++ [c]) (readS s) (co1 most a c) hm ho (by
          rw [e1]
          refine ⟨h.num, h.off, ?_, h.over, h.bad, fun _ => ?_⟩
          · show a.hunt + 1 = s.hunt + 1; rw [h.hunt]
          · show a.held ++ [c] = s.st.held ++ (part ++ [c]); rw [hh, List.append_assoc])
        refine ⟨q1, ?_, q3⟩
        show (feed (readS s) (part ++ [c]) cs).2 = ln1 a c ++ lnB most (co1 most a c) cs
        rw [q2, e2]
        rfl
theorem step_sim (most : Int) (s : SS) (a : Co) (c : List Int) (hm : s.most = most) (h : Sim s [] a) : Sim (step s c).1 [] (coB most a c) ∧ (step s c).2 = lnB most a c ∧ (step s c).1.most = most := by
  unfold step
  split
  · rename_i ho
    have hao : a.over = true := by rw [h.over, ho]
    rw [coB_over _ _ _ hao, lnB_over _ _ _ hao]
    exact ⟨h, rfl, hm⟩
  · rename_i ho
    exact feed_sim most c [] s a hm (by cases hq : s.over <;> simp_all) h
theorem runs_sim (most : Int) : ∀ (L : List (List Int)) (s : SS) (a : Co), s.most = most → Sim s [] a → Sim (runs s L).1 [] (coB most a L.flatten) ∧ (runs s L).2 = lnB most a L.flatten ∧ (runs s L).1.most = most
  | [], s, a, hm, h => ⟨h, rfl, hm⟩
  | c :: L, s, a, hm, h => by
    obtain ⟨q1, q2, q3⟩ := step_sim most s a c hm h
    obtain ⟨r1, r2, r3⟩ := runs_sim most L _ _ q3 q1
    rw [List.flatten_cons, coB_app, lnB_app]
    refine ⟨r1, ?_, r3⟩
    show (step s c).2 ++ (runs (step s c).1 L).2 = _
    rw [q2, r2]
theorem end_sim (s : SS) (a : Co) (h : Sim s [] a) : Sim (endS s).1 [] (coE a) ∧ (endS s).2 = lnE a := by
  unfold endS coE lnE
  by_cases ho : s.over = true
  · rw [if_pos ho, if_pos (h.over.trans ho), if_pos (h.over.trans ho)]
    exact ⟨h, rfl⟩
  · have hao : ¬ a.over = true := by rw [h.over]; exact ho
    have hh : a.held = s.st.held := by rw [h.held (by cases hq : s.over <;> simp_all), List.append_nil]
    rw [if_neg ho, if_neg hao, if_neg hao, hh]
    by_cases h0 : s.st.held.length = 0
    · rw [if_pos h0, if_pos h0, if_pos h0]
      exact ⟨⟨h.num, h.off, h.hunt, rfl, h.bad, fun e => by cases e⟩, rfl⟩
    · rw [if_neg h0, if_neg h0, if_neg h0]
      refine ⟨⟨?_, ?_, h.hunt, rfl, h.bad, fun e => by cases e⟩, ?_⟩
      · show a.num + 1 = s.num + 1; rw [h.num]
      · show a.off + (s.st.held.length + 1) = s.off + ((s.st.held ++ []).length + 1); rw [h.off, List.append_nil]
      · unfold lnOf
        rw [h.num, h.off, List.append_nil]
def newCo : Co := ⟨[], 0, 0, 0, false, 0⟩
theorem runF_sim (most : Int) (L : List (List Int)) (s : SS) (hm : s.most = most) (a : Co) (h : Sim s [] a) : Sim (runF s L).1 [] (coE (coB most a L.flatten)) ∧ (runF s L).2 = lnB most a L.flatten ++ lnE (coB most a L.flatten) := by
  obtain ⟨q1, q2, q3⟩ := runs_sim most L s a hm h
  obtain ⟨r1, r2⟩ := end_sim _ _ q1
  refine ⟨r1, ?_⟩
  show (runs s L).2 ++ (endS (runs s L).1).2 = _
  rw [q2, r2]
def mostN (most : Int) : Int := if most < 0 then 0 else most
theorem new_sim (most : Int) : Sim (newSS most 0) [] newCo := ⟨rfl, rfl, rfl, rfl, rfl, fun _ => rfl⟩
/-- however bytes are cut -/
theorem runF_new (most : Int) (L : List (List Int)) : Sim (runF (newSS most 0) L).1 [] (coE (coB (mostN most) newCo L.flatten)) ∧ (runF (newSS most 0) L).2 = lnB (mostN most) newCo L.flatten ++ lnE (coB (mostN most) newCo L.flatten) := runF_sim (mostN most) L _ rfl _ (new_sim most)
theorem coB_hunt (most : Int) : ∀ (x : List Int) (a : Co), (coB most a x).hunt ≤ a.hunt + x.length ∧ (a.bad = 0 → a.over = false → (coB most a x).bad = 0 → (coB most a x).hunt = a.hunt + x.length ∧ (coB most a x).over = false)
  | [], a => ⟨Nat.le_refl _, fun _ h _ => ⟨rfl, h⟩⟩
  | c :: x, a => by
    obtain ⟨q1, q2⟩ := coB_hunt most x (co1 most a c)
    have h1 : (co1 most a c).hunt ≤ a.hunt + 1 := by
      unfold co1
      split
      · omega
      · split
        · exact Nat.le_refl _
        · split <;> exact Nat.le_refl _
    show (coB most (co1 most a c) x).hunt ≤ _ ∧ (_ → _ → (coB most (co1 most a c) x).bad = 0 → (coB most (co1 most a c) x).hunt = _ ∧ (coB most (co1 most a c) x).over = false)
    rw [List.length_cons]
    refine ⟨by omega, fun hb ho hf => ?_⟩
    have hao : ¬ a.over = true := by rw [ho]; decide
    by_cases hc : c = 10
    · have e1 : co1 most a c = { a with held := [], num := a.num + 1, off := a.off + (a.held.length + 1), hunt := a.hunt + 1 } := by unfold co1; rw [if_neg hao, if_pos hc]
      rw [e1] at q2 hf ⊢
      obtain ⟨r1, r2⟩ := q2 hb ho hf
      exact ⟨by rw [r1]; show a.hunt + 1 + _ = _; omega, r2⟩
    · by_cases hm : most ≤ (a.held.length : Int)
      · have e1 : co1 most a c = { a with hunt := a.hunt + 1, over := true, bad := 15 } := by unfold co1; rw [if_neg hao, if_neg hc, if_pos hm]
        rw [e1, coB_over _ _ _ rfl] at hf
        cases hf
      · have e1 : co1 most a c = { a with held := a.held ++ [c], hunt := a.hunt + 1 } := by unfold co1; rw [if_neg hao, if_neg hc, if_neg hm]
        rw [e1] at q2 hf ⊢
        obtain ⟨r1, r2⟩ := q2 hb ho hf
        exact ⟨by rw [r1]; show a.hunt + 1 + _ = _; omega, r2⟩
theorem coE_hunt (a : Co) : (coE a).hunt = a.hunt ∧ (coE a).bad = a.bad := by
  unfold coE
  split
  · exact ⟨rfl, rfl⟩
  · split <;> exact ⟨rfl, rfl⟩
end Go.Proofs.Ytgiaabgmnjaefaa.Str
