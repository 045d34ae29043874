/- Where lines stand: plain. -/
import Derived.Test.YtgiaabgmnjaefaaStrP
namespace Go.Proofs.Ytgiaabgmnjaefaa.Str
open Go Go.RowKit Go.Proofs Go.Proofs.Ytgiaabgmnjaefaa.Met Go.Proofs.Ytgiaabgmnjaefaa.Win Go.Proofs.YtgiaabgmnjaefaaW.PrintWords Go.Proofs.YtgiaabgmnjaefaaW.PrintMore
set_option linter.unusedVariables false
set_option linter.unusedSimpArgs false
/-- lines that stand in all bytes where they are told to begin -/
def Told (b : List Int) (most : Int) : Nat → Nat → List Ln → Prop
  | i, at_, [] => True
  | i, at_, x :: X => x.1 = (i : Int) ∧ x.2.1 = (at_ : Int) ∧ (x.2.2.length : Int) ≤ most ∧ at_ + x.2.2.length ≤ b.length ∧ (b.drop at_).take x.2.2.length = x.2.2 ∧ (∀ h : at_ + x.2.2.length < b.length, b[at_ + x.2.2.length] = 10) ∧ Told b most (i + 1) (at_ + x.2.2.length + 1) X
def endAt : Nat → List Ln → Nat
  | at_, [] => at_
  | at_, x :: X => endAt (at_ + x.2.2.length + 1) X
theorem told_all (b : List Int) (most : Int) (h0 : 0 ≤ most) : ∀ (cs pre : List Int) (a : Co), b = pre ++ cs → a.over = false → a.off ≤ pre.length → a.held = pre.drop a.off → (a.held.length : Int) ≤ most →
    Told b most a.num a.off (lnB most a cs ++ lnE (coB most a cs)) ∧ ((coB most a cs).bad = 0 → b.length ≤ endAt a.off (lnB most a cs ++ lnE (coB most a cs)))
  | [], pre, a, hb, ho, hof, hh, hm => by
    rw [List.append_nil] at hb
    have hl : a.held.length = b.length - a.off := by rw [hh, List.length_drop, hb]
    have hao : ¬ a.over = true := by rw [ho]; decide
    show Told b most a.num a.off ([] ++ lnE a) ∧ (a.bad = 0 → b.length ≤ endAt a.off ([] ++ lnE a))
    rw [List.nil_append]
    unfold lnE
    rw [if_neg hao]
    by_cases hz : a.held.length = 0
    · rw [if_pos hz]
      exact ⟨trivial, fun _ => by show b.length ≤ a.off; omega⟩
    · rw [if_neg hz]
      have hbl : b.length = pre.length := by rw [hb]
      refine ⟨⟨rfl, rfl, hm, by show a.off + a.held.length ≤ _; omega, ?_, fun h => ?_, trivial⟩, fun _ => by show b.length ≤ a.off + a.held.length + 1; omega⟩
      · show (b.drop a.off).take a.held.length = a.held
        rw [hb, ← hh, List.take_length]
      · exfalso
        have h2 : a.off + a.held.length < b.length := h
        omega
  | c :: cs, pre, a, hb, ho, hof, hh, hm => by
    have hao : ¬ a.over = true := by rw [ho]; decide
    have hl : a.held.length = pre.length - a.off := by rw [hh, List.length_drop]
    have hbl : b.length = pre.length + (cs.length + 1) := by rw [hb, List.length_append, List.length_cons]
    have hb2 : b = (pre ++ [c]) ++ cs := by rw [hb]; simp
    by_cases hc : c = 10
    · have e1 : co1 most a c = { a with held := [], num := a.num + 1, off := a.off + (a.held.length + 1), hunt := a.hunt + 1 } := by unfold co1; rw [if_neg hao, if_pos hc]
      have e2 : ln1 a c = [((a.num : Int), (a.off : Int), a.held)] := by unfold ln1; rw [if_neg hao, if_pos hc]
      have hoff : (co1 most a c).off = pre.length + 1 := by rw [e1]; show a.off + (a.held.length + 1) = _; omega
      obtain ⟨q1, q2⟩ := told_all b most h0 cs (pre ++ [c]) (co1 most a c) hb2 (by rw [e1]; exact ho) (by rw [hoff]; simp) (by
        rw [hoff, e1]
        show [] = _
        rw [List.drop_eq_nil_iff.2]
        simp) (by rw [e1]; exact h0)
      show Told b most a.num a.off ((ln1 a c ++ lnB most (co1 most a c) cs) ++ lnE (coB most (co1 most a c) cs)) ∧ ((coB most (co1 most a c) cs).bad = 0 → b.length ≤ endAt a.off ((ln1 a c ++ lnB most (co1 most a c) cs) ++ lnE (coB most (co1 most a c) cs)))
      rw [e2, List.append_assoc]
      generalize lnB most (co1 most a c) cs ++ lnE (coB most (co1 most a c) cs) = X at q1 q2 ⊢
      have hoff2 : (co1 most a c).off = a.off + a.held.length + 1 := by rw [hoff]; omega
      have hnum : (co1 most a c).num = a.num + 1 := by rw [e1]
      rw [hoff2, hnum] at q1
      rw [hoff2] at q2
      refine ⟨⟨rfl, rfl, hm, by show a.off + a.held.length ≤ _; omega, ?_, fun h => ?_, q1⟩, q2⟩
      · show (b.drop a.off).take a.held.length = a.held
        rw [hb, List.drop_append_of_le_length hof, ← hh, List.take_append_of_le_length (Nat.le_refl _), List.take_length]
      · show b[a.off + a.held.length] = 10
        have hp : a.off + a.held.length = pre.length := by omega
        have := List.getElem?_eq_getElem h
        have h3 : b[pre.length]? = some c := by rw [hb, List.getElem?_append_right (Nat.le_refl _)]; simp
        have h4 : b[a.off + a.held.length]? = some c := by rw [hp]; exact h3
        rw [List.getElem?_eq_getElem (show a.off + a.held.length < b.length from h)] at h4
        rw [Option.some.inj h4, hc]
    · by_cases hmo : most ≤ (a.held.length : Int)
      · have e1 : co1 most a c = { a with hunt := a.hunt + 1, over := true, bad := 15 } := by unfold co1; rw [if_neg hao, if_neg hc, if_pos hmo]
        have e2 : ln1 a c = [] := by unfold ln1; rw [if_neg hao, if_neg hc]
        show Told b most a.num a.off ((ln1 a c ++ lnB most (co1 most a c) cs) ++ lnE (coB most (co1 most a c) cs)) ∧ ((coB most (co1 most a c) cs).bad = 0 → b.length ≤ endAt a.off ((ln1 a c ++ lnB most (co1 most a c) cs) ++ lnE (coB most (co1 most a c) cs)))
        rw [e1, coB_over _ _ _ rfl, lnB_over _ _ _ rfl, e2]
        exact ⟨trivial, fun h => by cases h⟩
      · have e1 : co1 most a c = { a with held := a.held ++ [c], hunt := a.hunt + 1 } := by unfold co1; rw [if_neg hao, if_neg hc, if_neg hmo]
        have e2 : ln1 a c = [] := by unfold ln1; rw [if_neg hao, if_neg hc]
        have hoff : (co1 most a c).off = a.off := by rw [e1]
        have hnum : (co1 most a c).num = a.num := by rw [e1]
        have hheld : (co1 most a c).held = a.held ++ [c] := by rw [e1]
        obtain ⟨q1, q2⟩ := told_all b most h0 cs (pre ++ [c]) (co1 most a c) hb2 (by rw [e1]; exact ho) (by rw [hoff, List.length_append]; omega) (by
          rw [hoff, hheld, List.drop_append_of_le_length hof, hh]) (by rw [hheld, List.length_append]; simp only [List.length_cons, List.length_nil]; omega)
        show Told b most a.num a.off ((ln1 a c ++ lnB most (co1 most a c) cs) ++ lnE (coB most (co1 most a c) cs)) ∧ ((coB most (co1 most a c) cs).bad = 0 → b.length ≤ endAt a.off ((ln1 a c ++ lnB most (co1 most a c) cs) ++ lnE (coB most (co1 most a c) cs)))
        rw [e2, List.nil_append]
        rw [hoff, hnum] at q1
        rw [hoff] at q2
        exact ⟨q1, q2⟩
theorem told_new (b : List Int) (most : Int) (h0 : 0 ≤ most) : Told b most 0 0 (lnB most newCo b ++ lnE (coB most newCo b)) ∧ ((coB most newCo b).bad = 0 → b.length ≤ endAt 0 (lnB most newCo b ++ lnE (coB most newCo b))) :=
  told_all b most h0 b [] newCo rfl rfl (Nat.le_refl _) rfl h0
theorem told_drop (b : List Int) (most : Int) : ∀ (X : List Ln) (i at_ : Nat) (x : Ln) (Y : List Ln), Told b most i at_ X → X = x :: Y → Told b most (i + 1) (at_ + x.2.2.length + 1) Y ∧ endAt at_ X = endAt (at_ + x.2.2.length + 1) Y
  | _, i, at_, x, Y, h, rfl => ⟨h.2.2.2.2.2.2, rfl⟩
end Go.Proofs.Ytgiaabgmnjaefaa.Str
