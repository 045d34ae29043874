/- A window as what it holds, its room, and what was moved; the example. -/
import Derived.Test.YtgiaabgmnjaefaaWinE
import Derived.Test.YtgiaabgmnjaefaaWMore
import Derived.Deep.RegionHeld3
import Derived.Deep.QuietTactic
import Derived.BigQuiet
import Derived.RowKit3
import Derived.WideLaws
import Derived.Deep.DeepCutAuto
import Derived.Deep.CutBlock
import Derived.RowKit
import Derived.OwnWalk
import Derived.Laws.MakeOwn
import Derived.WalkSpells
import Derived.Lib.LazyBuf
import Derived.Laws.Slices
import Derived.OwnWalk
namespace Go.Proofs.Ytgiaabgmnjaefaa.Win
open Go Go.RowKit Go.Proofs Go.Proofs.Ytgiaabgmnjaefaa.Met Go.Proofs.YtgiaabgmnjaefaaW.PrintWords Go.Proofs.YtgiaabgmnjaefaaW.PrintMore
set_option linter.unusedVariables false
set_option linter.unusedSimpArgs false
attribute [local go_sem] max2_int min2_int max_two min_two max_three min_three
/-- what a window holds, its room, and how many bytes were moved -/
structure St where
  held : List Int
  room : Nat
  mv : Nat
def Win (w : World) (g : Nat) (M : Option Nat) (c : Int) (A : Option Addr) (st : St) : Prop := ∃ buf : List Int, WinAt w g M 0 0 c A buf st.held.length st.mv ∧ buf.length = st.room ∧ buf.take st.held.length = st.held
def addS (st : St) (l : List Int) : St :=
  if l.length = 0 then st else ⟨st.held ++ l, if st.held.length + l.length ≤ st.room then st.room else roomN st.room (st.held.length + l.length), st.mv + (if st.held.length + l.length ≤ st.room then l.length else st.held.length + l.length)⟩
def clearS (st : St) : St := ⟨[], st.room, st.mv⟩
def newS : St := ⟨[], 0, 0⟩
theorem Win.le {w : World} {g : Nat} {M : Option Nat} {c : Int} {A : Option Addr} {st : St} (h : Win w g M c A st) : st.held.length ≤ st.room := by
  obtain ⟨buf, h1, h2, _⟩ := h
  rw [← h2]; exact h1.le
theorem Win.lt {w : World} {g : Nat} {M : Option Nat} {c : Int} {A : Option Addr} {st : St} (h : Win w g M c A st) : g < w.heap.size := by
  obtain ⟨buf, h1, h2, _⟩ := h
  exact blk_lt h1.win
theorem Win.kept {w w' : World} {g : Nat} {M : Option Nat} {c : Int} {A : Option Addr} {st : St} {S : Nat → Prop} (h : Win w g M c A st) (hk : Kept w w' S) (hg : ¬ S g) (hM : ∀ k, M = some k → ¬ S k) (hA : ∀ ad, A = some ad → ¬ S ad.block) : Win w' g M c A st := by
  obtain ⟨buf, h1, h2, h3⟩ := h
  refine ⟨buf, ⟨blk_kept h1.win hk hg, h1.le, h1.no, fun hp => ?_, h1.ne, h1.met.kept hk hM⟩, h2, h3⟩
  obtain ⟨gb, q1, q2, q3, q4⟩ := h1.row hp
  exact ⟨gb, q1, blk_kept q2 hk (hA _ q1), q3, q4⟩
theorem Win.below {w w' : World} {g : Nat} {M : Option Nat} {c : Int} {A : Option Addr} {st : St} (h : Win w g M c A st) (hb : Below w.heap.size w w') : Win w' g M c A st :=
  h.kept (Kept.of_below hb (fun _ => False)) (fun h => h) (fun _ _ h => h) (fun _ _ h => h)
theorem win_new {w : World} {M : Option Nat} {c : Int} (hM : MAt w M 0 0 c 0) : Win (w.alloc (.cells #[.pointer (mp M), .slice none 0 0, .int .i64 0] 83)) w.heap.size M c none newS := by
  refine ⟨[], ⟨blk_new w _, Nat.le_refl _, fun _ => rfl, fun hp => absurd hp (by simp), fun e => ?_, hM.below (below_alloc (Below.refl _ _) _)⟩, rfl, rfl⟩
  have := blk_lt (hM _ e)
  omega
/-- where a row may lie: its old place, or a new one -/
def AOk (w : World) (A A' : Option Addr) : Prop := A' = A ∨ ∃ gb, A' = some ⟨gb, 0, none⟩ ∧ w.heap.size ≤ gb
theorem win_add {w : World} {g : Nat} {M : Option Nat} {c : Int} {A : Option Addr} {st : St} (h : Win w g M c A st) (Ab : Option Addr) (cb B : Nat) (l : List Int) (hB : B ≤ g) (hBM : ∀ k, M = some k → B ≤ k) (hBA : ∀ k, A = some k → B ≤ k.block)
    (hsrc : Kd.C (Kd.int .u8) w Ab l.length l) (hfar : 0 < l.length → ∀ ad, Ab = some ad → ad.block ≠ g ∧ M ≠ some ad.block) (hl : st.room ≤ 10000000000) (hN : l.length ≤ 10000000000) (hmv : st.mv ≤ 100000000000) :
    Calls Try.prog 30 #[.pointer (some ⟨g, 0, none⟩), .slice Ab l.length cb] w fun e w' => e = .returned (.tuple #[]) ∧ ∃ A', Win w' g M c A' (addS st l) ∧ AOk w A A' ∧ (∀ k, A' = some k → B ≤ k.block) ∧ Kept w w' (fun k => k = g ∨ M = some k ∨ ∃ ad, A = some ad ∧ ad.block = k) ∧ Below B w w' := by
  have hlt := h.lt
  by_cases h0 : l.length = 0
  · unfold addS
    rw [if_pos h0, h0]
    refine (add_zero g Ab cb w).mono ?_
    rintro e w' ⟨rfl, hb⟩
    exact ⟨rfl, A, h.below hb, Or.inl rfl, hBA, Kept.of_below hb _, hb.mono (by omega)⟩
  · obtain ⟨buf, h1, h2, h3⟩ := h
    refine (add_calls w g M 0 0 c A buf st.held.length st.mv B Ab cb l h1 hB hBM hBA hsrc (hfar (by omega)) (by omega) (by omega) hN hmv).mono ?_
    rintro e w' ⟨rfl, ⟨A', buf', q1, q2, q3, q4⟩, hk, hb⟩
    refine ⟨rfl, A', ?_, q4, ?_, hk, hb⟩
    · unfold addS
      rw [if_neg h0]
      refine ⟨buf', ?_, ?_, ?_⟩
      · show WinAt w' g M 0 0 c A' buf' (st.held ++ l).length _
        rw [List.length_append, ← h2]
        exact q1
      · show buf'.length = _
        rw [q3, h2]
      · show buf'.take (st.held ++ l).length = st.held ++ l
        rw [List.length_append, q2, h3]
    · intro k hk2
      rcases q4 with e | ⟨gb, e, hgb⟩
      · exact hBA k (by rw [← e]; exact hk2)
      · rw [e] at hk2
        cases hk2; show B ≤ gb; omega
theorem win_clear {w : World} {g : Nat} {M : Option Nat} {c : Int} {A : Option Addr} {st : St} (h : Win w g M c A st) (B : Nat) (hB : B ≤ g) :
    Calls Try.prog 36 #[.pointer (some ⟨g, 0, none⟩)] w fun e w' => e = .returned (.tuple #[]) ∧ Win w' g M c A (clearS st) ∧ Kept w w' (fun k => k = g) ∧ Below B w w' := by
  obtain ⟨buf, h1, h2, h3⟩ := h
  refine (clear_calls h1 B hB).mono ?_
  rintro e w' ⟨rfl, q1, hk, hb⟩
  exact ⟨rfl, ⟨buf, q1, h2, rfl⟩, hk, hb⟩
theorem win_bytes {w : World} {g : Nat} {M : Option Nat} {c : Int} {A : Option Addr} {st : St} (h : Win w g M c A st) (hl : st.room ≤ 100000000000) :
    Calls Try.prog 35 #[.pointer (some ⟨g, 0, none⟩)] w fun e w' => ∃ v0_ : Value, e = .returned v0_ ∧ Kd.R (Kd.int .u8) 5 w' w.heap.size (fun _ => True) v0_ st.held ∧ Below w.heap.size w w' := by
  obtain ⟨buf, h1, h2, h3⟩ := h
  rw [← h3]
  exact bytes_calls h1 (by omega)
theorem win_len {w : World} {g : Nat} {M : Option Nat} {c : Int} {A : Option Addr} {st : St} (h : Win w g M c A st) :
    Calls Try.prog 29 #[.pointer (some ⟨g, 0, none⟩)] w fun e w' => e = .returned (.int .i64 (st.held.length : Int)) ∧ Below w.heap.size w w' := by
  obtain ⟨buf, h1, h2, h3⟩ := h
  exact len_calls h1
theorem win_counts {w : World} {g gm : Nat} {c : Int} {A : Option Addr} {st : St} (h : Win w g (some gm) c A st) :
    Calls Try.prog 19 #[.pointer (some ⟨gm, 0, none⟩)] w fun e w' => e = .returned (.agg #[.int .i64 0, .int .i64 0, .int .i64 c, .int .i64 (st.mv : Int)]) ∧ Below w.heap.size w w' := by
  obtain ⟨buf, h1, h2, h3⟩ := h
  exact counts_some gm 0 0 c _ w (h1.met gm rfl)
theorem u8s_C (w : World) (g : Nat) (l : List Int) (h : w.heap[g]? = some (.cells (u8s l) 5 (0, 0))) (hm : l.length ≤ 9223372036854775807) : Kd.C (Kd.int .u8) w (some ⟨g, 0, none⟩) l.length l := by
  refine Kd.C_of_reads (d := (0 : Int)) (h1 := fun _ => rfl) ⟨rfl, hm, fun _ => ⟨_, rfl, fun j hj => ?_⟩⟩
  rw [Addr.add_mid, Nat.zero_add]
  refine (blk_cell h j).trans ?_
  rw [u8s_get, List.getD_eq_getElem?_getD, List.getElem?_eq_getElem hj]
  rfl
theorem add_held (st : St) (l : List Int) : (addS st l).held = st.held ++ l := by
  unfold addS
  split
  · rename_i h
    rw [List.length_eq_zero_iff.mp h, List.append_nil]
  · rfl
theorem add_fit (st : St) (l : List Int) (h : st.held.length + l.length ≤ st.room) : (addS st l).room = st.room ∧ (addS st l).mv = st.mv + l.length := by
  unfold addS
  split
  · rename_i h0
    exact ⟨rfl, by rw [h0, Nat.add_zero]⟩
  · constructor <;> simp [h]
theorem add_grow (st : St) (l : List Int) (h : ¬ st.held.length + l.length ≤ st.room) (h0 : st.held.length ≤ st.room) : (addS st l).room = roomN st.room (st.held.length + l.length) ∧ (addS st l).mv = st.mv + (st.held.length + l.length) := by
  unfold addS
  split
  · rename_i h1
    omega
  · constructor <;> simp [h]
theorem add_le (st : St) (l : List Int) (h0 : st.held.length ≤ st.room) : st.held.length + l.length ≤ (addS st l).room ∧ st.room ≤ (addS st l).room ∧ (addS st l).room ≤ 2 * st.room + st.held.length + l.length + 16 ∧ (addS st l).mv ≤ st.mv + st.held.length + l.length := by
  by_cases h : st.held.length + l.length ≤ st.room
  · obtain ⟨h1, h2⟩ := add_fit st l h
    rw [h1, h2]
    omega
  · obtain ⟨h1, h2⟩ := add_grow st l h h0
    rw [h1, h2]
    unfold roomN
    omega
theorem far_of {w : World} {A : Option Addr} {l : List Int} (h : Kd.C (Kd.int .u8) w A l.length l) (hp : 0 < l.length) : ∀ ad, A = some ad → ad.block < w.heap.size := by
  intro ad e
  obtain ⟨ad2, hA, hx⟩ := src_of h hp
  rw [e] at hA
  cases hA
  have := World.block_lt_of_cell? _ _ (hx 0 _ (List.getElem?_eq_getElem hp))
  have e2 : (ad.add 0).block = ad.block := by unfold Addr.add; split <;> rfl
  rwa [e2] at this
end Go.Proofs.Ytgiaabgmnjaefaa.Win
