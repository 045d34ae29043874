/- A window as what it holds, its room, and what was moved; the example. -/
import Derived.Test.YtgaoopcfjbcahaaWinE
import Derived.Test.YtgaoopcfjbcahaaWMore
import Derived.Deep.RegionHeld3
import Derived.Deep.QuietTactic
import Derived.BigQuiet
import Derived.RowKit3
import Derived.WideLaws
import Derived.Deep.DeepCutAuto
import Derived.Deep.CutBlock
import Derived.RowKit
import Derived.OwnWalk
import Derived.Laws.MakeOwn
import Derived.WalkSpells
import Derived.Lib.LazyBuf
import Derived.Laws.Slices
import Derived.OwnWalk
namespace Go.Proofs.Ytgaoopcfjbcahaa.Win
open Go Go.RowKit Go.Proofs Go.Proofs.YtgaoopcfjbcahaaW.PrintWords Go.Proofs.YtgaoopcfjbcahaaW.PrintMore
set_option linter.unusedVariables false
set_option linter.unusedSimpArgs false
attribute [local go_sem] max2_int min2_int max_two min_two max_three min_three
/-- what a window holds, its room, and how many bytes were moved -/
structure St where
  held : List Int
  room : Nat
  mv : Nat
def Win (w : World) (g : Nat) (M : Option Nat) (A : Option Addr) (st : St) : Prop := ∃ buf : List Int, WinAt w g M 0 0 0 A buf st.held.length st.mv ∧ buf.length = st.room ∧ buf.take st.held.length = st.held
def addS (st : St) (l : List Int) : St :=
  if l.length = 0 then st else ⟨st.held ++ l, if st.held.length + l.length ≤ st.room then st.room else roomN st.room (st.held.length + l.length), st.mv + (if st.held.length + l.length ≤ st.room then l.length else st.held.length + l.length)⟩
def clearS (st : St) : St := ⟨[], st.room, st.mv⟩
def newS : St := ⟨[], 0, 0⟩
theorem Win.le {w : World} {g : Nat} {M : Option Nat} {A : Option Addr} {st : St} (h : Win w g M A st) : st.held.length ≤ st.room := by
  obtain ⟨buf, h1, h2, _⟩ := h
  rw [← h2]; exact h1.le
theorem Win.lt {w : World} {g : Nat} {M : Option Nat} {A : Option Addr} {st : St} (h : Win w g M A st) : g < w.heap.size := by
  obtain ⟨buf, h1, h2, _⟩ := h
  exact blk_lt h1.win
theorem Win.kept {w w' : World} {g : Nat} {M : Option Nat} {A : Option Addr} {st : St} {S : Nat → Prop} (h : Win w g M A st) (hk : Kept w w' S) (hg : ¬ S g) (hM : ∀ k, M = some k → ¬ S k) (hA : ∀ ad, A = some ad → ¬ S ad.block) : Win w' g M A st := by
  obtain ⟨buf, h1, h2, h3⟩ := h
  refine ⟨buf, ⟨blk_kept h1.win hk hg, h1.le, h1.no, fun hp => ?_, h1.ne, h1.met.kept hk hM⟩, h2, h3⟩
  obtain ⟨gb, q1, q2, q3, q4⟩ := h1.row hp
  exact ⟨gb, q1, blk_kept q2 hk (hA _ q1), q3, q4⟩
theorem Win.below {w w' : World} {g : Nat} {M : Option Nat} {A : Option Addr} {st : St} (h : Win w g M A st) (hb : Below w.heap.size w w') : Win w' g M A st :=
  h.kept (Kept.of_below hb (fun _ => False)) (fun h => h) (fun _ _ h => h) (fun _ _ h => h)
theorem win_new {w : World} {M : Option Nat} (hM : MAt w M 0 0 0 0) : Win (w.alloc (.cells #[.pointer (mp M), .slice none 0 0, .int .i64 0] 48)) w.heap.size M none newS := by
  refine ⟨[], ⟨blk_new w _, Nat.le_refl _, fun _ => rfl, fun hp => absurd hp (by simp), fun e => ?_, hM.below (below_alloc (Below.refl _ _) _)⟩, rfl, rfl⟩
  have := blk_lt (hM _ e)
  omega
/-- where a row may lie: its old place, or a new one -/
def AOk (w : World) (A A' : Option Addr) : Prop := A' = A ∨ ∃ gb, A' = some ⟨gb, 0, none⟩ ∧ w.heap.size ≤ gb
theorem win_add {w : World} {g : Nat} {M : Option Nat} {A : Option Addr} {st : St} (h : Win w g M A st) (Ab : Option Addr) (cb B : Nat) (l : List Int) (hB : B ≤ g) (hBM : ∀ k, M = some k → B ≤ k) (hBA : ∀ k, A = some k → B ≤ k.block)
    (hsrc : Kd.C (Kd.int .u8) w Ab l.length l) (hfar : 0 < l.length → ∀ ad, Ab = some ad → ad.block ≠ g ∧ M ≠ some ad.block) (hl : st.room ≤ 10000000000) (hN : l.length ≤ 10000000000) (hmv : st.mv ≤ 100000000000) :
    Calls Try.prog 13 #[.pointer (some ⟨g, 0, none⟩), .slice Ab l.length cb] w fun e w' => e = .returned (.tuple #[]) ∧ ∃ A', Win w' g M A' (addS st l) ∧ AOk w A A' ∧ (∀ k, A' = some k → B ≤ k.block) ∧ Kept w w' (fun k => k = g ∨ M = some k ∨ ∃ ad, A = some ad ∧ ad.block = k) ∧ Below B w w' := by
  have hlt := h.lt
  by_cases h0 : l.length = 0
  · unfold addS
    rw [if_pos h0, h0]
    refine (add_zero g Ab cb w).mono ?_
    rintro e w' ⟨rfl, hb⟩
    exact ⟨rfl, A, h.below hb, Or.inl rfl, hBA, Kept.of_below hb _, hb.mono (by omega)⟩
  · obtain ⟨buf, h1, h2, h3⟩ := h
    refine (add_calls w g M 0 0 0 A buf st.held.length st.mv B Ab cb l h1 hB hBM hBA hsrc (hfar (by omega)) (by omega) (by omega) hN hmv).mono ?_
    rintro e w' ⟨rfl, ⟨A', buf', q1, q2, q3, q4⟩, hk, hb⟩
    refine ⟨rfl, A', ?_, q4, ?_, hk, hb⟩
    · unfold addS
      rw [if_neg h0]
      refine ⟨buf', ?_, ?_, ?_⟩
      · show WinAt w' g M 0 0 0 A' buf' (st.held ++ l).length _
        rw [List.length_append, ← h2]
        exact q1
      · show buf'.length = _
        rw [q3, h2]
      · show buf'.take (st.held ++ l).length = st.held ++ l
        rw [List.length_append, q2, h3]
    · intro k hk2
      rcases q4 with e | ⟨gb, e, hgb⟩
      · exact hBA k (by rw [← e]; exact hk2)
      · rw [e] at hk2
        cases hk2; show B ≤ gb; omega
theorem win_clear {w : World} {g : Nat} {M : Option Nat} {A : Option Addr} {st : St} (h : Win w g M A st) (B : Nat) (hB : B ≤ g) :
    Calls Try.prog 11 #[.pointer (some ⟨g, 0, none⟩)] w fun e w' => e = .returned (.tuple #[]) ∧ Win w' g M A (clearS st) ∧ Kept w w' (fun k => k = g) ∧ Below B w w' := by
  obtain ⟨buf, h1, h2, h3⟩ := h
  refine (clear_calls h1 B hB).mono ?_
  rintro e w' ⟨rfl, q1, hk, hb⟩
  exact ⟨rfl, ⟨buf, q1, h2, rfl⟩, hk, hb⟩
theorem win_bytes {w : World} {g : Nat} {M : Option Nat} {A : Option Addr} {st : St} (h : Win w g M A st) (hl : st.room ≤ 100000000000) :
    Calls Try.prog 15 #[.pointer (some ⟨g, 0, none⟩)] w fun e w' => ∃ v0_ : Value, e = .returned v0_ ∧ Kd.R (Kd.int .u8) 5 w' w.heap.size (fun _ => True) v0_ st.held ∧ Below w.heap.size w w' := by
  obtain ⟨buf, h1, h2, h3⟩ := h
  rw [← h3]
  exact bytes_calls h1 (by omega)
theorem win_len {w : World} {g : Nat} {M : Option Nat} {A : Option Addr} {st : St} (h : Win w g M A st) :
    Calls Try.prog 16 #[.pointer (some ⟨g, 0, none⟩)] w fun e w' => e = .returned (.int .i64 (st.held.length : Int)) ∧ Below w.heap.size w w' := by
  obtain ⟨buf, h1, h2, h3⟩ := h
  exact len_calls h1
theorem win_room {w : World} {g : Nat} {M : Option Nat} {A : Option Addr} {st : St} (h : Win w g M A st) :
    Calls Try.prog 17 #[.pointer (some ⟨g, 0, none⟩)] w fun e w' => e = .returned (.int .i64 (st.room : Int)) ∧ Below w.heap.size w w' := by
  obtain ⟨buf, h1, h2, h3⟩ := h
  rw [← h2]
  exact room_calls h1
theorem win_counts {w : World} {g gm : Nat} {A : Option Addr} {st : St} (h : Win w g (some gm) A st) :
    Calls Try.prog 18 #[.pointer (some ⟨gm, 0, none⟩)] w fun e w' => e = .returned (.agg #[.int .i64 0, .int .i64 0, .int .i64 0, .int .i64 (st.mv : Int)]) ∧ Below w.heap.size w w' := by
  obtain ⟨buf, h1, h2, h3⟩ := h
  exact counts_calls gm 0 0 0 _ w (h1.met gm rfl)
theorem u8s_C (w : World) (g : Nat) (l : List Int) (h : w.heap[g]? = some (.cells (u8s l) 5 (0, 0))) (hm : l.length ≤ 9223372036854775807) : Kd.C (Kd.int .u8) w (some ⟨g, 0, none⟩) l.length l := by
  refine Kd.C_of_reads (d := (0 : Int)) (h1 := fun _ => rfl) ⟨rfl, hm, fun _ => ⟨_, rfl, fun j hj => ?_⟩⟩
  rw [Addr.add_mid, Nat.zero_add]
  refine (blk_cell h j).trans ?_
  rw [u8s_get, List.getD_eq_getElem?_getD, List.getElem?_eq_getElem hj]
  rfl
theorem add_held (st : St) (l : List Int) : (addS st l).held = st.held ++ l := by
  unfold addS
  split
  · rename_i h
    rw [List.length_eq_zero_iff.mp h, List.append_nil]
  · rfl
theorem add_fit (st : St) (l : List Int) (h : st.held.length + l.length ≤ st.room) : (addS st l).room = st.room ∧ (addS st l).mv = st.mv + l.length := by
  unfold addS
  split
  · rename_i h0
    exact ⟨rfl, by rw [h0, Nat.add_zero]⟩
  · constructor <;> simp [h]
theorem add_grow (st : St) (l : List Int) (h : ¬ st.held.length + l.length ≤ st.room) (h0 : st.held.length ≤ st.room) : (addS st l).room = roomN st.room (st.held.length + l.length) ∧ (addS st l).mv = st.mv + (st.held.length + l.length) := by
  unfold addS
  split
  · rename_i h1
    omega
  · constructor <;> simp [h]
theorem add_le (st : St) (l : List Int) (h0 : st.held.length ≤ st.room) : st.held.length + l.length ≤ (addS st l).room ∧ st.room ≤ (addS st l).room ∧ (addS st l).room ≤ 2 * st.room + st.held.length + l.length + 16 ∧ (addS st l).mv ≤ st.mv + st.held.length + l.length := by
  by_cases h : st.held.length + l.length ≤ st.room
  · obtain ⟨h1, h2⟩ := add_fit st l h
    rw [h1, h2]
    omega
  · obtain ⟨h1, h2⟩ := add_grow st l h h0
    rw [h1, h2]
    unfold roomN
    omega
theorem far_of {w : World} {A : Option Addr} {l : List Int} (h : Kd.C (Kd.int .u8) w A l.length l) (hp : 0 < l.length) : ∀ ad, A = some ad → ad.block < w.heap.size := by
  intro ad e
  obtain ⟨ad2, hA, hx⟩ := src_of h hp
  rw [e] at hA
  cases hA
  have := World.block_lt_of_cell? _ _ (hx 0 _ (List.getElem?_eq_getElem hp))
  have e2 : (ad.add 0).block = ad.block := by unfold Addr.add; split <;> rfl
  rwa [e2] at this
theorem field40 (a b c d : Int) (W : World) : (Instr.field 40 (.agg #[.int .i64 a, .int .i64 b, .int .i64 c, .int .i64 d]) 3).run Try.prog W = .ok (.int .i64 d) W := by
  simp [Instr.field, Sem.run_bind, run_underlying (P := Try.prog) Try.underlying40, run_underlying (P := Try.prog) Try.underlying3, part, isAgg, asAgg]
set_option maxHeartbeats 8000000 in
set_option maxRecDepth 100000 in
theorem awake_calls (w : World) :
    Calls Try.prog 7 #[] w fun e w' => e = .returned (.bool true) ∧ Below w.heap.size w w' := by
  have hu40 := Try.underlying40
  have hfd := field40
  obtain ⟨z10, h10⟩ : ∃ z, z = List.replicate 10 (0 : Int) := ⟨_, rfl⟩
  obtain ⟨z7, h7⟩ : ∃ z, z = List.replicate 7 (0 : Int) := ⟨_, rfl⟩
  have hl10 : z10.length = 10 := by rw [h10]; rfl
  have hl7 : z7.length = 7 := by rw [h7]; rfl
  have e1 : (addS newS z10).room = 16 := by rw [h10]; decide
  have e2 : (addS (addS newS z10) z7).room = 32 := by rw [h10, h7]; decide
  have e3 : (addS (addS newS z10) z7).held.length = 17 := by rw [h10, h7]; decide
  have e4 : (addS (addS newS z10) z7).mv = 27 := by rw [h10, h7]; decide
  have e5 : (addS newS z10).mv = 10 := by rw [h10]; decide
  have hm10 : ∀ W : World, (Instr.makeSlice 31 (.int .i64 10) (.int .i64 10)).run Try.prog W = .ok (.slice (some ⟨W.heap.size, 0, none⟩) 10 10) (W.alloc (.cells (u8s z10) 5)) := fun W => by rw [h10]; exact make_u8 W 10 (by decide)
  have hm7 : ∀ W : World, (Instr.makeSlice 31 (.int .i64 7) (.int .i64 7)).run Try.prog W = .ok (.slice (some ⟨W.heap.size, 0, none⟩) 7 7) (W.alloc (.cells (u8s z7) 5)) := fun W => by rw [h7]; exact make_u8 W 7 (by decide)
  clear h10 h7
  go_enter Try.func7, Try.ntmps7
  go_wp2_with fail
  refine (meter_new _).mono ?_
  rintro e w1 ⟨rfl, rfl⟩
  go_wp2_with fail
  refine (window_new (some w.heap.size) _).mono ?_
  rintro e w2 ⟨rfl, rfl⟩
  have HM := Aside0.mk (show MAt (w.alloc (.cells #[.int .i64 0, .int .i64 0, .int .i64 0, .int .i64 0] 46)) (some w.heap.size) 0 0 0 0 from fun g hg => by cases hg; exact blk_new w _)
  have HW := Aside0.mk (win_new HM.out)
  have HB := Aside0.mk (below_alloc (below_alloc (Below.refl w.heap.size w) (.cells #[.int .i64 0, .int .i64 0, .int .i64 0, .int .i64 0] 46)) (.cells #[.pointer (mp (some w.heap.size)), .slice none 0 0, .int .i64 0] 48))
  rw [World.size_alloc] at HW
  generalize hw2 : (w.alloc (.cells #[.int .i64 0, .int .i64 0, .int .i64 0, .int .i64 0] 46)).alloc (.cells #[.pointer (mp (some w.heap.size)), .slice none 0 0, .int .i64 0] 48) = w2 at HW HB ⊢
  clear hw2 HM
  go_wp2_with fail
  have HS1 := Aside0.mk (u8s_C _ _ _ (blk_new w2 (.cells (u8s z10) 5)) (by omega))
  have HW1 := Aside0.mk (HW.out.below (below_alloc (Below.refl _ _) (.cells (u8s z10) 5)))
  have hlt := HW.out.lt
  have HADD := win_add HW1.out (some ⟨w2.heap.size, 0, none⟩) 10 w.heap.size z10 (by omega) (fun k hk => by cases hk; exact Nat.le_refl _) (fun k hk => by cases hk) HS1.out (fun _ ad e => by cases e; exact ⟨by show w2.heap.size ≠ _; omega, by intro e; injection e with e; show False; have : w.heap.size = w2.heap.size := e; omega⟩) (by decide) (by omega) (by decide)
  rw [hl10] at HADD
  refine HADD.mono ?_
  rintro e w3 ⟨rfl, A1, hw3, ha1, hb1, hk1, hB1⟩
  have HB3 := Aside0.mk (Below.trans (below_alloc HB.out (.cells (u8s z10) 5)) hB1)
  have HW3 := Aside0.mk hw3
  have HBA := Aside0.mk hb1
  have HWL := Aside0.mk hlt
  clear hw3 ha1 hb1 hk1 hB1 HW1 HS1 HW hlt
  go_wp2_with fail
  refine (win_room HW3.out).mono ?_
  rintro e w4 ⟨rfl, hb4⟩
  have HW4 := Aside0.mk (HW3.out.below hb4)
  have HB4 := Aside0.mk (below_step HB3.out hb4)
  clear hb4
  go_wp2_with fail
  have HS5 := Aside0.mk (u8s_C _ _ _ (blk_new w4 (.cells (u8s z7) 5)) (by omega))
  have HW5 := Aside0.mk (HW4.out.below (below_alloc (Below.refl _ _) (.cells (u8s z7) 5)))
  have hlt := HW4.out.lt
  have HADD := win_add HW5.out (some ⟨w4.heap.size, 0, none⟩) 7 w.heap.size z7 (by omega) (fun k hk => by cases hk; exact Nat.le_refl _) HBA.out HS5.out (fun _ ad e => by cases e; exact ⟨by show w4.heap.size ≠ _; omega, by intro e; injection e with e; show False; have : w.heap.size = w4.heap.size := e; omega⟩) (by rw [e1]; decide) (by omega) (by rw [e5]; decide)
  rw [hl7] at HADD
  refine HADD.mono ?_
  rintro e w6 ⟨rfl, A2, hw6, ha2, hb2, hk2, hB2⟩
  have HB6 := Aside0.mk (Below.trans (below_alloc HB4.out (.cells (u8s z7) 5)) hB2)
  have HW6 := Aside0.mk hw6
  clear hw6 ha2 hb2 hk2 hB2 HW5 HS5 HW4 HW3 hlt HBA
  try rw [e1]
  generalize addS (addS newS z10) z7 = st at HW6 e2 e3 e4
  have HE := Aside0.mk (show st.room = 32 ∧ st.held.length = 17 ∧ st.mv = 27 from ⟨e2, e3, e4⟩)
  clear e1 e2 e3 e4 e5
  go_wp2_with fail
  refine (win_room HW6.out).mono ?_
  rintro e w7 ⟨rfl, hb7⟩
  have HW7 := Aside0.mk (HW6.out.below hb7)
  have HB7 := Aside0.mk (below_step HB6.out hb7)
  try rw [HE.out.1]
  clear hb7 HW6 HB6
  go_wp2_with fail
  refine (win_len HW7.out).mono ?_
  rintro e w8 ⟨rfl, hb8⟩
  have HW8 := Aside0.mk (HW7.out.below hb8)
  have HB8 := Aside0.mk (below_step HB7.out hb8)
  try rw [HE.out.2.1]
  clear hb8 HW7 HB7
  go_wp2_with fail
  refine (win_bytes HW8.out (by rw [HE.out.1]; decide)).mono ?_
  rintro e w9 ⟨v, rfl, hr, hb9⟩
  obtain ⟨A, c, hv⟩ := Kd.R_slice hr
  subst hv
  have HW9 := Aside0.mk (HW8.out.below hb9)
  have HB9 := Aside0.mk (below_step HB8.out hb9)
  try rw [HE.out.2.1]
  clear hb9 HW8 HB8 hr
  go_wp2_with fail
  refine (win_counts HW9.out).mono ?_
  rintro e w10 ⟨rfl, hb10⟩
  have HB10 := Aside0.mk (below_step HB9.out hb10)
  try rw [HE.out.2.2]
  clear hb10
  go_wp2
  go_ret
  exact ⟨rfl, HB10.out⟩
end Go.Proofs.Ytgaoopcfjbcahaa.Win
