/- lines.All and lines.Split of any seat: turned from what was laid for another seat. No condition. -/
import Derived.Test.YtkpfnhkfecpefaaProg
import Derived.Below
import Derived.Deep.Draws
import Derived.Deep.AppendLies
import Derived.Maps.AppendAt
import Derived.OwnWalk
import Derived.Laws.BytesArg
import Derived.Laws.MakeOwn
import Derived.Laws.OwnMore
import Derived.Deep.OwnRows
import Derived.Tactics
import Derived.Lib.ConvBytes
import Derived.Laws.Slices
import Derived.WalkKit
import Derived.KernelRfl
import Derived.RowKit3
import Derived.Deep.LoopGhost
import Derived.Deep.QuietTactic
import Derived.BigQuiet
import Derived.WideLaws
import Derived.Deep.DeepCutAuto
import Derived.Deep.CutBlock
import Derived.Deep.RegionHeld3
import Derived.Laws.Rows
import Derived.Lib.AppendStr
import Derived.ArgAppend
import Derived.Laws.IdiomCopy
import Derived.OrdersHeld
import Derived.Laws.BitsLemmas
import Derived.RowKit
import Derived.Lib.SlBytesConst
import Derived.Lib.SmallJoins
import Derived.RangeFuncBox
import Derived.WalkSpells
import Derived.Test.YtkpfnhkfecpefaaSeq
import Derived.Test.YtkpfnhkfecpefaaWWords
import Derived.Test.YtkpfnhkfecpefaaWLast
import Derived.Test.YtkpfnhkfecpefaaWTab
import Derived.Test.YtkpfnhkfecpefaaWFour
import Derived.Test.YtkpfnhkfecpefaaWQPut
import Derived.Test.YtkpfnhkfecpefaaWApart
import Derived.Test.YtkpfnhkfecpefaaWArr
import Derived.Test.YtkpfnhkfecpefaaWZeros
import Derived.Test.YtkpfnhkfecpefaaWFoot
import Derived.Test.YtkpfnhkfecpefaaWKept
import Derived.Test.YtkpfnhkfecpefaaWShare
import Derived.Test.YtkpfnhkfecpefaaWN
import Derived.Test.YtkpfnhkfecpefaaWFootNe
import Derived.Test.YtkpfnhkfecpefaaWAt
import Derived.Test.YtkpfnhkfecpefaaWEqStruct
import Derived.Test.YtkpfnhkfecpefaaWRepsOne
import Derived.Test.YtkpfnhkfecpefaaWInv
import Derived.Test.YtkpfnhkfecpefaaWInvWords
import Derived.Test.YtkpfnhkfecpefaaWGuard
import Derived.Test.YtkpfnhkfecpefaaWNEv
import Derived.Test.YtkpfnhkfecpefaaWMore
namespace Go.Proofs.Ytkpfnhkfecpefaa.Lin
open Go Go.RowKit Go.Proofs Go.Proofs.YtkpfnhkfecpefaaW.PrintWords Go.Proofs.YtkpfnhkfecpefaaW.PrintLast Go.Proofs.YtkpfnhkfecpefaaW.PrintMore
attribute [local go_sem] max2_int min2_int max_two min_two max_three min_three max_four min_four
set_option linter.unusedVariables false
set_option linter.unusedSimpArgs false
theorem infoB : (Try.prog.info? 5).map (fun i => (i.zero, i.size, i.bytes)) = some (some (.int .u8 0), 1, 1) := by kernel_rfl
theorem infoLX : (Try.prog.info? 55).map (fun i => (i.zero, i.size, i.bytes)) = some (some (.agg #[(.int .i64 0), (.slice none 0 0), (.bool false)]), 3, 40) := by kernel_rfl
structure SLX where
  f0 : Int
  f1 : (List Int)
  f2 : Bool
def zLX : SLX := ⟨(0 : Int), ([] : List Int), false⟩
def kLX : Kd SLX := Kd.iso (Kd.pair (Kd.int .i64) (Kd.pair (Kd.slice 5 (Kd.int .u8)) Kd.bool)) (fun x : SLX => (x.f0, x.f1, x.f2))
theorem kLX_open {w : World} {x : SLX} {cs : List Value} (h : kLX.K w x cs) : ∃ A1 c1, cs = [.int .i64 x.f0, .slice A1 x.f1.length c1, .bool x.f2] ∧ x.f1.length ≤ c1 ∧ (Kd.int .u8).C w A1 x.f1.length x.f1 := by
  obtain ⟨_, _, rfl, rfl, ⟨_, _, rfl, ⟨A1, c1, rfl, l1, g1⟩, rfl⟩⟩ := h
  exact ⟨A1, c1, rfl, l1, g1⟩
theorem kLX_openM {w : World} {base : Nat} {ok : Nat → Prop} {x : SLX} {cs : List Value} (h : kLX.M w base ok x cs) : ∃ v1, cs = [.int .i64 x.f0, v1, .bool x.f2] ∧ (Kd.int .u8).R 5 w base ok v1 x.f1 := by
  obtain ⟨_, _, rfl, rfl, ⟨_, _, rfl, ⟨v1, rfl, g1⟩, rfl⟩⟩ := h
  exact ⟨v1, rfl, g1⟩
theorem kLX_mk (w : World) (x : SLX) {A1 : Option Addr} {c1 : Nat} (l1 : x.f1.length ≤ c1) (g1 : (Kd.int .u8).C w A1 x.f1.length x.f1) : kLX.K w x [.int .i64 x.f0, .slice A1 x.f1.length c1, .bool x.f2] := ⟨[.int .i64 x.f0], [.slice A1 x.f1.length c1, .bool x.f2], rfl, rfl, ⟨[.slice A1 x.f1.length c1], [.bool x.f2], rfl, ⟨A1, c1, rfl, l1, g1⟩, rfl⟩⟩
theorem kLX_mkM (w : World) (base : Nat) (ok : Nat → Prop) (x : SLX) {v1 : Value} (g1 : (Kd.int .u8).R 5 w base ok v1 x.f1) : kLX.M w base ok x [.int .i64 x.f0, v1, .bool x.f2] := ⟨[.int .i64 x.f0], [v1, .bool x.f2], rfl, rfl, ⟨[v1], [.bool x.f2], rfl, ⟨v1, rfl, g1⟩, rfl⟩⟩
def rd_TLX (xs : List SLX) (i : Int) : SLX := xs.getD i.toNat zLX
theorem at_TLX {w : World} {A : Option Addr} {n : Nat} {xs : List SLX} (h : Kd.C kLX w A n xs) (i : Int) (h0 : 0 ≤ i) (h1 : i < n) : ∃ ad A1 c1, A = some ad ∧ w.cell? (ad.add (i.toNat * 3)) = some (.int .i64 (rd_TLX xs i).f0) ∧ w.cell? ⟨(ad.add (i.toNat * 3)).block, (ad.add (i.toNat * 3)).off + 1, none⟩ = some (.slice A1 (rd_TLX xs i).f1.length c1) ∧ w.cell? ⟨(ad.add (i.toNat * 3)).block, (ad.add (i.toNat * 3)).off + 2, none⟩ = some (.bool (rd_TLX xs i).f2) ∧ (rd_TLX xs i).f1.length ≤ c1 ∧ (Kd.int .u8).C w A1 (rd_TLX xs i).f1.length (rd_TLX xs i).f1 := by
  obtain ⟨ad, c, e, _, hK, hc0⟩ := Kd.C_get h zLX i h0 h1
  have hc : ∀ j u, c[j]? = some u → w.cell? (ad.add (i.toNat * 3 + j)) = some u := hc0
  obtain ⟨A1, c1, rfl, l1, g1⟩ := kLX_open hK
  exact ⟨ad, A1, c1, e, hc 0 _ rfl, by rw [← add_field _ _ 1 (by omega)]; exact hc 1 _ rfl, by rw [← add_field _ _ 2 (by omega)]; exact hc 2 _ rfl, l1, g1⟩

def slices_Index_byte_byte.l0 : Nat → List Int → Int → Int → Int → Option (Int)
  | 0, _, _, _, _ => none
  | k + 1, x0, x1, x7, x8 => if x8 < x7 then (if 0 ≤ x8 then (if x8 < (x0.length : Int) then (if x1 = (rd x0 x8) then (some x8) else (slices_Index_byte_byte.l0 k x0 x1 x7 (wrap64 (x8 + 1)))) else (none)) else (none)) else (some (-1))
def slices_Index_byte_byte.f (k : Nat) (l0 : List Int) (a1 : Int) : Option (Int) := slices_Index_byte_byte.l0 k l0 a1 (l0.length : Int) 0
theorem slices_Index_byte_byte.mono_l : ∀ k, (∀ y0 y1 y2 y3, LeO (slices_Index_byte_byte.l0 k y0 y1 y2 y3) (slices_Index_byte_byte.l0 (k + 1) y0 y1 y2 y3))
  | 0 => fun _ _ _ _ r h => by simp [slices_Index_byte_byte.l0] at h
  | k + 1 => by
    have ih0 := slices_Index_byte_byte.mono_l k
    · intro y0 y1 y2 y3
      unfold slices_Index_byte_byte.l0
      repeat' first
      | (with_reducible exact ih0 _ _ _ _)
      | (with_reducible exact LeO.refl _)
      | (with_reducible exact LeO.none _)
      | (with_reducible refine LeO.ite ?_ ?_)
      | (with_reducible refine LeO.bind ?_ (fun _ => ?_))
      | exact ih0 _ _ _ _
      | exact LeO.none _
      | refine LeO.ite ?_ ?_
      | refine LeO.bind ?_ (fun _ => ?_)
theorem slices_Index_byte_byte.mono : ∀ a0 a1 k, LeO (slices_Index_byte_byte.f k a0 a1) (slices_Index_byte_byte.f (k + 1) a0 a1) := by
  intro a0 a1 k
  have ih0 := slices_Index_byte_byte.mono_l k
  unfold slices_Index_byte_byte.f
  repeat' first
      | (with_reducible exact ih0 _ _ _ _)
      | (with_reducible exact LeO.refl _)
      | (with_reducible exact LeO.none _)
      | (with_reducible refine LeO.ite ?_ ?_)
      | (with_reducible refine LeO.bind ?_ (fun _ => ?_))
      | exact ih0 _ _ _ _
      | exact LeO.none _
      | refine LeO.ite ?_ ?_
      | refine LeO.bind ?_ (fun _ => ?_)
set_option maxHeartbeats 8000000 in
set_option maxRecDepth 100000 in
theorem slices_Index_byte_byte.calls (k : Nat) (A0 : Option Addr) (c0 : Nat) (l0 : List Int) (a1 : Int) (r : Int) (w : World) (hr0 : Kd.C (Kd.int .u8) w A0 l0.length l0) (hc0 : l0.length ≤ c0) (h : slices_Index_byte_byte.f k l0 a1 = some r) :
    Calls Try.prog 32 #[.slice A0 l0.length c0, .int .u8 a1] w fun e w' => e = .returned (.int .i64 r) ∧ Drawn0 w w' := by
  have HR0 := Aside0.mk hr0
  have HC0 := Aside0.mk hc0
  clear hr0 hc0
  have H : (slices_Index_byte_byte.l0 k l0 a1 (l0.length : Int) 0) = some r := h
  clear h
  have H' := Aside0.mk H
  clear H
  go_enter Try.func32, Try.ntmps32
  go_wp2
  go_loopg [8] k (fun kq v8 w' => ∃ (x8_1 : Int), v8 = .int .i64 x8_1 ∧ Aside0 (slices_Index_byte_byte.l0 kq l0 a1 (l0.length : Int) x8_1 = some r) ∧ Aside0 (kq ≤ k) ∧ Drawn0 w w')
  case atStart => exact ⟨(0), (by first | rfl | (simp; done) | (simp [*]; done) | (simp; exact (by intro a b; cases a <;> cases b <;> rfl : ∀ a b : Bool, (a == b) = (!(a != b))) _ _)), H', ⟨Nat.le_refl _⟩, by repeat (first | exact Drawn0.refl _ | apply Drawn0.step)⟩
  case round =>
    clear H'
    try clear c1
    try clear p2
    obtain ⟨x8_1, rfl, HA, HK1, ⟨m1, rfl⟩⟩ := hrel
    cases gk with
    | zero => exact absurd HA.out (by simp [slices_Index_byte_byte.l0])
    | succ k1 =>
      have H := HA.out
      clear HA
      simp only [slices_Index_byte_byte.l0] at H
      by_cases c3 : x8_1 < (l0.length : Int)
      · rw [if_pos c3] at H
        have c3b0 : decide (x8_1 < (l0.length : Int)) = true := decide_eq_true c3
        clear c3
        by_cases c4 : 0 ≤ x8_1
        · rw [if_pos c4] at H
          have c4b0 : decide (0 ≤ x8_1) = true := decide_eq_true c4
          clear c4
          by_cases c5 : x8_1 < (l0.length : Int)
          · rw [if_pos c5] at H
            have c5b0 : decide (x8_1 < (l0.length : Int)) = true := decide_eq_true c5
            clear c5
            by_cases c6 : a1 = (rd l0 x8_1)
            · rw [if_pos c6] at H
              have c6b0 : (a1 == (rd l0 x8_1)) = true := beq_iff_eq.mpr c6
              have c6b1 : (a1 != (rd l0 x8_1)) = false := bne_eq_false_iff_eq.mpr c6
              clear c6
              obtain rfl := Option.some.inj H
              have p101 : 0 ≤ (x8_1 : Int) := of_decide_eq_true (by first | (with_reducible assumption) | assumption)
              have q101 : x8_1 < (l0.length : Int) := of_decide_eq_true (by first | (with_reducible assumption) | assumption)
              obtain ⟨ad101, e101, hx101_0⟩ := Kd.at_int HR0.out x8_1 p101 q101
              cases e101
              replace p101 := eq_true p101
              replace q101 := eq_true q101
              go_wp2
              go_ret
              exact ⟨by first | rfl | (simp; done) | (simp [*]; done) | (simp; exact (by intro a b; cases a <;> cases b <;> rfl : ∀ a b : Bool, (a == b) = (!(a != b))) _ _), by repeat (first | exact Drawn0.refl _ | apply Drawn0.step)⟩
            · rw [if_neg c6] at H
              have c6b0 : (a1 == (rd l0 x8_1)) = false := beq_eq_false_iff_ne.mpr c6
              have c6b1 : (a1 != (rd l0 x8_1)) = true := bne_iff_ne.mpr c6
              have H' := Aside0.mk H
              clear H
              have p101 : 0 ≤ (x8_1 : Int) := of_decide_eq_true (by first | (with_reducible assumption) | assumption)
              have q101 : x8_1 < (l0.length : Int) := of_decide_eq_true (by first | (with_reducible assumption) | assumption)
              obtain ⟨ad101, e101, hx101_0⟩ := Kd.at_int HR0.out x8_1 p101 q101
              cases e101
              replace p101 := eq_true p101
              replace q101 := eq_true q101
              go_wp2
              go_roundg k1
              case measure => have := HK1.out; omega
              case rel => exact ⟨(wrap64 (x8_1 + 1)), (by first | rfl | (simp; done) | (simp [*]; done) | (simp; exact (by intro a b; cases a <;> cases b <;> rfl : ∀ a b : Bool, (a == b) = (!(a != b))) _ _)), H', ⟨by have := HK1.out; omega⟩, by repeat (first | exact Drawn0.refl _ | apply Drawn0.step)⟩
          · rw [if_neg c5] at H
            exact absurd H (by simp)
        · rw [if_neg c4] at H
          exact absurd H (by simp)
      · rw [if_neg c3] at H
        have c3b0 : decide (x8_1 < (l0.length : Int)) = false := decide_eq_false c3
        clear c3
        obtain rfl := Option.some.inj H
        go_wp2
        go_ret
        exact ⟨by first | rfl | (simp; done) | (simp [*]; done) | (simp; exact (by intro a b; cases a <;> cases b <;> rfl : ∀ a b : Bool, (a == b) = (!(a != b))) _ _), by repeat (first | exact Drawn0.refl _ | apply Drawn0.step)⟩
def slices_Clone_byte_byte.f (l0 : List Int) : Option (List Int) := if l0.length < 140737488355328 then some l0 else none
set_option maxHeartbeats 8000000 in
set_option maxRecDepth 100000 in
theorem slices_Clone_byte_byte.calls (A0 : Option Addr) (c0 : Nat) (l0 : List Int) (r : List Int) (w : World) (hr0 : Kd.C (Kd.int .u8) w A0 l0.length l0) (hc0 : l0.length ≤ c0) (h : slices_Clone_byte_byte.f l0 = some r) :
    Calls Try.prog 28 #[.slice A0 l0.length c0] w fun e w' => ∃ v0_ : Value, e = .returned v0_ ∧ Kd.R (Kd.int .u8) 5 w' w.heap.size (fun _ => True) v0_ r ∧ Below w.heap.size w w' := by
  unfold slices_Clone_byte_byte.f at h
  by_cases hl : l0.length < 140737488355328
  · rw [if_pos hl] at h
    obtain rfl := Option.some.inj h
    have HR := Aside0.mk hr0
    cases A0 with
    | none =>
      have h0 : l0 = [] := by
        rcases Nat.eq_zero_or_pos l0.length with h | h
        · exact List.length_eq_zero_iff.mp h
        · obtain ⟨ad, e, _⟩ := hr0.2.2 h
          cases e
      subst h0
      clear hr0 hc0 hl h
      have heq := Lib.run_eql_slice_nil (P := Try.prog) w 22 5 none 0 c0 0 0 Try.underlying22
      go_enter Try.func28, Try.ntmps28
      go_wp2
      go_ret
      exact ⟨_, rfl, Kd.R_nil _ _ _ _ _, Below.refl _ _⟩
    | some ad =>
      clear hr0 h
      have heq := Lib.run_eql_slice_nil (P := Try.prog) w 22 5 (some ad) l0.length c0 0 0 Try.underlying22
      have HO := Aside0.mk (show Kd.R (Kd.int .u8) 5 (w.alloc (.cells #[] 5)) w.heap.size (fun _ => True) (.slice (some ⟨w.heap.size, 0, none⟩) 0 0) [] from
        ⟨fun _ _ => trivial, [], World.ownsRow_lit (base := w.heap.size) (e := 5) (size := 1) w #[] 0 (Nat.le_refl _) (by decide) (by simp), Reps.none _ _⟩)
      have HX := Aside0.mk (Kd.C_alloc HR.out (.cells #[] 5))
      have HB := Aside0.mk (below_alloc (Below.refl w.heap.size w) (.cells #[] 5))
      go_enter Try.func28, Try.ntmps28
      go_wp2_with (at_builtin; refine Kd.R_append_rows (Kd.int .u8) (w0 := w) w.heap.size rfl (.tmp 5) (.tmp 6) 22 5 (.int .u8 0) 1 rfl Try.underlying22 infoB rfl (by decide) (by decide) (.slice (some ⟨w.heap.size, 0, none⟩) 0 0) [] l0 (some ad) l0.length c0 (fun _ => True) (fun _ => False) rfl rfl HO.out HX.out (fun _ _ h => h) (fun _ h => h.elim) (fun _ _ => trivial) HB.out (by simp) (by simpa using Nat.le_of_lt hl) ?_; intro v1 w1 hr1 hb1 hg1 hat1)
      go_ret
      exact ⟨_, rfl, by simpa using hr1, hb1⟩
  · rw [if_neg hl] at h
    cases h

/-- the first newline's place, or the length -/
def nlAt : List Int → Nat
  | [] => 0
  | c :: l => if c = 10 then 0 else nlAt l + 1
theorem nlAt_le : ∀ l : List Int, nlAt l ≤ l.length
  | [] => Nat.le_refl _
  | c :: l => by
    unfold nlAt
    split
    · exact Nat.zero_le _
    · have := nlAt_le l; simp; omega
/-- a text's lines: what is left, where the line under way begins, its bytes so far -/
def linesUp : List Int → Int → List Int → List SLX
  | [], off, cur => if cur = [] then [] else [⟨off, cur, false⟩]
  | c :: l, off, cur => if c = 10 then ⟨off, cur, true⟩ :: linesUp l (off + cur.length + 1) [] else linesUp l off (cur ++ [c])
theorem linesUp_cons (c : Int) (l : List Int) (off : Int) (cur : List Int) : linesUp (c :: l) off cur = if c = 10 then ⟨off, cur, true⟩ :: linesUp l (off + cur.length + 1) [] else linesUp l off (cur ++ [c]) := rfl
theorem nlAt_cons (c : Int) (l : List Int) : nlAt (c :: l) = if c = 10 then 0 else nlAt l + 1 := rfl
theorem linesUp_nl : ∀ (l : List Int) (off : Int) (cur : List Int), cur ++ l ≠ [] →
    linesUp l off cur = if nlAt l < l.length then ⟨off, cur ++ l.take (nlAt l), true⟩ :: linesUp (l.drop (nlAt l + 1)) (off + (cur.length : Int) + (nlAt l : Int) + 1) [] else [⟨off, cur ++ l, false⟩]
  | [], off, cur, h => by
    rw [List.append_nil] at h
    simp [linesUp, nlAt, h]
  | c :: l, off, cur, h => by
    rw [linesUp_cons, nlAt_cons]
    by_cases e : c = 10
    · rw [if_pos e, if_pos e, if_pos (by simp)]
      simp
    · rw [if_neg e, if_neg e, linesUp_nl l off (cur ++ [c]) (by simp)]
      have : off + ((cur ++ [c]).length : Int) + (nlAt l : Int) + 1 = off + (cur.length : Int) + ((nlAt l + 1 : Nat) : Int) + 1 := by simp; omega
      rw [this]
      by_cases h2 : nlAt l < l.length
      · rw [if_pos h2, if_pos (by simpa using h2), List.take_succ_cons, List.drop_succ_cons, List.append_assoc]
        rfl
      · rw [if_neg h2, if_neg (by simpa using h2), List.append_assoc]
        rfl
theorem linesUp_len : ∀ (l : List Int) (off : Int) (cur : List Int), (linesUp l off cur).length ≤ cur.length + l.length
  | [], off, cur => by
    unfold linesUp
    split
    · simp
    · rename_i h; have := List.length_pos_iff.mpr h; simp; omega
  | c :: l, off, cur => by
    unfold linesUp
    split
    · have := linesUp_len l (off + cur.length + 1) []; simp at this ⊢; omega
    · have := linesUp_len l off (cur ++ [c]); simp at this ⊢; omega
theorem index_nl (l0 : List Int) (hl : l0.length < 4611686018427387904) (d : Nat) : ∀ n : Nat, n + d = l0.length →
    ∃ k, slices_Index_byte_byte.l0 k l0 10 (l0.length : Int) (n : Int) = some (if nlAt (l0.drop n) < (l0.drop n).length then ((n + nlAt (l0.drop n) : Nat) : Int) else -1) := by
  induction d with
  | zero =>
    intro n hn
    refine ⟨1, ?_⟩
    simp only [slices_Index_byte_byte.l0, if_neg (show ¬ (n : Int) < (l0.length : Int) by omega)]
    rw [List.drop_of_length_le (by omega)]
    simp [nlAt]
  | succ d ih =>
    intro n hn
    obtain ⟨k, hk⟩ := ih (n + 1) (by omega)
    refine ⟨k + 1, ?_⟩
    have hw : wrap64 ((n : Int) + 1) = ((n + 1 : Nat) : Int) := by unfold wrap64; omega
    have hr : rd l0 (n : Int) = l0[n] := by
      unfold rd; rw [Int.toNat_natCast, List.getD_eq_getElem?_getD, List.getElem?_eq_getElem (show n < l0.length by omega)]; rfl
    simp only [slices_Index_byte_byte.l0, if_pos (show (n : Int) < (l0.length : Int) by omega), if_pos (show (0 : Int) ≤ (n : Int) by omega), hr, hw]
    rw [List.drop_eq_getElem_cons (show n < l0.length by omega)]
    rw [nlAt_cons]
    by_cases e : l0[n] = 10
    · rw [if_pos e.symm, if_pos e, if_pos (by simp; omega)]; simp
    · rw [if_neg (fun h => e h.symm), if_neg e, hk]
      by_cases h2 : nlAt (l0.drop (n + 1)) < (l0.drop (n + 1)).length
      · rw [if_pos h2, if_pos (by simp at h2 ⊢; omega)]; congr 1; omega
      · rw [if_neg h2, if_neg (by simp at h2 ⊢; omega)]
theorem index_f (l : List Int) (hl : l.length < 4611686018427387904) : ∃ k, slices_Index_byte_byte.f k l 10 = some (if nlAt l < l.length then (nlAt l : Int) else -1) := by
  obtain ⟨k, hk⟩ := index_nl l hl l.length 0 (by omega)
  exact ⟨k, by simpa [slices_Index_byte_byte.f] using hk⟩
/-- what is handed out: a line, and its text's value -/
structure LV where
  x : SLX
  v : Value
def LV.enc (y : LV) : Array Value := #[.agg #[.int .i64 y.x.f0, y.v, .bool y.x.f2]]

theorem cut_lo (A : Option Addr) (n c m : Nat) (hm : m ≤ n) : ∀ W : World, (Instr.slice 22 (.slice A n c) (some (.int .i64 (m : Int))) none none).run Try.prog W = .ok (.slice (if c = m then A else A.map (·.add (m * 1))) (n - m) (c - m)) W := by
  intro W
  obtain ⟨i, hi, e⟩ := Option.map_eq_some_iff.mp infoB
  simp only [Prod.mk.injEq] at e
  have hel : Try.prog.elem 22 = 5 := by simp [Program.elem, Try.underlying22]
  have hu : Try.prog.underlying 22 = some (.slice (Try.prog.elem 22)) := by rw [hel]; exact Try.underlying22
  rw [run_slice_l W 22 A n c hu .i64 (m : Int) (Int.natCast_nonneg _) (by omega), hel]
  simp [sizeOf, typeInfo, hi, e.2.1, sliced, Result.andThen]
theorem cut_lohi (A : Option Addr) (n c lo hi' : Nat) (h1 : lo ≤ hi') (h2 : hi' ≤ n) (hc : n ≤ c) : ∀ W : World, (Instr.slice 22 (.slice A n c) (some (.int .i64 (lo : Int))) (some (.int .i64 (hi' : Int))) none).run Try.prog W = .ok (.slice (if c = lo then A else A.map (·.add (lo * 1))) (hi' - lo) (c - lo)) W := by
  obtain ⟨i, hi, e⟩ := Option.map_eq_some_iff.mp infoB
  simp only [Prod.mk.injEq] at e
  have := cut_mid (P := Try.prog) 22 5 .i64 .i64 Try.underlying22 hi 1 e.2.1 A n c (lo : Int) (hi' : Int) (Int.natCast_nonneg _) (by omega) (by omega) hc
  simpa using this
theorem index_call (m : Nat) (w : World) (A : Option Addr) (n c k : Nat) (l : List Int) (r : Int) (hn : l.length = n) (hr : Kd.C (Kd.int .u8) w A n l) (hc : n ≤ c) (h : slices_Index_byte_byte.f k l 10 = some r) :
    CallsIn Fence.wide m Try.prog 32 #[.slice A n c, .int .u8 10] w fun e w' => e = .returned (.int .i64 r) ∧ Drawn0 w w' := by
  subst hn
  exact callsIn_wide.2 (slices_Index_byte_byte.calls k A c l 10 r w hr hc h)
theorem clone_call (m : Nat) (w : World) (A : Option Addr) (n c : Nat) (l : List Int) (hn : l.length = n) (hr : Kd.C (Kd.int .u8) w A n l) (hc : n ≤ c) (h : n < 140737488355328) :
    CallsIn Fence.wide m Try.prog 28 #[.slice A n c] w fun e w' => ∃ v0_ : Value, e = .returned v0_ ∧ Kd.R (Kd.int .u8) 5 w' w.heap.size (fun _ => True) v0_ l ∧ Below w.heap.size w w' := by
  subst hn
  exact callsIn_wide.2 (slices_Clone_byte_byte.calls A c l l w hr hc (by unfold slices_Clone_byte_byte.f; rw [if_pos h]))
theorem cell_lt {w : World} {b : Nat} {v : Value} (h : w.cell? ⟨b, 0, none⟩ = some v) : b < w.heap.size := by
  rcases Nat.lt_or_ge b w.heap.size with h' | h'
  · exact h'
  · simp [World.cell?, Array.getElem?_eq_none h'] at h
theorem line_box (W : World) (z : Nat) (hz : W.heap.size = z) (a b c : Value) :
    (W.alloc (.cells #[.int .i64 0, .slice none 0 0, .bool false] 55)).cell? ⟨z, 0, none⟩ = some (.int .i64 0) ∧ (W.alloc (.cells #[.int .i64 0, .slice none 0 0, .bool false] 55)).frozen? ⟨z, 0, none⟩ = false ∧
    ((W.alloc (.cells #[.int .i64 0, .slice none 0 0, .bool false] 55)).setCell ⟨z, 0, none⟩ a).cell? ⟨z, 1, none⟩ = some (.slice none 0 0) ∧ ((W.alloc (.cells #[.int .i64 0, .slice none 0 0, .bool false] 55)).setCell ⟨z, 0, none⟩ a).frozen? ⟨z, 1, none⟩ = false ∧
    (((W.alloc (.cells #[.int .i64 0, .slice none 0 0, .bool false] 55)).setCell ⟨z, 0, none⟩ a).setCell ⟨z, 1, none⟩ b).cell? ⟨z, 2, none⟩ = some (.bool false) ∧ (((W.alloc (.cells #[.int .i64 0, .slice none 0 0, .bool false] 55)).setCell ⟨z, 0, none⟩ a).setCell ⟨z, 1, none⟩ b).frozen? ⟨z, 2, none⟩ = false ∧
    ((((W.alloc (.cells #[.int .i64 0, .slice none 0 0, .bool false] 55)).setCell ⟨z, 0, none⟩ a).setCell ⟨z, 1, none⟩ b).setCell ⟨z, 2, none⟩ c).heap[z]? = some (.cells #[a, b, c] 55 (0, 0)) ∧
    Below W.heap.size W ((((W.alloc (.cells #[.int .i64 0, .slice none 0 0, .bool false] 55)).setCell ⟨z, 0, none⟩ a).setCell ⟨z, 1, none⟩ b).setCell ⟨z, 2, none⟩ c) := by
  subst hz
  have h0 := blk_new W (.cells #[.int .i64 0, .slice none 0 0, .bool false] 55)
  have h1 := blk_put h0 0 a rfl
  have h2 := blk_put h1 1 b rfl
  have h3 := blk_put h2 2 c rfl
  exact ⟨(blk_cell h0 0).trans rfl, blk_frozen h0 0, (blk_cell h1 1).trans rfl, blk_frozen h1 1, (blk_cell h2 2).trans rfl, blk_frozen h2 2, h3, below_set (below_set (below_set (below_alloc (Below.refl _ W) _) (Nat.le_refl _)) (Nat.le_refl _)) (Nat.le_refl _)⟩
section
attribute [local go_sem] Oper.semAt_some
set_option maxHeartbeats 8000000 in
set_option maxRecDepth 100000 in
theorem all1_in (n : Nat) (hn : 1 ≤ n) (l Bt n₀ : Nat) (A0 : Option Addr) (c0 : Nat) (t : List Int) (hlen : t.length * 40 < 140737488355328) (hc0 : t.length ≤ c0) (J Jx : List LV → World → Prop) (hJa : Seq.Abide J)
    (hJT : ∀ s A, J s A → A.cell? ⟨Bt, 0, none⟩ = some (.slice A0 t.length c0) ∧ Kd.C (Kd.int .u8) A A0 t.length t ∧ n₀ ≤ A.heap.size)
    (hY : ∀ pre (x : LV) W0 W1, J pre W0 → Below W0.heap.size W0 W1 → (Kd.int .u8).R 5 W1 n₀ (fun k => W0.heap.size ≤ k) x.v x.x.f1 → pre.length < t.length → YieldAt Fence.wide (n - 1) Try.prog l x.enc W1 fun e W' =>
      (e = .returned (.bool true) ∧ J (pre ++ [x]) W') ∨ (e = .returned (.bool false) ∧ Jx (pre ++ [x]) W'))
    (W : World) (h0 : J [] W) :
    CallsIn Fence.wide n Try.prog 31 #[.func (.yield l) #[] #[], .pointer (some ⟨Bt, 0, none⟩)] W fun e W' => (∃ v, e = .returned v) ∧
      ((∃ xs : List LV, xs.map LV.x = linesUp t 0 [] ∧ J xs W') ∨ (∃ pre : List LV, (∃ rest, pre.map LV.x ++ rest = linesUp t 0 []) ∧ Jx pre W')) := by
  refine callsIn_of_wp Try.func31 rfl trivial ?_ rfl
  simp only [Try.ntmps31, List.size_toArray, List.length_cons, List.length_nil, Nat.reduceAdd, Nat.reduceSub, Array.replicate_succ, Array.replicate_zero, List.push_toArray, List.append_toArray, List.nil_append, List.cons_append]
  have fnI : Fence.wide.fn 32 := trivial
  gi_wp2
  gi_loopw [3] (fun p wr => ∃ (k : Nat) (pre : List LV), k ≤ t.length + 1 ∧ p = .int .i64 k ∧ pre.map LV.x ++ linesUp (t.drop k) k [] = linesUp t 0 [] ∧ pre.length ≤ k ∧ J pre wr)
    (fun p _ => t.length + 1 - (intOf p).toNat)
  case atStart => exact ⟨0, [], by omega, rfl, rfl, Nat.le_refl _, h0⟩
  case round =>
    obtain ⟨k, pre, hk, rfl, hx, hpl, hJs⟩ := hrel
    obtain ⟨hB, HC, hn0⟩ := hJT _ _ hJs
    have hBlt : Bt < wr.heap.size := cell_lt hB
    by_cases hlt : k < t.length
    · have d1 : decide ((k : Int) < (t.length : Int)) = true := decide_eq_true (by omega)
      have cl := cut_lo A0 t.length c0 k (by omega)
      have HD := Kd.C_drop (m := k) HC (by omega) hc0
      have hdl : (t.drop k).length = t.length - k := List.length_drop
      obtain ⟨ki, hki⟩ := index_f (t.drop k) (by omega)
      have HD' : Kd.C (Kd.int .u8) wr (Option.map (fun x => x.add k) A0) (t.length - k) (t.drop k) := by
        rw [hdl, if_neg (by omega)] at HD
        have e1 : k * (Kd.int .u8).sz = k := Nat.mul_one k
        rw [e1] at HD
        exact HD
      by_cases hp : nlAt (t.drop k) < (t.drop k).length
      · rw [if_pos hp] at hki
        obtain ⟨p, hpe⟩ : ∃ p, nlAt (t.drop k) = p := ⟨_, rfl⟩
        have hU := linesUp_nl (t.drop k) k [] (by intro e; have := congrArg List.length e; simp at this; omega)
        rw [if_pos hp, List.nil_append] at hU
        have hoff : (k : Int) + (([] : List Int).length : Int) + (nlAt (t.drop k) : Int) + 1 = ((k + nlAt (t.drop k) + 1 : Nat) : Int) := by simp
        rw [hoff, List.drop_drop, ← Nat.add_assoc] at hU
        rw [hpe] at hki hp hU
        have d2 : decide ((p : Int) ≥ 0) = true := decide_eq_true (by omega)
        have d3 : decide ((p : Int) < 0) = false := decide_eq_false (by omega)
        gi_wp2_with first
          | (gi_at_call 32; refine (index_call _ _ _ _ _ ki (t.drop k) _ hdl HD' (by omega) hki).mono ?_; rintro e w1 ⟨rfl, ⟨m1, rfl⟩⟩; obtain ⟨z0, z1, z2, z3, z4, z5, z6, z7⟩ := line_box (wr.drewN m1) wr.heap.size rfl (.int .i64 k) (.slice none 0 0) (.bool true); have hB3 : (((((wr.drewN m1).alloc (.cells #[.int .i64 0, .slice none 0 0, .bool false] 55)).setCell ⟨wr.heap.size, 0, none⟩ (.int .i64 k)).setCell ⟨wr.heap.size, 1, none⟩ (.slice none 0 0)).setCell ⟨wr.heap.size, 2, none⟩ (.bool true)).cell? ⟨Bt, 0, none⟩ = some (.slice A0 t.length c0) := (z7.cell (p := ⟨Bt, 0, none⟩) hBlt).trans hB)
        generalize (((((wr.drewN m1).alloc (.cells #[.int .i64 0, .slice none 0 0, .bool false] 55)).setCell ⟨wr.heap.size, 0, none⟩ (.int .i64 k)).setCell ⟨wr.heap.size, 1, none⟩ (.slice none 0 0)).setCell ⟨wr.heap.size, 2, none⟩ (.bool true)) = W3 at z6 z7 hB3 ⊢
        clear z0 z1 z2 z3 z4 z5
        have hb3 : Below wr.heap.size wr W3 := (pw_below_drewN (Below.refl _ wr) m1).trans z7
        have HT : Kd.C (Kd.int .u8) W3 (Option.map (fun x => x.add k) A0) p ((t.drop k).take p) := Kd.C_below (by have := Kd.C_take (m := p) (hdl.symm ▸ HD') (by omega); rwa [List.length_take, Nat.min_eq_left (by omega)] at this) hb3
        obtain ⟨X, hX⟩ : ∃ X, (t.drop k).take p = X := ⟨_, rfl⟩
        have hXl : X.length = p := by rw [← hX]; rw [List.length_take]; omega
        rw [hX] at HT hU
        refine ⟨trivial, (clone_call _ _ _ _ _ X hXl HT (by omega) (by omega)).mono ?_⟩
        rintro e w4 ⟨v, rfl, hR, hb4⟩
        obtain ⟨A, c, hv⟩ := Kd.R_slice hR
        rw [hXl] at hv
        subst hv
        have hx4 := blk_below z6 hb4
        have k41 : w4.cell? ⟨wr.heap.size, 1, none⟩ = some (.slice none 0 0) := (blk_cell hx4 1).trans rfl
        have k4f : w4.frozen? ⟨wr.heap.size, 1, none⟩ = false := blk_frozen hx4 1
        have hx5 : (w4.setCell ⟨wr.heap.size, 1, none⟩ (.slice A p c)).heap[wr.heap.size]? = some (.cells #[.int .i64 k, .slice A p c, .bool true] 55 (0, 0)) := blk_put hx4 1 (.slice A p c) rfl
        have k50 : (w4.setCell ⟨wr.heap.size, 1, none⟩ (.slice A p c)).cell? ⟨wr.heap.size, 0, none⟩ = some (.int .i64 k) := (blk_cell hx5 0).trans rfl
        have k51 : (w4.setCell ⟨wr.heap.size, 1, none⟩ (.slice A p c)).cell? ⟨wr.heap.size, 1, none⟩ = some (.slice A p c) := (blk_cell hx5 1).trans rfl
        have k52 : (w4.setCell ⟨wr.heap.size, 1, none⟩ (.slice A p c)).cell? ⟨wr.heap.size, 2, none⟩ = some (.bool true) := (blk_cell hx5 2).trans rfl
        have hb5 : Below wr.heap.size wr (w4.setCell ⟨wr.heap.size, 1, none⟩ (.slice A p c)) := below_set (hb3.trans (hb4.mono hb3.size)) (Nat.le_refl _)
        have hR5 := Kd.R_set (Kd.R_lower (Kd.R_mono (Kd.R_bound hR) (ok' := fun k => wr.heap.size ≤ k) (fun k hk => Nat.le_trans hb3.size hk.2.1)) (show n₀ ≤ W3.heap.size by have := hb3.size; omega)) hx4 (by intro q hq; simp [Kd.int, Kd.scalar] at hq; omega) 1 (.slice A p c)
        obtain ⟨fn, tmps, assign, body, hy, hRd⟩ := hY pre ⟨⟨k, X, true⟩, .slice A p c⟩ wr _ hJs hb5 hR5 (by omega)
        dsimp only [LV.enc] at hy
        have hmap : ((pre ++ [⟨⟨k, X, true⟩, .slice A p c⟩] : List LV).map LV.x) = pre.map LV.x ++ [⟨k, X, true⟩] := by simp
        gi_wp2
        refine hRd.mono ?_
        rintro e W6 (⟨rfl, hJ6⟩ | ⟨rfl, hJx6⟩)
        · gi_wp2
          go_roundw
          case rel => exact ⟨k + p + 1, _, by omega, by simp [Int.add_assoc], by rw [hmap, ← hx]; rw [hU]; simp, by simp; omega, hJ6⟩
          case measure => simp [intOf]; omega
        · gi_wp2
          refine bodyPost_ret (results_none rfl _ _ _) rfl ?_
          exact ⟨⟨_, rfl⟩, .inr ⟨_, ⟨linesUp (t.drop (k + p + 1)) ((k + p + 1 : Nat) : Int) [], by rw [hmap, ← hx]; rw [hU]; simp⟩, hJx6⟩⟩
      · rw [if_neg hp] at hki
        have hU := linesUp_nl (t.drop k) k [] (by intro e; have := congrArg List.length e; simp at this; omega)
        rw [if_neg hp, List.nil_append] at hU
        have hdn : t.drop (k + (t.length - k) + 1) = [] := List.drop_of_length_le (by omega)
        have hun : linesUp (t.drop (k + (t.length - k) + 1)) ((k + (t.length - k) + 1 : Nat) : Int) [] = [] := by rw [hdn]; rfl
        have d2 : decide ((-1 : Int) ≥ 0) = false := by decide
        have d3 : decide ((-1 : Int) < 0) = true := by decide
        have d4 : (t.length : Int) - (k : Int) = ((t.length - k : Nat) : Int) := by omega
        gi_wp2_with first
          | (gi_at_call 32; refine (index_call _ _ _ _ _ ki (t.drop k) _ hdl HD' (by omega) hki).mono ?_; rintro e w1 ⟨rfl, ⟨m1, rfl⟩⟩; obtain ⟨z0, z1, z2, z3, z4, z5, z6, z7⟩ := line_box (wr.drewN m1) wr.heap.size rfl (.int .i64 k) (.slice none 0 0) (.bool false); have hB3 : (((((wr.drewN m1).alloc (.cells #[.int .i64 0, .slice none 0 0, .bool false] 55)).setCell ⟨wr.heap.size, 0, none⟩ (.int .i64 k)).setCell ⟨wr.heap.size, 1, none⟩ (.slice none 0 0)).setCell ⟨wr.heap.size, 2, none⟩ (.bool false)).cell? ⟨Bt, 0, none⟩ = some (.slice A0 t.length c0) := (z7.cell (p := ⟨Bt, 0, none⟩) hBlt).trans hB)
        generalize (((((wr.drewN m1).alloc (.cells #[.int .i64 0, .slice none 0 0, .bool false] 55)).setCell ⟨wr.heap.size, 0, none⟩ (.int .i64 k)).setCell ⟨wr.heap.size, 1, none⟩ (.slice none 0 0)).setCell ⟨wr.heap.size, 2, none⟩ (.bool false)) = W3 at z6 z7 hB3 ⊢
        clear z0 z1 z2 z3 z4 z5
        have hb3 : Below wr.heap.size wr W3 := (pw_below_drewN (Below.refl _ wr) m1).trans z7
        have HT : Kd.C (Kd.int .u8) W3 (Option.map (fun x => x.add k) A0) (t.length - k) (t.drop k) := Kd.C_below HD' hb3
        obtain ⟨X, hX⟩ : ∃ X, t.drop k = X := ⟨_, rfl⟩
        have hXl : X.length = (t.length - k) := by rw [← hX]; exact hdl
        rw [hX] at HT hU
        refine ⟨trivial, (clone_call _ _ _ _ _ X hXl HT (by omega) (by omega)).mono ?_⟩
        rintro e w4 ⟨v, rfl, hR, hb4⟩
        obtain ⟨A, c, hv⟩ := Kd.R_slice hR
        rw [hXl] at hv
        subst hv
        have hx4 := blk_below z6 hb4
        have k41 : w4.cell? ⟨wr.heap.size, 1, none⟩ = some (.slice none 0 0) := (blk_cell hx4 1).trans rfl
        have k4f : w4.frozen? ⟨wr.heap.size, 1, none⟩ = false := blk_frozen hx4 1
        have hx5 : (w4.setCell ⟨wr.heap.size, 1, none⟩ (.slice A (t.length - k) c)).heap[wr.heap.size]? = some (.cells #[.int .i64 k, .slice A (t.length - k) c, .bool false] 55 (0, 0)) := blk_put hx4 1 (.slice A (t.length - k) c) rfl
        have k50 : (w4.setCell ⟨wr.heap.size, 1, none⟩ (.slice A (t.length - k) c)).cell? ⟨wr.heap.size, 0, none⟩ = some (.int .i64 k) := (blk_cell hx5 0).trans rfl
        have k51 : (w4.setCell ⟨wr.heap.size, 1, none⟩ (.slice A (t.length - k) c)).cell? ⟨wr.heap.size, 1, none⟩ = some (.slice A (t.length - k) c) := (blk_cell hx5 1).trans rfl
        have k52 : (w4.setCell ⟨wr.heap.size, 1, none⟩ (.slice A (t.length - k) c)).cell? ⟨wr.heap.size, 2, none⟩ = some (.bool false) := (blk_cell hx5 2).trans rfl
        have hb5 : Below wr.heap.size wr (w4.setCell ⟨wr.heap.size, 1, none⟩ (.slice A (t.length - k) c)) := below_set (hb3.trans (hb4.mono hb3.size)) (Nat.le_refl _)
        have hR5 := Kd.R_set (Kd.R_lower (Kd.R_mono (Kd.R_bound hR) (ok' := fun k => wr.heap.size ≤ k) (fun k hk => Nat.le_trans hb3.size hk.2.1)) (show n₀ ≤ W3.heap.size by have := hb3.size; omega)) hx4 (by intro q hq; simp [Kd.int, Kd.scalar] at hq; omega) 1 (.slice A (t.length - k) c)
        obtain ⟨fn, tmps, assign, body, hy, hRd⟩ := hY pre ⟨⟨k, X, false⟩, .slice A (t.length - k) c⟩ wr _ hJs hb5 hR5 (by omega)
        dsimp only [LV.enc] at hy
        have hmap : ((pre ++ [⟨⟨k, X, false⟩, .slice A (t.length - k) c⟩] : List LV).map LV.x) = pre.map LV.x ++ [⟨k, X, false⟩] := by simp
        gi_wp2
        refine hRd.mono ?_
        rintro e W6 (⟨rfl, hJ6⟩ | ⟨rfl, hJx6⟩)
        · gi_wp2
          go_roundw
          case rel => exact ⟨k + (t.length - k) + 1, _, by omega, by simp [Int.add_assoc], by rw [hmap, ← hx, hX, hU, hun]; simp, by simp; omega, hJ6⟩
          case measure => simp [intOf]; omega
        · gi_wp2
          refine bodyPost_ret (results_none rfl _ _ _) rfl ?_
          exact ⟨⟨_, rfl⟩, .inr ⟨_, ⟨linesUp (t.drop (k + (t.length - k) + 1)) ((k + (t.length - k) + 1 : Nat) : Int) [], by rw [hmap, ← hx, hX, hU, hun]; simp⟩, hJx6⟩⟩
    · have d1 : decide ((k : Int) < (t.length : Int)) = false := decide_eq_false (by omega)
      gi_wp2
      go_end0
      rw [List.drop_of_length_le (by omega)] at hx
      exact ⟨⟨_, rfl⟩, .inl ⟨pre, by simpa [linesUp] using hx, hJs⟩⟩

theorem all_call (m : Nat) (w : World) (A : Option Addr) (n c : Nat) :
    CallsIn Fence.wide m Try.prog 24 #[.slice A n c] w fun e w' => e = .returned (.func (.func 31) #[] #[.pointer (some ⟨w.heap.size, 0, none⟩)]) ∧ w' = w.alloc (.cells #[.slice A n c] 22) := by
  refine callsIn_of_wp Try.func24 rfl trivial ?_ rfl
  simp only [Try.ntmps24, List.size_toArray, List.length_cons, List.length_nil, Nat.reduceAdd, Nat.reduceSub, Array.replicate_succ, Array.replicate_zero, List.push_toArray, List.append_toArray, List.nil_append, List.cons_append]
  gi_wp2
  go_ret
  exact ⟨rfl, rfl⟩
/-- what the iterator finds in memory -/
def TW (Bt n₀ : Nat) (A0 : Option Addr) (c0 : Nat) (t : List Int) (A : World) : Prop := A.cell? ⟨Bt, 0, none⟩ = some (.slice A0 t.length c0) ∧ Kd.C (Kd.int .u8) A A0 t.length t ∧ n₀ ≤ A.heap.size
/-- what is known in memory of a line that is handed out -/
def GW (n₀ B : Nat) (y : LV) (A : World) : Prop := (Kd.int .u8).R 5 A n₀ (fun k => B ≤ k) y.v y.x.f1
theorem all_told (n : Nat) (hn : 1 ≤ n) (Bt n₀ : Nat) (A0 : Option Addr) (c0 : Nat) (t : List Int) (hlen : t.length * 40 < 140737488355328) (hc0 : t.length ≤ c0) (w : World) :
    Seq.Told Fence.wide n Try.prog 31 #[.pointer (some ⟨Bt, 0, none⟩)] LV.enc (GW n₀) (TW Bt n₀ A0 c0 t) (fun xs => xs.map LV.x = linesUp t 0 []) (fun pre => ∃ rest, pre.map LV.x ++ rest = linesUp t 0 []) t.length w :=
  fun l J Jx W _ hJa hJT hY h0 => all1_in n hn l Bt n₀ A0 c0 t hlen hc0 J Jx hJa hJT (fun pre x W0 W1 hj hb hg hl => hY pre x W0 W1 hj hb hg hl) W h0
theorem turns_cell {A : World} {l : Nat} {o o' : Obj} {b : Nat} {v : Value} (h : A.cell? ⟨b, 0, none⟩ = some v) (hl : A.heap[l]? = some o) (ho : o.isCells = false) : (A.putObj l o').cell? ⟨b, 0, none⟩ = some v :=
  cell_kept h (grownBy_putObj' A l o') (fun r e => by cases e; exact ⟨o, hl, ho⟩)
theorem turns_blk {A : World} {l : Nat} {o o' : Obj} {b : Nat} {cs : Array Value} {t : TypeId} (h : A.heap[b]? = some (.cells cs t (0, 0))) (hl : A.heap[l]? = some o) (ho : o.isCells = false) : (A.putObj l o').heap[b]? = some (.cells cs t (0, 0)) := by
  refine (World.putObj_heap_other (fun e => ?_)).trans h
  subst e
  rw [hl] at h
  cases h
  cases ho
theorem turns_R {α : Type} {d : Kd α} {e base : Nat} {ok : Nat → Prop} {A : World} {v : Value} {xs : List α} {l : Nat} {o o' : Obj} (h : d.R e A base ok v xs) (hl : A.heap[l]? = some o) (ho : o.isCells = false) : d.R e (A.putObj l o') base ok v xs := by
  have h2 := Kd.R_bound h
  exact Kd.R_mono (Kd.R_move h2 (fun k hk => by
    obtain ⟨_, _, _, q, _, cells, hc⟩ := hk
    refine World.putObj_heap_other (fun e => ?_)
    subst e
    rw [hl] at hc
    cases hc
    cases ho)) (fun k hk => hk.1)
theorem below_turn {n₀ : Nat} {w A : World} {l : Nat} {o o' : Obj} (h : Below n₀ w A) (hl : n₀ ≤ l) (ha : A.heap[l]? = some o) : Below n₀ w (A.putObj l o') :=
  h.grown (grownBy_putObj' A l o') (by have := (Array.getElem?_eq_some_iff.1 ha).1; omega) (fun k e => by cases e; exact hl)
theorem C_below0 {α : Type} {d : Kd α} {w A : World} {Ad : Option Addr} {n : Nat} {xs : List α} (h : Kd.C d w Ad n xs) (hb : Below w.heap.size w A) : Kd.C d A Ad n xs := Kd.C_below h hb
end
end Go.Proofs.Ytkpfnhkfecpefaa.Lin
