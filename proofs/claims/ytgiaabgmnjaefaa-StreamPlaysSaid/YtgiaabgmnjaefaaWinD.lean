/- Add: the bytes go behind those that are held. -/
import Derived.Test.YtgiaabgmnjaefaaWinC
import Derived.Test.YtgiaabgmnjaefaaWinT
import Derived.Test.YtgiaabgmnjaefaaWMore
import Derived.Deep.RegionHeld3
import Derived.Deep.QuietTactic
import Derived.BigQuiet
import Derived.RowKit3
import Derived.WideLaws
import Derived.Deep.DeepCutAuto
import Derived.Deep.CutBlock
import Derived.RowKit
import Derived.OwnWalk
import Derived.Laws.MakeOwn
namespace Go.Proofs.Ytgiaabgmnjaefaa.Win
open Go Go.RowKit Go.Proofs Go.Proofs.Ytgiaabgmnjaefaa.Met Go.Proofs.YtgiaabgmnjaefaaW.PrintWords Go.Proofs.YtgiaabgmnjaefaaW.PrintMore
set_option linter.unusedVariables false
set_option linter.unusedSimpArgs false
attribute [local go_sem] max2_int min2_int max_two min_two max_three min_three
theorem src_of {w : World} {A : Option Addr} {l : List Int} (h : Kd.C (Kd.int .u8) w A l.length l) (hp : 0 < l.length) : ∃ ad, A = some ad ∧ ∀ j x, l[j]? = some x → w.cell? (ad.add j) = some (.int .u8 x) := by
  obtain ⟨ad, hA, _⟩ := Kd.at_int h 0 (by omega) (by omega)
  refine ⟨ad, hA, fun j x hx => ?_⟩
  have hj := (List.getElem?_eq_some_iff.mp hx).1
  obtain ⟨ad2, hA2, h2⟩ := Kd.at_int h (j : Int) (by omega) (by omega)
  rw [hA] at hA2
  cases hA2
  rw [Int.toNat_natCast] at h2
  rw [h2]
  unfold rd
  rw [Int.toNat_natCast, List.getD_eq_getElem?_getD, hx]
  rfl
theorem splice_take (L l : List Int) (h : Nat) (hf : h + l.length ≤ L.length) : (splice L h l).take (h + l.length) = L.take h ++ l := by
  unfold splice
  rw [← List.append_assoc]
  refine List.take_left' ?_
  rw [List.length_append, List.length_take]
  omega
theorem splice_take0 (R h : Nat) (L : List Int) (hl : h ≤ L.length) (hR : h ≤ R) : (splice (List.replicate R 0) 0 (L.take h)).take h = L.take h := by
  have := splice_take (List.replicate R 0) (L.take h) 0 (by rw [List.length_replicate, List.length_take]; omega)
  rw [List.take_zero, List.nil_append, Nat.zero_add, List.length_take, Nat.min_eq_left hl] at this
  exact this
theorem Kept.len {w w' : World} {S : Nat → Prop} (h : Kept w w' S) : w.heap.size ≤ w'.heap.size := h.1
set_option maxHeartbeats 8000000 in
set_option maxRecDepth 100000 in
theorem add_calls (w : World) (g : Nat) (M : Option Nat) (a b c : Int) (A : Option Addr) (buf : List Int) (hh mv B : Nat) (Ab : Option Addr) (cb : Nat) (l : List Int) (hW : WinAt w g M a b c A buf hh mv) (hB : B ≤ g) (hBM : ∀ k, M = some k → B ≤ k) (hBA : ∀ k, A = some k → B ≤ k.block)
    (hsrc : Kd.C (Kd.int .u8) w Ab l.length l) (hfar : ∀ ad, Ab = some ad → ad.block ≠ g ∧ M ≠ some ad.block) (hl0 : 0 < l.length) (hl : buf.length ≤ 10000000000) (hN : l.length ≤ 10000000000) (hmv : mv ≤ 100000000000) :
    Calls Try.prog 30 #[.pointer (some ⟨g, 0, none⟩), .slice Ab l.length cb] w fun e w' => e = .returned (.tuple #[]) ∧ (∃ A' buf', WinAt w' g M a b c A' buf' (hh + l.length) (mv + (if hh + l.length ≤ buf.length then l.length else hh + l.length)) ∧ buf'.take (hh + l.length) = buf.take hh ++ l ∧ buf'.length = (if hh + l.length ≤ buf.length then buf.length else roomN buf.length (hh + l.length)) ∧ (A' = A ∨ ∃ gb, A' = some ⟨gb, 0, none⟩ ∧ w.heap.size ≤ gb)) ∧ Kept w w' (fun k => k = g ∨ M = some k ∨ ∃ ad, A = some ad ∧ ad.block = k) ∧ Below B w w' := by
  have HW := Aside0.mk hW
  have k0 : w.cell? ⟨g, 0, none⟩ = some (.pointer (mp M)) := (blk_cell hW.win 0).trans rfl
  have k1 : w.cell? ⟨g, 1, none⟩ = some (.slice A buf.length buf.length) := (blk_cell hW.win 1).trans rfl
  have k2 : w.cell? ⟨g, 2, none⟩ = some (.int .i64 (hh : Int)) := (blk_cell hW.win 2).trans rfl
  have hu48 := Try.underlying83
  have c0 : ((l.length : Int) == 0) = false := by simpa using (show ¬ (l.length : Int) = 0 by omega)
  have hw1 : wrap64 ((hh : Int) + (l.length : Int)) = ((hh + l.length : Nat) : Int) := by have := hW.le; unfold wrap64; omega
  have HHL := Aside0.mk (show hh + l.length ≤ 20000000000 by have := hW.le; omega)
  by_cases hfit : hh + l.length ≤ buf.length
  · have c1 : decide (((hh + l.length : Nat) : Int) > (buf.length : Int)) = false := decide_eq_false (by omega)
    have c2 : decide ((buf.length : Int) < (hh : Int) + (l.length : Int)) = false := decide_eq_false (by omega)
    go_enter Try.func30, Try.ntmps30
    go_wp2_with fail
    have HZ := Aside0.mk HW.out
    have HRM := Aside0.mk hfit
    have HBgb := fun (gb : Nat) (e : A = some ⟨gb, 0, none⟩) => hBA ⟨gb, 0, none⟩ e
    have HSRC := Aside0.mk fun (hp : 0 < l.length) => src_of hsrc hp
    have HBM := Aside0.mk hBM
    have HBG := Aside0.mk hB
    have HLB := Aside0.mk hl0
    have HMV := Aside0.mk (show mv + l.length ≤ 1000000000000 by omega)
    clear hsrc hfar hl0 hl hN hmv hBM hB k0 k1 k2

    have HBK := Aside0.mk (show w.drew.heap[g]? = some (.cells #[.pointer (mp M), .slice A buf.length buf.length, .int .i64 (hh : Int)] 83 (0, 0)) from HZ.out.win)
    have p0 : w.cell? ⟨g, 0, none⟩ = some (.pointer (mp M)) := (blk_cell HBK.out 0).trans rfl
    have p1 : w.cell? ⟨g, 1, none⟩ = some (.slice A buf.length buf.length) := (blk_cell HBK.out 1).trans rfl
    have p2 : w.cell? ⟨g, 2, none⟩ = some (.int .i64 (hh : Int)) := (blk_cell HBK.out 2).trans rfl
    have f2 : w.frozen? ⟨g, 2, none⟩ = false := blk_frozen HBK.out 2
    have hcl := cut_l A buf.length buf.length hh HZ.out.le
    obtain ⟨gb, rfl, hgb, hgbg, hgbM⟩ := HZ.out.row (by have := HRM.out; have := HLB.out; omega)
    rw [if_neg (by have := HRM.out; have := HLB.out; omega)] at hcl
    have hcl2 : ∀ W : World, (Instr.slice 38 (.slice (some ⟨gb, 0, none⟩) buf.length buf.length) (some (.int .i64 (hh : Int))) none none).run Try.prog W = .ok (.slice (some ⟨gb, hh, none⟩) (buf.length - hh) (buf.length - hh)) W := fun W => by
      rw [hcl W]
      simp [Addr.add_mid]
    clear hcl
    have HGB := Aside0.mk hgb
    have HNG := Aside0.mk hgbg
    have HNM := Aside0.mk hgbM
    have HBGB := Aside0.mk (HBgb gb rfl)
    have hw3 : wrap64 ((hh : Int) + (l.length : Int)) = ((hh + l.length : Nat) : Int) := by have := HHL.out; unfold wrap64; omega
    have hw4 : IntKind.i64.wrap ((hh : Int) + (l.length : Int)) = ((hh + l.length : Nat) : Int) := IntWalk.i64_in _ (by have := HHL.out; omega)
    have HLM := Aside0.mk (show l.length = Nat.min l.length (buf.length - hh) by have := HRM.out; show l.length = min l.length (buf.length - hh); omega)
    clear hgb hgbg hgbM
    refine wp_region_E (fun w' => w'.cell? ⟨g, 0, none⟩ = some (.pointer (mp M)) ∧ w'.cell? ⟨g, 1, none⟩ = some (.slice (some ⟨gb, 0, none⟩) buf.length buf.length) ∧ w'.cell? ⟨g, 2, none⟩ = some (.int .i64 (hh : Int))) 22 (by kernel_rfl) ⟨p0, p1, p2⟩ (fun hHeld => ?_)
    refine wpAnyE_take (i := 0) (oi := { dst := some 29, op := Op.move (Operand.tmp 0), type := 67, pos := "window.go:37", after := #[], guard := none }) (v := ?_) [] (by kernel_rfl) rfl (by kernel_rfl) (by kernel_rfl) (by kernel_rfl) (fun _ _ _ h => h) (Or.inl ⟨by rfl, ?_⟩) (by assumption) ?_
    rotate_left 1
    · intro w hSw
      (try dsimp only at hSw)
      go_simp
      all_goals try with_reducible rfl
    try simp only [Act.put, List.setIfInBounds_toArray, List.set_cons_zero, List.set_cons_succ]
    refine wpAnyE_take (i := 1) (oi := { dst := some 30, op := Op.nilCheck (Operand.tmp 29), type := 0, pos := "window.go:37", after := #[{ on := 0, ground := Ground.data }], guard := none }) (v := ?_) [] (by kernel_rfl) rfl (by kernel_rfl) (by kernel_rfl) (by kernel_rfl) (fun _ _ _ h => h) (Or.inl ⟨by rfl, ?_⟩) (by assumption) ?_
    rotate_left 1
    · intro w hSw
      (try dsimp only at hSw)
      go_simp
      all_goals try with_reducible rfl
    try simp only [Act.put, List.setIfInBounds_toArray, List.set_cons_zero, List.set_cons_succ]
    refine wpAnyE_take (i := 2) (oi := { dst := some 31, op := Op.fieldAddr 83 (Operand.tmp 30) 2, type := 0, pos := "window.go:37", after := #[{ on := 1, ground := Ground.data }], guard := none }) (v := ?_) [] (by kernel_rfl) rfl (by kernel_rfl) (by kernel_rfl) (by kernel_rfl) (fun _ _ _ h => h) (Or.inl ⟨by rfl, ?_⟩) (by assumption) ?_
    rotate_left 1
    · intro w hSw
      (try dsimp only at hSw)
      go_simp
      all_goals try with_reducible rfl
    try simp only [Act.put, List.setIfInBounds_toArray, List.set_cons_zero, List.set_cons_succ]
    refine wpAnyE_take (i := 3) (oi := { dst := some 32, op := Op.load 3 (Operand.tmp 31), type := 3, pos := "window.go:37", after := #[{ on := 2, ground := Ground.data }], guard := none }) (v := ?_) [] (by kernel_rfl) rfl (by kernel_rfl) (by kernel_rfl) (by kernel_rfl) (fun _ _ _ h => h) (Or.inl ⟨by rfl, ?_⟩) (by assumption) ?_
    rotate_left 1
    · intro w hSw
      (try dsimp only at hSw)
      go_simp
      all_goals try with_reducible rfl
    try simp only [Act.put, List.setIfInBounds_toArray, List.set_cons_zero, List.set_cons_succ]
    refine wpAnyE_take (i := 4) (oi := { dst := some 33, op := Op.move (Operand.tmp 0), type := 67, pos := "window.go:37", after := #[], guard := none }) (v := ?_) [] (by kernel_rfl) rfl (by kernel_rfl) (by kernel_rfl) (by kernel_rfl) (fun _ _ _ h => h) (Or.inl ⟨by rfl, ?_⟩) (by assumption) ?_
    rotate_left 1
    · intro w hSw
      (try dsimp only at hSw)
      go_simp
      all_goals try with_reducible rfl
    try simp only [Act.put, List.setIfInBounds_toArray, List.set_cons_zero, List.set_cons_succ]
    refine wpAnyE_take (i := 5) (oi := { dst := some 34, op := Op.nilCheck (Operand.tmp 33), type := 0, pos := "window.go:37", after := #[{ on := 4, ground := Ground.data }], guard := none }) (v := ?_) [] (by kernel_rfl) rfl (by kernel_rfl) (by kernel_rfl) (by kernel_rfl) (fun _ _ _ h => h) (Or.inl ⟨by rfl, ?_⟩) (by assumption) ?_
    rotate_left 1
    · intro w hSw
      (try dsimp only at hSw)
      go_simp
      all_goals try with_reducible rfl
    try simp only [Act.put, List.setIfInBounds_toArray, List.set_cons_zero, List.set_cons_succ]
    refine wpAnyE_take (i := 6) (oi := { dst := some 35, op := Op.fieldAddr 83 (Operand.tmp 34) 0, type := 0, pos := "window.go:37", after := #[{ on := 5, ground := Ground.data }], guard := none }) (v := ?_) [] (by kernel_rfl) rfl (by kernel_rfl) (by kernel_rfl) (by kernel_rfl) (fun _ _ _ h => h) (Or.inl ⟨by rfl, ?_⟩) (by assumption) ?_
    rotate_left 1
    · intro w hSw
      (try dsimp only at hSw)
      go_simp
      all_goals try with_reducible rfl
    try simp only [Act.put, List.setIfInBounds_toArray, List.set_cons_zero, List.set_cons_succ]
    refine wpAnyE_take (i := 7) (oi := { dst := some 36, op := Op.load 25 (Operand.tmp 35), type := 25, pos := "window.go:37", after := #[{ on := 6, ground := Ground.data }], guard := none }) (v := ?_) [] (by kernel_rfl) rfl (by kernel_rfl) (by kernel_rfl) (by kernel_rfl) (fun _ _ _ h => h) (Or.inl ⟨by rfl, ?_⟩) (by assumption) ?_
    rotate_left 1
    · intro w hSw
      (try dsimp only at hSw)
      go_simp
      all_goals try with_reducible rfl
    try simp only [Act.put, List.setIfInBounds_toArray, List.set_cons_zero, List.set_cons_succ]
    refine wpAnyE_take (i := 8) (oi := { dst := some 37, op := Op.move (Operand.tmp 0), type := 67, pos := "window.go:37", after := #[], guard := none }) (v := ?_) [] (by kernel_rfl) rfl (by kernel_rfl) (by kernel_rfl) (by kernel_rfl) (fun _ _ _ h => h) (Or.inl ⟨by rfl, ?_⟩) (by assumption) ?_
    rotate_left 1
    · intro w hSw
      (try dsimp only at hSw)
      go_simp
      all_goals try with_reducible rfl
    try simp only [Act.put, List.setIfInBounds_toArray, List.set_cons_zero, List.set_cons_succ]
    refine wpAnyE_take (i := 9) (oi := { dst := some 38, op := Op.nilCheck (Operand.tmp 37), type := 0, pos := "window.go:37", after := #[{ on := 8, ground := Ground.data }], guard := none }) (v := ?_) [] (by kernel_rfl) rfl (by kernel_rfl) (by kernel_rfl) (by kernel_rfl) (fun _ _ _ h => h) (Or.inl ⟨by rfl, ?_⟩) (by assumption) ?_
    rotate_left 1
    · intro w hSw
      (try dsimp only at hSw)
      go_simp
      all_goals try with_reducible rfl
    try simp only [Act.put, List.setIfInBounds_toArray, List.set_cons_zero, List.set_cons_succ]
    refine wpAnyE_take (i := 10) (oi := { dst := some 39, op := Op.fieldAddr 83 (Operand.tmp 38) 1, type := 0, pos := "window.go:37", after := #[{ on := 9, ground := Ground.data }], guard := none }) (v := ?_) [] (by kernel_rfl) rfl (by kernel_rfl) (by kernel_rfl) (by kernel_rfl) (fun _ _ _ h => h) (Or.inl ⟨by rfl, ?_⟩) (by assumption) ?_
    rotate_left 1
    · intro w hSw
      (try dsimp only at hSw)
      go_simp
      all_goals try with_reducible rfl
    try simp only [Act.put, List.setIfInBounds_toArray, List.set_cons_zero, List.set_cons_succ]
    refine wpAnyE_take (i := 11) (oi := { dst := some 40, op := Op.load 38 (Operand.tmp 39), type := 38, pos := "window.go:37", after := #[{ on := 10, ground := Ground.data }], guard := none }) (v := ?_) [] (by kernel_rfl) rfl (by kernel_rfl) (by kernel_rfl) (by kernel_rfl) (fun _ _ _ h => h) (Or.inl ⟨by rfl, ?_⟩) (by assumption) ?_
    rotate_left 1
    · intro w hSw
      (try dsimp only at hSw)
      go_simp
      all_goals try with_reducible rfl
    try simp only [Act.put, List.setIfInBounds_toArray, List.set_cons_zero, List.set_cons_succ]
    refine wpAnyE_take (i := 12) (oi := { dst := some 41, op := Op.move (Operand.tmp 0), type := 67, pos := "window.go:37", after := #[], guard := none }) (v := ?_) [] (by kernel_rfl) rfl (by kernel_rfl) (by kernel_rfl) (by kernel_rfl) (fun _ _ _ h => h) (Or.inl ⟨by rfl, ?_⟩) (by assumption) ?_
    rotate_left 1
    · intro w hSw
      (try dsimp only at hSw)
      go_simp
      all_goals try with_reducible rfl
    try simp only [Act.put, List.setIfInBounds_toArray, List.set_cons_zero, List.set_cons_succ]
    refine wpAnyE_take (i := 13) (oi := { dst := some 42, op := Op.nilCheck (Operand.tmp 41), type := 0, pos := "window.go:37", after := #[{ on := 12, ground := Ground.data }], guard := none }) (v := ?_) [] (by kernel_rfl) rfl (by kernel_rfl) (by kernel_rfl) (by kernel_rfl) (fun _ _ _ h => h) (Or.inl ⟨by rfl, ?_⟩) (by assumption) ?_
    rotate_left 1
    · intro w hSw
      (try dsimp only at hSw)
      go_simp
      all_goals try with_reducible rfl
    try simp only [Act.put, List.setIfInBounds_toArray, List.set_cons_zero, List.set_cons_succ]
    refine wpAnyE_take (i := 14) (oi := { dst := some 43, op := Op.fieldAddr 83 (Operand.tmp 42) 2, type := 0, pos := "window.go:37", after := #[{ on := 13, ground := Ground.data }], guard := none }) (v := ?_) [] (by kernel_rfl) rfl (by kernel_rfl) (by kernel_rfl) (by kernel_rfl) (fun _ _ _ h => h) (Or.inl ⟨by rfl, ?_⟩) (by assumption) ?_
    rotate_left 1
    · intro w hSw
      (try dsimp only at hSw)
      go_simp
      all_goals try with_reducible rfl
    try simp only [Act.put, List.setIfInBounds_toArray, List.set_cons_zero, List.set_cons_succ]
    refine wpAnyE_take (i := 15) (oi := { dst := some 44, op := Op.load 3 (Operand.tmp 43), type := 3, pos := "window.go:37", after := #[{ on := 14, ground := Ground.data }], guard := none }) (v := ?_) [] (by kernel_rfl) rfl (by kernel_rfl) (by kernel_rfl) (by kernel_rfl) (fun _ _ _ h => h) (Or.inl ⟨by rfl, ?_⟩) (by assumption) ?_
    rotate_left 1
    · intro w hSw
      (try dsimp only at hSw)
      go_simp
      all_goals try with_reducible rfl
    try simp only [Act.put, List.setIfInBounds_toArray, List.set_cons_zero, List.set_cons_succ]
    refine wpAnyE_take (i := 16) (oi := { dst := some 45, op := Op.slice 38 (Operand.tmp 40) (some (Operand.tmp 44)) none none, type := 38, pos := "window.go:37", after := #[{ on := 11, ground := Ground.data }, { on := 15, ground := Ground.data }], guard := none }) (v := ?_) [] (by kernel_rfl) rfl (by kernel_rfl) (by kernel_rfl) (by kernel_rfl) (fun _ _ _ h => h) (Or.inl ⟨by rfl, ?_⟩) (by assumption) ?_
    rotate_left 1
    · intro w hSw
      (try dsimp only at hSw)
      go_simp
      all_goals try with_reducible rfl
    try simp only [Act.put, List.setIfInBounds_toArray, List.set_cons_zero, List.set_cons_succ]
    refine wpAnyE_take (i := 17) (oi := { dst := some 46, op := Op.move (Operand.tmp 1), type := 38, pos := "window.go:37", after := #[], guard := none }) (v := ?_) [] (by kernel_rfl) rfl (by kernel_rfl) (by kernel_rfl) (by kernel_rfl) (fun _ _ _ h => h) (Or.inl ⟨by rfl, ?_⟩) (by assumption) ?_
    rotate_left 1
    · intro w hSw
      (try dsimp only at hSw)
      go_simp
      all_goals try with_reducible rfl
    try simp only [Act.put, List.setIfInBounds_toArray, List.set_cons_zero, List.set_cons_succ]
    refine wpAnyE_one (i := 18) (o := { dst := some 47, op := Op.call { callee := Callee.value (Operand.func 39), args := #[Operand.tmp 36, Operand.tmp 45, Operand.tmp 46], argTypes := #[25, 38, 38] }, type := 3, pos := "window.go:37", after := #[{ on := 7, ground := Ground.data }, { on := 16, ground := Ground.data }, { on := 17, ground := Ground.data }], guard := none }) (by kernel_rfl) rfl (fun K hK => ?_)
    clear hHeld
    go_simp
    refine (copy_calls M a b c mv gb hh buf l (some ⟨gb, hh, none⟩) Ab (buf.length - hh) (buf.length - hh) l.length cb B w.drew HZ.out.met HGB.out HLM.out (fun _ => rfl) (fun hp => HSRC.out hp) (by have := HRM.out; omega) HNM.out HBGB.out HBM.out HMV.out).mono ?_
    rintro e w3 ⟨rfl, hg3, hm3, hk3, hb3⟩
    have HBK3 := Aside0.mk (blk_kept HBK.out hk3 (fun q => q.elim (fun e => HNG.out e.symm) (fun e => HZ.out.ne e)))
    clear HBK p0 p1 p2 f2
    have HBK := HBK3
    clear HBK3
    have p0 := (blk_cell HBK.out 0).trans (show _ = some (Value.pointer (mp M)) from rfl)
    have p1 := (blk_cell HBK.out 1).trans (show _ = some (Value.slice (some ⟨gb, 0, none⟩) buf.length buf.length) from rfl)
    have p2 := (blk_cell HBK.out 2).trans (show _ = some (Value.int .i64 (hh : Int)) from rfl)
    have f2 := blk_frozen HBK.out 2
    have HG3 := Aside0.mk hg3
    have HM3 := Aside0.mk hm3
    have HK3 := Aside0.mk hk3
    have HB3 := Aside0.mk hb3
    clear hg3 hm3 hk3 hb3
    refine hK.out _ _ ⟨p0, p1, p2⟩ (fun hHeld => ?_)
    clear hK K
    try simp only [Act.put, List.setIfInBounds_toArray, List.set_cons_zero, List.set_cons_succ]
    refine wpAnyE_take (i := 19) (oi := { dst := some 48, op := Op.binOp BinOp.add 3 (Operand.tmp 32) (Operand.tmp 47) 3, type := 3, pos := "window.go:37", after := #[{ on := 3, ground := Ground.data }, { on := 18, ground := Ground.data }], guard := none }) (v := ?_) [] (by kernel_rfl) rfl (by kernel_rfl) (by kernel_rfl) (by kernel_rfl) (fun _ _ _ h => h) (Or.inl ⟨by rfl, ?_⟩) (by assumption) ?_
    rotate_left 1
    · intro w hSw
      (try dsimp only at hSw)
      go_simp
      all_goals try with_reducible rfl
    try simp only [Act.put, List.setIfInBounds_toArray, List.set_cons_zero, List.set_cons_succ]
    refine wpAnyE_take (i := 20) (oi := { dst := some 49, op := Op.nilCheck (Operand.tmp 29), type := 0, pos := "window.go:37", after := #[{ on := 0, ground := Ground.data }, { on := 0, ground := Ground.phase }, { on := 1, ground := Ground.phase }, { on := 2, ground := Ground.phase }, { on := 3, ground := Ground.phase }, { on := 4, ground := Ground.phase }, { on := 5, ground := Ground.phase }, { on := 6, ground := Ground.phase }, { on := 7, ground := Ground.phase }, { on := 8, ground := Ground.phase }, { on := 9, ground := Ground.phase }, { on := 10, ground := Ground.phase }, { on := 11, ground := Ground.phase }, { on := 12, ground := Ground.phase }, { on := 13, ground := Ground.phase }, { on := 14, ground := Ground.phase }, { on := 15, ground := Ground.phase }, { on := 16, ground := Ground.phase }, { on := 17, ground := Ground.phase }, { on := 18, ground := Ground.phase }, { on := 19, ground := Ground.phase }], guard := none }) (v := ?_) [21] (by kernel_rfl) rfl (by kernel_rfl) (by kernel_rfl) (by kernel_rfl) (fun _ _ _ h => h) (Or.inl ⟨by rfl, ?_⟩) (by assumption) ?_
    rotate_left 1
    · intro w hSw
      (try dsimp only at hSw)
      go_simp
      all_goals try with_reducible rfl
    try simp only [Act.put, List.setIfInBounds_toArray, List.set_cons_zero, List.set_cons_succ]
    refine wpAnyE_take (i := 21) (oi := { dst := some 50, op := Op.fieldAddr 83 (Operand.tmp 49) 2, type := 0, pos := "window.go:37", after := #[{ on := 20, ground := Ground.data }, { on := 0, ground := Ground.phase }, { on := 1, ground := Ground.phase }, { on := 2, ground := Ground.phase }, { on := 3, ground := Ground.phase }, { on := 4, ground := Ground.phase }, { on := 5, ground := Ground.phase }, { on := 6, ground := Ground.phase }, { on := 7, ground := Ground.phase }, { on := 8, ground := Ground.phase }, { on := 9, ground := Ground.phase }, { on := 10, ground := Ground.phase }, { on := 11, ground := Ground.phase }, { on := 12, ground := Ground.phase }, { on := 13, ground := Ground.phase }, { on := 14, ground := Ground.phase }, { on := 15, ground := Ground.phase }, { on := 16, ground := Ground.phase }, { on := 17, ground := Ground.phase }, { on := 18, ground := Ground.phase }, { on := 19, ground := Ground.phase }], guard := none }) (v := ?_) [] (by kernel_rfl) rfl (by kernel_rfl) (by kernel_rfl) (by kernel_rfl) (fun _ _ _ h => h) (Or.inl ⟨by rfl, ?_⟩) (by assumption) ?_
    rotate_left 1
    · intro w hSw
      (try dsimp only at hSw)
      go_simp
      all_goals try with_reducible rfl
    try simp only [Act.put, List.setIfInBounds_toArray, List.set_cons_zero, List.set_cons_succ]
    refine wpAnyE_last (o := { dst := none, op := Op.store 3 (Operand.tmp 50) (Operand.tmp 48), type := 0, pos := "window.go:37", after := #[{ on := 21, ground := Ground.data }, { on := 19, ground := Ground.data }, { on := 18, ground := Ground.chain }, { on := 0, ground := Ground.phase }, { on := 1, ground := Ground.phase }, { on := 2, ground := Ground.phase }, { on := 3, ground := Ground.phase }, { on := 4, ground := Ground.phase }, { on := 5, ground := Ground.phase }, { on := 6, ground := Ground.phase }, { on := 7, ground := Ground.phase }, { on := 8, ground := Ground.phase }, { on := 9, ground := Ground.phase }, { on := 10, ground := Ground.phase }, { on := 11, ground := Ground.phase }, { on := 12, ground := Ground.phase }, { on := 13, ground := Ground.phase }, { on := 14, ground := Ground.phase }, { on := 15, ground := Ground.phase }, { on := 16, ground := Ground.phase }, { on := 17, ground := Ground.phase }, { on := 18, ground := Ground.phase }, { on := 19, ground := Ground.phase }], guard := none }) (by kernel_rfl) rfl (fun K hK => ?_)
    clear hHeld
    go_simp
    refine hK.out _ _ ?_
    clear hK K
    refine wpAnyE_done (by kernel_rfl) ?_ _
    try simp only [Act.put, List.setIfInBounds_toArray, List.set_cons_zero, List.set_cons_succ]
    all_goals go_wp2
    all_goals refine bodyPost_end (results_none rfl _ _ _) rfl ?_
    all_goals have hsl := length_splice buf hh l HRM.out
    all_goals have HWF : WinAt (w3.setCell ⟨g, 2, none⟩ (.int .i64 ((hh + l.length : Nat) : Int))) g M a b c (some ⟨gb, 0, none⟩) (splice buf hh l) (hh + l.length) (mv + l.length) := ⟨by rw [hsl]; exact blk_set HBK.out 2 _, by rw [hsl]; exact HRM.out, by rw [hsl]; intro e; have := HRM.out; have := HLB.out; omega, fun _ => ⟨gb, rfl, blk_far HG3.out (p := ⟨g, 2, none⟩) HNG.out _, HNG.out, HNM.out⟩, HZ.out.ne, HM3.out.far (p := ⟨g, 2, none⟩) HZ.out.ne _⟩
    all_goals have HKF : Kept w (w3.setCell ⟨g, 2, none⟩ (.int .i64 ((hh + l.length : Nat) : Int))) (fun k => k = g ∨ M = some k ∨ k = gb) := Kept.setCell (S := fun k => k = g ∨ M = some k ∨ k = gb) (p := ⟨g, 2, none⟩) (Kept.mono (show Kept w w3 _ from HK3.out) (fun k hk => hk.elim (fun e => Or.inr (Or.inr e)) (fun e => Or.inr (Or.inl e)))) (Or.inl (Or.inl rfl)) _
    all_goals have HBF : Below B w (w3.setCell ⟨g, 2, none⟩ (.int .i64 ((hh + l.length : Nat) : Int))) := Below.setCell (p := ⟨g, 2, none⟩) (Below.trans (Below.drew (Below.refl B w)) HB3.out) HBG.out _
    all_goals have hst := splice_take buf l hh HRM.out
    all_goals try rw [if_pos hfit]
    all_goals try rw [if_pos hfit]
    all_goals exact ⟨rfl, ⟨_, _, HWF, hst, hsl, Or.inl rfl⟩, Kept.mono HKF (fun k hk => hk.elim Or.inl (fun hk => Or.inr (hk.elim Or.inl (fun e => Or.inr (by first | exact e.symm | exact ⟨⟨gb, 0, none⟩, rfl, e.symm⟩))))), HBF⟩
  · have c1 : decide (((hh + l.length : Nat) : Int) > (buf.length : Int)) = true := decide_eq_true (by omega)
    have c2 : decide ((buf.length : Int) < (hh : Int) + (l.length : Int)) = true := decide_eq_true (by omega)
    have HSR0 := Aside0.mk (fun (hp : 0 < l.length) => src_of hsrc hp)
    have HFAR := Aside0.mk hfar
    have HBM := Aside0.mk hBM
    have HBG := Aside0.mk hB
    have HLB := Aside0.mk hl0
    have HLN := Aside0.mk (show buf.length ≤ 10000000000 ∧ l.length ≤ 10000000000 ∧ mv ≤ 100000000000 from ⟨hl, hN, hmv⟩)
    have HFT := Aside0.mk hfit
    have HSZ := Aside0.mk (blk_lt hW.win)
    clear hW hB hBM hBA hsrc hfar hl0 hl hN hmv hfit
    go_enter Try.func30, Try.ntmps30
    go_wp2_with fail
    refine (grow_calls w g M a b c A buf hh mv (hh + l.length) B HW.out HBG.out HBM.out (by have := HLN.out; omega) (by have := HHL.out; omega) (by have := HLN.out; have := HHL.out; omega)).mono ?_
    rintro e w2 ⟨rfl, ⟨g0, hg0, hz2⟩, hk2, hb2⟩
    have HK2 := Aside0.mk hk2
    have HB2 := Aside0.mk hb2
    have HG0 := Aside0.mk hg0
    have hln : (splice (List.replicate (roomN buf.length (hh + l.length)) 0) 0 (buf.take hh)).length = roomN buf.length (hh + l.length) := by
      rw [length_splice _ _ _ (by rw [List.length_replicate, List.length_take]; unfold roomN; have := HW.out.le; omega), List.length_replicate]
    have htk := splice_take0 (roomN buf.length (hh + l.length)) hh buf HW.out.le (by unfold roomN; omega)
    have hrm : hh + l.length ≤ roomN buf.length (hh + l.length) := by unfold roomN; omega
    generalize splice (List.replicate (roomN buf.length (hh + l.length)) 0) 0 (buf.take hh) = bz at hz2 hln htk
    have HLZ := Aside0.mk hln
    have HTK := Aside0.mk htk
    have HZ := Aside0.mk hz2
    have HRM := Aside0.mk (show hh + l.length ≤ bz.length by rw [hln]; exact hrm)
    have HBgb : ∀ gb, (some ⟨g0, 0, none⟩ : Option Addr) = some ⟨gb, 0, none⟩ → B ≤ gb := fun gb e => by cases e; have := HBG.out; have := HSZ.out; omega
    have HSRC := Aside0.mk (fun (hp : 0 < l.length) => show ∃ ad, Ab = some ad ∧ ∀ j x, l[j]? = some x → w2.cell? (ad.add j) = some (.int .u8 x) by
      obtain ⟨ad, hA, hx⟩ := HSR0.out hp
      refine ⟨ad, hA, fun j x hj => cell_kept (hx j x hj) hk2 (fun hs => ?_)⟩
      have e : (ad.add j).block = ad.block := by unfold Addr.add; split <;> rfl
      rw [e] at hs
      exact hs.elim (HFAR.out ad hA).1 (HFAR.out ad hA).2)
    have HMV := Aside0.mk (show mv + hh + l.length ≤ 1000000000000 by have := HLN.out; have := HHL.out; omega)
    have hz2le := hz2.le
    have hr1 : (w2.cell? ⟨g, 1, none⟩) = some (.slice (some ⟨g0, 0, none⟩) bz.length bz.length) := (blk_cell hz2.win 1).trans rfl
    clear hk2 hb2 hg0 hln htk hz2 k0 k1 k2 hr1 hz2le hrm c1 c2
    go_wp2_with fail

    have HBK := Aside0.mk (show w2.drew.heap[g]? = some (.cells #[.pointer (mp M), .slice (some ⟨g0, 0, none⟩) bz.length bz.length, .int .i64 (hh : Int)] 83 (0, 0)) from HZ.out.win)
    have p0 : w2.cell? ⟨g, 0, none⟩ = some (.pointer (mp M)) := (blk_cell HBK.out 0).trans rfl
    have p1 : w2.cell? ⟨g, 1, none⟩ = some (.slice (some ⟨g0, 0, none⟩) bz.length bz.length) := (blk_cell HBK.out 1).trans rfl
    have p2 : w2.cell? ⟨g, 2, none⟩ = some (.int .i64 (hh : Int)) := (blk_cell HBK.out 2).trans rfl
    have f2 : w2.frozen? ⟨g, 2, none⟩ = false := blk_frozen HBK.out 2
    have hcl := cut_l (some ⟨g0, 0, none⟩) bz.length bz.length hh HZ.out.le
    obtain ⟨gb, hgg, hgb, hgbg, hgbM⟩ := HZ.out.row (by have := HRM.out; have := HLB.out; omega)
    obtain rfl : g0 = gb := by cases hgg; rfl
    clear hgg
    rw [if_neg (by have := HRM.out; have := HLB.out; omega)] at hcl
    have hcl2 : ∀ W : World, (Instr.slice 38 (.slice (some ⟨g0, 0, none⟩) bz.length bz.length) (some (.int .i64 (hh : Int))) none none).run Try.prog W = .ok (.slice (some ⟨g0, hh, none⟩) (bz.length - hh) (bz.length - hh)) W := fun W => by
      rw [hcl W]
      simp [Addr.add_mid]
    clear hcl
    have HGB := Aside0.mk hgb
    have HNG := Aside0.mk hgbg
    have HNM := Aside0.mk hgbM
    have HBGB := Aside0.mk (HBgb g0 rfl)
    have hw3 : wrap64 ((hh : Int) + (l.length : Int)) = ((hh + l.length : Nat) : Int) := by have := HHL.out; unfold wrap64; omega
    have hw4 : IntKind.i64.wrap ((hh : Int) + (l.length : Int)) = ((hh + l.length : Nat) : Int) := IntWalk.i64_in _ (by have := HHL.out; omega)
    have HLM := Aside0.mk (show l.length = Nat.min l.length (bz.length - hh) by have := HRM.out; show l.length = min l.length (bz.length - hh); omega)
    clear hgb hgbg hgbM
    refine wp_region_E (fun w' => w'.cell? ⟨g, 0, none⟩ = some (.pointer (mp M)) ∧ w'.cell? ⟨g, 1, none⟩ = some (.slice (some ⟨g0, 0, none⟩) bz.length bz.length) ∧ w'.cell? ⟨g, 2, none⟩ = some (.int .i64 (hh : Int))) 22 (by kernel_rfl) ⟨p0, p1, p2⟩ (fun hHeld => ?_)
    refine wpAnyE_take (i := 0) (oi := { dst := some 29, op := Op.move (Operand.tmp 0), type := 67, pos := "window.go:37", after := #[], guard := none }) (v := ?_) [] (by kernel_rfl) rfl (by kernel_rfl) (by kernel_rfl) (by kernel_rfl) (fun _ _ _ h => h) (Or.inl ⟨by rfl, ?_⟩) (by assumption) ?_
    rotate_left 1
    · intro w hSw
      (try dsimp only at hSw)
      go_simp
      all_goals try with_reducible rfl
    try simp only [Act.put, List.setIfInBounds_toArray, List.set_cons_zero, List.set_cons_succ]
    refine wpAnyE_take (i := 1) (oi := { dst := some 30, op := Op.nilCheck (Operand.tmp 29), type := 0, pos := "window.go:37", after := #[{ on := 0, ground := Ground.data }], guard := none }) (v := ?_) [] (by kernel_rfl) rfl (by kernel_rfl) (by kernel_rfl) (by kernel_rfl) (fun _ _ _ h => h) (Or.inl ⟨by rfl, ?_⟩) (by assumption) ?_
    rotate_left 1
    · intro w hSw
      (try dsimp only at hSw)
      go_simp
      all_goals try with_reducible rfl
    try simp only [Act.put, List.setIfInBounds_toArray, List.set_cons_zero, List.set_cons_succ]
    refine wpAnyE_take (i := 2) (oi := { dst := some 31, op := Op.fieldAddr 83 (Operand.tmp 30) 2, type := 0, pos := "window.go:37", after := #[{ on := 1, ground := Ground.data }], guard := none }) (v := ?_) [] (by kernel_rfl) rfl (by kernel_rfl) (by kernel_rfl) (by kernel_rfl) (fun _ _ _ h => h) (Or.inl ⟨by rfl, ?_⟩) (by assumption) ?_
    rotate_left 1
    · intro w hSw
      (try dsimp only at hSw)
      go_simp
      all_goals try with_reducible rfl
    try simp only [Act.put, List.setIfInBounds_toArray, List.set_cons_zero, List.set_cons_succ]
    refine wpAnyE_take (i := 3) (oi := { dst := some 32, op := Op.load 3 (Operand.tmp 31), type := 3, pos := "window.go:37", after := #[{ on := 2, ground := Ground.data }], guard := none }) (v := ?_) [] (by kernel_rfl) rfl (by kernel_rfl) (by kernel_rfl) (by kernel_rfl) (fun _ _ _ h => h) (Or.inl ⟨by rfl, ?_⟩) (by assumption) ?_
    rotate_left 1
    · intro w hSw
      (try dsimp only at hSw)
      go_simp
      all_goals try with_reducible rfl
    try simp only [Act.put, List.setIfInBounds_toArray, List.set_cons_zero, List.set_cons_succ]
    refine wpAnyE_take (i := 4) (oi := { dst := some 33, op := Op.move (Operand.tmp 0), type := 67, pos := "window.go:37", after := #[], guard := none }) (v := ?_) [] (by kernel_rfl) rfl (by kernel_rfl) (by kernel_rfl) (by kernel_rfl) (fun _ _ _ h => h) (Or.inl ⟨by rfl, ?_⟩) (by assumption) ?_
    rotate_left 1
    · intro w hSw
      (try dsimp only at hSw)
      go_simp
      all_goals try with_reducible rfl
    try simp only [Act.put, List.setIfInBounds_toArray, List.set_cons_zero, List.set_cons_succ]
    refine wpAnyE_take (i := 5) (oi := { dst := some 34, op := Op.nilCheck (Operand.tmp 33), type := 0, pos := "window.go:37", after := #[{ on := 4, ground := Ground.data }], guard := none }) (v := ?_) [] (by kernel_rfl) rfl (by kernel_rfl) (by kernel_rfl) (by kernel_rfl) (fun _ _ _ h => h) (Or.inl ⟨by rfl, ?_⟩) (by assumption) ?_
    rotate_left 1
    · intro w hSw
      (try dsimp only at hSw)
      go_simp
      all_goals try with_reducible rfl
    try simp only [Act.put, List.setIfInBounds_toArray, List.set_cons_zero, List.set_cons_succ]
    refine wpAnyE_take (i := 6) (oi := { dst := some 35, op := Op.fieldAddr 83 (Operand.tmp 34) 0, type := 0, pos := "window.go:37", after := #[{ on := 5, ground := Ground.data }], guard := none }) (v := ?_) [] (by kernel_rfl) rfl (by kernel_rfl) (by kernel_rfl) (by kernel_rfl) (fun _ _ _ h => h) (Or.inl ⟨by rfl, ?_⟩) (by assumption) ?_
    rotate_left 1
    · intro w hSw
      (try dsimp only at hSw)
      go_simp
      all_goals try with_reducible rfl
    try simp only [Act.put, List.setIfInBounds_toArray, List.set_cons_zero, List.set_cons_succ]
    refine wpAnyE_take (i := 7) (oi := { dst := some 36, op := Op.load 25 (Operand.tmp 35), type := 25, pos := "window.go:37", after := #[{ on := 6, ground := Ground.data }], guard := none }) (v := ?_) [] (by kernel_rfl) rfl (by kernel_rfl) (by kernel_rfl) (by kernel_rfl) (fun _ _ _ h => h) (Or.inl ⟨by rfl, ?_⟩) (by assumption) ?_
    rotate_left 1
    · intro w hSw
      (try dsimp only at hSw)
      go_simp
      all_goals try with_reducible rfl
    try simp only [Act.put, List.setIfInBounds_toArray, List.set_cons_zero, List.set_cons_succ]
    refine wpAnyE_take (i := 8) (oi := { dst := some 37, op := Op.move (Operand.tmp 0), type := 67, pos := "window.go:37", after := #[], guard := none }) (v := ?_) [] (by kernel_rfl) rfl (by kernel_rfl) (by kernel_rfl) (by kernel_rfl) (fun _ _ _ h => h) (Or.inl ⟨by rfl, ?_⟩) (by assumption) ?_
    rotate_left 1
    · intro w hSw
      (try dsimp only at hSw)
      go_simp
      all_goals try with_reducible rfl
    try simp only [Act.put, List.setIfInBounds_toArray, List.set_cons_zero, List.set_cons_succ]
    refine wpAnyE_take (i := 9) (oi := { dst := some 38, op := Op.nilCheck (Operand.tmp 37), type := 0, pos := "window.go:37", after := #[{ on := 8, ground := Ground.data }], guard := none }) (v := ?_) [] (by kernel_rfl) rfl (by kernel_rfl) (by kernel_rfl) (by kernel_rfl) (fun _ _ _ h => h) (Or.inl ⟨by rfl, ?_⟩) (by assumption) ?_
    rotate_left 1
    · intro w hSw
      (try dsimp only at hSw)
      go_simp
      all_goals try with_reducible rfl
    try simp only [Act.put, List.setIfInBounds_toArray, List.set_cons_zero, List.set_cons_succ]
    refine wpAnyE_take (i := 10) (oi := { dst := some 39, op := Op.fieldAddr 83 (Operand.tmp 38) 1, type := 0, pos := "window.go:37", after := #[{ on := 9, ground := Ground.data }], guard := none }) (v := ?_) [] (by kernel_rfl) rfl (by kernel_rfl) (by kernel_rfl) (by kernel_rfl) (fun _ _ _ h => h) (Or.inl ⟨by rfl, ?_⟩) (by assumption) ?_
    rotate_left 1
    · intro w hSw
      (try dsimp only at hSw)
      go_simp
      all_goals try with_reducible rfl
    try simp only [Act.put, List.setIfInBounds_toArray, List.set_cons_zero, List.set_cons_succ]
    refine wpAnyE_take (i := 11) (oi := { dst := some 40, op := Op.load 38 (Operand.tmp 39), type := 38, pos := "window.go:37", after := #[{ on := 10, ground := Ground.data }], guard := none }) (v := ?_) [] (by kernel_rfl) rfl (by kernel_rfl) (by kernel_rfl) (by kernel_rfl) (fun _ _ _ h => h) (Or.inl ⟨by rfl, ?_⟩) (by assumption) ?_
    rotate_left 1
    · intro w hSw
      (try dsimp only at hSw)
      go_simp
      all_goals try with_reducible rfl
    try simp only [Act.put, List.setIfInBounds_toArray, List.set_cons_zero, List.set_cons_succ]
    refine wpAnyE_take (i := 12) (oi := { dst := some 41, op := Op.move (Operand.tmp 0), type := 67, pos := "window.go:37", after := #[], guard := none }) (v := ?_) [] (by kernel_rfl) rfl (by kernel_rfl) (by kernel_rfl) (by kernel_rfl) (fun _ _ _ h => h) (Or.inl ⟨by rfl, ?_⟩) (by assumption) ?_
    rotate_left 1
    · intro w hSw
      (try dsimp only at hSw)
      go_simp
      all_goals try with_reducible rfl
    try simp only [Act.put, List.setIfInBounds_toArray, List.set_cons_zero, List.set_cons_succ]
    refine wpAnyE_take (i := 13) (oi := { dst := some 42, op := Op.nilCheck (Operand.tmp 41), type := 0, pos := "window.go:37", after := #[{ on := 12, ground := Ground.data }], guard := none }) (v := ?_) [] (by kernel_rfl) rfl (by kernel_rfl) (by kernel_rfl) (by kernel_rfl) (fun _ _ _ h => h) (Or.inl ⟨by rfl, ?_⟩) (by assumption) ?_
    rotate_left 1
    · intro w hSw
      (try dsimp only at hSw)
      go_simp
      all_goals try with_reducible rfl
    try simp only [Act.put, List.setIfInBounds_toArray, List.set_cons_zero, List.set_cons_succ]
    refine wpAnyE_take (i := 14) (oi := { dst := some 43, op := Op.fieldAddr 83 (Operand.tmp 42) 2, type := 0, pos := "window.go:37", after := #[{ on := 13, ground := Ground.data }], guard := none }) (v := ?_) [] (by kernel_rfl) rfl (by kernel_rfl) (by kernel_rfl) (by kernel_rfl) (fun _ _ _ h => h) (Or.inl ⟨by rfl, ?_⟩) (by assumption) ?_
    rotate_left 1
    · intro w hSw
      (try dsimp only at hSw)
      go_simp
      all_goals try with_reducible rfl
    try simp only [Act.put, List.setIfInBounds_toArray, List.set_cons_zero, List.set_cons_succ]
    refine wpAnyE_take (i := 15) (oi := { dst := some 44, op := Op.load 3 (Operand.tmp 43), type := 3, pos := "window.go:37", after := #[{ on := 14, ground := Ground.data }], guard := none }) (v := ?_) [] (by kernel_rfl) rfl (by kernel_rfl) (by kernel_rfl) (by kernel_rfl) (fun _ _ _ h => h) (Or.inl ⟨by rfl, ?_⟩) (by assumption) ?_
    rotate_left 1
    · intro w hSw
      (try dsimp only at hSw)
      go_simp
      all_goals try with_reducible rfl
    try simp only [Act.put, List.setIfInBounds_toArray, List.set_cons_zero, List.set_cons_succ]
    refine wpAnyE_take (i := 16) (oi := { dst := some 45, op := Op.slice 38 (Operand.tmp 40) (some (Operand.tmp 44)) none none, type := 38, pos := "window.go:37", after := #[{ on := 11, ground := Ground.data }, { on := 15, ground := Ground.data }], guard := none }) (v := ?_) [] (by kernel_rfl) rfl (by kernel_rfl) (by kernel_rfl) (by kernel_rfl) (fun _ _ _ h => h) (Or.inl ⟨by rfl, ?_⟩) (by assumption) ?_
    rotate_left 1
    · intro w hSw
      (try dsimp only at hSw)
      go_simp
      all_goals try with_reducible rfl
    try simp only [Act.put, List.setIfInBounds_toArray, List.set_cons_zero, List.set_cons_succ]
    refine wpAnyE_take (i := 17) (oi := { dst := some 46, op := Op.move (Operand.tmp 1), type := 38, pos := "window.go:37", after := #[], guard := none }) (v := ?_) [] (by kernel_rfl) rfl (by kernel_rfl) (by kernel_rfl) (by kernel_rfl) (fun _ _ _ h => h) (Or.inl ⟨by rfl, ?_⟩) (by assumption) ?_
    rotate_left 1
    · intro w hSw
      (try dsimp only at hSw)
      go_simp
      all_goals try with_reducible rfl
    try simp only [Act.put, List.setIfInBounds_toArray, List.set_cons_zero, List.set_cons_succ]
    refine wpAnyE_one (i := 18) (o := { dst := some 47, op := Op.call { callee := Callee.value (Operand.func 39), args := #[Operand.tmp 36, Operand.tmp 45, Operand.tmp 46], argTypes := #[25, 38, 38] }, type := 3, pos := "window.go:37", after := #[{ on := 7, ground := Ground.data }, { on := 16, ground := Ground.data }, { on := 17, ground := Ground.data }], guard := none }) (by kernel_rfl) rfl (fun K hK => ?_)
    clear hHeld
    go_simp
    refine (copy_calls M a b c (mv + hh) g0 hh bz l (some ⟨g0, hh, none⟩) Ab (bz.length - hh) (bz.length - hh) l.length cb B w2.drew HZ.out.met HGB.out HLM.out (fun _ => rfl) (fun hp => HSRC.out hp) (by have := HRM.out; omega) HNM.out HBGB.out HBM.out HMV.out).mono ?_
    rintro e w3 ⟨rfl, hg3, hm3, hk3, hb3⟩
    have HBK3 := Aside0.mk (blk_kept HBK.out hk3 (fun q => q.elim (fun e => HNG.out e.symm) (fun e => HZ.out.ne e)))
    clear HBK p0 p1 p2 f2
    have HBK := HBK3
    clear HBK3
    have p0 := (blk_cell HBK.out 0).trans (show _ = some (Value.pointer (mp M)) from rfl)
    have p1 := (blk_cell HBK.out 1).trans (show _ = some (Value.slice (some ⟨g0, 0, none⟩) bz.length bz.length) from rfl)
    have p2 := (blk_cell HBK.out 2).trans (show _ = some (Value.int .i64 (hh : Int)) from rfl)
    have f2 := blk_frozen HBK.out 2
    have HG3 := Aside0.mk hg3
    have HM3 := Aside0.mk hm3
    have HK3 := Aside0.mk hk3
    have HB3 := Aside0.mk hb3
    clear hg3 hm3 hk3 hb3
    refine hK.out _ _ ⟨p0, p1, p2⟩ (fun hHeld => ?_)
    clear hK K
    try simp only [Act.put, List.setIfInBounds_toArray, List.set_cons_zero, List.set_cons_succ]
    refine wpAnyE_take (i := 19) (oi := { dst := some 48, op := Op.binOp BinOp.add 3 (Operand.tmp 32) (Operand.tmp 47) 3, type := 3, pos := "window.go:37", after := #[{ on := 3, ground := Ground.data }, { on := 18, ground := Ground.data }], guard := none }) (v := ?_) [] (by kernel_rfl) rfl (by kernel_rfl) (by kernel_rfl) (by kernel_rfl) (fun _ _ _ h => h) (Or.inl ⟨by rfl, ?_⟩) (by assumption) ?_
    rotate_left 1
    · intro w hSw
      (try dsimp only at hSw)
      go_simp
      all_goals try with_reducible rfl
    try simp only [Act.put, List.setIfInBounds_toArray, List.set_cons_zero, List.set_cons_succ]
    refine wpAnyE_take (i := 20) (oi := { dst := some 49, op := Op.nilCheck (Operand.tmp 29), type := 0, pos := "window.go:37", after := #[{ on := 0, ground := Ground.data }, { on := 0, ground := Ground.phase }, { on := 1, ground := Ground.phase }, { on := 2, ground := Ground.phase }, { on := 3, ground := Ground.phase }, { on := 4, ground := Ground.phase }, { on := 5, ground := Ground.phase }, { on := 6, ground := Ground.phase }, { on := 7, ground := Ground.phase }, { on := 8, ground := Ground.phase }, { on := 9, ground := Ground.phase }, { on := 10, ground := Ground.phase }, { on := 11, ground := Ground.phase }, { on := 12, ground := Ground.phase }, { on := 13, ground := Ground.phase }, { on := 14, ground := Ground.phase }, { on := 15, ground := Ground.phase }, { on := 16, ground := Ground.phase }, { on := 17, ground := Ground.phase }, { on := 18, ground := Ground.phase }, { on := 19, ground := Ground.phase }], guard := none }) (v := ?_) [21] (by kernel_rfl) rfl (by kernel_rfl) (by kernel_rfl) (by kernel_rfl) (fun _ _ _ h => h) (Or.inl ⟨by rfl, ?_⟩) (by assumption) ?_
    rotate_left 1
    · intro w hSw
      (try dsimp only at hSw)
      go_simp
      all_goals try with_reducible rfl
    try simp only [Act.put, List.setIfInBounds_toArray, List.set_cons_zero, List.set_cons_succ]
    refine wpAnyE_take (i := 21) (oi := { dst := some 50, op := Op.fieldAddr 83 (Operand.tmp 49) 2, type := 0, pos := "window.go:37", after := #[{ on := 20, ground := Ground.data }, { on := 0, ground := Ground.phase }, { on := 1, ground := Ground.phase }, { on := 2, ground := Ground.phase }, { on := 3, ground := Ground.phase }, { on := 4, ground := Ground.phase }, { on := 5, ground := Ground.phase }, { on := 6, ground := Ground.phase }, { on := 7, ground := Ground.phase }, { on := 8, ground := Ground.phase }, { on := 9, ground := Ground.phase }, { on := 10, ground := Ground.phase }, { on := 11, ground := Ground.phase }, { on := 12, ground := Ground.phase }, { on := 13, ground := Ground.phase }, { on := 14, ground := Ground.phase }, { on := 15, ground := Ground.phase }, { on := 16, ground := Ground.phase }, { on := 17, ground := Ground.phase }, { on := 18, ground := Ground.phase }, { on := 19, ground := Ground.phase }], guard := none }) (v := ?_) [] (by kernel_rfl) rfl (by kernel_rfl) (by kernel_rfl) (by kernel_rfl) (fun _ _ _ h => h) (Or.inl ⟨by rfl, ?_⟩) (by assumption) ?_
    rotate_left 1
    · intro w hSw
      (try dsimp only at hSw)
      go_simp
      all_goals try with_reducible rfl
    try simp only [Act.put, List.setIfInBounds_toArray, List.set_cons_zero, List.set_cons_succ]
    refine wpAnyE_last (o := { dst := none, op := Op.store 3 (Operand.tmp 50) (Operand.tmp 48), type := 0, pos := "window.go:37", after := #[{ on := 21, ground := Ground.data }, { on := 19, ground := Ground.data }, { on := 18, ground := Ground.chain }, { on := 0, ground := Ground.phase }, { on := 1, ground := Ground.phase }, { on := 2, ground := Ground.phase }, { on := 3, ground := Ground.phase }, { on := 4, ground := Ground.phase }, { on := 5, ground := Ground.phase }, { on := 6, ground := Ground.phase }, { on := 7, ground := Ground.phase }, { on := 8, ground := Ground.phase }, { on := 9, ground := Ground.phase }, { on := 10, ground := Ground.phase }, { on := 11, ground := Ground.phase }, { on := 12, ground := Ground.phase }, { on := 13, ground := Ground.phase }, { on := 14, ground := Ground.phase }, { on := 15, ground := Ground.phase }, { on := 16, ground := Ground.phase }, { on := 17, ground := Ground.phase }, { on := 18, ground := Ground.phase }, { on := 19, ground := Ground.phase }], guard := none }) (by kernel_rfl) rfl (fun K hK => ?_)
    clear hHeld
    go_simp
    refine hK.out _ _ ?_
    clear hK K
    refine wpAnyE_done (by kernel_rfl) ?_ _
    try simp only [Act.put, List.setIfInBounds_toArray, List.set_cons_zero, List.set_cons_succ]
    all_goals go_wp2
    all_goals refine bodyPost_end (results_none rfl _ _ _) rfl ?_
    all_goals have hsl := length_splice bz hh l HRM.out
    all_goals have HWF : WinAt (w3.setCell ⟨g, 2, none⟩ (.int .i64 ((hh + l.length : Nat) : Int))) g M a b c (some ⟨g0, 0, none⟩) (splice bz hh l) (hh + l.length) ((mv + hh) + l.length) := ⟨by rw [hsl]; exact blk_set HBK.out 2 _, by rw [hsl]; exact HRM.out, by rw [hsl]; intro e; have := HRM.out; have := HLB.out; omega, fun _ => ⟨g0, rfl, blk_far HG3.out (p := ⟨g, 2, none⟩) HNG.out _, HNG.out, HNM.out⟩, HZ.out.ne, HM3.out.far (p := ⟨g, 2, none⟩) HZ.out.ne _⟩
    all_goals have HKF : Kept w2 (w3.setCell ⟨g, 2, none⟩ (.int .i64 ((hh + l.length : Nat) : Int))) (fun k => k = g ∨ M = some k ∨ k = g0) := Kept.setCell (S := fun k => k = g ∨ M = some k ∨ k = g0) (p := ⟨g, 2, none⟩) (Kept.mono (show Kept w2 w3 _ from HK3.out) (fun k hk => hk.elim (fun e => Or.inr (Or.inr e)) (fun e => Or.inr (Or.inl e)))) (Or.inl (Or.inl rfl)) _
    all_goals have HBF : Below B w2 (w3.setCell ⟨g, 2, none⟩ (.int .i64 ((hh + l.length : Nat) : Int))) := Below.setCell (p := ⟨g, 2, none⟩) (Below.trans (Below.drew (Below.refl B w2)) HB3.out) HBG.out _
    all_goals have hst := splice_take bz l hh HRM.out
    all_goals try rw [if_neg HFT.out]
    all_goals try rw [if_neg HFT.out]
    all_goals first
      | (exfalso; exact HFT.out (by assumption))
      | exact ⟨rfl, ⟨_, _, (by have hq := HWF; rw [Nat.add_assoc] at hq; exact hq), by rw [hst, HTK.out], by rw [hsl, HLZ.out], Or.inr ⟨g0, rfl, by have := HG0.out; omega⟩⟩, (Kept.mono HK2.out (fun k hk => hk.elim Or.inl (fun e => Or.inr (Or.inl e)))).then_ HKF (fun k hk => hk.elim (fun e => Or.inl (Or.inl e)) (fun hk => hk.elim (fun e => Or.inl (Or.inr (Or.inl e))) (fun e => Or.inr (by have := HG0.out; omega)))), Below.trans HB2.out HBF⟩
end Go.Proofs.Ytgiaabgmnjaefaa.Win
