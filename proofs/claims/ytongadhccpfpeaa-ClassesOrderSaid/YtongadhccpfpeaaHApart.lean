/- ClassesApart, the law's function: it answers true for every list of texts of bytes and any two bytes. -/
import Derived.Test.YtongadhccpfpeaaTxt9
import Derived.Test.YtongadhccpfpeaaMeth
import Derived.Test.YtongadhccpfpeaaAwk
import Derived.Deep.RegionHeld3
namespace Go.Proofs.Ytongadhccpfpeaa.Base9
open Go Go.RowKit Go.Proofs.YtongadhccpfpeaaW.PrintWords Go.Proofs.YtongadhccpfpeaaW.PrintLast Go.Proofs.YtongadhccpfpeaaW.PrintMore
set_option linter.unusedVariables false
set_option linter.unusedSimpArgs false
attribute [local go_sem ↓] ld29_eq
theorem clsK_zero (p : Nat → Bool) (b : Nat) : ((clsK p b : Int) == 0) = !(p b) := by
  unfold clsK
  by_cases h : p b = true
  · have := cntp_succ p b
    rw [if_pos h] at this
    rw [if_pos h, h]
    simp; omega
  · rw [if_neg h]; simp [h]
theorem clsK_ne (p : Nat → Bool) (a b : Nat) (h : a ≠ b) : ((clsK p a : Int) == (clsK p b : Int)) = (!(p a) && !(p b)) := by
  unfold clsK
  have h1 := cntp_succ p a
  have h2 := cntp_succ p b
  by_cases ha : p a = true <;> by_cases hb : p b = true
  · rw [if_pos ha, if_pos hb, ha, hb]
    have : cntp p (a + 1) ≠ cntp p (b + 1) := fun e => h (cntp_inj p ha hb e)
    simp; omega
  · rw [if_pos ha] at h1
    rw [if_pos ha, if_neg hb]
    simp [ha]; omega
  · rw [if_pos hb] at h2
    rw [if_neg ha, if_pos hb]
    simp [hb]; omega
  · simp [ha, hb]
theorem mk_st (L : List (List Int)) (b : Int) (h : 0 ≤ b) : mk L b.toNat = stB L b := by
  unfold mk stB
  rw [Int.toNat_of_nonneg h]
theorem len_at {w : World} {A0 : Option Addr} {l0 : List (List Int)} (hr : Kd.C (Kd.slice 5 (Kd.int .u8)) w A0 l0.length l0) : ∀ x ∈ l0, x.length ≤ 9223372036854775807 := by
  intro x hx
  obtain ⟨n, hn, rfl⟩ := List.getElem_of_mem hx
  obtain ⟨ad, A, c, e, h1, h2, h3⟩ := at_L3 hr (n : Int) (by omega) (by omega)
  rw [rdL l0 n hn] at h3
  exact h3.2.1
set_option maxHeartbeats 8000000 in
set_option maxRecDepth 100000 in
theorem apart_calls (A0 : Option Addr) (c0 : Nat) (l0 : List (List Int)) (a b : Int) (w : World) (hr0 : Kd.C (Kd.slice 5 (Kd.int .u8)) w A0 l0.length l0) (hc0 : l0.length ≤ c0) (hlen : l0.length < 8796093022208) (hby : ∀ l ∈ l0, ∀ x ∈ l, 0 ≤ x ∧ x < 256) (ha : 0 ≤ a ∧ a < 256) (hb : 0 ≤ b ∧ b < 256) :
    Calls Try.prog 4 #[.slice A0 l0.length c0, .int .u8 a, .int .u8 b] w fun e w' => e = .returned (.bool true) ∧ Below w.heap.size w w' := by
  have hmax := len_at hr0
  obtain ⟨kt, r1, r2, ht, _⟩ := texts_tot l0 hlen
  obtain ⟨ka, hsa⟩ := stands_tot l0 hlen hmax a
  obtain ⟨kb, hsb⟩ := stands_tot l0 hlen hmax b
  have HSA := Aside0.mk (fun (W : World) (h : Kd.C (Kd.slice 5 (Kd.int .u8)) W A0 l0.length l0) => seinelaw09_stands.calls ka A0 c0 l0 a _ W h hc0 hsa)
  have HSB := Aside0.mk (fun (W : World) (h : Kd.C (Kd.slice 5 (Kd.int .u8)) W A0 l0.length l0) => seinelaw09_stands.calls kb A0 c0 l0 b _ W h hc0 hsb)
  have HTX := Aside0.mk (fun (W : World) (h : Kd.C (Kd.slice 5 (Kd.int .u8)) W A0 l0.length l0) => seinelaw09_texts.calls kt A0 c0 l0 r1 r2 W h hc0 ht)
  have HCO := Aside0.mk (fun (W : World) (h : Kd.C (Kd.slice 5 (Kd.int .u8)) W A0 l0.length l0) => cof_calls A0 c0 l0 W h hc0 hby)
  have HT := Aside0.mk (tbl_all l0 hby)
  generalize clsN (listS (allS l0)) (listS (allS l0)).length = cs at HT HCO
  have HKA := Aside0.mk (classT_calls HT.out a ha.1 ha.2)
  have HKB := Aside0.mk (classT_calls HT.out b hb.1 hb.2)
  have hz := zero29
  have hu29 := Try.underlying29
  have hs257 : cs.size = 257 := HT.out.size
  have hcl : cs.toList.length = 257 := by simpa using hs257
  have hi1 : (Try.prog.info? 29).map (·.size) = some cs.toList.length := by rw [hcl]; exact info29
  have HON := Aside0.mk HT.out.one
  have hst := fun W => run_storeCells_new (P := Try.prog) W 29 zeroC cs (by rw [hs257]; exact info29) (by rw [hs257]; simp [zeroC]) HON.out
  have e0 := clsK_zero (mk l0) a.toNat
  rw [mk_st l0 a ha.1] at e0
  have hab : ((clsK (mk l0) a.toNat : Int) == (clsK (mk l0) b.toNat : Int)) = ((a == b) || (!(stB l0 a) && !(stB l0 b))) := by
    by_cases h : a = b
    · subst h; simp
    · rw [clsK_ne _ _ _ (by omega), mk_st l0 a ha.1, mk_st l0 b hb.1, beq_eq_false_iff_ne.mpr h, Bool.false_or]
  generalize stB l0 a = sa at HSA e0 hab
  generalize stB l0 b = sb at HSB hab
  generalize (clsK (mk l0) a.toNat : Int) = qa at HKA e0 hab
  generalize (clsK (mk l0) b.toNat : Int) = qb at HKB hab
  have HR := Aside0.mk hr0
  clear hr0 hc0 hlen hby hmax ht hsa hsb hcl HT HON ha hb
  go_enter Try.func4, Try.ntmps4
  go_wp2_with fail
  refine (awake_calls _).mono ?_
  rintro e w1 ⟨rfl, hb1⟩
  have HR1 := Aside0.mk (Kd.C_below HR.out hb1)
  have HB1 := Aside0.mk hb1
  clear hb1
  go_wp2_with fail
  refine (HTX.out _ HR1.out).mono ?_
  rintro e w2 ⟨v, rfl, hr2, hb2⟩
  have HR2 := Aside0.mk (Kd.C_below HR1.out hb2)
  have HB2 := Aside0.mk (below_step HB1.out hb2)
  clear hb2 hr2 HR1 HB1
  cases r2
  · go_wp2
    go_ret
    exact ⟨rfl, HB2.out⟩
  · go_wp2_with fail
    refine (HCO.out _ HR2.out).mono ?_
    rintro e w3 ⟨rfl, hb3⟩
    have HR3 := Aside0.mk (Kd.C_alloc (Kd.C_below HR2.out hb3) (.cells cs 29))
    have HB3 := Aside0.mk (below_alloc (below_step HB2.out hb3) (.cells cs 29))
    have HG3 := Aside0.mk (blk_new w3 (.cells cs 29))
    clear hb3 HR2 HB2
    by_cases hq : a = b
    · subst hq
      go_wp2_with fail
      generalize hwb : w3.alloc (.cells cs 29) = wb at HR3 HB3 HG3 ⊢
      generalize w3.heap.size = g at HG3 ⊢
      clear hwb hst
      have hld := ld29_run g cs hs257
      clear hu29 hi1 hs257 hz
      have PB := Below.refl wb.heap.size wb
      have pR := range_of HG3.out
      go_region_held3 (fun w' => w'.rangeAt g 0 cs.toList)
        (first | exact pR | exact range_of (blk_below HG3.out (pw_below_drewN (Below.refl _ _) _)) | exact (World.rangeAt_drew _ _ _ _).2 pR | go_keep_ranges)
        ((first
          | (go_at_call 11; with_reducible refine (HKA.out _).mono ?_; rintro e wj ⟨rfl, hb'⟩; have PB' : Below wb.heap.size wb wj := (by first | exact below_step PB hb' | exact below_step PB.drew hb' | exact below_step (pw_below_drewN (Below.refl _ _) _) hb'); clear PB; have PB := PB'; clear PB'; have pR := range_of (blk_below HG3.out PB); clear hb')
          | (go_at_call 11; with_reducible refine (HKB.out _).mono ?_; rintro e wj ⟨rfl, hb'⟩; have PB' : Below wb.heap.size wb wj := (by first | exact below_step PB hb' | exact below_step PB.drew hb' | exact below_step (pw_below_drewN (Below.refl _ _) _) hb'); clear PB; have PB := PB'; clear PB'; have pR := range_of (blk_below HG3.out PB); clear hb')
          | (go_at_call 16; with_reducible refine (HSA.out _ (by first | exact Kd.C_below HR3.out PB | exact Kd.C_below HR3.out PB.drew | exact Kd.C_drewN HR3.out _)).mono ?_; rintro e wj ⟨rfl, hd⟩; have hb' := hd.below; clear hd; have PB' : Below wb.heap.size wb wj := (by first | exact below_step PB hb' | exact below_step PB.drew hb' | exact below_step (pw_below_drewN (Below.refl _ _) _) hb'); clear PB; have PB := PB'; clear PB'; have pR := range_of (blk_below HG3.out PB); clear hb')))
      go_wp2
      go_ret
      exact ⟨rfl, by first | exact below_step HB3.out PB | exact below_step HB3.out PB.drew⟩
    · have hqb : (a == b) = false := by simpa using hq
      have hqd : decide (a = b) = false := decide_eq_false hq
      rw [hqb, Bool.false_or] at hab
      cases sa
      · rw [Bool.not_false, Bool.true_and] at hab
        go_wp2_with (first | (go_at_call 16; with_reducible refine (HSA.out _ (by first | exact HR3.out | exact Kd.C_drewN HR3.out _)).mono ?_; rintro e wj ⟨rfl, ⟨na, rfl⟩⟩) | (go_at_call 16; with_reducible refine (HSB.out _ (by first | exact HR3.out | exact Kd.C_drewN HR3.out _)).mono ?_; rintro e wj ⟨rfl, ⟨nb, rfl⟩⟩))
        generalize hwb : w3.alloc (.cells cs 29) = wb at HR3 HB3 HG3 ⊢
        generalize w3.heap.size = g at HG3 ⊢
        clear hwb hst
        have hld := ld29_run g cs hs257
        clear hu29 hi1 hs257 hz
        have PB : Below wb.heap.size wb (wb.drewN (na + nb)) := pw_below_drewN (Below.refl _ _) _
        have pR := range_of (blk_below HG3.out PB)
        go_region_held3 (fun w' => w'.rangeAt g 0 cs.toList)
          (first | exact pR | exact range_of (blk_below HG3.out (pw_below_drewN (Below.refl _ _) _)) | exact (World.rangeAt_drew _ _ _ _).2 pR | go_keep_ranges)
          ((first
            | (go_at_call 11; with_reducible refine (HKA.out _).mono ?_; rintro e wj ⟨rfl, hb'⟩; have PB' : Below wb.heap.size wb wj := (by first | exact below_step PB hb' | exact below_step PB.drew hb' | exact below_step (pw_below_drewN (Below.refl _ _) _) hb'); clear PB; have PB := PB'; clear PB'; have pR := range_of (blk_below HG3.out PB); clear hb')
            | (go_at_call 11; with_reducible refine (HKB.out _).mono ?_; rintro e wj ⟨rfl, hb'⟩; have PB' : Below wb.heap.size wb wj := (by first | exact below_step PB hb' | exact below_step PB.drew hb' | exact below_step (pw_below_drewN (Below.refl _ _) _) hb'); clear PB; have PB := PB'; clear PB'; have pR := range_of (blk_below HG3.out PB); clear hb')
            | (go_at_call 16; with_reducible refine (HSA.out _ (by first | exact Kd.C_below HR3.out PB | exact Kd.C_below HR3.out PB.drew | exact Kd.C_drewN HR3.out _)).mono ?_; rintro e wj ⟨rfl, hd⟩; have hb' := hd.below; clear hd; have PB' : Below wb.heap.size wb wj := (by first | exact below_step PB hb' | exact below_step PB.drew hb' | exact below_step (pw_below_drewN (Below.refl _ _) _) hb'); clear PB; have PB := PB'; clear PB'; have pR := range_of (blk_below HG3.out PB); clear hb')))
        go_wp2
        go_ret
        exact ⟨rfl, by first | exact below_step HB3.out PB | exact below_step HB3.out PB.drew⟩
      · rw [Bool.not_true, Bool.false_and] at hab
        go_wp2_with (first | (go_at_call 16; with_reducible refine (HSA.out _ (by first | exact HR3.out | exact Kd.C_drewN HR3.out _)).mono ?_; rintro e wj ⟨rfl, ⟨na, rfl⟩⟩) | (go_at_call 16; with_reducible refine (HSB.out _ (by first | exact HR3.out | exact Kd.C_drewN HR3.out _)).mono ?_; rintro e wj ⟨rfl, ⟨nb, rfl⟩⟩))
        generalize hwb : w3.alloc (.cells cs 29) = wb at HR3 HB3 HG3 ⊢
        generalize w3.heap.size = g at HG3 ⊢
        clear hwb hst
        have hld := ld29_run g cs hs257
        clear hu29 hi1 hs257 hz
        have PB : Below wb.heap.size wb (wb.drewN na) := pw_below_drewN (Below.refl _ _) na
        have pR := range_of (blk_below HG3.out PB)
        go_region_held3 (fun w' => w'.rangeAt g 0 cs.toList)
          (first | exact pR | exact range_of (blk_below HG3.out (pw_below_drewN (Below.refl _ _) _)) | exact (World.rangeAt_drew _ _ _ _).2 pR | go_keep_ranges)
          ((first
            | (go_at_call 11; with_reducible refine (HKA.out _).mono ?_; rintro e wj ⟨rfl, hb'⟩; have PB' : Below wb.heap.size wb wj := (by first | exact below_step PB hb' | exact below_step PB.drew hb' | exact below_step (pw_below_drewN (Below.refl _ _) _) hb'); clear PB; have PB := PB'; clear PB'; have pR := range_of (blk_below HG3.out PB); clear hb')
            | (go_at_call 11; with_reducible refine (HKB.out _).mono ?_; rintro e wj ⟨rfl, hb'⟩; have PB' : Below wb.heap.size wb wj := (by first | exact below_step PB hb' | exact below_step PB.drew hb' | exact below_step (pw_below_drewN (Below.refl _ _) _) hb'); clear PB; have PB := PB'; clear PB'; have pR := range_of (blk_below HG3.out PB); clear hb')
            | (go_at_call 16; with_reducible refine (HSA.out _ (by first | exact Kd.C_below HR3.out PB | exact Kd.C_below HR3.out PB.drew | exact Kd.C_drewN HR3.out _)).mono ?_; rintro e wj ⟨rfl, hd⟩; have hb' := hd.below; clear hd; have PB' : Below wb.heap.size wb wj := (by first | exact below_step PB hb' | exact below_step PB.drew hb' | exact below_step (pw_below_drewN (Below.refl _ _) _) hb'); clear PB; have PB := PB'; clear PB'; have pR := range_of (blk_below HG3.out PB); clear hb')))
        go_wp2
        go_ret
        exact ⟨rfl, by first | exact below_step HB3.out PB | exact below_step HB3.out PB.drew⟩
end Go.Proofs.Ytongadhccpfpeaa.Base9
