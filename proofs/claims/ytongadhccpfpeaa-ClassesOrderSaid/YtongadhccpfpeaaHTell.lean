/- ClassesTell, the law's function: it answers true for every list of texts of bytes and every byte. -/
import Derived.Test.YtongadhccpfpeaaAwk
import Derived.Test.YtongadhccpfpeaaRefT
import Derived.Deep.RegionHeld3
namespace Go.Proofs.Ytongadhccpfpeaa.Base9
open Go Go.RowKit Go.Proofs.YtongadhccpfpeaaW.PrintWords Go.Proofs.YtongadhccpfpeaaW.PrintLast Go.Proofs.YtongadhccpfpeaaW.PrintMore
open Go.Proofs.Ytongadhccpfpeaa.BaseT (flat_len ref_class ref_len)
open Go.Proofs.Ytongadhccpfpeaa
set_option linter.unusedVariables false
set_option linter.unusedSimpArgs false
attribute [local go_sem ↓] ld29_eq
set_option maxHeartbeats 8000000 in
set_option maxRecDepth 100000 in
theorem tell_calls (A0 : Option Addr) (c0 : Nat) (l0 : List (List Int)) (n : Nat) (w : World) (hr0 : Kd.C (Kd.slice 5 (Kd.int .u8)) w A0 l0.length l0) (hc0 : l0.length ≤ c0) (hlen : l0.length < 8796093022208) (hby : ∀ l ∈ l0, ∀ x ∈ l, 0 ≤ x ∧ x < 256) (hn : n < 256) :
    Calls Try.prog 3 #[.slice A0 l0.length c0, .int .u8 (n : Int)] w fun e w' => e = .returned (.bool true) ∧ Below w.heap.size w w' := by
  obtain ⟨kt, r1, r2, ht, h40⟩ := texts_tot l0 hlen
  have HTX := Aside0.mk (fun (W : World) (h : Kd.C (Kd.slice 5 (Kd.int .u8)) W A0 l0.length l0) => seinelaw09_texts.calls kt A0 c0 l0 r1 r2 W h hc0 ht)
  have HCO := Aside0.mk (fun (W : World) (h : Kd.C (Kd.slice 5 (Kd.int .u8)) W A0 l0.length l0) => cof_calls A0 c0 l0 W h hc0 hby)
  have HT := Aside0.mk (tbl_all l0 hby)
  generalize clsN (listS (allS l0)) (listS (allS l0)).length = cs at HT HCO
  have HZ := Aside0.mk tbl_zero
  have hz := zero29
  have hz27 := zero27
  generalize hzc : zeroC = zc at HZ hz
  have HK := Aside0.mk (classT_calls HT.out (n : Int) (by omega) (by omega))
  have HL := Aside0.mk (lenT_calls HT.out)
  have HTC := Aside0.mk (tableT_calls HT.out)
  have HZK := Aside0.mk (classT_calls HZ.out (n : Int) (by omega) (by omega))
  have HZL := Aside0.mk (lenT_calls HZ.out)
  have HZB := Aside0.mk (fun w => bytes_calls HZ.out 0 w)
  have e0 : clsK (fun _ => false) (n : Int).toNat = 0 := by simp [clsK]
  rw [e0] at HZK
  have e1 : cntp (fun _ => false) 256 = 0 := by unfold cntp; simp
  rw [e1] at HZL
  have e2 := Aside0.mk (show (bytesK (fun _ => false) 0).length = 256 by decide +kernel)
  generalize bytesK (fun _ => false) 0 = lz at HZB e2
  have hu27 := Try.underlying27
  have hs257 : cs.size = 257 := HT.out.size
  have hsz : zc.size = 257 := HZ.out.size
  obtain ⟨tb, htb⟩ : ∃ tb, tb = (cs.toList.take 256).toArray := ⟨_, rfl⟩
  have htz : tb.size = 256 := by rw [htb]; simp; omega
  have htn : tb[n]? = some (.int .i64 (clsK (mk l0) n : Int)) := by
    rw [← HT.out.at_ n hn, htb]
    simp [List.getElem?_take, hn]
  have hto : tb.all (·.oneCell') = true := by
    rw [Array.all_eq_true_iff_forall_mem]
    intro v hv
    rw [htb] at hv
    exact (Array.all_eq_true_iff_forall_mem.1 HT.out.one) v (by have := List.mem_of_mem_take (by simpa using hv : v ∈ cs.toList.take 256); simpa using this)
  rw [← htb] at HTC
  clear htb
  have hst := fun W => run_storeCells_new (P := Try.prog) W 29 zc cs (by rw [hs257]; exact info29) (by rw [hs257, hsz]) HT.out.one
  have hstz := fun W => run_storeCells_new (P := Try.prog) W 29 zc zc (by rw [hsz]; exact info29) rfl HZ.out.one
  have hstt := fun W => run_storeCells_new (P := Try.prog) W 27 z27 tb (by rw [htz]; exact info27) (by rw [htz]; simp [z27]) hto
  have HRC := Aside0.mk (fun (h : r2 = true) => ref_class l0 (by have := flat_len l0 (h40 h).2.2; have := (h40 h).2.1; omega) (by have := (h40 h).2.1; omega) (fun x hx => by obtain ⟨l, hl, hx⟩ := List.mem_flatten.mp hx; have := hby l hl x hx; omega) (n : Int) (by omega) (by omega))
  have HRL := Aside0.mk (fun (h : r2 = true) => ref_len l0 (by have := flat_len l0 (h40 h).2.2; have := (h40 h).2.1; omega) (by have := (h40 h).2.1; omega) (fun x hx => by obtain ⟨l, hl, hx⟩ := List.mem_flatten.mp hx; have := hby l hl x hx; omega))
  have HR1 := Aside0.mk (fun (h : r2 = true) => (h40 h).1)
  have HTB := Aside0.mk htn
  have d0 : decide ((0 : Int) ≤ (n : Int)) = true := decide_eq_true (by omega)
  have d1 : decide ((n : Int) < 256) = true := decide_eq_true (by omega)
  have d2 : decide (n < 256) = true := decide_eq_true hn
  have d3 : (0 : Int) ≤ (n : Int) := by omega
  have d4 : (n : Int) < 256 := by omega
  have d5 : n < 256 := hn
  rw [Int.toNat_natCast] at HK HRC
  generalize hq : (clsK (mk l0) n : Int) = qb at HK HRC HTB
  generalize (cntp (mk l0) 256 : Int) + 1 = qn at HL HRL
  have HR := Aside0.mk hr0
  have hz27s : z27.size = 256 := by simp [z27]
  generalize z27 = zz at hz27 hstt hz27s
  clear hq htn hto e0 e1 h40 hr0 hc0 hlen hby ht hn
  go_enter Try.func3, Try.ntmps3
  go_wp2_with fail
  refine (awake_calls _).mono ?_
  rintro e w1 ⟨rfl, hb1⟩
  have HR1' := Aside0.mk (Kd.C_below HR.out hb1)
  have HB1 := Aside0.mk hb1
  clear hb1
  go_wp2_with fail
  refine (HTX.out _ HR1'.out).mono ?_
  rintro e w2 ⟨v, rfl, hr2, hb2⟩
  have HR2 := Aside0.mk (Kd.C_below HR1'.out hb2)
  have HB2 := Aside0.mk (below_step HB1.out hb2)
  clear hb2 HR1' HB1
  cases r2
  · clear hr2
    go_wp2
    go_ret
    exact ⟨rfl, HB2.out⟩
  · obtain ⟨kc, hkc⟩ := HRC.out rfl
    obtain ⟨kl, hkl⟩ := HRL.out rfl
    rw [← HR1.out rfl] at hkc hkl
    obtain ⟨Ar, cr, rfl, hcr, hCr⟩ := Kd.R_reads hr2
    have HCC := Aside0.mk (fun (W : World) (h : Kd.C Kd.string W Ar r1.length r1) => BaseT.seineref09_Class.calls kc Ar cr r1 (n : Int) qb W h hcr hkc)
    have HCL := Aside0.mk (fun (W : World) (h : Kd.C Kd.string W Ar r1.length r1) => BaseT.seineref09_Len.calls kl Ar cr r1 qn W h hcr hkl)
    have HRR := Aside0.mk hCr
    clear hkc hkl hcr hCr hr2 HRC HRL HR1
    go_wp2_with fail
    refine (HCO.out _ HR2.out).mono ?_
    rintro e w3 ⟨rfl, hb3⟩
    have HG3 := Aside0.mk (blk_new w3 (.cells cs 29))
    have HB3 := Aside0.mk (below_alloc (below_step HB2.out hb3) (.cells cs 29))
    have HRR3 := Aside0.mk (Kd.C_alloc (Kd.C_below HRR.out hb3) (.cells cs 29))
    have hld := ld29_run w3.heap.size cs hs257
    have pR := range_of HG3.out
    clear hb3 HR2 HB2 HRR HCO HTX
    go_wp2_with fail
    refine (HTC.out _).mono ?_
    rintro e w4 ⟨rfl, hb4⟩
    have HG8 := Aside0.mk (blk_alloc (blk_alloc (blk_below HG3.out hb4) (.cells tb 27)) (.cells zc 29))
    have HG9 := Aside0.mk (blk_alloc (blk_new w4 (.cells tb 27)) (.cells zc 29))
    have HG10 := blk_new (w4.alloc (.cells tb 27)) (.cells zc 29)
    rw [World.size_alloc] at HG10
    replace HG10 := Aside0.mk HG10
    have HB4 := Aside0.mk (below_alloc (below_alloc (below_step HB3.out hb4) (.cells tb 27)) (.cells zc 29))
    have HRR4 := Aside0.mk (Kd.C_alloc (Kd.C_alloc (Kd.C_below HRR3.out hb4) (.cells tb 27)) (.cells zc 29))
    have hldz := ld29_run (w4.heap.size + 1) zc hsz
    have hstz4 := hstz (w4.alloc (.cells tb 27))
    rw [World.size_alloc] at hstz4
    clear hb4 HG3 HB3 HRR3 pR
    go_wp2_with fail
    clear hstz4
    generalize hwb : (w4.alloc (.cells tb 27)).alloc (.cells zc 29) = wb at HG8 HG9 HG10 HB4 HRR4 ⊢
    generalize w4.heap.size = g9 at HG9 HG10 hldz ⊢
    generalize w3.heap.size = g8 at HG8 hld ⊢
    clear hwb hst hstz hstt hs257 hsz htz hz hz27 hz27s
    have PB := Below.refl wb.heap.size wb
    have pR := range_of HG8.out
    have pZ := range_of HG10.out
    have pC := (blk_cell HG9.out n).trans HTB.out
    go_region_held3 (fun w' => w'.rangeAt g8 0 cs.toList ∧ w'.rangeAt (g9 + 1) 0 zc.toList ∧ w'.cell? ⟨g9, n, none⟩ = some (.int .i64 qb))
      (first | exact ⟨pR, pZ, pC⟩ | exact ⟨(World.rangeAt_drew _ _ _ _).2 pR, (World.rangeAt_drew _ _ _ _).2 pZ, pC⟩ | go_keep_ranges)
      ((first
        | (go_at_call 11; with_reducible refine (HK.out _).mono ?_; rintro e wj ⟨rfl, hb'⟩; have PB' : Below wb.heap.size wb wj := (by first | exact below_step PB hb' | exact below_step PB.drew hb' | exact below_step (pw_below_drewN (Below.refl _ _) _) hb'); clear PB; have PB := PB'; clear PB'; have pR := range_of (blk_below HG8.out PB); have pZ := range_of (blk_below HG10.out PB); have pC := (blk_cell (blk_below HG9.out PB) n).trans HTB.out; clear hb')
        | (go_at_call 11; with_reducible refine (HZK.out _).mono ?_; rintro e wj ⟨rfl, hb'⟩; have PB' : Below wb.heap.size wb wj := (by first | exact below_step PB hb' | exact below_step PB.drew hb' | exact below_step (pw_below_drewN (Below.refl _ _) _) hb'); clear PB; have PB := PB'; clear PB'; have pR := range_of (blk_below HG8.out PB); have pZ := range_of (blk_below HG10.out PB); have pC := (blk_cell (blk_below HG9.out PB) n).trans HTB.out; clear hb')
        | (go_at_call 13; with_reducible refine (HL.out _).mono ?_; rintro e wj ⟨rfl, hb'⟩; have PB' : Below wb.heap.size wb wj := (by first | exact below_step PB hb' | exact below_step PB.drew hb' | exact below_step (pw_below_drewN (Below.refl _ _) _) hb'); clear PB; have PB := PB'; clear PB'; have pR := range_of (blk_below HG8.out PB); have pZ := range_of (blk_below HG10.out PB); have pC := (blk_cell (blk_below HG9.out PB) n).trans HTB.out; clear hb')
        | (go_at_call 13; with_reducible refine (HZL.out _).mono ?_; rintro e wj ⟨rfl, hb'⟩; have PB' : Below wb.heap.size wb wj := (by first | exact below_step PB hb' | exact below_step PB.drew hb' | exact below_step (pw_below_drewN (Below.refl _ _) _) hb'); clear PB; have PB := PB'; clear PB'; have pR := range_of (blk_below HG8.out PB); have pZ := range_of (blk_below HG10.out PB); have pC := (blk_cell (blk_below HG9.out PB) n).trans HTB.out; clear hb')
        | (go_at_call 12; with_reducible refine (HCC.out _ (by first | exact Kd.C_below HRR4.out PB | exact Kd.C_below HRR4.out PB.drew)).mono ?_; rintro e wj ⟨rfl, hb'⟩; (try replace hb' := hb'.below); have PB' : Below wb.heap.size wb wj := (by first | exact below_step PB hb' | exact below_step PB.drew hb' | exact below_step (pw_below_drewN (Below.refl _ _) _) hb'); clear PB; have PB := PB'; clear PB'; have pR := range_of (blk_below HG8.out PB); have pZ := range_of (blk_below HG10.out PB); have pC := (blk_cell (blk_below HG9.out PB) n).trans HTB.out; clear hb')
        | (go_at_call 14; with_reducible refine (HCL.out _ (by first | exact Kd.C_below HRR4.out PB | exact Kd.C_below HRR4.out PB.drew)).mono ?_; rintro e wj ⟨rfl, hb'⟩; (try replace hb' := hb'.below); have PB' : Below wb.heap.size wb wj := (by first | exact below_step PB hb' | exact below_step PB.drew hb' | exact below_step (pw_below_drewN (Below.refl _ _) _) hb'); clear PB; have PB := PB'; clear PB'; have pR := range_of (blk_below HG8.out PB); have pZ := range_of (blk_below HG10.out PB); have pC := (blk_cell (blk_below HG9.out PB) n).trans HTB.out; clear hb')
        | (go_at_call 15; with_reducible refine (HZB.out _).mono ?_; rintro e wj ⟨v, rfl, hr, hb'⟩; obtain ⟨Az, cz, hv⟩ := Kd.R_slice hr; subst hv; rw [e2.out]; clear hr; have PB' : Below wb.heap.size wb wj := (by first | exact below_step PB hb' | exact below_step PB.drew hb' | exact below_step (pw_below_drewN (Below.refl _ _) _) hb'); clear PB; have PB := PB'; clear PB'; have pR := range_of (blk_below HG8.out PB); have pZ := range_of (blk_below HG10.out PB); have pC := (blk_cell (blk_below HG9.out PB) n).trans HTB.out; clear hb')))
    go_wp2
    go_ret
    exact ⟨rfl, by first | exact below_step HB4.out PB | exact below_step HB4.out PB.drew⟩
end Go.Proofs.Ytongadhccpfpeaa.Base9
