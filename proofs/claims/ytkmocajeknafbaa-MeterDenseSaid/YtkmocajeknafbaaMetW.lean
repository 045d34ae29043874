/- MeterDense, the law function: it answers true for every table and every asks that can be. -/
import Derived.Test.YtkmocajeknafbaaMetZ
import Derived.Deep.WholeRow
namespace Go.Proofs.Ytkmocajeknafbaa.Met
open Go Go.RowKit Go.Proofs Go.Proofs.YtkmocajeknafbaaW.PrintWords Go.Proofs.YtkmocajeknafbaaW.PrintMore Go.Proofs.Ytkmocajeknafbaa.Mp Go.Maps
set_option linter.unusedVariables false
set_option linter.unusedSimpArgs false
theorem info5i : (Try.prog.info? 3).map (·.size) = some 1 := by kernel_rfl
def z256 : List Int := List.replicate 256 0
theorem infoA : (Try.prog.info? 53).map (·.size) = some 256 := by kernel_rfl
theorem zeroA (W : World) : (zeroValue 53).run Try.prog W = .ok (.agg (i64s z256)) W := by
  have h : (Try.prog.info? 53).map (·.zero) = some (some (.agg (i64s z256))) := by kernel_rfl
  obtain ⟨i, hi, he⟩ := Option.map_eq_some_iff.mp h
  simp [zeroValue, typeInfo, hi, he, Sem.run_bind]
theorem buildA (W : World) : (Instr.build 53 #[]).run Try.prog W = .ok (.agg (i64s z256)) W := by
  obtain ⟨i3, hi3, he3⟩ := Option.map_eq_some_iff.mp infoA
  obtain ⟨i4, hi4, he4⟩ := Option.map_eq_some_iff.mp info5i
  simp [Instr.build, Sem.run_bind, zeroA, run_underlying (P := Try.prog) Try.underlying53, sizeOf, typeInfo, hi3, hi4, he3, he4, Instr.fill, Value.cells]
theorem i64s_one (l : List Int) : (i64s l).all (·.oneCell') = true := by simp [i64s, Value.oneCell']
theorem DenAt.drew {w : World} {gt base top gc gw gn : Nat} {M : Option Nat} {C : List Int} {wd : Int} {A : Option Addr} {cp : Nat} {nx : List Int} (h : DenAt w gt M base top gc gw gn C wd A cp nx) : DenAt w.drew gt M base top gc gw gn C wd A cp nx := h.kept (S := fun _ => False) (Kept.drew (Kept.refl _ _)) (fun _ _ _ h => h)
theorem DenAt.le {w : World} {gt base top gc gw gn : Nat} {M : Option Nat} {C : List Int} {wd : Int} {A : Option Addr} {cp : Nat} {nx : List Int} (h : DenAt w gt M base top gc gw gn C wd A cp nx) (w' : World) (hb : Below top w w') : DenAt w' gt M base top gc gw gn C wd A cp nx := h.kept (S := fun k => top ≤ k) ⟨hb.size, fun i _ hn => hb.block i (by omega)⟩ (fun k _ h1 h2 => by omega)
/-- the classes as a row that fills up -/
def fil (l : List Int) (n : Nat) : List Int := l.take n ++ List.replicate (256 - n) 0
theorem fil_len (l : List Int) (n : Nat) (h : n ≤ l.length) (h2 : n ≤ 256) : (fil l n).length = 256 := by unfold fil; rw [List.length_append, List.length_take, List.length_replicate]; omega
theorem fil_set (l : List Int) (n : Nat) (h : n < l.length) (h2 : n < 256) : (fil l n).set n l[n] = fil l (n + 1) := by
  unfold fil
  rw [List.set_append_right _ _ (by rw [List.length_take]; omega), List.length_take, Nat.min_eq_left (by omega), Nat.sub_self, List.take_succ_eq_append_getElem h, List.append_assoc]
  congr 1
  rw [show 256 - n = (256 - (n + 1)) + 1 by omega, List.replicate_succ, List.set_cons_zero]
  rfl
set_option maxHeartbeats 16000000 in
set_option maxRecDepth 100000 in
theorem mdense_skip (Ac An Al : Option Addr) (nc nn nl cc cn cl : Nat) (wd : Int) (w : World) (h : 256 < nc ∨ 200 < nn ∨ 60 < nl) :
    Calls Try.prog 7 #[.slice Ac nc cc, .int .i64 wd, .slice An nn cn, .slice Al nl cl] w fun e w' => e = .returned (.bool true) ∧ Below w.heap.size w w' := by
  by_cases h1 : 256 < nc
  · have d1 : decide ((nc : Int) > 256) = true := decide_eq_true (by omega)
    go_enter Try.func7, Try.ntmps7
    go_wp2_with fail
    refine (awake_calls _).mono ?_
    rintro e w1 ⟨rfl, hb1⟩
    have HB1 := Aside0.mk hb1
    clear hb1
    go_wp2
    go_ret
    exact ⟨rfl, HB1.out⟩
  · have d1 : decide ((nc : Int) > 256) = false := decide_eq_false (by omega)
    by_cases h2 : 200 < nn
    · have d2 : decide ((nn : Int) > 200) = true := decide_eq_true (by omega)
      go_enter Try.func7, Try.ntmps7
      go_wp2_with fail
      refine (awake_calls _).mono ?_
      rintro e w1 ⟨rfl, hb1⟩
      have HB1 := Aside0.mk hb1
      clear hb1
      go_wp2
      go_ret
      exact ⟨rfl, HB1.out⟩
    · have d2 : decide ((nn : Int) > 200) = false := decide_eq_false (by omega)
      have d3 : decide ((nl : Int) > 60) = true := decide_eq_true (by omega)
      go_enter Try.func7, Try.ntmps7
      go_wp2_with fail
      refine (awake_calls _).mono ?_
      rintro e w1 ⟨rfl, hb1⟩
      have HB1 := Aside0.mk hb1
      clear hb1
      go_wp2
      go_ret
      exact ⟨rfl, HB1.out⟩
set_option maxHeartbeats 16000000 in
set_option maxRecDepth 100000 in
theorem mdense_calls (Ac An Al : Option Addr) (cc cn cl : Nat) (cs nx : List Int) (wd : Int) (Q : List Ask) (w : World) (hrc : Kd.C (Kd.int .i64) w Ac cs.length cs) (hrn : Kd.C (Kd.int .i64) w An nx.length nx) (hcn : nx.length ≤ cn) (hrl : AsksAt w Al Q) (hqo : AsksOk Q) (lc : cs.length ≤ 256) (ln : nx.length ≤ 200) (ll : Q.length ≤ 60) :
    Calls Try.prog 7 #[.slice Ac cs.length cc, .int .i64 wd, .slice An nx.length cn, .slice Al Q.length cl] w fun e w' => e = .returned (.bool true) ∧ Below w.heap.size w w' := by
  have HRC := Aside0.mk hrc
  have HRN := Aside0.mk hrn
  have HCN := Aside0.mk hcn
  have HRL := Aside0.mk hrl
  have HQO := Aside0.mk hqo
  have HLC := Aside0.mk lc
  have HLN := Aside0.mk ln
  have HLL := Aside0.mk ll
  have d1 : decide ((cs.length : Int) > 256) = false := decide_eq_false (by omega)
  have d2 : decide ((nx.length : Int) > 200) = false := decide_eq_false (by omega)
  have d3 : decide ((Q.length : Int) > 60) = false := decide_eq_false (by omega)
  have heq := eqC 9998
  have huC := Try.underlying31
  have huA := Try.underlying45
  have hu256 := Try.underlying53
  have hbA := buildA
  have hzA := zeroA
  have hz0 : (i64s z256).size = 256 := by rw [i64s_size]; exact List.length_replicate
  have hst := fun W => run_storeCells_new (P := Try.prog) W 53 (i64s z256) (i64s z256) (by rw [hz0]; exact infoA) rfl (i64s_one _)
  have hfil0 : fil cs 0 = z256 := by unfold fil z256; rw [List.take_zero, List.nil_append]
  rw [← hfil0] at hbA hzA hst hz0
  clear hrc hrn hcn hrl hqo lc ln ll hfil0
  generalize hf0 : fil cs 0 = f0 at hbA hzA hst hz0
  have HF00 := Aside0.mk hf0
  clear hf0
  go_enter Try.func7, Try.ntmps7
  go_wp2_with fail
  refine (awake_calls _).mono ?_
  rintro e w0 ⟨rfl, hb0⟩
  have HB0 := Aside0.mk hb0
  clear hb0
  go_wp2
  have HG0 := Aside0.mk (blk_new w0 (.cells (i64s f0) 53))
  have HB1 := Aside0.mk (below_alloc HB0.out (.cells (i64s f0) 53))
  have HGC := Aside0.mk (show w.heap.size ≤ w0.heap.size from HB0.out.size)
  generalize w0.alloc (.cells (i64s f0) 53) = w1 at HG0 HB1 ⊢
  generalize w0.heap.size = gc at HG0 HGC ⊢
  rw [← HF00.out] at HG0
  clear HB0 hbA hst hz0 hzA HF00
  go_loopw [11] (fun v11 wr => ∃ n : Nat, v11 = .int .i64 (n : Int) ∧ Aside0 (n ≤ cs.length) ∧ Aside0 (wr.heap[gc]? = some (.cells (i64s (fil cs n)) 53 (0, 0))) ∧ Aside0 (Below w.heap.size w wr)) (fun v _ => cs.length - (intOf v).toNat)
  case atStart => exact ⟨0, rfl, ⟨Nat.zero_le _⟩, HG0, HB1⟩
  case round =>
    clear HG0 HB1
    obtain ⟨n, rfl, HN, HG, HB⟩ := hrel
    by_cases hlt : n < cs.length
    · have e1 : decide ((n : Int) < (cs.length : Int)) = true := decide_eq_true (by omega)
      have e2 : decide (n < cs.length) = true := decide_eq_true hlt
      have p1 : 0 ≤ (n : Int) := by omega
      have q1 : (n : Int) < (cs.length : Int) := by omega
      have q2 : (n : Int) < 256 := by have := HLC.out; omega
      have q3 : n < 256 := by have := HLC.out; omega
      obtain ⟨ad, eA, hx0⟩ := Kd.at_int HRC.out (n : Int) p1 q1
      subst eA
      rw [Int.toNat_natCast] at hx0
      have hx1 := pw_cell_below HB.out hx0
      have hrd : rd cs (n : Int) = cs[n] := by unfold rd; rw [Int.toNat_natCast, List.getD_eq_getElem?_getD, List.getElem?_eq_getElem hlt]; rfl
      rw [hrd] at hx1
      have hfz := blk_frozen HG.out n
      have HS := Aside0.mk (blk_set HG.out n (.int .i64 cs[n]))
      rw [i64s_set, fil_set cs n hlt q3] at HS
      have HBS := Aside0.mk (Below.setCell (p := ⟨gc, n, none⟩) HB.out HGC.out (.int .i64 cs[n]))
      have HFL := Aside0.mk (fil_len cs n (Nat.le_of_lt hlt) (Nat.le_of_lt q3))
      have hcl : ∃ v, wr.cell? ⟨gc, n, none⟩ = some v := ⟨_, (blk_cell HG.out n).trans (by rw [i64s_get, List.getElem?_eq_getElem (by have := HFL.out; omega)]; rfl)⟩
      obtain ⟨v0, hcl⟩ := hcl
      generalize cs[n] = x at hx1 HS HBS
      have hW := Aside0.mk (show wrap64 ((n : Int) + 1) = ((n + 1 : Nat) : Int) from wr_in (by omega) (by omega))
      have HNL := Aside0.mk hlt
      clear hlt hrd hx0
      go_wp2
      go_roundw
      case rel => exact ⟨n + 1, by first | exact congrArg (Value.int .i64) hW.out | rfl, ⟨HNL.out⟩, HS, HBS⟩
      case measure => exact ms_step HNL.out (by first | exact hW.out | simp)
    · have hn : n = cs.length := by have := HN.out; omega
      subst hn
      have e1 : decide ((cs.length : Int) < (cs.length : Int)) = false := decide_eq_false (by omega)
      have e2 : decide (cs.length < cs.length) = false := decide_eq_false (by omega)
      have HCL := Aside0.mk (fil_len cs cs.length (Nat.le_refl _) HLC.out)
      generalize fil cs cs.length = C at HG HCL
      clear hlt HN
      go_wp2_with fail
      refine (meter_new _).mono ?_
      rintro e w2 ⟨rfl, rfl⟩
      have HM := Aside0.mk (show MAt (wr.alloc (.cells #[.int .i64 0, .int .i64 0, .int .i64 0, .int .i64 0] 58)) (some wr.heap.size) 0 0 0 0 from fun g hg => by cases hg; exact blk_new wr _)
      have HB1 := Aside0.mk (below_alloc HB.out (.cells #[.int .i64 0, .int .i64 0, .int .i64 0, .int .i64 0] 58))
      have HGM0 := Aside0.mk (show w.heap.size ≤ wr.heap.size from HB.out.size)
      have HG1 := Aside0.mk (blk_alloc HG.out (.cells #[.int .i64 0, .int .i64 0, .int .i64 0, .int .i64 0] 58))
      generalize wr.alloc (.cells #[.int .i64 0, .int .i64 0, .int .i64 0, .int .i64 0] 58) = w2 at HM HB1 HG1 ⊢
      generalize wr.heap.size = gm at HM HGM0 ⊢
      clear HB HG
      have HGM : Aside0 (∀ k, (some gm) = some k → w.heap.size ≤ k) := ⟨fun k hk => by cases hk; exact HGM0.out⟩
      go_wp2_with (refine wpList_load_row rfl 53 (.tmp 10) rfl gc rfl 53 (i64s C) (0, 0) _ HG1.out Try.underlying53 rfl (by rw [i64s_size, HCL.out]; exact infoA) ?_)
      refine (dense_calls (some gm) C wd An cn nx w2 (Kd.C_below HRN.out HB1.out) HCN.out (by have := HLN.out; omega) (fun k hk => HM.out.lt k hk)).mono ?_
      rintro e w3 ⟨gt, gcc, gw, gn, A, cp, rfl, ht, hb⟩
      have HT3 := Aside0.mk ht
      have HM3 := Aside0.mk (HM.out.below hb)
      have HB3 := Aside0.mk (below_step HB1.out hb)
      have HG3 := Aside0.mk (blk_below HG1.out hb)
      have HLT := Aside0.mk (show gc < w3.heap.size ∧ gm < w3.heap.size from ⟨blk_lt HG3.out, HM3.out.lt _ rfl⟩)
      have HO0 := Aside0.mk (Kd.R_nil (Kd.int .i64) 3 w3 w3.heap.size (fun _ => True))
      have HS1 := Aside0.mk (Nat.le_refl w3.heap.size)
      have HW0 := Aside0.mk (show w.heap.size ≤ w3.heap.size from HB3.out.size)
      clear ht hb HM HB1 HG1
      generalize w2.heap.size = base at HT3
      generalize hbs : w3.heap.size = rb at HO0 HLT HW0 HT3
      have HS2 := Aside0.mk (show rb ≤ w3.heap.size by omega)
      clear HS1 hbs
      obtain ⟨wo, rfl⟩ : ∃ wo : World, wo = wr := ⟨_, rfl⟩
      go_wp2
      go_loopw [14, 15] (fun v14 v15 wr => ∃ n : Nat, v15 = .int .i64 (n : Int) ∧ Aside0 (n ≤ 256) ∧ Aside0 (Kd.R (Kd.int .i64) 3 wr rb (fun _ => True) v14 (C.take n)) ∧ Aside0 (DenAt wr gt (some gm) base rb gcc gw gn C wd A cp nx) ∧ Aside0 (MAt wr (some gm) 0 0 0 0) ∧ Aside0 (wr.heap[gc]? = some (.cells (i64s C) 53 (0, 0))) ∧ Aside0 (Below w.heap.size w wr) ∧ Aside0 (rb ≤ wr.heap.size)) (fun _ v _ => 256 - (intOf v).toNat)
      case atStart => exact ⟨0, rfl, ⟨Nat.zero_le _⟩, HO0, HT3, HM3, HG3, HB3, HS2⟩
      case round =>
        clear HO0 HT3 HM3 HG3 HB3 HS2
        obtain ⟨n, rfl, HN, HO, HT, HM, HG, HB, HS⟩ := hrel
        by_cases hlt : n < 256
        · have e1 : decide ((n : Int) < 256) = true := decide_eq_true (by omega)
          have e2 : decide (n < 256) = true := decide_eq_true hlt
          have p1 : 0 ≤ (n : Int) := by omega
          have q2 : (n : Int) < 256 := by omega
          have hnc : n < C.length := by rw [HCL.out]; exact hlt
          have hx1 : wr.cell? ⟨gc, n, none⟩ = some (.int .i64 C[n]) := (blk_cell HG.out n).trans (by rw [i64s_get, List.getElem?_eq_getElem hnc]; rfl)
          have HTK := Aside0.mk (List.take_succ_eq_append_getElem hnc)
          have HTL := Aside0.mk (show (C.take n).length = n by rw [List.length_take]; omega)
          generalize C[n] = x at hx1 HTK
          obtain ⟨Av, cv, hv⟩ := Kd.R_slice HO.out
          rw [HTL.out] at hv
          subst hv
          have hW := Aside0.mk (show wrap64 ((n : Int) + 1) = ((n + 1 : Nat) : Int) from wr_in (by omega) (by omega))
          have HNL := Aside0.mk hlt
          have HBR := Aside0.mk (Below.refl rb wr)
          clear hnc hlt
          go_wp2_with (first
            | (at_builtin; refine Kd.R_append (Kd.int .i64) (w0 := wr) (W := wr) rb rfl (.tmp 56) (.tmp 60) 23 3 (.int .i64 0) 8 rfl Try.underlying23 info3 rfl (by decide) (by decide) (.slice Av n cv) (C.take n) x [.int .i64 x] (fun _ => True) (fun _ => False) rfl rfl rfl (fun _ h => h.elim) (fun _ _ => trivial) HO.out HBR.out HS.out (by rw [HTL.out]; have := HNL.out; omega) ?_; intro v1 w4 hr1 hb1 hg1 hat1)
            | fail)
          have hkk := Kept.of_grown hg1 (Kept.refl _ (fun k => rb ≤ k)) (fun k hk => Or.inl (Kd.R_base HO.out k hk))
          have HR4 := Aside0.mk (show Kd.R (Kd.int .i64) 3 w4 rb (fun _ => True) v1 (C.take (n + 1)) by rw [HTK.out]; exact hr1)
          have HT4 := Aside0.mk (HT.out.kept hkk (fun k _ h1 h2 => by omega))
          have HM4 := Aside0.mk (HM.out.kept hkk (fun k hk => by cases hk; have := HLT.out; omega))
          have HG4 := Aside0.mk (blk_kept HG.out hkk (by have := HLT.out; omega))
          have HB4 := Aside0.mk (Below.trans HB.out (hb1.mono HW0.out))
          have HS4 := Aside0.mk (Nat.le_trans HS.out hkk.1)
          clear hr1 hb1 hg1 hat1 hkk HO HT HM HG HB HS hx1
          go_wp2
          go_roundw
          case rel => exact ⟨n + 1, by first | exact congrArg (Value.int .i64) hW.out | rfl, ⟨HNL.out⟩, HR4, HT4, HM4, HG4, HB4, HS4⟩
          case measure => exact ms_step HNL.out (by first | exact hW.out | simp)
        · have hn : n = 256 := by have := HN.out; omega
          have hct : C.take n = C := by rw [hn, ← HCL.out, List.take_length]
          have e1 : decide ((n : Int) < 256) = false := decide_eq_false (by omega)
          have e2 : decide (n < 256) = false := decide_eq_false hlt
          rw [hct] at HO
          obtain ⟨Av, cv, hv⟩ := Kd.R_slice HO.out
          rw [HCL.out] at hv
          subst hv
          have HC := Aside0.mk (Kd.R_mono (ok' := fun k => rb ≤ k) (Kd.R_bound HO.out) (fun k hk => hk.2.1))
          clear hlt HN HO hct hn
          go_wp2
          obtain ⟨wo, rfl⟩ : ∃ wo : World, wo = wr := ⟨_, rfl⟩
          go_loopw [16] (fun v16 wr => ∃ (i : Nat), v16 = .int .i64 (i : Int) ∧ Aside0 (i ≤ Q.length) ∧ Aside0 (DenAt wr gt (some gm) base rb gcc gw gn C wd A cp nx) ∧ Aside0 (MAt wr (some gm) 0 (i : Int) 0 0) ∧ Aside0 (Kd.R (Kd.int .i64) 3 wr rb (fun k => rb ≤ k) (.slice Av 256 cv) C) ∧ Aside0 (Below w.heap.size w wr)) (fun v _ => Q.length - (intOf v).toNat)
          case atStart => exact ⟨0, rfl, ⟨Nat.zero_le _⟩, HT, HM, HC, HB⟩
          case round =>
            clear HT HM HC HB HG HS
            obtain ⟨i, rfl, HI, HT, HM, HC, HB⟩ := hrel
            by_cases hlt : i < Q.length
            · have e1 : decide ((i : Int) < (Q.length : Int)) = true := decide_eq_true (by omega)
              have e2 : decide (i < Q.length) = true := decide_eq_true hlt
              have p3 : 0 ≤ (i : Int) := by omega
              have q3 : (i : Int) < (Q.length : Int) := by omega
              obtain ⟨ad, eA, hx0, hx1⟩ := HRL.out (i : Int) p3 q3
              subst eA
              rw [rdA_nat Q i hlt, Int.toNat_natCast] at hx0 hx1
              have HQ := Aside0.mk (HQO.out _ (List.getElem_mem hlt))
              generalize Q[i] = q at hx0 hx1 HQ
              obtain ⟨q0, q1⟩ := q
              have HX := Aside0.mk (And.intro hx0 hx1)
              have p0 := pw_cell_below HB.out hx0
              have p1 := pw_cell_below HB.out hx1
              have hW2 := Aside0.mk (show wrap64 ((i : Int) + 1) = ((i + 1 : Nat) : Int) from wr_in (by have := HLL.out; omega) (by have := HLL.out; omega))
              have HLI := Aside0.mk hlt
              have HQ8 := Aside0.mk (show 0 ≤ q1 ∧ q1 ≤ 255 by have := HQ.out.2; simpa [Lit.wf, IntKind.min, IntKind.max, IntKind.signed, IntKind.bits] using this)
              have HIB := Aside0.mk (show (i : Int) ≤ 1000000000000 by have := HLL.out; omega)
              have HNB := Aside0.mk (show nx.length ≤ 1000000 by have := HLN.out; omega)
              have hnn : ∀ x : Int, (x != x) = false := fun x => bne_self_eq_false x
              clear hlt hx0 hx1
              go_wp2_with fail
              go_region_held3 (fun w' => w'.cell? (ad.add (i * 2)) = some (.int .i64 q0) ∧ w'.cell? ⟨(ad.add (i * 2)).block, (ad.add (i * 2)).off + 1, none⟩ = some (.int .u8 q1))
                (first | exact ⟨p0, p1⟩ | go_keep)
                ((first
                  | (go_at_call 15; refine (dlook_calls 0 (i : Int) 0 0 HT.out.drew (HM.out.below (below_drew (Below.refl _ _))) HCL.out HNB.out q0 q1 HQ8.out.1 HQ8.out.2 (Int.natCast_nonneg i) HIB.out).mono ?_; rintro e w4 ⟨rfl, ht, hp⟩; have HT4 := Aside0.mk ht; have HM4 := Aside0.mk hp.met; have HB4 := Aside0.mk (hp.step (below_drew HB.out) HGM.out); have HC4 := Aside0.mk (Kd.R_kept (Kd.R_drew HC.out) hp.kept (fun k hk e => by have := HLT.out; injection e with e; omega)); clear ht hp p0 p1 HT HM HB HC; have p0 := pw_cell_below HB4.out HX.out.1; have p1 := pw_cell_below HB4.out HX.out.2)
                  | (go_at_call 20; refine (refdn_calls Av An cv cn C nx wd q0 q1 256 _ (by have := (Kd.R_reads' HC4.out).2.2; first | exact this | (rw [HCL.out]; exact this)) (Kd.C_below HRN.out HB4.out) HCL.out rfl HNB.out HQ8.out.1 HQ8.out.2).mono ?_; rintro e w5 ⟨rfl, hb⟩; have HT5 := Aside0.mk (HT4.out.below hb); have HM5 := Aside0.mk (HM4.out.below hb); have HB5 := Aside0.mk (below_step HB4.out hb); have HC5 := Aside0.mk (Kd.R_below HC4.out hb); clear hb p0 p1 HT4 HM4 HB4 HC4; have p0 := pw_cell_below HB5.out HX.out.1; have p1 := pw_cell_below HB5.out HX.out.2)))
              go_wp2
              go_roundw
              case rel => exact ⟨i + 1, by first | exact congrArg (Value.int .i64) hW2.out | rfl, ⟨HLI.out⟩, HT5, ⟨by have := HM5.out; first | exact this | (rw [Int.natCast_add]; exact this)⟩, HC5, HB5⟩
              case measure => exact ms_step HLI.out (by first | exact hW2.out | simp)
            · have hi : i = Q.length := by have := HI.out; omega
              subst hi
              have e1 : decide ((Q.length : Int) < (Q.length : Int)) = false := decide_eq_false (by omega)
              have e2 : decide (Q.length < Q.length) = false := decide_eq_false (by omega)
              clear hlt HI
              go_wp2_with fail
              refine (counts_any _ _ _ _ _ _ HM.out).mono ?_
              rintro e w6 ⟨rfl, hb⟩
              have HB6 := Aside0.mk (below_step HB.out hb)
              clear hb HM HB
              go_wp2
              go_ret
              exact ⟨rfl, HB6.out⟩
end Go.Proofs.Ytkmocajeknafbaa.Met
