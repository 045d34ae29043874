/- MeterSparse, the law function: it answers true for every rows and asks that can be. -/
import Derived.Test.YtkmocajeknafbaaMetS
namespace Go.Proofs.Ytkmocajeknafbaa.Met
open Go Go.RowKit Go.Proofs Go.Proofs.YtkmocajeknafbaaW.PrintWords Go.Proofs.YtkmocajeknafbaaW.PrintMore Go.Proofs.Ytkmocajeknafbaa.Mp Go.Maps
set_option linter.unusedVariables false
set_option linter.unusedSimpArgs false
theorem TabAt.kept2 {w w' : World} {gt base gp gm n : Nat} {M : Option Nat} {L : List Row} {S : Nat → Prop} (h : TabAt w gt M base gp gm n L) (hk : Kept w w' S) (h1 : ¬ S gt) (h2 : ¬ S gp) (h3 : ¬ S gm) : TabAt w' gt M base gp gm n L :=
  ⟨blk_kept h.box hk h1, blk_kept h.var hk h2, h.map.kept hk h3, h.old, h.new⟩
set_option maxHeartbeats 16000000 in
set_option maxRecDepth 100000 in
theorem msparse_skip (Ab Al : Option Addr) (nb nl cb cl : Nat) (w : World) (h : 60 < nb ∨ 60 < nl) :
    Calls Try.prog 4 #[.slice Ab nb cb, .slice Al nl cl] w fun e w' => e = .returned (.bool true) ∧ Below w.heap.size w w' := by
  by_cases h1 : 60 < nb
  · have d1 : decide ((nb : Int) > 60) = true := decide_eq_true (by omega)
    go_enter Try.func4, Try.ntmps4
    go_wp2_with fail
    refine (awake_calls _).mono ?_
    rintro e w1 ⟨rfl, hb1⟩
    have HB1 := Aside0.mk hb1
    clear hb1
    go_wp2
    go_ret
    exact ⟨rfl, HB1.out⟩
  · have d1 : decide ((nb : Int) > 60) = false := decide_eq_false (by omega)
    have d2 : decide ((nl : Int) > 60) = true := decide_eq_true (by omega)
    go_enter Try.func4, Try.ntmps4
    go_wp2_with fail
    refine (awake_calls _).mono ?_
    rintro e w1 ⟨rfl, hb1⟩
    have HB1 := Aside0.mk hb1
    clear hb1
    go_wp2
    go_ret
    exact ⟨rfl, HB1.out⟩
set_option maxHeartbeats 16000000 in
set_option maxRecDepth 100000 in
theorem msparse_calls (Ab Al : Option Addr) (cb cl : Nat) (L : List Row) (Q : List Ask) (w : World) (hrb : RowsAt w Ab L) (hok : RowsOk L) (hrl : AsksAt w Al Q) (hqo : AsksOk Q) (lb : L.length ≤ 60) (ll : Q.length ≤ 60) :
    Calls Try.prog 4 #[.slice Ab L.length cb, .slice Al Q.length cl] w fun e w' => e = .returned (.bool true) ∧ Below w.heap.size w w' := by
  have HRB := Aside0.mk hrb
  have HRO := Aside0.mk hok
  have HRL := Aside0.mk hrl
  have HQO := Aside0.mk hqo
  have HLB := Aside0.mk lb
  have HLL := Aside0.mk ll
  have d1 : decide ((L.length : Int) > 60) = false := decide_eq_false (by omega)
  have d2 : decide ((Q.length : Int) > 60) = false := decide_eq_false (by omega)
  have heq := eqC 9998
  have huC := Try.underlying31
  have huRow := Try.underlying41
  have huR := Try.underlying42
  have huA := Try.underlying45
  clear hrb hrl hok hqo lb ll
  go_enter Try.func4, Try.ntmps4
  go_wp2_with fail
  refine (awake_calls _).mono ?_
  rintro e w0 ⟨rfl, hb0⟩
  have HB0 := Aside0.mk hb0
  clear hb0
  go_wp2_with fail
  refine (meter_new _).mono ?_
  rintro e w1 ⟨rfl, rfl⟩
  have HM := Aside0.mk (show MAt (w0.alloc (.cells #[.int .i64 0, .int .i64 0, .int .i64 0, .int .i64 0] 58)) (some w0.heap.size) 0 0 0 0 from fun g hg => by cases hg; exact blk_new w0 _)
  have HB1 := Aside0.mk (below_alloc HB0.out (.cells #[.int .i64 0, .int .i64 0, .int .i64 0, .int .i64 0] 58))
  have HG0 := Aside0.mk (show w.heap.size ≤ w0.heap.size from HB0.out.size)
  generalize hw1 : w0.alloc (.cells #[.int .i64 0, .int .i64 0, .int .i64 0, .int .i64 0] 58) = w1 at HM HB1 ⊢
  generalize w0.heap.size = gm at HM HG0 ⊢
  clear hw1 HB0
  have HGM : Aside0 (∀ k, (some gm) = some k → w.heap.size ≤ k) := ⟨fun k hk => by cases hk; exact HG0.out⟩
  go_wp2_with fail
  refine (sparse_calls (some gm) Ab cb L w1 (HRB.out.below HB1.out) HRO.out (by have := HLB.out; omega) (fun k hk => HM.out.lt k hk)).mono ?_
  rintro e w2 ⟨gt, gp, gq, nq, rfl, ht, hb⟩
  have HT2 := Aside0.mk ht
  have HM2 := Aside0.mk (HM.out.below hb)
  have HB2 := Aside0.mk (below_step HB1.out hb)
  have HLT := Aside0.mk (show gt < w2.heap.size ∧ gp < w2.heap.size ∧ gq < w2.heap.size ∧ gm < w2.heap.size from ⟨blk_lt ht.box, blk_lt ht.var, ht.map.lt, HM2.out.lt _ rfl⟩)
  have HO0 := Aside0.mk (Kd.R_nil kR 42 w2 w2.heap.size (fun _ => True))
  have HS0 := Aside0.mk (Nat.le_refl w2.heap.size)
  have HW0 := Aside0.mk (show w.heap.size ≤ w2.heap.size from HB2.out.size)
  clear ht hb HM HB1
  generalize w1.heap.size = base at HT2
  generalize hbs : w2.heap.size = rb at HO0 HLT HS0 HW0
  have HS1 := Aside0.mk (show rb ≤ w2.heap.size by omega)
  clear HS0 hbs
  go_wp2
  go_loopw [8, 9] (fun v8 v9 wr => ∃ (n : Nat), v9 = .int .i64 (n : Int) ∧ Aside0 (n ≤ L.length) ∧ Aside0 (Kd.R kR 42 wr rb (fun _ => True) v8 (L.take n)) ∧ Aside0 (TabAt wr gt (some gm) base gp gq nq L) ∧ Aside0 (MAt wr (some gm) 0 0 0 0) ∧ Aside0 (Below w.heap.size w wr) ∧ Aside0 (rb ≤ wr.heap.size)) (fun _ v _ => L.length - (intOf v).toNat)
  case atStart => exact ⟨0, rfl, ⟨Nat.zero_le _⟩, HO0, HT2, HM2, HB2, HS1⟩
  case round =>
    clear HO0 HT2 HM2 HB2 HS1
    obtain ⟨n, rfl, HN, HO, HT, HM, HB, HS⟩ := hrel
    by_cases hlt : n < L.length
    · have c3b0 : decide ((n : Int) < (L.length : Int)) = true := decide_eq_true (by omega)
      have c3b1 : decide (n < L.length) = true := decide_eq_true hlt
      have p1 : 0 ≤ (n : Int) := by omega
      have q1 : (n : Int) < (L.length : Int) := by omega
      obtain ⟨ad, eA, hx0, hx1, hx2⟩ := HRB.out (n : Int) p1 q1
      subst eA
      rw [rdR_nat L n hlt, Int.toNat_natCast] at hx0 hx1 hx2
      have HTK := Aside0.mk (List.take_succ_eq_append_getElem hlt)
      generalize L[n] = r at hx0 hx1 hx2 HTK
      obtain ⟨r0, r1, r2⟩ := r
      have hW2 := Aside0.mk (show wrap64 ((n : Int) + 1) = ((n + 1 : Nat) : Int) by have := HLB.out; unfold wrap64; omega)
      have HNL := Aside0.mk hlt
      have HX := Aside0.mk (And.intro hx0 (And.intro hx1 hx2))
      have p0 := pw_cell_below HB.out hx0
      have p2 := pw_cell_below HB.out hx1
      have p3 := pw_cell_below HB.out hx2
      obtain ⟨Av, cv, hv⟩ := Kd.R_slice HO.out
      rw [List.length_take, Nat.min_eq_left (Nat.le_of_lt hlt)] at hv
      subst hv
      clear hlt hx0 hx1 hx2
      go_wp2_with fail
      go_region_held3 (fun w' => w'.cell? (ad.add (n * 3)) = some (.int .i64 r0) ∧ w'.cell? ⟨(ad.add (n * 3)).block, (ad.add (n * 3)).off + 1, none⟩ = some (.int .u8 r1) ∧ w'.cell? ⟨(ad.add (n * 3)).block, (ad.add (n * 3)).off + 2, none⟩ = some (.int .i64 r2))
        (first | exact ⟨p0, p2, p3⟩ | go_keep)
        ((refine Kd.R_append_step kR (w0 := wr) (W := wr.drew) rb (by rfl) (.tmp 33) (.tmp 50) 39 42 (.agg #[.int .i64 0, .int .u8 0, .int .i64 0]) 24 (by rfl) Try.underlying39 infoR rfl (by decide) (by decide) (.slice Av n cv) (L.take n) (r0, r1, r2) [.int .i64 r0, .int .u8 r1, .int .i64 r2] (fun _ => True) (fun _ => False) (by rfl) (by rfl) (kR_mkM _ _ _ _) (fun _ h => h.elim) (fun _ _ => trivial) (Kd.R_drew HO.out) (below_drew (Below.refl rb wr)) HS.out (by have := HLB.out; rw [List.length_take]; omega) ?_; intro v1 w3 hr1 hb1 hg1 hat1; have HR3 := Aside0.mk hr1; have HB3 := Aside0.mk hb1; have HG3 := Aside0.mk (Kept.of_grown hg1 (Kept.refl _ (fun k => rb ≤ k)) (fun k hk => Or.inl (Kd.R_base HO.out k hk))); clear p0 p2 p3; have HBB := Aside0.mk (Below.trans HB.out (hb1.mono HW0.out)); have p0 := pw_cell_below HBB.out HX.out.1; have p2 := pw_cell_below HBB.out HX.out.2.1; have p3 := pw_cell_below HBB.out HX.out.2.2; clear hr1 hb1 hg1 hat1))
      have HT3 := Aside0.mk (HT.out.drew.kept2 HG3.out (by have := HLT.out; omega) (by have := HLT.out; omega) (by have := HLT.out; omega))
      have HM3 := Aside0.mk ((HM.out.below (below_drew (Below.refl _ _))).kept HG3.out (fun k hk => by cases hk; have := HLT.out; omega))
      have HS3 := Aside0.mk (Nat.le_trans HS.out HG3.out.1)
      have HR4 := Aside0.mk (show Kd.R kR 42 w3 rb (fun _ => True) v1 (L.take (n + 1)) by rw [HTK.out]; exact HR3.out)
      clear HT HM HB HS HR3 HB3 HG3 HO
      go_wp2
      go_roundw
      case rel => exact ⟨n + 1, by first | exact congrArg (Value.int .i64) hW2.out | rfl, ⟨HNL.out⟩, HR4, HT3, HM3, HBB, HS3⟩
      case measure => exact ms_step HNL.out hW2.out
    · have hn : n = L.length := by have := HN.out; omega
      subst hn
      have c3b0 : decide ((L.length : Int) < (L.length : Int)) = false := decide_eq_false (by omega)
      have c3b1 : decide (L.length < L.length) = false := decide_eq_false (by omega)
      rw [List.take_length] at HO
      obtain ⟨Av, cv, hv⟩ := Kd.R_slice HO.out
      subst hv
      clear hlt HN
      go_wp2
      obtain ⟨wo, rfl⟩ : ∃ wo : World, wo = wr := ⟨_, rfl⟩
      have HC := Aside0.mk (Kd.R_mono (ok' := fun k => rb ≤ k) (Kd.R_bound HO.out) (fun k hk => hk.2.1))
      go_loopw [11] (fun v11 wr => ∃ (i : Nat), v11 = .int .i64 (i : Int) ∧ Aside0 (i ≤ Q.length) ∧ Aside0 (TabAt wr gt (some gm) base gp gq nq L) ∧ Aside0 (MAt wr (some gm) 0 (i : Int) 0 0) ∧ Aside0 (Kd.R kR 42 wr rb (fun k => rb ≤ k) (.slice Av L.length cv) L) ∧ Aside0 (Below w.heap.size w wr)) (fun v _ => Q.length - (intOf v).toNat)
      case atStart => exact ⟨0, rfl, ⟨Nat.zero_le _⟩, HT, HM, HC, HB⟩
      case round =>
        clear HT HM HC HB HO
        obtain ⟨i, rfl, HI, HT, HM, HC, HB⟩ := hrel
        by_cases hlt : i < Q.length
        · have c3b0 : decide ((i : Int) < (Q.length : Int)) = true := decide_eq_true (by omega)
          have c3b1 : decide (i < Q.length) = true := decide_eq_true hlt
          have p3 : 0 ≤ (i : Int) := by omega
          have q3 : (i : Int) < (Q.length : Int) := by omega
          obtain ⟨ad, eA, hx0, hx1⟩ := HRL.out (i : Int) p3 q3
          subst eA
          rw [rdA_nat Q i hlt, Int.toNat_natCast] at hx0 hx1
          have HQ := Aside0.mk (HQO.out _ (List.getElem_mem hlt))
          generalize Q[i] = q at hx0 hx1 HQ
          obtain ⟨q0, q1⟩ := q
          have HX := Aside0.mk (And.intro hx0 hx1)
          have p0 := pw_cell_below HB.out hx0
          have p1 := pw_cell_below HB.out hx1
          have hW2 := Aside0.mk (show wrap64 ((i : Int) + 1) = ((i + 1 : Nat) : Int) by have := HLL.out; unfold wrap64; omega)
          have HLI := Aside0.mk hlt
          have HRF := Aside0.mk (show RowsOk L from HRO.out)
          have HIB := Aside0.mk (show (i : Int) ≤ 1000000000000 by have := HLL.out; omega)
          have hnn : ∀ x : Int, (x != x) = false := fun x => bne_self_eq_false x
          clear hlt hx0 hx1
          go_wp2_with fail
          go_region_held3 (fun w' => w'.cell? (ad.add (i * 2)) = some (.int .i64 q0) ∧ w'.cell? ⟨(ad.add (i * 2)).block, (ad.add (i * 2)).off + 1, none⟩ = some (.int .u8 q1))
            (first | exact ⟨p0, p1⟩ | go_keep)
            ((first
              | (go_at_call 15; refine (look_calls 0 (i : Int) 0 0 HT.out.drew (HM.out.below (below_drew (Below.refl _ _))) HRF.out q0 q1 HQ.out.1 HQ.out.2 (Int.natCast_nonneg i) HIB.out).mono ?_; rintro e w4 ⟨rfl, ht, hp⟩; have HT4 := Aside0.mk ht; have HM4 := Aside0.mk hp.met; have HB4 := Aside0.mk (hp.step (below_drew HB.out) HGM.out); have HC4 := Aside0.mk (Kd.R_kept (Kd.R_drew HC.out) hp.kept (fun k hk e => by have := HLT.out; injection e with e; omega)); clear ht hp p0 p1 HT HM HB HC; have p0 := pw_cell_below HB4.out HX.out.1; have p1 := pw_cell_below HB4.out HX.out.2)
              | (go_at_call 16; refine (refsp_calls Av cv L q0 q1 _ (rows_C (Kd.R_reads' HC4.out).2.2) (by have := HLB.out; omega)).mono ?_; rintro e w5 ⟨rfl, hb⟩; have HT5 := Aside0.mk (HT4.out.below hb); have HM5 := Aside0.mk (HM4.out.below hb); have HB5 := Aside0.mk (below_step HB4.out hb); have HC5 := Aside0.mk (Kd.R_below HC4.out hb); clear hb p0 p1 HT4 HM4 HB4 HC4; have p0 := pw_cell_below HB5.out HX.out.1; have p1 := pw_cell_below HB5.out HX.out.2)
              | (go_at_call 15; refine (look_none q0 q1 _).mono ?_; rintro e w6 ⟨rfl, hb⟩; have HT6 := Aside0.mk (HT5.out.below hb); have HM6 := Aside0.mk (HM5.out.below hb); have HB6 := Aside0.mk (below_step HB5.out hb); have HC6 := Aside0.mk (Kd.R_below HC5.out hb); clear hb p0 p1 HT5 HM5 HB5 HC5; have p0 := pw_cell_below HB6.out HX.out.1; have p1 := pw_cell_below HB6.out HX.out.2)))
          go_wp2
          go_roundw
          case rel => exact ⟨i + 1, by first | exact congrArg (Value.int .i64) hW2.out | rfl, ⟨HLI.out⟩, HT6, ⟨by have := HM6.out; first | exact this | (rw [Int.natCast_add]; exact this)⟩, HC6, HB6⟩
          case measure => exact ms_step HLI.out hW2.out
        · have hi : i = Q.length := by have := HI.out; omega
          subst hi
          have c3b0 : decide ((Q.length : Int) < (Q.length : Int)) = false := decide_eq_false (by omega)
          have c3b1 : decide (Q.length < Q.length) = false := decide_eq_false (by omega)
          clear hlt HI
          go_wp2_with fail
          refine (counts_any _ _ _ _ _ _ HM.out).mono ?_
          rintro e w6 ⟨rfl, hb⟩
          have HB6 := Aside0.mk (below_step HB.out hb)
          clear hb HM HB
          go_wp2
          go_ret
          exact ⟨rfl, HB6.out⟩
end Go.Proofs.Ytkmocajeknafbaa.Met
