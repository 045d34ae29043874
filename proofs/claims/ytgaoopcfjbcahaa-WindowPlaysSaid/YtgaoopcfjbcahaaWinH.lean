/- WindowHolds, the law function: it answers true for every list of bytes and every list of lists. -/
import Derived.Test.YtgaoopcfjbcahaaWinF
import Derived.Test.YtgaoopcfjbcahaaWMore
import Derived.Deep.RegionHeld3
import Derived.Deep.QuietTactic
import Derived.BigQuiet
import Derived.RowKit3
import Derived.WideLaws
import Derived.Deep.DeepCutAuto
import Derived.Deep.CutBlock
import Derived.RowKit
import Derived.OwnWalk
import Derived.Laws.MakeOwn
import Derived.WalkSpells
import Derived.Lib.LazyBuf
import Derived.Laws.Slices
import Derived.OwnWalk
import Derived.Lib.ConvBytes
namespace Go.Proofs.Ytgaoopcfjbcahaa.Win
open Go Go.RowKit Go.Proofs Go.Proofs.YtgaoopcfjbcahaaW.PrintWords Go.Proofs.YtgaoopcfjbcahaaW.PrintMore
set_option linter.unusedVariables false
set_option linter.unusedSimpArgs false
attribute [local go_sem] max2_int min2_int max_two min_two max_three min_three
theorem str_app (a b : List Int) : strOfNums (a ++ b) = strOfNums a ++ strOfNums b := by
  apply ByteArray.ext
  simp [strOfNums, ByteArray.data_append]
theorem at_L {w : World} {A : Option Addr} {xs : List (List Int)} (h : Kd.C (Kd.slice 5 (Kd.int .u8)) w A xs.length xs) (j : Nat) (hj : j < xs.length) : ∃ ad A0 c0, A = some ad ∧ w.cell? (ad.add j) = some (.slice A0 (xs[j]).length c0) ∧ (xs[j]).length ≤ c0 ∧ (Kd.int .u8).C w A0 (xs[j]).length (xs[j]) := by
  obtain ⟨ad, c, e, _, hK, hc0⟩ := Kd.C_get h ([] : List Int) (j : Int) (by omega) (by omega)
  rw [Int.toNat_natCast] at hK hc0
  have e2 : xs.getD j [] = xs[j] := by rw [List.getD_eq_getElem?_getD, List.getElem?_eq_getElem hj]; rfl
  rw [e2] at hK
  have hc : ∀ i u, c[i]? = some u → w.cell? (ad.add (j * 1 + i)) = some u := hc0
  obtain ⟨A0, c0, rfl, l0, g0⟩ := hK
  exact ⟨ad, A0, c0, e, by have hq := hc 0 _ rfl; rwa [Nat.mul_one, Nat.add_zero] at hq, l0, g0⟩
theorem add_room_le (st : St) (l : List Int) (h0 : st.held.length ≤ st.room) (hr : st.room ≤ 10000) (hn : st.held.length + l.length ≤ 5000) : (addS st l).room ≤ 10000 ∧ (addS st l).mv ≤ st.mv + 5000 := by
  by_cases h : st.held.length + l.length ≤ st.room
  · obtain ⟨h1, h2⟩ := add_fit st l h
    rw [h1, h2]
    omega
  · obtain ⟨h1, h2⟩ := add_grow st l h h0
    rw [h1, h2]
    unfold roomN
    omega
theorem flat_le : ∀ L : List (List Int), (∀ x ∈ L, x.length ≤ 100) → L.flatten.length ≤ 100 * L.length
  | [], _ => by simp
  | x :: L, h => by
    have h1 := flat_le L (fun y hy => h y (List.mem_cons_of_mem _ hy))
    have h2 := h x (by simp)
    rw [List.flatten_cons, List.length_append, List.length_cons]
    omega
theorem Win.alt {w : World} {g : Nat} {M : Option Nat} {A : Option Addr} {st : St} (h : Win w g M A st) : ∀ ad, A = some ad → ad.block < w.heap.size := by
  obtain ⟨buf, h1, h2, h3⟩ := h
  intro ad e
  rcases Nat.eq_zero_or_pos buf.length with h0 | h0
  · have := h1.no h0
    rw [e] at this
    cases this
  · obtain ⟨gb, q1, q2, _, _⟩ := h1.row h0
    rw [e] at q1
    cases q1
    exact blk_lt q2
theorem Win.set {w : World} {g : Nat} {A : Option Addr} {st : St} (h : Win w g none A st) (go k : Nat) (v : Value) (h1 : go ≠ g) (h2 : ∀ ad, A = some ad → ad.block ≠ go) : Win (w.setCell ⟨go, k, none⟩ v) g none A st :=
  h.kept (Kept.setCell (S := fun k => k = go) (p := ⟨go, k, none⟩) (Kept.refl _ _) (Or.inl rfl) v) (fun e => h1 e.symm) (fun _ hk => by cases hk) (fun ad e hs => h2 ad e hs)
set_option maxHeartbeats 16000000 in
set_option maxRecDepth 100000 in
/-- each byte of a row of one's own, one more: the loop's round -/
theorem holds_skip (Aa Al : Option Addr) (na nl ca cl : Nat) (w : World) (h : 400 < na ∨ 40 < nl) :
    Calls Try.prog 5 #[.slice Aa na ca, .slice Al nl cl] w fun e w' => e = .returned (.bool true) ∧ Below w.heap.size w w' := by
  by_cases h1 : 400 < na
  · have d1 : decide ((na : Int) > 400) = true := decide_eq_true (by omega)
    go_enter Try.func5, Try.ntmps5
    go_wp2_with fail
    refine (awake_calls _).mono ?_
    rintro e w1 ⟨rfl, hb1⟩
    have HB1 := Aside0.mk hb1
    clear hb1
    go_wp2
    go_ret
    exact ⟨rfl, HB1.out⟩
  · have d1 : decide ((na : Int) > 400) = false := decide_eq_false (by omega)
    have d2 : decide ((nl : Int) > 40) = true := decide_eq_true (by omega)
    go_enter Try.func5, Try.ntmps5
    go_wp2_with fail
    refine (awake_calls _).mono ?_
    rintro e w1 ⟨rfl, hb1⟩
    have HB1 := Aside0.mk hb1
    clear hb1
    go_wp2
    go_ret
    exact ⟨rfl, HB1.out⟩
set_option maxHeartbeats 16000000 in
set_option maxRecDepth 100000 in
theorem holds_calls (Aa Al : Option Addr) (ca cl : Nat) (a : List Int) (l : List (List Int)) (w : World) (hra : Kd.C (Kd.int .u8) w Aa a.length a) (hca : a.length ≤ ca) (hrl : Kd.C (Kd.slice 5 (Kd.int .u8)) w Al l.length l) (hcl : l.length ≤ cl) (la : a.length ≤ 400) (ll : l.length ≤ 40) :
    Calls Try.prog 5 #[.slice Aa a.length ca, .slice Al l.length cl] w fun e w' => e = .returned (.bool true) ∧ Below w.heap.size w w' := by
  have HRA := Aside0.mk hra
  have HRL := Aside0.mk hrl
  have HLA := Aside0.mk la
  have HLL := Aside0.mk ll
  have d1 : decide ((a.length : Int) > 400) = false := decide_eq_false (by omega)
  have d2 : decide ((l.length : Int) > 40) = false := decide_eq_false (by omega)
  clear hra hca hrl hcl la ll
  go_enter Try.func5, Try.ntmps5
  go_wp2_with fail
  refine (awake_calls _).mono ?_
  rintro e w1 ⟨rfl, hb1⟩
  have HB1 := Aside0.mk hb1
  clear hb1
  go_wp2_with fail
  refine (window_new none _).mono ?_
  rintro e w2 ⟨rfl, rfl⟩
  have HX := Aside0.mk (win_new (w := w1) (M := none) (fun g hg => by cases hg))
  have HB2 := Aside0.mk (below_alloc HB1.out (.cells #[.pointer (mp none), .slice none 0 0, .int .i64 0] 48))
  have HGE := Aside0.mk HB1.out.size
  generalize hw2 : w1.alloc (.cells #[.pointer (mp none), .slice none 0 0, .int .i64 0] 48) = w2 at HX HB2 ⊢
  generalize w1.heap.size = g at HX HGE ⊢
  clear hw2 HB1
  have HXA : Aside0 (∀ k : Addr, (none : Option Addr) = some k → w.heap.size ≤ k.block) := ⟨fun k hk => by cases hk⟩
  go_wp2_with fail
  refine (win_add HX.out Aa ca w.heap.size a HGE.out (fun k hk => by cases hk) HXA.out (Kd.C_below HRA.out HB2.out) (fun hp ad e => by have hq := far_of HRA.out hp ad e; have := HGE.out; exact ⟨by omega, fun hm => by cases hm⟩) (by decide) (by have := HLA.out; omega) (by decide)).mono ?_
  rintro e w3 ⟨rfl, Ax3, hw, hao, hba, hkp, hbb⟩
  have HB3 := Aside0.mk (Below.trans HB2.out hbb)
  have HX3 := Aside0.mk hw
  have HXA3 := Aside0.mk hba
  have HR3 := Aside0.mk (add_room_le newS a (by decide) (by decide) (by have := HLA.out; show 0 + a.length ≤ 5000; omega))
  clear HX HXA HB2 hw hao hba hkp hbb
  go_wp2_with fail
  refine (win_clear HX3.out w.heap.size HGE.out).mono ?_
  rintro e w4 ⟨rfl, hw, hkp, hbb⟩
  have HB4 := Aside0.mk (Below.trans HB3.out hbb)
  have HX4 := Aside0.mk hw
  have HM4 := Aside0.mk (show (clearS (addS newS a)).room ≤ 10000 ∧ (clearS (addS newS a)).mv ≤ 10000 from ⟨HR3.out.1, Nat.le_trans HR3.out.2 (by decide)⟩)
  have HE4 := Aside0.mk (show (clearS (addS newS a)).held = [] from rfl)
  generalize clearS (addS newS a) = st4 at HX4 HM4 HE4
  clear HX3 HB3 HR3 hw hkp hbb
  go_wp2
  go_loopw [7, 8] (fun v7 v8 wr => ∃ (n : Nat) (Ax : Option Addr) (st : St), v8 = .int .i64 (n : Int) ∧ v7 = .string (strOfNums (l.take n).flatten) ∧ Aside0 (n ≤ l.length) ∧ Aside0 (∀ x ∈ l.take n, x.length ≤ 100) ∧ Aside0 (Win wr g none Ax st) ∧ Aside0 (st.held = (l.take n).flatten) ∧ Aside0 (st.room ≤ 10000 ∧ st.mv ≤ 10000 + 5000 * n) ∧ Aside0 (∀ k, Ax = some k → w.heap.size ≤ k.block) ∧ Aside0 (Below w.heap.size w wr)) (fun _ v _ => l.length - (intOf v).toNat)
  case atStart => exact ⟨0, Ax3, st4, rfl, by rw [List.take_zero]; rfl, ⟨Nat.zero_le _⟩, ⟨by intro x hx; rw [List.take_zero] at hx; cases hx⟩, HX4, ⟨by rw [List.take_zero]; exact HE4.out⟩, ⟨HM4.out.1, by have := HM4.out.2; omega⟩, HXA3, HB4⟩
  case round =>
    clear HX4 HM4 HE4 HXA3 HB4
    obtain ⟨n, Ax, st, rfl, rfl, HN, HL1, HX, HST, HBD, HXA, HB⟩ := hrel
    by_cases hlt : n < l.length
    · have c0b0 : decide ((n : Int) < (l.length : Int)) = true := decide_eq_true (by omega)
      have c0b1 : decide (n < l.length) = true := decide_eq_true hlt
      have p1 : 0 ≤ (n : Int) := by omega
      have q1 : (n : Int) < (l.length : Int) := by omega
      obtain ⟨ad, A1, c1, e1, hx, hl1, hi1⟩ := at_L HRL.out n hlt
      cases e1
      have hx1 := (HB.out.cell (World.block_lt_of_cell? w _ hx)).trans hx
      have HXC := Aside0.mk hx
      have HFX := Aside0.mk (show (l.take n).flatten.length ≤ 4000 by have h1 := flat_le (l.take n) HL1.out; have h2 := List.length_take (i := n) (l := l); have := HLL.out; omega)
      have HI := Aside0.mk hi1
      have htk := List.take_succ_eq_append_getElem hlt
      have HTK := Aside0.mk htk
      have HLC := Aside0.mk hl1
      have HLT := Aside0.mk hlt
      have hW := Aside0.mk (show wrap64 ((n : Int) + 1) = ((n + 1 : Nat) : Int) by have := HLL.out; unfold wrap64; omega)
      generalize l[n] = ln at hx1 HI HTK HLC HXC
      clear hx hl1 hi1 htk hlt
      by_cases h100 : ln.length ≤ 100
      · have c1b0 : decide ((ln.length : Int) > 100) = false := decide_eq_false (by omega)
        have H100 := Aside0.mk h100
        have HO0 := Aside0.mk (Kd.R_nil (Kd.int .u8) 5 wr wr.heap.size (fun _ => True))
        have HI2 := Aside0.mk (Kd.C_below HI.out HB.out)
        have HB0 := Aside0.mk (Below.refl wr.heap.size wr)
        clear h100
        go_wp2_with (first
          | (at_builtin; refine Kd.R_append_rows (Kd.int .u8) (w0 := wr) wr.heap.size rfl (.tmp 42) (.tmp 46) 31 5 (.int .u8 0) 1 rfl Try.underlying31 info5 rfl (by decide) (by decide) (.slice none 0 0) ([] : List Int) ln A1 ln.length c1 (fun _ => True) (fun _ => False) rfl rfl HO0.out HI2.out (fun _ _ h => h) (fun _ h => h.elim) (fun _ _ => trivial) HB0.out (HB0.out.size) (by have := H100.out; simp; omega) ?_; intro v1 w5 hr1 hb1 hg1 hat1; rw [List.nil_append] at hr1; obtain ⟨Ab, cb, hv1⟩ := Kd.R_slice hr1; subst hv1; have HO1 := Aside0.mk hr1; have HB5 := Aside0.mk hb1; clear hr1 hb1 hg1 hat1)
          | fail)
        have HCb := Aside0.mk (Kd.R_reads' HO1.out).2.2
        have HBb := Aside0.mk (fun (ad : Addr) (e : Ab = some ad) => show wr.heap.size ≤ ad.block from Kd.R_base HO1.out ad.block (by rw [e]; rfl))
        have HGL := Aside0.mk HX.out.lt
        have HFL := Aside0.mk (show st.held.length ≤ 4000 by rw [HST.out]; have h1 := flat_le (l.take n) HL1.out; have h2 := List.length_take (i := n) (l := l); have := HLL.out; omega)
        have HRM := Aside0.mk (add_room_le st ln HX.out.le HBD.out.1 (by have := HFL.out; have := H100.out; omega))
        refine (win_add (HX.out.below HB5.out) Ab cb w.heap.size ln HGE.out (fun k hk => by cases hk) HXA.out HCb.out (fun hp ad e => by have hq := HBb.out ad e; have := HGL.out; exact ⟨by omega, fun hm => by cases hm⟩) (by have := HBD.out; omega) (by have := H100.out; omega) (by have := HBD.out; have := HLT.out; have := HLL.out; omega)).mono ?_
        rintro e w6 ⟨rfl, A2, hw, hao, hba, hkp, hbb⟩
        have HXL0 := Aside0.mk HX.out.alt
        have HRb := Aside0.mk (Kd.R_mono (ok' := fun k => wr.heap.size ≤ k ∧ k < w5.heap.size) (Kd.R_kept (Kd.R_bound HO1.out) hkp (fun k hk hs => by have h1 := hk.2.1; have := HGL.out; rcases hs with hs | hs | ⟨ad, h2, h3⟩; omega; cases hs; (have := HXL0.out ad h2; omega))) (fun k hk => ⟨hk.2.1, hk.2.2.1⟩))
        have HA2 := Aside0.mk (fun (ad : Addr) (e : A2 = some ad) => show ad.block < wr.heap.size ∨ w5.heap.size ≤ ad.block by
          rcases hao with h | ⟨gb, h, h2⟩
          · exact Or.inl (HXL0.out ad (by rw [← h]; exact e))
          · rw [h] at e; cases e; exact Or.inr h2)
        have HLO := Aside0.mk HB.out.size
        have HLO2 := Aside0.mk (HB.out.size)
        have HGL2 := Aside0.mk (HGL.out)
        have HB6 := Aside0.mk (Below.trans (Below.trans HB.out (HB5.out.mono HB.out.size)) hbb)
        have HX6 := Aside0.mk hw
        have HXA2 := Aside0.mk hba
        have HST2 := Aside0.mk (show (addS st ln).held = (l.take (n + 1)).flatten by rw [add_held, HST.out, HTK.out, List.flatten_append]; simp)
        have HBD2 := Aside0.mk (show (addS st ln).room ≤ 10000 ∧ (addS st ln).mv ≤ 10000 + 5000 * (n + 1) from ⟨HRM.out.1, by have := HRM.out.2; have := HBD.out.2; omega⟩)
        generalize addS st ln = st2 at HX6 HST2 HBD2
        have HL12 := Aside0.mk (show ∀ x ∈ l.take (n + 1), x.length ≤ 100 by
          intro x hx
          rw [HTK.out] at hx
          rcases List.mem_append.mp hx with h | h
          · exact HL1.out x h
          · rw [List.mem_singleton.mp h]; exact H100.out)
        have HBND := Aside0.mk (show ln.length ≤ 5000 by have := H100.out; omega)
        clear hw hao hba hkp hbb HX HXA HBD HST HCb HBb HO0 HI2 HB0 HO1 HB5 HXL0 HRM
        generalize hb0 : wr.heap.size = b0 at HRb HA2 HLO HLO2 HGL HGL2
        generalize w5.heap.size = b1 at HRb HA2
        clear hb0
        go_wp2
        go_loopw [10] (fun vk ws => ∃ (k : Nat) (xs : List Int), vk = .int .i64 (k : Int) ∧ Aside0 (k ≤ ln.length) ∧ Aside0 (xs.length = ln.length) ∧ Aside0 (Kd.R (Kd.int .u8) 5 ws b0 (fun k => b0 ≤ k ∧ k < b1) (.slice Ab ln.length cb) xs) ∧ Aside0 (Win ws g none A2 st2) ∧ Aside0 (Below w.heap.size w ws)) (fun v _ => ln.length - (intOf v).toNat)
        case atStart => exact ⟨0, ln, rfl, ⟨Nat.zero_le _⟩, ⟨rfl⟩, HRb, HX6, HB6⟩
        case round =>
          clear HRb HX6 HB6
          obtain ⟨k, xs, rfl, HK, HXL, HRk, HWk, HBk⟩ := hrel
          by_cases hlt : k < ln.length
          · have c3b0 : decide ((k : Int) < (ln.length : Int)) = true := decide_eq_true (by omega)
            have c3b1 : decide (k < ln.length) = true := decide_eq_true hlt
            have p3 : 0 ≤ (k : Int) := by omega
            have q3 : (k : Int) < (ln.length : Int) := by omega
            obtain ⟨go8, co8, eo8, gb8, gl8, cl8, HG8⟩ := Kd.R_form HRk.out (by rw [HXL.out]; omega)
            rw [HXL.out] at eo8
            (first | cases eo8 | (injection eo8 with ea_ en_ ec_; (first | subst ea_ | (injection ea_ with ea_; subst ea_)); subst ec_; clear en_))
            obtain ⟨hx8, hf8⟩ := Kd.R_celln 0 HRk.out (k : Int) p3 q3
            rw [Int.toNat_natCast] at hx8 hf8
            generalize rdOf 0 xs (k : Int) = xk at hx8
            have HOK := Aside0.mk (HRk.out.1 go8 rfl)
            have HPT := Aside0.mk (Kd.R_putg HRk.out (k : Int) (IntKind.u8.wrap (xk + 1)))
            have HWS := Aside0.mk (HWk.out.set go8 k (.int .u8 (IntKind.u8.wrap (xk + 1))) (by have := HOK.out; have := HGL.out; have := HGL2.out; omega) (fun ad e => by have := HOK.out; have := HA2.out ad e; omega))
            have HBS := Aside0.mk (Below.setCell (p := ⟨go8, k, none⟩) HBk.out (by have := HOK.out; have := HLO.out; have := HLO2.out; show w.heap.size ≤ go8; omega) (.int .u8 (IntKind.u8.wrap (xk + 1))))
            rw [Int.toNat_natCast] at HPT
            have hW2 := Aside0.mk (show wrap64 ((k : Int) + 1) = ((k + 1 : Nat) : Int) by have := HBND.out; unfold wrap64; omega)
            have HLTk := Aside0.mk hlt
            clear HG8 gb8 gl8 cl8 hlt
            go_wp2
            go_roundw
            case rel => exact ⟨k + 1, _, by first | exact congrArg (Value.int .i64) hW2.out | rfl, ⟨HLTk.out⟩, ⟨by rw [List.length_set]; exact HXL.out⟩, ⟨HPT.out.1⟩, HWS, HBS⟩
            case measure => have := HLTk.out; (try rw [hW2.out]); simp [intOf]; omega
          · have c3b0 : decide ((k : Int) < (ln.length : Int)) = false := decide_eq_false (by omega)
            have c3b1 : decide (k < ln.length) = false := decide_eq_false hlt
            clear hlt HRk HXL
            go_wp2_with fail
            refine (win_bytes HWk.out (by have := HBD2.out; omega)).mono ?_
            rintro e w8 ⟨vx, rfl, hrx, hb8⟩
            obtain ⟨Ac, cc, hvx⟩ := Kd.R_slice hrx
            subst hvx
            have HX8 := Aside0.mk (HWk.out.below hb8)
            have HB8 := Aside0.mk (below_step HBk.out hb8)
            have HGL3 := Aside0.mk HWk.out.lt
            have HA3 := Aside0.mk HWk.out.alt
            have HLO3 := Aside0.mk HBk.out.size
            have HRx := Aside0.mk (Kd.R_mono (ok' := fun k => wr.heap.size ≤ k) (Kd.R_bound hrx) (fun k hk => hk.2.1))
            have HBND2 := Aside0.mk (show st2.held.length ≤ 5000 by rw [HST2.out]; have h1 := flat_le (l.take (n + 1)) HL12.out; have h2 := List.length_take (i := n + 1) (l := l); have := HLL.out; omega)
            clear hrx hb8 HWk HBk
            generalize hb2 : wr.heap.size = b2 at HRx HGL3 HA3 HLO3
            clear hb2
            go_wp2
            go_loopw [12] (fun vk ws => ∃ (k : Nat) (xs : List Int), vk = .int .i64 (k : Int) ∧ Aside0 (k ≤ st2.held.length) ∧ Aside0 (xs.length = st2.held.length) ∧ Aside0 (Kd.R (Kd.int .u8) 5 ws b2 (fun k => b2 ≤ k) (.slice Ac st2.held.length cc) xs) ∧ Aside0 (Win ws g none A2 st2) ∧ Aside0 (Below w.heap.size w ws)) (fun v _ => st2.held.length - (intOf v).toNat)
            case atStart => exact ⟨0, st2.held, rfl, ⟨Nat.zero_le _⟩, ⟨rfl⟩, HRx, HX8, HB8⟩
            case round =>
              clear HRx HX8 HB8
              obtain ⟨k, xs, rfl, HK, HXL, HRk, HWk, HBk⟩ := hrel
              by_cases hlt : k < st2.held.length
              · have c3b0 : decide ((k : Int) < (st2.held.length : Int)) = true := decide_eq_true (by omega)
                have c3b1 : decide (k < st2.held.length) = true := decide_eq_true hlt
                have p3 : 0 ≤ (k : Int) := by omega
                have q3 : (k : Int) < (st2.held.length : Int) := by omega
                obtain ⟨go8, co8, eo8, gb8, gl8, cl8, HG8⟩ := Kd.R_form HRk.out (by rw [HXL.out]; omega)
                rw [HXL.out] at eo8
                (first | cases eo8 | (injection eo8 with ea_ en_ ec_; (first | subst ea_ | (injection ea_ with ea_; subst ea_)); subst ec_; clear en_))
                obtain ⟨hx8, hf8⟩ := Kd.R_celln 0 HRk.out (k : Int) p3 q3
                rw [Int.toNat_natCast] at hx8 hf8
                generalize rdOf 0 xs (k : Int) = xk at hx8
                have HOK := Aside0.mk (HRk.out.1 go8 rfl)
                have HPT := Aside0.mk (Kd.R_putg HRk.out (k : Int) (IntKind.u8.wrap (xk + 1)))
                have HWS := Aside0.mk (HWk.out.set go8 k (.int .u8 (IntKind.u8.wrap (xk + 1))) (by have := HOK.out; have := HGL3.out; omega) (fun ad e => by have := HOK.out; have := HA3.out ad e; omega))
                have HBS := Aside0.mk (Below.setCell (p := ⟨go8, k, none⟩) HBk.out (by have := HOK.out; have := HLO3.out; show w.heap.size ≤ go8; omega) (.int .u8 (IntKind.u8.wrap (xk + 1))))
                rw [Int.toNat_natCast] at HPT
                have hW2 := Aside0.mk (show wrap64 ((k : Int) + 1) = ((k + 1 : Nat) : Int) by have := HBND2.out; unfold wrap64; omega)
                have HLTk := Aside0.mk hlt
                clear HG8 gb8 gl8 cl8 hlt
                go_wp2
                go_roundw
                case rel => exact ⟨k + 1, _, by first | exact congrArg (Value.int .i64) hW2.out | rfl, ⟨HLTk.out⟩, ⟨by rw [List.length_set]; exact HXL.out⟩, ⟨HPT.out.1⟩, HWS, HBS⟩
                case measure => have := HLTk.out; (try rw [hW2.out]); simp [intOf]; omega
              · have c3b0 : decide ((k : Int) < (st2.held.length : Int)) = false := decide_eq_false (by omega)
                have c3b1 : decide (k < st2.held.length) = false := decide_eq_false hlt
                clear hlt HRk HXL
                have hx9 := (HBk.out.cell (World.block_lt_of_cell? w _ HXC.out)).trans HXC.out
                have hcv := Kd.C_string (P := Try.prog) (A := A1) (c := c1) Try.underlying31 Try.underlying5 Try.underlying9 (Kd.C_below HI.out HBk.out)
                have hsz : (strOfNums (l.take n).flatten).size + (strOfNums ln).size ≤ 9223372036854775807 := by
                  rw [strOfNums_size, strOfNums_size]; have := HFX.out; have := H100.out; omega
                have s0 := eq_true hsz
                have s1 : decide ((strOfNums (l.take n).flatten).size + (strOfNums ln).size ≤ 9223372036854775807) = true := decide_eq_true hsz
                have s2 : (9223372036854775807 < (strOfNums (l.take n).flatten).size + (strOfNums ln).size) = False := eq_false (Nat.not_lt.2 hsz)
                have HSE := Aside0.mk (show strOfNums (l.take n).flatten ++ strOfNums ln = strOfNums (l.take (n + 1)).flatten by rw [HTK.out, List.flatten_append, str_app]; simp)
                generalize strOfNums (l.take n).flatten = s7 at hsz s0 s1 s2 HSE ⊢
                generalize strOfNums ln = s8 at hsz s0 s1 s2 HSE hcv ⊢
                clear hsz
                go_wp2
                go_roundw
                case rel => exact ⟨n + 1, A2, st2, by first | exact congrArg (Value.int .i64) hW.out | rfl, congrArg Value.string HSE.out, ⟨HLT.out⟩, HL12, HWk, HST2, HBD2, HXA2, HBk⟩
                case measure => have := HLT.out; (try rw [hW.out]); simp [intOf]; omega
      · have c1b0 : decide ((ln.length : Int) > 100) = true := decide_eq_true (by omega)
        go_wp2
        go_ret
        exact ⟨rfl, HB.out⟩
    · have c0b0 : decide ((n : Int) < (l.length : Int)) = false := decide_eq_false (by omega)
      have c0b1 : decide (n < l.length) = false := decide_eq_false hlt
      obtain rfl : n = l.length := by have := HN.out; omega
      rw [List.take_of_length_le (Nat.le_refl _)] at HST ⊢
      have hsz : (strOfNums l.flatten).size = st.held.length := by rw [strOfNums_size, HST.out]
      generalize l.flatten = FL at HST hsz ⊢
      clear hlt
      go_wp2_with fail
      refine (win_bytes HX.out (by have := HBD.out; omega)).mono ?_
      rintro e w5 ⟨v, rfl, hr, hb5⟩
      rw [HST.out] at hr
      obtain ⟨A4, c4, hv4, hd4, hC4⟩ := Kd.R_reads hr
      subst hv4
      have hcv := Kd.C_string (P := Try.prog) (A := A4) (c := c4) Try.underlying31 Try.underlying5 Try.underlying9 hC4
      have HX5 := Aside0.mk (HX.out.below hb5)
      have HB5 := Aside0.mk (below_step HB.out hb5)
      clear hr hd4 hC4 hb5
      go_wp2_with fail
      refine (win_len HX5.out).mono ?_
      rintro e w6 ⟨rfl, hb6⟩
      have HB6 := Aside0.mk (below_step HB5.out hb6)
      clear hb6 hcv
      go_wp2
      go_ret
      exact ⟨rfl, HB6.out⟩
end Go.Proofs.Ytgaoopcfjbcahaa.Win
