/- ClassesOrder, the law's function: it answers true for every list of texts of bytes and every turn. -/
import Derived.Test.YtongadhccpfpeaaAwk
import Derived.Test.YtongadhccpfpeaaCntB
import Derived.Deep.RegionHeld3
namespace Go.Proofs.Ytongadhccpfpeaa.Base9
open Go Go.RowKit Go.Proofs.YtongadhccpfpeaaW.PrintWords Go.Proofs.YtongadhccpfpeaaW.PrintLast Go.Proofs.YtongadhccpfpeaaW.PrintMore
set_option linter.unusedVariables false
set_option linter.unusedSimpArgs false
attribute [local go_sem ↓] ld29_eq
theorem info36 : (Try.prog.info? 36).map (fun i => (i.zero, i.size, i.bytes)) = some (some (.slice none 0 0), 1, 24) := by kernel_rfl
theorem mem_rot (L : List (List Int)) (t : Nat) (hL : 0 < L.length) (O : List (List Int)) (hO : ∀ x, x ∈ O ↔ ∃ i, i < L.length ∧ x = L.getD ((i + t) % L.length) []) : ∀ x, x ∈ O ↔ x ∈ L := by
  intro x
  rw [hO]
  constructor
  · rintro ⟨i, _, rfl⟩
    have h := Nat.mod_lt (i + t) hL
    rw [List.getD_eq_getElem?_getD, List.getElem?_eq_getElem h]
    exact List.getElem_mem h
  · intro hx
    obtain ⟨n, hn, rfl⟩ := List.getElem_of_mem hx
    refine ⟨(n + (L.length - t % L.length)) % L.length, Nat.mod_lt _ hL, ?_⟩
    have ht := Nat.mod_lt t hL
    have e : ((n + (L.length - t % L.length)) % L.length + t) % L.length = n := by
      rw [Nat.mod_add_mod]
      have e2 : n + (L.length - t % L.length) + t = n + L.length * (1 + t / L.length) := by
        have := Nat.mod_add_div t L.length
        rw [Nat.mul_add, Nat.mul_one]
        omega
      rw [e2, Nat.add_mul_mod_self_left]
      exact Nat.mod_eq_of_lt hn
    rw [e, List.getD_eq_getElem?_getD, List.getElem?_eq_getElem hn]
    rfl
/-- the texts, turned, and the first one once more -/
def rotL (L : List (List Int)) (t : Nat) (n : Nat) : List (List Int) := (List.range n).map (fun i => L.getD ((i + t) % L.length) [])
theorem rot_succ (L : List (List Int)) (t n : Nat) : rotL L t (n + 1) = rotL L t n ++ [L.getD ((n + t) % L.length) []] := by
  unfold rotL
  rw [List.range_succ, List.map_append]
  rfl
theorem rot_len (L : List (List Int)) (t n : Nat) : (rotL L t n).length = n := by simp [rotL]
theorem rot_mem (L : List (List Int)) (t : Nat) (hL : 0 < L.length) (x : List Int) : x ∈ rotL L t L.length ++ [L.getD 0 []] ↔ x ∈ L := by
  have h := mem_rot L t hL (rotL L t L.length) (fun x => by
    unfold rotL
    rw [List.mem_map]
    constructor
    · rintro ⟨i, hi, rfl⟩
      exact ⟨i, List.mem_range.mp hi, rfl⟩
    · rintro ⟨i, hi, rfl⟩
      exact ⟨i, List.mem_range.mpr hi, rfl⟩) x
  rw [List.mem_append, h, List.mem_singleton]
  constructor
  · rintro (h | rfl)
    · exact h
    · rw [List.getD_eq_getElem?_getD, List.getElem?_eq_getElem hL]
      exact List.getElem_mem hL
  · exact Or.inl
theorem mk_same {L O : List (List Int)} (h : ∀ x, x ∈ O ↔ x ∈ L) : mk O = mk L := by
  funext n
  unfold mk
  rw [decide_eq_decide]
  constructor
  · rintro ⟨l, hl, hx⟩; exact ⟨l, (h l).mp hl, hx⟩
  · rintro ⟨l, hl, hx⟩; exact ⟨l, (h l).mpr hl, hx⟩
theorem k_lem (x : Nat) : decide (((x + 1 : Nat) : Int) > 0) = true ∧ decide ((x : Int) + 1 > 0) = true ∧ (0 : Int) < (x : Int) + 1 := ⟨decide_eq_true (by omega), decide_eq_true (by omega), by omega⟩
theorem w_lem (x : Nat) (h : x ≤ 256) : wrap64 ((x : Int) + 1) = (x : Int) + 1 := by unfold wrap64; omega
theorem w_lem2 (x : Nat) (h : x ≤ 256) : wrap64 ((x : Int) + 1 - 1) = (x : Int) ∧ wrap64 (x : Int) = (x : Int) ∧ IntKind.i64.wrap (x : Int) = (x : Int) := ⟨by unfold wrap64; omega, by unfold wrap64; omega, IntWalk.i64_in _ (by omega)⟩
set_option maxHeartbeats 8000000 in
set_option maxRecDepth 100000 in
theorem order_calls (A0 : Option Addr) (c0 : Nat) (l0 : List (List Int)) (t : Nat) (w : World) (hr0 : Kd.C (Kd.slice 5 (Kd.int .u8)) w A0 l0.length l0) (hc0 : l0.length ≤ c0) (hlen : l0.length < 8796093022208) (hby : ∀ l ∈ l0, ∀ x ∈ l, 0 ≤ x ∧ x < 256) (ht0 : t < 256) :
    Calls Try.prog 6 #[.slice A0 l0.length c0, .int .u8 (t : Int)] w fun e w' => e = .returned (.bool true) ∧ Below w.heap.size w w' := by
  obtain ⟨kt, r1, r2, ht, h40⟩ := texts_tot l0 hlen
  have HTX := Aside0.mk (fun (W : World) (h : Kd.C (Kd.slice 5 (Kd.int .u8)) W A0 l0.length l0) => seinelaw09_texts.calls kt A0 c0 l0 r1 r2 W h hc0 ht)
  have HCO := Aside0.mk (fun (W : World) (h : Kd.C (Kd.slice 5 (Kd.int .u8)) W A0 l0.length l0) => cof_calls A0 c0 l0 W h hc0 hby)
  have HT := Aside0.mk (tbl_all l0 hby)
  have H12 := Aside0.mk (fun h => (h40 h).2.1)
  generalize clsN (listS (allS l0)) (listS (allS l0)).length = cs at HT HCO
  have HBY := Aside0.mk hby
  have hz := zero29
  have hs257 : cs.size = 257 := HT.out.size
  have hst := fun W => run_storeCells_new (P := Try.prog) W 29 zeroC cs (by rw [hs257]; exact info29) (by rw [hs257]; simp [zeroC]) HT.out.one
  have HZS := Aside0.mk (show zeroC.size = 257 by simp [zeroC])
  generalize zeroC = zc at hz hst HZS
  have HR := Aside0.mk hr0
  have HW8 := Aside0.mk ht0
  clear h40 hr0 hc0 hlen hby ht
  go_enter Try.func6, Try.ntmps6
  go_wp2_with fail
  refine (awake_calls _).mono ?_
  rintro e w1 ⟨rfl, hb1⟩
  have HR1' := Aside0.mk (Kd.C_below HR.out hb1)
  have HB1 := Aside0.mk hb1
  clear hb1
  go_wp2_with fail
  refine (HTX.out _ HR1'.out).mono ?_
  rintro e w2 ⟨v, rfl, hr2, hb2⟩
  have HR2 := Aside0.mk (Kd.C_below HR1'.out hb2)
  have HB2 := Aside0.mk (below_step HB1.out hb2)
  clear hb2 HR1' HB1 hr2
  cases r2
  · go_wp2
    go_ret
    exact ⟨rfl, HB2.out⟩
  · by_cases hL : l0.length = 0
    · have z0 : ((l0.length : Int) == 0) = true := by rw [hL]; rfl
      go_wp2
      go_ret
      exact ⟨rfl, HB2.out⟩
    · have z0 : ((l0.length : Int) == 0) = false := by simpa using (show ¬ (l0.length : Int) = 0 by omega)
      have z1 : ¬ (l0.length : Int) = 0 := by omega
      have z2 : ¬ l0 = [] := fun e => hL (by rw [e]; rfl)
      go_wp2_with fail
      refine (HCO.out _ HR2.out).mono ?_
      rintro e w3 ⟨rfl, hb3⟩
      have HG := Aside0.mk (blk_new w3 (.cells cs 29))
      have HB3 := Aside0.mk (below_alloc (below_step HB2.out hb3) (.cells cs 29))
      have hld := ld29_run w3.heap.size cs hs257
      clear hb3 HR2 HB2 HCO HTX
      go_wp2_with fail
      generalize hwb : w3.alloc (.cells cs 29) = wb at HG HB3 ⊢
      generalize w3.heap.size = g8 at HG hld ⊢
      have H12b := Aside0.mk (H12.out (by trivial))
      clear hwb hst H12
      go_loopw [9, 10] (fun v9 v10 wr => ∃ (n : Nat) (cells : List Value), v10 = .int .i64 (n : Int) ∧ Aside0 (n ≤ l0.length) ∧ Aside0 (wr.ownsRow wb.heap.size 36 1 v9 n cells) ∧ Aside0 (Reps ((Kd.slice 5 (Kd.int .u8)).K w) 1 (rotL l0 t n) cells) ∧ Aside0 (Below wb.heap.size wb wr)) (fun _ v _ => l0.length - (intOf v).toNat)
      case atStart => exact ⟨0, [], rfl, ⟨Nat.zero_le _⟩, ⟨own_nil _ _ _ _⟩, ⟨Reps.none _ _⟩, ⟨Below.refl _ _⟩⟩
      case round =>
        obtain ⟨n, cells, rfl, HN, HO, HP, HBr⟩ := hrel
        have HBW := Aside0.mk (below_step HB3.out HBr.out)
        by_cases hlt : n < l0.length
        · have c0b0 : decide ((n : Int) < (l0.length : Int)) = true := decide_eq_true (by omega)
          have c0b1 : decide (n < l0.length) = true := decide_eq_true hlt
          have hm0 := Nat.mod_lt (n + t) (show 0 < l0.length by omega)
          have hmt : ((n : Int) + (t : Int)).tmod (l0.length : Int) = (((n + t) % l0.length : Nat) : Int) := by
            rw [← Int.natCast_add]; exact Int.ofNat_tmod _ _ |>.symm
          have hrs := rot_succ l0 t n
          generalize hmm : (n + t) % l0.length = m at hm0 hmt hrs
          have HMM := Aside0.mk hmm
          clear hmm
          have hw1 : wrap64 ((n : Int) + (t : Int)) = (n : Int) + (t : Int) := by have := H12b.out; have := HW8.out; unfold wrap64; omega
          have hw2 : wrap64 (t : Int) = (t : Int) := by have := HW8.out; unfold wrap64; omega
          have hw3 : wrap64 (m : Int) = (m : Int) := by have := H12b.out; unfold wrap64; omega
          have p1 : 0 ≤ (m : Int) := by omega
          have q1 : (m : Int) < (l0.length : Int) := by omega
          have q2 : decide ((m : Int) < (l0.length : Int)) = true := decide_eq_true q1
          have q3 : decide (m < l0.length) = true := decide_eq_true hm0
          obtain ⟨ad, A1, c1, e1, hx, hl1, hi1⟩ := at_L3 HR.out (m : Int) p1 q1
          cases e1
          have hel : rd_L3 l0 (m : Int) = l0.getD m [] := by unfold rd_L3; rw [Int.toNat_natCast]
          have RK := Aside0.mk (show (Kd.slice 5 (Kd.int .u8)).K w (l0.getD m []) [.slice A1 (rd_L3 l0 (m : Int)).length c1] from ⟨A1, c1, by rw [hel], by rw [hel] at hl1; exact hl1, by rw [hel] at hi1; exact hi1⟩)
          have hx1 := (HBW.out.cell (World.block_lt_of_cell? w _ hx)).trans hx
          rw [Int.toNat_natCast] at hx1
          generalize (rd_L3 l0 (m : Int)).length = ln at hx1 RK
          have HW := Aside0.mk (show wrap64 ((n : Int) + 1) = ((n + 1 : Nat) : Int) by have := H12b.out; unfold wrap64; omega)
          have HRS := Aside0.mk hrs
          have HLT := Aside0.mk hlt
          clear hx hl1 hi1 hel hrs hlt
          go_wp2_with (at_builtin; refine print_append_cells (w0 := wb) wb.heap.size rfl (.tmp 38) (.tmp 49) 22 36 (.slice none 0 0) 1 24 rfl Try.underlying22 info36 rfl (by decide) (by decide) _ n cells [.slice A1 ln c1] rfl rfl rfl (by simp [Value.oneCell']) HO.out HBr.out HBr.out.size (by have := H12b.out; have := HLT.out; omega) ?_; intro v1 w1 ho1 hb1 hg1 hat1)
          go_roundw
          case rel => exact ⟨n + 1, _, congrArg (Value.int .i64) HW.out, ⟨HLT.out⟩, ⟨ho1⟩, ⟨by rw [HRS.out]; exact Reps.snoc HP.out RK.out rfl⟩, ⟨hb1⟩⟩
          case measure => have := HLT.out; rw [HW.out]; simp [intOf]; omega
        · have c0b0 : decide ((n : Int) < (l0.length : Int)) = false := decide_eq_false (by omega)
          have c0b1 : decide (n < l0.length) = false := decide_eq_false hlt
          obtain rfl : n = l0.length := by have := HN.out; omega
          clear hlt
          have q1 : (0 : Int) < (l0.length : Int) := by omega
          have q2 : decide ((0 : Int) < (l0.length : Int)) = true := decide_eq_true q1
          have q3 : decide (0 < l0.length) = true := decide_eq_true (by omega)
          have q4 : 0 < l0.length := by omega
          obtain ⟨ad, A1, c1, e1, hx, hl1, hi1⟩ := at_L3 HR.out 0 (by omega) q1
          cases e1
          have hel : rd_L3 l0 0 = l0.getD 0 [] := rfl
          have RK := Aside0.mk (show (Kd.slice 5 (Kd.int .u8)).K w (l0.getD 0 []) [.slice A1 (rd_L3 l0 0).length c1] from ⟨A1, c1, by rw [hel], by rw [hel] at hl1; exact hl1, by rw [hel] at hi1; exact hi1⟩)
          have hx1 := (HBW.out.cell (World.block_lt_of_cell? w _ hx)).trans hx
          rw [show (0 : Int).toNat = 0 from rfl] at hx1
          rw [Addr.add_zero'] at hx1
          generalize (rd_L3 l0 0).length = ln at hx1 RK
          have HOB := Aside0.mk (fun x => rot_mem l0 t q4 x)
          have HOL := Aside0.mk (show (rotL l0 t l0.length ++ [l0.getD 0 []]).length = l0.length + 1 by rw [List.length_append, rot_len]; rfl)
          generalize rotL l0 t l0.length = O0 at HP HOB HOL
          generalize l0.getD 0 [] = l00 at RK HOB HOL
          clear hx hl1 hi1 hel
          go_wp2_with (first
            | (at_builtin; refine print_append_cells (w0 := wb) wb.heap.size rfl (.tmp 51) (.tmp 55) 22 36 (.slice none 0 0) 1 24 rfl Try.underlying22 info36 rfl (by decide) (by decide) _ l0.length cells [.slice A1 ln c1] rfl rfl rfl (by simp [Value.oneCell']) HO.out HBr.out HBr.out.size (by have := H12b.out; omega) ?_; intro v1 w1 ho1 hb1 hg1 hat1)
            | fail)
          have HP2 := Reps.imp_ (Reps.snoc HP.out RK.out rfl) (fun p c hk => (Kd.slice 5 (Kd.int .u8)).K_below (below_step HB3.out hb1) hk)
          obtain ⟨Ao, co, hvo, hRR⟩ := own_reads_row ho1 HP2 HOL.out
          subst hvo
          have hco := own_le ho1
          have HB5 := Aside0.mk hb1
          have hby2 : ∀ l ∈ O0 ++ [l00], ∀ x ∈ l, 0 ≤ x ∧ x < 256 := fun l hl => HBY.out l ((HOB.out l).mp hl)
          have HTD := tbl_all (O0 ++ [l00]) hby2
          rw [mk_same HOB.out] at HTD
          have HOLx := HOL.out
          generalize hOO : O0 ++ [l00] = OO at hRR HTD hby2 HOLx
          have HCD := cof_calls Ao co OO w1 (by rw [HOLx]; exact hRR) (by rw [HOLx]; exact hco) hby2
          rw [HOLx] at HCD
          generalize clsN (listS (allS OO)) (listS (allS OO)).length = ds at HTD HCD
          have HCD := Aside0.mk HCD
          have HTD := Aside0.mk HTD
          have hds257 : ds.size = 257 := HTD.out.size
          have hstd := fun W => run_storeCells_new (P := Try.prog) W 29 zc ds (by rw [hds257]; exact info29) (by rw [hds257]; exact HZS.out) HTD.out.one
          clear hOO hRR ho1 HP2 hg1 hat1 hby2 HOLx hb1 hx1 HO HP HBr HBW
          go_wp2_with fail
          refine HCD.out.mono ?_
          rintro e w6 ⟨rfl, hb6⟩
          have HGD := Aside0.mk (blk_new w6 (.cells ds 29))
          have HB6 := Aside0.mk (below_alloc (below_step HB5.out hb6) (.cells ds 29))
          have hldd := ld29_run w6.heap.size ds hds257
          clear hb6 HCD HB5
          go_wp2_with fail
          have HGX := Aside0.mk (blk_below HG.out HB6.out)
          generalize hwx : w6.alloc (.cells ds 29) = wx at HGD HB6 HGX ⊢
          generalize w6.heap.size = gd at HGD hldd ⊢
          clear hwx hstd hz HG
          have HBX := Aside0.mk (below_step HB3.out HB6.out)
          clear HB6 HB3
          generalize hpp : mk l0 = p at HT HTD
          have HK := Aside0.mk (fun b h0 h1 => classT_calls HT.out b h0 h1)
          have HLC := Aside0.mk (lenT_calls HT.out)
          have HLD := Aside0.mk (lenT_calls HTD.out)
          have HTC := Aside0.mk (tableT_calls HT.out)
          have HTE := Aside0.mk (tableT_calls HTD.out)
          have heq : ∀ W : World, (Op.equalIn 10000 27 (.agg (cs.toList.take 256).toArray) (.agg (ds.toList.take 256).toArray)).run Try.prog W = .ok true W := fun W => by
            rw [eq_tab W (fun b => (clsK p b : Int)) (fun b => (clsK p b : Int)) _ _ (fun i hi => by rw [← HT.out.at_ i hi]; simp [List.getElem?_take, hi]) (fun i hi => by rw [← HTD.out.at_ i hi]; simp [List.getElem?_take, hi])]
            rw [decide_eq_true (fun i _ => rfl)]
          have HCS := Aside0.mk (cntp_succ p)
          have HCL := Aside0.mk (cntp_le p)
          have HKD := Aside0.mk (fun b => show clsK p b = if p b = true then cntp p (b + 1) else 0 from rfl)
          clear hpp
          go_loopw [12, 13] (fun v12 v13 wr => ∃ b : Nat, v12 = .int .i64 (cntp p b : Int) ∧ v13 = .int .i64 (b : Int) ∧ Aside0 (b ≤ 256) ∧ Aside0 (Below wx.heap.size wx wr)) (fun _ v _ => 256 - (intOf v).toNat)
          case atStart => exact ⟨0, rfl, rfl, ⟨by omega⟩, ⟨Below.refl _ _⟩⟩
          case round =>
            obtain ⟨b, rfl, rfl, HBB, HBr⟩ := hrel
            have PB := HBr.out
            have pR := range_of (blk_below HGX.out PB)
            have pD := range_of (blk_below HGD.out PB)
            clear HBr
            by_cases hlt : b < 256
            · have c1b0 : decide ((b : Int) < 256) = true := decide_eq_true (by omega)
              have c1b1 : decide (b < 256) = true := decide_eq_true hlt
              have hm : (b : Int) % 256 = (b : Int) := by omega
              have hw8 : IntKind.u8.wrap (b : Int) = (b : Int) := IntWalk.u8_in _ (by omega)
              have HW := Aside0.mk (show wrap64 ((b : Int) + 1) = ((b + 1 : Nat) : Int) by unfold wrap64; omega)
              have hKC := Aside0.mk (HK.out (b : Int) (by omega) (by omega))
              rw [Int.toNat_natCast] at hKC
              have hs := HCS.out b
              have hc := HCL.out b
              have hk := HKD.out b
              have HLT := Aside0.mk hlt
              clear hlt
              by_cases hpb : p b = true
              · rw [if_pos hpb] at hs hk
                rw [hk, hs] at hKC
                have k1 := (k_lem (cntp p b)).1
                have k2 := (k_lem (cntp p b)).2.1
                have k3 := w_lem (cntp p b) (by have h := HLT.out; exact Nat.le_trans hc (Nat.le_of_lt h))
                have k4 := (k_lem (cntp p b)).2.2
                have HS := Aside0.mk hs
                clear hs hk hc hpb
                go_wp2_with fail
                refine (hKC.out _).mono ?_
                rintro e w7 ⟨rfl, hb7⟩
                have HB7 := Aside0.mk (below_step PB hb7)
                go_wp2
                go_roundw
                case rel => exact ⟨b + 1, by rw [HS.out]; rfl, by first | exact congrArg (Value.int .i64) HW.out | rfl, ⟨HLT.out⟩, HB7⟩
                case measure => have := HLT.out; (try rw [HW.out]); simp [intOf]; omega
              · rw [if_neg hpb] at hs hk
                rw [hk] at hKC
                have hs2 : cntp p (b + 1) = cntp p b := hs
                have HS := Aside0.mk hs2
                clear hs hk hc hpb hs2
                go_wp2_with fail
                refine (hKC.out _).mono ?_
                rintro e w7 ⟨rfl, hb7⟩
                have HB7 := Aside0.mk (below_step PB hb7)
                go_wp2
                go_roundw
                case rel => exact ⟨b + 1, by rw [HS.out], by first | exact congrArg (Value.int .i64) HW.out | rfl, ⟨HLT.out⟩, HB7⟩
                case measure => have := HLT.out; (try rw [HW.out]); simp [intOf]; omega
            · have c1b0 : decide ((b : Int) < 256) = false := decide_eq_false (by omega)
              have c1b1 : decide (b < 256) = false := decide_eq_false hlt
              obtain rfl : b = 256 := by have := HBB.out; omega
              obtain ⟨hw, hw2, hw3⟩ := w_lem2 (cntp p 256) (HCL.out 256)
              clear hlt
              generalize (cntp p 256 : Int) = qn at hw hw2 hw3 HLC HLD ⊢
              go_wp2_with fail
              go_region_held3 (fun w' => w'.rangeAt g8 0 cs.toList ∧ w'.rangeAt gd 0 ds.toList)
                (first | exact ⟨pR, pD⟩ | exact ⟨(World.rangeAt_drew _ _ _ _).2 pR, (World.rangeAt_drew _ _ _ _).2 pD⟩ | go_keep_ranges)
                ((first
                  | (go_at_call 13; with_reducible refine (HLC.out _).mono ?_; rintro e wj ⟨rfl, hb'⟩; have PB' : Below wx.heap.size wx wj := (by first | exact below_step PB hb' | exact below_step PB.drew hb' | exact below_step (pw_below_drewN (Below.refl _ _) _) hb'); clear PB; have PB := PB'; clear PB'; have pR := range_of (blk_below HGX.out PB); have pD := range_of (blk_below HGD.out PB); clear hb')
                  | (go_at_call 13; with_reducible refine (HLD.out _).mono ?_; rintro e wj ⟨rfl, hb'⟩; have PB' : Below wx.heap.size wx wj := (by first | exact below_step PB hb' | exact below_step PB.drew hb' | exact below_step (pw_below_drewN (Below.refl _ _) _) hb'); clear PB; have PB := PB'; clear PB'; have pR := range_of (blk_below HGX.out PB); have pD := range_of (blk_below HGD.out PB); clear hb')
                  | (go_at_call 10; with_reducible refine (HTC.out _).mono ?_; rintro e wj ⟨rfl, hb'⟩; have PB' : Below wx.heap.size wx wj := (by first | exact below_step PB hb' | exact below_step PB.drew hb' | exact below_step (pw_below_drewN (Below.refl _ _) _) hb'); clear PB; have PB := PB'; clear PB'; have pR := range_of (blk_below HGX.out PB); have pD := range_of (blk_below HGD.out PB); clear hb')
                  | (go_at_call 10; with_reducible refine (HTE.out _).mono ?_; rintro e wj ⟨rfl, hb'⟩; have PB' : Below wx.heap.size wx wj := (by first | exact below_step PB hb' | exact below_step PB.drew hb' | exact below_step (pw_below_drewN (Below.refl _ _) _) hb'); clear PB; have PB := PB'; clear PB'; have pR := range_of (blk_below HGX.out PB); have pD := range_of (blk_below HGD.out PB); clear hb')))
              go_wp2
              go_ret
              exact ⟨rfl, by first | exact below_step HBX.out PB | exact below_step HBX.out PB.drew⟩
end Go.Proofs.Ytongadhccpfpeaa.Base9
