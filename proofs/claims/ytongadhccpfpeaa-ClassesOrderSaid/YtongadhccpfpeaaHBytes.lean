/- ClassesBytes, the law's function: it answers true for every list of texts of bytes and every number. -/
import Derived.Test.YtongadhccpfpeaaAwk
import Derived.Test.YtongadhccpfpeaaCntB
import Derived.Deep.RegionHeld3
namespace Go.Proofs.Ytongadhccpfpeaa.Base9
open Go Go.RowKit Go.Proofs.YtongadhccpfpeaaW.PrintWords Go.Proofs.YtongadhccpfpeaaW.PrintLast Go.Proofs.YtongadhccpfpeaaW.PrintMore
set_option linter.unusedVariables false
set_option linter.unusedSimpArgs false
attribute [local go_sem ↓] ld29_eq
theorem stepR {α : Type} {d : Kd α} {e b : Nat} {ok : Nat → Prop} {v : Value} {xs : List α} {wr wj : World} (PC : d.R e wr b ok v xs) (hb' : Below wr.drew.heap.size wr.drew wj) : d.R e wj b ok v xs := Kd.R_below (Kd.R_below PC (Below.refl _ _).drew) hb'
theorem stepX {wr wj : World} {b o : Nat} {v : Value} (hx : wr.cell? ⟨b, o, none⟩ = some v) (hb' : Below wr.drew.heap.size wr.drew wj) : wj.cell? ⟨b, o, none⟩ = some v :=
  (hb'.cell (p := ⟨b, o, none⟩) (World.block_lt_of_cell? _ _ hx)).trans hx
theorem elB (p : Nat → Bool) (i : Int) (j : Nat) (hj : j < (bytesK p i).length) : 0 ≤ rdOf 0 (bytesK p i) (j : Int) ∧ rdOf 0 (bytesK p i) (j : Int) < 256 ∧ (clsK p (rdOf 0 (bytesK p i) (j : Int)).toNat : Int) = i := by
  have e : rdOf 0 (bytesK p i) (j : Int) = (bytesK p i)[j] := by
    unfold rdOf; rw [Int.toNat_natCast, List.getD_eq_getElem?_getD, List.getElem?_eq_getElem hj]; rfl
  rw [e]
  obtain ⟨b, h1, h2, h3⟩ := (mem_bytesK p i _).mp (List.getElem_mem hj)
  rw [h2, Int.toNat_natCast]
  omega
theorem elU (p : Nat → Bool) (i : Int) (j : Nat) (hj : j + 1 < (bytesK p i).length) : rdOf 0 (bytesK p i) (j : Int) < rdOf 0 (bytesK p i) ((j + 1 : Nat) : Int) := by
  have e : ∀ m (hm : m < (bytesK p i).length), rdOf 0 (bytesK p i) (m : Int) = (bytesK p i)[m] := fun m hm => by
    unfold rdOf; rw [Int.toNat_natCast, List.getD_eq_getElem?_getD, List.getElem?_eq_getElem hm]; rfl
  rw [e j (by omega), e (j + 1) hj]
  exact List.pairwise_iff_getElem.mp (bytesK_rise p i) j (j + 1) (by omega) hj (by omega)
set_option maxHeartbeats 8000000 in
set_option maxRecDepth 100000 in
theorem bytesL_calls (A0 : Option Addr) (c0 : Nat) (l0 : List (List Int)) (kk : Int) (w : World) (hr0 : Kd.C (Kd.slice 5 (Kd.int .u8)) w A0 l0.length l0) (hc0 : l0.length ≤ c0) (hlen : l0.length < 8796093022208) (hby : ∀ l ∈ l0, ∀ x ∈ l, 0 ≤ x ∧ x < 256) :
    Calls Try.prog 5 #[.slice A0 l0.length c0, .int .i64 kk] w fun e w' => e = .returned (.bool true) ∧ Below w.heap.size w w' := by
  obtain ⟨kt, r1, r2, ht, h40⟩ := texts_tot l0 hlen
  have HTX := Aside0.mk (fun (W : World) (h : Kd.C (Kd.slice 5 (Kd.int .u8)) W A0 l0.length l0) => seinelaw09_texts.calls kt A0 c0 l0 r1 r2 W h hc0 ht)
  have HCO := Aside0.mk (fun (W : World) (h : Kd.C (Kd.slice 5 (Kd.int .u8)) W A0 l0.length l0) => cof_calls A0 c0 l0 W h hc0 hby)
  have HT := Aside0.mk (tbl_all l0 hby)
  generalize clsN (listS (allS l0)) (listS (allS l0)).length = cs at HT HCO
  generalize mk l0 = p at HT
  have hz := zero29
  have HC256 := Aside0.mk (cntp_le p 256)
  have HTS := Aside0.mk (tot_succ p)
  have HTE := Aside0.mk (tot_end p)
  have HT0 := Aside0.mk (show totN (cntp p 256) 0 = 0 from rfl)
  have HTL := Aside0.mk (fun i => tot_le (cntp p 256) i (cntp_le p 256))
  have HON := Aside0.mk (bytesK_one p)
  have HNO := Aside0.mk (bytesK_none p)
  have HEL := Aside0.mk (elB p)
  have HEU := Aside0.mk (elU p)
  have HK := Aside0.mk (fun b h0 h1 => classT_calls HT.out b h0 h1)
  have HL := Aside0.mk (lenT_calls HT.out)
  have HBC := Aside0.mk (fun k w => bytes_calls HT.out k w)
  have hs257 : cs.size = 257 := HT.out.size
  have hst := fun W => run_storeCells_new (P := Try.prog) W 29 zeroC cs (by rw [hs257]; exact info29) (by rw [hs257]; simp [zeroC]) HT.out.one
  generalize zeroC = zc at hz hst
  generalize bytesK p = BK at HTS HON HNO HEL HEU HBC
  generalize cntp p 256 = cn at HT0 HC256 HTS HTE HTL HON HNO HL
  generalize totN cn = TN at HT0 HTS HTE HTL
  have HR := Aside0.mk hr0
  clear h40 hr0 hc0 hlen hby ht
  go_enter Try.func5, Try.ntmps5
  go_wp2_with fail
  refine (awake_calls _).mono ?_
  rintro e w1 ⟨rfl, hb1⟩
  have HR1' := Aside0.mk (Kd.C_below HR.out hb1)
  have HB1 := Aside0.mk hb1
  clear hb1
  go_wp2_with fail
  refine (HTX.out _ HR1'.out).mono ?_
  rintro e w2 ⟨v, rfl, hr2, hb2⟩
  have HR2 := Aside0.mk (Kd.C_below HR1'.out hb2)
  have HB2 := Aside0.mk (below_step HB1.out hb2)
  clear hb2 HR1' HB1 hr2
  cases r2
  · go_wp2
    go_ret
    exact ⟨rfl, HB2.out⟩
  · go_wp2_with fail
    refine (HCO.out _ HR2.out).mono ?_
    rintro e w3 ⟨rfl, hb3⟩
    have HG := Aside0.mk (blk_new w3 (.cells cs 29))
    have HB3 := Aside0.mk (below_alloc (below_step HB2.out hb3) (.cells cs 29))
    have hld := ld29_run w3.heap.size cs hs257
    clear hb3 HR2 HB2 HCO HTX HR
    go_wp2_with fail
    generalize hwb : w3.alloc (.cells cs 29) = wb at HG HB3 ⊢
    generalize w3.heap.size = g8 at HG hld ⊢
    clear hwb hst hs257 hz
    go_loopw [9, 10] (fun v9 v10 wr => ∃ i : Nat, v9 = .int .i64 ((TN i : Nat) : Int) ∧ v10 = .int .i64 (i : Int) ∧ Aside0 (i ≤ cn + 1) ∧ Aside0 (Below wb.heap.size wb wr)) (fun _ v _ => cn + 1 - (intOf v).toNat)
    case atStart => exact ⟨0, by rw [HT0.out]; rfl, rfl, ⟨by omega⟩, ⟨Below.refl _ _⟩⟩
    case round =>
      obtain ⟨i, rfl, rfl, HI, HBr⟩ := hrel
      have PB := HBr.out
      have pR := range_of (blk_below HG.out PB)
      clear HBr
      by_cases hlt0 : i < cn + 1
      · have c0b0 : decide ((i : Int) < (cn : Int) + 1) = true := decide_eq_true (by omega)
        have c0b1 : decide ((i : Int) < 300) = true := decide_eq_true (by have := HC256.out; omega)
        have HLT0 := Aside0.mk hlt0
        clear hlt0
        go_wp2_with fail
        refine (HL.out _).mono ?_
        rintro e w5 ⟨rfl, hb5⟩
        have PB5 := below_step PB hb5
        clear PB pR hb5
        have PB := PB5
        clear PB5
        have pR := range_of (blk_below HG.out PB)
        go_wp2_with fail
        refine (HBC.out (i : Int) _).mono ?_
        rintro e w6 ⟨vb, rfl, hrb, hb6⟩
        have HPB := Aside0.mk (below_step PB hb6)
        have HTSi := Aside0.mk (HTS.out i (by have := HLT0.out; omega))
        have HELi := Aside0.mk (HEL.out (i : Int))
        have HEUi := Aside0.mk (HEU.out (i : Int))
        have HONi := Aside0.mk (HON.out i)
        generalize BK (i : Int) = L at hrb HTSi HELi HEUi HONi
        obtain ⟨Ab, cb, hvb⟩ := Kd.R_slice hrb
        subst hvb
        have HRB := Aside0.mk hrb
        clear hrb hb6 PB pR
        generalize hw5s : w5.heap.size = B5 at HRB
        clear hw5s
        generalize hTi : TN i = Ti at HTSi ⊢
        have HTi := Aside0.mk hTi
        clear hTi
        generalize hTj : TN (i + 1) = Tj at HTSi
        have HTj := Aside0.mk hTj
        clear hTj
        go_wp2
        go_loopw [12] (fun v12 ws => ∃ j : Nat, v12 = .int .i64 (j : Int) ∧ Aside0 (j ≤ L.length) ∧ Aside0 (Below wb.heap.size wb ws) ∧ Aside0 (Kd.R (Kd.int .u8) 5 ws B5 (fun _ => True) (.slice Ab L.length cb) L)) (fun v _ => L.length - (intOf v).toNat)
        case atStart => exact ⟨0, rfl, ⟨Nat.zero_le _⟩, HPB, HRB⟩
        case round =>
          clear HPB HRB
          obtain ⟨j, rfl, HJ, HBj, HRj⟩ := hrel
          have HM := Aside0.mk (show L.length ≤ 9223372036854775806 by have := HTSi.out; have := HTL.out (i + 1) (by have := HLT0.out; omega); rw [HTj.out] at this; omega)
          by_cases hlt : j < L.length
          · have c1b0 : decide ((j : Int) < (L.length : Int)) = true := decide_eq_true (by omega)
            have c1b1 : decide (j < L.length) = true := decide_eq_true hlt
            have p1 : 0 ≤ (j : Int) := by omega
            have q1 : (j : Int) < (L.length : Int) := by omega
            obtain ⟨go8, co8, eo8, gb8, gl8, cl8, HG8⟩ := Kd.R_form HRj.out (by omega)
            (first | cases eo8 | (injection eo8 with ea_ en_ ec_; (first | subst ea_ | (injection ea_ with ea_; subst ea_)); subst ec_; clear en_))
            obtain ⟨hx0, hf0⟩ := Kd.R_celln 0 HRj.out (j : Int) p1 q1
            rw [Int.toNat_natCast] at hx0 hf0
            have hel := HELi.out j hlt
            have HJW := Aside0.mk (show wrap64 ((j : Int) + 1) = ((j + 1 : Nat) : Int) by have := HM.out; unfold wrap64; omega)
            have hx1 := hx0
            generalize hxb : rdOf 0 L (j : Int) = xb at hel hx0
            have PB := HBj.out
            have pR := range_of (blk_below HG.out PB)
            have PC := HRj.out
            have HLT := Aside0.mk hlt
            have hnb : ((i : Int) != (i : Int)) = false := by simp
            clear HG8 gb8 gl8 cl8
            cases j with
            | zero =>
              have z1 : decide (((0 : Nat) : Int) > 0) = false := rfl
              clear hx1 hxb hf0
              go_wp2_with fail
              have hx00 := hx0
              refine wp_region_held_drew (S := fun w' => w'.rangeAt g8 0 cs.toList ∧ w'.cell? ⟨go8, 0, none⟩ = some (.int .u8 xb)) (by kernel_rfl) ⟨(World.rangeAt_drew _ _ _ _).2 pR, hx00⟩ (fun hHeld => ?_)
              refine wpAnyH_take (i := 0) (oi := { dst := some 44, op := Op.load 29 (Operand.tmp 8), type := 29, pos := "law.go:85", after := #[], guard := none }) (v := ?_) rfl (by kernel_rfl) (by kernel_rfl) (by kernel_rfl) (fun _ _ _ h => h) (Or.inl ⟨by rfl, ?_⟩) (by assumption) ?_
              rotate_left 1
              · intro w hSw
                (try dsimp only at hSw)
                go_simp
                all_goals try with_reducible rfl
              try simp only [Act.put, List.setIfInBounds_toArray, List.set_cons_zero, List.set_cons_succ]
              refine wpAnyH_take (i := 1) (oi := { dst := some 45, op := Op.move (Operand.tmp 11), type := 36, pos := "law.go:85", after := #[], guard := none }) (v := ?_) rfl (by kernel_rfl) (by kernel_rfl) (by kernel_rfl) (fun _ _ _ h => h) (Or.inl ⟨by rfl, ?_⟩) (by assumption) ?_
              rotate_left 1
              · intro w hSw
                (try dsimp only at hSw)
                go_simp
                all_goals try with_reducible rfl
              try simp only [Act.put, List.setIfInBounds_toArray, List.set_cons_zero, List.set_cons_succ]
              refine wpAnyH_take (i := 2) (oi := { dst := some 46, op := Op.move (Operand.tmp 12), type := 3, pos := "law.go:85", after := #[], guard := none }) (v := ?_) rfl (by kernel_rfl) (by kernel_rfl) (by kernel_rfl) (fun _ _ _ h => h) (Or.inl ⟨by rfl, ?_⟩) (by assumption) ?_
              rotate_left 1
              · intro w hSw
                (try dsimp only at hSw)
                go_simp
                all_goals try with_reducible rfl
              try simp only [Act.put, List.setIfInBounds_toArray, List.set_cons_zero, List.set_cons_succ]
              refine wpAnyH_take (i := 3) (oi := { dst := some 47, op := Op.indexAddr 36 (Operand.tmp 45) (Operand.tmp 46), type := 0, pos := "law.go:85", after := #[{ on := 1, ground := Ground.data }, { on := 2, ground := Ground.data }], guard := none }) (v := ?_) rfl (by kernel_rfl) (by kernel_rfl) (by kernel_rfl) (fun _ _ _ h => h) (Or.inl ⟨by rfl, ?_⟩) (by assumption) ?_
              rotate_left 1
              · intro w hSw
                (try dsimp only at hSw)
                go_simp
                all_goals try with_reducible rfl
              try simp only [Act.put, List.setIfInBounds_toArray, List.set_cons_zero, List.set_cons_succ]
              refine wpAnyH_take (i := 4) (oi := { dst := some 48, op := Op.load 5 (Operand.tmp 47), type := 5, pos := "law.go:85", after := #[{ on := 3, ground := Ground.data }], guard := none }) (v := ?_) rfl (by kernel_rfl) (by kernel_rfl) (by kernel_rfl) (fun _ _ _ h => h) (Or.inl ⟨by rfl, ?_⟩) (by assumption) ?_
              rotate_left 1
              · intro w hSw
                (try dsimp only at hSw)
                go_simp
                all_goals try with_reducible rfl
              try simp only [Act.put, List.setIfInBounds_toArray, List.set_cons_zero, List.set_cons_succ]
              refine wpAnyH_take (i := 6) (oi := { dst := some 50, op := Op.move (Operand.tmp 10), type := 3, pos := "law.go:85", after := #[], guard := none }) (v := ?_) rfl (by kernel_rfl) (by kernel_rfl) (by kernel_rfl) (fun _ _ _ h => h) (Or.inl ⟨by rfl, ?_⟩) (by assumption) ?_
              rotate_left 1
              · intro w hSw
                (try dsimp only at hSw)
                go_simp
                all_goals try with_reducible rfl
              try simp only [Act.put, List.setIfInBounds_toArray, List.set_cons_zero, List.set_cons_succ]
              refine wpAnyH_ready (rs := [5]) (by kernel_rfl) (by simp) ?_
              refine AllReadyH.cons rfl (fun K hK => ?_) AllReadyH.nil
              clear hHeld
              go_simp
              refine (HK.out xb hel.1 hel.2.1 _).mono ?_
              rintro e wj ⟨rfl, hb'⟩
              rw [hel.2.2]
              have PB' := below_step PB.drew hb'
              have pR' := range_of (blk_below HG.out PB')
              have PC' := stepR PC hb'
              have hx01 := stepX hx00 hb'
              refine hK.out _ _ ⟨pR', hx01⟩ (fun hHeld => ?_)
              clear hK K hx00 PB pR PC hb'
              try simp only [Act.put, List.setIfInBounds_toArray, List.set_cons_zero, List.set_cons_succ]
              refine wpAnyH_take (i := 7) (oi := { dst := some 51, op := Op.binOp BinOp.neq 3 (Operand.tmp 49) (Operand.tmp 50) 3, type := 4, pos := "law.go:85", after := #[{ on := 5, ground := Ground.data }, { on := 6, ground := Ground.data }], guard := none }) (v := ?_) rfl (by kernel_rfl) (by kernel_rfl) (by kernel_rfl) (fun _ _ _ h => h) (Or.inl ⟨by rfl, ?_⟩) (by assumption) ?_
              rotate_left 1
              · intro w hSw
                (try dsimp only at hSw)
                go_simp
                all_goals try with_reducible rfl
              try simp only [Act.put, List.setIfInBounds_toArray, List.set_cons_zero, List.set_cons_succ]
              refine wpAnyH_take (i := 8) (oi := { dst := some 52, op := Op.move (Operand.tmp 51), type := 4, pos := "law.go:85", after := #[{ on := 7, ground := Ground.data }, { on := 5, ground := Ground.chain }], guard := none }) (v := ?_) rfl (by kernel_rfl) (by kernel_rfl) (by kernel_rfl) (fun _ _ _ h => h) (Or.inl ⟨by rfl, ?_⟩) (by assumption) ?_
              rotate_left 1
              · intro w hSw
                (try dsimp only at hSw)
                go_simp
                all_goals try with_reducible rfl
              try simp only [Act.put, List.setIfInBounds_toArray, List.set_cons_zero, List.set_cons_succ]
              refine wpAnyH_take (i := 9) (oi := { dst := some 53, op := Op.move (Operand.tmp 12), type := 3, pos := "law.go:85", after := #[{ on := 8, ground := Ground.guard }], guard := some (8, false) }) (v := ?_) rfl (by kernel_rfl) (by kernel_rfl) (by kernel_rfl) (fun _ _ _ h => h) (Or.inl ⟨by rfl, ?_⟩) (by assumption) ?_
              rotate_left 1
              · intro w hSw
                (try dsimp only at hSw)
                go_simp
                all_goals try with_reducible rfl
              try simp only [Act.put, List.setIfInBounds_toArray, List.set_cons_zero, List.set_cons_succ]
              refine wpAnyH_take (i := 10) (oi := { dst := some 54, op := Op.binOp BinOp.gtr 3 (Operand.tmp 53) (Operand.const (Value.int IntKind.i64 0)) 3, type := 4, pos := "law.go:85", after := #[{ on := 9, ground := Ground.data }, { on := 8, ground := Ground.guard }], guard := some (8, false) }) (v := ?_) rfl (by kernel_rfl) (by kernel_rfl) (by kernel_rfl) (fun _ _ _ h => h) (Or.inl ⟨by rfl, ?_⟩) (by assumption) ?_
              rotate_left 1
              · intro w hSw
                (try dsimp only at hSw)
                go_simp
                all_goals try with_reducible rfl
              try simp only [Act.put, List.setIfInBounds_toArray, List.set_cons_zero, List.set_cons_succ]
              refine wpAnyH_take (i := 11) (oi := { dst := some 55, op := Op.move (Operand.tmp 54), type := 4, pos := "law.go:85", after := #[{ on := 10, ground := Ground.data }, { on := 8, ground := Ground.chain }, { on := 8, ground := Ground.guard }], guard := some (8, false) }) (v := ?_) rfl (by kernel_rfl) (by kernel_rfl) (by kernel_rfl) (fun _ _ _ h => h) (Or.inl ⟨by rfl, ?_⟩) (by assumption) ?_
              rotate_left 1
              · intro w hSw
                (try dsimp only at hSw)
                go_simp
                all_goals try with_reducible rfl
              try simp only [Act.put, List.setIfInBounds_toArray, List.set_cons_zero, List.set_cons_succ]
              refine wpAnyH_take (i := 12) (oi := { dst := some 56, op := Op.move (Operand.tmp 11), type := 36, pos := "law.go:85", after := #[{ on := 11, ground := Ground.guard }], guard := some (11, true) }) (v := undef) rfl (by kernel_rfl) (by kernel_rfl) (by kernel_rfl) (fun _ _ _ h => h) (Or.inr ⟨by go_simp, rfl⟩) (by assumption) ?_
              try simp only [Act.put, List.setIfInBounds_toArray, List.set_cons_zero, List.set_cons_succ]
              refine wpAnyH_take (i := 13) (oi := { dst := some 57, op := Op.move (Operand.tmp 12), type := 3, pos := "law.go:85", after := #[{ on := 11, ground := Ground.guard }], guard := some (11, true) }) (v := undef) rfl (by kernel_rfl) (by kernel_rfl) (by kernel_rfl) (fun _ _ _ h => h) (Or.inr ⟨by go_simp, rfl⟩) (by assumption) ?_
              try simp only [Act.put, List.setIfInBounds_toArray, List.set_cons_zero, List.set_cons_succ]
              refine wpAnyH_take (i := 14) (oi := { dst := some 58, op := Op.binOp BinOp.sub 3 (Operand.tmp 57) (Operand.const (Value.int IntKind.i64 1)) 3, type := 3, pos := "law.go:85", after := #[{ on := 13, ground := Ground.data }, { on := 11, ground := Ground.guard }], guard := some (11, true) }) (v := undef) rfl (by kernel_rfl) (by kernel_rfl) (by kernel_rfl) (fun _ _ _ h => h) (Or.inr ⟨by go_simp, rfl⟩) (by assumption) ?_
              try simp only [Act.put, List.setIfInBounds_toArray, List.set_cons_zero, List.set_cons_succ]
              refine wpAnyH_take (i := 15) (oi := { dst := some 59, op := Op.indexAddr 36 (Operand.tmp 56) (Operand.tmp 58), type := 0, pos := "law.go:85", after := #[{ on := 12, ground := Ground.data }, { on := 14, ground := Ground.data }, { on := 11, ground := Ground.guard }], guard := some (11, true) }) (v := undef) rfl (by kernel_rfl) (by kernel_rfl) (by kernel_rfl) (fun _ _ _ h => h) (Or.inr ⟨by go_simp, rfl⟩) (by assumption) ?_
              try simp only [Act.put, List.setIfInBounds_toArray, List.set_cons_zero, List.set_cons_succ]
              refine wpAnyH_take (i := 16) (oi := { dst := some 60, op := Op.load 5 (Operand.tmp 59), type := 5, pos := "law.go:85", after := #[{ on := 15, ground := Ground.data }, { on := 11, ground := Ground.guard }], guard := some (11, true) }) (v := undef) rfl (by kernel_rfl) (by kernel_rfl) (by kernel_rfl) (fun _ _ _ h => h) (Or.inr ⟨by go_simp, rfl⟩) (by assumption) ?_
              try simp only [Act.put, List.setIfInBounds_toArray, List.set_cons_zero, List.set_cons_succ]
              refine wpAnyH_take (i := 17) (oi := { dst := some 61, op := Op.move (Operand.tmp 11), type := 36, pos := "law.go:85", after := #[{ on := 11, ground := Ground.guard }], guard := some (11, true) }) (v := undef) rfl (by kernel_rfl) (by kernel_rfl) (by kernel_rfl) (fun _ _ _ h => h) (Or.inr ⟨by go_simp, rfl⟩) (by assumption) ?_
              try simp only [Act.put, List.setIfInBounds_toArray, List.set_cons_zero, List.set_cons_succ]
              refine wpAnyH_take (i := 18) (oi := { dst := some 62, op := Op.move (Operand.tmp 12), type := 3, pos := "law.go:85", after := #[{ on := 11, ground := Ground.guard }], guard := some (11, true) }) (v := undef) rfl (by kernel_rfl) (by kernel_rfl) (by kernel_rfl) (fun _ _ _ h => h) (Or.inr ⟨by go_simp, rfl⟩) (by assumption) ?_
              try simp only [Act.put, List.setIfInBounds_toArray, List.set_cons_zero, List.set_cons_succ]
              refine wpAnyH_take (i := 19) (oi := { dst := some 63, op := Op.indexAddr 36 (Operand.tmp 61) (Operand.tmp 62), type := 0, pos := "law.go:85", after := #[{ on := 17, ground := Ground.data }, { on := 18, ground := Ground.data }, { on := 11, ground := Ground.guard }], guard := some (11, true) }) (v := undef) rfl (by kernel_rfl) (by kernel_rfl) (by kernel_rfl) (fun _ _ _ h => h) (Or.inr ⟨by go_simp, rfl⟩) (by assumption) ?_
              try simp only [Act.put, List.setIfInBounds_toArray, List.set_cons_zero, List.set_cons_succ]
              refine wpAnyH_take (i := 20) (oi := { dst := some 64, op := Op.load 5 (Operand.tmp 63), type := 5, pos := "law.go:85", after := #[{ on := 19, ground := Ground.data }, { on := 11, ground := Ground.guard }], guard := some (11, true) }) (v := undef) rfl (by kernel_rfl) (by kernel_rfl) (by kernel_rfl) (fun _ _ _ h => h) (Or.inr ⟨by go_simp, rfl⟩) (by assumption) ?_
              try simp only [Act.put, List.setIfInBounds_toArray, List.set_cons_zero, List.set_cons_succ]
              refine wpAnyH_take (i := 21) (oi := { dst := some 65, op := Op.binOp BinOp.geq 5 (Operand.tmp 60) (Operand.tmp 64) 5, type := 4, pos := "law.go:85", after := #[{ on := 16, ground := Ground.data }, { on := 20, ground := Ground.data }, { on := 11, ground := Ground.guard }], guard := some (11, true) }) (v := undef) rfl (by kernel_rfl) (by kernel_rfl) (by kernel_rfl) (fun _ _ _ h => h) (Or.inr ⟨by go_simp, rfl⟩) (by assumption) ?_
              try simp only [Act.put, List.setIfInBounds_toArray, List.set_cons_zero, List.set_cons_succ]
              refine wpAnyH_take (i := 22) (oi := { dst := some 66, op := Op.pick (Operand.tmp 55) (Operand.tmp 65) (Operand.const (Value.bool false)), type := 4, pos := "law.go:85", after := #[{ on := 11, ground := Ground.data }, { on := 21, ground := Ground.data }, { on := 8, ground := Ground.guard }], guard := some (8, false) }) (v := ?_) rfl (by kernel_rfl) (by kernel_rfl) (by kernel_rfl) (fun _ _ _ h => h) (Or.inl ⟨by go_simp, ?_⟩) (by assumption) ?_
              rotate_left 1
              · intro w hSw
                (try dsimp only at hSw)
                go_simp
                all_goals try with_reducible rfl
              try simp only [Act.put, List.setIfInBounds_toArray, List.set_cons_zero, List.set_cons_succ]
              refine wpAnyH_take (i := 23) (oi := { dst := some 67, op := Op.pick (Operand.tmp 52) (Operand.const (Value.bool true)) (Operand.tmp 66), type := 4, pos := "law.go:85", after := #[{ on := 8, ground := Ground.data }, { on := 22, ground := Ground.data }], guard := none }) (v := ?_) rfl (by kernel_rfl) (by kernel_rfl) (by kernel_rfl) (fun _ _ _ h => h) (Or.inl ⟨by go_simp, ?_⟩) (by assumption) ?_
              rotate_left 1
              · intro w hSw
                (try dsimp only at hSw)
                go_simp
                all_goals try with_reducible rfl
              try simp only [Act.put, List.setIfInBounds_toArray, List.set_cons_zero, List.set_cons_succ]
              refine wpAnyH_done (by kernel_rfl) ?_ _
              go_wp2
              go_roundw
              case rel => exact ⟨1, by first | (rw [HJW.out]; done) | rfl | skip, ⟨HLT.out⟩, ⟨PB'⟩, ⟨PC'⟩⟩
              case measure => have := HLT.out; (try rw [HJW.out]); simp [intOf]; omega
            | succ j =>
              have z1 : decide (((j + 1 : Nat) : Int) > 0) = true := decide_eq_true (by omega)
              have hej := HELi.out j (by have := HLT.out; omega)
              have heu := HEUi.out j HLT.out
              obtain ⟨hy0, hf1⟩ := Kd.R_celln 0 HRj.out (j : Int) (by omega) (by omega)
              rw [Int.toNat_natCast] at hy0
              have z3 : wrap64 (((j + 1 : Nat) : Int) - 1) = (j : Int) := by have := HM.out; have := HLT.out; unfold wrap64; omega
              have z4 : wrap64 (j : Int) = (j : Int) := by have := HM.out; have := HLT.out; unfold wrap64; omega
              have z5 : IntKind.i64.wrap ((j : Int) + 1 - 1) = (j : Int) := by rw [show (j : Int) + 1 - 1 = (j : Int) by omega]; exact IntWalk.i64_in _ (by have := HM.out; have := HLT.out; omega)
              have z9 : IntKind.i64.wrap (j : Int) = (j : Int) := IntWalk.i64_in _ (by have := HM.out; have := HLT.out; omega)
              have z6 : (j : Int) + 1 < (L.length : Int) := by have := HLT.out; omega
              have z7 : 0 ≤ (j : Int) + 1 := by omega
              have z8 : ((j : Int) + 1).toNat = j + 1 := by omega
              have p3 : 0 ≤ (j : Int) := by omega
              have q3 : (j : Int) < (L.length : Int) := by omega
              have q4 : decide ((j : Int) < (L.length : Int)) = true := decide_eq_true q3
              have q5 : j < L.length := by omega
              have q6 : decide (j < L.length) = true := decide_eq_true q5
              rw [hxb] at heu
              generalize rdOf 0 L (j : Int) = yb at hy0 hej heu
              have z2 : decide (yb ≥ xb) = false := decide_eq_false (by omega)
              have HEJ := Aside0.mk hej
              have HJX := Aside0.mk (show wrap64 ((j : Int) + 1 + 1) = ((j + 1 + 1 : Nat) : Int) from HJW.out)
              clear hx1 hxb hf0 hf1 hej heu
              go_wp2_with fail
              have hx00 := hx0
              have hy00 := hy0
              go_region_held3 (fun w' => w'.rangeAt g8 0 cs.toList ∧ w'.cell? ⟨go8, j + 1, none⟩ = some (.int .u8 xb) ∧ w'.cell? ⟨go8, j, none⟩ = some (.int .u8 yb))
                (first | exact ⟨pR, hx00, hy00⟩ | exact ⟨(World.rangeAt_drew _ _ _ _).2 pR, hx00, hy00⟩ | go_keep_ranges)
                ((first
                  | (go_at_call 11; with_reducible refine (HK.out xb hel.1 hel.2.1 _).mono ?_; rintro e wj ⟨rfl, hb'⟩; rw [hel.2.2]; have PB' := below_step PB.drew hb'; have pR' := range_of (blk_below HG.out PB'); have PC' := stepR PC hb'; have hx01 := stepX hx00 hb'; have hy01 := stepX hy00 hb'; clear hx00 hy00 PB pR PC; have PB := PB'; have pR := pR'; have PC := PC'; have hx00 := hx01; have hy00 := hy01; clear hx01 hy01 PB' pR' PC'; clear hb')))
              go_wp2
              go_roundw
              case rel => exact ⟨j + 1 + 1, congrArg (Value.int .i64) HJX.out, ⟨HLT.out⟩, ⟨PB⟩, ⟨PC⟩⟩
              case measure => have := HLT.out; rw [HJX.out]; simp [intOf]; omega
          · have c1b0 : decide ((j : Int) < (L.length : Int)) = false := decide_eq_false (by omega)
            have c1b1 : decide (j < L.length) = false := decide_eq_false hlt
            obtain rfl : j = L.length := by have := HJ.out; omega
            clear hlt
            have HIW := Aside0.mk (show wrap64 ((i : Int) + 1) = ((i + 1 : Nat) : Int) by have := HLT0.out; have := HC256.out; unfold wrap64; omega)
            have HNW := Aside0.mk (show wrap64 ((Ti : Int) + (L.length : Int)) = ((TN (i + 1) : Nat) : Int) by have := HTSi.out; have := HTL.out (i + 1) (by have := HLT0.out; omega); have := HTj.out; unfold wrap64; omega)
            by_cases hi0 : i = 0
            · have d1 : decide ((i : Int) > 0) = false := decide_eq_false (by omega)
              have d2 : decide (0 < i) = false := decide_eq_false (by omega)
              have HI0 := Aside0.mk hi0
              clear hi0
              go_wp2
              go_roundw
              case rel => exact ⟨i + 1, congrArg (Value.int .i64) HNW.out, congrArg (Value.int .i64) HIW.out, ⟨by have := HLT0.out; omega⟩, HBj⟩
              case measure => have := HLT0.out; have h := HIW.out; rw [h]; simp [intOf]; omega
            · have d1 : decide ((i : Int) > 0) = true := decide_eq_true (by omega)
              have d2 : decide (0 < i) = true := decide_eq_true (by omega)
              have hl1 : L.length = 1 := HONi.out (by omega) (by have := HLT0.out; omega)
              have d3 : ((L.length : Int) != 1) = false := by rw [hl1]; rfl
              have HI0 := Aside0.mk hi0
              have HL1 := Aside0.mk hl1
              clear hi0 hl1
              go_wp2
              go_roundw
              case rel => exact ⟨i + 1, congrArg (Value.int .i64) HNW.out, congrArg (Value.int .i64) HIW.out, ⟨by have := HLT0.out; omega⟩, HBj⟩
              case measure => have := HLT0.out; have h := HIW.out; rw [h]; simp [intOf]; omega
      · obtain rfl : i = cn + 1 := by have := HI.out; omega
        have c0b0 : decide (((cn + 1 : Nat) : Int) < (cn : Int) + 1) = false := decide_eq_false (by omega)
        have c0b1 : decide ((cn : Int) + 1 < (cn : Int) + 1) = false := decide_eq_false (by omega)
        have c0b2 : ¬ ((cn : Int) + 1 < (cn : Int) + 1) := by omega
        rw [HTE.out]
        clear hlt0
        go_wp2_with fail
        refine (HL.out _).mono ?_
        rintro e w5 ⟨rfl, hb5⟩
        have PB5 := below_step PB hb5
        clear PB pR hb5
        have PB := PB5
        clear PB5
        have pR := range_of (blk_below HG.out PB)
        by_cases k0 : 0 ≤ kk
        · have b0 : decide (kk ≥ 0) = true := decide_eq_true k0
          have b1 : decide (0 ≤ kk) = true := decide_eq_true k0
          by_cases k1 : kk < (cn : Int) + 1
          · have b2 : decide (kk < (cn : Int) + 1) = true := decide_eq_true k1
            go_wp2_with fail
            refine (HL.out _).mono ?_
            rintro e w6 ⟨rfl, hb6⟩
            go_wp2
            go_ret
            exact ⟨rfl, below_step HB3.out (below_step PB hb6)⟩
          · have b2 : decide (kk < (cn : Int) + 1) = false := decide_eq_false k1
            have hn : BK kk = [] := HNO.out kk (by omega)
            go_wp2_with fail
            refine (HL.out _).mono ?_
            rintro e w6 ⟨rfl, hb6⟩
            have PB6 := below_step PB hb6
            clear PB pR hb6
            have PB := PB6
            clear PB6
            have pR := range_of (blk_below HG.out PB)
            have HN := Aside0.mk hn
            clear hn
            go_wp2_with fail
            refine (HBC.out kk _).mono ?_
            rintro e w7 ⟨vb, rfl, hrb, hb7⟩
            rw [HN.out] at hrb
            obtain ⟨Ab, cb, hvb⟩ := Kd.R_slice hrb
            subst hvb
            clear hrb
            go_wp2
            go_ret
            exact ⟨rfl, below_step HB3.out (below_step PB hb7)⟩
        · have b0 : decide (kk ≥ 0) = false := decide_eq_false (by omega)
          have b1 : decide (0 ≤ kk) = false := decide_eq_false k0
          have HN := Aside0.mk (HNO.out kk (by omega))
          go_wp2_with fail
          refine (HBC.out kk _).mono ?_
          rintro e w7 ⟨vb, rfl, hrb, hb7⟩
          rw [HN.out] at hrb
          obtain ⟨Ab, cb, hvb⟩ := Kd.R_slice hrb
          subst hvb
          clear hrb
          go_wp2
          go_ret
          exact ⟨rfl, below_step HB3.out (below_step PB hb7)⟩
end Go.Proofs.Ytongadhccpfpeaa.Base9
