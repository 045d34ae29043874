/- The set of some texts. -/
import Derived.Test.YtkpfnhkfecpefaaPatB
namespace Go.Proofs.Ytkpfnhkfecpefaa.Pat
open Go Go.RowKit Go.Proofs Go.Proofs.YtkpfnhkfecpefaaW.PrintWords Go.Proofs.YtkpfnhkfecpefaaW.PrintMore Go.Proofs.YtkpfnhkfecpefaaW.PrintLast Go.Proofs.Ytkpfnhkfecpefaa.Mp Go.Maps Go.Proofs.Ytkpfnhkfecpefaa.Win
set_option linter.unusedVariables false
set_option linter.unusedSimpArgs false
attribute [local go_sem] max2_int min2_int max_two min_two max_three min_three
theorem zeroSet (W : World) : (zeroValue 27).run Try.prog W = .ok (.agg #[.slice none 0 0, .map none, .bool false]) W := by
  have h : (Try.prog.info? 27).map (·.zero) = some (some (.agg #[.slice none 0 0, .map none, .bool false])) := by kernel_rfl
  obtain ⟨i, hi, he⟩ := Option.map_eq_some_iff.mp h
  simp [zeroValue, typeInfo, hi, he, Sem.run_bind]
def OkS (w : World) (k : Nat) : Prop := k ≠ w.heap.size ∧ k ≠ w.heap.size + 1 ∧ k ≠ w.heap.size + 1 + 1
/-- where Of stands: the box holds bv, the row v lies with l, the map with m -/
structure OfAt (w wr : World) (bv v : Value) (l m : List (List Int)) (e : Bool) (n : Nat) : Prop where
  box : wr.heap[w.heap.size + 1 + 1]? = some (.cells #[bv, .map (some (w.heap.size + 1)), .bool e] 27 (0, 0))
  res : wr.heap[w.heap.size]? = some (.cells #[.slice none 0 0, .map none, .bool false] 27 (0, 0))
  row : Kd.R kB 22 wr w.heap.size (OkS w) v l
  map : ∃ f, MapI Try.prog 9 3 wr (w.heap.size + 1) n f ∧ ∀ b, (f (kb b)).isSome = inP m b
  bel : Below w.heap.size w wr
section
variable {w wr w2 : World} {bv v : Value} {l m : List (List Int)} {e : Bool} {n : Nat}
theorem OfAt.below (h : OfAt w wr bv v l m e n) (hb : Below wr.heap.size wr w2) : OfAt w w2 bv v l m e n := by
  obtain ⟨f, h1, h2⟩ := h.map
  exact ⟨blk_below h.box hb, blk_below h.res hb, Kd.R_below h.row hb, ⟨f, h1.below hb, h2⟩, Below.trans h.bel (hb.mono h.bel.size)⟩
theorem OfAt.more {n' : Nat} (h : OfAt w wr bv v l m e n) (hn : n ≤ n') : OfAt w wr bv v l m e n' := by
  obtain ⟨f, h1, h2⟩ := h.map
  exact ⟨h.box, h.res, h.row, ⟨f, h1.mono hn, h2⟩, h.bel⟩
theorem OfAt.upd {n' : Nat} {m' : List (List Int)} (h : OfAt w wr bv v l m e n) (hg : wr.grownBy w2 (some (w.heap.size + 1))) (hm : ∃ f, MapI Try.prog 9 3 w2 (w.heap.size + 1) n' f ∧ ∀ b, (f (kb b)).isSome = inP m' b) : OfAt w w2 bv v l m' e n' := by
  have hk := kept_grown hg
  exact ⟨blk_kept h.box hk (by omega), blk_kept h.res hk (by omega), Kd.R_kept h.row hk (fun k hk2 => hk2.2.1), hm, pw_below_grown h.bel (some (w.heap.size + 1)) h.bel.size hg (fun k e => by cases e; omega)⟩
theorem OfAt.app {v' : Value} {l' : List (List Int)} (h : OfAt w wr bv v l m e n) (hr : Kd.R kB 22 w2 w.heap.size (OkS w) v' l') (hg : wr.grownBy w2 v.ownBlock) : OfAt w w2 bv v' l' m e n := by
  have hk : Kept wr w2 (fun k => v.ownBlock = some k) := Kept.of_grown hg (Kept.refl _ _) (fun k hk => Or.inl hk)
  have ho := fun (k : Nat) (e : v.ownBlock = some k) => h.row.1 k e
  obtain ⟨f, h1, h2⟩ := h.map
  exact ⟨blk_kept h.box hk (fun e => (ho _ e).2.2 rfl), blk_kept h.res hk (fun e => (ho _ e).1 rfl), hr, ⟨f, h1.kept hk (fun e => (ho _ e).2.1 rfl), h2⟩, pw_below_grown h.bel v.ownBlock h.bel.size hg (fun k e => Kd.R_base h.row k e)⟩
theorem OfAt.put (h : OfAt w wr bv v l m e n) (j : Nat) (u : Value) {cs : Array Value} {bv' : Value} {e' : Bool} (hcs : (#[bv, .map (some (w.heap.size + 1)), .bool e] : Array Value).setIfInBounds j u = cs) (hc : cs = #[bv', .map (some (w.heap.size + 1)), .bool e']) : OfAt w (wr.setCell ⟨w.heap.size + 1 + 1, j, none⟩ u) bv' v l m e' n := by
  subst hc
  obtain ⟨f, h1, h2⟩ := h.map
  have hk : Kept wr (wr.setCell ⟨w.heap.size + 1 + 1, j, none⟩ u) (fun k => k = w.heap.size + 1 + 1) := Kept.setCell (S := fun k => k = w.heap.size + 1 + 1) (p := ⟨w.heap.size + 1 + 1, j, none⟩) (Kept.refl wr _) (Or.inl rfl) u
  exact ⟨blk_put h.box j u hcs, blk_far h.res (p := ⟨w.heap.size + 1 + 1, j, none⟩) (by show w.heap.size ≠ w.heap.size + 1 + 1; omega) u, Kd.R_far h.row (p := ⟨w.heap.size + 1 + 1, j, none⟩) (fun k hk => hk.2.2) u, ⟨f, h1.kept hk (by omega), h2⟩, below_set h.bel (by omega)⟩
theorem of_end {A : Option Addr} {c : Nat} (h : OfAt w wr (.slice A l.length c) (.slice A l.length c) l l e n) :
    (((wr.setCell ⟨w.heap.size, 0, none⟩ (.slice A l.length c)).setCell ⟨w.heap.size, 1, none⟩ (.map (some (w.heap.size + 1)))).setCell ⟨w.heap.size, 2, none⟩ (.bool e)).heap[w.heap.size]? = some (.cells #[.slice A l.length c, .map (some (w.heap.size + 1)), .bool e] 27 (0, 0)) ∧
    SetO (((wr.setCell ⟨w.heap.size, 0, none⟩ (.slice A l.length c)).setCell ⟨w.heap.size, 1, none⟩ (.map (some (w.heap.size + 1)))).setCell ⟨w.heap.size, 2, none⟩ (.bool e)) w.heap.size (.agg #[.slice A l.length c, .map (some (w.heap.size + 1)), .bool e]) ⟨l, e⟩ ∧
    Below w.heap.size w (((wr.setCell ⟨w.heap.size, 0, none⟩ (.slice A l.length c)).setCell ⟨w.heap.size, 1, none⟩ (.map (some (w.heap.size + 1)))).setCell ⟨w.heap.size, 2, none⟩ (.bool e)) := by
  have hR := Kd.R_far (p := ⟨w.heap.size, 2, none⟩) (Kd.R_far (p := ⟨w.heap.size, 1, none⟩) (Kd.R_far (p := ⟨w.heap.size, 0, none⟩) h.row (fun k hk => hk.1) (.slice A l.length c)) (fun k hk => hk.1) (.map (some (w.heap.size + 1)))) (fun k hk => hk.1) (.bool e)
  have hk : Kept wr (((wr.setCell ⟨w.heap.size, 0, none⟩ (.slice A l.length c)).setCell ⟨w.heap.size, 1, none⟩ (.map (some (w.heap.size + 1)))).setCell ⟨w.heap.size, 2, none⟩ (.bool e)) (fun k => k = w.heap.size) := Kept.setCell (S := fun k => k = w.heap.size) (p := ⟨w.heap.size, 2, none⟩) (Kept.setCell (S := fun k => k = w.heap.size) (p := ⟨w.heap.size, 1, none⟩) (Kept.setCell (S := fun k => k = w.heap.size) (p := ⟨w.heap.size, 0, none⟩) (Kept.refl wr _) (Or.inl rfl) _) (Or.inl rfl) _) (Or.inl rfl) _
  obtain ⟨f, h1, h2⟩ := h.map
  exact ⟨blk_put (blk_put (blk_put h.res 0 _ rfl) 1 _ rfl) 2 _ rfl, ⟨⟨A, c, w.heap.size + 1, n, f, rfl, Kd.R_mono hR (fun _ _ => trivial), h1.kept hk (by omega), h2, Nat.le_succ _⟩⟩, below_set (below_set (below_set h.bel (Nat.le_refl _)) (Nat.le_refl _)) (Nat.le_refl _)⟩
end
theorem inP_snoc (l : List (List Int)) (b b' : List Int) : inP (l ++ [b]) b' = (inP l b' || decide (sk b' = sk b)) := by
  unfold inP
  rw [List.map_append, Bool.eq_iff_iff]
  simp
theorem kb_eq {a b : List Int} : kb a = kb b ↔ sk a = sk b := by
  unfold kb
  constructor
  · intro h; injection h
  · intro h; rw [h]
theorem upd_in {f : Lit → Option Int} {l : List (List Int)} (b : List Int) (x : Int) (h : ∀ b', (f (kb b')).isSome = inP l b') (b' : List Int) : (upd f (kb b) x (kb b')).isSome = inP (l ++ [b]) b' := by
  rw [inP_snoc]
  by_cases he : kb b' = kb b
  · rw [he, upd_same, decide_eq_true (kb_eq.mp he)]
    simp
  · rw [upd_other f x he, h b', decide_eq_false (fun e => he (kb_eq.mpr e))]
    simp
theorem wf_nat {n : Nat} (h : n ≤ 1000000000) : (Lit.int .i64 (n : Int)).wf = true := by
  simp [Lit.wf, IntKind.min, IntKind.max, IntKind.signed, IntKind.bits]
  omega
theorem ofP_len : ∀ (L : List (List Int)) (s : PS), (L.foldl addP s).l.length ≤ s.l.length + L.length
  | [], s => Nat.le_refl _
  | b :: L, s => by
    have h := ofP_len L (addP s b)
    have h2 : (addP s b).l.length ≤ s.l.length + 1 := by
      unfold addP
      split
      · exact Nat.le_succ _
      · split
        · exact Nat.le_succ _
        · simp
    rw [List.foldl_cons, List.length_cons]
    omega
set_option maxHeartbeats 8000000 in
set_option maxRecDepth 100000 in
theorem of_calls (w : World) (A : Option Addr) (c : Nat) (L : List (List Int)) (hr : Kd.C kB w A L.length L) (hl : L.length ≤ 100000) (hp : ∀ p ∈ L, p.length ≤ 1000000) :
    Calls Try.prog 16 #[.slice A L.length c] w fun e w' => ∃ v, e = .returned v ∧ SetO w' w.heap.size v (ofP L) ∧ Below w.heap.size w w' := by
  have HR := Aside0.mk hr
  have HL := Aside0.mk hl
  have HP := Aside0.mk hp
  have hmm := @run_makeMap Try.prog
  have hzs := zeroSet
  have hu := Try.underlying27
  have HLN := Aside0.mk (C_len hr)
  clear hr hl hp
  go_enter Try.func16, Try.ntmps16
  go_wp2
  have H0 := Aside0.mk (show OfAt w (((w.alloc (.cells #[.slice none 0 0, .map none, .bool false] 27)).alloc (.map #[] 0)).alloc (.cells #[.slice none 0 0, .map (some (w.heap.size + 1)), .bool false] 27)) (.slice none 0 0) (.slice none 0 0) [] [] false 0 by
    have b1 := blk_new w (.cells #[.slice none 0 0, .map none, .bool false] 27)
    have m1 := MapI.made Try.prog 9 3 (w.alloc (.cells #[.slice none 0 0, .map none, .bool false] 27))
    rw [World.size_alloc] at m1
    have b2 := below_alloc (Below.refl (w.alloc (.cells #[.slice none 0 0, .map none, .bool false] 27)).heap.size (w.alloc (.cells #[.slice none 0 0, .map none, .bool false] 27))) (.map #[] 0)
    have b3 := below_alloc (Below.refl ((w.alloc (.cells #[.slice none 0 0, .map none, .bool false] 27)).alloc (.map #[] 0)).heap.size ((w.alloc (.cells #[.slice none 0 0, .map none, .bool false] 27)).alloc (.map #[] 0))) (.cells #[.slice none 0 0, .map (some (w.heap.size + 1)), .bool false] 27)
    have b4 := blk_new ((w.alloc (.cells #[.slice none 0 0, .map none, .bool false] 27)).alloc (.map #[] 0)) (.cells #[.slice none 0 0, .map (some (w.heap.size + 1)), .bool false] 27)
    rw [World.size_alloc, World.size_alloc] at b4
    exact ⟨b4, blk_below (blk_below b1 b2) b3, Kd.R_nil _ _ _ _ _, ⟨_, m1.below b3, fun b => rfl⟩, below_alloc (below_alloc (below_alloc (Below.refl _ _) _) _) _⟩)
  go_loopw [12] (fun v12 wr => ∃ (i : Nat) (v : Value), v12 = .int .i64 (i : Int) ∧ Aside0 (OfAt w wr v v (ofP (L.take i)).l (ofP (L.take i)).l (ofP (L.take i)).e i) ∧ Aside0 (i ≤ L.length)) (fun v _ => L.length - (intOf v).toNat)
  case atStart => exact ⟨0, _, rfl, H0, ⟨Nat.zero_le _⟩⟩
  case round =>
    clear H0
    obtain ⟨i, v, rfl, HS, HI⟩ := hrel
    obtain ⟨A3, c3, hv3⟩ := Kd.R_slice HS.out.row
    subst hv3
    by_cases hlt : i < L.length
    · have e1 : decide ((i : Int) < (L.length : Int)) = true := decide_eq_true (by omega)
      have e2 : decide (i < L.length) = true := decide_eq_true hlt
      have HIL := Aside0.mk hlt
      obtain ⟨ad, Ab, cb, rfl, hcell0, hcb, hb⟩ := row_at HR.out i hlt
      have hcell := Go.Proofs.YtkpfnhkfecpefaaW.PrintWords.cell_kept hcell0 (Kept.of_below HS.out.bel (fun _ => False)) (fun h => h)
      clear hcell0
      have HT := Aside0.mk (ofP_take L i hlt)
      have HX := Aside0.mk hb
      have HXL := Aside0.mk (And.intro hcb (HP.out _ (List.getElem_mem hlt)))
      have HSL := Aside0.mk (show (ofP (L.take i)).l.length ≤ 100000 by have := ofP_len (L.take i) ⟨[], false⟩; rw [List.length_take] at this; have := HL.out; show ((L.take i).foldl addP ⟨[], false⟩).l.length ≤ _; simp only [List.length_nil] at *; omega)
      generalize hx : (L[i]'hlt) = b at hcell HT HX HXL
      generalize ofP (L.take i) = s at HS HT HSL
      have k0 : 0 ≤ (i : Int) := by omega
      have k1 : (i : Int) < (L.length : Int) := by omega
      have hw2 : wrap64 ((i : Int) + 1) = ((i + 1 : Nat) : Int) := wr_big (by omega) (by have := HLN.out; have := HIL.out; omega)
      have g0 := (blk_cell HS.out.box 0).trans (show _ = some (Value.slice A3 s.l.length c3) from rfl)
      have g1 := (blk_cell HS.out.box 1).trans (show _ = some (Value.map (some (w.heap.size + 1))) from rfl)
      have g2 := (blk_cell HS.out.box 2).trans (show _ = some (Value.bool s.e) from rfl)
      have f2 := blk_frozen HS.out.box 2
      clear hlt hb hcb hx
      by_cases h0 : b.length = 0
      · have d1 : ((b.length : Int) == 0) = true := beq_iff_eq.mpr (by omega)
        have d2 : (b.length == 0) = true := beq_iff_eq.mpr h0
        have HA := Aside0.mk (show addP s b = ⟨s.l, true⟩ from if_pos h0)
        clear h0
        go_wp2
        go_roundw
        case rel => exact ⟨i + 1, .slice A3 s.l.length c3, by first | rfl | exact congrArg (Value.int .i64) hw2, ⟨by rw [HT.out, HA.out]; exact (HS.out.put 2 (.bool true) rfl rfl).more (Nat.le_succ _)⟩, HIL⟩
        case measure => exact ms_step HIL.out (by first | exact hw2 | simp)
      · have d1 : ((b.length : Int) == 0) = false := beq_eq_false_iff_ne.mpr (by omega)
        have d2 : (b.length == 0) = false := beq_eq_false_iff_ne.mpr h0
        have cv := Kd.C_string (P := Try.prog) (A := Ab) (c := cb) Try.underlying22 Try.underlying5 Try.underlying9 (Kd.C_below HX.out HS.out.bel)
        obtain ⟨f, hm, hf⟩ := HS.out.map
        have hmx : b.length ≤ maxLen := by have := HXL.out.2; unfold maxLen; omega
        have hkey := key_b b hmx
        have hlk := hm.look (t := 25) strK Try.underlying25 Try.underlying3 zeroI hkey
        rw [hf b] at hlk
        have HM := Aside0.mk hm
        have HF := Aside0.mk hf
        have HA := Aside0.mk (show addP s b = if inP s.l b = true then s else ⟨s.l ++ [b], s.e⟩ from if_neg h0)
        have HKEY := Aside0.mk hkey
        clear h0 hm hf hmx hkey
        cases hin : inP s.l b with
        | true =>
        rw [hin] at hlk
        rw [hin, if_pos rfl] at HA
        generalize strOfNums b = str at cv hlk
        go_wp2
        go_roundw
        case rel => exact ⟨i + 1, .slice A3 s.l.length c3, by first | rfl | exact congrArg (Value.int .i64) hw2, ⟨by rw [HT.out, HA.out]; exact HS.out.more (Nat.le_succ _)⟩, HIL⟩
        case measure => exact ms_step HIL.out (by first | exact hw2 | simp)
        | false =>
        rw [hin] at hlk
        rw [hin, if_neg (by decide)] at HA
        generalize strOfNums b = str at cv hlk HKEY
        go_wp2_with first
          | (at_mapUpdate; refine wpList_mapI rfl _ _ _ 25 rfl strK Try.underlying25 Try.underlying3 rfl HM.out (by have := HL.out; have := HIL.out; unfold maxLen; omega) _ (kb b) (s.l.length : Int) rfl rfl HKEY.out (wf_nat (by have := HSL.out; omega)) ?_; intro w2 hmp2 hg2)
          | fail
        have HS2 := Aside0.mk (HS.out.upd (m' := s.l ++ [b]) hg2 ⟨_, hmp2, upd_in b _ HF.out⟩)
        have HX2 := Aside0.mk (show Kd.C (Kd.int .u8) w2 Ab b.length b from Kd.C_below HX.out HS2.out.bel)
        clear hmp2 hg2 g0 g1 g2 f2 cv hlk HM HF HKEY
        have k0 := (blk_cell HS2.out.box 0).trans (show _ = some (Value.slice A3 s.l.length c3) from rfl)
        refine wp_region_E (fun w' => w'.cell? ⟨w.heap.size + 1 + 1, 0, none⟩ = some (.slice A3 s.l.length c3)) 7 (by kernel_rfl) k0 (fun hHeld => ?_)
        refine wpAnyE_take (i := 0) (oi := { dst := some 37, op := Op.fieldAddr 27 (Operand.tmp 3) 0, type := 0, pos := "patset.go:29", after := #[], guard := none }) (v := ?_) [] (by kernel_rfl) rfl (by kernel_rfl) (by kernel_rfl) (by kernel_rfl) (fun _ _ _ h => h) (Or.inl ⟨by rfl, ?_⟩) (by assumption) ?_
        rotate_left 1
        · intro w hSw
          (try dsimp only at hSw)
          go_simp
          all_goals try with_reducible rfl
        try simp only [Act.put, List.setIfInBounds_toArray, List.set_cons_zero, List.set_cons_succ]
        refine wpAnyE_take (i := 1) (oi := { dst := some 38, op := Op.load 24 (Operand.tmp 37), type := 24, pos := "patset.go:29", after := #[{ on := 0, ground := Ground.data }], guard := none }) (v := ?_) [] (by kernel_rfl) rfl (by kernel_rfl) (by kernel_rfl) (by kernel_rfl) (fun _ _ _ h => h) (Or.inl ⟨by rfl, ?_⟩) (by assumption) ?_
        rotate_left 1
        · intro w hSw
          (try dsimp only at hSw)
          go_simp
          all_goals try with_reducible rfl
        try simp only [Act.put, List.setIfInBounds_toArray, List.set_cons_zero, List.set_cons_succ]
        refine wpAnyE_take (i := 2) (oi := { dst := some 39, op := Op.move (Operand.tmp 5), type := 22, pos := "patset.go:29", after := #[], guard := none }) (v := ?_) [] (by kernel_rfl) rfl (by kernel_rfl) (by kernel_rfl) (by kernel_rfl) (fun _ _ _ h => h) (Or.inl ⟨by rfl, ?_⟩) (by assumption) ?_
        rotate_left 1
        · intro w hSw
          (try dsimp only at hSw)
          go_simp
          all_goals try with_reducible rfl
        try simp only [Act.put, List.setIfInBounds_toArray, List.set_cons_zero, List.set_cons_succ]
        refine wpAnyE_one (i := 3) (o := { dst := some 40, op := Op.call { callee := Callee.value (Operand.func 28), args := #[Operand.tmp 39], argTypes := #[22] }, type := 22, pos := "patset.go:29", after := #[{ on := 2, ground := Ground.data }], guard := none }) (by kernel_rfl) rfl (fun K hK => ?_)
        clear hHeld
        go_simp
        refine (clone_calls Ab cb b b.length w2.drew (Kd.C_below HX2.out (below_drew (Below.refl _ _))) HXL.out.1 rfl (by have := HXL.out.2; omega)).mono ?_
        rintro e w3 ⟨v3, rfl, hr3, hb3⟩
        obtain ⟨Av, cv, hv3⟩ := Kd.R_slice hr3
        subst hv3
        have HBB := Aside0.mk (below_step (below_drew (Below.refl w2.heap.size w2)) hb3)
        have HR3 := Aside0.mk (show Kd.R (Kd.int .u8) 5 w3 w2.heap.size (fun k => w2.heap.size ≤ k) (.slice Av b.length cv) b from Kd.R_mono (Kd.R_bound hr3) (fun k hk => hk.2.1))
        have HS3 := Aside0.mk (HS2.out.below HBB.out)
        have HOL := Aside0.mk (fun (k : Nat) (e : (Value.slice A3 s.l.length c3).ownBlock = some k) => Kd.R_lt HS2.out.row k e)
        clear hr3 hb3 k0
        have k0 := (blk_cell HS3.out.box 0).trans (show _ = some (Value.slice A3 s.l.length c3) from rfl)
        refine hK.out _ _ k0 (fun hHeld => ?_)
        clear hK K
        try simp only [Act.put, List.setIfInBounds_toArray, List.set_cons_zero, List.set_cons_succ]
        refine wpAnyE_one (i := 4) (o := { dst := some 41, op := Op.buildSlice 24 1 #[(0, Operand.tmp 40)], type := 24, pos := "patset.go:29", after := #[{ on := 3, ground := Ground.data }], guard := none }) (by kernel_rfl) rfl (fun K hK => ?_)
        clear hHeld
        go_simp
        refine hK.out _ _ (Go.Proofs.YtkpfnhkfecpefaaW.PrintWords.cell_kept (a := ⟨w.heap.size + 1 + 1, 0, none⟩) k0 (Kept.alloc (Kept.refl w3 (fun _ => False)) _) (fun h => h)) (fun hHeld => ?_)
        clear hK K
        try simp only [Act.put, List.setIfInBounds_toArray, List.set_cons_zero, List.set_cons_succ]
        refine wpAnyE_one (i := 5) (o := { dst := some 42, op := Op.call { callee := Callee.builtin Builtin.append, args := #[Operand.tmp 38, Operand.tmp 41], argTypes := #[24, 24] }, type := 24, pos := "patset.go:29", after := #[{ on := 1, ground := Ground.data }, { on := 4, ground := Ground.data }, { on := 3, ground := Ground.chain }], guard := none }) (by kernel_rfl) rfl (fun K hK => ?_)
        clear hHeld
        refine Kd.R_append_step kB (w0 := w3) (W := w3) w.heap.size (by rfl) (.tmp 38) (.tmp 41) 24 22 (.slice none 0 0) 24 (by rfl) Try.underlying24 infoR rfl (by decide) (by decide) (.slice A3 s.l.length c3) s.l b [.slice Av b.length cv] (OkS w) (fun k => w2.heap.size ≤ k) (by rfl) (by rfl) ⟨_, rfl, Kd.R_lower HR3.out HS2.out.bel.size⟩ (fun k hk => ⟨?_, fun e => by have := HOL.out k e.symm; omega⟩) (fun k hk => ?_) HS3.out.row (Below.refl _ w3) HS3.out.bel.size (by have := HSL.out; omega) ?_
        · have := blk_lt HS2.out.box
          exact ⟨by omega, by omega, by omega⟩
        · have := blk_lt HS3.out.box
          exact ⟨by omega, by omega, by omega⟩
        intro v1 w4 hr1 hb1 hg1 hat1
        have HS4 := Aside0.mk (HS3.out.app hr1 hg1)
        have hle : (s.l ++ [b]).length = s.l.length + 1 := (by simp)
        obtain ⟨A4, c4, hv1⟩ := Kd.R_slice hr1
        rw [hle] at hv1
        subst hv1
        clear hr1 hb1 hg1 hat1 k0
        have k0 := (blk_cell HS4.out.box 0).trans (show _ = some (Value.slice A3 s.l.length c3) from rfl)
        have f0 := blk_frozen HS4.out.box 0
        refine hK.out _ _ k0 (fun hHeld => ?_)
        clear hK K
        try simp only [Act.put, List.setIfInBounds_toArray, List.set_cons_zero, List.set_cons_succ]
        refine wpAnyE_one (i := 6) (o := { dst := some 43, op := Op.fieldAddr 27 (Operand.tmp 3) 0, type := 0, pos := "patset.go:29", after := #[{ on := 0, ground := Ground.phase }, { on := 1, ground := Ground.phase }, { on := 2, ground := Ground.phase }, { on := 3, ground := Ground.phase }, { on := 4, ground := Ground.phase }, { on := 5, ground := Ground.phase }], guard := none }) (by kernel_rfl) rfl (fun K hK => ?_)
        clear hHeld
        go_simp
        refine hK.out _ _ k0 (fun hHeld => ?_)
        clear hK K
        try simp only [Act.put, List.setIfInBounds_toArray, List.set_cons_zero, List.set_cons_succ]
        refine wpAnyE_last (o := { dst := none, op := Op.store 24 (Operand.tmp 43) (Operand.tmp 42), type := 0, pos := "patset.go:29", after := #[{ on := 6, ground := Ground.data }, { on := 5, ground := Ground.data }, { on := 5, ground := Ground.chain }, { on := 0, ground := Ground.phase }, { on := 1, ground := Ground.phase }, { on := 2, ground := Ground.phase }, { on := 3, ground := Ground.phase }, { on := 4, ground := Ground.phase }, { on := 5, ground := Ground.phase }], guard := none }) (by kernel_rfl) rfl (fun K hK => ?_)
        clear hHeld
        go_simp
        refine hK.out _ _ ?_
        clear hK K
        refine wpAnyE_done (by kernel_rfl) ?_ _
        try simp only [Act.put, List.setIfInBounds_toArray, List.set_cons_zero, List.set_cons_succ]
        go_wp2
        go_roundw
        case rel => exact ⟨i + 1, .slice A4 (s.l.length + 1) c4, by first | rfl | exact congrArg (Value.int .i64) hw2, ⟨by rw [HT.out, HA.out]; exact HS4.out.put 0 (.slice A4 (s.l.length + 1) c4) rfl rfl⟩, HIL⟩
        case measure => exact ms_step HIL.out (by first | exact hw2 | simp)
    · have e1 : decide ((i : Int) < (L.length : Int)) = false := decide_eq_false (by omega)
      have e2 : decide (i < L.length) = false := decide_eq_false hlt
      have HE := Aside0.mk (show L.take i = L from List.take_of_length_le (by omega))
      rw [HE.out] at HS
      obtain ⟨s, hs⟩ : ∃ s, s = ofP L := ⟨_, rfl⟩
      rw [← hs] at HS
      have HSS := Aside0.mk hs
      clear hs
      clear hlt
      have g0 := (blk_cell HS.out.box 0).trans (show _ = some (Value.slice A3 s.l.length c3) from rfl)
      have g1 := (blk_cell HS.out.box 1).trans (show _ = some (Value.map (some (w.heap.size + 1))) from rfl)
      have g2 := (blk_cell HS.out.box 2).trans (show _ = some (Value.bool s.e) from rfl)
      have r0 := blk_frozen HS.out.res 0
      have r1 := blk_frozen HS.out.res 1
      have r2 := blk_frozen HS.out.res 2
      have q0 := (blk_cell HS.out.res 0).trans (show _ = some (Value.slice none 0 0) from rfl)
      have q1 := (blk_cell HS.out.res 1).trans (show _ = some (Value.map none) from rfl)
      have q2 := (blk_cell HS.out.res 2).trans (show _ = some (Value.bool false) from rfl)
      have HI3 := Aside0.mk (show (Try.prog.info? 27).map (·.size) = some 3 by kernel_rfl)
      have HEND := Aside0.mk (of_end HS.out)
      go_wp2
      refine bodyPost_ret (results_single rfl (Vals.cell w.heap.size 27 #[.slice A3 s.l.length c3, .map (some (w.heap.size + 1)), .bool s.e] (0, 0) _ rfl HEND.out.1 Try.underlying27 rfl HI3.out Vals.nil)) rfl ?_
      exact ⟨_, rfl, by rw [← HSS.out]; exact HEND.out.2.1, HEND.out.2.2⟩
end Go.Proofs.Ytkpfnhkfecpefaa.Pat
