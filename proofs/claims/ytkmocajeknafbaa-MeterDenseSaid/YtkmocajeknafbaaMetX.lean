/- A dense table: what Dense makes, what its handle answers, and what the document's Dense does. -/
import Derived.Test.YtkmocajeknafbaaMetS
import Derived.Laws.Rows
namespace Go.Proofs.Ytkmocajeknafbaa.Met
open Go Go.RowKit Go.Proofs Go.Proofs.YtkmocajeknafbaaW.PrintWords Go.Proofs.YtkmocajeknafbaaW.PrintMore Go.Proofs.Ytkmocajeknafbaa.Mp Go.Maps
set_option linter.unusedVariables false
set_option linter.unusedSimpArgs false
/-- numbers as cells -/
def i64s (l : List Int) : Array Value := (l.map (Value.int .i64)).toArray
theorem i64s_size (l : List Int) : (i64s l).size = l.length := by simp [i64s]
theorem i64s_get (l : List Int) (j : Nat) : (i64s l)[j]? = (l[j]?).map (Value.int .i64) := by simp [i64s]
theorem i64s_set (l : List Int) (j : Nat) (v : Int) : (i64s l).setIfInBounds j (.int .i64 v) = i64s (l.set j v) := by
  unfold i64s
  rw [List.setIfInBounds_toArray, List.map_set]
/-- where a dense table says that a state goes -/
def dn (k wd : Int) (nx : List Int) (s : Int) : Int :=
  if s < 0 ∨ k < 0 ∨ wd ≤ k ∨ (nx.length : Int) ≤ k ∨ ((nx.length : Int) - 1 - k) / wd < s then -1 else rd nx (s * wd + k)
theorem dn_neg {k wd : Int} {nx : List Int} {s : Int} (h : s < 0 ∨ k < 0 ∨ wd ≤ k ∨ (nx.length : Int) ≤ k ∨ ((nx.length : Int) - 1 - k) / wd < s) : dn k wd nx s = -1 := by unfold dn; exact if_pos h
theorem dn_pos {k wd : Int} {nx : List Int} {s : Int} (h : ¬ (s < 0 ∨ k < 0 ∨ wd ≤ k ∨ (nx.length : Int) ≤ k ∨ ((nx.length : Int) - 1 - k) / wd < s)) : dn k wd nx s = rd nx (s * wd + k) := by unfold dn; exact if_neg h
theorem dn_fit {k wd s n : Int} (h0 : 0 ≤ s) (h1 : 0 ≤ k) (h2 : k < wd) (h3 : k < n) : s ≤ (n - 1 - k) / wd ↔ s * wd + k < n := by
  have hw : 0 < wd := by omega
  rw [Int.le_ediv_iff_mul_le hw]
  omega
theorem info3 : (Try.prog.info? 3).map (fun i => (i.zero, i.size, i.bytes)) = some (some (.int .i64 0), 1, 8) := by kernel_rfl
set_option maxHeartbeats 8000000 in
set_option maxRecDepth 100000 in
theorem cloneI_calls (A0 : Option Addr) (c0 : Nat) (l0 : List Int) (n : Nat) (w : World) (hr0 : Kd.C (Kd.int .i64) w A0 l0.length l0) (hc0 : l0.length ≤ c0) (hn : n = l0.length) (hl : l0.length < 1000000000000) :
    Calls Try.prog 24 #[.slice A0 n c0] w fun e w' => ∃ v0_ : Value, e = .returned v0_ ∧ Kd.R (Kd.int .i64) 3 w' w.heap.size (fun _ => True) v0_ l0 ∧ Below w.heap.size w w' := by
  subst hn
  have HR := Aside0.mk hr0
  cases A0 with
  | none =>
    have h0 : l0 = [] := by
      rcases Nat.eq_zero_or_pos l0.length with h | h
      · exact List.length_eq_zero_iff.mp h
      · obtain ⟨ad, e, _⟩ := hr0.2.2 h
        cases e
    subst h0
    clear hr0 hc0 hl
    have heq := Lib.run_eql_slice_nil (P := Try.prog) w 23 3 none 0 c0 0 0 Try.underlying23
    go_enter Try.func24, Try.ntmps24
    go_wp2
    go_ret
    exact ⟨_, rfl, Kd.R_nil _ _ _ _ _, Below.refl _ _⟩
  | some ad =>
    clear hr0
    have heq := Lib.run_eql_slice_nil (P := Try.prog) w 23 3 (some ad) l0.length c0 0 0 Try.underlying23
    have HO := Aside0.mk (show Kd.R (Kd.int .i64) 3 (w.alloc (.cells #[] 3)) w.heap.size (fun _ => True) (.slice (some ⟨w.heap.size, 0, none⟩) 0 0) [] from
      ⟨fun _ _ => trivial, [], World.ownsRow_lit (base := w.heap.size) (e := 3) (size := 1) w #[] 0 (Nat.le_refl _) (by decide) (by simp), Reps.none _ _⟩)
    have HX := Aside0.mk (Kd.C_alloc HR.out (.cells #[] 3))
    have HB := Aside0.mk (below_alloc (Below.refl w.heap.size w) (.cells #[] 3))
    go_enter Try.func24, Try.ntmps24
    go_wp2_with (at_builtin; refine Kd.R_append_rows (Kd.int .i64) (w0 := w) w.heap.size rfl (.tmp 5) (.tmp 6) 23 3 (.int .i64 0) 8 rfl Try.underlying23 info3 rfl (by decide) (by decide) (.slice (some ⟨w.heap.size, 0, none⟩) 0 0) [] l0 (some ad) l0.length c0 (fun _ => True) (fun _ => False) rfl rfl HO.out HX.out (fun _ _ h => h) (fun _ h => h.elim) (fun _ _ => trivial) HB.out (by simp) (by simp; omega) ?_; intro v1 w1 hr1 hb1 hg1 hat1)
    go_ret
    exact ⟨_, rfl, by simpa using hr1, hb1⟩
/-- a dense table: its meter, and what its handle holds; all lies from base on -/
structure DenAt (w : World) (gt : Nat) (M : Option Nat) (base top gc gw gn : Nat) (C : List Int) (wd : Int) (A : Option Addr) (cp : Nat) (nx : List Int) : Prop where
  box : w.heap[gt]? = some (.cells #[.pointer (mp M), .func (.func 25) #[] #[.pointer (some ⟨gc, 0, none⟩), .pointer (some ⟨gw, 0, none⟩), .pointer (some ⟨gn, 0, none⟩)]] 70 (0, 0))
  cls : w.heap[gc]? = some (.cells (i64s C) 53 (0, 0))
  wid : w.heap[gw]? = some (.cells #[.int .i64 wd] 3 (0, 0))
  nxt : w.heap[gn]? = some (.cells #[.slice A nx.length cp] 23 (0, 0))
  row : Kd.R (Kd.int .i64) 3 w base (fun k => base ≤ k ∧ k < top) (.slice A nx.length cp) nx
  old : ∀ k, M = some k → k < base
  new : (base ≤ gt ∧ gt < top) ∧ (base ≤ gc ∧ gc < top) ∧ (base ≤ gw ∧ gw < top) ∧ (base ≤ gn ∧ gn < top)
theorem DenAt.kept {w w' : World} {gt base top gc gw gn : Nat} {M : Option Nat} {C : List Int} {wd : Int} {A : Option Addr} {cp : Nat} {nx : List Int} {S : Nat → Prop} (h : DenAt w gt M base top gc gw gn C wd A cp nx) (hk : Kept w w' S) (hS : ∀ k, base ≤ k → k < top → ¬ S k) : DenAt w' gt M base top gc gw gn C wd A cp nx :=
  ⟨blk_kept h.box hk (hS gt h.new.1.1 h.new.1.2), blk_kept h.cls hk (hS gc h.new.2.1.1 h.new.2.1.2), blk_kept h.wid hk (hS gw h.new.2.2.1.1 h.new.2.2.1.2), blk_kept h.nxt hk (hS gn h.new.2.2.2.1 h.new.2.2.2.2), Kd.R_kept h.row hk (fun k h => hS k h.1 h.2), h.old, h.new⟩
theorem DenAt.below {w w' : World} {gt base top gc gw gn : Nat} {M : Option Nat} {C : List Int} {wd : Int} {A : Option Addr} {cp : Nat} {nx : List Int} (h : DenAt w gt M base top gc gw gn C wd A cp nx) (hb : Below w.heap.size w w') : DenAt w' gt M base top gc gw gn C wd A cp nx := h.kept (Kept.of_below hb (fun _ => False)) (fun _ _ _ h => h)
theorem DenAt.put {w w' : World} {gt base top gc gw gn : Nat} {M : Option Nat} {C : List Int} {wd : Int} {A : Option Addr} {cp : Nat} {nx : List Int} {a b c d : Int} (h : DenAt w gt M base top gc gw gn C wd A cp nx) (hp : Put w w' M a b c d) : DenAt w' gt M base top gc gw gn C wd A cp nx := h.kept hp.kept (fun k hk _ e => by have := h.old k e; omega)
set_option maxHeartbeats 8000000 in
set_option maxRecDepth 100000 in
theorem dense_calls (M : Option Nat) (C : List Int) (wd : Int) (A0 : Option Addr) (c0 : Nat) (nx : List Int) (w : World) (hr : Kd.C (Kd.int .i64) w A0 nx.length nx) (hc : nx.length ≤ c0) (hl : nx.length ≤ 1000000) (hM : ∀ k, M = some k → k < w.heap.size) :
    Calls Try.prog 19 #[.pointer (mp M), .agg (i64s C), .int .i64 wd, .slice A0 nx.length c0] w fun e w' => ∃ gt gc gw gn A cp, e = .returned (.pointer (some ⟨gt, 0, none⟩)) ∧ DenAt w' gt M w.heap.size w'.heap.size gc gw gn C wd A cp nx ∧ Below w.heap.size w w' := by
  have HR := Aside0.mk hr
  have HC := Aside0.mk hc
  have HL := Aside0.mk hl
  have HM := Aside0.mk hM
  have hmf : ∀ (fn : Fn) (first cap : Array Value) (w : World), (Instr.makeFunc fn first cap).run Try.prog w = .ok (.func fn first cap) w := fun _ _ _ _ => rfl
  have hu := Try.underlying70
  clear hr hc hl hM
  go_enter Try.func19, Try.ntmps19
  go_wp2_with fail
  obtain ⟨W3, hW3⟩ : ∃ W3, W3 = ((w.alloc (.cells (i64s C) 53)).alloc (.cells #[.int .i64 wd] 3)).alloc (.cells #[.slice A0 nx.length c0] 23) := ⟨_, rfl⟩
  have HB3 := Aside0.mk (show Below w.heap.size w W3 by rw [hW3]; exact below_alloc (below_alloc (below_alloc (Below.refl _ _) _) _) _)
  have HC3 := Aside0.mk (show W3.heap[w.heap.size]? = some (.cells (i64s C) 53 (0, 0)) by rw [hW3]; exact blk_alloc (blk_alloc (blk_new _ _) _) _)
  have HW3 := Aside0.mk (show W3.heap[w.heap.size + 1]? = some (.cells #[.int .i64 wd] 3 (0, 0)) by
    rw [hW3]
    refine blk_alloc ?_ _
    have := blk_new (w.alloc (.cells (i64s C) 53)) (.cells #[.int .i64 wd] 3)
    rwa [World.size_alloc] at this)
  have HN3 := Aside0.mk (show W3.heap[w.heap.size + 2]? = some (.cells #[.slice A0 nx.length c0] 23 (0, 0)) by
    rw [hW3]
    have := blk_new ((w.alloc (.cells (i64s C) 53)).alloc (.cells #[.int .i64 wd] 3)) (.cells #[.slice A0 nx.length c0] 23)
    rwa [World.size_alloc, World.size_alloc] at this)
  have HSZ := Aside0.mk (show W3.heap.size = w.heap.size + 3 by rw [hW3]; simp)
  rw [← hW3]
  clear hW3
  refine (cloneI_calls A0 c0 nx nx.length W3 (Kd.C_below HR.out HB3.out) HC.out rfl (by have := HL.out; omega)).mono ?_
  rintro e w4 ⟨v, rfl, hr, hb⟩
  obtain ⟨A, cp, hv⟩ := Kd.R_slice hr
  subst hv
  have HN4 := Aside0.mk (blk_below HN3.out hb)
  have HC4 := Aside0.mk (blk_below HC3.out hb)
  have HW4 := Aside0.mk (blk_below HW3.out hb)
  have HR4 := Aside0.mk (Kd.R_mono (Kd.R_bound hr) (ok' := fun k => w.heap.size + 3 ≤ k ∧ k < w4.heap.size) (fun k hk => by have := hk.2.1; have := hk.2.2.1; have := HSZ.out; omega))
  have HB4 := Aside0.mk (below_step HB3.out hb)
  have HS4 := Aside0.mk (show w.heap.size + 3 ≤ w4.heap.size by have := hb.size; have := HSZ.out; omega)
  have k0 : w4.cell? ⟨w.heap.size + 2, 0, none⟩ = some (.slice A0 nx.length c0) := (blk_cell HN4.out 0).trans rfl
  have f0 := blk_frozen HN4.out 0
  clear hr hb HB3 HC3 HW3 HN3
  go_wp2
  go_ret
  have hb1 : Below w.heap.size w (w4.setCell ⟨w.heap.size + 2, 0, none⟩ (.slice A nx.length cp)) := Below.setCell (p := ⟨w.heap.size + 2, 0, none⟩) HB4.out (by show w.heap.size ≤ w.heap.size + 2; omega) _
  have e1 := blk_set HN4.out 0 (.slice A nx.length cp)
  have e2 := blk_far HC4.out (p := ⟨w.heap.size + 2, 0, none⟩) (by show w.heap.size ≠ w.heap.size + 2; omega) (.slice A nx.length cp)
  have e3 := blk_far HW4.out (p := ⟨w.heap.size + 2, 0, none⟩) (by show w.heap.size + 1 ≠ w.heap.size + 2; omega) (.slice A nx.length cp)
  have e4 := Kd.R_far HR4.out (p := ⟨w.heap.size + 2, 0, none⟩) (fun k hk => by show k ≠ w.heap.size + 2; omega) (.slice A nx.length cp)
  have hs4 : (w4.setCell ⟨w.heap.size + 2, 0, none⟩ (.slice A nx.length cp)).heap.size = w4.heap.size := by simp
  have e0 := blk_new (w4.setCell ⟨w.heap.size + 2, 0, none⟩ (.slice A nx.length cp)) (.cells #[.pointer (mp M), .func (.func 25) #[] #[.pointer (some ⟨w.heap.size, 0, none⟩), .pointer (some ⟨w.heap.size + 1, 0, none⟩), .pointer (some ⟨w.heap.size + 2, 0, none⟩)]] 70)
  rw [hs4] at e0
  refine ⟨w4.heap.size, w.heap.size, w.heap.size + 1, w.heap.size + 2, A, cp, rfl, ⟨e0, blk_alloc e2 _, blk_alloc e3 _, blk_alloc e1 _, Kd.R_lower (Kd.R_mono (Kd.R_alloc e4 _) (fun k hk => by rw [World.size_alloc, hs4]; omega)) (by have := HS4.out; have := HSZ.out; omega), HM.out, by rw [World.size_alloc, hs4]; have := HS4.out; omega⟩, below_step hb1 (below_alloc (Below.refl _ _) _)⟩
set_option maxHeartbeats 8000000 in
set_option maxRecDepth 100000 in
/-- the handle of a dense table -/
theorem dlook1_calls {w : World} {gt base top gc gw gn : Nat} {M : Option Nat} {C : List Int} {wd : Int} {A : Option Addr} {cp : Nat} {nx : List Int} (h : DenAt w gt M base top gc gw gn C wd A cp nx) (hC : C.length = 256) (hl : nx.length ≤ 1000000) (s c : Int) (hc0 : 0 ≤ c) (hc1 : c ≤ 255) :
    Calls Try.prog 25 #[.agg #[.int .i64 s, .int .u8 c], .pointer (some ⟨gc, 0, none⟩), .pointer (some ⟨gw, 0, none⟩), .pointer (some ⟨gn, 0, none⟩)] w fun e w' => e = .returned (.int .i64 (dn (rd C c) wd nx s)) ∧ Below w.heap.size w w' := by
  have hb := below_alloc (Below.refl w.heap.size w) (.cells #[.int .i64 s, .int .u8 c] 66)
  have HH := Aside0.mk (h.below hb)
  have HB := Aside0.mk hb
  have kn : w.cell? ⟨gn, 0, none⟩ = some (.slice A nx.length cp) := (blk_cell h.nxt 0).trans rfl
  have kw : w.cell? ⟨gw, 0, none⟩ = some (.int .i64 wd) := (blk_cell h.wid 0).trans rfl
  have hln := blk_lt h.nxt
  have hlw := blk_lt h.wid
  have hlc := blk_lt h.cls
  obtain ⟨m, rfl⟩ := Int.eq_ofNat_of_zero_le hc0
  have hm : m < C.length := by omega
  have kc : w.cell? ⟨gc, m, none⟩ = some (.int .i64 (rd C (m : Int))) := (blk_cell h.cls m).trans (by rw [i64s_get, List.getElem?_eq_getElem hm]; unfold rd; rw [Int.toNat_natCast, List.getD_eq_getElem?_getD, List.getElem?_eq_getElem hm]; rfl)
  have hu := Try.underlying66
  have hua := Try.underlying53
  have hm256 : (m : Int) < 256 := by omega
  have hm256n : m < 256 := by omega
  generalize rd C (m : Int) = k at kc
  have HNL := Aside0.mk hl
  clear h hb hl
  by_cases h0 : s < 0
  · have c0 : decide (s < 0) = true := decide_eq_true h0
    rw [dn_neg (Or.inl h0)]
    clear h0
    go_enter Try.func25, Try.ntmps25
    go_wp2_with fail
    go_quiet (fail)
    go_wp2
    go_ret
    exact ⟨rfl, pw_below_drewN HB.out _⟩
  · have c0 : decide (s < 0) = false := decide_eq_false h0
    by_cases h1 : k < 0
    · have c1 : decide (k < 0) = true := decide_eq_true h1
      rw [dn_neg (Or.inr (Or.inl h1))]
      clear h0 h1
      go_enter Try.func25, Try.ntmps25
      go_wp2_with fail
      go_quiet (fail)
      go_wp2
      go_ret
      exact ⟨rfl, pw_below_drewN HB.out _⟩
    · have c1 : decide (k < 0) = false := decide_eq_false h1
      by_cases h2 : wd ≤ k
      · have c2 : decide (wd ≤ k) = true := decide_eq_true h2
        rw [dn_neg (Or.inr (Or.inr (Or.inl h2)))]
        clear h0 h1 h2
        go_enter Try.func25, Try.ntmps25
        go_wp2_with fail
        go_quiet (fail)
        go_wp2
        go_ret
        exact ⟨rfl, pw_below_drewN HB.out _⟩
      · have c2 : decide (wd ≤ k) = false := decide_eq_false h2
        by_cases h3 : (nx.length : Int) ≤ k
        · have c3 : decide ((nx.length : Int) ≤ k) = true := decide_eq_true h3
          rw [dn_neg (Or.inr (Or.inr (Or.inr (Or.inl h3))))]
          clear h0 h1 h2 h3
          go_enter Try.func25, Try.ntmps25
          go_wp2_with fail
          go_quiet (fail)
          go_wp2
          go_ret
          exact ⟨rfl, pw_below_drewN HB.out _⟩
        · have c3 : decide ((nx.length : Int) ≤ k) = false := decide_eq_false h3
          have w1 : IntKind.i64.wrap ((nx.length : Int) - 1) = (nx.length : Int) - 1 := IntWalk.i64_in _ (by have := HNL.out; omega)
          have w2 : IntKind.i64.wrap ((nx.length : Int) - 1 - k) = (nx.length : Int) - 1 - k := IntWalk.i64_in _ (by have := HNL.out; omega)
          have w0 : (wd == 0) = false := beq_eq_false_iff_ne.mpr (by omega)
          have w0n : wd ≠ 0 := by omega
          have hq : Int.tdiv ((nx.length : Int) - 1 - k) wd = ((nx.length : Int) - 1 - k) / wd := Int.tdiv_eq_ediv_of_nonneg (by omega)
          have hqb : 0 ≤ ((nx.length : Int) - 1 - k) / wd ∧ ((nx.length : Int) - 1 - k) / wd ≤ (nx.length : Int) - 1 - k := ⟨Int.ediv_nonneg (by omega) (by omega), Int.ediv_le_self _ (by omega)⟩
          have w3 : IntKind.i64.wrap (((nx.length : Int) - 1 - k) / wd) = ((nx.length : Int) - 1 - k) / wd := IntWalk.i64_in _ (by have := HNL.out; omega)
          by_cases h4 : ((nx.length : Int) - 1 - k) / wd < s
          · have c4 : decide (((nx.length : Int) - 1 - k) / wd < s) = true := decide_eq_true h4
            rw [dn_neg (Or.inr (Or.inr (Or.inr (Or.inr h4))))]
            clear h0 h1 h2 h3 h4 hqb
            go_enter Try.func25, Try.ntmps25
            go_wp2_with fail
            go_quiet (fail)
            go_wp2
            go_ret
            exact ⟨rfl, pw_below_drewN HB.out _⟩
          · have c4 : decide (((nx.length : Int) - 1 - k) / wd < s) = false := decide_eq_false h4
            rw [dn_pos (by omega)]
            have hfit := (dn_fit (n := (nx.length : Int)) (by omega) (by omega) (by omega) (by omega) : s ≤ _ ↔ s * wd + k < _).mp (by omega)
            have hp0 : 0 ≤ s * wd := Int.mul_nonneg (by omega) (by omega)
            have m1 : wrap64 (s * wd) = s * wd := by have := HNL.out; unfold wrap64; omega
            have m2 : wrap64 (s * wd + k) = s * wd + k := by have := HNL.out; unfold wrap64; omega
            have i0 : 0 ≤ s * wd + k := by omega
            obtain ⟨ad, hA, hx⟩ := Kd.at_int (Kd.R_reads' HH.out.row).2.2 (s * wd + k) i0 hfit
            subst hA
            clear h0 h1 h2 h3 h4 hqb
            go_enter Try.func25, Try.ntmps25
            go_wp2_with fail
            go_quiet (fail)
            go_wp2
            go_ret
            exact ⟨rfl, pw_below_drewN HB.out _⟩
end Go.Proofs.Ytkmocajeknafbaa.Met
