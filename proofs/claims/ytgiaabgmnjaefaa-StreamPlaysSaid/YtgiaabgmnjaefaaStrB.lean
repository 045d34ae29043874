/- A stream's line: what ends with some bytes. -/
import Derived.Test.YtgiaabgmnjaefaaStrA
namespace Go.Proofs.Ytgiaabgmnjaefaa.Str
open Go Go.RowKit Go.Proofs Go.Proofs.Ytgiaabgmnjaefaa.Met Go.Proofs.Ytgiaabgmnjaefaa.Win Go.Proofs.YtgiaabgmnjaefaaW.PrintWords Go.Proofs.YtgiaabgmnjaefaaW.PrintMore
set_option linter.unusedVariables false
set_option linter.unusedSimpArgs false
attribute [local go_sem] max2_int min2_int max_two min_two max_three min_three
theorem Win.alt {w : World} {g : Nat} {M : Option Nat} {c : Int} {A : Option Addr} {st : St} (h : Win w g M c A st) : ∀ ad, A = some ad → ad.block < w.heap.size := by
  obtain ⟨buf, h1, h2, h3⟩ := h
  intro ad e
  rcases Nat.eq_zero_or_pos buf.length with h0 | h0
  · have := h1.no h0
    rw [e] at this
    cases this
  · obtain ⟨gb, q1, q2, _, _⟩ := h1.row h0
    rw [e] at q1
    cases q1
    exact blk_lt q2
theorem wr9 {x : Int} (h0 : -1000000000000 ≤ x) (h1 : x ≤ 1000000000000) : wrap64 x = x := by unfold wrap64; omega
/-- a stream behind a line that ends with some bytes -/
def lineS (s : SS) (rest : List Int) : SS :=
  { s with st := if s.st.held.length = 0 then s.st else clearS (addS s.st rest), num := s.num + 1, off := s.off + ((s.st.held ++ rest).length + 1) }
/-- what is small enough -/
structure Sml (s : SS) : Prop where
  room : s.st.room ≤ 1000000000
  mv : s.st.mv ≤ 10000000000
  num : s.num ≤ 1000000000
  off : s.off ≤ 1000000000
  hunt : s.hunt ≤ 1000000000
theorem line_post {w W2 W5 : World} {B gs gw gl : Nat} {M : Option Nat} {A : Option Addr} {s : SS} {rest : List Int} {Av : Option Addr} {cv : Nat} (h : StrAt w B gs gw M A s) (h0 : s.st.held = []) (hB : B ≤ w.heap.size) (g2 : StrAt W2 B gs gw M A s)
    (g3 : Kd.R (Kd.int .u8) 5 W2 w.heap.size (fun k => w.heap.size < k ∧ k ≠ gl) (.slice Av rest.length cv) rest) (g4 : Below w.heap.size w W2)
    (k2 : W5.heap[gs]? = some (.cells #[.pointer (mp M), .pointer (some ⟨gw, 0, none⟩), .int .i64 s.most, .int .i64 ((s.num : Int) + 1), .int .i64 ((s.off : Int) + ((rest.length : Int) + 1)), .bool s.over, .int .i64 s.bad] 70 (0, 0)))
    (kk : Kept W2 W5 (fun k => k = gs ∨ k = w.heap.size)) (hb : Below B W2 W5) : ∃ Av' cv', Ending.returned (.agg #[.int .i64 (s.num : Int), .int .i64 (s.off : Int), .slice Av rest.length cv]) = Ending.returned (.agg #[.int .i64 (s.num : Int), .int .i64 (s.off : Int), .slice Av' (s.st.held ++ rest).length cv']) ∧ Kd.R (Kd.int .u8) 5 W5 w.heap.size (fun k => w.heap.size ≤ k ∧ ∀ ad, A = some ad → ad.block ≠ k) (.slice Av' (s.st.held ++ rest).length cv') (s.st.held ++ rest) ∧ StrAt W5 B gs gw M A (lineS s rest) ∧ Kept w W5 (Foot gs gw M A) ∧ Below B w W5 := by
  have hlt := h.lt
  have hsn : ((lineS s rest).num : Int) = (s.num : Int) + 1 := by simp [lineS]
  have hso : ((lineS s rest).off : Int) = (s.off : Int) + ((rest.length : Int) + 1) := by simp [lineS, h0]
  have hst : (lineS s rest).st = s.st := by simp [lineS, h0]
  have hal := Win.alt h.win
  rw [h0, List.nil_append]
  refine ⟨Av, cv, rfl, ?_, ⟨?_, ?_, h.ne, h.low⟩, ?_, ?_⟩
  · refine Kd.R_mono (Kd.R_kept g3 kk (fun k hk e => by omega)) (fun k hk => ⟨by omega, fun ad e => by have := hal ad e; omega⟩)
  · rw [hsn, hso]
    exact k2
  · rw [hst]
    refine g2.win.kept kk (fun e => ?_) (fun k hk e => ?_) (fun ad hA e => ?_)
    · have := h.ne.1; omega
    · rcases e with e | e
      · exact h.ne.2.1 (by rw [hk, e])
      · obtain ⟨buf, h1, _, _⟩ := h.win
        have := h1.met.lt k hk
        omega
    · have := hal ad hA
      have := h.ne.2.2 ad hA
      omega
  · exact Kept.then_ (S2 := fun k => k = gs ∨ k = w.heap.size) (Kept.of_below g4 _) kk (fun k hk => hk.elim (fun e => Or.inl (Or.inl e)) (fun e => Or.inr (by omega)))
  · exact Below.trans (g4.mono hB) hb
set_option maxHeartbeats 16000000 in
set_option maxRecDepth 100000 in
theorem line_empty {w : World} {B gs gw : Nat} {M : Option Nat} {A : Option Addr} {s : SS} (h : StrAt w B gs gw M A s) (hs : Sml s) (Ab : Option Addr) (cb n : Nat) (rest : List Int) (hsrc : Kd.C (Kd.int .u8) w Ab rest.length rest) (hn : n = rest.length) (hcb : rest.length ≤ cb) (hl : rest.length ≤ 1000000) (h0 : s.st.held = []) (hB : B ≤ w.heap.size) :
    Calls Try.prog 27 #[.pointer (some ⟨gs, 0, none⟩), .slice Ab n cb] w fun e w' => ∃ Av cv, e = .returned (.agg #[.int .i64 (s.num : Int), .int .i64 (s.off : Int), .slice Av (s.st.held ++ rest).length cv]) ∧ Kd.R (Kd.int .u8) 5 w' w.heap.size (fun k => w.heap.size ≤ k ∧ ∀ ad, A = some ad → ad.block ≠ k) (.slice Av (s.st.held ++ rest).length cv) (s.st.held ++ rest) ∧ StrAt w' B gs gw M A (lineS s rest) ∧ Kept w w' (Foot gs gw M A) ∧ Below B w w' := by
  have HS := Aside0.mk h
  have HM := Aside0.mk hs
  have HR := Aside0.mk hsrc
  have HCB := Aside0.mk hcb
  have HL := Aside0.mk hl
  have H0 := Aside0.mk h0
  have HBW := Aside0.mk hB
  have HN := Aside0.mk hn
  have k3 : w.cell? ⟨gs, 3, none⟩ = some (.int .i64 (s.num : Int)) := (blk_cell h.box 3).trans rfl
  have k4 : w.cell? ⟨gs, 4, none⟩ = some (.int .i64 (s.off : Int)) := (blk_cell h.box 4).trans rfl
  have hlt := blk_lt h.box
  have hz := zeroLine
  have hu := Try.underlying70
  have hul := Try.underlying47
  clear h hs hsrc hcb hl h0 hB hn
  go_enter Try.func27, Try.ntmps27
  go_wp2_with fail
  obtain ⟨w1, hw1⟩ : ∃ w1, w1 = w.alloc (.cells #[.int .i64 0, .int .i64 0, .slice none 0 0] 47) := ⟨_, rfl⟩
  have HB1 := Aside0.mk (show Below w.heap.size w w1 by rw [hw1]; exact below_alloc (Below.refl _ _) _)
  have HL1 := Aside0.mk (show w1.heap[w.heap.size]? = some (.cells #[.int .i64 0, .int .i64 0, .slice none 0 0] 47 (0, 0)) by rw [hw1]; exact blk_new _ _)
  rw [← hw1]
  have HS1 := Aside0.mk (HS.out.below HB1.out)
  have p3 : w1.cell? ⟨gs, 3, none⟩ = some (.int .i64 (s.num : Int)) := (blk_cell HS1.out.box 3).trans rfl
  have p4 : w1.cell? ⟨gs, 4, none⟩ = some (.int .i64 (s.off : Int)) := (blk_cell HS1.out.box 4).trans rfl
  have hlt1 := blk_lt HS1.out.box
  have hne1 : ¬ gs = w1.heap.size := by omega
  have hne2 : ¬ w1.heap.size = gs := by omega
  clear hw1 k3 k4 hlt hlt1
  go_region_held3 (fun w' => w'.cell? ⟨gs, 3, none⟩ = some (.int .i64 (s.num : Int)) ∧ w'.cell? ⟨gs, 4, none⟩ = some (.int .i64 (s.off : Int)))
    (first | exact ⟨p3, p4⟩ | go_keep)
    ((first
      | (go_at_call 34; (with_reducible refine (Met.clone_calls Ab cb rest n w1.drew (Kd.C_below HR.out (below_step HB1.out (below_drew (Below.refl w1.heap.size w1)))) HCB.out HN.out (by have := HL.out; omega)).mono ?_); rintro e w2 ⟨v, rfl, hr, hb⟩; obtain ⟨Av, cv, hv⟩ := Kd.R_slice hr; subst hv; have HR2 := Aside0.mk hr; have HBB := Aside0.mk (below_step (below_drew (Below.refl w1.heap.size w1)) hb); have HS2 := Aside0.mk (HS1.out.below HBB.out); have HL2 := Aside0.mk (blk_below HL1.out HBB.out); clear p3 p4 hr hb; have p3 := (blk_cell HS2.out.box 3).trans (show _ = some (Value.int .i64 (s.num : Int)) from rfl); have p4 := (blk_cell HS2.out.box 4).trans (show _ = some (Value.int .i64 (s.off : Int)) from rfl))
      | (go_at_call 34; (with_reducible refine (Met.clone_calls Ab cb rest n (w1.alloc (.cells #[.int .i64 0, .int .i64 0, .slice none 0 0] 47)).drew (Kd.C_below HR.out (below_step HB1.out (below_drew (below_alloc (Below.refl w1.heap.size w1) (.cells #[.int .i64 0, .int .i64 0, .slice none 0 0] 47))))) HCB.out HN.out (by have := HL.out; omega)).mono ?_); rintro e w2 ⟨v, rfl, hr, hb⟩; obtain ⟨Av, cv, hv⟩ := Kd.R_slice hr; subst hv; have HR2 := Aside0.mk hr; have HBB := Aside0.mk (below_step (below_drew (below_alloc (Below.refl w1.heap.size w1) (.cells #[.int .i64 0, .int .i64 0, .slice none 0 0] 47))) hb); have HS2 := Aside0.mk (HS1.out.below HBB.out); have HL2 := Aside0.mk (blk_below HL1.out HBB.out); have HG2 := Aside0.mk (blk_below (blk_below (blk_new w1 (.cells #[.int .i64 0, .int .i64 0, .slice none 0 0] 47)) (below_drew (Below.refl _ _))) hb); have g0 := (blk_cell HG2.out 0).trans (show _ = some (Value.int .i64 0) from rfl); have g1 := (blk_cell HG2.out 1).trans (show _ = some (Value.int .i64 0) from rfl); have g2 := (blk_cell HG2.out 2).trans (show _ = some (Value.slice none 0 0) from rfl); have gf0 := blk_frozen HG2.out 0; have gf1 := blk_frozen HG2.out 1; have gf2 := blk_frozen HG2.out 2; clear p3 p4 hr hb; have p3 := (blk_cell HS2.out.box 3).trans (show _ = some (Value.int .i64 (s.num : Int)) from rfl); have p4 := (blk_cell HS2.out.box 4).trans (show _ = some (Value.int .i64 (s.off : Int)) from rfl))))
  · have F1 := Aside0.mk (blk_new w2 (.cells #[.int .i64 (s.num : Int), .int .i64 (s.off : Int), .slice Av rest.length cv] 47))
    have F4 := Aside0.mk (below_alloc (below_step HB1.out HBB.out) (.cells #[.int .i64 (s.num : Int), .int .i64 (s.off : Int), .slice Av rest.length cv] 47))
    have F2 := Aside0.mk (HS2.out.below (below_alloc (Below.refl w2.heap.size w2) (.cells #[.int .i64 (s.num : Int), .int .i64 (s.off : Int), .slice Av rest.length cv] 47)))
    have F5 := Aside0.mk (show w.heap.size < w2.heap.size from blk_lt HL2.out)
    have F3 := Aside0.mk (Kd.R_lower (base' := w.heap.size) (Kd.R_mono (ok' := fun k => w.heap.size < k ∧ k ≠ w2.heap.size) (Kd.R_alloc (Kd.R_bound HR2.out) (.cells #[.int .i64 (s.num : Int), .int .i64 (s.off : Int), .slice Av rest.length cv] 47)) (fun k hk => by have := hk.2.1; have := hk.2.2.1; have : w1.drew.heap.size = w1.heap.size := rfl; have := blk_lt HL1.out; omega)) (by have : w1.drew.heap.size = w1.heap.size := rfl; have := HB1.out.size; omega))
    have F6 := Aside0.mk (blk_alloc HL2.out (.cells #[.int .i64 (s.num : Int), .int .i64 (s.off : Int), .slice Av rest.length cv] 47))
    clear HR2 HS2 HL2 HBB p3 p4 hne1 hne2
    generalize w2.alloc (.cells #[.int .i64 (s.num : Int), .int .i64 (s.off : Int), .slice Av rest.length cv] 47) = W at F1 F2 F3 F4 F6 ⊢
    generalize w2.heap.size = gl at F1 F3 F5 ⊢
    have k1 : W.cell? ⟨gs, 1, none⟩ = some (.pointer (some ⟨gw, 0, none⟩)) := (blk_cell F2.out.box 1).trans rfl
    have e0 : (s.st.held.length : Int) = 0 := by rw [H0.out]; rfl
    go_wp2_with fail
    refine (win_len F2.out.win).mono ?_
    rintro e W2 ⟨rfl, hb⟩
    rw [e0]
    have G1 := Aside0.mk (blk_below F1.out hb)
    have G2 := Aside0.mk (F2.out.below hb)
    have G3 := Aside0.mk (Kd.R_below F3.out hb)
    have G4 := Aside0.mk (below_step F4.out hb)
    have G6 := Aside0.mk (blk_below F6.out hb)
    clear k1 e0 hb F1 F2 F3 F4 F6
    have k3 : W2.cell? ⟨gs, 3, none⟩ = some (.int .i64 (s.num : Int)) := (blk_cell G2.out.box 3).trans rfl
    have f3 := blk_frozen G2.out.box 3
    have hn0 : 0 ≤ (s.num : Int) := by omega
    have hn1 : (s.num : Int) ≤ 1000000000 := by have := HM.out.num; omega
    go_wp2_with fail
    have hgl : gl ≠ gs := fun e => by have h1 := G1.out; have h2 := G2.out.box; rw [e, h2] at h1; cases h1
    have hgr : w.heap.size ≠ gs := by have := blk_lt HS.out.box; omega
    have I1 := Aside0.mk (blk_far G1.out (p := ⟨gs, 3, none⟩) hgl (.int .i64 ((s.num : Int) + 1)))
    have I2 := Aside0.mk (blk_set G2.out.box 3 (.int .i64 ((s.num : Int) + 1)))
    have I6 := Aside0.mk (blk_far G6.out (p := ⟨gs, 3, none⟩) hgr (.int .i64 ((s.num : Int) + 1)))
    have HGL := Aside0.mk hgl
    have HGR := Aside0.mk hgr
    have IK := Aside0.mk (Kept.setCell (S := fun k => k = gs) (p := ⟨gs, 3, none⟩) (Kept.refl W2 _) (Or.inl rfl) (.int .i64 ((s.num : Int) + 1)))
    have IB := Aside0.mk (Below.setCell (p := ⟨gs, 3, none⟩) (Below.refl B W2) HS.out.low.1 (.int .i64 ((s.num : Int) + 1)))
    clear k3 f3 hn0 hn1 hgl hgr
    generalize W2.setCell ⟨gs, 3, none⟩ (.int .i64 ((s.num : Int) + 1)) = W3 at I1 I2 I6 IK IB ⊢
    have k4 : W3.cell? ⟨gs, 4, none⟩ = some (.int .i64 (s.off : Int)) := (blk_cell I2.out 4).trans rfl
    have f4 := blk_frozen I2.out 4
    have kl : W3.cell? ⟨gl, 2, none⟩ = some (.slice Av rest.length cv) := (blk_cell I1.out 2).trans rfl
    have w1' : IntKind.i64.wrap ((rest.length : Int) + 1) = (rest.length : Int) + 1 := IntWalk.i64_in _ (by have := HL.out; omega)
    have w2' : IntKind.i64.wrap ((s.off : Int) + ((rest.length : Int) + 1)) = (s.off : Int) + ((rest.length : Int) + 1) := IntWalk.i64_in _ (by have := HL.out; have := HM.out.off; omega)
    have w3' : wrap64 ((rest.length : Int) + 1) = (rest.length : Int) + 1 := wr9 (by omega) (by have := HL.out; omega)
    have w4' : wrap64 ((s.off : Int) + ((rest.length : Int) + 1)) = (s.off : Int) + ((rest.length : Int) + 1) := wr9 (by omega) (by have := HL.out; have := HM.out.off; omega)
    go_region
    have J1 := Aside0.mk (show ((W3.setCell ⟨gs, 4, none⟩ (.int .i64 ((s.off : Int) + ((rest.length : Int) + 1)))).drew).heap[gl]? = some (.cells #[.int .i64 (s.num : Int), .int .i64 (s.off : Int), .slice Av rest.length cv] 47 (0, 0)) from blk_far I1.out (p := ⟨gs, 4, none⟩) HGL.out _)
    have J2 := Aside0.mk (show ((W3.setCell ⟨gs, 4, none⟩ (.int .i64 ((s.off : Int) + ((rest.length : Int) + 1)))).drew).heap[gs]? = some (.cells #[.pointer (mp M), .pointer (some ⟨gw, 0, none⟩), .int .i64 s.most, .int .i64 ((s.num : Int) + 1), .int .i64 ((s.off : Int) + ((rest.length : Int) + 1)), .bool s.over, .int .i64 s.bad] 70 (0, 0)) from blk_set I2.out 4 _)
    have J6 := Aside0.mk (show ((W3.setCell ⟨gs, 4, none⟩ (.int .i64 ((s.off : Int) + ((rest.length : Int) + 1)))).drew).heap[w.heap.size]? = some (.cells #[.int .i64 0, .int .i64 0, .slice none 0 0] 47 (0, 0)) from blk_far I6.out (p := ⟨gs, 4, none⟩) HGR.out _)
    have JK := Aside0.mk (show Kept W2 (W3.setCell ⟨gs, 4, none⟩ (.int .i64 ((s.off : Int) + ((rest.length : Int) + 1)))).drew (fun k => k = gs) from Kept.setCell (S := fun k => k = gs) (p := ⟨gs, 4, none⟩) IK.out (Or.inl rfl) _)
    have JB := Aside0.mk (show Below B W2 (W3.setCell ⟨gs, 4, none⟩ (.int .i64 ((s.off : Int) + ((rest.length : Int) + 1)))).drew from below_drew (Below.setCell (p := ⟨gs, 4, none⟩) IB.out HS.out.low.1 _))
    clear I1 I2 I6 IK IB k4 f4 kl w1' w2' w3' w4'
    generalize (W3.setCell ⟨gs, 4, none⟩ (.int .i64 ((s.off : Int) + ((rest.length : Int) + 1)))).drew = W4 at J1 J2 J6 JK JB ⊢
    have l0 : W4.cell? ⟨gl, 0, none⟩ = some (.int .i64 (s.num : Int)) := (blk_cell J1.out 0).trans rfl
    have l1 : W4.cell? ⟨gl, 1, none⟩ = some (.int .i64 (s.off : Int)) := (blk_cell J1.out 1).trans rfl
    have l2 : W4.cell? ⟨gl, 2, none⟩ = some (.slice Av rest.length cv) := (blk_cell J1.out 2).trans rfl
    have r0 : W4.cell? ⟨w.heap.size, 0, none⟩ = some (.int .i64 0) := (blk_cell J6.out 0).trans rfl
    have r1 : W4.cell? ⟨w.heap.size, 1, none⟩ = some (.int .i64 0) := (blk_cell J6.out 1).trans rfl
    have r2 : W4.cell? ⟨w.heap.size, 2, none⟩ = some (.slice none 0 0) := (blk_cell J6.out 2).trans rfl
    have q0 := blk_frozen J6.out 0
    have q1 := blk_frozen J6.out 1
    have q2 := blk_frozen J6.out 2
    have HI := Aside0.mk (show (Try.prog.info? 47).map (·.size) = some 3 by kernel_rfl)
    go_wp2
    have K6 := Aside0.mk (blk_set (blk_set (blk_set J6.out 0 (.int .i64 (s.num : Int))) 1 (.int .i64 (s.off : Int))) 2 (.slice Av rest.length cv))
    have K2 := Aside0.mk (blk_far (blk_far (blk_far J2.out (p := ⟨w.heap.size, 0, none⟩) HGR.out.symm (.int .i64 (s.num : Int))) (p := ⟨w.heap.size, 1, none⟩) HGR.out.symm (.int .i64 (s.off : Int))) (p := ⟨w.heap.size, 2, none⟩) HGR.out.symm (.slice Av rest.length cv))
    have KK := Aside0.mk (Kept.setCell (p := ⟨w.heap.size, 2, none⟩) (Kept.setCell (p := ⟨w.heap.size, 1, none⟩) (Kept.setCell (p := ⟨w.heap.size, 0, none⟩) (Kept.mono JK.out (S' := fun k => k = gs ∨ k = w.heap.size) (fun k hk => Or.inl hk)) (Or.inl (Or.inr rfl)) (.int .i64 (s.num : Int))) (Or.inl (Or.inr rfl)) (.int .i64 (s.off : Int))) (Or.inl (Or.inr rfl)) (.slice Av rest.length cv))
    have KB := Aside0.mk (Below.setCell (p := ⟨w.heap.size, 2, none⟩) (Below.setCell (p := ⟨w.heap.size, 1, none⟩) (Below.setCell (p := ⟨w.heap.size, 0, none⟩) JB.out HBW.out (.int .i64 (s.num : Int))) HBW.out (.int .i64 (s.off : Int))) HBW.out (.slice Av rest.length cv))
    clear l0 l1 l2 r0 r1 r2 q0 q1 q2 J1 J2 J6 JK JB
    generalize ((W4.setCell ⟨w.heap.size, 0, none⟩ (.int .i64 (s.num : Int))).setCell ⟨w.heap.size, 1, none⟩ (.int .i64 (s.off : Int))).setCell ⟨w.heap.size, 2, none⟩ (.slice Av rest.length cv) = W5 at K6 K2 KK KB ⊢
    refine bodyPost_ret (results_single rfl (Vals.cell w.heap.size 47 #[.int .i64 (s.num : Int), .int .i64 (s.off : Int), .slice Av rest.length cv] (0, 0) _ rfl K6.out Try.underlying47 rfl HI.out Vals.nil)) rfl ?_
    exact line_post HS.out H0.out HBW.out G2.out G3.out G4.out K2.out KK.out KB.out
  · have F1 := Aside0.mk (blk_set (blk_set (blk_set HG2.out 0 (.int .i64 (s.num : Int))) 1 (.int .i64 (s.off : Int))) 2 (.slice Av rest.length cv))
    have hkk : Kept w2 (((w2.setCell ⟨w1.heap.size, 0, none⟩ (.int .i64 (s.num : Int))).setCell ⟨w1.heap.size, 1, none⟩ (.int .i64 (s.off : Int))).setCell ⟨w1.heap.size, 2, none⟩ (.slice Av rest.length cv)) (fun k => k = w1.heap.size) := Kept.setCell (S := fun k => k = w1.heap.size) (p := ⟨w1.heap.size, 2, none⟩) (Kept.setCell (S := fun k => k = w1.heap.size) (p := ⟨w1.heap.size, 1, none⟩) (Kept.setCell (S := fun k => k = w1.heap.size) (p := ⟨w1.heap.size, 0, none⟩) (Kept.refl _ _) (Or.inl rfl) _) (Or.inl rfl) _) (Or.inl rfl) _
    have hfs : ∀ k, Foot gs gw M A k → k < w1.heap.size := fun k hk => by
      rcases hk with rfl | rfl | hk | ⟨ad, e, rfl⟩
      · exact blk_lt HS1.out.box
      · exact HS1.out.win.lt
      · obtain ⟨buf, h1, _, _⟩ := HS1.out.win
        exact h1.met.lt k hk
      · exact Win.alt HS1.out.win ad e
    have F2 := Aside0.mk (HS2.out.kept hkk (fun k hk e => by have := hfs k hk; omega))
    have F4 := Aside0.mk (show Below w.heap.size w (((w2.setCell ⟨w1.heap.size, 0, none⟩ (.int .i64 (s.num : Int))).setCell ⟨w1.heap.size, 1, none⟩ (.int .i64 (s.off : Int))).setCell ⟨w1.heap.size, 2, none⟩ (.slice Av rest.length cv)) from Below.setCell (p := ⟨w1.heap.size, 2, none⟩) (Below.setCell (p := ⟨w1.heap.size, 1, none⟩) (Below.setCell (p := ⟨w1.heap.size, 0, none⟩) (below_step HB1.out HBB.out) HB1.out.size _) HB1.out.size _) HB1.out.size _)
    have F5 := Aside0.mk (show w.heap.size < w1.heap.size from blk_lt HL1.out)
    have hsz : ((w1.alloc (.cells #[.int .i64 0, .int .i64 0, .slice none 0 0] 47)).drew).heap.size = w1.heap.size + 1 := by rw [World.size_drew, World.size_alloc]
    have F3 := Aside0.mk (Kd.R_lower (base' := w.heap.size) (Kd.R_mono (ok' := fun k => w.heap.size < k ∧ k ≠ w1.heap.size) (Kd.R_kept (Kd.R_bound HR2.out) hkk (fun k hk e => by have := hk.2.1; omega)) (fun k hk => by have := hk.2.1; have := blk_lt HL1.out; omega)) (by have := HB1.out.size; omega))
    have F6 := Aside0.mk (blk_kept HL2.out hkk (by have := F5.out; omega))
    clear HR2 HS2 HL2 HBB HG2 g0 g1 g2 gf0 gf1 gf2 p3 p4 hne1 hne2 hkk hfs hsz
    generalize (((w2.setCell ⟨w1.heap.size, 0, none⟩ (.int .i64 (s.num : Int))).setCell ⟨w1.heap.size, 1, none⟩ (.int .i64 (s.off : Int))).setCell ⟨w1.heap.size, 2, none⟩ (.slice Av rest.length cv)) = W at F1 F2 F3 F4 F6 ⊢
    generalize w1.heap.size = gl at F1 F3 F5 ⊢
    have k1 : W.cell? ⟨gs, 1, none⟩ = some (.pointer (some ⟨gw, 0, none⟩)) := (blk_cell F2.out.box 1).trans rfl
    have e0 : (s.st.held.length : Int) = 0 := by rw [H0.out]; rfl
    go_wp2_with fail
    refine (win_len F2.out.win).mono ?_
    rintro e W2 ⟨rfl, hb⟩
    rw [e0]
    have G1 := Aside0.mk (blk_below F1.out hb)
    have G2 := Aside0.mk (F2.out.below hb)
    have G3 := Aside0.mk (Kd.R_below F3.out hb)
    have G4 := Aside0.mk (below_step F4.out hb)
    have G6 := Aside0.mk (blk_below F6.out hb)
    clear k1 e0 hb F1 F2 F3 F4 F6
    have k3 : W2.cell? ⟨gs, 3, none⟩ = some (.int .i64 (s.num : Int)) := (blk_cell G2.out.box 3).trans rfl
    have f3 := blk_frozen G2.out.box 3
    have hn0 : 0 ≤ (s.num : Int) := by omega
    have hn1 : (s.num : Int) ≤ 1000000000 := by have := HM.out.num; omega
    go_wp2_with fail
    have hgl : gl ≠ gs := fun e => by have h1 := G1.out; have h2 := G2.out.box; rw [e, h2] at h1; cases h1
    have hgr : w.heap.size ≠ gs := by have := blk_lt HS.out.box; omega
    have I1 := Aside0.mk (blk_far G1.out (p := ⟨gs, 3, none⟩) hgl (.int .i64 ((s.num : Int) + 1)))
    have I2 := Aside0.mk (blk_set G2.out.box 3 (.int .i64 ((s.num : Int) + 1)))
    have I6 := Aside0.mk (blk_far G6.out (p := ⟨gs, 3, none⟩) hgr (.int .i64 ((s.num : Int) + 1)))
    have HGL := Aside0.mk hgl
    have HGR := Aside0.mk hgr
    have IK := Aside0.mk (Kept.setCell (S := fun k => k = gs) (p := ⟨gs, 3, none⟩) (Kept.refl W2 _) (Or.inl rfl) (.int .i64 ((s.num : Int) + 1)))
    have IB := Aside0.mk (Below.setCell (p := ⟨gs, 3, none⟩) (Below.refl B W2) HS.out.low.1 (.int .i64 ((s.num : Int) + 1)))
    clear k3 f3 hn0 hn1 hgl hgr
    generalize W2.setCell ⟨gs, 3, none⟩ (.int .i64 ((s.num : Int) + 1)) = W3 at I1 I2 I6 IK IB ⊢
    have k4 : W3.cell? ⟨gs, 4, none⟩ = some (.int .i64 (s.off : Int)) := (blk_cell I2.out 4).trans rfl
    have f4 := blk_frozen I2.out 4
    have kl : W3.cell? ⟨gl, 2, none⟩ = some (.slice Av rest.length cv) := (blk_cell I1.out 2).trans rfl
    have w1' : IntKind.i64.wrap ((rest.length : Int) + 1) = (rest.length : Int) + 1 := IntWalk.i64_in _ (by have := HL.out; omega)
    have w2' : IntKind.i64.wrap ((s.off : Int) + ((rest.length : Int) + 1)) = (s.off : Int) + ((rest.length : Int) + 1) := IntWalk.i64_in _ (by have := HL.out; have := HM.out.off; omega)
    have w3' : wrap64 ((rest.length : Int) + 1) = (rest.length : Int) + 1 := wr9 (by omega) (by have := HL.out; omega)
    have w4' : wrap64 ((s.off : Int) + ((rest.length : Int) + 1)) = (s.off : Int) + ((rest.length : Int) + 1) := wr9 (by omega) (by have := HL.out; have := HM.out.off; omega)
    go_region
    have J1 := Aside0.mk (show ((W3.setCell ⟨gs, 4, none⟩ (.int .i64 ((s.off : Int) + ((rest.length : Int) + 1)))).drew).heap[gl]? = some (.cells #[.int .i64 (s.num : Int), .int .i64 (s.off : Int), .slice Av rest.length cv] 47 (0, 0)) from blk_far I1.out (p := ⟨gs, 4, none⟩) HGL.out _)
    have J2 := Aside0.mk (show ((W3.setCell ⟨gs, 4, none⟩ (.int .i64 ((s.off : Int) + ((rest.length : Int) + 1)))).drew).heap[gs]? = some (.cells #[.pointer (mp M), .pointer (some ⟨gw, 0, none⟩), .int .i64 s.most, .int .i64 ((s.num : Int) + 1), .int .i64 ((s.off : Int) + ((rest.length : Int) + 1)), .bool s.over, .int .i64 s.bad] 70 (0, 0)) from blk_set I2.out 4 _)
    have J6 := Aside0.mk (show ((W3.setCell ⟨gs, 4, none⟩ (.int .i64 ((s.off : Int) + ((rest.length : Int) + 1)))).drew).heap[w.heap.size]? = some (.cells #[.int .i64 0, .int .i64 0, .slice none 0 0] 47 (0, 0)) from blk_far I6.out (p := ⟨gs, 4, none⟩) HGR.out _)
    have JK := Aside0.mk (show Kept W2 (W3.setCell ⟨gs, 4, none⟩ (.int .i64 ((s.off : Int) + ((rest.length : Int) + 1)))).drew (fun k => k = gs) from Kept.setCell (S := fun k => k = gs) (p := ⟨gs, 4, none⟩) IK.out (Or.inl rfl) _)
    have JB := Aside0.mk (show Below B W2 (W3.setCell ⟨gs, 4, none⟩ (.int .i64 ((s.off : Int) + ((rest.length : Int) + 1)))).drew from below_drew (Below.setCell (p := ⟨gs, 4, none⟩) IB.out HS.out.low.1 _))
    clear I1 I2 I6 IK IB k4 f4 kl w1' w2' w3' w4'
    generalize (W3.setCell ⟨gs, 4, none⟩ (.int .i64 ((s.off : Int) + ((rest.length : Int) + 1)))).drew = W4 at J1 J2 J6 JK JB ⊢
    have l0 : W4.cell? ⟨gl, 0, none⟩ = some (.int .i64 (s.num : Int)) := (blk_cell J1.out 0).trans rfl
    have l1 : W4.cell? ⟨gl, 1, none⟩ = some (.int .i64 (s.off : Int)) := (blk_cell J1.out 1).trans rfl
    have l2 : W4.cell? ⟨gl, 2, none⟩ = some (.slice Av rest.length cv) := (blk_cell J1.out 2).trans rfl
    have r0 : W4.cell? ⟨w.heap.size, 0, none⟩ = some (.int .i64 0) := (blk_cell J6.out 0).trans rfl
    have r1 : W4.cell? ⟨w.heap.size, 1, none⟩ = some (.int .i64 0) := (blk_cell J6.out 1).trans rfl
    have r2 : W4.cell? ⟨w.heap.size, 2, none⟩ = some (.slice none 0 0) := (blk_cell J6.out 2).trans rfl
    have q0 := blk_frozen J6.out 0
    have q1 := blk_frozen J6.out 1
    have q2 := blk_frozen J6.out 2
    have HI := Aside0.mk (show (Try.prog.info? 47).map (·.size) = some 3 by kernel_rfl)
    go_wp2
    have K6 := Aside0.mk (blk_set (blk_set (blk_set J6.out 0 (.int .i64 (s.num : Int))) 1 (.int .i64 (s.off : Int))) 2 (.slice Av rest.length cv))
    have K2 := Aside0.mk (blk_far (blk_far (blk_far J2.out (p := ⟨w.heap.size, 0, none⟩) HGR.out.symm (.int .i64 (s.num : Int))) (p := ⟨w.heap.size, 1, none⟩) HGR.out.symm (.int .i64 (s.off : Int))) (p := ⟨w.heap.size, 2, none⟩) HGR.out.symm (.slice Av rest.length cv))
    have KK := Aside0.mk (Kept.setCell (p := ⟨w.heap.size, 2, none⟩) (Kept.setCell (p := ⟨w.heap.size, 1, none⟩) (Kept.setCell (p := ⟨w.heap.size, 0, none⟩) (Kept.mono JK.out (S' := fun k => k = gs ∨ k = w.heap.size) (fun k hk => Or.inl hk)) (Or.inl (Or.inr rfl)) (.int .i64 (s.num : Int))) (Or.inl (Or.inr rfl)) (.int .i64 (s.off : Int))) (Or.inl (Or.inr rfl)) (.slice Av rest.length cv))
    have KB := Aside0.mk (Below.setCell (p := ⟨w.heap.size, 2, none⟩) (Below.setCell (p := ⟨w.heap.size, 1, none⟩) (Below.setCell (p := ⟨w.heap.size, 0, none⟩) JB.out HBW.out (.int .i64 (s.num : Int))) HBW.out (.int .i64 (s.off : Int))) HBW.out (.slice Av rest.length cv))
    clear l0 l1 l2 r0 r1 r2 q0 q1 q2 J1 J2 J6 JK JB
    generalize ((W4.setCell ⟨w.heap.size, 0, none⟩ (.int .i64 (s.num : Int))).setCell ⟨w.heap.size, 1, none⟩ (.int .i64 (s.off : Int))).setCell ⟨w.heap.size, 2, none⟩ (.slice Av rest.length cv) = W5 at K6 K2 KK KB ⊢
    refine bodyPost_ret (results_single rfl (Vals.cell w.heap.size 47 #[.int .i64 (s.num : Int), .int .i64 (s.off : Int), .slice Av rest.length cv] (0, 0) _ rfl K6.out Try.underlying47 rfl HI.out Vals.nil)) rfl ?_
    exact line_post HS.out H0.out HBW.out G2.out G3.out G4.out K2.out KK.out KB.out
end Go.Proofs.Ytgiaabgmnjaefaa.Str
