/- Copy, counted: what it does to the row, the meter, and that all else stays; of any meter or none. -/
import Derived.Test.YtgaoopcfjbcahaaWinA
import Derived.Deep.RegionHeld3
import Derived.Deep.QuietTactic
import Derived.BigQuiet
import Derived.RowKit3
import Derived.WideLaws
import Derived.Deep.DeepCutAuto
import Derived.Deep.CutBlock
import Derived.RowKit
import Derived.OwnWalk
import Derived.Laws.MakeOwn
namespace Go.Proofs.Ytgaoopcfjbcahaa.Win
open Go Go.RowKit Go.Proofs Go.Proofs.YtgaoopcfjbcahaaW.PrintWords
set_option linter.unusedVariables false
set_option linter.unusedSimpArgs false
set_option maxHeartbeats 4000000 in
set_option maxRecDepth 100000 in
/-- Copy, counted. -/
theorem copy_calls (M : Option Nat) (a b c : Int) (mv : Nat) (gb off : Nat) (buf cs : List Int) (dp sp : Option Addr) (dLen dCap sLen sCap B : Nat) (w : World)
    (hM : MAt w M a b c (mv : Int)) (hbuf : w.heap[gb]? = some (.cells (u8s buf) 5 (0, 0))) (hn : cs.length = Nat.min sLen dLen)
    (hpd : 0 < cs.length → dp = some ⟨gb, off, none⟩) (hps : 0 < cs.length → ∃ ad, sp = some ad ∧ ∀ j x, cs[j]? = some x → w.cell? (ad.add j) = some (.int .u8 x))
    (hfit : off + cs.length ≤ buf.length) (hne : M ≠ some gb) (hB : B ≤ gb) (hBM : ∀ k, M = some k → B ≤ k) (hmv : mv + cs.length ≤ 1000000000000) :
    Calls Try.prog 20 #[.pointer (mp M), .slice dp dLen dCap, .slice sp sLen sCap] w fun e w' => e = .returned (.int .i64 (cs.length : Int)) ∧ w'.heap[gb]? = some (.cells (u8s (splice buf off cs)) 5 (0, 0)) ∧ MAt w' M a b c ((mv + cs.length : Nat) : Int) ∧ Kept w w' (fun k => k = gb ∨ M = some k) ∧ Below B w w' := by
  have HBUF := Aside0.mk hbuf
  have HM := Aside0.mk hM
  have HPD := Aside0.mk hpd
  have HPS := Aside0.mk hps
  have HFIT := Aside0.mk hfit
  have HN := Aside0.mk hn
  have HNE := Aside0.mk hne
  have HBM := Aside0.mk hBM
  have HMV := Aside0.mk hmv
  have HB := Aside0.mk hB
  have HBW := Aside0.mk (show B ≤ w.heap.size by have := blk_lt hbuf; omega)
  clear hbuf hM hpd hps hfit hn hne hBM hmv hB
  have hu40 := Try.underlying40
  cases M with
  | none =>
    rw [mp_none]
    go_enter Try.func20, Try.ntmps20
    go_wp2_with ((with_reducible refine gate_dst (N := 10) rfl ?_); refine wpList_copy_kept rfl (.tmp 8) (.tmp 9) 31 31 rfl 5 Try.underlying31 info5s dp sp dLen dCap sLen sCap rfl rfl gb off buf cs 5 HBUF.out HN.out HPD.out HPS.out HFIT.out B w (Below.refl _ _) HB.out ?_; intro w2 hg2 hk2 hb2)
    have HG2 := Aside0.mk hg2
    have HK2 := Aside0.mk hk2
    have HB2 := Aside0.mk hb2
    clear hg2 hk2 hb2
    go_wp2_with fail
    refine (count_none _).mono ?_
    rintro e w3 ⟨g, rfl, hgs, hg3, hb3⟩
    have hw := wrap64 (0 + (cs.length : Int))
    have k0 : w3.cell? ⟨g, 3, none⟩ = some (.int .i64 0) := (blk_cell hg3 3).trans rfl
    have f0 := blk_frozen hg3 3
    have HG3 := Aside0.mk (blk_below HG2.out hb3)
    have HB3 := Aside0.mk (hb3)
    have HGS := Aside0.mk hgs
    clear hg3 hb3 hgs
    go_wp2
    go_ret
    refine ⟨rfl, ?_, (by intro k hk; cases hk), ?_, ?_⟩
    · exact blk_far HG3.out (p := ⟨g, 3, none⟩) (by have := blk_lt HG2.out; have := HGS.out; show gb ≠ g; omega) _
    · exact Kept.mono ((HK2.out.below HB3.out).setCell (S := fun k => k = gb) (Or.inr (by have := HK2.out.1; have := HGS.out; show w.heap.size ≤ g; omega)) _) (fun k hk => Or.inl hk)
    · exact Below.setCell (p := ⟨g, 3, none⟩) (below_then HB2.out (by have := HK2.out.1; have := HBW.out; omega) HB3.out) (by have := HK2.out.1; have := HGS.out; have := HBW.out; show B ≤ g; omega) _
  | some gm =>
    rw [mp_some]
    have HMM := Aside0.mk (HM.out gm rfl)
    have HNG := Aside0.mk (show gm ≠ gb from fun e => HNE.out (by rw [e]))
    have hw1 : wrap64 ((mv : Int) + (cs.length : Int)) = ((mv + cs.length : Nat) : Int) := by have := HMV.out; unfold wrap64; omega
    go_enter Try.func20, Try.ntmps20
    go_wp2_with ((with_reducible refine gate_dst (N := 10) rfl ?_); refine wpList_copy_kept rfl (.tmp 8) (.tmp 9) 31 31 rfl 5 Try.underlying31 info5s dp sp dLen dCap sLen sCap rfl rfl gb off buf cs 5 HBUF.out HN.out HPD.out HPS.out HFIT.out B w (Below.refl _ _) HB.out ?_; intro w2 hg2 hk2 hb2)
    have HM2 := Aside0.mk (blk_kept HMM.out hk2 HNG.out)
    have HG2 := Aside0.mk hg2
    have HK2 := Aside0.mk hk2
    have HB2 := Aside0.mk hb2
    clear hg2 hk2 hb2
    go_wp2_with fail
    refine (count_calls gm _).mono ?_
    rintro e w3 ⟨rfl, hb3⟩
    have HM3 := Aside0.mk (blk_below HM2.out hb3)
    have k0 : w3.cell? ⟨gm, 3, none⟩ = some (.int .i64 (mv : Int)) := (blk_cell HM3.out 3).trans rfl
    have f0 := blk_frozen HM3.out 3
    have HG3 := Aside0.mk (blk_below HG2.out hb3)
    have HB3 := Aside0.mk (hb3)
    clear hb3
    go_wp2
    go_ret
    refine ⟨rfl, ?_, ?_, ?_, ?_⟩
    · exact blk_far HG3.out (p := ⟨gm, 3, none⟩) (by show gb ≠ gm; exact fun e => HNG.out e.symm) _
    · intro k hk
      cases hk
      exact blk_set HM3.out 3 _
    · exact Kept.setCell (S := fun k => k = gb ∨ some gm = some k) (p := ⟨gm, 3, none⟩) (Kept.mono (HK2.out.below HB3.out) (fun k hk => Or.inl hk)) (Or.inl (Or.inr rfl)) _
    · exact Below.setCell (p := ⟨gm, 3, none⟩) (below_then HB2.out (by have := HK2.out.1; have := HBW.out; omega) HB3.out) (HBM.out gm rfl) _
end Go.Proofs.Ytgaoopcfjbcahaa.Win
