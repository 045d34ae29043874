/- Copy, counted, in a window's words. -/
import Derived.Test.YtgiaabgmnjaefaaMetB
namespace Go.Proofs.Ytgiaabgmnjaefaa.Win
open Go Go.RowKit Go.Proofs Go.Proofs.Ytgiaabgmnjaefaa.Met Go.Proofs.YtgiaabgmnjaefaaW.PrintWords
set_option linter.unusedVariables false
set_option linter.unusedSimpArgs false
theorem copy_calls (M : Option Nat) (a b c : Int) (mv : Nat) (gb off : Nat) (buf cs : List Int) (dp sp : Option Addr) (dLen dCap sLen sCap B : Nat) (w : World)
    (hM : MAt w M a b c (mv : Int)) (hbuf : w.heap[gb]? = some (.cells (u8s buf) 5 (0, 0))) (hn : cs.length = Nat.min sLen dLen)
    (hpd : 0 < cs.length → dp = some ⟨gb, off, none⟩) (hps : 0 < cs.length → ∃ ad, sp = some ad ∧ ∀ j x, cs[j]? = some x → w.cell? (ad.add j) = some (.int .u8 x))
    (hfit : off + cs.length ≤ buf.length) (hne : M ≠ some gb) (hB : B ≤ gb) (hBM : ∀ k, M = some k → B ≤ k) (hmv : mv + cs.length ≤ 1000000000000) :
    Calls Try.prog 39 #[.pointer (mp M), .slice dp dLen dCap, .slice sp sLen sCap] w fun e w' => e = .returned (.int .i64 (cs.length : Int)) ∧ w'.heap[gb]? = some (.cells (u8s (splice buf off cs)) 5 (0, 0)) ∧ MAt w' M a b c ((mv + cs.length : Nat) : Int) ∧ Kept w w' (fun k => k = gb ∨ M = some k) ∧ Below B w w' := by
  refine (copy_any M a b c (mv : Int) gb off buf cs dp sp dLen dCap sLen sCap B w hM hbuf hn hpd hps hfit hne hB hBM (by omega) (by omega)).mono ?_
  rintro e w' ⟨rfl, h1, h2, h3, h4⟩
  exact ⟨rfl, h1, by rw [Int.natCast_add]; exact h2, h3, h4⟩
end Go.Proofs.Ytgiaabgmnjaefaa.Win
