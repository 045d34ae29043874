/- A window that grows: a greater row of its own with the bytes that it held; of any meter or none. -/
import Derived.Test.YtgiaabgmnjaefaaWinB
import Derived.Test.YtgiaabgmnjaefaaWMore
import Derived.Deep.RegionHeld3
import Derived.Deep.QuietTactic
import Derived.BigQuiet
import Derived.RowKit3
import Derived.WideLaws
import Derived.Deep.DeepCutAuto
import Derived.Deep.CutBlock
import Derived.RowKit
import Derived.OwnWalk
import Derived.Laws.MakeOwn
namespace Go.Proofs.Ytgiaabgmnjaefaa.Win
open Go Go.RowKit Go.Proofs Go.Proofs.Ytgiaabgmnjaefaa.Met Go.Proofs.YtgiaabgmnjaefaaW.PrintWords Go.Proofs.YtgiaabgmnjaefaaW.PrintMore
set_option linter.unusedVariables false
set_option linter.unusedSimpArgs false
attribute [local go_sem] max2_int min2_int max_two min_two max_three min_three
--BEGIN
/-- A window, as memory: where its meter is, its row, how many bytes it holds, and how many were moved. -/
structure WinAt (w : World) (g : Nat) (M : Option Nat) (a b c : Int) (A : Option Addr) (buf : List Int) (h mv : Nat) : Prop where
  win : w.heap[g]? = some (.cells #[.pointer (mp M), .slice A buf.length buf.length, .int .i64 (h : Int)] 83 (0, 0))
  le : h ≤ buf.length
  no : buf.length = 0 → A = none
  row : 0 < buf.length → ∃ gb, A = some ⟨gb, 0, none⟩ ∧ w.heap[gb]? = some (.cells (u8s buf) 5 (0, 0)) ∧ gb ≠ g ∧ M ≠ some gb
  ne : M ≠ some g
  met : MAt w M a b c (mv : Int)
theorem info5a : ∃ i, Try.prog.info? 5 = some i ∧ i.zero = some (.int .u8 0) ∧ i.size = 1 ∧ i.bytes = 1 := by
  have h : (Try.prog.info? 5).map (fun i => (i.zero, i.size, i.bytes)) = some (some (.int .u8 0), 1, 1) := by kernel_rfl
  obtain ⟨i, hi, he⟩ := Option.map_eq_some_iff.mp h
  simp only [Prod.mk.injEq] at he
  exact ⟨i, hi, he.1, he.2.1, he.2.2⟩
theorem made_u8 (n : Nat) : madeCells (Value.int .u8 0).cells n = u8s (List.replicate n 0) := by
  unfold madeCells u8s
  apply Array.ext
  · simp
  · intro i h1 h2
    simp [Value.cells, Nat.mod_one]
theorem make_u8 (W : World) (n : Nat) (hn : n ≤ 281474976710656) : (Instr.makeSlice 38 (.int .i64 (n : Int)) (.int .i64 (n : Int))).run Try.prog W = .ok (.slice (some ⟨W.heap.size, 0, none⟩) n n) (W.alloc (.cells (u8s (List.replicate n 0)) 5)) := by
  obtain ⟨i, hi, hz, hs, hb⟩ := info5a
  have h := run_make (P := Try.prog) W 38 5 i (.int .u8 0) Try.underlying38 hi hz .i64 .i64 (n : Int) (n : Int) (by omega) (by omega) (by rw [hb]; omega) (by omega)
  rw [h, Int.toNat_natCast, hs, Nat.mul_one, made_u8]
theorem cut_h (A : Option Addr) (n c h : Nat) (h1 : h ≤ n) (h2 : n ≤ c) (W : World) : (Instr.slice 38 (.slice A n c) none (some (.int .i64 (h : Int))) none).run Try.prog W = .ok (.slice A h c) W := by
  obtain ⟨i, hi, hz, hs, hb⟩ := info5a
  have := cut_to (P := Try.prog) 38 5 .i64 Try.underlying38 hi A n c (h : Int) (by omega) (by omega) h2 W
  rwa [Int.toNat_natCast] at this
theorem cut_l (A : Option Addr) (n c h : Nat) (h1 : h ≤ n) (W : World) : (Instr.slice 38 (.slice A n c) (some (.int .i64 (h : Int))) none none).run Try.prog W = .ok (.slice (if c = h then A else A.map (·.add h)) (n - h) (c - h)) W := by
  obtain ⟨i, hi, hz, hs, hb⟩ := info5a
  have := cut_from (P := Try.prog) 38 5 .i64 Try.underlying38 hi 1 hs A n c (h : Int) (by omega) (by omega) W
  rwa [Int.toNat_natCast, Nat.mul_one] at this
def roomN (n N : Nat) : Nat := max (max (2 * n) N) 16
theorem room_if (n N : Nat) : (if (if 2 * (n : Int) < (N : Int) then (N : Int) else 2 * (n : Int)) < 16 then (16 : Int) else (if 2 * (n : Int) < (N : Int) then (N : Int) else 2 * (n : Int))) = ((roomN n N : Nat) : Int) := by
  unfold roomN
  split <;> split <;> omega
set_option maxHeartbeats 8000000 in
set_option maxRecDepth 100000 in
theorem grow_calls (w : World) (g : Nat) (M : Option Nat) (a b c : Int) (A : Option Addr) (buf : List Int) (h mv N B : Nat) (hW : WinAt w g M a b c A buf h mv) (hB : B ≤ g) (hBM : ∀ k, M = some k → B ≤ k) (hl : buf.length ≤ 100000000000) (hN : N ≤ 100000000000) (hmv : mv + h ≤ 1000000000000) :
    Calls Try.prog 38 #[.pointer (some ⟨g, 0, none⟩), .int .i64 (N : Int)] w fun e w' => e = .returned (.tuple #[]) ∧ (∃ gb, w.heap.size ≤ gb ∧ WinAt w' g M a b c (some ⟨gb, 0, none⟩) (splice (List.replicate (roomN buf.length N) 0) 0 (buf.take h)) h (mv + h)) ∧ Kept w w' (fun k => k = g ∨ M = some k) ∧ Below B w w' := by
  have HW := Aside0.mk hW
  have k0 : w.cell? ⟨g, 0, none⟩ = some (.pointer (mp M)) := (blk_cell hW.win 0).trans rfl
  have k1 : w.cell? ⟨g, 1, none⟩ = some (.slice A buf.length buf.length) := (blk_cell hW.win 1).trans rfl
  have k2 : w.cell? ⟨g, 2, none⟩ = some (.int .i64 (h : Int)) := (blk_cell hW.win 2).trans rfl
  have hw1 : wrap64 (2 * (buf.length : Int)) = 2 * (buf.length : Int) := by unfold wrap64; omega
  have hri := room_if buf.length N
  have hrl : roomN buf.length N ≤ 281474976710656 := by unfold roomN; omega
  have hmk := fun W => make_u8 W (roomN buf.length N) hrl
  have hct := cut_h A buf.length buf.length h hW.le (Nat.le_refl _)
  have hu48 := Try.underlying83
  have HRL := Aside0.mk hrl
  have HRG := Aside0.mk (show buf.length ≤ roomN buf.length N by unfold roomN; omega)
  have HR16 := Aside0.mk (show 16 ≤ roomN buf.length N by unfold roomN; omega)
  generalize roomN buf.length N = R at hri hmk HRL HRG HR16 ⊢
  clear hW hrl
  go_enter Try.func38, Try.ntmps38
  go_wp2_with fail
  have HBK := Aside0.mk (blk_alloc HW.out.win (.cells (u8s (List.replicate R 0)) 5))
  have HNB := Aside0.mk (blk_new w (.cells (u8s (List.replicate R 0)) 5))
  have HMA := Aside0.mk (HW.out.met.below (below_alloc (Below.refl _ _) (.cells (u8s (List.replicate R 0)) 5)))
  have hglt : g < w.heap.size := blk_lt HW.out.win
  have HGL := Aside0.mk hglt
  have HKA := Aside0.mk (Kept.alloc (Kept.refl w (fun k => k = g ∨ M = some k)) (.cells (u8s (List.replicate R 0)) 5))
  have HBA := Aside0.mk (below_alloc (Below.refl w.heap.size w) (.cells (u8s (List.replicate R 0)) 5))
  have HSR := Aside0.mk (fun (hp : 0 < (buf.take h).length) => show ∃ ad, A = some ad ∧ ∀ j x, (buf.take h)[j]? = some x → (w.alloc (.cells (u8s (List.replicate R 0)) 5)).cell? (ad.add j) = some (.int .u8 x) by
    rw [List.length_take] at hp
    obtain ⟨gb, hA, hgb, _, _⟩ := HW.out.row (by omega)
    refine ⟨⟨gb, 0, none⟩, hA, fun j x hx => ?_⟩
    rw [List.getElem?_take] at hx
    split at hx
    · rw [Addr.add_mid, Nat.zero_add]
      refine (blk_cell (blk_alloc hgb _) j).trans ?_
      rw [u8s_get, hx]; rfl
    · cases hx)
  have HLT := Aside0.mk (show (buf.take h).length = Nat.min h R by rw [List.length_take]; have := HW.out.le; have := HRG.out; show min h buf.length = min h R; omega)
  have HMN := Aside0.mk (show M ≠ some w.heap.size from fun e => by have := blk_lt (HW.out.met _ e); omega)
  have HTL := Aside0.mk (show (buf.take h).length = h by rw [List.length_take]; have := HW.out.le; omega)
  have HMV := Aside0.mk hmv
  have HBG := Aside0.mk hB
  have HBM := Aside0.mk hBM
  have HNE := Aside0.mk HW.out.ne
  generalize hwa : w.alloc (.cells (u8s (List.replicate R 0)) 5) = wa at HBK HNB HMA HSR HKA HBA ⊢
  have p0 : wa.cell? ⟨g, 0, none⟩ = some (.pointer (mp M)) := (blk_cell HBK.out 0).trans rfl
  have p1 : wa.cell? ⟨g, 1, none⟩ = some (.slice A buf.length buf.length) := (blk_cell HBK.out 1).trans rfl
  have p2 : wa.cell? ⟨g, 2, none⟩ = some (.int .i64 (h : Int)) := (blk_cell HBK.out 2).trans rfl
  generalize hgn : w.heap.size = gn at HNB HGL HMN ⊢
  have HGN := Aside0.mk hgn
  clear k0 k1 k2 hwa hgn hglt hmv hB hBM hl hN hri hmk hw1
  go_region_held3 (fun w' => w'.cell? ⟨g, 0, none⟩ = some (.pointer (mp M)) ∧ w'.cell? ⟨g, 1, none⟩ = some (.slice A buf.length buf.length) ∧ w'.cell? ⟨g, 2, none⟩ = some (.int .i64 (h : Int)))
    (first | exact ⟨p0, p1, p2⟩ | go_keep)
    ((first
      | (go_at_call 39; refine (copy_calls M a b c mv gn 0 (List.replicate R 0) (buf.take h) (some ⟨gn, 0, none⟩) A R R h buf.length B wa.drew HMA.out HNB.out HLT.out (fun _ => rfl) HSR.out (by rw [List.length_replicate, HTL.out]; have := HW.out.le; have := HRG.out; omega) HMN.out (by have := HBG.out; have := HGL.out; omega) HBM.out (by rw [HTL.out]; exact HMV.out)).mono ?_; rintro e w3 ⟨rfl, hg3, hm3, hk3, hb3⟩; have HBK3 := Aside0.mk (blk_kept HBK.out hk3 (fun h => h.elim (fun e => by have := HGL.out; omega) (fun e => HNE.out e))); clear p0 p1 p2; have p0 := (blk_cell HBK3.out 0).trans (show _ = some (Value.pointer (mp M)) from rfl); have p1 := (blk_cell HBK3.out 1).trans (show _ = some (Value.slice A buf.length buf.length) from rfl); have p2 := (blk_cell HBK3.out 2).trans (show _ = some (Value.int .i64 (h : Int)) from rfl); have HG3 := Aside0.mk hg3; have HM3 := Aside0.mk hm3; have HK3 := Aside0.mk hk3; have HB3 := Aside0.mk hb3; clear hg3 hm3 hk3 hb3)))
  have f1 := blk_frozen HBK3.out 1
  go_wp2
  refine bodyPost_end (results_none rfl _ _ _) rfl ?_
  have hsl : (splice (List.replicate R 0) 0 (buf.take h)).length = R := by
    rw [length_splice _ _ _ (by rw [List.length_replicate, HTL.out]; have := HW.out.le; have := HRG.out; omega), List.length_replicate]
  have hgg : gn ≠ g := by have := HGL.out; omega
  refine ⟨rfl, ⟨gn, Nat.le_of_eq HGN.out, ⟨?_, ?_, ?_, ?_, HNE.out, ?_⟩⟩, ?_, ?_⟩
  · rw [hsl]
    exact blk_set HBK3.out 1 _
  · rw [hsl]; have := HW.out.le; have := HRG.out; omega
  · rw [hsl]; intro e; have := HR16.out; omega
  · exact fun _ => ⟨gn, rfl, blk_far HG3.out (p := ⟨g, 1, none⟩) hgg _, hgg, HMN.out⟩
  · have := HM3.out
    rw [HTL.out] at this
    exact this.far (p := ⟨g, 1, none⟩) HNE.out _
  · refine Kept.setCell (p := ⟨g, 1, none⟩) ?_ (Or.inl (Or.inl rfl)) _
    exact HKA.out.then_ (S2 := fun k => k = gn ∨ M = some k) HK3.out (fun k hk => hk.elim (fun e => Or.inr (by have := HGN.out; omega)) (fun e => Or.inl (Or.inr e)))
  · refine Below.setCell (p := ⟨g, 1, none⟩) ?_ HBG.out _
    exact Below.trans (HBA.out.mono (by have := HBG.out; have := HGL.out; have := HGN.out; omega)) (Below.trans (Below.drew (Below.refl B wa)) HB3.out)
end Go.Proofs.Ytgiaabgmnjaefaa.Win
