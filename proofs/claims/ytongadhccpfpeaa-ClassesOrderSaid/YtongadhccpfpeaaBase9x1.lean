/- Functions of the translation and what they come to: laid by a program of this session (xprint.py) beside contracts proved by hand. No condition. -/
import Derived.Test.YtongadhccpfpeaaBase9x0
namespace Go.Proofs.Ytongadhccpfpeaa.Base9
open Go.RowKit Go.Proofs.YtongadhccpfpeaaW.PrintWords Go.Proofs.YtongadhccpfpeaaW.PrintLast Go.Proofs.YtongadhccpfpeaaW.PrintMore
attribute [local go_sem] max2_int min2_int max_two min_two max_three min_three max_four min_four   -- for this text's walks alone
set_option linter.unusedVariables false
set_option linter.unusedSimpArgs false

theorem rd_n (l : List Int) (n : Nat) (h : n < l.length) : rd l (n : Int) = l[n] := by
  unfold rd; rw [Int.toNat_natCast, List.getD_eq_getElem?_getD, List.getElem?_eq_getElem h]; rfl
/-- a set of bytes: its four numbers -/
structure SS where
  a : Int
  b : Int
  c : Int
  d : Int
def SS.val (s : SS) : Value := .agg #[.int .u64 s.a, .int .u64 s.b, .int .u64 s.c, .int .u64 s.d]
def SS.cs (s : SS) : Array Value := #[.int .u64 s.a, .int .u64 s.b, .int .u64 s.c, .int .u64 s.d]
def SS.get (s : SS) (i : Int) : Int := if i = 0 then s.a else if i = 1 then s.b else if i = 2 then s.c else s.d
def SS.set (s : SS) (i v : Int) : SS := if i = 0 then { s with a := v } else if i = 1 then { s with b := v } else if i = 2 then { s with c := v } else { s with d := v }
def hasS (s : SS) (x : Int) : Bool := bits .and .u64 (s.get (x / 64) / 2 ^ (x % 64).toNat) 1 == 1
def withS (s : SS) (x : Int) : SS := s.set (x / 64) (bits .or .u64 (s.get (x / 64)) (IntKind.u64.wrap (2 ^ (x % 64).toNat)))
def unionS (s o : SS) : SS := ⟨bits .or .u64 s.a o.a, bits .or .u64 s.b o.b, bits .or .u64 s.c o.c, bits .or .u64 s.d o.d⟩
theorem info43s : (Try.prog.info? 43).map (·.size) = some 4 := by kernel_rfl
theorem ret_set {tmps : Array Value} {w : World} {p : Tmp} {g : Nat} (s : SS) {fn : Func} (hf : fn.results = #[.cell p 43]) (hp : tmps.getD p undef = .pointer (some ⟨g, 0, none⟩)) (hg : w.heap[g]? = some (.cells s.cs 43 (0, 0))) :
    (results fn tmps).run Try.prog w = .ok s.val w := results_single hf (Vals.cell g 43 s.cs (0, 0) _ hp hg Try.underlying43 rfl info43s Vals.nil)
theorem heap2 (w : World) (o1 o2 : Obj) : ((w.alloc o1).alloc o2).heap[w.heap.size + 1]? = some o2 := by
  have := blk_new (w.alloc o1) o2
  rwa [World.size_alloc] at this
def zeroS : SS := ⟨0, 0, 0, 0⟩
set_option maxHeartbeats 8000000 in
set_option maxRecDepth 100000 in
theorem has_calls (s : SS) (x : Int) (w : World) (h0 : 0 ≤ x) (h1 : x < 256) :
    Calls Try.prog 25 #[s.val, .int .u8 x] w fun e w' => e = .returned (.bool (hasS s x)) ∧ Below w.heap.size w w' := by
  obtain ⟨a, b, c, d⟩ := s
  have hu43 := Try.underlying43
  unfold hasS SS.val
  dsimp only
  have hq : x / 64 = 0 ∨ x / 64 = 1 ∨ x / 64 = 2 ∨ x / 64 = 3 := by omega
  rcases hq with hq | hq | hq | hq
  all_goals
    rw [hq]
    simp only [SS.get, if_true, Int.reduceEq, if_false]
    have HE : Aside0 (h0 = h0) := ⟨rfl⟩
    go_enter Try.func25, Try.ntmps25
    go_wp2
    go_ret
    exact ⟨rfl, by repeat (first | exact Below.refl _ _ | apply below_alloc)⟩
set_option maxHeartbeats 8000000 in
set_option maxRecDepth 100000 in
theorem with_calls (s : SS) (x : Int) (w : World) (h0 : 0 ≤ x) (h1 : x < 256) :
    Calls Try.prog 24 #[s.val, .int .u8 x] w fun e w' => e = .returned (withS s x).val ∧ Below w.heap.size w w' := by
  obtain ⟨a, b, c, d⟩ := s
  have hu43 := Try.underlying43
  unfold withS SS.val
  dsimp only
  have hq : x / 64 = 0 ∨ x / 64 = 1 ∨ x / 64 = 2 ∨ x / 64 = 3 := by omega
  rcases hq with hq | hq | hq | hq
  all_goals
    rw [hq]
    simp only [SS.get, SS.set, if_true, Int.reduceEq, if_false]
    go_enter Try.func24, Try.ntmps24
    go_wp2
    (try simp only [Exit.inBlock, Exit.then])
    refine bodyPost_ret (ret_set ⟨_, _, _, _⟩ rfl rfl (heap2 w _ _)) rfl ?_
    exact ⟨rfl, by repeat (first | exact Below.refl _ _ | apply below_alloc)⟩
/-- a set's four cells written -/
def put4 (w : World) (g : Nat) (s : SS) : World := (((w.setCell ⟨g, 0, none⟩ (.int .u64 s.a)).setCell ⟨g, 1, none⟩ (.int .u64 s.b)).setCell ⟨g, 2, none⟩ (.int .u64 s.c)).setCell ⟨g, 3, none⟩ (.int .u64 s.d)
theorem put4_at {w : World} {g : Nat} {s0 : SS} (h : w.heap[g]? = some (.cells s0.cs 43 (0, 0))) (s : SS) : (put4 w g s).heap[g]? = some (.cells s.cs 43 (0, 0)) := by
  have h1 := blk_set (blk_set (blk_set (blk_set h 0 (.int .u64 s.a)) 1 (.int .u64 s.b)) 2 (.int .u64 s.c)) 3 (.int .u64 s.d)
  exact h1
theorem put4_far {w : World} {g k : Nat} {o : Obj} (h : w.heap[k]? = some o) (hk : k ≠ g) (s : SS) : (put4 w g s).heap[k]? = some o := by
  unfold put4
  rw [Below.heap_setCell _ _ _ _ hk, Below.heap_setCell _ _ _ _ hk, Below.heap_setCell _ _ _ _ hk, Below.heap_setCell _ _ _ _ hk]
  exact h
theorem put4_below {w W : World} {g : Nat} (h : Below w.heap.size w W) (hg : w.heap.size ≤ g) (s : SS) : Below w.heap.size w (put4 W g s) :=
  below_set (below_set (below_set (below_set h hg) hg) hg) hg
def ofS (l : List Int) : SS := l.foldl withS zeroS
theorem of_succ (l : List Int) (n : Nat) (h : n < l.length) : ofS (l.take (n + 1)) = withS (ofS (l.take n)) l[n] := by
  rw [List.take_succ_eq_append_getElem h]; unfold ofS; rw [List.foldl_append]; rfl
set_option maxHeartbeats 8000000 in
set_option maxRecDepth 100000 in
theorem of_calls (A0 : Option Addr) (c0 : Nat) (l0 : List Int) (w : World) (hr0 : Kd.C (Kd.int .u8) w A0 l0.length l0) (hc0 : l0.length ≤ c0) (hb : ∀ x ∈ l0, 0 ≤ x ∧ x < 256) :
    Calls Try.prog 18 #[.slice A0 l0.length c0] w fun e w' => e = .returned (ofS l0).val ∧ Below w.heap.size w w' := by
  have HR0 := Aside0.mk hr0
  have HC0 := Aside0.mk hc0
  have HBY := Aside0.mk hb
  have HM := Aside0.mk (show l0.length ≤ 9223372036854775807 from hr0.2.1)
  have hu43 := Try.underlying43
  clear hr0 hc0 hb
  go_enter Try.func18, Try.ntmps18
  go_wp2
  go_loopw [8] (fun v8 wr => ∃ n : Nat, v8 = .int .i64 (n : Int) ∧ Aside0 (n ≤ l0.length) ∧ Aside0 (wr.heap[w.heap.size + 1]? = some (.cells (ofS (l0.take n)).cs 43 (0, 0))) ∧ Aside0 (wr.heap[w.heap.size]? = some (.cells zeroS.cs 43 (0, 0))) ∧ Aside0 (Below w.heap.size w wr)) (fun i _ => l0.length - (intOf i).toNat)
  case atStart => exact ⟨0, rfl, ⟨Nat.zero_le _⟩, ⟨heap2 w _ _⟩, ⟨blk_alloc (blk_new w _) _⟩, ⟨by repeat (first | exact Below.refl _ _ | apply below_alloc)⟩⟩
  case round =>
    obtain ⟨n, rfl, HL, HS, HO, HB⟩ := hrel
    by_cases hlt : n < l0.length
    · have c2b0 : decide ((n : Int) < (l0.length : Int)) = true := decide_eq_true (by omega)
      have p101 : 0 ≤ (n : Int) := by omega
      have q101 : (n : Int) < (l0.length : Int) := by omega
      have HRw := Aside0.mk (Kd.C_below HR0.out HB.out)
      obtain ⟨ad101, e101, hx101_0⟩ := Kd.at_int HRw.out (n : Int) p101 q101
      cases e101
      rw [Int.toNat_natCast] at hx101_0
      replace p101 := eq_true p101
      replace q101 := eq_true q101
      have hd := of_succ l0 n hlt
      have hx : 0 ≤ rd l0 (n : Int) ∧ rd l0 (n : Int) < 256 := by rw [rd_n l0 n hlt]; exact HBY.out _ (List.getElem_mem hlt)
      rw [← rd_n l0 n hlt] at hd
      have HW := Aside0.mk (show wrap64 ((n : Int) + 1) = ((n + 1 : Nat) : Int) by have := HM.out; unfold wrap64; omega)
      have HD := Aside0.mk hd
      have HL1 := Aside0.mk hlt
      have hc := Aside0.mk (fun w => with_calls (ofS (l0.take n)) (rd l0 (n : Int)) w hx.1 hx.2)
      clear hd hlt hx
      generalize ofS (l0.take n) = s at hc HD HS
      obtain ⟨s', hs'⟩ : ∃ s', s' = withS s (rd l0 (n : Int)) := ⟨_, rfl⟩
      rw [← hs'] at hc HD
      clear hs'
      generalize hxv : rd l0 (n : Int) = xv at hc hx101_0
      clear hxv
      obtain ⟨a, b, c, d⟩ := s
      obtain ⟨a', b', c', d'⟩ := s'
      have k0 : wr.cell? ⟨w.heap.size + 1, 0, none⟩ = some (.int .u64 a) := (blk_cell HS.out 0).trans rfl
      have k1 : wr.cell? ⟨w.heap.size + 1, 1, none⟩ = some (.int .u64 b) := (blk_cell HS.out 1).trans rfl
      have k2 : wr.cell? ⟨w.heap.size + 1, 2, none⟩ = some (.int .u64 c) := (blk_cell HS.out 2).trans rfl
      have k3 : wr.cell? ⟨w.heap.size + 1, 3, none⟩ = some (.int .u64 d) := (blk_cell HS.out 3).trans rfl
      go_wp2_with fail
      refine (hc.out _).mono ?_
      rintro e w3 ⟨rfl, hb3⟩
      have HS3 := Aside0.mk (show w3.heap[w.heap.size + 1]? = some (.cells (SS.cs ⟨a, b, c, d⟩) 43 (0, 0)) from blk_below HS.out hb3)
      have HO3 := Aside0.mk (show w3.heap[w.heap.size]? = some (.cells zeroS.cs 43 (0, 0)) from blk_below HO.out hb3)
      have HB3 := Aside0.mk (below_step HB.out hb3)
      clear k0 k1 k2 k3 hb3 hc hx101_0
      have k0 : w3.cell? ⟨w.heap.size + 1, 0, none⟩ = some (.int .u64 a) := (blk_cell HS3.out 0).trans rfl
      have k1 : w3.cell? ⟨w.heap.size + 1, 1, none⟩ = some (.int .u64 b) := (blk_cell HS3.out 1).trans rfl
      have k2 : w3.cell? ⟨w.heap.size + 1, 2, none⟩ = some (.int .u64 c) := (blk_cell HS3.out 2).trans rfl
      have k3 : w3.cell? ⟨w.heap.size + 1, 3, none⟩ = some (.int .u64 d) := (blk_cell HS3.out 3).trans rfl
      have f0 := blk_frozen HS3.out 0
      have f1 := blk_frozen HS3.out 1
      have f2 := blk_frozen HS3.out 2
      have f3 := blk_frozen HS3.out 3
      unfold SS.val
      dsimp only
      go_wp2
      go_roundw
      case rel => exact ⟨n + 1, by rw [HW.out], ⟨HL1.out⟩, ⟨by rw [HD.out]; exact put4_at HS3.out ⟨a', b', c', d'⟩⟩, ⟨put4_far HO3.out (by omega) ⟨a', b', c', d'⟩⟩, ⟨put4_below HB3.out (by omega) ⟨a', b', c', d'⟩⟩⟩
      case measure => have := HL1.out; rw [HW.out]; simp [intOf]; omega
    · have c2b0 : decide ((n : Int) < (l0.length : Int)) = false := decide_eq_false (by omega)
      have c2b1 : decide (n < l0.length) = false := decide_eq_false hlt
      rw [List.take_of_length_le (by omega)] at HS
      clear hlt
      obtain ⟨s, hs⟩ : ∃ s, s = ofS l0 := ⟨_, rfl⟩
      rw [← hs] at HS
      obtain ⟨a, b, c, d⟩ := s
      have HEQ := Aside0.mk hs
      clear hs
      have k0 : wr.cell? ⟨w.heap.size + 1, 0, none⟩ = some (.int .u64 a) := (blk_cell HS.out 0).trans rfl
      have k1 : wr.cell? ⟨w.heap.size + 1, 1, none⟩ = some (.int .u64 b) := (blk_cell HS.out 1).trans rfl
      have k2 : wr.cell? ⟨w.heap.size + 1, 2, none⟩ = some (.int .u64 c) := (blk_cell HS.out 2).trans rfl
      have k3 : wr.cell? ⟨w.heap.size + 1, 3, none⟩ = some (.int .u64 d) := (blk_cell HS.out 3).trans rfl
      have f0 := blk_frozen HO.out 0
      have f1 := blk_frozen HO.out 1
      have f2 := blk_frozen HO.out 2
      have f3 := blk_frozen HO.out 3
      have o0 : wr.cell? ⟨w.heap.size, 0, none⟩ = some (.int .u64 0) := (blk_cell HO.out 0).trans rfl
      have o1 : wr.cell? ⟨w.heap.size, 1, none⟩ = some (.int .u64 0) := (blk_cell HO.out 1).trans rfl
      have o2 : wr.cell? ⟨w.heap.size, 2, none⟩ = some (.int .u64 0) := (blk_cell HO.out 2).trans rfl
      have o3 : wr.cell? ⟨w.heap.size, 3, none⟩ = some (.int .u64 0) := (blk_cell HO.out 3).trans rfl
      go_wp2
      (try simp only [Exit.inBlock, Exit.then])
      refine bodyPost_ret (ret_set ⟨a, b, c, d⟩ rfl rfl (put4_at HO.out ⟨a, b, c, d⟩)) rfl ?_
      exact ⟨by rw [← HEQ.out], put4_below HB.out (Nat.le_refl _) ⟨a, b, c, d⟩⟩
theorem idx0 (a b c d : Int) (w : World) : (Instr.index 43 (.agg #[.int .u64 a, .int .u64 b, .int .u64 c, .int .u64 d]) (.int .i64 0)).run Try.prog w = .ok (.int .u64 a) w := by
  have hu43 := Try.underlying43
  have hu41 := Try.underlying41
  rw [Instr.index]
  go_simp
theorem idx1 (a b c d : Int) (w : World) : (Instr.index 43 (.agg #[.int .u64 a, .int .u64 b, .int .u64 c, .int .u64 d]) (.int .i64 1)).run Try.prog w = .ok (.int .u64 b) w := by
  have hu43 := Try.underlying43
  have hu41 := Try.underlying41
  rw [Instr.index]
  go_simp
theorem idx2 (a b c d : Int) (w : World) : (Instr.index 43 (.agg #[.int .u64 a, .int .u64 b, .int .u64 c, .int .u64 d]) (.int .i64 2)).run Try.prog w = .ok (.int .u64 c) w := by
  have hu43 := Try.underlying43
  have hu41 := Try.underlying41
  rw [Instr.index]
  go_simp
theorem idx3 (a b c d : Int) (w : World) : (Instr.index 43 (.agg #[.int .u64 a, .int .u64 b, .int .u64 c, .int .u64 d]) (.int .i64 3)).run Try.prog w = .ok (.int .u64 d) w := by
  have hu43 := Try.underlying43
  have hu41 := Try.underlying41
  rw [Instr.index]
  go_simp
/-- the first numbers of the union of two sets, the rest of the first one -/
def mixS (s o : SS) (n : Nat) : SS := ⟨if 0 < n then bits .or .u64 s.a o.a else s.a, if 1 < n then bits .or .u64 s.b o.b else s.b, if 2 < n then bits .or .u64 s.c o.c else s.c, if 3 < n then bits .or .u64 s.d o.d else s.d⟩
set_option maxHeartbeats 8000000 in
set_option maxRecDepth 100000 in
theorem union_calls (s o : SS) (w : World) :
    Calls Try.prog 17 #[s.val, o.val] w fun e w' => e = .returned (unionS s o).val ∧ Below w.heap.size w w' := by
  obtain ⟨a, b, c, d⟩ := s
  obtain ⟨a', b', c', d'⟩ := o
  have hu43 := Try.underlying43
  unfold SS.val
  dsimp only
  go_enter Try.func17, Try.ntmps17
  go_wp2
  go_loopw [8] (fun v8 wr => ∃ n : Nat, v8 = .int .i64 (n : Int) ∧ Aside0 (n ≤ 4) ∧ Aside0 (wr.heap[w.heap.size]? = some (.cells (mixS ⟨a, b, c, d⟩ ⟨a', b', c', d'⟩ n).cs 43 (0, 0))) ∧ Aside0 (wr.heap[w.heap.size + 1 + 1]? = some (.cells zeroS.cs 43 (0, 0))) ∧ Aside0 (Below w.heap.size w wr)) (fun i _ => 4 - (intOf i).toNat)
  case atStart => exact ⟨0, rfl, ⟨by omega⟩, ⟨blk_alloc (blk_alloc (blk_new w _) _) _⟩, ⟨by have := heap2 (w.alloc (.cells #[.int .u64 a, .int .u64 b, .int .u64 c, .int .u64 d] 43)) (.cells #[.int .u64 a', .int .u64 b', .int .u64 c', .int .u64 d'] 43) (.cells zeroS.cs 43); rwa [World.size_alloc] at this⟩, ⟨by repeat (first | exact Below.refl _ _ | apply below_alloc)⟩⟩
  case round =>
    obtain ⟨n, rfl, HL, HS, HO, HB⟩ := hrel
    have hc : n = 0 ∨ n = 1 ∨ n = 2 ∨ n = 3 ∨ n = 4 := by have := HL.out; omega
    rcases hc with rfl | rfl | rfl | rfl | rfl
    · have i0 := idx0 a' b' c' d'
      have HS2 := Aside0.mk (show wr.heap[w.heap.size]? = some (.cells #[(.int .u64 a), (.int .u64 b), (.int .u64 c), (.int .u64 d)] 43 (0, 0)) from HS.out)
      have k0 : wr.cell? ⟨w.heap.size, 0, none⟩ = some (.int .u64 a) := (blk_cell HS2.out 0).trans rfl
      have f0 := blk_frozen HS2.out 0
      go_wp2
      go_roundw
      case rel => exact ⟨1, rfl, ⟨by decide⟩, ⟨(blk_set HS2.out 0 _).trans rfl⟩, ⟨blk_far HO.out (by show w.heap.size + 1 + 1 ≠ w.heap.size; omega) _⟩, ⟨below_set HB.out (Nat.le_refl _)⟩⟩
      case measure => simp [intOf]
    · have i1 := idx1 a' b' c' d'
      have HS2 := Aside0.mk (show wr.heap[w.heap.size]? = some (.cells #[(.int .u64 (bits .or .u64 a a')), (.int .u64 b), (.int .u64 c), (.int .u64 d)] 43 (0, 0)) from HS.out)
      have k0 : wr.cell? ⟨w.heap.size, 1, none⟩ = some (.int .u64 b) := (blk_cell HS2.out 1).trans rfl
      have f0 := blk_frozen HS2.out 1
      go_wp2
      go_roundw
      case rel => exact ⟨2, rfl, ⟨by decide⟩, ⟨(blk_set HS2.out 1 _).trans rfl⟩, ⟨blk_far HO.out (by show w.heap.size + 1 + 1 ≠ w.heap.size; omega) _⟩, ⟨below_set HB.out (Nat.le_refl _)⟩⟩
      case measure => simp [intOf]
    · have i2 := idx2 a' b' c' d'
      have HS2 := Aside0.mk (show wr.heap[w.heap.size]? = some (.cells #[(.int .u64 (bits .or .u64 a a')), (.int .u64 (bits .or .u64 b b')), (.int .u64 c), (.int .u64 d)] 43 (0, 0)) from HS.out)
      have k0 : wr.cell? ⟨w.heap.size, 2, none⟩ = some (.int .u64 c) := (blk_cell HS2.out 2).trans rfl
      have f0 := blk_frozen HS2.out 2
      go_wp2
      go_roundw
      case rel => exact ⟨3, rfl, ⟨by decide⟩, ⟨(blk_set HS2.out 2 _).trans rfl⟩, ⟨blk_far HO.out (by show w.heap.size + 1 + 1 ≠ w.heap.size; omega) _⟩, ⟨below_set HB.out (Nat.le_refl _)⟩⟩
      case measure => simp [intOf]
    · have i3 := idx3 a' b' c' d'
      have HS2 := Aside0.mk (show wr.heap[w.heap.size]? = some (.cells #[(.int .u64 (bits .or .u64 a a')), (.int .u64 (bits .or .u64 b b')), (.int .u64 (bits .or .u64 c c')), (.int .u64 d)] 43 (0, 0)) from HS.out)
      have k0 : wr.cell? ⟨w.heap.size, 3, none⟩ = some (.int .u64 d) := (blk_cell HS2.out 3).trans rfl
      have f0 := blk_frozen HS2.out 3
      go_wp2
      go_roundw
      case rel => exact ⟨4, rfl, ⟨by decide⟩, ⟨(blk_set HS2.out 3 _).trans rfl⟩, ⟨blk_far HO.out (by show w.heap.size + 1 + 1 ≠ w.heap.size; omega) _⟩, ⟨below_set HB.out (Nat.le_refl _)⟩⟩
      case measure => simp [intOf]
    · have HS2 := Aside0.mk (show wr.heap[w.heap.size]? = some (.cells #[(.int .u64 (bits .or .u64 a a')), (.int .u64 (bits .or .u64 b b')), (.int .u64 (bits .or .u64 c c')), (.int .u64 (bits .or .u64 d d'))] 43 (0, 0)) from HS.out)
      have k0 : wr.cell? ⟨w.heap.size, 0, none⟩ = some (.int .u64 (bits .or .u64 a a')) := (blk_cell HS2.out 0).trans rfl
      have k1 : wr.cell? ⟨w.heap.size, 1, none⟩ = some (.int .u64 (bits .or .u64 b b')) := (blk_cell HS2.out 1).trans rfl
      have k2 : wr.cell? ⟨w.heap.size, 2, none⟩ = some (.int .u64 (bits .or .u64 c c')) := (blk_cell HS2.out 2).trans rfl
      have k3 : wr.cell? ⟨w.heap.size, 3, none⟩ = some (.int .u64 (bits .or .u64 d d')) := (blk_cell HS2.out 3).trans rfl
      have o0 : wr.cell? ⟨w.heap.size + 1 + 1, 0, none⟩ = some (.int .u64 0) := (blk_cell HO.out 0).trans rfl
      have f0 := blk_frozen HO.out 0
      have o1 : wr.cell? ⟨w.heap.size + 1 + 1, 1, none⟩ = some (.int .u64 0) := (blk_cell HO.out 1).trans rfl
      have f1 := blk_frozen HO.out 1
      have o2 : wr.cell? ⟨w.heap.size + 1 + 1, 2, none⟩ = some (.int .u64 0) := (blk_cell HO.out 2).trans rfl
      have f2 := blk_frozen HO.out 2
      have o3 : wr.cell? ⟨w.heap.size + 1 + 1, 3, none⟩ = some (.int .u64 0) := (blk_cell HO.out 3).trans rfl
      have f3 := blk_frozen HO.out 3
      go_wp2
      (try simp only [Exit.inBlock, Exit.then])
      refine bodyPost_ret (ret_set ⟨bits .or .u64 a a', bits .or .u64 b b', bits .or .u64 c c', bits .or .u64 d d'⟩ rfl rfl (put4_at HO.out ⟨bits .or .u64 a a', bits .or .u64 b b', bits .or .u64 c c', bits .or .u64 d d'⟩)) rfl ?_
      exact ⟨rfl, put4_below HB.out (by omega) ⟨bits .or .u64 a a', bits .or .u64 b b', bits .or .u64 c c', bits .or .u64 d d'⟩⟩
theorem eq4 (k : Nat) (a b c d a' b' c' d' : Int) (w : World) :
   (Op.equalIn (k + 2) 43 (.agg #[.int .u64 a, .int .u64 b, .int .u64 c, .int .u64 d]) (.agg #[.int .u64 a', .int .u64 b', .int .u64 c', .int .u64 d'])).run Try.prog w = .ok (a == a' && (b == b' && (c == c' && d == d'))) w := by
  have hu41 := Try.underlying41
  obtain ⟨i41, hi41⟩ : ∃ i, Try.prog.info? 41 = some i := Option.isSome_iff_exists.mp (show (Try.prog.info? 41).isSome = true by kernel_rfl)
  rw [run_equalIn_array (P := Try.prog) w (k + 1) (t := 43) (e := 41) (n := 4) _ _ Try.underlying43 hi41, show Try.prog.cellsOf 41 = 1 by kernel_rfl]
  simp only [show List.range 4 = [0, 1, 2, 3] by decide, Op.eqItems]
  go_simp
  by_cases h1 : a = a' <;> by_cases h2 : b = b' <;> by_cases h3 : c = c' <;> by_cases h4 : d = d' <;> simp [*]
section
attribute [local go_sem high] eq4
def listS (s : SS) : List Int := ((List.range 256).map (fun (n : Nat) => (n : Int))).filter (hasS s)
def upS (s : SS) (n : Nat) : List Int := ((List.range n).map (fun (n : Nat) => (n : Int))).filter (hasS s)
theorem upS_succ (s : SS) (n : Nat) : upS s (n + 1) = if hasS s (n : Int) = true then upS s n ++ [(n : Int)] else upS s n := by
  unfold upS
  rw [List.range_succ, List.map_append, List.filter_append]
  by_cases h : hasS s (n : Int) = true
  · simp [h]
  · simp [h]
theorem upS_len (s : SS) (n : Nat) : (upS s n).length ≤ n := by
  unfold upS
  refine Nat.le_trans (List.length_filter_le _ _) ?_
  simp
theorem upS_nil (s : SS) (h : s = zeroS) (n : Nat) : upS s n = [] := by
  subst h
  induction n with
  | zero => rfl
  | succ n ih =>
    rw [upS_succ, ih, if_neg]
    unfold hasS
    have : (SS.get zeroS ((n : Int) / 64)) = 0 := by unfold SS.get zeroS; split <;> (try split) <;> (try split) <;> rfl
    rw [this, Int.zero_ediv]
    decide
set_option maxHeartbeats 8000000 in
set_option maxRecDepth 100000 in
theorem list_calls (s : SS) (w : World) :
    Calls Try.prog 19 #[s.val] w fun e w' => ∃ v0_ : Value, e = .returned v0_ ∧ Kd.R (Kd.int .u8) 5 w' w.heap.size (fun _ => True) v0_ (listS s) ∧ Below w.heap.size w w' := by
  have HN := Aside0.mk (upS_nil s)
  have HF := Aside0.mk (show listS s = upS s 256 from rfl)
  have HSU := Aside0.mk (upS_succ s)
  have HLN := Aside0.mk (upS_len s)
  have HH := Aside0.mk (fun (x : Int) (w : World) => has_calls s x w)
  generalize listS s = L at HF ⊢
  generalize upS s = U at HN HF HSU HLN
  generalize hasS s = hf at HSU HH
  obtain ⟨a, b, c, d⟩ := s
  have hu43 := Try.underlying43
  unfold SS.val at HH ⊢
  dsimp only at HH ⊢
  cases he : (a == 0 && (b == 0 && (c == 0 && d == 0)))
  · go_enter Try.func19, Try.ntmps19
    go_wp2
    go_loopw [3, 8] (fun v3 v8 wr => ∃ n : Nat, v8 = .int .i64 (n : Int) ∧ Aside0 (n ≤ 256) ∧ Aside0 (Kd.R (Kd.int .u8) 5 wr w.heap.size (fun k => k ≠ w.heap.size) v3 (U n)) ∧ Aside0 (wr.heap[w.heap.size]? = some (.cells (SS.cs ⟨a, b, c, d⟩) 43 (0, 0))) ∧ Aside0 (Below w.heap.size w wr)) (fun _ i _ => 256 - (intOf i).toNat)
    case atStart =>
      refine ⟨0, rfl, ⟨by omega⟩, ⟨?_⟩, ⟨blk_new w _⟩, ⟨by repeat (first | exact Below.refl _ _ | apply below_alloc)⟩⟩
      have h0 : U 0 = [] := List.length_eq_zero_iff.mp (Nat.le_zero.mp (HLN.out 0))
      rw [h0]
      exact Kd.R_nil _ _ _ _ _
    case round =>
      obtain ⟨n, rfl, HL, HR, HS, HB⟩ := hrel
      by_cases hlt : n < 256
      · have c2b0 : decide ((n : Int) < 256) = true := decide_eq_true (by omega)
        have c2b1 : decide (n < 256) = true := decide_eq_true hlt
        have hm : (n : Int) % 256 = (n : Int) := by omega
        have hw8 : IntKind.u8.wrap (n : Int) = (n : Int) := IntWalk.u8_in _ (by omega)
        have HW := Aside0.mk (show wrap64 ((n : Int) + 1) = ((n + 1 : Nat) : Int) by unfold wrap64; omega)
        have k0 : wr.cell? ⟨w.heap.size, 0, none⟩ = some (.int .u64 a) := (blk_cell HS.out 0).trans rfl
        have k1 : wr.cell? ⟨w.heap.size, 1, none⟩ = some (.int .u64 b) := (blk_cell HS.out 1).trans rfl
        have k2 : wr.cell? ⟨w.heap.size, 2, none⟩ = some (.int .u64 c) := (blk_cell HS.out 2).trans rfl
        have k3 : wr.cell? ⟨w.heap.size, 3, none⟩ = some (.int .u64 d) := (blk_cell HS.out 3).trans rfl
        have hc := Aside0.mk (fun w => HH.out (n : Int) w (by omega) (by omega))
        have hs := HSU.out n
        have HLT := Aside0.mk hlt
        clear hlt
        cases hq : hf (n : Int)
        · rw [hq] at hs hc
          have HU := Aside0.mk (show U (n + 1) = U n by simpa using hs)
          clear hs
          go_wp2_with fail
          refine (hc.out _).mono ?_
          rintro e w3 ⟨rfl, hb3⟩
          have HS3 := Aside0.mk (blk_below HS.out hb3)
          have HR3 := Aside0.mk (Kd.R_below HR.out hb3)
          have HB3 := Aside0.mk (below_step HB.out hb3)
          go_wp2
          go_roundw
          case rel => exact ⟨n + 1, by first | (rw [HW.out]; done) | rfl, ⟨HLT.out⟩, ⟨by rw [HU.out]; exact HR3.out⟩, ⟨HS3.out⟩, ⟨HB3.out⟩⟩
          case measure => have := HLT.out; (try rw [HW.out]); simp [intOf]; omega
        · rw [hq] at hs hc
          have HU := Aside0.mk (show U (n + 1) = U n ++ [(n : Int)] by simpa using hs)
          clear hs
          have HLIM := Aside0.mk (show ((U n).length + 1) * 1 ≤ 140737488355328 by have := HLN.out n; have := HLT.out; omega)
          go_wp2_with fail
          refine (hc.out _).mono ?_
          rintro e w3 ⟨rfl, hb3⟩
          have HS3 := Aside0.mk (blk_below HS.out hb3)
          have HR3 := Aside0.mk (Kd.R_below HR.out hb3)
          have HB3 := Aside0.mk (below_step HB.out hb3)
          clear k0 k1 k2 k3
          go_wp2_with (at_builtin; refine Kd.R_append (Kd.int .u8) (w0 := w) w.heap.size rfl (.tmp 15) (.tmp 18) 36 5 (.int .u8 0) 1 rfl Try.underlying36 info5 rfl (by decide) (by decide) _ (U n) (n : Int) [.int .u8 (n : Int)] (fun k => k ≠ w.heap.size) (fun _ => False) rfl rfl rfl (fun _ h => h.elim) (fun k hk => by have h1 := HB3.out.size; have h2 := blk_lt HS3.out; omega) HR3.out HB3.out HB3.out.size HLIM.out ?_; intro v1 w1 hr1 hb1 hg1 hat1)
          go_roundw
          case rel => exact ⟨n + 1, by first | (rw [HW.out]; done) | rfl, ⟨HLT.out⟩, ⟨by rw [HU.out]; exact hr1⟩, ⟨blk_grown HS3.out hg1 (fun e => HR3.out.1 _ e.symm rfl)⟩, ⟨hb1⟩⟩
          case measure => have := HLT.out; (try rw [HW.out]); simp [intOf]; omega
      · have c2b0 : decide ((n : Int) < 256) = false := decide_eq_false (by omega)
        have c2b1 : decide (n < 256) = false := decide_eq_false hlt
        obtain rfl : n = 256 := by have := HL.out; omega
        clear hlt
        go_wp2
        go_ret
        exact ⟨_, rfl, by rw [HF.out]; exact Kd.R_mono HR.out (fun _ _ => trivial), HB.out⟩
  · go_enter Try.func19, Try.ntmps19
    go_wp2
    go_ret
    exact ⟨_, rfl, by
      have hz : (⟨a, b, c, d⟩ : SS) = zeroS := by
        simp only [Bool.and_eq_true, beq_iff_eq] at he
        obtain ⟨rfl, rfl, rfl, rfl⟩ := he
        rfl
      rw [HF.out, HN.out hz]
      exact Kd.R_nil _ _ _ _ _, by repeat (first | exact Below.refl _ _ | apply below_alloc)⟩
end
def SS.tup (s : SS) : Int × Int × Int × Int := (s.a, s.b, s.c, s.d)
theorem SS.val_of {s : SS} {r1 r2 r3 r4 : Int} (h : s.tup = (r1, r2, r3, r4)) : s.val = .agg #[.int .u64 r1, .int .u64 r2, .int .u64 r3, .int .u64 r4] := by
  obtain ⟨a, b, c, d⟩ := s
  injection h with h1 h
  injection h with h2 h
  injection h with h3 h4
  subst h1; subst h2; subst h3; subst h4; rfl
def fold_Set_With.f (a0_0 : Int) (a0_1 : Int) (a0_2 : Int) (a0_3 : Int) (a1 : Int) : Option (Int × Int × Int × Int) := if 0 ≤ a1 ∧ a1 < 256 then some (withS ⟨a0_0, a0_1, a0_2, a0_3⟩ a1).tup else none
theorem fold_Set_With.calls (a0_0 : Int) (a0_1 : Int) (a0_2 : Int) (a0_3 : Int) (a1 : Int) (r1 : Int) (r2 : Int) (r3 : Int) (r4 : Int) (w : World) (h : fold_Set_With.f a0_0 a0_1 a0_2 a0_3 a1 = some (r1, r2, r3, r4)) :
    Calls Try.prog 24 #[.agg #[.int .u64 a0_0, .int .u64 a0_1, .int .u64 a0_2, .int .u64 a0_3], .int .u8 a1] w fun e w' => e = .returned (.agg #[.int .u64 r1, .int .u64 r2, .int .u64 r3, .int .u64 r4]) ∧ Below w.heap.size w w' := by
  unfold fold_Set_With.f at h
  by_cases hb : 0 ≤ a1 ∧ a1 < 256
  · rw [if_pos hb] at h
    rw [← SS.val_of (Option.some.inj h)]
    exact with_calls ⟨a0_0, a0_1, a0_2, a0_3⟩ a1 w hb.1 hb.2
  · rw [if_neg hb] at h
    cases h

def fold_Set_Union.f (a0_0 : Int) (a0_1 : Int) (a0_2 : Int) (a0_3 : Int) (a1_0 : Int) (a1_1 : Int) (a1_2 : Int) (a1_3 : Int) : Option (Int × Int × Int × Int) := some (unionS ⟨a0_0, a0_1, a0_2, a0_3⟩ ⟨a1_0, a1_1, a1_2, a1_3⟩).tup
theorem fold_Set_Union.calls (a0_0 : Int) (a0_1 : Int) (a0_2 : Int) (a0_3 : Int) (a1_0 : Int) (a1_1 : Int) (a1_2 : Int) (a1_3 : Int) (r1 : Int) (r2 : Int) (r3 : Int) (r4 : Int) (w : World) (h : fold_Set_Union.f a0_0 a0_1 a0_2 a0_3 a1_0 a1_1 a1_2 a1_3 = some (r1, r2, r3, r4)) :
    Calls Try.prog 17 #[.agg #[.int .u64 a0_0, .int .u64 a0_1, .int .u64 a0_2, .int .u64 a0_3], .agg #[.int .u64 a1_0, .int .u64 a1_1, .int .u64 a1_2, .int .u64 a1_3]] w fun e w' => e = .returned (.agg #[.int .u64 r1, .int .u64 r2, .int .u64 r3, .int .u64 r4]) ∧ Below w.heap.size w w' := by
  unfold fold_Set_Union.f at h
  rw [← SS.val_of (Option.some.inj h)]
  exact union_calls ⟨a0_0, a0_1, a0_2, a0_3⟩ ⟨a1_0, a1_1, a1_2, a1_3⟩ w

def fold_Of.f (l0 : List Int) : Option (Int × Int × Int × Int) := if ∀ x ∈ l0, 0 ≤ x ∧ x < 256 then some (ofS l0).tup else none
theorem fold_Of.calls (A0 : Option Addr) (c0 : Nat) (l0 : List Int) (r1 : Int) (r2 : Int) (r3 : Int) (r4 : Int) (w : World) (hr0 : Kd.C (Kd.int .u8) w A0 l0.length l0) (hc0 : l0.length ≤ c0) (h : fold_Of.f l0 = some (r1, r2, r3, r4)) :
    Calls Try.prog 18 #[.slice A0 l0.length c0] w fun e w' => e = .returned (.agg #[.int .u64 r1, .int .u64 r2, .int .u64 r3, .int .u64 r4]) ∧ Below w.heap.size w w' := by
  unfold fold_Of.f at h
  by_cases hb : ∀ x ∈ l0, 0 ≤ x ∧ x < 256
  · rw [if_pos hb] at h
    rw [← SS.val_of (Option.some.inj h)]
    exact of_calls A0 c0 l0 w hr0 hc0 hb
  · rw [if_neg hb] at h
    cases h

def fold_Set_Has.f (a0_0 : Int) (a0_1 : Int) (a0_2 : Int) (a0_3 : Int) (a1 : Int) : Option Bool := if 0 ≤ a1 ∧ a1 < 256 then some (hasS ⟨a0_0, a0_1, a0_2, a0_3⟩ a1) else none
theorem fold_Set_Has.calls (a0_0 : Int) (a0_1 : Int) (a0_2 : Int) (a0_3 : Int) (a1 : Int) (r : Bool) (w : World) (h : fold_Set_Has.f a0_0 a0_1 a0_2 a0_3 a1 = some r) :
    Calls Try.prog 25 #[.agg #[.int .u64 a0_0, .int .u64 a0_1, .int .u64 a0_2, .int .u64 a0_3], .int .u8 a1] w fun e w' => e = .returned (.bool r) ∧ Below w.heap.size w w' := by
  unfold fold_Set_Has.f at h
  by_cases hb : 0 ≤ a1 ∧ a1 < 256
  · rw [if_pos hb] at h
    obtain rfl := Option.some.inj h
    exact has_calls ⟨a0_0, a0_1, a0_2, a0_3⟩ a1 w hb.1 hb.2
  · rw [if_neg hb] at h
    cases h

def fold_Set_List.f (a0_0 : Int) (a0_1 : Int) (a0_2 : Int) (a0_3 : Int) : Option (List Int) := some (listS ⟨a0_0, a0_1, a0_2, a0_3⟩)
theorem fold_Set_List.calls (a0_0 : Int) (a0_1 : Int) (a0_2 : Int) (a0_3 : Int) (r : List Int) (w : World) (h : fold_Set_List.f a0_0 a0_1 a0_2 a0_3 = some r) :
    Calls Try.prog 19 #[.agg #[.int .u64 a0_0, .int .u64 a0_1, .int .u64 a0_2, .int .u64 a0_3]] w fun e w' => ∃ v0_ : Value, e = .returned v0_ ∧ Kd.R (Kd.int .u8) 5 w' w.heap.size (fun _ => True) v0_ r ∧ Below w.heap.size w w' := by
  obtain rfl := Option.some.inj h
  exact list_calls ⟨a0_0, a0_1, a0_2, a0_3⟩ w

-- NOT PRINTED: function 9 (classes_Of)

-- NOT PRINTED: function 10 (classes_Classes_Table)

-- NOT PRINTED: function 11 (classes_Classes_Class)

-- NOT PRINTED: function 13 (classes_Classes_Len)

def allL (n : Nat) : List Int := (List.range n).map (fun (k : Nat) => (k : Int)) ++ List.replicate (256 - n) 0
theorem allL_len (n : Nat) (h : n ≤ 256) : (allL n).length = 256 := by simp [allL]; omega
theorem allL_set (n : Nat) (h : n < 256) : (allL n).set n (n : Int) = allL (n + 1) := by
  unfold allL
  rw [List.set_append_right _ _ (by simp), List.length_map, List.length_range, Nat.sub_self, show 256 - n = (256 - (n + 1)) + 1 by omega, List.replicate_succ, List.set_cons_zero, List.range_succ, List.map_append, List.append_assoc]
  rfl
theorem allL_0 : List.replicate 256 (0 : Int) = allL 0 := by unfold allL; rw [Nat.sub_zero, List.range_zero, List.map_nil, List.nil_append]
theorem allL_256 : allL 256 = (List.range 256).map (fun (k : Nat) => (k : Int)) := by unfold allL; rw [Nat.sub_self, List.replicate_zero, List.append_nil]
set_option maxHeartbeats 8000000 in
set_option maxRecDepth 100000 in
theorem all_calls (w : World) :
    Calls Try.prog 23 #[] w fun e w' => ∃ v0_ : Value, e = .returned v0_ ∧ Kd.R (Kd.int .u8) 5 w' w.heap.size (fun _ => True) v0_ ((List.range 256).map (fun (k : Nat) => (k : Int))) ∧ Below w.heap.size w w' := by
  have HSET := Aside0.mk allL_set
  have HLEN := Aside0.mk allL_len
  have HZ := Aside0.mk allL_0
  have HF := Aside0.mk allL_256
  generalize (List.range 256).map (fun (k : Nat) => (k : Int)) = LF at HF ⊢
  obtain ⟨z0, hz0⟩ : ∃ z, z = List.replicate 256 (0 : Int) := ⟨_, rfl⟩
  rw [← hz0] at HZ
  have HZ0 := Aside0.mk hz0
  clear hz0
  generalize allL = U at HSET HLEN HZ HF
  go_enter Try.func23, Try.ntmps23
  go_wp2_with (first | ((with_reducible refine gate_dst (N := 3) rfl ?_); refine Kd.R_make (Kd.int .u8) _ 5 rfl (N := 3) rfl 36 _ _ rfl 256 rfl rfl Try.underlying36 (.int .u8 0) 1 info5 rfl (by decide) (by omega) 0 (ok := fun _ => True) (okp := fun _ => True) rfl (fun _ hk => hk) trivial (by omega) (by omega) (Below.refl _ _) (Nat.le_refl _) ?_; intro v102 w2 ho3 hb hg_ hnew_; clear hg_ hnew_; (first | rw [← HZ0.out] at ho3 | (simp only [Int.reduceToNat] at ho3; rw [← HZ0.out] at ho3)); rw [HZ.out] at ho3; obtain ⟨Ao4, co4, eo4⟩ := Kd.R_slice ho3; subst eo4; rw [HLEN.out 0 (by omega)] at ho3; have HO := Aside0.mk ho3; have HB := Aside0.mk hb; clear ho3 hb))
  rw [HLEN.out 0 (by omega)]
  go_loopw [6] (fun v6 wr => ∃ n : Nat, v6 = .int .i64 (n : Int) ∧ Aside0 (n ≤ 256) ∧ Aside0 (Kd.R (Kd.int .u8) 5 wr w.heap.size (fun _ => True) (.slice Ao4 256 co4) (U n)) ∧ Aside0 (Below w.heap.size w wr)) (fun i _ => 256 - (intOf i).toNat)
  case atStart => exact ⟨0, rfl, ⟨by omega⟩, HO, HB⟩
  case round =>
    obtain ⟨n, rfl, HL, HR, HBr⟩ := hrel
    clear HO HB
    have hlen := HLEN.out n HL.out
    by_cases hlt : n < 256
    · have c2b0 : decide ((n : Int) < 256) = true := decide_eq_true (by omega)
      have c2b1 : decide (n < 256) = true := decide_eq_true hlt
      have HW := Aside0.mk (show wrap64 ((n : Int) + 1) = ((n + 1 : Nat) : Int) by unfold wrap64; omega)
      have hw8 : IntKind.u8.wrap (n : Int) = (n : Int) := IntWalk.u8_in _ (by omega)
      have hm : (n : Int) % 256 = (n : Int) := by omega
      obtain ⟨go8, co8, eo8, gb8, gl8, cl8, HG8⟩ := Kd.R_form HR.out (by rw [hlen]; omega)
      rw [hlen] at eo8
      (first | cases eo8 | (injection eo8 with ea_ en_ ec_; (first | subst ea_ | (injection ea_ with ea_; subst ea_)); subst ec_; clear en_))
      have GB8 := Aside0.mk gb8
      have p8 : 0 ≤ (n : Int) := by omega
      have q8 : (n : Int) < 256 := by omega
      have hcell := Kd.R_celln 0 HR.out (n : Int) p8 (by omega)
      obtain ⟨hx8_0, hf8_0⟩ := hcell
      rw [Int.toNat_natCast] at hx8_0 hf8_0
      have HP9 := Aside0.mk (Kd.R_putg HR.out (n : Int) (n : Int))
      have HST := Aside0.mk (HSET.out n hlt)
      clear gb8 gl8 HG8 hlt cl8 hlen
      go_wp2
      go_roundw
      case rel => exact ⟨n + 1, by first | (rw [HW.out]; done) | rfl, ⟨by omega⟩, ⟨by have h := HP9.out.1; rw [Int.toNat_natCast, HST.out] at h; exact h⟩, ⟨below_set HBr.out GB8.out⟩⟩
      case measure => (try rw [HW.out]); simp [intOf]; omega
    · have c2b0 : decide ((n : Int) < 256) = false := decide_eq_false (by omega)
      have c2b1 : decide (n < 256) = false := decide_eq_false hlt
      obtain rfl : n = 256 := by have := HL.out; omega
      clear hlt hlen
      rw [HF.out] at HR
      go_wp2
      go_ret
      exact ⟨_, rfl, HR.out, HBr.out⟩
def classes_all.f : Option (List Int) := some ((List.range 256).map (fun (k : Nat) => (k : Int)))
theorem classes_all.calls (r : List Int) (w : World) (h : classes_all.f = some r) :
    Calls Try.prog 23 #[] w fun e w' => ∃ v0_ : Value, e = .returned v0_ ∧ Kd.R (Kd.int .u8) 5 w' w.heap.size (fun _ => True) v0_ r ∧ Below w.heap.size w w' := by
  obtain rfl := Option.some.inj h
  exact all_calls w

-- NOT PRINTED: function 15 (classes_Classes_Bytes)

-- NOT PRINTED: function 7 (seinelaw09_awake)

/-! ### seinelaw09_texts: function 8 -/
def seinelaw09_texts.l0 : Nat → List (List Int) → List ByteArray → Int → Option (List ByteArray × Bool)
  | 0, _, _, _ => none
  | k + 1, x0, x4, x5 => if x5 < (x0.length : Int) then (if 0 ≤ x5 then (if ((rd_L3 x0 x5).length : Int) > 40 then (some (([] : List ByteArray), false)) else (if x4.length < 8796093022208 then (seinelaw09_texts.l0 k x0 (x4 ++ [strOfNums (rd_L3 x0 x5)]) (wrap64 (x5 + 1))) else (none))) else (none)) else (some (x4, decide ((x0.length : Int) ≤ 12)))
def seinelaw09_texts.f (k : Nat) (l0 : List (List Int)) : Option (List ByteArray × Bool) := seinelaw09_texts.l0 k l0 ([] : List ByteArray) 0
theorem seinelaw09_texts.mono_l : ∀ k, (∀ y0 y1 y2, LeO (seinelaw09_texts.l0 k y0 y1 y2) (seinelaw09_texts.l0 (k + 1) y0 y1 y2))
  | 0 => fun _ _ _ r h => by simp [seinelaw09_texts.l0] at h
  | k + 1 => by
    have ih0 := seinelaw09_texts.mono_l k
    · intro y0 y1 y2
      unfold seinelaw09_texts.l0
      repeat' first
      | (with_reducible exact ih0 _ _ _)
      | (with_reducible exact LeO.refl _)
      | (with_reducible exact LeO.none _)
      | (with_reducible refine LeO.ite ?_ ?_)
      | (with_reducible refine LeO.bind ?_ (fun _ => ?_))
      | exact ih0 _ _ _
      | exact LeO.none _
      | refine LeO.ite ?_ ?_
      | refine LeO.bind ?_ (fun _ => ?_)
theorem seinelaw09_texts.mono : ∀ a0 k, LeO (seinelaw09_texts.f k a0) (seinelaw09_texts.f (k + 1) a0) := by
  intro a0 k
  have ih0 := seinelaw09_texts.mono_l k
  unfold seinelaw09_texts.f
  repeat' first
      | (with_reducible exact ih0 _ _ _)
      | (with_reducible exact LeO.refl _)
      | (with_reducible exact LeO.none _)
      | (with_reducible refine LeO.ite ?_ ?_)
      | (with_reducible refine LeO.bind ?_ (fun _ => ?_))
      | exact ih0 _ _ _
      | exact LeO.none _
      | refine LeO.ite ?_ ?_
      | refine LeO.bind ?_ (fun _ => ?_)
set_option maxHeartbeats 8000000 in
set_option maxRecDepth 100000 in
theorem seinelaw09_texts.calls (k : Nat) (A0 : Option Addr) (c0 : Nat) (l0 : List (List Int)) (r1 : List ByteArray) (r2 : Bool) (w : World) (hr0 : Kd.C (Kd.slice 5 (Kd.int .u8)) w A0 l0.length l0) (hc0 : l0.length ≤ c0) (h : seinelaw09_texts.f k l0 = some (r1, r2)) :
    Calls Try.prog 8 #[.slice A0 l0.length c0] w fun e w' => ∃ v0_ : Value, e = .returned (.tuple #[v0_, .bool r2]) ∧ Kd.R Kd.string 9 w' w.heap.size (fun _ => True) v0_ r1 ∧ Below w.heap.size w w' := by
  have HR0 := Aside0.mk hr0
  have HC0 := Aside0.mk hc0
  clear hr0 hc0
  have HB := Aside0.mk (Below.refl w.heap.size w)
  have H : (seinelaw09_texts.l0 k l0 ([] : List ByteArray) 0) = some (r1, r2) := h
  clear h
  have H' := Aside0.mk H
  clear H
  go_enter Try.func8, Try.ntmps8
  go_wp2
  go_loopg [4, 5] k (fun kq v4 v5 w' => ∃ (x4_1 : List ByteArray) (x5_1 : Int), v5 = .int .i64 x5_1 ∧ Aside0 (seinelaw09_texts.l0 kq l0 x4_1 x5_1 = some (r1, r2)) ∧ Aside0 (kq ≤ k) ∧ Aside0 (Kd.R Kd.string 9 w' w.heap.size (fun _ => True) v4 x4_1) ∧ Aside0 (Below w.heap.size w w'))
  case atStart => exact ⟨(([] : List ByteArray)), (0), (by first | rfl | (simp; done) | (simp [*]; done) | (simp; exact (by intro a b; cases a <;> cases b <;> rfl : ∀ a b : Bool, (a == b) = (!(a != b))) _ _)), H', ⟨Nat.le_refl _⟩, ⟨by first | exact Kd.R_nil _ _ _ _ _ | exact Kd.N_nil _ _ _ _ _ | exact Kd.V_nil _ _ _ _ _ | exact Kd.Q_nil _ _ _ _ _ | exact Kd.S_nil _ _ _ _ _⟩, ⟨by repeat (first | (with_reducible first | exact HB.out | apply below_alloc | apply pw_below_drewN | apply below_drew1) | exact HB.out)⟩⟩
  case round =>
    clear H'
    obtain ⟨x4_1, x5_1, rfl, HA, HK1, HO_4, HB⟩ := hrel
    cases gk with
    | zero => exact absurd HA.out (by simp [seinelaw09_texts.l0])
    | succ k1 =>
      have H := HA.out
      clear HA
      simp only [seinelaw09_texts.l0] at H
      by_cases c2 : x5_1 < (l0.length : Int)
      · rw [if_pos c2] at H
        have c2b0 : decide (x5_1 < (l0.length : Int)) = true := decide_eq_true c2
        clear c2
        by_cases c3 : 0 ≤ x5_1
        · rw [if_pos c3] at H
          have c3b0 : decide (0 ≤ x5_1) = true := decide_eq_true c3
          clear c3
          by_cases c4 : ((rd_L3 l0 x5_1).length : Int) > 40
          · rw [if_pos c4] at H
            have c4b0 : decide (40 < ((rd_L3 l0 x5_1).length : Int)) = true := decide_eq_true c4
            have c4b1 : decide (40 < (rd_L3 l0 x5_1).length) = true := decide_eq_true (by omega)
            clear c4
            simp only [Option.some.injEq, Prod.mk.injEq] at H
            obtain ⟨rfl, rfl⟩ := H
            have p110 : 0 ≤ (x5_1 : Int) := of_decide_eq_true (by first | (with_reducible assumption) | assumption)
            have q110 : x5_1 < (l0.length : Int) := of_decide_eq_true (by first | (with_reducible assumption) | assumption)
            obtain ⟨ad110, A110_0, c110_0, e110, hx110_0, hl110_0, hi110_0⟩ := at_L3 HR0.out x5_1 p110 q110
            cases e110
            replace hx110_0 := (HB.out.cell (World.block_lt_of_cell? w _ hx110_0)).trans hx110_0
            have HR110_0 := Aside0.mk hi110_0
            have HC110_0 := Aside0.mk hl110_0
            clear hi110_0 hl110_0
            replace p110 := eq_true p110
            replace q110 := eq_true q110
            go_wp2
            go_ret2
            exact ⟨_, by first | rfl | (simp [errW_none, errW_some] <;> rfl) | (simp [*, errW_none, errW_some] <;> rfl), by first | exact Kd.R_nil _ _ _ _ _ | exact Kd.N_nil _ _ _ _ _ | exact Kd.V_nil _ _ _ _ _ | exact Kd.Q_nil _ _ _ _ _ | exact Kd.S_nil _ _ _ _ _, by repeat (first | (with_reducible first | exact HB.out | apply below_alloc | apply pw_below_drewN | apply below_drew1) | exact HB.out)⟩
          · rw [if_neg c4] at H
            have c4b0 : decide (40 < ((rd_L3 l0 x5_1).length : Int)) = false := decide_eq_false c4
            have c4b1 : decide (40 < (rd_L3 l0 x5_1).length) = false := decide_eq_false (by omega)
            clear c4
            by_cases c5 : x4_1.length < 8796093022208
            · rw [if_pos c5] at H
              have LMc5 := Aside0.mk c5
              clear c5
              obtain ⟨y112, hy112⟩ : ∃ y_ : List ByteArray, y_ = (x4_1 ++ [strOfNums (rd_L3 l0 x5_1)]) := ⟨_, rfl⟩
              replace H : (seinelaw09_texts.l0 k1 l0 y112 (wrap64 (x5_1 + 1))) = some (r1, r2) := by first | (rw [hy112]; with_reducible exact H) | (have H2_ := (Option.bind_some _ _).symm.trans H; rw [hy112]; with_reducible exact H2_) | (have H2_ := (Option.bind_some _ _).symm.trans H; with_reducible exact H2_) | with_reducible exact H | (rw [hy112]; exact H) | exact H
              have Ny112 := Aside0.mk hy112
              clear hy112
              have H' := Aside0.mk H
              clear H
              have p110 : 0 ≤ (x5_1 : Int) := of_decide_eq_true (by first | (with_reducible assumption) | assumption)
              have q110 : x5_1 < (l0.length : Int) := of_decide_eq_true (by first | (with_reducible assumption) | assumption)
              obtain ⟨ad110, A110_0, c110_0, e110, hx110_0, hl110_0, hi110_0⟩ := at_L3 HR0.out x5_1 p110 q110
              cases e110
              replace hx110_0 := (HB.out.cell (World.block_lt_of_cell? w _ hx110_0)).trans hx110_0
              have HR110_0 := Aside0.mk hi110_0
              have HC110_0 := Aside0.mk hl110_0
              clear hi110_0 hl110_0
              replace p110 := eq_true p110
              replace q110 := eq_true q110
              have p111 : 0 ≤ (x5_1 : Int) := of_decide_eq_true (by first | (with_reducible assumption) | assumption)
              have q111 : x5_1 < (l0.length : Int) := of_decide_eq_true (by first | (with_reducible assumption) | assumption)
              obtain ⟨ad111, A111_0, c111_0, e111, hx111_0, hl111_0, hi111_0⟩ := at_L3 HR0.out x5_1 p111 q111
              obtain rfl : ad110 = ad111 := (by injection e111)
              replace hx111_0 := (HB.out.cell (World.block_lt_of_cell? w _ hx111_0)).trans hx111_0
              have HR111_0 := Aside0.mk hi111_0
              have HC111_0 := Aside0.mk hl111_0
              clear hi111_0 hl111_0
              replace p111 := eq_true p111
              replace q111 := eq_true q111
              have ea_ := Option.some.inj (hx110_0.symm.trans hx111_0)
              injection ea_ with ea_ en_ ec_
              subst ea_
              subst ec_
              clear en_
              have hcv6 := Kd.C_string (P := Try.prog) (A := A110_0) (c := c110_0) Try.underlying36 Try.underlying5 Try.underlying9 (Kd.C_below HR111_0.out HB.out)
              go_wp2_with (first | ((with_reducible refine gate_builtin (b := .append) (xs := #[.tmp 18, .tmp 24]) rfl ?_); at_builtin; refine Kd.R_append Kd.string (w0 := w) w.heap.size rfl (.tmp 18) (.tmp 24) 24 9 (.string ⟨#[]⟩) 16 rfl Try.underlying24 info9 rfl (by decide) (by omega) u4 x4_1 (strOfNums (rd_L3 l0 x5_1)) [.string (strOfNums (rd_L3 l0 x5_1))] (fun _ => True) (fun _ => False) rfl rfl ?aP (fun _ hk => hk.elim) ?aF ?aO ?aB ?aS ?aL ?_; (case aP => exact rfl); (case aB => exact (by repeat (first | (with_reducible first | exact HB.out | apply below_alloc | apply pw_below_drewN | apply below_drew1) | exact HB.out))); (case aF => exact (fun _ _ => trivial)); (case aO => exact (by (with_reducible repeat (first | apply Kd.R_alloc | apply Kd.R_drewN | apply Kd.R_drew)); exact HO_4.out)); (case aS => exact (below_size (by repeat (first | (with_reducible first | exact HB.out | apply below_alloc | apply pw_below_drewN | apply below_drew1) | exact HB.out)))); (case aL => have := LMc5.out; omega); intro v113 w7 ho hb hg hat; rw [← Ny112.out] at ho; have n0_ := Aside0.mk (hb); have n1_ := Aside0.mk (ho); clear HB; clear HO_4; have HB := n0_; have HO114 := n1_; clear n0_ n1_; clear ho hb hg hat))
              go_roundg k1
              case measure => have := HK1.out; omega
              case rel => exact ⟨(y112), (wrap64 (x5_1 + 1)), (by first | rfl | (simp; done) | (simp [*]; done) | (simp; exact (by intro a b; cases a <;> cases b <;> rfl : ∀ a b : Bool, (a == b) = (!(a != b))) _ _)), H', ⟨by have := HK1.out; omega⟩, ⟨by (with_reducible repeat (first | apply Kd.R_alloc | apply Kd.R_drewN | apply Kd.R_drew)); exact HO114.out⟩, ⟨by repeat (first | (with_reducible first | exact HB.out | apply below_alloc | apply pw_below_drewN | apply below_drew1) | exact HB.out)⟩⟩
            · rw [if_neg c5] at H
              exact absurd H (by simp)
        · rw [if_neg c3] at H
          exact absurd H (by simp)
      · rw [if_neg c2] at H
        have c2b0 : decide (x5_1 < (l0.length : Int)) = false := decide_eq_false c2
        clear c2
        simp only [Option.some.injEq, Prod.mk.injEq] at H
        obtain ⟨rfl, rfl⟩ := H
        go_wp2
        go_ret2
        exact ⟨_, by first | rfl | (simp [errW_none, errW_some] <;> rfl) | (simp [*, errW_none, errW_some] <;> rfl), by (with_reducible repeat (first | apply Kd.R_alloc | apply Kd.R_drewN | apply Kd.R_drew)); exact HO_4.out, by repeat (first | (with_reducible first | exact HB.out | apply below_alloc | apply pw_below_drewN | apply below_drew1) | exact HB.out)⟩

/-! ### seinelaw09_stands: function 16 -/
mutual
def seinelaw09_stands.l0 : Nat → List (List Int) → Int → Int → Option (Bool)
  | 0, _, _, _ => none
  | k + 1, x0, x1, x5 => if x5 < (x0.length : Int) then (seinelaw09_stands.l1 k x0 x1 x5 0) else (some false)
def seinelaw09_stands.l1 : Nat → List (List Int) → Int → Int → Int → Option (Bool)
  | 0, _, _, _, _ => none
  | k + 1, x0, x1, x5, x6 => if 0 ≤ x5 then (if x5 < (x0.length : Int) then (if x6 < ((rd_L3 x0 x5).length : Int) then (if 0 ≤ x6 then (if (rd (rd_L3 x0 x5) x6) = x1 then (some true) else (seinelaw09_stands.l1 k x0 x1 x5 (wrap64 (x6 + 1)))) else (none)) else (seinelaw09_stands.l0 k x0 x1 (wrap64 (x5 + 1)))) else (none)) else (none)
end
def seinelaw09_stands.f (k : Nat) (l0 : List (List Int)) (a1 : Int) : Option (Bool) := seinelaw09_stands.l0 k l0 a1 0
theorem seinelaw09_stands.mono_l : ∀ k, (∀ y0 y1 y2, LeO (seinelaw09_stands.l0 k y0 y1 y2) (seinelaw09_stands.l0 (k + 1) y0 y1 y2)) ∧ (∀ y0 y1 y2 y3, LeO (seinelaw09_stands.l1 k y0 y1 y2 y3) (seinelaw09_stands.l1 (k + 1) y0 y1 y2 y3))
  | 0 => ⟨fun _ _ _ r h => by simp [seinelaw09_stands.l0] at h, fun _ _ _ _ r h => by simp [seinelaw09_stands.l1] at h⟩
  | k + 1 => by
    obtain ⟨ih0, ih1⟩ := seinelaw09_stands.mono_l k
    refine ⟨?_, ?_⟩
    · intro y0 y1 y2
      unfold seinelaw09_stands.l0
      repeat' first
      | (with_reducible exact ih0 _ _ _)
      | (with_reducible exact ih1 _ _ _ _)
      | (with_reducible exact LeO.refl _)
      | (with_reducible exact LeO.none _)
      | (with_reducible refine LeO.ite ?_ ?_)
      | (with_reducible refine LeO.bind ?_ (fun _ => ?_))
      | exact ih0 _ _ _
      | exact ih1 _ _ _ _
      | exact LeO.none _
      | refine LeO.ite ?_ ?_
      | refine LeO.bind ?_ (fun _ => ?_)
    · intro y0 y1 y2 y3
      unfold seinelaw09_stands.l1
      repeat' first
      | (with_reducible exact ih0 _ _ _)
      | (with_reducible exact ih1 _ _ _ _)
      | (with_reducible exact LeO.refl _)
      | (with_reducible exact LeO.none _)
      | (with_reducible refine LeO.ite ?_ ?_)
      | (with_reducible refine LeO.bind ?_ (fun _ => ?_))
      | exact ih0 _ _ _
      | exact ih1 _ _ _ _
      | exact LeO.none _
      | refine LeO.ite ?_ ?_
      | refine LeO.bind ?_ (fun _ => ?_)
theorem seinelaw09_stands.mono : ∀ a0 a1 k, LeO (seinelaw09_stands.f k a0 a1) (seinelaw09_stands.f (k + 1) a0 a1) := by
  intro a0 a1 k
  obtain ⟨ih0, ih1⟩ := seinelaw09_stands.mono_l k
  unfold seinelaw09_stands.f
  repeat' first
      | (with_reducible exact ih0 _ _ _)
      | (with_reducible exact ih1 _ _ _ _)
      | (with_reducible exact LeO.refl _)
      | (with_reducible exact LeO.none _)
      | (with_reducible refine LeO.ite ?_ ?_)
      | (with_reducible refine LeO.bind ?_ (fun _ => ?_))
      | exact ih0 _ _ _
      | exact ih1 _ _ _ _
      | exact LeO.none _
      | refine LeO.ite ?_ ?_
      | refine LeO.bind ?_ (fun _ => ?_)
set_option maxHeartbeats 8000000 in
set_option maxRecDepth 100000 in
theorem seinelaw09_stands.calls (k : Nat) (A0 : Option Addr) (c0 : Nat) (l0 : List (List Int)) (a1 : Int) (r : Bool) (w : World) (hr0 : Kd.C (Kd.slice 5 (Kd.int .u8)) w A0 l0.length l0) (hc0 : l0.length ≤ c0) (h : seinelaw09_stands.f k l0 a1 = some r) :
    Calls Try.prog 16 #[.slice A0 l0.length c0, .int .u8 a1] w fun e w' => e = .returned (.bool r) ∧ Drawn0 w w' := by
  have HR0 := Aside0.mk hr0
  have HC0 := Aside0.mk hc0
  clear hr0 hc0
  have H : (seinelaw09_stands.l0 k l0 a1 0) = some r := h
  clear h
  have H' := Aside0.mk H
  clear H
  go_enter Try.func16, Try.ntmps16
  go_wp2
  go_loopg [5] k (fun kq v5 w' => ∃ (x5_1 : Int), v5 = .int .i64 x5_1 ∧ Aside0 (seinelaw09_stands.l0 kq l0 a1 x5_1 = some r) ∧ Aside0 (kq ≤ k) ∧ Drawn0 w w')
  case atStart => exact ⟨(0), (by first | rfl | (simp; done) | (simp [*]; done) | (simp; exact (by intro a b; cases a <;> cases b <;> rfl : ∀ a b : Bool, (a == b) = (!(a != b))) _ _)), H', ⟨Nat.le_refl _⟩, by repeat (first | exact Drawn0.refl _ | apply Drawn0.step)⟩
  case round =>
    clear H'
    try clear c1
    try clear p2
    obtain ⟨x5_1, rfl, HA, HK1, ⟨m1, rfl⟩⟩ := hrel
    cases gk with
    | zero => exact absurd HA.out (by simp [seinelaw09_stands.l0])
    | succ k1 =>
      have H := HA.out
      clear HA
      simp only [seinelaw09_stands.l0] at H
      by_cases c3 : x5_1 < (l0.length : Int)
      · rw [if_pos c3] at H
        have c3b0 : decide (x5_1 < (l0.length : Int)) = true := decide_eq_true c3
        clear c3
        have H' := Aside0.mk H
        clear H
        go_wp2
        go_loopg [6] k1 (fun kq v6 w' => ∃ (x6_2 : Int), v6 = .int .i64 x6_2 ∧ Aside0 (seinelaw09_stands.l1 kq l0 a1 x5_1 x6_2 = some r) ∧ Aside0 (kq ≤ k1) ∧ Drawn0 w w')
        case atStart => exact ⟨(0), (by first | rfl | (simp; done) | (simp [*]; done) | (simp; exact (by intro a b; cases a <;> cases b <;> rfl : ∀ a b : Bool, (a == b) = (!(a != b))) _ _)), H', ⟨Nat.le_refl _⟩, by repeat (first | exact Drawn0.refl _ | apply Drawn0.step)⟩
        case round =>
          clear H'
          try clear c1
          try clear p2
          try clear c3
          try clear c3b0
          try clear p2
          obtain ⟨x6_2, rfl, HA, HK2, ⟨m2, rfl⟩⟩ := hrel
          cases gk with
          | zero => exact absurd HA.out (by simp [seinelaw09_stands.l1])
          | succ k2 =>
            have H := HA.out
            clear HA
            simp only [seinelaw09_stands.l1] at H
            by_cases c4 : 0 ≤ x5_1
            · rw [if_pos c4] at H
              have c4b0 : decide (0 ≤ x5_1) = true := decide_eq_true c4
              clear c4
              by_cases c5 : x5_1 < (l0.length : Int)
              · rw [if_pos c5] at H
                have c5b0 : decide (x5_1 < (l0.length : Int)) = true := decide_eq_true c5
                clear c5
                by_cases c6 : x6_2 < ((rd_L3 l0 x5_1).length : Int)
                · rw [if_pos c6] at H
                  have c6b0 : decide (x6_2 < ((rd_L3 l0 x5_1).length : Int)) = true := decide_eq_true c6
                  clear c6
                  by_cases c7 : 0 ≤ x6_2
                  · rw [if_pos c7] at H
                    have c7b0 : decide (0 ≤ x6_2) = true := decide_eq_true c7
                    clear c7
                    by_cases c8 : (rd (rd_L3 l0 x5_1) x6_2) = a1
                    · rw [if_pos c8] at H
                      have c8b0 : ((rd (rd_L3 l0 x5_1) x6_2) == a1) = true := beq_iff_eq.mpr c8
                      have c8b1 : ((rd (rd_L3 l0 x5_1) x6_2) != a1) = false := bne_eq_false_iff_eq.mpr c8
                      clear c8
                      obtain rfl := Option.some.inj H
                      have p115 : 0 ≤ (x5_1 : Int) := of_decide_eq_true (by first | (with_reducible assumption) | assumption)
                      have q115 : x5_1 < (l0.length : Int) := of_decide_eq_true (by first | (with_reducible assumption) | assumption)
                      obtain ⟨ad115, A115_0, c115_0, e115, hx115_0, hl115_0, hi115_0⟩ := at_L3 HR0.out x5_1 p115 q115
                      cases e115
                      have HR115_0 := Aside0.mk hi115_0
                      have HC115_0 := Aside0.mk hl115_0
                      clear hi115_0 hl115_0
                      replace p115 := eq_true p115
                      replace q115 := eq_true q115
                      have p116 : 0 ≤ (x5_1 : Int) := of_decide_eq_true (by first | (with_reducible assumption) | assumption)
                      have q116 : x5_1 < (l0.length : Int) := of_decide_eq_true (by first | (with_reducible assumption) | assumption)
                      obtain ⟨ad116, A116_0, c116_0, e116, hx116_0, hl116_0, hi116_0⟩ := at_L3 HR0.out x5_1 p116 q116
                      obtain rfl : ad115 = ad116 := (by injection e116)
                      have HR116_0 := Aside0.mk hi116_0
                      have HC116_0 := Aside0.mk hl116_0
                      clear hi116_0 hl116_0
                      replace p116 := eq_true p116
                      replace q116 := eq_true q116
                      have ea_ := Option.some.inj (hx115_0.symm.trans hx116_0)
                      injection ea_ with ea_ en_ ec_
                      subst ea_
                      subst ec_
                      clear en_
                      have p117 : 0 ≤ (x6_2 : Int) := of_decide_eq_true (by first | (with_reducible assumption) | assumption)
                      have q117 : x6_2 < ((rd_L3 l0 x5_1).length : Int) := of_decide_eq_true (by first | (with_reducible assumption) | assumption)
                      obtain ⟨ad117, e117, hx117_0⟩ := Kd.at_int HR116_0.out x6_2 p117 q117
                      cases e117
                      replace p117 := eq_true p117
                      replace q117 := eq_true q117
                      go_wp2
                      go_ret
                      exact ⟨by first | rfl | (simp; done) | (simp [*]; done) | (simp; exact (by intro a b; cases a <;> cases b <;> rfl : ∀ a b : Bool, (a == b) = (!(a != b))) _ _), by repeat (first | exact Drawn0.refl _ | apply Drawn0.step)⟩
                    · rw [if_neg c8] at H
                      have c8b0 : ((rd (rd_L3 l0 x5_1) x6_2) == a1) = false := beq_eq_false_iff_ne.mpr c8
                      have c8b1 : ((rd (rd_L3 l0 x5_1) x6_2) != a1) = true := bne_iff_ne.mpr c8
                      have H' := Aside0.mk H
                      clear H
                      have p115 : 0 ≤ (x5_1 : Int) := of_decide_eq_true (by first | (with_reducible assumption) | assumption)
                      have q115 : x5_1 < (l0.length : Int) := of_decide_eq_true (by first | (with_reducible assumption) | assumption)
                      obtain ⟨ad115, A115_0, c115_0, e115, hx115_0, hl115_0, hi115_0⟩ := at_L3 HR0.out x5_1 p115 q115
                      cases e115
                      have HR115_0 := Aside0.mk hi115_0
                      have HC115_0 := Aside0.mk hl115_0
                      clear hi115_0 hl115_0
                      replace p115 := eq_true p115
                      replace q115 := eq_true q115
                      have p116 : 0 ≤ (x5_1 : Int) := of_decide_eq_true (by first | (with_reducible assumption) | assumption)
                      have q116 : x5_1 < (l0.length : Int) := of_decide_eq_true (by first | (with_reducible assumption) | assumption)
                      obtain ⟨ad116, A116_0, c116_0, e116, hx116_0, hl116_0, hi116_0⟩ := at_L3 HR0.out x5_1 p116 q116
                      obtain rfl : ad115 = ad116 := (by injection e116)
                      have HR116_0 := Aside0.mk hi116_0
                      have HC116_0 := Aside0.mk hl116_0
                      clear hi116_0 hl116_0
                      replace p116 := eq_true p116
                      replace q116 := eq_true q116
                      have ea_ := Option.some.inj (hx115_0.symm.trans hx116_0)
                      injection ea_ with ea_ en_ ec_
                      subst ea_
                      subst ec_
                      clear en_
                      have p117 : 0 ≤ (x6_2 : Int) := of_decide_eq_true (by first | (with_reducible assumption) | assumption)
                      have q117 : x6_2 < ((rd_L3 l0 x5_1).length : Int) := of_decide_eq_true (by first | (with_reducible assumption) | assumption)
                      obtain ⟨ad117, e117, hx117_0⟩ := Kd.at_int HR116_0.out x6_2 p117 q117
                      cases e117
                      replace p117 := eq_true p117
                      replace q117 := eq_true q117
                      go_wp2
                      go_roundg k2
                      case measure => have := HK1.out; have := HK2.out; omega
                      case rel => exact ⟨(wrap64 (x6_2 + 1)), (by first | rfl | (simp; done) | (simp [*]; done) | (simp; exact (by intro a b; cases a <;> cases b <;> rfl : ∀ a b : Bool, (a == b) = (!(a != b))) _ _)), H', ⟨by have := HK1.out; have := HK2.out; omega⟩, by repeat (first | exact Drawn0.refl _ | apply Drawn0.step)⟩
                  · rw [if_neg c7] at H
                    exact absurd H (by simp)
                · rw [if_neg c6] at H
                  have c6b0 : decide (x6_2 < ((rd_L3 l0 x5_1).length : Int)) = false := decide_eq_false c6
                  clear c6
                  have H' := Aside0.mk H
                  clear H
                  have p115 : 0 ≤ (x5_1 : Int) := of_decide_eq_true (by first | (with_reducible assumption) | assumption)
                  have q115 : x5_1 < (l0.length : Int) := of_decide_eq_true (by first | (with_reducible assumption) | assumption)
                  obtain ⟨ad115, A115_0, c115_0, e115, hx115_0, hl115_0, hi115_0⟩ := at_L3 HR0.out x5_1 p115 q115
                  cases e115
                  have HR115_0 := Aside0.mk hi115_0
                  have HC115_0 := Aside0.mk hl115_0
                  clear hi115_0 hl115_0
                  replace p115 := eq_true p115
                  replace q115 := eq_true q115
                  go_wp2
                  go_roundg k2
                  case measure => have := HK1.out; have := HK2.out; omega
                  case rel => exact ⟨(wrap64 (x5_1 + 1)), (by first | rfl | (simp; done) | (simp [*]; done) | (simp; exact (by intro a b; cases a <;> cases b <;> rfl : ∀ a b : Bool, (a == b) = (!(a != b))) _ _)), H', ⟨by have := HK1.out; have := HK2.out; omega⟩, by repeat (first | exact Drawn0.refl _ | apply Drawn0.step)⟩
              · rw [if_neg c5] at H
                exact absurd H (by simp)
            · rw [if_neg c4] at H
              exact absurd H (by simp)
      · rw [if_neg c3] at H
        have c3b0 : decide (x5_1 < (l0.length : Int)) = false := decide_eq_false c3
        clear c3
        obtain rfl := Option.some.inj H
        go_wp2
        go_ret
        exact ⟨by first | rfl | (simp; done) | (simp [*]; done) | (simp; exact (by intro a b; cases a <;> cases b <;> rfl : ∀ a b : Bool, (a == b) = (!(a != b))) _ _), by repeat (first | exact Drawn0.refl _ | apply Drawn0.step)⟩

-- NOT PRINTED: function 4 (seinelaw09_ClassesApart)

end Go.Proofs.Ytongadhccpfpeaa.Base9
