/- Functions of the translation and what they come to: laid by a program of this session (xprint.py) beside contracts proved by hand. No condition. -/
import Derived.Test.YtaegjpabkkoleaaPFoldTwicex0
import Derived.Test.YtaegjpabkkoleaaPFoldTwicex1
namespace Go.Proofs.Ytaegjpabkkoleaa.PFoldTwice
open Go.RowKit Go.Proofs.YtaegjpabkkoleaaW.PrintWords Go.Proofs.YtaegjpabkkoleaaW.PrintLast Go.Proofs.YtaegjpabkkoleaaW.PrintMore
attribute [local go_sem] max2_int min2_int max_two min_two max_three min_three max_four min_four   -- for this text's walks alone
set_option linter.unusedVariables false
set_option linter.unusedSimpArgs false

/-- a set of bytes: its four numbers -/
structure SS where
  a : Int
  b : Int
  c : Int
  d : Int
def SS.val (s : SS) : Value := .agg #[.int .u64 s.a, .int .u64 s.b, .int .u64 s.c, .int .u64 s.d]
def SS.cs (s : SS) : Array Value := #[.int .u64 s.a, .int .u64 s.b, .int .u64 s.c, .int .u64 s.d]
def SS.get (s : SS) (i : Int) : Int := if i = 0 then s.a else if i = 1 then s.b else if i = 2 then s.c else s.d
def SS.set (s : SS) (i v : Int) : SS := if i = 0 then { s with a := v } else if i = 1 then { s with b := v } else if i = 2 then { s with c := v } else { s with d := v }
def hasS (s : SS) (x : Int) : Bool := bits .and .u64 (s.get (x / 64) / 2 ^ (x % 64).toNat) 1 == 1
def withS (s : SS) (x : Int) : SS := s.set (x / 64) (bits .or .u64 (s.get (x / 64)) (IntKind.u64.wrap (2 ^ (x % 64).toNat)))
def unionS (s o : SS) : SS := ⟨bits .or .u64 s.a o.a, bits .or .u64 s.b o.b, bits .or .u64 s.c o.c, bits .or .u64 s.d o.d⟩
theorem info31s : (Try.prog.info? 31).map (·.size) = some 4 := by kernel_rfl
theorem ret_set {tmps : Array Value} {w : World} {p : Tmp} {g : Nat} (s : SS) {fn : Func} (hf : fn.results = #[.cell p 31]) (hp : tmps.getD p undef = .pointer (some ⟨g, 0, none⟩)) (hg : w.heap[g]? = some (.cells s.cs 31 (0, 0))) :
    (results fn tmps).run Try.prog w = .ok s.val w := results_single hf (Vals.cell g 31 s.cs (0, 0) _ hp hg Try.underlying31 rfl info31s Vals.nil)
theorem heap2 (w : World) (o1 o2 : Obj) : ((w.alloc o1).alloc o2).heap[w.heap.size + 1]? = some o2 := by
  have := blk_new (w.alloc o1) o2
  rwa [World.size_alloc] at this
def zeroS : SS := ⟨0, 0, 0, 0⟩
set_option maxHeartbeats 8000000 in
set_option maxRecDepth 100000 in
theorem has_calls (s : SS) (x : Int) (w : World) (h0 : 0 ≤ x) (h1 : x < 256) :
    Calls Try.prog 22 #[s.val, .int .u8 x] w fun e w' => e = .returned (.bool (hasS s x)) ∧ Below w.heap.size w w' := by
  obtain ⟨a, b, c, d⟩ := s
  have hu31 := Try.underlying31
  unfold hasS SS.val
  dsimp only
  have hq : x / 64 = 0 ∨ x / 64 = 1 ∨ x / 64 = 2 ∨ x / 64 = 3 := by omega
  rcases hq with hq | hq | hq | hq
  all_goals
    rw [hq]
    simp only [SS.get, if_true, Int.reduceEq, if_false]
    have HE : Aside0 (h0 = h0) := ⟨rfl⟩
    go_enter Try.func22, Try.ntmps22
    go_wp2
    go_ret
    exact ⟨rfl, by repeat (first | exact Below.refl _ _ | apply below_alloc)⟩
set_option maxHeartbeats 8000000 in
set_option maxRecDepth 100000 in
theorem with_calls (s : SS) (x : Int) (w : World) (h0 : 0 ≤ x) (h1 : x < 256) :
    Calls Try.prog 20 #[s.val, .int .u8 x] w fun e w' => e = .returned (withS s x).val ∧ Below w.heap.size w w' := by
  obtain ⟨a, b, c, d⟩ := s
  have hu31 := Try.underlying31
  unfold withS SS.val
  dsimp only
  have hq : x / 64 = 0 ∨ x / 64 = 1 ∨ x / 64 = 2 ∨ x / 64 = 3 := by omega
  rcases hq with hq | hq | hq | hq
  all_goals
    rw [hq]
    simp only [SS.get, SS.set, if_true, Int.reduceEq, if_false]
    go_enter Try.func20, Try.ntmps20
    go_wp2
    (try simp only [Exit.inBlock, Exit.then])
    refine bodyPost_ret (ret_set ⟨_, _, _, _⟩ rfl rfl (heap2 w _ _)) rfl ?_
    exact ⟨rfl, by repeat (first | exact Below.refl _ _ | apply below_alloc)⟩
/-- a set's four cells written -/
def put4 (w : World) (g : Nat) (s : SS) : World := (((w.setCell ⟨g, 0, none⟩ (.int .u64 s.a)).setCell ⟨g, 1, none⟩ (.int .u64 s.b)).setCell ⟨g, 2, none⟩ (.int .u64 s.c)).setCell ⟨g, 3, none⟩ (.int .u64 s.d)
theorem put4_at {w : World} {g : Nat} {s0 : SS} (h : w.heap[g]? = some (.cells s0.cs 31 (0, 0))) (s : SS) : (put4 w g s).heap[g]? = some (.cells s.cs 31 (0, 0)) := by
  have h1 := blk_set (blk_set (blk_set (blk_set h 0 (.int .u64 s.a)) 1 (.int .u64 s.b)) 2 (.int .u64 s.c)) 3 (.int .u64 s.d)
  exact h1
theorem put4_far {w : World} {g k : Nat} {o : Obj} (h : w.heap[k]? = some o) (hk : k ≠ g) (s : SS) : (put4 w g s).heap[k]? = some o := by
  unfold put4
  rw [Below.heap_setCell _ _ _ _ hk, Below.heap_setCell _ _ _ _ hk, Below.heap_setCell _ _ _ _ hk, Below.heap_setCell _ _ _ _ hk]
  exact h
theorem put4_below {w W : World} {g : Nat} (h : Below w.heap.size w W) (hg : w.heap.size ≤ g) (s : SS) : Below w.heap.size w (put4 W g s) :=
  below_set (below_set (below_set (below_set h hg) hg) hg) hg
def ofS (l : List Int) : SS := l.foldl withS zeroS
theorem of_succ (l : List Int) (n : Nat) (h : n < l.length) : ofS (l.take (n + 1)) = withS (ofS (l.take n)) l[n] := by
  rw [List.take_succ_eq_append_getElem h]; unfold ofS; rw [List.foldl_append]; rfl
set_option maxHeartbeats 8000000 in
set_option maxRecDepth 100000 in
theorem of_calls (A0 : Option Addr) (c0 : Nat) (l0 : List Int) (w : World) (hr0 : Kd.C (Kd.int .u8) w A0 l0.length l0) (hc0 : l0.length ≤ c0) (hb : ∀ x ∈ l0, 0 ≤ x ∧ x < 256) :
    Calls Try.prog 17 #[.slice A0 l0.length c0] w fun e w' => e = .returned (ofS l0).val ∧ Below w.heap.size w w' := by
  have HR0 := Aside0.mk hr0
  have HC0 := Aside0.mk hc0
  have HBY := Aside0.mk hb
  have HM := Aside0.mk (show l0.length ≤ 9223372036854775807 from hr0.2.1)
  have hu31 := Try.underlying31
  clear hr0 hc0 hb
  go_enter Try.func17, Try.ntmps17
  go_wp2
  go_loopw [8] (fun v8 wr => ∃ n : Nat, v8 = .int .i64 (n : Int) ∧ Aside0 (n ≤ l0.length) ∧ Aside0 (wr.heap[w.heap.size + 1]? = some (.cells (ofS (l0.take n)).cs 31 (0, 0))) ∧ Aside0 (wr.heap[w.heap.size]? = some (.cells zeroS.cs 31 (0, 0))) ∧ Aside0 (Below w.heap.size w wr)) (fun i _ => l0.length - (intOf i).toNat)
  case atStart => exact ⟨0, rfl, ⟨Nat.zero_le _⟩, ⟨heap2 w _ _⟩, ⟨blk_alloc (blk_new w _) _⟩, ⟨by repeat (first | exact Below.refl _ _ | apply below_alloc)⟩⟩
  case round =>
    obtain ⟨n, rfl, HL, HS, HO, HB⟩ := hrel
    by_cases hlt : n < l0.length
    · have c2b0 : decide ((n : Int) < (l0.length : Int)) = true := decide_eq_true (by omega)
      have p101 : 0 ≤ (n : Int) := by omega
      have q101 : (n : Int) < (l0.length : Int) := by omega
      have HRw := Aside0.mk (Kd.C_below HR0.out HB.out)
      obtain ⟨ad101, e101, hx101_0⟩ := Kd.at_int HRw.out (n : Int) p101 q101
      cases e101
      rw [Int.toNat_natCast] at hx101_0
      replace p101 := eq_true p101
      replace q101 := eq_true q101
      have hd := of_succ l0 n hlt
      have hx : 0 ≤ rd l0 (n : Int) ∧ rd l0 (n : Int) < 256 := by rw [rd_n l0 n hlt]; exact HBY.out _ (List.getElem_mem hlt)
      rw [← rd_n l0 n hlt] at hd
      have HW := Aside0.mk (show wrap64 ((n : Int) + 1) = ((n + 1 : Nat) : Int) by have := HM.out; unfold wrap64; omega)
      have HD := Aside0.mk hd
      have HL1 := Aside0.mk hlt
      have hc := Aside0.mk (fun w => with_calls (ofS (l0.take n)) (rd l0 (n : Int)) w hx.1 hx.2)
      clear hd hlt hx
      generalize ofS (l0.take n) = s at hc HD HS
      obtain ⟨s', hs'⟩ : ∃ s', s' = withS s (rd l0 (n : Int)) := ⟨_, rfl⟩
      rw [← hs'] at hc HD
      clear hs'
      generalize hxv : rd l0 (n : Int) = xv at hc hx101_0
      clear hxv
      obtain ⟨a, b, c, d⟩ := s
      obtain ⟨a', b', c', d'⟩ := s'
      have k0 : wr.cell? ⟨w.heap.size + 1, 0, none⟩ = some (.int .u64 a) := (blk_cell HS.out 0).trans rfl
      have k1 : wr.cell? ⟨w.heap.size + 1, 1, none⟩ = some (.int .u64 b) := (blk_cell HS.out 1).trans rfl
      have k2 : wr.cell? ⟨w.heap.size + 1, 2, none⟩ = some (.int .u64 c) := (blk_cell HS.out 2).trans rfl
      have k3 : wr.cell? ⟨w.heap.size + 1, 3, none⟩ = some (.int .u64 d) := (blk_cell HS.out 3).trans rfl
      go_wp2_with fail
      refine (hc.out _).mono ?_
      rintro e w3 ⟨rfl, hb3⟩
      have HS3 := Aside0.mk (show w3.heap[w.heap.size + 1]? = some (.cells (SS.cs ⟨a, b, c, d⟩) 31 (0, 0)) from blk_below HS.out hb3)
      have HO3 := Aside0.mk (show w3.heap[w.heap.size]? = some (.cells zeroS.cs 31 (0, 0)) from blk_below HO.out hb3)
      have HB3 := Aside0.mk (below_step HB.out hb3)
      clear k0 k1 k2 k3 hb3 hc hx101_0
      have k0 : w3.cell? ⟨w.heap.size + 1, 0, none⟩ = some (.int .u64 a) := (blk_cell HS3.out 0).trans rfl
      have k1 : w3.cell? ⟨w.heap.size + 1, 1, none⟩ = some (.int .u64 b) := (blk_cell HS3.out 1).trans rfl
      have k2 : w3.cell? ⟨w.heap.size + 1, 2, none⟩ = some (.int .u64 c) := (blk_cell HS3.out 2).trans rfl
      have k3 : w3.cell? ⟨w.heap.size + 1, 3, none⟩ = some (.int .u64 d) := (blk_cell HS3.out 3).trans rfl
      have f0 := blk_frozen HS3.out 0
      have f1 := blk_frozen HS3.out 1
      have f2 := blk_frozen HS3.out 2
      have f3 := blk_frozen HS3.out 3
      unfold SS.val
      dsimp only
      go_wp2
      go_roundw
      case rel => exact ⟨n + 1, by rw [HW.out], ⟨HL1.out⟩, ⟨by rw [HD.out]; exact put4_at HS3.out ⟨a', b', c', d'⟩⟩, ⟨put4_far HO3.out (by omega) ⟨a', b', c', d'⟩⟩, ⟨put4_below HB3.out (by omega) ⟨a', b', c', d'⟩⟩⟩
      case measure => have := HL1.out; rw [HW.out]; simp [intOf]; omega
    · have c2b0 : decide ((n : Int) < (l0.length : Int)) = false := decide_eq_false (by omega)
      have c2b1 : decide (n < l0.length) = false := decide_eq_false hlt
      rw [List.take_of_length_le (by omega)] at HS
      clear hlt
      obtain ⟨s, hs⟩ : ∃ s, s = ofS l0 := ⟨_, rfl⟩
      rw [← hs] at HS
      obtain ⟨a, b, c, d⟩ := s
      have HEQ := Aside0.mk hs
      clear hs
      have k0 : wr.cell? ⟨w.heap.size + 1, 0, none⟩ = some (.int .u64 a) := (blk_cell HS.out 0).trans rfl
      have k1 : wr.cell? ⟨w.heap.size + 1, 1, none⟩ = some (.int .u64 b) := (blk_cell HS.out 1).trans rfl
      have k2 : wr.cell? ⟨w.heap.size + 1, 2, none⟩ = some (.int .u64 c) := (blk_cell HS.out 2).trans rfl
      have k3 : wr.cell? ⟨w.heap.size + 1, 3, none⟩ = some (.int .u64 d) := (blk_cell HS.out 3).trans rfl
      have f0 := blk_frozen HO.out 0
      have f1 := blk_frozen HO.out 1
      have f2 := blk_frozen HO.out 2
      have f3 := blk_frozen HO.out 3
      have o0 : wr.cell? ⟨w.heap.size, 0, none⟩ = some (.int .u64 0) := (blk_cell HO.out 0).trans rfl
      have o1 : wr.cell? ⟨w.heap.size, 1, none⟩ = some (.int .u64 0) := (blk_cell HO.out 1).trans rfl
      have o2 : wr.cell? ⟨w.heap.size, 2, none⟩ = some (.int .u64 0) := (blk_cell HO.out 2).trans rfl
      have o3 : wr.cell? ⟨w.heap.size, 3, none⟩ = some (.int .u64 0) := (blk_cell HO.out 3).trans rfl
      go_wp2
      (try simp only [Exit.inBlock, Exit.then])
      refine bodyPost_ret (ret_set ⟨a, b, c, d⟩ rfl rfl (put4_at HO.out ⟨a, b, c, d⟩)) rfl ?_
      exact ⟨by rw [← HEQ.out], put4_below HB.out (Nat.le_refl _) ⟨a, b, c, d⟩⟩
theorem pop_some (x : Int) : (bits_OnesCount64.f x).isSome = true := by unfold bits_OnesCount64.f; exact Option.isSome_some
def popI (x : Int) : Int := (bits_OnesCount64.f x).get (pop_some x)
theorem pop_f (x : Int) : bits_OnesCount64.f x = some (popI x) := (Option.some_get _).symm
theorem idx0 (a b c d : Int) (w : World) : (Instr.index 31 (.agg #[.int .u64 a, .int .u64 b, .int .u64 c, .int .u64 d]) (.int .i64 0)).run Try.prog w = .ok (.int .u64 a) w := by
  have hu31 := Try.underlying31
  have hu29 := Try.underlying29
  rw [Instr.index]
  go_simp
theorem idx1 (a b c d : Int) (w : World) : (Instr.index 31 (.agg #[.int .u64 a, .int .u64 b, .int .u64 c, .int .u64 d]) (.int .i64 1)).run Try.prog w = .ok (.int .u64 b) w := by
  have hu31 := Try.underlying31
  have hu29 := Try.underlying29
  rw [Instr.index]
  go_simp
theorem idx2 (a b c d : Int) (w : World) : (Instr.index 31 (.agg #[.int .u64 a, .int .u64 b, .int .u64 c, .int .u64 d]) (.int .i64 2)).run Try.prog w = .ok (.int .u64 c) w := by
  have hu31 := Try.underlying31
  have hu29 := Try.underlying29
  rw [Instr.index]
  go_simp
theorem idx3 (a b c d : Int) (w : World) : (Instr.index 31 (.agg #[.int .u64 a, .int .u64 b, .int .u64 c, .int .u64 d]) (.int .i64 3)).run Try.prog w = .ok (.int .u64 d) w := by
  have hu31 := Try.underlying31
  have hu29 := Try.underlying29
  rw [Instr.index]
  go_simp
def lenUp (s : SS) : Nat → Int
  | 0 => 0
  | n + 1 => wrap64 (lenUp s n + popI (s.get n))
def lenS (s : SS) : Int := lenUp s 4
set_option maxHeartbeats 8000000 in
set_option maxRecDepth 100000 in
theorem len_calls (s : SS) (w : World) :
    Calls Try.prog 19 #[s.val] w fun e w' => e = .returned (.int .i64 (lenS s)) ∧ Below w.heap.size w w' := by
  obtain ⟨l, hl⟩ : ∃ l, l = lenS s := ⟨_, rfl⟩
  rw [← hl]
  have HLN := Aside0.mk hl
  clear hl
  have H1 := Aside0.mk (show ∀ n, lenUp s (n + 1) = wrap64 (lenUp s n + popI (s.get n)) from fun _ => rfl)
  have H0 := Aside0.mk (show lenUp s 0 = 0 from rfl)
  unfold lenS at HLN
  generalize lenUp s = L at HLN H1 H0
  obtain ⟨a, b, c, d⟩ := s
  have hu31 := Try.underlying31
  have HP := Aside0.mk (fun (x : Int) (w : World) => bits_OnesCount64.calls x (popI x) w (pop_f x))
  unfold SS.val
  dsimp only
  go_enter Try.func19, Try.ntmps19
  go_wp2
  go_loopw [3, 7] (fun v3 v7 wr => ∃ n : Nat, v7 = .int .i64 (n : Int) ∧ v3 = .int .i64 (L n) ∧ Aside0 (n ≤ 4) ∧ Aside0 (Below w.heap.size w wr)) (fun _ i _ => 4 - (intOf i).toNat)
  case atStart => exact ⟨0, rfl, by rw [H0.out], ⟨by omega⟩, ⟨by repeat (first | exact Below.refl _ _ | apply below_alloc)⟩⟩
  case round =>
    obtain ⟨n, rfl, rfl, HL, HB⟩ := hrel
    have HN1 := Aside0.mk (H1.out n)
    have hc : n = 0 ∨ n = 1 ∨ n = 2 ∨ n = 3 ∨ n = 4 := by have := HL.out; omega
    rcases hc with rfl | rfl | rfl | rfl | rfl
    iterate 4
      · have i0 := idx0 a b c d
        have i1 := idx1 a b c d
        have i2 := idx2 a b c d
        have i3 := idx3 a b c d
        have HN2 := HN1.out
        simp [SS.get] at HN2
        replace HN1 := Aside0.mk HN2
        clear HN2
        go_wp2_with fail
        refine (HP.out _ _).mono ?_
        rintro e w3 ⟨rfl, ⟨nd, rfl⟩⟩
        go_wp2
        go_roundw
        case rel => first | exact ⟨1, rfl, by rw [HN1.out], ⟨by decide⟩, ⟨by repeat (first | exact HB.out | apply pw_below_drewN | apply below_drew1)⟩⟩ | exact ⟨2, rfl, by rw [HN1.out], ⟨by decide⟩, ⟨by repeat (first | exact HB.out | apply pw_below_drewN | apply below_drew1)⟩⟩ | exact ⟨3, rfl, by rw [HN1.out], ⟨by decide⟩, ⟨by repeat (first | exact HB.out | apply pw_below_drewN | apply below_drew1)⟩⟩ | exact ⟨4, rfl, by rw [HN1.out], ⟨by decide⟩, ⟨by repeat (first | exact HB.out | apply pw_below_drewN | apply below_drew1)⟩⟩
        case measure => simp [intOf]
    · go_wp2
      go_ret
      exact ⟨by rw [HLN.out]; rfl, HB.out⟩
/-- the first numbers of the union of two sets, the rest of the first one -/
def mixS (s o : SS) (n : Nat) : SS := ⟨if 0 < n then bits .or .u64 s.a o.a else s.a, if 1 < n then bits .or .u64 s.b o.b else s.b, if 2 < n then bits .or .u64 s.c o.c else s.c, if 3 < n then bits .or .u64 s.d o.d else s.d⟩
set_option maxHeartbeats 8000000 in
set_option maxRecDepth 100000 in
theorem union_calls (s o : SS) (w : World) :
    Calls Try.prog 18 #[s.val, o.val] w fun e w' => e = .returned (unionS s o).val ∧ Below w.heap.size w w' := by
  obtain ⟨a, b, c, d⟩ := s
  obtain ⟨a', b', c', d'⟩ := o
  have hu31 := Try.underlying31
  unfold SS.val
  dsimp only
  go_enter Try.func18, Try.ntmps18
  go_wp2
  go_loopw [8] (fun v8 wr => ∃ n : Nat, v8 = .int .i64 (n : Int) ∧ Aside0 (n ≤ 4) ∧ Aside0 (wr.heap[w.heap.size]? = some (.cells (mixS ⟨a, b, c, d⟩ ⟨a', b', c', d'⟩ n).cs 31 (0, 0))) ∧ Aside0 (wr.heap[w.heap.size + 1 + 1]? = some (.cells zeroS.cs 31 (0, 0))) ∧ Aside0 (Below w.heap.size w wr)) (fun i _ => 4 - (intOf i).toNat)
  case atStart => exact ⟨0, rfl, ⟨by omega⟩, ⟨blk_alloc (blk_alloc (blk_new w _) _) _⟩, ⟨by have := heap2 (w.alloc (.cells #[.int .u64 a, .int .u64 b, .int .u64 c, .int .u64 d] 31)) (.cells #[.int .u64 a', .int .u64 b', .int .u64 c', .int .u64 d'] 31) (.cells zeroS.cs 31); rwa [World.size_alloc] at this⟩, ⟨by repeat (first | exact Below.refl _ _ | apply below_alloc)⟩⟩
  case round =>
    obtain ⟨n, rfl, HL, HS, HO, HB⟩ := hrel
    have hc : n = 0 ∨ n = 1 ∨ n = 2 ∨ n = 3 ∨ n = 4 := by have := HL.out; omega
    rcases hc with rfl | rfl | rfl | rfl | rfl
    · have i0 := idx0 a' b' c' d'
      have HS2 := Aside0.mk (show wr.heap[w.heap.size]? = some (.cells #[(.int .u64 a), (.int .u64 b), (.int .u64 c), (.int .u64 d)] 31 (0, 0)) from HS.out)
      have k0 : wr.cell? ⟨w.heap.size, 0, none⟩ = some (.int .u64 a) := (blk_cell HS2.out 0).trans rfl
      have f0 := blk_frozen HS2.out 0
      go_wp2
      go_roundw
      case rel => exact ⟨1, rfl, ⟨by decide⟩, ⟨(blk_set HS2.out 0 _).trans rfl⟩, ⟨blk_far HO.out (by show w.heap.size + 1 + 1 ≠ w.heap.size; omega) _⟩, ⟨below_set HB.out (Nat.le_refl _)⟩⟩
      case measure => simp [intOf]
    · have i1 := idx1 a' b' c' d'
      have HS2 := Aside0.mk (show wr.heap[w.heap.size]? = some (.cells #[(.int .u64 (bits .or .u64 a a')), (.int .u64 b), (.int .u64 c), (.int .u64 d)] 31 (0, 0)) from HS.out)
      have k0 : wr.cell? ⟨w.heap.size, 1, none⟩ = some (.int .u64 b) := (blk_cell HS2.out 1).trans rfl
      have f0 := blk_frozen HS2.out 1
      go_wp2
      go_roundw
      case rel => exact ⟨2, rfl, ⟨by decide⟩, ⟨(blk_set HS2.out 1 _).trans rfl⟩, ⟨blk_far HO.out (by show w.heap.size + 1 + 1 ≠ w.heap.size; omega) _⟩, ⟨below_set HB.out (Nat.le_refl _)⟩⟩
      case measure => simp [intOf]
    · have i2 := idx2 a' b' c' d'
      have HS2 := Aside0.mk (show wr.heap[w.heap.size]? = some (.cells #[(.int .u64 (bits .or .u64 a a')), (.int .u64 (bits .or .u64 b b')), (.int .u64 c), (.int .u64 d)] 31 (0, 0)) from HS.out)
      have k0 : wr.cell? ⟨w.heap.size, 2, none⟩ = some (.int .u64 c) := (blk_cell HS2.out 2).trans rfl
      have f0 := blk_frozen HS2.out 2
      go_wp2
      go_roundw
      case rel => exact ⟨3, rfl, ⟨by decide⟩, ⟨(blk_set HS2.out 2 _).trans rfl⟩, ⟨blk_far HO.out (by show w.heap.size + 1 + 1 ≠ w.heap.size; omega) _⟩, ⟨below_set HB.out (Nat.le_refl _)⟩⟩
      case measure => simp [intOf]
    · have i3 := idx3 a' b' c' d'
      have HS2 := Aside0.mk (show wr.heap[w.heap.size]? = some (.cells #[(.int .u64 (bits .or .u64 a a')), (.int .u64 (bits .or .u64 b b')), (.int .u64 (bits .or .u64 c c')), (.int .u64 d)] 31 (0, 0)) from HS.out)
      have k0 : wr.cell? ⟨w.heap.size, 3, none⟩ = some (.int .u64 d) := (blk_cell HS2.out 3).trans rfl
      have f0 := blk_frozen HS2.out 3
      go_wp2
      go_roundw
      case rel => exact ⟨4, rfl, ⟨by decide⟩, ⟨(blk_set HS2.out 3 _).trans rfl⟩, ⟨blk_far HO.out (by show w.heap.size + 1 + 1 ≠ w.heap.size; omega) _⟩, ⟨below_set HB.out (Nat.le_refl _)⟩⟩
      case measure => simp [intOf]
    · have HS2 := Aside0.mk (show wr.heap[w.heap.size]? = some (.cells #[(.int .u64 (bits .or .u64 a a')), (.int .u64 (bits .or .u64 b b')), (.int .u64 (bits .or .u64 c c')), (.int .u64 (bits .or .u64 d d'))] 31 (0, 0)) from HS.out)
      have k0 : wr.cell? ⟨w.heap.size, 0, none⟩ = some (.int .u64 (bits .or .u64 a a')) := (blk_cell HS2.out 0).trans rfl
      have k1 : wr.cell? ⟨w.heap.size, 1, none⟩ = some (.int .u64 (bits .or .u64 b b')) := (blk_cell HS2.out 1).trans rfl
      have k2 : wr.cell? ⟨w.heap.size, 2, none⟩ = some (.int .u64 (bits .or .u64 c c')) := (blk_cell HS2.out 2).trans rfl
      have k3 : wr.cell? ⟨w.heap.size, 3, none⟩ = some (.int .u64 (bits .or .u64 d d')) := (blk_cell HS2.out 3).trans rfl
      have o0 : wr.cell? ⟨w.heap.size + 1 + 1, 0, none⟩ = some (.int .u64 0) := (blk_cell HO.out 0).trans rfl
      have f0 := blk_frozen HO.out 0
      have o1 : wr.cell? ⟨w.heap.size + 1 + 1, 1, none⟩ = some (.int .u64 0) := (blk_cell HO.out 1).trans rfl
      have f1 := blk_frozen HO.out 1
      have o2 : wr.cell? ⟨w.heap.size + 1 + 1, 2, none⟩ = some (.int .u64 0) := (blk_cell HO.out 2).trans rfl
      have f2 := blk_frozen HO.out 2
      have o3 : wr.cell? ⟨w.heap.size + 1 + 1, 3, none⟩ = some (.int .u64 0) := (blk_cell HO.out 3).trans rfl
      have f3 := blk_frozen HO.out 3
      go_wp2
      (try simp only [Exit.inBlock, Exit.then])
      refine bodyPost_ret (ret_set ⟨bits .or .u64 a a', bits .or .u64 b b', bits .or .u64 c c', bits .or .u64 d d'⟩ rfl rfl (put4_at HO.out ⟨bits .or .u64 a a', bits .or .u64 b b', bits .or .u64 c c', bits .or .u64 d d'⟩)) rfl ?_
      exact ⟨rfl, put4_below HB.out (by omega) ⟨bits .or .u64 a a', bits .or .u64 b b', bits .or .u64 c c', bits .or .u64 d d'⟩⟩
theorem eq4 (k : Nat) (a b c d a' b' c' d' : Int) (w : World) :
   (Op.equalIn (k + 2) 31 (.agg #[.int .u64 a, .int .u64 b, .int .u64 c, .int .u64 d]) (.agg #[.int .u64 a', .int .u64 b', .int .u64 c', .int .u64 d'])).run Try.prog w = .ok (a == a' && (b == b' && (c == c' && d == d'))) w := by
  have hu29 := Try.underlying29
  obtain ⟨i29, hi29⟩ : ∃ i, Try.prog.info? 29 = some i := Option.isSome_iff_exists.mp (show (Try.prog.info? 29).isSome = true by kernel_rfl)
  rw [run_equalIn_array (P := Try.prog) w (k + 1) (t := 31) (e := 29) (n := 4) _ _ Try.underlying31 hi29, show Try.prog.cellsOf 29 = 1 by kernel_rfl]
  simp only [show List.range 4 = [0, 1, 2, 3] by decide, Op.eqItems]
  go_simp
  by_cases h1 : a = a' <;> by_cases h2 : b = b' <;> by_cases h3 : c = c' <;> by_cases h4 : d = d' <;> simp [*]
section
attribute [local go_sem high] eq4
def listS (s : SS) : List Int := ((List.range 256).map (fun (n : Nat) => (n : Int))).filter (hasS s)
def upS (s : SS) (n : Nat) : List Int := ((List.range n).map (fun (n : Nat) => (n : Int))).filter (hasS s)
theorem upS_succ (s : SS) (n : Nat) : upS s (n + 1) = if hasS s (n : Int) = true then upS s n ++ [(n : Int)] else upS s n := by
  unfold upS
  rw [List.range_succ, List.map_append, List.filter_append]
  by_cases h : hasS s (n : Int) = true
  · simp [h]
  · simp [h]
theorem upS_len (s : SS) (n : Nat) : (upS s n).length ≤ n := by
  unfold upS
  refine Nat.le_trans (List.length_filter_le _ _) ?_
  simp
theorem upS_nil (s : SS) (h : s = zeroS) (n : Nat) : upS s n = [] := by
  subst h
  induction n with
  | zero => rfl
  | succ n ih =>
    rw [upS_succ, ih, if_neg]
    unfold hasS
    have : (SS.get zeroS ((n : Int) / 64)) = 0 := by unfold SS.get zeroS; split <;> (try split) <;> (try split) <;> rfl
    rw [this, Int.zero_ediv]
    decide
set_option maxHeartbeats 8000000 in
set_option maxRecDepth 100000 in
theorem list_calls (s : SS) (w : World) :
    Calls Try.prog 24 #[s.val] w fun e w' => ∃ v0_ : Value, e = .returned v0_ ∧ Kd.R (Kd.int .u8) 5 w' w.heap.size (fun _ => True) v0_ (listS s) ∧ Below w.heap.size w w' := by
  have HN := Aside0.mk (upS_nil s)
  have HF := Aside0.mk (show listS s = upS s 256 from rfl)
  have HSU := Aside0.mk (upS_succ s)
  have HLN := Aside0.mk (upS_len s)
  have HH := Aside0.mk (fun (x : Int) (w : World) => has_calls s x w)
  generalize listS s = L at HF ⊢
  generalize upS s = U at HN HF HSU HLN
  generalize hasS s = hf at HSU HH
  obtain ⟨a, b, c, d⟩ := s
  have hu31 := Try.underlying31
  unfold SS.val at HH ⊢
  dsimp only at HH ⊢
  cases he : (a == 0 && (b == 0 && (c == 0 && d == 0)))
  · go_enter Try.func24, Try.ntmps24
    go_wp2
    go_loopw [3, 8] (fun v3 v8 wr => ∃ n : Nat, v8 = .int .i64 (n : Int) ∧ Aside0 (n ≤ 256) ∧ Aside0 (Kd.R (Kd.int .u8) 5 wr w.heap.size (fun k => k ≠ w.heap.size) v3 (U n)) ∧ Aside0 (wr.heap[w.heap.size]? = some (.cells (SS.cs ⟨a, b, c, d⟩) 31 (0, 0))) ∧ Aside0 (Below w.heap.size w wr)) (fun _ i _ => 256 - (intOf i).toNat)
    case atStart =>
      refine ⟨0, rfl, ⟨by omega⟩, ⟨?_⟩, ⟨blk_new w _⟩, ⟨by repeat (first | exact Below.refl _ _ | apply below_alloc)⟩⟩
      have h0 : U 0 = [] := List.length_eq_zero_iff.mp (Nat.le_zero.mp (HLN.out 0))
      rw [h0]
      exact Kd.R_nil _ _ _ _ _
    case round =>
      obtain ⟨n, rfl, HL, HR, HS, HB⟩ := hrel
      by_cases hlt : n < 256
      · have c2b0 : decide ((n : Int) < 256) = true := decide_eq_true (by omega)
        have c2b1 : decide (n < 256) = true := decide_eq_true hlt
        have hm : (n : Int) % 256 = (n : Int) := by omega
        have hw8 : IntKind.u8.wrap (n : Int) = (n : Int) := IntWalk.u8_in _ (by omega)
        have HW := Aside0.mk (show wrap64 ((n : Int) + 1) = ((n + 1 : Nat) : Int) by unfold wrap64; omega)
        have k0 : wr.cell? ⟨w.heap.size, 0, none⟩ = some (.int .u64 a) := (blk_cell HS.out 0).trans rfl
        have k1 : wr.cell? ⟨w.heap.size, 1, none⟩ = some (.int .u64 b) := (blk_cell HS.out 1).trans rfl
        have k2 : wr.cell? ⟨w.heap.size, 2, none⟩ = some (.int .u64 c) := (blk_cell HS.out 2).trans rfl
        have k3 : wr.cell? ⟨w.heap.size, 3, none⟩ = some (.int .u64 d) := (blk_cell HS.out 3).trans rfl
        have hc := Aside0.mk (fun w => HH.out (n : Int) w (by omega) (by omega))
        have hs := HSU.out n
        have HLT := Aside0.mk hlt
        clear hlt
        cases hq : hf (n : Int)
        · rw [hq] at hs hc
          have HU := Aside0.mk (show U (n + 1) = U n by simpa using hs)
          clear hs
          go_wp2_with fail
          refine (hc.out _).mono ?_
          rintro e w3 ⟨rfl, hb3⟩
          have HS3 := Aside0.mk (blk_below HS.out hb3)
          have HR3 := Aside0.mk (Kd.R_below HR.out hb3)
          have HB3 := Aside0.mk (below_step HB.out hb3)
          go_wp2
          go_roundw
          case rel => exact ⟨n + 1, by first | (rw [HW.out]; done) | rfl, ⟨HLT.out⟩, ⟨by rw [HU.out]; exact HR3.out⟩, ⟨HS3.out⟩, ⟨HB3.out⟩⟩
          case measure => have := HLT.out; (try rw [HW.out]); simp [intOf]; omega
        · rw [hq] at hs hc
          have HU := Aside0.mk (show U (n + 1) = U n ++ [(n : Int)] by simpa using hs)
          clear hs
          have HLIM := Aside0.mk (show ((U n).length + 1) * 1 ≤ 140737488355328 by have := HLN.out n; have := HLT.out; omega)
          go_wp2_with fail
          refine (hc.out _).mono ?_
          rintro e w3 ⟨rfl, hb3⟩
          have HS3 := Aside0.mk (blk_below HS.out hb3)
          have HR3 := Aside0.mk (Kd.R_below HR.out hb3)
          have HB3 := Aside0.mk (below_step HB.out hb3)
          clear k0 k1 k2 k3
          go_wp2_with (at_builtin; refine Kd.R_append (Kd.int .u8) (w0 := w) w.heap.size rfl (.tmp 15) (.tmp 18) 22 5 (.int .u8 0) 1 rfl Try.underlying22 info5 rfl (by decide) (by decide) _ (U n) (n : Int) [.int .u8 (n : Int)] (fun k => k ≠ w.heap.size) (fun _ => False) rfl rfl rfl (fun _ h => h.elim) (fun k hk => by have h1 := HB3.out.size; have h2 := blk_lt HS3.out; omega) HR3.out HB3.out HB3.out.size HLIM.out ?_; intro v1 w1 hr1 hb1 hg1 hat1)
          go_roundw
          case rel => exact ⟨n + 1, by first | (rw [HW.out]; done) | rfl, ⟨HLT.out⟩, ⟨by rw [HU.out]; exact hr1⟩, ⟨blk_grown HS3.out hg1 (fun e => HR3.out.1 _ e.symm rfl)⟩, ⟨hb1⟩⟩
          case measure => have := HLT.out; (try rw [HW.out]); simp [intOf]; omega
      · have c2b0 : decide ((n : Int) < 256) = false := decide_eq_false (by omega)
        have c2b1 : decide (n < 256) = false := decide_eq_false hlt
        obtain rfl : n = 256 := by have := HL.out; omega
        clear hlt
        go_wp2
        go_ret
        exact ⟨_, rfl, by rw [HF.out]; exact Kd.R_mono HR.out (fun _ _ => trivial), HB.out⟩
  · go_enter Try.func24, Try.ntmps24
    go_wp2
    go_ret
    exact ⟨_, rfl, by
      have hz : (⟨a, b, c, d⟩ : SS) = zeroS := by
        simp only [Bool.and_eq_true, beq_iff_eq] at he
        obtain ⟨rfl, rfl, rfl, rfl⟩ := he
        rfl
      rw [HF.out, HN.out hz]
      exact Kd.R_nil _ _ _ _ _, by repeat (first | exact Below.refl _ _ | apply below_alloc)⟩
end
/-- a row of bytes that a constant text was laid as -/
theorem const_reads (w : World) (xs : List Int) (e : TypeId) (fr : Nat × Nat) (hm : xs.length ≤ 9223372036854775807) :
    Kd.C (Kd.int .u8) (w.alloc (.cells (xs.map (Value.int .u8)).toArray e fr)) (some ⟨w.heap.size, 0, none⟩) xs.length xs := by
  refine Kd.C_of_reads (d := (0 : Int)) (h1 := fun _ => rfl) ⟨rfl, hm, fun _ => ⟨_, rfl, fun j hj => ?_⟩⟩
  rw [add_plain, World.cell?_alloc_mark]
  simp [List.getD_eq_getElem?_getD, List.getElem?_eq_getElem hj]
def ws0 : List Int := [0, 64, 65]
def ws1 : List Int := [65, 98, 95, 57]
def ws1' : List Int := [97, 98, 95, 57]
def ws2 : List Int := [97, 91]
def ws3 : List Int := [65]
def s0 : SS := ⟨1, 3, 0, 0⟩
section
attribute [local go_sem high] eq4
set_option maxHeartbeats 8000000 in
set_option maxRecDepth 100000 in
theorem awake_calls (w : World) :
    Calls Try.prog 9 #[] w fun e w' => e = .returned (.bool true) ∧ Below w.heap.size w w' := by
  have hu31 := Try.underlying31
  have kc := fun (w : World) (C : Array Value) (n c : Nat) => Lib.run_convert_bytes_const (P := Try.prog) w 22 5 C n c Try.underlying22 Try.underlying5
  have HOF := Aside0.mk (fun w => of_calls (some ⟨w.heap.size, 0, none⟩) 3 ws0 (w.alloc (.cells (ws0.map (Value.int .u8)).toArray 5 (0, 0))) (const_reads w ws0 5 (0, 0) (by decide)) (by decide) (by decide))
  have HS0 := Aside0.mk (show (ofS ws0).val = .agg #[.int .u64 1, .int .u64 3, .int .u64 0, .int .u64 0] by kernel_rfl)
  go_enter Try.func9, Try.ntmps9
  go_wp2_with fail
  refine (HOF.out w).mono ?_
  rintro e w1 ⟨rfl, hb⟩
  rw [HS0.out]
  have HB1 := Aside0.mk (below_step (below_alloc (Below.refl w.heap.size w) (.cells (ws0.map (Value.int .u8)).toArray 5 (0, 0))) hb)
  clear hb HOF HS0
  have kc1 := kc (w1.alloc (.cells #[.int .u64 1, .int .u64 3, .int .u64 0, .int .u64 0] 31)) #[.int .u8 65, .int .u8 98, .int .u8 95, .int .u8 57] 4 4
  rw [World.size_alloc] at kc1
  have hc1 := const_reads (w1.alloc (.cells #[.int .u64 1, .int .u64 3, .int .u64 0, .int .u64 0] 31)) ws1 5 (4, 5) (by decide)
  rw [World.size_alloc] at hc1
  have HBY := Aside0.mk (bytes_calls _ 4 ws1 _ hc1 (by decide) (by decide))
  have HBX := Aside0.mk (below_alloc (below_alloc HB1.out (.cells #[.int .u64 1, .int .u64 3, .int .u64 0, .int .u64 0] 31)) (.cells (ws1.map (Value.int .u8)).toArray 5 (4, 5)))
  have HBOX := Aside0.mk (blk_alloc (blk_new w1 (.cells #[.int .u64 1, .int .u64 3, .int .u64 0, .int .u64 0] 31)) (.cells (ws1.map (Value.int .u8)).toArray 5 (4, 5)))
  clear hc1
  go_wp2_with fail
  refine HBY.out.mono ?_
  rintro e w2 ⟨v2, rfl, hr2, hb2⟩
  rw [show ws1.map byteI = ws1' by decide] at hr2
  obtain ⟨A2, c2, rfl, hd2, hC2⟩ := Kd.R_reads hr2
  have hcv := Kd.C_string (P := Try.prog) (A := A2) (c := c2) Try.underlying22 Try.underlying5 Try.underlying9 hC2
  have hbox := blk_below HBOX.out hb2
  have k0 : w2.cell? ⟨w1.heap.size, 0, none⟩ = some (.int .u64 1) := (blk_cell hbox 0).trans rfl
  have k1 : w2.cell? ⟨w1.heap.size, 1, none⟩ = some (.int .u64 3) := (blk_cell hbox 1).trans rfl
  have k2 : w2.cell? ⟨w1.heap.size, 2, none⟩ = some (.int .u64 0) := (blk_cell hbox 2).trans rfl
  have k3 : w2.cell? ⟨w1.heap.size, 3, none⟩ = some (.int .u64 0) := (blk_cell hbox 3).trans rfl
  have hss : strOfNums ws1' = ⟨#[97, 98, 95, 57]⟩ := by decide +kernel
  rw [hss] at hcv
  clear hss
  have HBOX2 := Aside0.mk hbox
  have HB2 := Aside0.mk (below_step HBX.out hb2)
  clear hr2 hb2 hC2 hd2 hbox kc1 HBOX HBX HBY
  have HH1 := Aside0.mk (fun w => (show hasS ⟨1, 3, 0, 0⟩ 65 = true by kernel_rfl) ▸ has_calls ⟨1, 3, 0, 0⟩ 65 w (by decide) (by decide))
  have HH2 := Aside0.mk (fun w => (show hasS ⟨1, 3, 0, 0⟩ 66 = false by kernel_rfl) ▸ has_calls ⟨1, 3, 0, 0⟩ 66 w (by decide) (by decide))
  have HLN := Aside0.mk (fun w => (show lenS ⟨1, 3, 0, 0⟩ = 3 by decide +kernel) ▸ len_calls ⟨1, 3, 0, 0⟩ w)
  have HW1 := Aside0.mk (fun w => fold_Word.calls 95 true w (by decide +kernel))
  have HW2 := Aside0.mk (fun w => fold_Word.calls 45 false w (by decide +kernel))
  have HBT := Aside0.mk (fun w => fold_Byte.calls 90 122 w (by decide +kernel))
  have HF1 := Aside0.mk (fun w => fold_Fixed.calls (some ⟨w.heap.size, 0, none⟩) 2 ws2 true (w.alloc (.cells (ws2.map (Value.int .u8)).toArray 5 (2, 3))) (const_reads w ws2 5 (2, 3) (by decide)) (by decide) (by decide +kernel))
  have HF2 := Aside0.mk (fun w => fold_Fixed.calls (some ⟨w.heap.size, 0, none⟩) 1 ws3 false (w.alloc (.cells (ws3.map (Value.int .u8)).toArray 5 (1, 2))) (const_reads w ws3 5 (1, 2) (by decide)) (by decide) (by decide +kernel))
  go_wp2_with fail
  refine (HH1.out _).mono ?_
  rintro e w3 ⟨rfl, hb⟩
  have HBOX3 := Aside0.mk (blk_below HBOX2.out hb)
  have HB3 := Aside0.mk (below_step HB2.out hb)
  clear hb k0 k1 k2 k3
  have k0 : w3.cell? ⟨w1.heap.size, 0, none⟩ = some (.int .u64 1) := (blk_cell HBOX3.out 0).trans rfl
  have k1 : w3.cell? ⟨w1.heap.size, 1, none⟩ = some (.int .u64 3) := (blk_cell HBOX3.out 1).trans rfl
  have k2 : w3.cell? ⟨w1.heap.size, 2, none⟩ = some (.int .u64 0) := (blk_cell HBOX3.out 2).trans rfl
  have k3 : w3.cell? ⟨w1.heap.size, 3, none⟩ = some (.int .u64 0) := (blk_cell HBOX3.out 3).trans rfl
  go_wp2_with fail
  refine (HH2.out _).mono ?_
  rintro e w4 ⟨rfl, hb⟩
  have HBOX4 := Aside0.mk (blk_below HBOX3.out hb)
  have HB4 := Aside0.mk (below_step HB3.out hb)
  clear hb k0 k1 k2 k3
  have k0 : w4.cell? ⟨w1.heap.size, 0, none⟩ = some (.int .u64 1) := (blk_cell HBOX4.out 0).trans rfl
  have k1 : w4.cell? ⟨w1.heap.size, 1, none⟩ = some (.int .u64 3) := (blk_cell HBOX4.out 1).trans rfl
  have k2 : w4.cell? ⟨w1.heap.size, 2, none⟩ = some (.int .u64 0) := (blk_cell HBOX4.out 2).trans rfl
  have k3 : w4.cell? ⟨w1.heap.size, 3, none⟩ = some (.int .u64 0) := (blk_cell HBOX4.out 3).trans rfl
  go_wp2_with fail
  refine (HLN.out _).mono ?_
  rintro e w5 ⟨rfl, hb⟩
  have HB5 := Aside0.mk (below_step HB4.out hb)
  clear hb k0 k1 k2 k3
  go_wp2_with fail
  refine (HW1.out _).mono ?_
  rintro e w6 ⟨rfl, hd⟩
  have HB6 := Aside0.mk (below_step HB5.out hd.below)
  clear hd
  go_wp2_with fail
  refine (HW2.out _).mono ?_
  rintro e w7 ⟨rfl, hd⟩
  have HB7 := Aside0.mk (below_step HB6.out hd.below)
  clear hd
  go_wp2_with fail
  refine (HBT.out _).mono ?_
  rintro e w8 ⟨rfl, hd⟩
  have HB8 := Aside0.mk (below_step HB7.out hd.below)
  clear hd
  go_wp2_with fail
  refine (HF1.out _).mono ?_
  rintro e w9 ⟨rfl, hd⟩
  have HB9 := Aside0.mk (below_step (below_alloc HB8.out _) hd.below)
  clear hd
  go_wp2_with fail
  refine (HF2.out _).mono ?_
  rintro e w10 ⟨rfl, hd⟩
  have HB10 := Aside0.mk (below_step (below_alloc HB9.out _) hd.below)
  clear hd
  go_wp2
  go_ret
  exact ⟨rfl, HB10.out⟩
end
def seinelaw01_awake.f : Option Bool := some true
theorem seinelaw01_awake.calls (r : Bool) (w : World) (h : seinelaw01_awake.f = some r) :
    Calls Try.prog 9 #[] w fun e w' => e = .returned (.bool r) ∧ Below w.heap.size w w' := by
  obtain rfl := Option.some.inj h
  exact awake_calls w

end Go.Proofs.Ytaegjpabkkoleaa.PFoldTwice
