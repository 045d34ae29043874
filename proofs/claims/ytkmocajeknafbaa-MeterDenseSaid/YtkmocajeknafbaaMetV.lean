/- MeterApart, the law function: it answers true for every input that can be. -/
import Derived.Test.YtkmocajeknafbaaMetS
namespace Go.Proofs.Ytkmocajeknafbaa.Met
open Go Go.RowKit Go.Proofs Go.Proofs.YtkmocajeknafbaaW.PrintWords Go.Proofs.YtkmocajeknafbaaW.PrintMore Go.Proofs.Ytkmocajeknafbaa.Mp Go.Maps
set_option linter.unusedVariables false
set_option linter.unusedSimpArgs false
attribute [local go_sem] max2_int min2_int max_two min_two max_three min_three
theorem Put.of_below {w w' : World} {M : Option Nat} {a b c d : Int} (hM : MAt w M a b c d) (hb : Below w.heap.size w w') : Put w w' M a b c d := ⟨hM.below hb, Kept.of_below hb _, fun B hB _ => hb.mono hB⟩
theorem Put.none_below {w w' : World} {a b c d : Int} (h : Put w w' none a b c d) : Below w.heap.size w w' := h.bel _ (Nat.le_refl _) (fun k hk => by cases hk)
/-- is there such a byte? -/
def inn (l : List Int) (i : Int) : Bool := decide (0 ≤ i) && decide (i < (l.length : Int))
def cnt (l : List Int) (i : Int) : Int := if inn l i then 1 else 0
def atv (l : List Int) (i : Int) : Int := if inn l i then wrap64 (rd l i) else -1
def rdv (l : List Int) (i : Int) : Int := if inn l i then rd l i else 0
theorem cnt_le (l : List Int) (i : Int) : 0 ≤ cnt l i ∧ cnt l i ≤ 1 := by unfold cnt; split <;> omega
theorem at_any {w : World} {gt base : Nat} {M : Option Nat} {A : Option Addr} {cp : Nat} {l : List Int} (a b c d : Int) (i : Int) (h : TxtAt w gt M base A cp l) (hM : MAt w M a b c d) (ha0 : 0 ≤ a) (ha1 : a ≤ 1000000000000) :
    Calls Try.prog 11 #[.pointer (some ⟨gt, 0, none⟩), .int .i64 i] w fun e w' => e = .returned (.int .i64 (atv l i)) ∧ Put w w' M (a + cnt l i) b c d := by
  unfold atv cnt
  by_cases hi : 0 ≤ i ∧ i < (l.length : Int)
  · have : inn l i = true := by unfold inn; simp [hi]
    rw [this]
    refine (at_in a b c d i h hM hi.1 hi.2 ha0 ha1).mono ?_
    rintro e w' ⟨rfl, _, hp⟩
    exact ⟨rfl, hp⟩
  · have : inn l i = false := by unfold inn; simp; omega
    rw [this]
    refine (at_out i h (by omega)).mono ?_
    rintro e w' ⟨rfl, hb⟩
    exact ⟨rfl, by simpa using Put.of_below hM hb⟩
theorem read_any (M : Option Nat) (a b c d : Int) (A : Option Addr) (cap : Nat) (l : List Int) (i : Int) (w : World) (hM : MAt w M a b c d) (hr : Kd.C (Kd.int .u8) w A l.length l) (hc0 : 0 ≤ c) (hc1 : c ≤ 1000000000000) :
    Calls Try.prog 17 #[.pointer (mp M), .slice A l.length cap, .int .i64 i] w fun e w' => e = .returned (.tuple #[.int .u8 (rdv l i), .bool (inn l i)]) ∧ Put w w' M a b (c + cnt l i) d := by
  unfold rdv cnt
  by_cases hi : 0 ≤ i ∧ i < (l.length : Int)
  · have : inn l i = true := by unfold inn; simp [hi]
    rw [this]
    exact read_in M a b c d A l.length cap l i w hM hr rfl hi.1 hi.2 hc0 hc1
  · have : inn l i = false := by unfold inn; simp; omega
    rw [this]
    refine (read_out (mp M) A l.length cap i w (by omega)).mono ?_
    rintro e w' ⟨rfl, hb⟩
    exact ⟨rfl, by simpa using Put.of_below hM hb⟩
/-- two meters, and what is asked for, in a block of its own -/
structure Ap (w wx : World) (gm go ga : Nat) (s y a b c d o : Int) : Prop where
  m : MAt wx (some gm) a b c d
  o : MAt wx (some go) o 0 0 0
  box : wx.heap[ga]? = some (.cells #[.int .i64 s, .int .u8 y] 45 (0, 0))
  bel : Below w.heap.size w wx
  ne : gm ≠ go ∧ gm ≠ ga ∧ go ≠ ga ∧ w.heap.size ≤ gm ∧ w.heap.size ≤ go
theorem Ap.below {w wx wy : World} {gm go ga : Nat} {s y a b c d o : Int} (h : Ap w wx gm go ga s y a b c d o) (hb : Below wx.heap.size wx wy) : Ap w wy gm go ga s y a b c d o :=
  ⟨h.m.below hb, h.o.below hb, blk_below h.box hb, below_step h.bel hb, h.ne⟩
theorem Ap.put {w wx wy : World} {gm go ga : Nat} {s y a b c d o a' b' c' d' : Int} (h : Ap w wx gm go ga s y a b c d o) (hp : Put wx wy (some gm) a' b' c' d') : Ap w wy gm go ga s y a' b' c' d' o :=
  ⟨hp.met, h.o.kept hp.kept (fun k hk e => by injection hk with hk; injection e with e; have := h.ne; omega), blk_kept h.box hp.kept (fun e => by injection e with e; have := h.ne; omega), hp.step h.bel (fun k hk => by injection hk with hk; have := h.ne; omega), h.ne⟩
theorem Ap.putO {w wx wy : World} {gm go ga : Nat} {s y a b c d o o' : Int} (h : Ap w wx gm go ga s y a b c d o) (hp : Put wx wy (some go) o' 0 0 0) : Ap w wy gm go ga s y a b c d o' :=
  ⟨h.m.kept hp.kept (fun k hk e => by injection hk with hk; injection e with e; have := h.ne; omega), hp.met, blk_kept h.box hp.kept (fun e => by injection e with e; have := h.ne; omega), hp.step h.bel (fun k hk => by injection hk with hk; have := h.ne; omega), h.ne⟩
theorem Ap.lt {w wx : World} {gm go ga : Nat} {s y a b c d o : Int} (h : Ap w wx gm go ga s y a b c d o) : gm < wx.heap.size ∧ go < wx.heap.size ∧ ga < wx.heap.size := ⟨h.m.lt _ rfl, h.o.lt _ rfl, blk_lt h.box⟩
theorem src_take {w : World} {A : Option Addr} {l : List Int} (h : Kd.C (Kd.int .u8) w A l.length l) (n : Nat) (hp : 0 < (l.take n).length) : ∃ ad, A = some ad ∧ ∀ j x, (l.take n)[j]? = some x → w.cell? (ad.add j) = some (.int .u8 x) := by
  rw [List.length_take] at hp
  obtain ⟨ad, e, hx⟩ := src_of h (by omega)
  refine ⟨ad, e, fun j x hj => ?_⟩
  rw [List.getElem?_take] at hj
  split at hj
  · exact hx j x hj
  · cases hj
set_option maxHeartbeats 16000000 in
set_option maxRecDepth 100000 in
theorem apart_skip (Ab Al : Option Addr) (nb nl cb cl : Nat) (i j s y : Int) (w : World) (h : 200 < nb ∨ 40 < nl) :
    Calls Try.prog 6 #[.slice Ab nb cb, .int .i64 i, .int .i64 j, .slice Al nl cl, .agg #[.int .i64 s, .int .u8 y]] w fun e w' => e = .returned (.bool true) ∧ Below w.heap.size w w' := by
  have huA := Try.underlying45
  have HB0 := Aside0.mk (below_alloc (Below.refl w.heap.size w) (.cells #[.int .i64 s, .int .u8 y] 45))
  by_cases h1 : 200 < nb
  · have d1 : decide ((nb : Int) > 200) = true := decide_eq_true (by omega)
    go_enter Try.func6, Try.ntmps6
    go_wp2_with fail
    refine (awake_calls _).mono ?_
    rintro e w1 ⟨rfl, hb1⟩
    have HB1 := Aside0.mk (below_step HB0.out hb1)
    clear hb1
    go_wp2
    go_ret
    exact ⟨rfl, HB1.out⟩
  · have d1 : decide ((nb : Int) > 200) = false := decide_eq_false (by omega)
    have d2 : decide ((nl : Int) > 40) = true := decide_eq_true (by omega)
    go_enter Try.func6, Try.ntmps6
    go_wp2_with fail
    refine (awake_calls _).mono ?_
    rintro e w1 ⟨rfl, hb1⟩
    have HB1 := Aside0.mk (below_step HB0.out hb1)
    clear hb1
    go_wp2
    go_ret
    exact ⟨rfl, HB1.out⟩
set_option maxHeartbeats 16000000 in
set_option maxRecDepth 100000 in
theorem apart_calls (Ab Al : Option Addr) (cb cl : Nat) (b : List Int) (i j : Int) (L : List Row) (s y : Int) (w : World) (hrb : Kd.C (Kd.int .u8) w Ab b.length b) (hcb : b.length ≤ cb) (hrl : RowsAt w Al L) (hok : RowsOk L) (hs : (Lit.int .i64 s).wf = true) (hy : (Lit.int .u8 y).wf = true) (lb : b.length ≤ 200) (ll : L.length ≤ 40) :
    Calls Try.prog 6 #[.slice Ab b.length cb, .int .i64 i, .int .i64 j, .slice Al L.length cl, .agg #[.int .i64 s, .int .u8 y]] w fun e w' => e = .returned (.bool true) ∧ Below w.heap.size w w' := by
  have HRB := Aside0.mk hrb
  have HCB := Aside0.mk hcb
  have HRL := Aside0.mk hrl
  have HRO := Aside0.mk hok
  have HS := Aside0.mk hs
  have HY := Aside0.mk hy
  have HLB := Aside0.mk lb
  have HLL := Aside0.mk ll
  have d1 : decide ((b.length : Int) > 200) = false := decide_eq_false (by omega)
  have d2 : decide ((L.length : Int) > 40) = false := decide_eq_false (by omega)
  have heq := eqC 9998
  have huC := Try.underlying31
  have huA := Try.underlying45
  have hzC := zeroC
  have hmk : ∀ W : World, (Instr.makeSlice 22 (.int .i64 5) (.int .i64 5)).run Try.prog W = .ok (.slice (some ⟨W.heap.size, 0, none⟩) 5 5) (W.alloc (.cells (u8s (List.replicate 5 0)) 5)) := fun W => make_u8 W 5 (by decide)
  have HBX := Aside0.mk (below_alloc (Below.refl w.heap.size w) (.cells #[.int .i64 s, .int .u8 y] 45))
  have HAX := Aside0.mk (blk_new w (.cells #[.int .i64 s, .int .u8 y] 45))
  clear hrb hcb hrl hok hs hy lb ll
  go_enter Try.func6, Try.ntmps6
  go_wp2_with fail
  refine (awake_calls _).mono ?_
  rintro e w0 ⟨rfl, hb0⟩
  have HB0 := Aside0.mk (below_step HBX.out hb0)
  have HA0 := Aside0.mk (blk_below HAX.out hb0)
  clear hb0 HBX HAX
  go_wp2_with fail
  refine (meter_new _).mono ?_
  rintro e w1 ⟨rfl, rfl⟩
  go_wp2_with fail
  refine (meter_new _).mono ?_
  rintro e w1 ⟨rfl, rfl⟩
  have HX := Aside0.mk (show Ap w ((w0.alloc (.cells #[.int .i64 0, .int .i64 0, .int .i64 0, .int .i64 0] 58)).alloc (.cells #[.int .i64 0, .int .i64 0, .int .i64 0, .int .i64 0] 58)) w0.heap.size (w0.heap.size + 1) w.heap.size s y 0 0 0 0 0 from by
    have hlt := blk_lt HA0.out
    have hsz := HB0.out.size
    refine ⟨?_, ?_, blk_alloc (blk_alloc HA0.out _) _, below_alloc (below_alloc HB0.out _) _, by omega⟩
    · intro g hg
      cases hg
      exact blk_alloc (blk_new w0 _) _
    · intro g hg
      cases hg
      have := blk_new (w0.alloc (.cells #[.int .i64 0, .int .i64 0, .int .i64 0, .int .i64 0] 58)) (.cells #[.int .i64 0, .int .i64 0, .int .i64 0, .int .i64 0] 58)
      rwa [World.size_alloc] at this)
  clear HB0 HA0
  rw [World.size_alloc]
  generalize (w0.alloc (.cells #[.int .i64 0, .int .i64 0, .int .i64 0, .int .i64 0] 58)).alloc (.cells #[.int .i64 0, .int .i64 0, .int .i64 0, .int .i64 0] 58) = w1 at HX ⊢
  generalize w0.heap.size + 1 = go at HX ⊢
  generalize w0.heap.size = gm at HX ⊢
  generalize w.heap.size = ga at HX ⊢
  go_wp2_with fail
  have HE := Aside0.mk HX.out.ne
  refine (text_calls (some gm) Ab cb b w1 (Kd.C_below HRB.out HX.out.bel) HCB.out (by have := HLB.out; omega) (fun k hk => by cases hk; exact HX.out.lt.1)).mono ?_
  rintro e w2 ⟨gt, A, cp, rfl, ht, hb⟩
  have HT := Aside0.mk ht
  have HX2 := Aside0.mk (HX.out.below hb)
  clear ht hb HX
  go_wp2_with fail
  refine (at_any 0 0 0 0 i HT.out HX2.out.m (by decide) (by decide)).mono ?_
  rintro e w3 ⟨rfl, hp⟩
  have HX3 := Aside0.mk (HX2.out.put hp)
  clear hp HT HX2
  go_wp2_with fail
  refine (text_calls none Ab cb b w3 (Kd.C_below HRB.out HX3.out.bel) HCB.out (by have := HLB.out; omega) (fun k hk => by cases hk)).mono ?_
  rintro e w4 ⟨gt2, A2, cp2, rfl, ht, hb⟩
  have HT := Aside0.mk ht
  have HX4 := Aside0.mk (HX3.out.below hb)
  clear ht hb HX3
  go_wp2_with fail
  refine (at_any 0 0 0 0 i HT.out (fun k hk => by cases hk) (by decide) (by decide)).mono ?_
  rintro e w5 ⟨rfl, hp⟩
  have HX5 := Aside0.mk (HX4.out.below hp.none_below)
  clear hp HT HX4
  have HCN := Aside0.mk (cnt_le b i)
  generalize 0 + cnt b i = na at HX5
  have p0 : w5.cell? ⟨ga, 0, none⟩ = some (.int .i64 s) := (blk_cell HX5.out.box 0).trans rfl
  have p1 : w5.cell? ⟨ga, 1, none⟩ = some (.int .u8 y) := (blk_cell HX5.out.box 1).trans rfl
  go_wp2_with fail
  go_region_held3 (fun w' => w'.cell? ⟨ga, 0, none⟩ = some (.int .i64 s) ∧ w'.cell? ⟨ga, 1, none⟩ = some (.int .u8 y))
    (first | exact ⟨p0, p1⟩ | go_keep)
    ((first
      | (go_at_call 14; refine (sparse_calls (some gm) Al cl L w5.drew ((HRL.out.below HX5.out.bel).below (below_drew (Below.refl _ _))) HRO.out (by have := HLL.out; omega) (fun k hk => by cases hk; exact HX5.out.lt.1)).mono ?_; rintro e w6 ⟨gs, gp, gq, nq, rfl, ht, hb⟩; have HT6 := Aside0.mk ht; have HX6 := Aside0.mk ((HX5.out.below (below_drew (Below.refl _ _))).below hb); clear p0 p1 ht hb HX5; have p0 := (blk_cell HX6.out.box 0).trans (show _ = some (Value.int .i64 s) from rfl); have p1 := (blk_cell HX6.out.box 1).trans (show _ = some (Value.int .u8 y) from rfl))
      | (go_at_call 15; refine (look_calls na 0 0 0 HT6.out HX6.out.m HRO.out s y HS.out HY.out (by decide) (by decide)).mono ?_; rintro e w7 ⟨rfl, ht, hp⟩; have HX7 := Aside0.mk (HX6.out.put hp); clear p0 p1 ht hp HX6 HT6; have p0 := (blk_cell HX7.out.box 0).trans (show _ = some (Value.int .i64 s) from rfl); have p1 := (blk_cell HX7.out.box 1).trans (show _ = some (Value.int .u8 y) from rfl))))
  go_wp2_with fail
  go_region_held3 (fun w' => w'.cell? ⟨ga, 0, none⟩ = some (.int .i64 s) ∧ w'.cell? ⟨ga, 1, none⟩ = some (.int .u8 y))
    (first | exact ⟨p0, p1⟩ | go_keep)
    ((first
      | (go_at_call 14; refine (sparse_calls none Al cl L w7.drew ((HRL.out.below HX7.out.bel).below (below_drew (Below.refl _ _))) HRO.out (by have := HLL.out; omega) (fun k hk => by cases hk)).mono ?_; rintro e w8 ⟨gs2, gp2, gq2, nq2, rfl, ht, hb⟩; have HT8 := Aside0.mk ht; have HX8 := Aside0.mk ((HX7.out.below (below_drew (Below.refl _ _))).below hb); clear p0 p1 ht hb HX7; have p0 := (blk_cell HX8.out.box 0).trans (show _ = some (Value.int .i64 s) from rfl); have p1 := (blk_cell HX8.out.box 1).trans (show _ = some (Value.int .u8 y) from rfl))
      | (go_at_call 15; refine (look_calls 0 0 0 0 HT8.out (fun k hk => by cases hk) HRO.out s y HS.out HY.out (by decide) (by decide)).mono ?_; rintro e w9 ⟨rfl, ht, hp⟩; have HX9 := Aside0.mk (HX8.out.below hp.none_below); clear p0 p1 ht hp HX8 HT8; have p0 := (blk_cell HX9.out.box 0).trans (show _ = some (Value.int .i64 s) from rfl); have p1 := (blk_cell HX9.out.box 1).trans (show _ = some (Value.int .u8 y) from rfl))))
  clear p0 p1
  generalize (sp L s y).getD (-1) = pv
  go_wp2_with fail
  refine (read_any (some gm) na (0 + 1) 0 0 Ab cb b j w9 HX9.out.m (Kd.C_below HRB.out HX9.out.bel) (by decide) (by decide)).mono ?_
  rintro e w10 ⟨rfl, hp⟩
  have HX10 := Aside0.mk (HX9.out.put hp)
  clear hp HX9
  go_wp2_with fail
  refine (read_any none 0 0 0 0 Ab cb b j w10 (fun k hk => by cases hk) (Kd.C_below HRB.out HX10.out.bel) (by decide) (by decide)).mono ?_
  rintro e w11 ⟨rfl, hp⟩
  have HX11 := Aside0.mk (HX10.out.below hp.none_below)
  clear hp HX10
  generalize 0 + cnt b j = nh at HX11
  generalize rdv b j = rv
  generalize inn b j = iv
  have HCL := Aside0.mk (show (b.take 5).length = Nat.min b.length 5 by rw [List.length_take]; exact Nat.min_comm _ _)
  have HSR := Aside0.mk (fun (W : World) (h : Kd.C (Kd.int .u8) W Ab b.length b) (hp : 0 < (b.take 5).length) => src_take h 5 hp)
  generalize b.take 5 = cs at HCL HSR
  go_wp2_with fail
  have HBa := Aside0.mk (below_alloc (Below.refl w11.heap.size w11) (.cells (u8s (List.replicate 5 0)) 5))
  have HNa := Aside0.mk (blk_new w11 (.cells (u8s (List.replicate 5 0)) 5))
  refine (copy_any (some gm) na (0 + 1) nh 0 w11.heap.size 0 (List.replicate 5 0) cs (some ⟨w11.heap.size, 0, none⟩) Ab 5 5 b.length cb (w.heap.size) (w11.alloc (.cells (u8s (List.replicate 5 0)) 5)) (HX11.out.m.below HBa.out) HNa.out HCL.out (fun _ => rfl) (fun hp => HSR.out _ (Kd.C_below (Kd.C_below HRB.out HX11.out.bel) HBa.out) hp) (by rw [List.length_replicate, HCL.out]; show 0 + min b.length 5 ≤ 5; omega) (fun e => by have := HX11.out.lt; injection e with e; omega) HX11.out.bel.size (fun k hk => by cases hk; exact HX11.out.ne.2.2.2.1) (by decide) (by rw [HCL.out]; show (0 : Int) + ((min b.length 5 : Nat) : Int) ≤ _; omega)).mono ?_
  rintro e w12 ⟨rfl, hg, hm, hk, hb⟩
  have HX12 := Aside0.mk (show Ap w w12 gm go ga s y na (0 + 1) nh (0 + (cs.length : Int)) 0 from by
    have hlt := HX11.out.lt
    have hne := HX11.out.ne
    have hkk := (Kept.of_below HBa.out _).then_ hk (fun k h => Or.inl h)
    exact ⟨hm, HX11.out.o.kept hkk (fun k hk e => by cases hk; rcases e with e | e; omega; injection e with e; omega), blk_kept HX11.out.box hkk (fun e => by rcases e with e | e; omega; injection e with e; omega), Below.trans (below_step HX11.out.bel HBa.out) hb, hne⟩)
  clear hg hm hk hb HBa HNa HX11
  go_wp2_with fail
  have HBa := Aside0.mk (below_alloc (Below.refl w12.heap.size w12) (.cells (u8s (List.replicate 5 0)) 5))
  have HNa := Aside0.mk (blk_new w12 (.cells (u8s (List.replicate 5 0)) 5))
  refine (copy_any none 0 0 0 0 w12.heap.size 0 (List.replicate 5 0) cs (some ⟨w12.heap.size, 0, none⟩) Ab 5 5 b.length cb w12.heap.size (w12.alloc (.cells (u8s (List.replicate 5 0)) 5)) (fun k hk => by cases hk) HNa.out HCL.out (fun _ => rfl) (fun hp => HSR.out _ (Kd.C_below (Kd.C_below HRB.out HX12.out.bel) HBa.out) hp) (by rw [List.length_replicate, HCL.out]; show 0 + min b.length 5 ≤ 5; omega) (fun e => by cases e) (Nat.le_refl _) (fun k hk => by cases hk) (by decide) (by rw [HCL.out]; show (0 : Int) + ((min b.length 5 : Nat) : Int) ≤ _; omega)).mono ?_
  rintro e w13 ⟨rfl, hg, hm, hk, hb⟩
  have HX13 := Aside0.mk (HX12.out.below (Below.trans HBa.out hb))
  clear hg hm hk hb HBa HNa HX12
  have hz0 : 0 + (cs.length : Int) = (cs.length : Int) := Int.zero_add _
  rw [hz0] at HX13
  generalize (cs.length : Int) = nm at HX13 ⊢
  go_wp2_with fail
  refine (counts_any _ _ _ _ _ _ HX13.out.m).mono ?_
  rintro e w14 ⟨rfl, hb⟩
  have HX14 := Aside0.mk (show Ap w w14 gm go ga s y na 1 nh nm 0 from HX13.out.below hb)
  clear hb HX13 hz0
  go_wp2_with fail
  have HBw := Aside0.mk (below_alloc (Below.refl w14.heap.size w14) (.cells #[.int .i64 na, .int .i64 1, .int .i64 nh, .int .i64 nm] 31))
  have HW15 := Aside0.mk (blk_new w14 (.cells #[.int .i64 na, .int .i64 1, .int .i64 nh, .int .i64 nm] 31))
  have HX15 := Aside0.mk (HX14.out.below HBw.out)
  refine (text_calls (some go) Ab cb b _ (Kd.C_below HRB.out HX15.out.bel) HCB.out (by have := HLB.out; omega) (fun k hk => by cases hk; exact HX15.out.lt.2.1)).mono ?_
  rintro e w16 ⟨gt3, A3, cp3, rfl, ht, hb⟩
  have HT := Aside0.mk ht
  have HX16 := Aside0.mk (HX15.out.below hb)
  have HW16 := Aside0.mk (blk_below HW15.out hb)
  clear ht hb HX15 HBw HW15
  go_wp2_with fail
  refine (at_any 0 0 0 0 0 HT.out HX16.out.o (by decide) (by decide)).mono ?_
  rintro e w17 ⟨rfl, hp⟩
  have HX17 := Aside0.mk (HX16.out.putO hp)
  have HW17 := Aside0.mk (blk_kept HW16.out hp.kept (fun e => by have := HX14.out.lt; injection e with e; omega))
  clear hp HT HX16 HW16 HX14
  have hmn : (if (1 : Int) < (b.length : Int) then (1 : Int) else (b.length : Int)) = 0 + cnt b 0 := by
    unfold cnt inn
    have := HLB.out
    by_cases h : 0 < b.length
    · have h2 : (0 : Int) < (b.length : Int) := by omega
      simp [h2]
      omega
    · have h2 : b.length = 0 := by omega
      simp [h2]
  have hmn2 : (if 1 < b.length then (1 : Int) else (b.length : Int)) = 0 + cnt b 0 := by
    rw [← hmn]
    by_cases h : 1 < b.length
    · rw [if_pos h, if_pos (by omega)]
    · rw [if_neg h, if_neg (by omega)]
  generalize 0 + cnt b 0 = no at HX17 hmn hmn2
  have hbb : ∀ x : Int, (x == x) = true := fun x => beq_self_eq_true x
  have hbb2 : ∀ x : Bool, (x == x) = true := fun x => by cases x <;> rfl
  generalize w14.heap.size = gw at HW17 ⊢
  have k0 : w17.cell? ⟨gw, 0, none⟩ = some (.int .i64 na) := (blk_cell HW17.out 0).trans rfl
  have k1 : w17.cell? ⟨gw, 1, none⟩ = some (.int .i64 1) := (blk_cell HW17.out 1).trans rfl
  have k2 : w17.cell? ⟨gw, 2, none⟩ = some (.int .i64 nh) := (blk_cell HW17.out 2).trans rfl
  have k3 : w17.cell? ⟨gw, 3, none⟩ = some (.int .i64 nm) := (blk_cell HW17.out 3).trans rfl
  go_wp2_with fail
  go_region_held3 (fun w' => w'.cell? ⟨gw, 0, none⟩ = some (.int .i64 na) ∧ w'.cell? ⟨gw, 1, none⟩ = some (.int .i64 1) ∧ w'.cell? ⟨gw, 2, none⟩ = some (.int .i64 nh) ∧ w'.cell? ⟨gw, 3, none⟩ = some (.int .i64 nm))
    (first | exact ⟨k0, k1, k2, k3⟩ | go_keep)
    ((first
      | (go_at_call 12; (with_reducible refine (counts_none _).mono ?_); rintro e w18 ⟨rfl, hb⟩; have HX18 := Aside0.mk ((HX17.out.below (below_drew (Below.refl _ _))).below hb); have HW18 := Aside0.mk (blk_below (blk_below HW17.out (below_drew (Below.refl _ _))) hb); clear k0 k1 k2 k3 hb HX17 HW17; have k0 := (blk_cell HW18.out 0).trans (show _ = some (Value.int .i64 na) from rfl); have k1 := (blk_cell HW18.out 1).trans (show _ = some (Value.int .i64 1) from rfl); have k2 := (blk_cell HW18.out 2).trans (show _ = some (Value.int .i64 nh) from rfl); have k3 := (blk_cell HW18.out 3).trans (show _ = some (Value.int .i64 nm) from rfl))
      | (go_at_call 12; (with_reducible refine (counts_any _ _ _ _ _ _ HX18.out.m).mono ?_); rintro e w19 ⟨rfl, hb⟩; have HX19 := Aside0.mk (HX18.out.below hb); have HW19 := Aside0.mk (blk_below HW18.out hb); clear k0 k1 k2 k3 hb HX18 HW18; have k0 := (blk_cell HW19.out 0).trans (show _ = some (Value.int .i64 na) from rfl); have k1 := (blk_cell HW19.out 1).trans (show _ = some (Value.int .i64 1) from rfl); have k2 := (blk_cell HW19.out 2).trans (show _ = some (Value.int .i64 nh) from rfl); have k3 := (blk_cell HW19.out 3).trans (show _ = some (Value.int .i64 nm) from rfl))
      | (go_at_call 12; (with_reducible refine (counts_any _ _ _ _ _ _ HX19.out.o).mono ?_); rintro e w20 ⟨rfl, hb⟩; have HX20 := Aside0.mk (HX19.out.below hb); have HW20 := Aside0.mk (blk_below HW19.out hb); clear k0 k1 k2 k3 hb HX19 HW19; have k0 := (blk_cell HW20.out 0).trans (show _ = some (Value.int .i64 na) from rfl); have k1 := (blk_cell HW20.out 1).trans (show _ = some (Value.int .i64 1) from rfl); have k2 := (blk_cell HW20.out 2).trans (show _ = some (Value.int .i64 nh) from rfl); have k3 := (blk_cell HW20.out 3).trans (show _ = some (Value.int .i64 nm) from rfl))))
  all_goals
    go_wp2
    go_ret
    exact ⟨rfl, HX20.out.bel⟩
end Go.Proofs.Ytkmocajeknafbaa.Met
