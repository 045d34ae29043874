/- Feed: what it tells of a chunk, and what it leaves. -/
import Derived.Test.YtgiaabgmnjaefaaStrM
import Derived.Carry
namespace Go.Proofs.Ytgiaabgmnjaefaa.Str
open Go Go.RowKit Go.Proofs Go.Proofs.Ytgiaabgmnjaefaa.Met Go.Proofs.Ytgiaabgmnjaefaa.Win Go.Proofs.YtgiaabgmnjaefaaW.PrintWords Go.Proofs.YtgiaabgmnjaefaaW.PrintMore
set_option linter.unusedVariables false
set_option linter.unusedSimpArgs false
attribute [local go_sem] max2_int min2_int max_two min_two max_three min_three
def mid (l : List Int) (a b : Nat) : List Int := (l.take b).drop a
theorem mid_len (l : List Int) (a b : Nat) (h : b ≤ l.length) : (mid l a b).length = b - a := by unfold mid; rw [List.length_drop, List.length_take]; omega
theorem mid_snoc (l : List Int) (a b : Nat) (h : b < l.length) (hab : a ≤ b) : mid l a (b + 1) = mid l a b ++ [l[b]] := by
  unfold mid
  rw [List.take_succ_eq_append_getElem h, List.drop_append_of_le_length (by rw [List.length_take]; omega)]
theorem mid_nil (l : List Int) (a : Nat) : mid l a a = [] := by unfold mid; rw [List.drop_eq_nil_iff, List.length_take]; omega
theorem ms_step {n len : Nat} {x : Int} (h : n < len) (hx : x = ((n + 1 : Nat) : Int)) : len - (intOf (.int .i64 x)).toNat < len - (intOf (.int .i64 (n : Int))).toNat := by
  subst hx
  simp [intOf]
  omega
/-- where Feed stands: i bytes are read, the line at hand begins at f -/
structure Fd (w wr : World) (B gs gw : Nat) (M : Option Nat) (A A1 : Option Addr) (s s1 : SS) (m : Nat) (chunk : List Int) (i f : Nat) (v : Value) (ls : List Ln) : Prop where
  le : f ≤ i ∧ i ≤ chunk.length
  eq : feed s [] chunk = ((feed s1 (mid chunk f i) (chunk.drop i)).1, ls ++ (feed s1 (mid chunk f i) (chunk.drop i)).2)
  lin : Lined w wr B gs gw M A A1 s s1
  bd : Bd s1 (m + 2 * i)
  held : s1.st.held.length ≤ s.st.held.length
  same : s1.over = s.over ∧ s1.most = s.most
  out : wr.heap[w.heap.size + 1]? = some (.cells #[v] 35 (0, 0))
  box : wr.heap[w.heap.size]? = some (.cells #[.pointer (some ⟨gs, 0, none⟩)] 27 (0, 0))
  row : Kd.R kL 47 wr w.heap.size (fun k => ¬ Foot gs gw M A1 k ∧ k ≠ w.heap.size + 1 ∧ k ≠ w.heap.size) v ls
  few : ls.length ≤ i
  far : ¬ Foot gs gw M A1 (w.heap.size + 1) ∧ ¬ Foot gs gw M A1 w.heap.size
theorem fd_start {w : World} {B gs gw m : Nat} {M : Option Nat} {A : Option Addr} {s : SS} (h : StrAt w B gs gw M A s) (hb : Bd s m) (hB : B ≤ w.heap.size) (chunk : List Int) : Fd w ((w.alloc (.cells #[.pointer (some ⟨gs, 0, none⟩)] 27)).alloc (.cells #[.slice none 0 0] 35)) B gs gw M A A s s m chunk 0 0 (.slice none 0 0) [] := by
  have hb2 := below_alloc (below_alloc (Below.refl w.heap.size w) (.cells #[.pointer (some ⟨gs, 0, none⟩)] 27)) (.cells #[.slice none 0 0] 35)
  refine ⟨⟨Nat.le_refl _, Nat.zero_le _⟩, ?_, ⟨h.below hb2, Kept.of_below hb2 _, hb2.mono hB, fun ad e => Or.inl e⟩, hb, Nat.le_refl _, ⟨rfl, rfl⟩, ?_, blk_alloc (blk_new w _) _, Kd.R_nil _ _ _ _ _, Nat.le_refl _, fun e => by have := foot_lt h _ e; omega, fun e => by have := foot_lt h _ e; omega⟩
  · rw [mid_nil, List.drop_zero, List.nil_append]
  · have := blk_new (w.alloc (.cells #[.pointer (some ⟨gs, 0, none⟩)] 27)) (.cells #[.slice none 0 0] 35)
    rwa [World.size_alloc] at this
theorem chunk_C {w wr : World} {gs gw : Nat} {M : Option Nat} {A Ab : Option Addr} {l : List Int} (h : Kd.C (Kd.int .u8) w Ab l.length l) (hk : Kept w wr (Foot gs gw M A)) (hf : 0 < l.length → ∀ ad, Ab = some ad → ¬ Foot gs gw M A ad.block) : Kd.C (Kd.int .u8) wr Ab l.length l :=
  Kd.C_of_reads (d := (0 : Int)) (h1 := fun _ => rfl) ⟨rfl, h.2.1, fun hp => by
    obtain ⟨ad, e, hx⟩ := Met.src_of h hp
    refine ⟨ad, e, fun j hj => ?_⟩
    have h1 := hx j l[j] (List.getElem?_eq_getElem hj)
    have h2 := cell_kept h1 hk (by rw [Met.add_block]; exact hf hp ad e)
    rw [h2, List.getD_eq_getElem?_getD, List.getElem?_eq_getElem hj]
    rfl⟩
theorem fd_far {w wr : World} {B gs gw : Nat} {M : Option Nat} {A A1 Ab : Option Addr} {s s1 : SS} (h : Lined w wr B gs gw M A A1 s s1) (hl : ∀ k, Foot gs gw M A k → k < w.heap.size) (hf : ∀ ad, Ab = some ad → ¬ Foot gs gw M A ad.block) (hlt : ∀ ad, Ab = some ad → ad.block < w.heap.size) (f cb : Nat) : ∀ ad, (if cb = f then Ab else Ab.map (·.add f)) = some ad → ¬ Foot gs gw M A1 ad.block := by
  have key : ∀ ad, Ab = some ad → ¬ Foot gs gw M A1 ad.block := fun ad e hk => by
    rcases h.foot _ hk with h1 | h1
    · exact hf ad e h1
    · have := hlt ad e; omega
  intro ad e
  split at e
  · exact key ad e
  · cases hA : Ab with
    | none => rw [hA] at e; cases e
    | some a0 =>
      rw [hA] at e
      simp only [Option.map_some, Option.some.injEq] at e
      rw [← e, Met.add_block]
      exact key a0 hA
theorem fd_line {w wr w2 w3 : World} {B gs gw m i f : Nat} {M : Option Nat} {A A1 A3 : Option Addr} {s s1 : SS} {chunk : List Int} {v v3 : Value} {ls : List Ln} {c : Int} (h : Fd w wr B gs gw M A A1 s s1 m chunk i f v ls) (h2 : Lined wr w2 B gs gw M A1 A1 s1 (readS s1)) (hi : i < chunk.length) (hd : chunk.drop i = c :: chunk.drop (i + 1)) (hc : c = 10) (hh : s1.st.held.length + (mid chunk f i).length ≤ 5000)
    (hr2 : Kd.R kL 47 w2 w.heap.size (fun k => ¬ Foot gs gw M A1 k ∧ k ≠ w.heap.size + 1 ∧ k ≠ w.heap.size) v ls) (ho2 : w2.heap[w.heap.size + 1]? = some (.cells #[v] 35 (0, 0))) (hx2 : w2.heap[w.heap.size]? = some (.cells #[.pointer (some ⟨gs, 0, none⟩)] 27 (0, 0))) (hl : ∀ k, Foot gs gw M A k → k < w.heap.size)
    (hstr : StrAt w3 B gs gw M A3 (lineS (readS s1) (mid chunk f i))) (hgo : w3.heap[w.heap.size + 1]? = some (.cells #[v3] 35 (0, 0))) (hrow : Kd.R kL 47 w3 w.heap.size (fun k => ¬ Foot gs gw M A3 k ∧ k ≠ w.heap.size + 1 ∧ k ≠ w.heap.size) v3 (ls ++ [lnOf (readS s1) (mid chunk f i)])) (hk : Kept w2 w3 (fun k => Foot gs gw M A1 k ∨ k = w.heap.size + 1 ∨ v.ownBlock = some k)) (hb : Below B w2 w3) (hmov : ∀ ad, A3 = some ad → A1 = some ad ∨ w2.heap.size ≤ ad.block) :
    Fd w w3 B gs gw M A A3 s (lineS (readS s1) (mid chunk f i)) m chunk (i + 1) (i + 1) v3 (ls ++ [lnOf (readS s1) (mid chunk f i)]) := by
  have h12 := h.lin.trans h2
  have hfar3 : ∀ k, Foot gs gw M A3 k → Foot gs gw M A1 k ∨ w2.heap.size ≤ k := fun k hf => by
    rcases hf with e | e | e | ⟨ad, e, e2⟩
    · exact Or.inl (Or.inl e)
    · exact Or.inl (Or.inr (Or.inl e))
    · exact Or.inl (Or.inr (Or.inr (Or.inl e)))
    · rcases hmov ad e with h3 | h3
      · exact Or.inl (Or.inr (Or.inr (Or.inr ⟨ad, h3, e2⟩)))
      · exact Or.inr (by omega)
  refine ⟨⟨Nat.le_refl _, hi⟩, ?_, ⟨hstr, ?_, Below.trans h12.bel hb, ?_⟩, ?_, ?_, h.same, hgo, ?_, hrow, ?_, ?_⟩
  · rw [h.eq, hd, mid_nil, feed_nl _ _ _ hc, List.append_assoc]
    rfl
  · refine h12.kept.then_ hk (fun k hk => ?_)
    rcases hk with e | e | e
    · exact h12.foot k e
    · exact Or.inr (by omega)
    · exact Or.inr (Kd.R_base hr2 k e)
  · intro ad e
    rcases hmov ad e with h3 | h3
    · exact h.lin.mov ad h3
    · exact Or.inr (Nat.le_trans h12.kept.1 h3)
  · exact (h.bd.read.line _ hh).mono (by omega)
  · exact Nat.le_trans (line_held_le _ _) h.held
  · refine blk_kept hx2 hk (fun e => ?_)
    rcases e with e | e | e
    · exact h.far.2 e
    · omega
    · exact (hr2.1 _ e).2.2 rfl
  · rw [List.length_append]
    have := h.few
    show ls.length + 1 ≤ i + 1
    omega
  · refine ⟨fun e => ?_, fun e => ?_⟩
    · rcases hfar3 _ e with h3 | h3
      · exact h.far.1 h3
      · have := blk_lt ho2; omega
    · rcases hfar3 _ e with h3 | h3
      · exact h.far.2 h3
      · have := blk_lt hx2; omega
theorem fd_go {w wr w2 w3 : World} {B gs gw m i f : Nat} {M : Option Nat} {A A1 : Option Addr} {s s1 : SS} {chunk : List Int} {v : Value} {ls : List Ln} {c : Int} (h : Fd w wr B gs gw M A A1 s s1 m chunk i f v ls) (h2 : Lined wr w2 B gs gw M A1 A1 s1 (readS s1)) (hi : i < chunk.length) (hd : chunk.drop i = c :: chunk.drop (i + 1)) (hc : c ≠ 10) (hs : mid chunk f (i + 1) = mid chunk f i ++ [c]) (hm : ¬ s1.most ≤ (s1.st.held.length : Int) + ((mid chunk f i).length : Int)) (hb : Below w2.heap.size w2 w3)
    (hstr : StrAt w3 B gs gw M A1 (readS s1)) (ho3 : w3.heap[w.heap.size + 1]? = some (.cells #[v] 35 (0, 0))) (hx3 : w3.heap[w.heap.size]? = some (.cells #[.pointer (some ⟨gs, 0, none⟩)] 27 (0, 0))) (hr2 : Kd.R kL 47 w2 w.heap.size (fun k => ¬ Foot gs gw M A1 k ∧ k ≠ w.heap.size + 1 ∧ k ≠ w.heap.size) v ls) (hB : B ≤ wr.heap.size) :
    Fd w w3 B gs gw M A A1 s (readS s1) m chunk (i + 1) f v ls := by
  have h12 := h.lin.trans h2
  refine ⟨⟨Nat.le_succ_of_le h.le.1, hi⟩, ?_, ⟨hstr, h12.kept.below hb, Below.trans h12.bel (hb.mono (Nat.le_trans hB h2.kept.1)), h12.mov⟩, h.bd.read.mono (by omega), h.held, h.same, ho3, hx3, Kd.R_below hr2 hb, Nat.le_succ_of_le h.few, h.far⟩
  rw [h.eq, hd, feed_go _ _ _ hc hm, hs]
theorem fd_bad {w wr w2 w3 w4 : World} {B gs gw m i f : Nat} {M : Option Nat} {A A1 : Option Addr} {s s1 : SS} {chunk : List Int} {v : Value} {ls : List Ln} {c : Int} (h : Fd w wr B gs gw M A A1 s s1 m chunk i f v ls) (h2 : Lined wr w2 B gs gw M A1 A1 s1 (readS s1)) (hi : i < chunk.length) (hd : chunk.drop i = c :: chunk.drop (i + 1)) (hc : c ≠ 10) (hm : s1.most ≤ (s1.st.held.length : Int) + ((mid chunk f i).length : Int)) (hb : Below w2.heap.size w2 w3)
    (hstr : StrAt w3 B gs gw M A1 (readS s1)) (hr2 : Kd.R kL 47 w2 w.heap.size (fun k => ¬ Foot gs gw M A1 k ∧ k ≠ w.heap.size + 1 ∧ k ≠ w.heap.size) v ls) (hB : B ≤ wr.heap.size) (u1 : w4.heap[gs]? = some (.cells #[.pointer (mp M), .pointer (some ⟨gw, 0, none⟩), .int .i64 s1.most, .int .i64 (s1.num : Int), .int .i64 (s1.off : Int), .bool true, .int .i64 15] 70 (0, 0))) (uk : Kept w3 w4 (fun k => k = gs)) (ub : Below B w3 w4) :
    ∃ v' A', Ending.returned v = .returned v' ∧ Kd.R kL 47 w4 w.heap.size (fun k => ¬ Foot gs gw M A' k) v' (feed s [] chunk).2 ∧ Lined w w4 B gs gw M A A' s (feed s [] chunk).1 := by
  have h12 := h.lin.trans h2
  have he : feed s [] chunk = (badS (readS s1), ls) := by rw [h.eq, hd, feed_bad _ _ _ hc hm, List.append_nil]
  rw [he]
  refine ⟨v, A1, rfl, Kd.R_mono (Kd.R_kept (Kd.R_below hr2 hb) uk (fun k hk e => hk.1 (Or.inl e))) (fun k hk => hk.1), ⟨⟨u1, ?_, hstr.ne, hstr.low⟩, ?_, ?_, h12.mov⟩⟩
  · refine hstr.win.kept uk (fun e => hstr.ne.1 e.symm) (fun k hk e => hstr.ne.2.1 (by rw [hk, e])) (fun ad e e2 => hstr.ne.2.2 ad e e2)
  · exact (h12.kept.below hb).then_ uk (fun k e => Or.inl (Or.inl e))
  · exact Below.trans (Below.trans h12.bel (hb.mono (Nat.le_trans hB h2.kept.1))) ub
theorem fd_end {w wr w3 : World} {B gs gw m i f : Nat} {M : Option Nat} {A A1 A3 : Option Addr} {s s1 : SS} {chunk T : List Int} {v : Value} {ls : List Ln} (h : Fd w wr B gs gw M A A1 s s1 m chunk i f v ls) (hi : i = chunk.length) (hT : mid chunk f chunk.length = T) (hB : B ≤ wr.heap.size)
    (hw : Win w3 gw M (s1.hunt : Int) A3 (addS s1.st T)) (hao : AOk wr.drew A1 A3) (hba : ∀ k, A3 = some k → B ≤ k.block) (hkp : Kept wr.drew w3 (fun k => k = gw ∨ M = some k ∨ ∃ ad, A1 = some ad ∧ ad.block = k)) (hbb : Below B wr.drew w3) :
    w3.heap[w.heap.size + 1]? = some (.cells #[v] 35 (0, 0)) ∧ w3.heap[w.heap.size]? = some (.cells #[.pointer (some ⟨gs, 0, none⟩)] 27 (0, 0)) ∧ w3.heap[gs]? = some (.cells #[.pointer (mp M), .pointer (some ⟨gw, 0, none⟩), .int .i64 s1.most, .int .i64 (s1.num : Int), .int .i64 (s1.off : Int), .bool s1.over, .int .i64 s1.bad] 70 (0, 0)) ∧
    ∃ v' A', Ending.returned v = .returned v' ∧ Kd.R kL 47 w3 w.heap.size (fun k => ¬ Foot gs gw M A' k) v' (feed s [] chunk).2 ∧ Lined w w3 B gs gw M A A' s (feed s [] chunk).1 := by
  have hstr := h.lin.str
  have he : feed s [] chunk = (restS s1 T, ls) := by rw [h.eq, hi, hT, List.drop_length, feed_nil, List.append_nil]
  have hkk : Kept wr w3 (fun k => k = gw ∨ M = some k ∨ ∃ ad, A1 = some ad ∧ ad.block = k) := hkp
  have hkf : Kept wr w3 (Foot gs gw M A1) := Kept.mono hkk (fun k hk => Or.inr hk)
  have hmov : ∀ ad, A3 = some ad → A1 = some ad ∨ wr.heap.size ≤ ad.block := fun ad e => by
    rcases hao with h1 | ⟨gb, h1, h2⟩
    · exact Or.inl (by rw [← h1]; exact e)
    · rw [h1] at e; cases e; exact Or.inr h2
  have hng : ¬ (gs = gw ∨ M = some gs ∨ ∃ ad, A1 = some ad ∧ ad.block = gs) := by
    rintro (e | e | ⟨ad, e, e2⟩)
    · exact hstr.ne.1 e
    · exact hstr.ne.2.1 e
    · exact hstr.ne.2.2 ad e e2
  have hbox := blk_kept hstr.box hkk hng
  have hst : StrAt w3 B gs gw M A3 (restS s1 T) := ⟨hbox, hw, ⟨hstr.ne.1, hstr.ne.2.1, fun ad e => by
    rcases hmov ad e with h1 | h1
    · exact hstr.ne.2.2 ad h1
    · have := hstr.lt.1; omega⟩, hstr.low.1, hstr.low.2.1, hstr.low.2.2.1, hba⟩
  have hl : Lined wr w3 B gs gw M A1 A3 s1 (restS s1 T) := ⟨hst, hkf, Below.trans (Below.drew (Below.refl B wr)) hbb, hmov⟩
  refine ⟨blk_kept h.out hkf h.far.1, blk_kept h.box hkf h.far.2, hbox, v, A3, rfl, ?_, ?_⟩
  · rw [he]
    refine Kd.R_mono (Kd.R_kept (Kd.R_bound h.row) hkf (fun k hk e => hk.1.1 e)) (fun k hk e => ?_)
    rcases hl.foot k e with h1 | h1
    · exact hk.1.1 h1
    · have := hk.2.2.1; omega
  · rw [he]
    exact h.lin.trans hl
set_option maxHeartbeats 16000000 in
set_option maxRecDepth 100000 in
theorem feed_over {w : World} {B gs gw : Nat} {M : Option Nat} {A : Option Addr} {s : SS} (h : StrAt w B gs gw M A s) (hov : s.over = true) (Ab : Option Addr) (n cb : Nat) :
    Calls Try.prog 15 #[.pointer (some ⟨gs, 0, none⟩), .slice Ab n cb] w fun e w' => e = .returned (.slice none 0 0) ∧ Below w.heap.size w w' := by
  have k5 : w.cell? ⟨gs, 5, none⟩ = some (.bool s.over) := (blk_cell h.box 5).trans rfl
  rw [hov] at k5
  have hlt := blk_lt h.box
  have hu := Try.underlying70
  have HB := Aside0.mk (below_alloc (Below.refl w.heap.size w) (.cells #[.pointer (some ⟨gs, 0, none⟩)] 27))
  clear h hov
  go_enter Try.func15, Try.ntmps15
  go_wp2
  go_ret
  exact ⟨rfl, HB.out⟩
set_option maxHeartbeats 16000000 in
set_option maxRecDepth 100000 in
theorem feed_none (w : World) (Ab : Option Addr) (n cb : Nat) :
    Calls Try.prog 15 #[.pointer none, .slice Ab n cb] w fun e w' => e = .returned (.slice none 0 0) ∧ Below w.heap.size w w' := by
  have HB := Aside0.mk (below_alloc (Below.refl w.heap.size w) (.cells #[.pointer none] 27))
  go_enter Try.func15, Try.ntmps15
  go_wp2
  go_ret
  exact ⟨rfl, HB.out⟩
set_option maxHeartbeats 16000000 in
set_option maxRecDepth 100000 in
theorem feed_calls {w : World} {B gs gw m : Nat} {M : Option Nat} {A : Option Addr} {s : SS} (h : StrAt w B gs gw M A s) (hb : Bd s m) (chunk : List Int) (hm : m + 2 * chunk.length + 2 ≤ 100000) (hh : s.st.held.length + chunk.length ≤ 4000) (hov : s.over = false) (Ab : Option Addr) (cb : Nat) (hsrc : Kd.C (Kd.int .u8) w Ab chunk.length chunk) (hcb : chunk.length ≤ cb) (hB : B ≤ w.heap.size) (hfar : 0 < chunk.length → ∀ ad, Ab = some ad → ¬ Foot gs gw M A ad.block) :
    Calls Try.prog 15 #[.pointer (some ⟨gs, 0, none⟩), .slice Ab chunk.length cb] w fun e w' => ∃ v A', e = .returned v ∧ Kd.R kL 47 w' w.heap.size (fun k => ¬ Foot gs gw M A' k) v (feed s [] chunk).2 ∧ Lined w w' B gs gw M A A' s (feed s [] chunk).1 := by
  have HS := Aside0.mk h
  have HB := Aside0.mk hb
  have HM := Aside0.mk hm
  have HH := Aside0.mk hh
  have HOV := Aside0.mk hov
  have HR := Aside0.mk hsrc
  have HCB := Aside0.mk hcb
  have HBW := Aside0.mk hB
  have HF := Aside0.mk hfar
  have k5 : w.cell? ⟨gs, 5, none⟩ = some (.bool s.over) := (blk_cell h.box 5).trans rfl
  have k0 : w.cell? ⟨gs, 0, none⟩ = some (.pointer (mp M)) := (blk_cell h.box 0).trans rfl
  rw [hov] at k5
  have hlt := blk_lt h.box
  have hu := Try.underlying70
  have hmf : ∀ (fn : Fn) (first cap : Array Value) (w : World), (Instr.makeFunc fn first cap).run Try.prog w = .ok (.func fn first cap) w := fun _ _ _ _ => rfl
  clear h hb hm hh hov hsrc hcb hB hfar
  go_enter Try.func15, Try.ntmps15
  go_wp2
  have H0 := Aside0.mk (fd_start HS.out HB.out HBW.out chunk)
  have HWL := Aside0.mk (And.intro (foot_lt HS.out) HS.out.low)
  clear k5 k0 hlt
  go_loopw [8, 28] (fun v8 v28 wr => ∃ (i f : Nat) (s1 : SS) (A1 : Option Addr) (v : Value) (ls : List Ln), v28 = .int .i64 (i : Int) ∧ v8 = .int .i64 (f : Int) ∧ Aside0 (Fd w wr B gs gw M A A1 s s1 m chunk i f v ls)) (fun _ v _ => chunk.length - (intOf v).toNat)
  case atStart => exact ⟨0, 0, s, A, .slice none 0 0, [], rfl, rfl, H0⟩
  case round =>
    clear H0
    obtain ⟨i, f, s1, A1, v, ls, rfl, rfl, HD⟩ := hrel
    by_cases hlt : i < chunk.length
    · have e1 : decide ((i : Int) < (chunk.length : Int)) = true := decide_eq_true (by omega)
      have e2 : decide (i < chunk.length) = true := decide_eq_true hlt
      have HI := Aside0.mk hlt
      have HC := Aside0.mk (chunk_C HR.out HD.out.lin.kept HF.out)
      have HSM := Aside0.mk (HD.out.bd.sml (by have := HM.out; omega))
      have hW := Aside0.mk (show wrap64 ((i : Int) + 1) = ((i + 1 : Nat) : Int) from wr9 (by omega) (by have := HM.out; omega))
      have HBR := Aside0.mk (show B ≤ wr.heap.size from Nat.le_trans HBW.out HD.out.lin.kept.1)
      clear hlt
      go_wp2_with fail
      refine (read_in M 0 0 (s1.hunt : Int) (s1.st.mv : Int) Ab chunk.length cb chunk (i : Int) wr (Win.met HD.out.lin.str.win) HC.out rfl (by omega) (by have := HI.out; omega) (by omega) (by have := HSM.out.hunt; omega)).mono ?_
      rintro e w2 ⟨rfl, hp⟩
      have HL2 := Aside0.mk (HD.out.lin.str.read HBR.out hp)
      have HO2 := Aside0.mk (blk_kept HD.out.out HL2.out.kept HD.out.far.1)
      have HX2 := Aside0.mk (blk_kept HD.out.box HL2.out.kept HD.out.far.2)
      have HR2 := Aside0.mk (Kd.R_kept HD.out.row HL2.out.kept (fun k hk e => hk.1 e))
      clear hp
      have hrd : rd chunk (i : Int) = chunk[i]'HI.out := by unfold rd; rw [Int.toNat_natCast, List.getD_eq_getElem?_getD, List.getElem?_eq_getElem HI.out]; rfl
      rw [hrd]
      have HDR := Aside0.mk (show chunk.drop i = chunk[i]'HI.out :: chunk.drop (i + 1) from List.drop_eq_getElem_cons HI.out)
      have HSN := Aside0.mk (mid_snoc chunk f i HI.out HD.out.le.1)
      generalize chunk[i]'HI.out = c at HDR HSN ⊢
      clear hrd
      by_cases hc : c = 10
      · have e3 : (c == 10) = true := beq_iff_eq.mpr hc
        obtain ⟨As, hAs⟩ : ∃ As, As = (if cb = f then Ab else Ab.map (·.add f)) := ⟨_, rfl⟩
        have hcl : ∀ W : World, (Instr.slice 38 (.slice Ab chunk.length cb) (some (.int .i64 (f : Int))) (some (.int .i64 (i : Int))) none).run Try.prog W = .ok (.slice As (i - f) (cb - f)) W := by rw [hAs]; exact cut_lh Ab chunk.length cb f i HD.out.le.1 (by have := HCB.out; have := HI.out; omega)
        have HML := Aside0.mk (mid_len chunk f i HD.out.le.2)
        have HMC := Aside0.mk (mid_C (c := cb) (chunk_C HR.out (HD.out.lin.trans HL2.out).kept HF.out) f i HD.out.le.1 HD.out.le.2 HCB.out)
        have HAS := Aside0.mk (fun (hp : 0 < chunk.length) (ad : Addr) (e : As = some ad) => fd_far (HD.out.lin.trans HL2.out) HWL.out.1 (HF.out hp) (Met.far_of HR.out hp) f cb ad (by rw [← hAs]; exact e))
        have HCC := Aside0.mk hc
        have HDD := Aside0.mk HD.out
        rw [← hAs] at HMC
        clear hc hAs
        have p2 : 0 ≤ (f : Int) := by omega
        have p3 : (f : Int) ≤ (i : Int) := by have := HD.out.le.1; omega
        have p4 : (i : Int) ≤ (cb : Int) := by have := HCB.out; have := HI.out; omega
        go_wp2_with fail
        refine (tell_calls HL2.out.str (Bd.sml HD.out.bd.read (by have := HM.out; have := HI.out; omega)) As (cb - f) (i - f) (mid chunk f i) HMC.out HML.out.symm (by have := HML.out; have := HCB.out; have := HI.out; omega) (by have := HML.out; have := HM.out; have := HI.out; omega) (Nat.le_trans HBR.out HL2.out.kept.1) (fun _ ad e => HAS.out (by have := HI.out; omega) ad e) (w.heap.size + 1) w.heap.size w.heap.size v ls HO2.out HX2.out HD.out.far.1 HD.out.far.2 (by omega) (Nat.le_trans HD.out.lin.kept.1 HL2.out.kept.1) (by have := HBW.out; omega) HBW.out HR2.out (by have := HD.out.few; have := HM.out; have := HI.out; omega)).mono ?_
        rintro e w3 ⟨rfl, A3, v3, hstr, hgo, hrow, hk, hb, hmov⟩
        have HN := Aside0.mk (fd_line HDD.out HL2.out HI.out HDR.out HCC.out (by have := HML.out; have := HH.out; have := HD.out.held; have := HI.out; omega) HR2.out HO2.out HX2.out HWL.out.1 hstr hgo hrow hk hb hmov)
        clear hstr hgo hrow hk hb hmov HDD HD
        go_wp2
        go_roundw
        case rel => exact ⟨i + 1, i + 1, _, A3, v3, _, by first | exact congrArg (Value.int .i64) hW.out | rfl, by first | exact congrArg (Value.int .i64) hW.out | rfl, HN⟩
        case measure => exact ms_step HI.out (by first | exact hW.out | simp)
      · have e3 : (c == 10) = false := beq_eq_false_iff_ne.mpr hc
        have HCC := Aside0.mk hc
        have HWW := Aside0.mk (show Win w2 gw M ((readS s1).hunt : Int) A1 s1.st from HL2.out.str.win)
        have HML := Aside0.mk (mid_len chunk f i HD.out.le.2)
        have hfi := HD.out.le.1
        have hhl : s1.st.held.length ≤ 4000 := by have := HH.out; have := HD.out.held; omega
        have x1 : IntKind.i64.wrap ((s1.st.held.length : Int) + (i : Int)) = (s1.st.held.length : Int) + (i : Int) := IntWalk.i64_in _ (by have := HM.out; have := HI.out; omega)
        have x2 : IntKind.i64.wrap ((s1.st.held.length : Int) + (i : Int) - (f : Int)) = (s1.st.held.length : Int) + (i : Int) - (f : Int) := IntWalk.i64_in _ (by have := HM.out; have := HI.out; omega)
        have k0 := (blk_cell HX2.out 0).trans (show _ = some (Value.pointer (some ⟨gs, 0, none⟩)) from rfl)
        have k1 := (blk_cell HL2.out.str.box 1).trans (show _ = some (Value.pointer (some ⟨gw, 0, none⟩)) from rfl)
        have k2 := (blk_cell HL2.out.str.box 2).trans (show _ = some (Value.int .i64 s1.most) from rfl)
        clear hc hfi hhl
        by_cases hmo : s1.most ≤ (s1.st.held.length : Int) + (i : Int) - (f : Int)
        · have e4 : decide (s1.most ≤ (s1.st.held.length : Int) + (i : Int) - (f : Int)) = true := decide_eq_true hmo
          have HMO := Aside0.mk hmo
          go_wp2_with fail
          go_region_held3 (fun w' => w'.cell? ⟨w.heap.size, 0, none⟩ = some (.pointer (some ⟨gs, 0, none⟩)) ∧ w'.cell? ⟨gs, 1, none⟩ = some (.pointer (some ⟨gw, 0, none⟩)) ∧ w'.cell? ⟨gs, 2, none⟩ = some (.int .i64 s1.most))
            (first | exact ⟨k0, k1, k2⟩ | go_keep)
            ((first
              | (go_at_call 29; refine (win_len (HWW.out.below (below_drew (Below.refl _ _)))).mono ?_; rintro e w3 ⟨rfl, hb⟩; have HBB := Aside0.mk (Below.trans (Below.drew (Below.refl w2.heap.size w2)) hb); clear k0 k1 k2 hb; have HS3 := Aside0.mk (HL2.out.str.below HBB.out); have HX3 := Aside0.mk (blk_below HX2.out HBB.out); have HO3 := Aside0.mk (blk_below HO2.out HBB.out); have k0 := (blk_cell HX3.out 0).trans (show _ = some (Value.pointer (some ⟨gs, 0, none⟩)) from rfl); have k1 := (blk_cell HS3.out.box 1).trans (show _ = some (Value.pointer (some ⟨gw, 0, none⟩)) from rfl); have k2 := (blk_cell HS3.out.box 2).trans (show _ = some (Value.int .i64 s1.most) from rfl))))
          go_wp2
          have h5 := (blk_cell HS3.out.box 5).trans (show _ = some (Value.bool s1.over) from rfl)
          have h6 := (blk_cell HS3.out.box 6).trans (show _ = some (Value.int .i64 s1.bad) from rfl)
          have f5 := blk_frozen HS3.out.box 5
          have f6 := blk_frozen HS3.out.box 6
          go_region
          have U1 := Aside0.mk (show ((w3.setCell ⟨gs, 5, none⟩ (.bool true)).setCell ⟨gs, 6, none⟩ (.int .i64 15)).drew.heap[gs]? = some (.cells #[.pointer (mp M), .pointer (some ⟨gw, 0, none⟩), .int .i64 s1.most, .int .i64 (s1.num : Int), .int .i64 (s1.off : Int), .bool true, .int .i64 15] 70 (0, 0)) from blk_set (blk_set HS3.out.box 5 (.bool true)) 6 (.int .i64 15))
          have hgn : ¬ w.heap.size + 1 = gs := by have := HS.out.lt; omega
          have U2 := Aside0.mk (show ((w3.setCell ⟨gs, 5, none⟩ (.bool true)).setCell ⟨gs, 6, none⟩ (.int .i64 15)).drew.heap[w.heap.size + 1]? = some (.cells #[v] 35 (0, 0)) from blk_far (blk_far HO3.out (p := ⟨gs, 5, none⟩) hgn _) (p := ⟨gs, 6, none⟩) hgn _)
          have UK := Aside0.mk (show Kept w3 ((w3.setCell ⟨gs, 5, none⟩ (.bool true)).setCell ⟨gs, 6, none⟩ (.int .i64 15)).drew (fun k => k = gs) from Kept.setCell (S := fun k => k = gs) (p := ⟨gs, 6, none⟩) (Kept.setCell (S := fun k => k = gs) (p := ⟨gs, 5, none⟩) (Kept.refl _ _) (Or.inl rfl) _) (Or.inl rfl) _)
          have UB := Aside0.mk (show Below B w3 ((w3.setCell ⟨gs, 5, none⟩ (.bool true)).setCell ⟨gs, 6, none⟩ (.int .i64 15)).drew from below_drew (Below.setCell (p := ⟨gs, 6, none⟩) (Below.setCell (p := ⟨gs, 5, none⟩) (Below.refl B w3) HS.out.low.1 _) HS.out.low.1 _))
          clear h5 h6 f5 f6 hgn k0 k1 k2
          generalize ((w3.setCell ⟨gs, 5, none⟩ (.bool true)).setCell ⟨gs, 6, none⟩ (.int .i64 15)).drew = w4 at U1 U2 UK UB ⊢
          have kv : w4.cell? ⟨w.heap.size + 1, 0, none⟩ = some v := (blk_cell U2.out 0).trans rfl
          go_wp2
          go_ret
          exact fd_bad HD.out HL2.out HI.out HDR.out HCC.out (by have := HMO.out; have := HML.out; have := HD.out.le.1; omega) HBB.out HS3.out HR2.out HBR.out U1.out UK.out UB.out
        · have e4 : decide (s1.most ≤ (s1.st.held.length : Int) + (i : Int) - (f : Int)) = false := decide_eq_false hmo
          have HMO := Aside0.mk hmo
          go_wp2_with fail
          go_region_held3 (fun w' => w'.cell? ⟨w.heap.size, 0, none⟩ = some (.pointer (some ⟨gs, 0, none⟩)) ∧ w'.cell? ⟨gs, 1, none⟩ = some (.pointer (some ⟨gw, 0, none⟩)) ∧ w'.cell? ⟨gs, 2, none⟩ = some (.int .i64 s1.most))
            (first | exact ⟨k0, k1, k2⟩ | go_keep)
            ((first
              | (go_at_call 29; refine (win_len (HWW.out.below (below_drew (Below.refl _ _)))).mono ?_; rintro e w3 ⟨rfl, hb⟩; have HBB := Aside0.mk (Below.trans (Below.drew (Below.refl w2.heap.size w2)) hb); clear k0 k1 k2 hb; have HS3 := Aside0.mk (HL2.out.str.below HBB.out); have HX3 := Aside0.mk (blk_below HX2.out HBB.out); have HO3 := Aside0.mk (blk_below HO2.out HBB.out); have k0 := (blk_cell HX3.out 0).trans (show _ = some (Value.pointer (some ⟨gs, 0, none⟩)) from rfl); have k1 := (blk_cell HS3.out.box 1).trans (show _ = some (Value.pointer (some ⟨gw, 0, none⟩)) from rfl); have k2 := (blk_cell HS3.out.box 2).trans (show _ = some (Value.int .i64 s1.most) from rfl))))
          have HN := Aside0.mk (fd_go HD.out HL2.out HI.out HDR.out HCC.out HSN.out (by have := HMO.out; have := HML.out; have := HD.out.le.1; omega) HBB.out HS3.out HO3.out HX3.out HR2.out HBR.out)
          clear HBB HS3 HX3 HO3 k0 k1 k2
          go_wp2
          go_roundw
          case rel => exact ⟨i + 1, f, _, A1, v, ls, by first | exact congrArg (Value.int .i64) hW.out | rfl, rfl, HN⟩
          case measure => exact ms_step HI.out (by first | exact hW.out | simp)
    · have hi : i = chunk.length := by have := HD.out.le.2; omega
      have e1 : decide ((i : Int) < (chunk.length : Int)) = false := decide_eq_false (by omega)
      have e2 : decide (i < chunk.length) = false := decide_eq_false hlt
      have HI := Aside0.mk hi
      have HSM := Aside0.mk (HD.out.bd.sml (by have := HM.out; omega))
      have HBR := Aside0.mk (show B ≤ wr.heap.size from Nat.le_trans HBW.out HD.out.lin.kept.1)
      have p2 : 0 ≤ (f : Int) := by omega
      have p3 : (f : Int) ≤ (chunk.length : Int) := by have := HD.out.le.1; omega
      have HML := Aside0.mk (show (mid chunk f chunk.length).length = chunk.length - f from mid_len chunk f chunk.length (Nat.le_refl _))
      obtain ⟨As, hAs⟩ : ∃ As, As = (if cb = f then Ab else Ab.map (·.add f)) := ⟨_, rfl⟩
      have hcl : ∀ W : World, (Instr.slice 38 (.slice Ab chunk.length cb) (some (.int .i64 (f : Int))) none none).run Try.prog W = .ok (.slice As (mid chunk f chunk.length).length (cb - f)) W := fun W => by rw [hAs, HML.out]; exact cut_l Ab chunk.length cb f (by omega) W
      have HMC := Aside0.mk (mid_C (c := cb) (chunk_C HR.out HD.out.lin.kept HF.out) f chunk.length (by omega) (Nat.le_refl _) HCB.out)
      have HAS := Aside0.mk (fun (hp : 0 < chunk.length) (ad : Addr) (e : As = some ad) => fd_far HD.out.lin HWL.out.1 (HF.out hp) (Met.far_of HR.out hp) f cb ad (by rw [← hAs]; exact e))
      rw [← hAs] at HMC
      have HMC2 := Aside0.mk (show Kd.C (Kd.int .u8) wr As (mid chunk f chunk.length).length (mid chunk f chunk.length) from HMC.out)
      have k0 := (blk_cell HD.out.box 0).trans (show _ = some (Value.pointer (some ⟨gs, 0, none⟩)) from rfl)
      have k1 := (blk_cell HD.out.lin.str.box 1).trans (show _ = some (Value.pointer (some ⟨gw, 0, none⟩)) from rfl)
      have HPM := Aside0.mk (fun (hp : 0 < (mid chunk f chunk.length).length) => show 0 < chunk.length by have := HML.out; omega)
      have HMT := Aside0.mk (show (mid chunk f chunk.length).length ≤ 4000 by have := HML.out; have := HH.out; omega)
      generalize hmd : mid chunk f chunk.length = T at hcl HMC2 HPM HMT
      have HMD := Aside0.mk hmd
      clear hlt hi hAs HMC HML hmd
      go_wp2_with fail
      go_region_held3 (fun w' => w'.cell? ⟨w.heap.size, 0, none⟩ = some (.pointer (some ⟨gs, 0, none⟩)) ∧ w'.cell? ⟨gs, 1, none⟩ = some (.pointer (some ⟨gw, 0, none⟩)))
        (first | exact ⟨k0, k1⟩ | go_keep)
        ((first
          | (go_at_call 30; refine (win_add (HD.out.lin.str.win.below (below_drew (Below.refl _ _))) As (cb - f) B T HS.out.low.2.1 HS.out.low.2.2.1 HD.out.lin.str.low.2.2.2 (Kd.C_below HMC2.out (below_drew (Below.refl _ _))) (fun hp ad e => ⟨fun e2 => HAS.out (HPM.out hp) ad e (Or.inr (Or.inl e2)), fun e2 => HAS.out (HPM.out hp) ad e (Or.inr (Or.inr (Or.inl e2)))⟩) (by have := HD.out.bd.room; omega) (by have := HMT.out; omega) (by have := HSM.out.mv; omega)).mono ?_; rintro e w3 ⟨rfl, A3, hw, hao, hba, hkp, hbb⟩; have HE := Aside0.mk (fd_end HD.out HI.out HMD.out HBR.out hw hao hba hkp hbb); clear hw hao hba hkp hbb k0 k1; have k0 := (blk_cell HE.out.2.1 0).trans (show _ = some (Value.pointer (some ⟨gs, 0, none⟩)) from rfl); have k1 := (blk_cell HE.out.2.2.1 1).trans (show _ = some (Value.pointer (some ⟨gw, 0, none⟩)) from rfl))))
      have kv := (blk_cell HE.out.1 0).trans (show _ = some v from rfl)
      clear k0 k1
      go_wp2
      go_ret
      exact HE.out.2.2.2
end Go.Proofs.Ytgiaabgmnjaefaa.Str
