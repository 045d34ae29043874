/- The document's Feed. -/
import Derived.Test.YtgiaabgmnjaefaaRefD
import Derived.Test.YtgiaabgmnjaefaaAid
section
namespace Go.Proofs.Ytgiaabgmnjaefaa.Str
open Go Go.RowKit Go.Proofs Go.Proofs.Ytgiaabgmnjaefaa.Met Go.Proofs.Ytgiaabgmnjaefaa.Win Go.Proofs.YtgiaabgmnjaefaaW.PrintWords Go.Proofs.YtgiaabgmnjaefaaW.PrintMore Go.Proofs.Ytgiaabgmnjaefaa.Aid
set_option linter.unusedVariables false
set_option linter.unusedSimpArgs false
attribute [local go_sem] max2_int min2_int max_two min_two max_three min_three
/-- rows of the document's lines -/
def kQ : Kd Ln := Kd.iso (Kd.pair (Kd.int .i64) (Kd.pair (Kd.int .i64) Kd.string)) (fun x : Ln => (x.1, x.2.1, strOfNums x.2.2))
theorem kQ_mkM (w : World) (base : Nat) (ok : Nat → Prop) (x : Ln) : kQ.M w base ok x [.int .i64 x.1, .int .i64 x.2.1, .string (strOfNums x.2.2)] := ⟨[.int .i64 x.1], [.int .i64 x.2.1, .string (strOfNums x.2.2)], rfl, rfl, ⟨[.int .i64 x.2.1], [.string (strOfNums x.2.2)], rfl, rfl, rfl⟩⟩
theorem infoQ : (Try.prog.info? 49).map (fun i => (i.zero, i.size, i.bytes)) = some (some (.agg #[.int .i64 0, .int .i64 0, .string ⟨#[]⟩]), 3, 32) := by kernel_rfl
abbrev z9 : Array Value := #[.string ⟨#[]⟩, .int .i64 0, .int .i64 0, .int .i64 0, .int .i64 0, .int .i64 0, .int .i64 0, .bool false, .int .i64 0]
theorem refA_one (s : SS) : (refA s).all (·.oneCell') = true := by simp [refA, Value.oneCell']
theorem refA_size (s : SS) : (refA s).size = 9 := rfl
theorem info33s (s : SS) : (Try.prog.info? 33).map (·.size) = some (refA s).size := info33
/-- where Feed stands -/
structure FA (w wr : World) (s : SS) : Prop where
  box : wr.heap[w.heap.size]? = some (.cells (refA s) 33 (0, 0))
  res : wr.heap[w.heap.size + 1]? = some (.cells z9 33 (0, 0))
  bel : Below w.heap.size w wr
def OkF (w : World) (k : Nat) : Prop := k ≠ w.heap.size ∧ k ≠ w.heap.size + 1
theorem FA.below {w wr w2 : World} {s : SS} (h : FA w wr s) (hb : Below wr.heap.size wr w2) : FA w w2 s := ⟨blk_below h.box hb, blk_below h.res hb, Below.trans h.bel (hb.mono h.bel.size)⟩
theorem FA.kept {w wr w2 : World} {s : SS} {S : Nat → Prop} (h : FA w wr s) (hk : Kept wr w2 S) (h0 : ¬ S w.heap.size) (h1 : ¬ S (w.heap.size + 1)) (hb : Below w.heap.size w w2) : FA w w2 s := ⟨blk_kept h.box hk h0, blk_kept h.res hk h1, hb⟩
theorem FA.row {w wr : World} {s : SS} (h : FA w wr s) (s' : SS) : FA w (wr.setRow w.heap.size (refA s')) s' :=
  ⟨setRow_heap wr w.heap.size (refA s) (refA s') _ (0, 0) h.box, (setRow_other wr w.heap.size _ _ (by omega)).trans h.res, below_setRow h.bel (Nat.le_refl _) _⟩
theorem FA.put {w wr : World} {s s' : SS} (h : FA w wr s) (j : Nat) (u : Value) (e : (refA s).setIfInBounds j u = refA s') : FA w (wr.setCell ⟨w.heap.size, j, none⟩ u) s' :=
  ⟨blk_put h.box j u e, blk_far h.res (p := ⟨w.heap.size, j, none⟩) (show w.heap.size + 1 ≠ w.heap.size by omega) u, below_set h.bel (Nat.le_refl _)⟩
/-- a result -/
theorem FA.done {w wr : World} {s : SS} (h : FA w wr s) (cs : Array Value) : (wr.setRow (w.heap.size + 1) cs).heap[w.heap.size + 1]? = some (.cells cs 33 (0, 0)) ∧ Below w.heap.size w (wr.setRow (w.heap.size + 1) cs) :=
  ⟨setRow_heap wr (w.heap.size + 1) z9 cs _ (0, 0) h.res, below_setRow h.bel (Nat.le_succ _) _⟩
theorem row_R {d : Kd Ln} {w wr : World} {base e : Nat} {v : Value} {X : List Ln} {g : Nat} (cs : Array Value) (hR : Kd.R d e wr base (OkF w) v X) (hg : g = w.heap.size ∨ g = w.heap.size + 1) : Kd.R d e (wr.setRow g cs) base (OkF w) v X :=
  Kd.R_move hR (fun k hk => setRow_other wr g k cs (by rcases hg with rfl | rfl; exact hk.1; exact hk.2))
theorem put_R {d : Kd Ln} {w wr : World} {base e : Nat} {v : Value} {X : List Ln} (j : Nat) (u : Value) (hR : Kd.R d e wr base (OkF w) v X) : Kd.R d e (wr.setCell ⟨w.heap.size, j, none⟩ u) base (OkF w) v X :=
  Kd.R_far hR (p := ⟨w.heap.size, j, none⟩) (fun k hk => hk.1) u
/-- where the loop stands -/
structure FQ (s0 : SS) (chunk : List Int) (m i : Nat) (s : SS) (part : List Int) (X : List Ln) : Prop where
  le : i ≤ chunk.length
  eq : feed s0 [] chunk = ((feed s part (chunk.drop i)).1, X ++ (feed s part (chunk.drop i)).2)
  bd : Bd s (m + 2 * i)
  held : s.st.held.length + part.length ≤ s0.st.held.length + i
  few : X.length ≤ i
  over : s.over = false
theorem fq_line {s0 s : SS} {chunk part : List Int} {m i : Nat} {X : List Ln} (h : FQ s0 chunk m i s part X) (hi : i < chunk.length) (hc : chunk[i] = 10) (hl : s0.st.held.length + chunk.length ≤ 4000) : FQ s0 chunk m (i + 1) (lineS (readS s) part) [] (X ++ [lnOf (readS s) part]) := by
  have hd : chunk.drop i = chunk[i] :: chunk.drop (i + 1) := List.drop_eq_getElem_cons hi
  have he := h.eq
  rw [hd, feed_nl _ _ _ hc] at he
  have hh := h.held
  have h2 := line_held_le (readS s) part
  have h3 : (readS s).st.held.length = s.st.held.length := rfl
  refine ⟨hi, ?_, ((Bd.read h.bd).line part (by show s.st.held.length + _ ≤ _; omega)).mono (by omega), by simp only [List.length_nil]; omega, by rw [List.length_append]; simp only [List.length_cons, List.length_nil]; have := h.few; omega, h.over⟩
  rw [he, List.append_assoc]
  rfl
theorem fq_go {s0 s : SS} {chunk part : List Int} {m i : Nat} {X : List Ln} {c : Int} (h : FQ s0 chunk m i s part X) (hi : i < chunk.length) (hcc : chunk[i] = c) (hc : c ≠ 10) (hm : ¬ s.most ≤ (s.st.held.length : Int) + (part.length : Int)) : FQ s0 chunk m (i + 1) (readS s) (part ++ [c]) X := by
  subst hcc
  have hd : chunk.drop i = chunk[i] :: chunk.drop (i + 1) := List.drop_eq_getElem_cons hi
  have he := h.eq
  rw [hd, feed_go _ _ _ hc hm] at he
  have hh := h.held
  exact ⟨hi, he, (Bd.read h.bd).mono (by omega), by rw [List.length_append]; show s.st.held.length + _ ≤ _; simp only [List.length_cons, List.length_nil]; omega, Nat.le_trans h.few (Nat.le_succ _), h.over⟩
theorem fq_bad {s0 s : SS} {chunk part : List Int} {m i : Nat} {X : List Ln} {c : Int} (h : FQ s0 chunk m i s part X) (hi : i < chunk.length) (hcc : chunk[i] = c) (hc : c ≠ 10) (hm : s.most ≤ (s.st.held.length : Int) + (part.length : Int)) : feed s0 [] chunk = (badS (readS s), X) := by
  subst hcc
  have hd : chunk.drop i = chunk[i] :: chunk.drop (i + 1) := List.drop_eq_getElem_cons hi
  have he := h.eq
  rw [hd, feed_bad _ _ _ hc hm] at he
  rw [he, List.append_nil]
theorem fq_end {s0 s : SS} {chunk part : List Int} {m i : Nat} {X : List Ln} (h : FQ s0 chunk m i s part X) (hi : ¬ i < chunk.length) : feed s0 [] chunk = (restS s part, X) := by
  have he := h.eq
  rw [List.drop_of_length_le (by omega), feed_nil] at he
  rw [he, List.append_nil]
theorem str_cut (l : List Int) (a b : Nat) : (strOfNums l).extract a b = strOfNums ((l.take b).drop a) := by
  apply ByteArray.ext
  simp [strOfNums, List.drop_take]
theorem cut_one (l : List Int) (i : Nat) (h : i < l.length) : (strOfNums l).extract i (i + 1) = strOfNums [l[i]] := by
  rw [str_cut, List.take_succ_eq_append_getElem h, List.drop_append_of_le_length (by rw [List.length_take]; omega), List.drop_eq_nil_of_le (by rw [List.length_take]; omega)]
  rfl
/-- loads and stores of a whole stream or line -/
theorem ld33_ {ops : Array Oper} {rest : List Oper} {o : Oper} {a : Act} {w : World} {Q : Exit → Act → World → Prop} (x : Operand) (g : Nat) (cs : Array Value) (ho : o.op = .load 33 x) (hgd : o.guard = none) (hx : a.eval x = .pointer (some ⟨g, 0, none⟩)) (hg : w.heap[g]? = some (.cells cs 33 (0, 0))) (hs : cs.size = 9) (h : wpList Try.prog ops Q rest (a.put o.dst (.agg cs)) w) : wpList Try.prog ops Q (o :: rest) a w :=
  wpList_load_row hgd 33 x ho g hx 33 cs (0, 0) _ hg Try.underlying33 rfl (by rw [hs]; exact info33) h
theorem ld49_ {ops : Array Oper} {rest : List Oper} {o : Oper} {a : Act} {w : World} {Q : Exit → Act → World → Prop} (x : Operand) (g : Nat) (cs : Array Value) (ho : o.op = .load 49 x) (hgd : o.guard = none) (hx : a.eval x = .pointer (some ⟨g, 0, none⟩)) (hg : w.heap[g]? = some (.cells cs 49 (0, 0))) (hs : cs.size = 3) (h : wpList Try.prog ops Q rest (a.put o.dst (.agg cs)) w) : wpList Try.prog ops Q (o :: rest) a w :=
  wpList_load_row hgd 49 x ho g hx 49 cs (0, 0) _ hg Try.underlying49 rfl (by rw [hs]; exact info49) h
theorem st33_ {ops : Array Oper} {rest : List Oper} {o : Oper} {a : Act} {w : World} {Q : Exit → Act → World → Prop} (x y : Operand) (g : Nat) (cs old : Array Value) (ho : o.op = .store 33 x y) (hgd : o.guard = none) (hd : o.dst = none) (hx : a.eval x = .pointer (some ⟨g, 0, none⟩)) (hy : a.eval y = .agg cs) (hg : w.heap[g]? = some (.cells old 33 (0, 0))) (hs : cs.size = 9 ∧ cs.all (·.oneCell') = true) (ho2 : old.size = 9) (h : wpList Try.prog ops Q rest a (w.setRow g cs)) : wpList Try.prog ops Q (o :: rest) a w :=
  wpList_store_row hgd 33 x y ho g cs hx hy 33 old hg (by rw [hs.1]; exact info33) (by rw [hs.1, ho2]) hs.2 (by rw [hd]; exact h)
theorem st49_ {ops : Array Oper} {rest : List Oper} {o : Oper} {a : Act} {w : World} {Q : Exit → Act → World → Prop} (x y : Operand) (g : Nat) (cs old : Array Value) (ho : o.op = .store 49 x y) (hgd : o.guard = none) (hd : o.dst = none) (hx : a.eval x = .pointer (some ⟨g, 0, none⟩)) (hy : a.eval y = .agg cs) (hg : w.heap[g]? = some (.cells old 49 (0, 0))) (hs : cs.size = 3 ∧ cs.all (·.oneCell') = true) (ho2 : old.size = 3) (h : wpList Try.prog ops Q rest a (w.setRow g cs)) : wpList Try.prog ops Q (o :: rest) a w :=
  wpList_store_row hgd 49 x y ho g cs hx hy 49 old hg (by rw [hs.1]; exact info49) (by rw [hs.1, ho2]) hs.2 (by rw [hd]; exact h)
set_option maxHeartbeats 16000000 in
set_option maxRecDepth 100000 in
theorem ref_feed_over (s : SS) (hov : s.over = true) (b : ByteArray) (w : World) :
    Calls Try.prog 16 #[.agg (refA s), .string b] w fun e w' => e = .returned (.tuple #[.agg (refA s), .slice none 0 0]) ∧ Below w.heap.size w w' := by
  have hu33 := Try.underlying33
  have hz := zero33
  have H0 := Aside0.mk (show FA w ((w.alloc (.cells (refA s) 33)).alloc (.cells z9 33)) s from by
    have b1 := blk_alloc (blk_new w (.cells (refA s) 33)) (.cells z9 33)
    have b2 := blk_new (w.alloc (.cells (refA s) 33)) (.cells z9 33)
    rw [World.size_alloc] at b2
    exact ⟨b1, b2, below_alloc (below_alloc (Below.refl _ _) _) _⟩)
  have HD := Aside0.mk (H0.out.done (refA s))
  have HBX := Aside0.mk H0.out.box
  have HRS := Aside0.mk H0.out.res
  have k7 := (blk_cell H0.out.box 7).trans (show _ = some (Value.bool s.over) from rfl)
  rw [hov] at k7
  have HI3 := Aside0.mk (info33s s)
  have HON := Aside0.mk (refA_one s)
  have HSZ := Aside0.mk (show z9.size = (refA s).size from rfl)
  clear H0
  generalize refA s = rs at HBX HRS HD k7 HI3 HON HSZ
  clear hov
  go_enter Try.func16, Try.ntmps16
  go_wp2_with (first
    | (refine wpList_load_row rfl 33 (.tmp 2) rfl w.heap.size rfl 33 rs (0,0) _ HBX.out hu33 rfl HI3.out ?_)
    | (refine wpList_store_row rfl 33 (.tmp 4) (.tmp 13) rfl (w.heap.size+1) rs rfl rfl 33 z9 HRS.out HI3.out HSZ.out HON.out ?_))
  refine bodyPost_ret (results_ct rfl _ _ (w.heap.size+1) 33 rs (0,0) _ rfl HD.out.1 hu33 rfl HI3.out) rfl ?_
  exact ⟨rfl, HD.out.2⟩
abbrev z3 : Array Value := #[.int .i64 0, .int .i64 0, .string ⟨#[]⟩]
theorem z9_size : z9.size = 9 := rfl
theorem z3_size : z3.size = 3 := rfl
theorem one3 (a b : Int) (c : ByteArray) : (#[.int .i64 a, .int .i64 b, .string c] : Array Value).all (·.oneCell') = true := by simp [Value.oneCell']
theorem ok3 (a b : Int) (c : ByteArray) : (#[.int .i64 a, .int .i64 b, .string c] : Array Value).size = 3 ∧ (#[.int .i64 a, .int .i64 b, .string c] : Array Value).all (·.oneCell') = true := ⟨rfl, one3 a b c⟩
/-- the two boxes of a line -/
abbrev wL2 (w3 : World) : World := (w3.alloc (.cells z9 33)).alloc (.cells z3 49)
theorem wl_facts (w3 : World) (r3 l3 : Array Value) :
    (wL2 w3).heap[w3.heap.size]? = some (.cells z9 33 (0, 0)) ∧
    ((wL2 w3).setRow w3.heap.size r3).heap[w3.heap.size + 1]? = some (.cells z3 49 (0, 0)) ∧
    (((wL2 w3).setRow w3.heap.size r3).setRow (w3.heap.size + 1) l3).heap[w3.heap.size]? = some (.cells r3 33 (0, 0)) ∧
    (((wL2 w3).setRow w3.heap.size r3).setRow (w3.heap.size + 1) l3).heap[w3.heap.size + 1]? = some (.cells l3 49 (0, 0)) ∧
    Below w3.heap.size w3 (((wL2 w3).setRow w3.heap.size r3).setRow (w3.heap.size + 1) l3) := by
  have b1 := blk_alloc (blk_new w3 (.cells z9 33)) (.cells z3 49)
  have b2 := blk_new (w3.alloc (.cells z9 33)) (.cells z3 49)
  rw [World.size_alloc] at b2
  have b3 := setRow_heap (wL2 w3) w3.heap.size z9 r3 _ (0, 0) b1
  have b4 := (setRow_other (wL2 w3) w3.heap.size (w3.heap.size + 1) r3 (by omega)).trans b2
  refine ⟨b1, b4, ?_, setRow_heap _ (w3.heap.size + 1) z3 l3 _ (0, 0) b4, below_setRow (below_setRow (below_alloc (below_alloc (Below.refl _ _) _) _) (Nat.le_refl _) _) (Nat.le_succ _) _⟩
  exact (setRow_other _ (w3.heap.size + 1) w3.heap.size l3 (by omega)).trans b3
theorem fa_app {w wr w1 : World} {s : SS} {v : Value} {X : List Ln} (h : FA w wr s) (hR : Kd.R kQ 49 wr w.heap.size (OkF w) v X) (hg : wr.grownBy w1 v.ownBlock) (hb : Below w.heap.size wr w1) : FA w w1 s :=
  h.kept (S := fun k => v.ownBlock = some k) (Kept.of_grown hg (Kept.refl _ _) (fun k hk => Or.inl hk)) (fun e => (hR.1 _ e).1 rfl) (fun e => (hR.1 _ e).2 rfl) (Below.trans h.bel hb)
theorem fa_fresh {w wr : World} {s : SS} (h : FA w wr s) : ∀ k, wr.heap.size ≤ k → OkF w k := fun k hk => by
  have h1 := blk_lt h.box
  have h2 := blk_lt h.res
  exact ⟨by omega, by omega⟩
theorem bt_ix {str : ByteArray} {i : Nat} {c : Int} (hb : bt str (i : Int) = c) (h : i < str.size) : (((str[i]'h).toNat : Nat) : Int) = c := by
  rw [← hb]
  unfold bt
  simp only [Int.toNat_natCast]
  rw [dif_pos h]
theorem fa_start (w : World) (s : SS) : FA w ((w.alloc (.cells (refA s) 33)).alloc (.cells z9 33)) s := by
  have b1 := blk_alloc (blk_new w (.cells (refA s) 33)) (.cells z9 33)
  have b2 := blk_new (w.alloc (.cells (refA s) 33)) (.cells z9 33)
  rw [World.size_alloc] at b2
  exact ⟨b1, b2, below_alloc (below_alloc (Below.refl _ _) _) _⟩
end Go.Proofs.Ytgiaabgmnjaefaa.Str
end
/- The document's Feed: the loop. -/
section
namespace Go.Proofs.Ytgiaabgmnjaefaa.Str
open Go Go.RowKit Go.Proofs Go.Proofs.Ytgiaabgmnjaefaa.Met Go.Proofs.Ytgiaabgmnjaefaa.Win Go.Proofs.YtgiaabgmnjaefaaW.PrintWords Go.Proofs.YtgiaabgmnjaefaaW.PrintMore Go.Proofs.Ytgiaabgmnjaefaa.Aid
set_option linter.unusedVariables false
set_option linter.unusedSimpArgs false
attribute [local go_sem] max2_int min2_int max_two min_two max_three min_three
theorem sz_in (p c : List Int) (h : p.length + c.length ≤ 5000) : (strOfNums p).size + (strOfNums c).size ≤ 9223372036854775807 := by
  rw [strOfNums_size, strOfNums_size]
  omega
theorem sz_out {a b : Nat} (h : a + b ≤ 9223372036854775807) : (9223372036854775807 < a + b) = False := eq_false (by omega)
set_option maxHeartbeats 16000000 in
set_option maxRecDepth 100000 in
theorem ref_feed (s : SS) (chunk : List Int) (m : Nat) (hb : Bd s m) (hm : m + 2 * chunk.length + 2 ≤ 100000) (hl : s.st.held.length + chunk.length ≤ 4000) (hby : Byt chunk) (hov : s.over = false) (w : World) :
    Calls Try.prog 16 #[.agg (refA s), .string (strOfNums chunk)] w fun e w' => ∃ v, e = .returned (.tuple #[.agg (refA (feed s [] chunk).1), v]) ∧ Kd.R kQ 49 w' w.heap.size (fun _ => True) v (feed s [] chunk).2 ∧ Below w.heap.size w w' := by
  have hu33 := Try.underlying33
  have hu30 := Try.underlying30
  have hu49 := Try.underlying49
  have hz := zero33
  have hz9 := zero49
  have HM := Aside0.mk hm
  have HL := Aside0.mk hl
  have HBY := Aside0.mk hby
  have H0 := Aside0.mk (fa_start w s)
  have HST := Aside0.mk (show strOfNums [] = ⟨#[]⟩ by decide +kernel)
  have HQ0 := Aside0.mk (show FQ s chunk m 0 s [] [] from ⟨Nat.zero_le _, rfl, hb, Nat.le_refl _, Nat.le_refl _, hov⟩)
  have HBX := Aside0.mk H0.out.box
  have k7 := (blk_cell H0.out.box 7).trans (show _ = some (Value.bool s.over) from rfl)
  rw [hov] at k7
  have hsz := strOfNums_size chunk
  have HIX := Aside0.mk (fun (i : Nat) (h : i < chunk.length) => (bt_str hby (i := (i : Int)) (by omega) (by omega)).trans (rd_nat chunk i h))
  have HCU := Aside0.mk (fun (i : Nat) (h : i < chunk.length) => cut_one chunk i h)
  obtain ⟨str, hstr⟩ : ∃ str, str = strOfNums chunk := ⟨_, rfl⟩
  rw [← hstr] at hsz HIX HCU ⊢
  obtain ⟨rs, hrs⟩ : ∃ rs, rs = refA s := ⟨_, rfl⟩
  rw [← hrs] at H0 k7 ⊢
  have HRS := Aside0.mk hrs
  clear hrs hb hm hl hby hov hstr
  go_enter Try.func16, Try.ntmps16
  go_wp2_with fail
  clear k7
  go_loopw [6, 7, 8] (fun v6 v7 v8 wr => ∃ (i : Nat) (s1 : SS) (part : List Int) (X : List Ln), v7 = .string (strOfNums part) ∧ v8 = .int .i64 (i : Int) ∧ Aside0 (FA w wr s1) ∧ Aside0 (Kd.R kQ 49 wr w.heap.size (OkF w) v6 X) ∧ Aside0 (FQ s chunk m i s1 part X)) (fun _ _ v _ => chunk.length - (intOf v).toNat)
  case atStart => exact ⟨0, s, [], [], by rw [HST.out], rfl, ⟨by have := H0.out; rw [HRS.out] at this ⊢; exact this⟩, ⟨Kd.R_nil _ _ _ _ _⟩, HQ0⟩
  case round =>
    clear H0 HQ0
    obtain ⟨i, s1, part, X, rfl, rfl, HA, HX, HQ⟩ := hrel
    obtain ⟨Ax, cx, hv⟩ := Kd.R_slice HX.out
    subst hv
    by_cases hlt : i < chunk.length
    · have e1 : decide ((i : Int) < (chunk.length : Int)) = true := decide_eq_true (by omega)
      have e2 : decide (i < chunk.length) = true := decide_eq_true hlt
      have HI := Aside0.mk hlt
      have k6 := (blk_cell HA.out.box 6).trans (show _ = some (Value.int .i64 (s1.hunt : Int)) from rfl)
      have y6 := blk_frozen HA.out.box 6
      have hbt := bt_ix (HIX.out i HI.out)
      have e4 := eq_true HI.out
      have hcu := HCU.out i HI.out
      generalize hcc : chunk[i]'HI.out = c at hbt hcu
      have HCC := Aside0.mk hcc
      clear hcc hlt
      have HWI := Aside0.mk (show wrap64 ((i : Int) + 1) = ((i + 1 : Nat) : Int) from wr9 (by omega) (by have := HM.out; have := HI.out; omega))
      have HXF := Aside0.mk (show X.length ≤ 100000 by have := HQ.out.few; have := HM.out; have := HI.out; omega)
      have hW := wr9 (x := (s1.hunt : Int) + 1) (by omega) (by have := HQ.out.bd.hunt; have := HM.out; have := HI.out; omega)
      by_cases hc : c = 10
      · have e3 : (c == 10) = true := beq_iff_eq.mpr hc
        have H2 := Aside0.mk (HA.out.put 6 (.int .i64 ((s1.hunt : Int) + 1)) (s' := readS s1) rfl)
        have HX2 := Aside0.mk (put_R 6 (.int .i64 ((s1.hunt : Int) + 1)) HX.out)
        have HZ2 := Aside0.mk (refA_size (readS s1))
        have H2B := Aside0.mk H2.out.box
        have HLN := Aside0.mk (fun W => ref_line (readS s1) part (m + 2 * i + 1) HQ.out.bd.read (by have := HM.out; have := HI.out; omega) (by have := HQ.out.held; have := HL.out; have := HI.out; show s1.st.held.length + _ ≤ _; omega) W)
        have HQ2 := Aside0.mk (fq_line HQ.out HI.out (HCC.out.trans hc) HL.out)
        obtain ⟨r2, hr2⟩ : ∃ r2, r2 = refA (readS s1) := ⟨_, rfl⟩
        rw [← hr2] at H2B HZ2 HLN
        have HRR := Aside0.mk hr2
        clear hr2 HA HX HQ
        go_wp2_with (first
          | (with_reducible refine ld33_ (.tmp 2) w.heap.size r2 ?_ ?_ ?_ ?_ ?_ ?_; exact rfl; exact rfl; kernel_rfl; exact H2B.out; exact HZ2.out))
        refine (HLN.out _).mono ?_
        rintro e w3 ⟨rfl, hb3⟩
        have HA3 := Aside0.mk (H2.out.below hb3)
        have HX3 := Aside0.mk (Kd.R_below HX2.out hb3)
        have HZ4 := Aside0.mk (And.intro (refA_size (lineS (readS s1) part)) (refA_one (lineS (readS s1) part)))
        have HWL := Aside0.mk (wl_facts w3 (refA (lineS (readS s1) part)) (lnA (lnOf (readS s1) part)))
        have HA4 := Aside0.mk (HA3.out.below HWL.out.2.2.2.2)
        have HA4B := Aside0.mk HA4.out.box
        have HA5 := Aside0.mk (HA4.out.row (lineS (readS s1) part))
        have HX5 := Aside0.mk (row_R (refA (lineS (readS s1) part)) (Kd.R_below HX3.out HWL.out.2.2.2.2) (Or.inl rfl))
        have HG4 := Aside0.mk (show w3.heap.size + 1 ≠ w.heap.size by have := HA3.out.bel.size; omega)
        have HL5 := Aside0.mk ((setRow_other _ w.heap.size (w3.heap.size + 1) (refA (lineS (readS s1) part)) HG4.out).trans HWL.out.2.2.2.1)
        have HKM := Aside0.mk (fun W ok => kQ_mkM W w.heap.size ok (lnOf (readS s1) part))
        obtain ⟨x, hx⟩ : ∃ x, x = lnOf (readS s1) part := ⟨_, rfl⟩
        have hlx : lnA (lnOf (readS s1) part) = #[.int .i64 x.1, .int .i64 x.2.1, .string (strOfNums x.2.2)] := by rw [hx]; rfl
        rw [hlx] at HWL HA4 HA4B HA5 HX5 HL5 ⊢
        rw [← hx] at HKM HQ2
        generalize x.1 = x1 at HWL HA4 HA4B HA5 HX5 HL5 HKM ⊢
        generalize x.2.1 = x2 at HWL HA4 HA4B HA5 HX5 HL5 HKM ⊢
        generalize strOfNums x.2.2 = x3 at HWL HA4 HA4B HA5 HX5 HL5 HKM ⊢
        rw [← HRR.out] at HA4B
        generalize refA (lineS (readS s1) part) = r4 at HWL HA4 HA4B HA5 HX5 HL5 HZ4 ⊢
        clear hx hlx hb3
        go_wp2_with (first
          | (with_reducible refine ld33_ (.tmp 9) w3.heap.size r4 ?_ ?_ ?_ ?_ ?_ ?_; exact rfl; exact rfl; kernel_rfl; exact HWL.out.2.2.1; exact HZ4.out.1)
          | (with_reducible refine ld49_ (.tmp 10) (w3.heap.size + 1) #[.int .i64 x1, .int .i64 x2, .string x3] ?_ ?_ ?_ ?_ ?_ ?_; exact rfl; exact rfl; kernel_rfl; exact HL5.out; exact (ok3 x1 x2 x3).1)
          | (with_reducible refine st33_ (.tmp 9) (.tmp 33) w3.heap.size r4 z9 ?_ ?_ ?_ ?_ ?_ ?_ ?_ ?_ ?_; exact rfl; exact rfl; exact rfl; kernel_rfl; kernel_rfl; exact HWL.out.1; exact HZ4.out; exact z9_size)
          | (with_reducible refine st49_ (.tmp 10) (.tmp 34) (w3.heap.size + 1) #[.int .i64 x1, .int .i64 x2, .string x3] z3 ?_ ?_ ?_ ?_ ?_ ?_ ?_ ?_ ?_; exact rfl; exact rfl; exact rfl; kernel_rfl; kernel_rfl; exact HWL.out.2.1; exact (ok3 x1 x2 x3); exact z3_size)
          | ((with_reducible refine st33_ (.tmp 2) (.tmp 35) w.heap.size r4 r2 ?_ ?_ ?_ ?_ ?_ ?_ ?_ ?_ ?_; exact rfl; exact rfl; exact rfl; kernel_rfl; kernel_rfl; exact HA4B.out; exact HZ4.out; exact HZ2.out); generalize (((wL2 w3).setRow w3.heap.size r4).setRow (w3.heap.size + 1) #[.int .i64 x1, .int .i64 x2, .string x3]).setRow w.heap.size r4 = wx at HA5 HX5 HL5 ⊢)
          | (at_builtin; refine Kd.R_append kQ (w0 := wx) (W := wx) w.heap.size rfl (.tmp 36) (.tmp 38) 36 49 (.agg #[.int .i64 0, .int .i64 0, .string ⟨#[]⟩]) 32 rfl Try.underlying36 infoQ rfl (by decide) (by decide) (.slice Ax X.length cx) X x [.int .i64 x1, .int .i64 x2, .string x3] (OkF w) (fun _ => False) rfl rfl (HKM.out _ _) (fun _ h => h.elim) (fa_fresh HA5.out) HX5.out (Below.refl _ _) HA5.out.bel.size (by have := HXF.out; omega) ?_; intro v1 w1 hr hbb hg hat; have HX6 := Aside0.mk hr; have HA6 := Aside0.mk (fa_app HA5.out HX5.out hg hbb); clear hr hbb hg hat))
        exact ⟨⟨i + 1, lineS (readS s1) part, [], X ++ [x], congrArg Value.string HST.out.symm, congrArg (Value.int .i64) HWI.out, HA6, HX6, HQ2⟩, ms_step HI.out HWI.out⟩
      · have e3 : (c == 10) = false := beq_eq_false_iff_ne.mpr hc
        have H2 := Aside0.mk (HA.out.put 6 (.int .i64 ((s1.hunt : Int) + 1)) (s' := readS s1) rfl)
        have HX2 := Aside0.mk (put_R 6 (.int .i64 ((s1.hunt : Int) + 1)) HX.out)
        have HCN := Aside0.mk hc
        have k0 := (blk_cell H2.out.box 0).trans (show _ = some (Value.string (strOfNums s1.st.held)) from rfl)
        have k3 := (blk_cell H2.out.box 3).trans (show _ = some (Value.int .i64 s1.most) from rfl)
        obtain ⟨a, ha⟩ : ∃ a, a = s1.st.held.length := ⟨_, rfl⟩
        obtain ⟨b, hb⟩ : ∃ b, b = (part ++ [c]).length := ⟨_, rfl⟩
        have hhs : (strOfNums s1.st.held).size = a := (strOfNums_size _).trans ha.symm
        have hpj : (strOfNums (part ++ [c])).size = b := (strOfNums_size _).trans hb.symm
        have hJ : strOfNums part ++ strOfNums [c] = strOfNums (part ++ [c]) := (str_app part [c]).symm
        have hb1 : b = part.length + 1 := by rw [hb, List.length_append]; rfl
        have HAB := Aside0.mk (show a = s1.st.held.length ∧ b = part.length + 1 from ⟨ha, hb1⟩)
        have hlen : a + b ≤ 5000 := by have := HQ.out.held; have := HL.out; have := HI.out; omega
        have hab : wrap64 ((a : Int) + (b : Int)) = (a : Int) + (b : Int) := wr9 (by omega) (by omega)
        have hz1 : (strOfNums part).size + (strOfNums [c]).size ≤ 9223372036854775807 := sz_in part [c] (Nat.le_trans (Nat.le_of_eq (show part.length + [c].length = b from hb1.symm)) (Nat.le_trans (Nat.le_add_left b a) hlen))
        have c1 := eq_true (show (0 : Int) ≤ wrap64 ((i : Int) + 1) by rw [HWI.out]; omega)
        have c2 := eq_true (show wrap64 ((i : Int) + 1) ≤ (chunk.length : Int) by rw [HWI.out]; have := HI.out; omega)
        have c4 := eq_true (show (i : Int) ≤ wrap64 ((i : Int) + 1) by rw [HWI.out]; omega)
        have c3 := eq_false (show ¬ wrap64 ((i : Int) + 1) < (i : Int) by rw [HWI.out]; omega)
        have hcu2 : str.extract i (wrap64 ((i : Int) + 1)).toNat = strOfNums [c] := by rw [HWI.out, Int.toNat_natCast]; exact hcu
        generalize strOfNums s1.st.held = hs at k0 hhs
        generalize strOfNums [c] = cs at hJ hcu hcu2 hz1
        generalize hpq : strOfNums (part ++ [c]) = pj at hJ hpj
        generalize hpp : strOfNums part = ps at hJ hz1 ⊢
        have HPQ := Aside0.mk hpq
        have s0 := eq_true hz1
        have s2 := sz_out hz1
        have s1' : decide (ps.size + cs.size ≤ 9223372036854775807) = true := decide_eq_true hz1
        clear hc hpp hpq hcu hz1 ha hb hb1 hlen
        by_cases hmo : s1.most < (a : Int) + (b : Int)
        · have e5 : decide (s1.most < (a : Int) + (b : Int)) = true := decide_eq_true hmo
          have k7 := (blk_cell H2.out.box 7).trans (show _ = some (Value.bool s1.over) from rfl)
          have k8 := (blk_cell H2.out.box 8).trans (show _ = some (Value.int .i64 s1.bad) from rfl)
          have y7 := blk_frozen H2.out.box 7
          have y8 := blk_frozen H2.out.box 8
          have HMO := Aside0.mk hmo
          have HB4 := Aside0.mk ((H2.out.put 7 (.bool true) (s' := { readS s1 with over := true }) rfl).put 8 (.int .i64 15) (s' := badS (readS s1)) rfl)
          have HX4 := Aside0.mk (put_R 8 (.int .i64 15) (put_R 7 (.bool true) HX2.out))
          have HB4B := Aside0.mk HB4.out.box
          have HB4R := Aside0.mk HB4.out.res
          have HD := Aside0.mk (HB4.out.done (refA (badS (readS s1))))
          have HXD := Aside0.mk (row_R (refA (badS (readS s1))) HX4.out (Or.inr rfl))
          have HZ4 := Aside0.mk (And.intro (refA_size (badS (readS s1))) (refA_one (badS (readS s1))))
          have HE := Aside0.mk (fq_bad HQ.out HI.out HCC.out HCN.out (by have := HMO.out; have := HAB.out; omega))
          obtain ⟨r4, hr4⟩ : ∃ r4, r4 = refA (badS (readS s1)) := ⟨_, rfl⟩
          rw [← hr4] at HB4B HD HXD HZ4
          have HR4 := Aside0.mk hr4
          clear hr4 hmo
          go_wp2_with (first
            | (with_reducible refine ld33_ (.tmp 2) w.heap.size r4 ?_ ?_ ?_ ?_ ?_ ?_; exact rfl; exact rfl; kernel_rfl; exact HB4B.out; exact HZ4.out.1)
            | (with_reducible refine st33_ (.tmp 4) (.tmp 59) (w.heap.size + 1) r4 z9 ?_ ?_ ?_ ?_ ?_ ?_ ?_ ?_ ?_; exact rfl; exact rfl; exact rfl; kernel_rfl; kernel_rfl; exact HB4R.out; exact HZ4.out; exact z9_size))
          refine bodyPost_ret (results_ct rfl _ _ (w.heap.size + 1) 33 r4 (0, 0) _ rfl HD.out.1 hu33 rfl (by rw [HZ4.out.1]; exact info33)) rfl ?_
          exact ⟨.slice Ax X.length cx, by rw [HE.out, HR4.out]; rfl, by rw [HE.out]; exact Kd.R_mono HXD.out (fun _ _ => trivial), HD.out.2⟩
        · have e5 : decide (s1.most < (a : Int) + (b : Int)) = false := decide_eq_false hmo
          have HMO := Aside0.mk hmo
          have HN := Aside0.mk (fq_go HQ.out HI.out HCC.out HCN.out (by have := HMO.out; have := HAB.out; omega))
          clear hmo
          go_wp2_with fail
          exact ⟨⟨i + 1, readS s1, part ++ [c], X, by rw [HPQ.out], congrArg (Value.int .i64) HWI.out, H2, HX2, HN⟩, ms_step HI.out HWI.out⟩
    · have e1 : decide ((i : Int) < (chunk.length : Int)) = false := decide_eq_false (by omega)
      have e2 : decide (i < chunk.length) = false := decide_eq_false hlt
      have HE := Aside0.mk (fq_end HQ.out hlt)
      have HADD := Aside0.mk (fun W => ref_add s1.st part HQ.out.bd.room HQ.out.bd.held (by have := HQ.out.bd.mv; have := HQ.out.le; have := HM.out; omega) (by have := HQ.out.held; have := HQ.out.le; have := HL.out; omega) W)
      have k0 := (blk_cell HA.out.box 0).trans (show _ = some (Value.string (strOfNums s1.st.held)) from rfl)
      have k1 := (blk_cell HA.out.box 1).trans (show _ = some (Value.int .i64 (s1.st.room : Int)) from rfl)
      have k2 := (blk_cell HA.out.box 2).trans (show _ = some (Value.int .i64 (s1.st.mv : Int)) from rfl)
      clear hlt HQ
      go_wp2_with fail
      refine (HADD.out _).mono ?_
      rintro e w3 ⟨rfl, hb3⟩
      clear k0 k1 k2
      have HA3 := Aside0.mk (HA.out.below hb3)
      have HX3 := Aside0.mk (Kd.R_below HX.out hb3)
      clear hb3
      have y0 := blk_frozen HA3.out.box 0
      have y1 := blk_frozen HA3.out.box 1
      have y2 := blk_frozen HA3.out.box 2
      have k0 := (blk_cell HA3.out.box 0).trans (show _ = some (Value.string (strOfNums s1.st.held)) from rfl)
      have k1 := (blk_cell HA3.out.box 1).trans (show _ = some (Value.int .i64 (s1.st.room : Int)) from rfl)
      have k2 := (blk_cell HA3.out.box 2).trans (show _ = some (Value.int .i64 (s1.st.mv : Int)) from rfl)
      have HB4 := Aside0.mk (((HA3.out.put 0 (.string (strOfNums (addS s1.st part).held)) (s' := { s1 with st := { s1.st with held := (addS s1.st part).held } }) rfl).put 1 (.int .i64 ((addS s1.st part).room : Int)) (s' := { s1 with st := { s1.st with held := (addS s1.st part).held, room := (addS s1.st part).room } }) rfl).put 2 (.int .i64 ((addS s1.st part).mv : Int)) (s' := restS s1 part) rfl)
      have HX4 := Aside0.mk (put_R 2 (.int .i64 ((addS s1.st part).mv : Int)) (put_R 1 (.int .i64 ((addS s1.st part).room : Int)) (put_R 0 (.string (strOfNums (addS s1.st part).held)) HX3.out)))
      have HB4B := Aside0.mk HB4.out.box
      have HB4R := Aside0.mk HB4.out.res
      have HD := Aside0.mk (HB4.out.done (refA (restS s1 part)))
      have HXD := Aside0.mk (row_R (refA (restS s1 part)) HX4.out (Or.inr rfl))
      have HZ4 := Aside0.mk (And.intro (refA_size (restS s1 part)) (refA_one (restS s1 part)))
      obtain ⟨r4, hr4⟩ : ∃ r4, r4 = refA (restS s1 part) := ⟨_, rfl⟩
      rw [← hr4] at HB4B HD HXD HZ4
      have HR4 := Aside0.mk hr4
      clear hr4
      go_wp2_with (first
        | (with_reducible refine ld33_ (.tmp 2) w.heap.size r4 ?_ ?_ ?_ ?_ ?_ ?_; exact rfl; exact rfl; kernel_rfl; exact HB4B.out; exact HZ4.out.1)
        | (with_reducible refine st33_ (.tmp 4) (.tmp 66) (w.heap.size + 1) r4 z9 ?_ ?_ ?_ ?_ ?_ ?_ ?_ ?_ ?_; exact rfl; exact rfl; exact rfl; kernel_rfl; kernel_rfl; exact HB4R.out; exact HZ4.out; exact z9_size))
      refine bodyPost_ret (results_ct rfl _ _ (w.heap.size + 1) 33 r4 (0, 0) _ rfl HD.out.1 hu33 rfl (by rw [HZ4.out.1]; exact info33)) rfl ?_
      exact ⟨.slice Ax X.length cx, by rw [HE.out, HR4.out]; rfl, by rw [HE.out]; exact Kd.R_mono HXD.out (fun _ _ => trivial), HD.out.2⟩
end Go.Proofs.Ytgiaabgmnjaefaa.Str
end
/- The document's End. -/
section
namespace Go.Proofs.Ytgiaabgmnjaefaa.Str
open Go Go.RowKit Go.Proofs Go.Proofs.Ytgiaabgmnjaefaa.Met Go.Proofs.Ytgiaabgmnjaefaa.Win Go.Proofs.YtgiaabgmnjaefaaW.PrintWords Go.Proofs.YtgiaabgmnjaefaaW.PrintMore Go.Proofs.Ytgiaabgmnjaefaa.Aid
set_option linter.unusedVariables false
set_option linter.unusedSimpArgs false
attribute [local go_sem] max2_int min2_int max_two min_two max_three min_three
theorem run_ld33_ {o : Oper} {a : Act} {w : World} (x : Operand) (g : Nat) (cs : Array Value) (ho : o.op = .load 33 x) (hx : a.eval x = .pointer (some ⟨g, 0, none⟩)) (hg : w.heap[g]? = some (.cells cs 33 (0, 0))) (hs : cs.size = 9) : (execOp a.eval o).run Try.prog w = .ok (.value (.agg cs)) w := by
  unfold execOp
  simp only [ho, hx, Instr.loadAt, Instr.sureAddr, Sem.run_bind, Sem.run_pure, Result.andThen_ok, run_loadVar_row w g 33 33 cs (0, 0) _ hg Try.underlying33 rfl (by rw [hs]; exact info33)]
theorem run_ld49_ {o : Oper} {a : Act} {w : World} (x : Operand) (g : Nat) (cs : Array Value) (ho : o.op = .load 49 x) (hx : a.eval x = .pointer (some ⟨g, 0, none⟩)) (hg : w.heap[g]? = some (.cells cs 49 (0, 0))) (hs : cs.size = 3) : (execOp a.eval o).run Try.prog w = .ok (.value (.agg cs)) w := by
  unfold execOp
  simp only [ho, hx, Instr.loadAt, Instr.sureAddr, Sem.run_bind, Sem.run_pure, Result.andThen_ok, run_loadVar_row w g 49 49 cs (0, 0) _ hg Try.underlying49 rfl (by rw [hs]; exact info49)]
theorem end_over {s : SS} (h : s.over = true) : endS s = (s, []) := if_pos h
theorem end_empty {s : SS} (h : s.over = false) (h0 : s.st.held.length = 0) : endS s = (overS s, []) := by
  unfold endS
  rw [if_neg (by rw [h]; decide), if_pos h0]
theorem end_line {s : SS} (h : s.over = false) (h0 : ¬ s.st.held.length = 0) : endS s = (lineS (overS s) [], [lnOf s []]) := by
  unfold endS
  rw [if_neg (by rw [h]; decide), if_neg h0]
set_option maxHeartbeats 16000000 in
set_option maxRecDepth 100000 in
theorem ref_end (s : SS) (m : Nat) (hb : Bd s m) (hm : m ≤ 100000) (hl : s.st.held.length ≤ 4000) (w : World) :
    Calls Try.prog 18 #[.agg (refA s)] w fun e w' => ∃ v, e = .returned (.tuple #[.agg (refA (endS s).1), v]) ∧ Kd.R kQ 49 w' w.heap.size (fun _ => True) v (endS s).2 ∧ Below w.heap.size w w' := by
  have hu33 := Try.underlying33
  have hu49 := Try.underlying49
  have hz := zero33
  have hz9 := zero49
  have H0 := Aside0.mk (fa_start w s)
  by_cases hov : s.over = true
  · have HE := Aside0.mk (end_over hov)
    have HBX := Aside0.mk H0.out.box
    have HRS := Aside0.mk H0.out.res
    have HD := Aside0.mk (H0.out.done (refA s))
    have HZ := Aside0.mk (And.intro (refA_size s) (refA_one s))
    have k7 := (blk_cell H0.out.box 7).trans (show _ = some (Value.bool s.over) from rfl)
    rw [hov] at k7
    obtain ⟨rs, hrs⟩ : ∃ rs, rs = refA s := ⟨_, rfl⟩
    rw [← hrs] at HBX HRS HD HZ k7 ⊢
    have HR4 := Aside0.mk hrs
    clear H0 hrs hov hb hm hl
    go_enter Try.func18, Try.ntmps18
    go_wp2_with (first
      | (with_reducible refine ld33_ (.tmp 1) w.heap.size rs ?_ ?_ ?_ ?_ ?_ ?_; exact rfl; exact rfl; kernel_rfl; exact HBX.out; exact HZ.out.1)
      | (with_reducible refine st33_ (.tmp 2) (.tmp 8) (w.heap.size + 1) rs z9 ?_ ?_ ?_ ?_ ?_ ?_ ?_ ?_ ?_; exact rfl; exact rfl; exact rfl; kernel_rfl; kernel_rfl; exact HRS.out; exact HZ.out; exact z9_size))
    refine bodyPost_ret (results_ct rfl _ _ (w.heap.size + 1) 33 rs (0, 0) _ rfl HD.out.1 hu33 rfl (by rw [HZ.out.1]; exact info33)) rfl ?_
    exact ⟨.slice none 0 0, by rw [HE.out, HR4.out]; rfl, by rw [HE.out]; exact Kd.R_nil _ _ _ _ _, HD.out.2⟩
  have hov : s.over = false := by cases h : s.over with | true => exact absurd h hov | false => rfl
  have H2 := Aside0.mk (show FA w ((w.alloc (.cells ((refA s).setIfInBounds 7 (.bool true)) 33)).alloc (.cells z9 33)) (overS s) from fa_start w (overS s))
  have k7 := (blk_cell H0.out.box 7).trans (show _ = some (Value.bool s.over) from rfl)
  rw [hov] at k7
  have y7 := blk_frozen H0.out.box 7
  have k0 := (blk_cell H2.out.box 0).trans (show _ = some (Value.string (strOfNums s.st.held)) from rfl)
  have HBX := Aside0.mk (show ((w.alloc (.cells ((refA s).setIfInBounds 7 (.bool true)) 33)).alloc (.cells z9 33)).heap[w.heap.size]? = some (.cells ((refA s).setIfInBounds 7 (.bool true)) 33 (0, 0)) from H2.out.box)
  have HRS := Aside0.mk H2.out.res
  have HZ := Aside0.mk (show ((refA s).setIfInBounds 7 (.bool true)).size = 9 ∧ ((refA s).setIfInBounds 7 (.bool true)).all (·.oneCell') = true from And.intro (refA_size (overS s)) (refA_one (overS s)))
  have hq := str_empty (l := s.st.held)
  clear H0
  by_cases h0 : s.st.held.length = 0
  · have HE := Aside0.mk (end_empty hov h0)
    rw [decide_eq_true h0] at hq
    have HD := Aside0.mk (show (((w.alloc (.cells ((refA s).setIfInBounds 7 (.bool true)) 33)).alloc (.cells z9 33)).setRow (w.heap.size + 1) ((refA s).setIfInBounds 7 (.bool true))).heap[w.heap.size + 1]? = some (.cells ((refA s).setIfInBounds 7 (.bool true)) 33 (0, 0)) ∧ Below w.heap.size w (((w.alloc (.cells ((refA s).setIfInBounds 7 (.bool true)) 33)).alloc (.cells z9 33)).setRow (w.heap.size + 1) ((refA s).setIfInBounds 7 (.bool true))) from H2.out.done (refA (overS s)))
    have HR4 := Aside0.mk (show (refA s).setIfInBounds 7 (.bool true) = refA (overS s) from rfl)
    obtain ⟨rs, hrs⟩ : ∃ rs, rs = refA s := ⟨_, rfl⟩
    rw [← hrs] at k7 y7 k0 HBX HRS HD HZ HR4 ⊢
    generalize strOfNums s.st.held = hs at k0 hq
    clear H2 hrs hov hb hm hl h0
    go_enter Try.func18, Try.ntmps18
    go_wp2_with (first
      | (with_reducible refine ld33_ (.tmp 1) w.heap.size (rs.setIfInBounds 7 (.bool true)) ?_ ?_ ?_ ?_ ?_ ?_; exact rfl; exact rfl; kernel_rfl; exact HBX.out; exact HZ.out.1)
      | (with_reducible refine st33_ (.tmp 2) (.tmp 14) (w.heap.size + 1) (rs.setIfInBounds 7 (.bool true)) z9 ?_ ?_ ?_ ?_ ?_ ?_ ?_ ?_ ?_; exact rfl; exact rfl; exact rfl; kernel_rfl; kernel_rfl; exact HRS.out; exact HZ.out; exact z9_size))
    refine bodyPost_ret (results_ct rfl _ _ (w.heap.size + 1) 33 (rs.setIfInBounds 7 (.bool true)) (0, 0) _ rfl HD.out.1 hu33 rfl (by rw [HZ.out.1]; exact info33)) rfl ?_
    exact ⟨.slice none 0 0, by rw [HE.out, HR4.out]; rfl, by rw [HE.out]; exact Kd.R_nil _ _ _ _ _, HD.out.2⟩
  · have HE := Aside0.mk (end_line hov h0)
    rw [decide_eq_false h0] at hq
    have HLN := Aside0.mk (fun W => (show Calls Try.prog 31 #[.agg ((refA s).setIfInBounds 7 (.bool true)), .string ⟨#[]⟩] W fun e w' => e = .returned (.tuple #[.agg (refA (lineS (overS s) [])), .agg (lnA (lnOf s []))]) ∧ Below W.heap.size W w' from by
      have h := ref_line (overS s) [] m ⟨hb.room, hb.held, hb.mv, hb.num, hb.off, hb.hunt⟩ hm (by rw [List.length_nil]; exact hl) W
      rw [show strOfNums [] = ⟨#[]⟩ from by decide +kernel] at h
      exact h))
    obtain ⟨rs, hrs⟩ : ∃ rs, rs = refA s := ⟨_, rfl⟩
    rw [← hrs] at k7 y7 k0 HBX HRS HZ HLN H2 ⊢
    generalize strOfNums s.st.held = hs at k0 hq
    clear hov hb hm hl h0 hrs
    go_enter Try.func18, Try.ntmps18
    go_wp2_with (first
      | (with_reducible refine ld33_ (.tmp 1) w.heap.size (rs.setIfInBounds 7 (.bool true)) ?_ ?_ ?_ ?_ ?_ ?_; exact rfl; exact rfl; kernel_rfl; exact HBX.out; exact HZ.out.1))
    refine (HLN.out _).mono ?_
    rintro e w3 ⟨rfl, hb3⟩
    have HA3 := Aside0.mk (H2.out.below hb3)
    have HZ4 := Aside0.mk (And.intro (refA_size (lineS (overS s) [])) (refA_one (lineS (overS s) [])))
    have HWL := Aside0.mk (wl_facts w3 (refA (lineS (overS s) [])) (lnA (lnOf s [])))
    have HA4 := Aside0.mk (HA3.out.below HWL.out.2.2.2.2)
    have HB4 := Aside0.mk HA4.out.bel
    have HR5 := Aside0.mk HA4.out.res
    have HNE := Aside0.mk (show w3.heap.size ≠ w.heap.size + 1 ∧ w3.heap.size + 1 ≠ w.heap.size + 1 from by have := blk_lt HA3.out.res; exact ⟨by omega, by omega⟩)
    have HKM := Aside0.mk (fun W ok => kQ_mkM W W.heap.size ok (lnOf s []))
    obtain ⟨x, hx⟩ : ∃ x, x = lnOf s [] := ⟨_, rfl⟩
    have hlx : lnA (lnOf s []) = #[.int .i64 x.1, .int .i64 x.2.1, .string (strOfNums x.2.2)] := by rw [hx]; rfl
    rw [hlx] at HWL HB4 HR5 ⊢
    rw [← hx] at HKM
    have HXX := Aside0.mk hx
    generalize x.1 = x1 at HWL HB4 HR5 HKM ⊢
    generalize x.2.1 = x2 at HWL HB4 HR5 HKM ⊢
    generalize strOfNums x.2.2 = x3 at HWL HB4 HR5 HKM ⊢
    obtain ⟨r4, hr4⟩ : ∃ r4, r4 = refA (lineS (overS s) []) := ⟨_, rfl⟩
    rw [← hr4] at HWL HB4 HR5 HZ4 ⊢
    have HR4 := Aside0.mk hr4
    have HF4 := Aside0.mk HWL.out.2.2.1
    have HF5 := Aside0.mk HWL.out.2.2.2.1
    clear hx hlx hb3 hr4 HA3 HA4 H2 HRS HBX k7 k0 y7 hq
    go_wp2_with (first
      | (with_reducible refine st33_ (.tmp 4) (.tmp 18) w3.heap.size r4 z9 ?_ ?_ ?_ ?_ ?_ ?_ ?_ ?_ ?_; exact rfl; exact rfl; exact rfl; kernel_rfl; kernel_rfl; exact HWL.out.1; exact HZ4.out; exact z9_size)
      | (with_reducible refine st49_ (.tmp 5) (.tmp 19) (w3.heap.size + 1) #[.int .i64 x1, .int .i64 x2, .string x3] z3 ?_ ?_ ?_ ?_ ?_ ?_ ?_ ?_ ?_; exact rfl; exact rfl; exact rfl; kernel_rfl; kernel_rfl; exact HWL.out.2.1; exact (ok3 x1 x2 x3); exact z3_size))
    clear HWL
    obtain ⟨wx, hwx⟩ : ∃ wx, wx = (((wL2 w3).setRow w3.heap.size r4).setRow (w3.heap.size + 1) #[.int .i64 x1, .int .i64 x2, .string x3]) := ⟨_, rfl⟩
    rw [← hwx] at HB4 HF4 HF5 HR5 ⊢
    clear hwx
    refine wp_region_held_drew (S := fun w' => w'.heap[w3.heap.size]? = some (.cells r4 33 (0, 0)) ∧ w'.heap[w3.heap.size + 1]? = some (.cells #[.int .i64 x1, .int .i64 x2, .string x3] 49 (0, 0))) (by kernel_rfl) ⟨HF4.out, HF5.out⟩ (fun hHeld => ?_)
    have HB := Aside0.mk (below_drew HB4.out)
    have HR := Aside0.mk (blk_drew HR5.out)
    have HF := Aside0.mk (blk_drew HF4.out)
    have HG := Aside0.mk (blk_drew HF5.out)
    clear HR5 HB4 HF4 HF5
    generalize wx.drew = wd at HB HR HF HG hHeld ⊢
    have HSZ := Aside0.mk (show w.heap.size + 1 < wd.heap.size ∧ w3.heap.size ≠ w.heap.size + 1 ∧ w3.heap.size + 1 ≠ w.heap.size + 1 ∧ w.heap.size ≤ wd.heap.size from ⟨blk_lt HR.out, HNE.out.1, HNE.out.2, by have := blk_lt HR.out; omega⟩)
    refine wpAnyH_take (i := 0) (oi := { dst := some 20, op := Op.load 33 (Operand.tmp 4), type := 33, pos := "ref.go:84", after := #[], guard := none }) (v := .agg r4) rfl (by kernel_rfl) (by kernel_rfl) (by kernel_rfl) (fun _ _ _ h => h) (Or.inl ⟨by rfl, ?_⟩) (by assumption) ?_
    · intro W hSw
      exact run_ld33_ (.tmp 4) w3.heap.size r4 rfl (by kernel_rfl) hSw.1 HZ4.out.1
    try simp only [Act.put, List.setIfInBounds_toArray, List.set_cons_zero, List.set_cons_succ]
    refine wpAnyH_take (i := 1) (oi := { dst := some 21, op := Op.load 49 (Operand.tmp 5), type := 49, pos := "ref.go:84", after := #[{ on := 3, ground := Ground.gcOnly Departure.lateStores }], guard := none }) (v := .agg #[.int .i64 x1, .int .i64 x2, .string x3]) rfl (by kernel_rfl) (by kernel_rfl) (by kernel_rfl) (fun _ _ _ h => h) (Or.inl ⟨by rfl, ?_⟩) (by assumption) ?_
    · intro W hSw
      exact run_ld49_ (.tmp 5) (w3.heap.size + 1) #[.int .i64 x1, .int .i64 x2, .string x3] rfl (by kernel_rfl) hSw.2 rfl
    try simp only [Act.put, List.setIfInBounds_toArray, List.set_cons_zero, List.set_cons_succ]
    refine wpAnyH_ready (rs := [2, 3]) (by kernel_rfl) (by simp) ?_
    refine AllReadyH.cons (o := { dst := some 22, op := Op.buildSlice 36 1 #[(0, Operand.tmp 21)], type := 36, pos := "ref.go:84", after := #[{ on := 1, ground := Ground.data }, { on := 3, ground := Ground.gcOnly Departure.lateStores }], guard := none }) rfl (fun K hK => ?_) (AllReadyH.cons (o := { dst := none, op := Op.store 33 (Operand.tmp 2) (Operand.tmp 20), type := 0, pos := "ref.go:84", after := #[{ on := 0, ground := Ground.data }, { on := 0, ground := Ground.phase }, { on := 1, ground := Ground.textOnly Departure.lateStores }, { on := 2, ground := Ground.textOnly Departure.lateStores }], guard := none }) rfl (fun K hK => ?_) AllReadyH.nil)
    · skip
      clear hHeld
      refine Kd.R_lit_step kQ (w0 := wd) (wd).heap.size 49 (by rfl) (N := 22) (by rfl) (xs := [x]) (inner := [.int .i64 x1, .int .i64 x2, .string x3]) (ok := fun k => k ≠ w.heap.size + 1) (okp := fun _ => False) (by go_simp; done) (Reps.snoc (Reps.none _ _) (HKM.out _ _) rfl) (fun _ h => h.elim) (by have := HSZ.out.1; show _ ≠ _; omega) (Below.refl _ _) (Nat.le_refl _) (by simp) ?_
      intro v1 w1 hr1 hb1 hg1 hn1
      clear hg1 hn1
      replace HB := Aside0.mk (Below.trans HB.out (hb1.mono HSZ.out.2.2.2))
      have HV := Aside0.mk (Kd.R_lower hr1 HSZ.out.2.2.2)
      replace HR := Aside0.mk (blk_below HR.out hb1)
      replace HF := Aside0.mk (blk_below HF.out hb1)
      replace HG := Aside0.mk (blk_below HG.out hb1)
      clear hr1 hb1
      refine hK.out _ _ ⟨HF.out, HG.out⟩ (fun hHeld => ?_)
      clear hK K
      try simp only [Act.put, List.setIfInBounds_toArray, List.set_cons_zero, List.set_cons_succ]
      refine wpAnyH_ready (rs := [3]) (by kernel_rfl) (by simp) ?_
      refine AllReadyH.cons (o := { dst := none, op := Op.store 33 (Operand.tmp 2) (Operand.tmp 20), type := 0, pos := "ref.go:84", after := #[{ on := 0, ground := Ground.data }, { on := 0, ground := Ground.phase }, { on := 1, ground := Ground.textOnly Departure.lateStores }, { on := 2, ground := Ground.textOnly Departure.lateStores }], guard := none }) rfl (fun K hK => ?_) AllReadyH.nil
      clear hHeld
      rw [if_pos (by rfl)]
      refine wp_store_row 33 (.tmp 2) (.tmp 20) rfl (w.heap.size + 1) r4 (by rfl) (by rfl) 33 z9 HR.out (by rw [HZ4.out.1]; exact info33) (by rw [HZ4.out.1]; rfl) HZ4.out.2 ?_
      replace HF := Aside0.mk ((setRow_other w1 (w.heap.size + 1) _ r4 HSZ.out.2.1).trans HF.out)
      replace HG := Aside0.mk ((setRow_other w1 (w.heap.size + 1) _ r4 HSZ.out.2.2.1).trans HG.out)
      replace HR := Aside0.mk (setRow_heap w1 (w.heap.size + 1) z9 r4 _ (0, 0) HR.out)
      replace HB := Aside0.mk (below_setRow HB.out (Nat.le_succ _) r4)
      replace HV := Aside0.mk (Kd.R_move HV.out (fun k hk => setRow_other w1 (w.heap.size + 1) k r4 hk))
      refine hK.out _ _ ⟨HF.out, HG.out⟩ (fun hHeld => ?_)
      clear hK K
      try simp only [Act.put, List.setIfInBounds_toArray, List.set_cons_zero, List.set_cons_succ]
      refine wpAnyH_ready (rs := [4]) (by kernel_rfl) (by simp) ?_
      refine AllReadyH.cons (o := { dst := some 3, op := Op.assign (Operand.tmp 22), type := 36, pos := "ref.go:84", after := #[{ on := 2, ground := Ground.data }, { on := 3, ground := Ground.chain }, { on := 0, ground := Ground.phase }, { on := 1, ground := Ground.phase }, { on := 2, ground := Ground.phase }, { on := 3, ground := Ground.phase }], guard := none }) rfl (fun K hK => ?_) AllReadyH.nil
      clear hHeld
      go_simp
      refine hK.out _ _ ⟨HF.out, HG.out⟩ (fun hHeld => ?_)
      clear hK K
      try simp only [Act.put, List.setIfInBounds_toArray, List.set_cons_zero, List.set_cons_succ]
      refine wpAnyH_done (by kernel_rfl) ?_ _
      go_wp2
      refine bodyPost_ret (results_ct rfl _ _ (w.heap.size + 1) 33 r4 (0, 0) _ rfl HR.out hu33 rfl (by rw [HZ4.out.1]; exact info33)) rfl ?_
      exact ⟨v1, by rw [HE.out, HR4.out]; rfl, by rw [HE.out, ← HXX.out]; exact Kd.R_mono HV.out (fun _ _ => trivial), HB.out⟩
    · skip
      clear hHeld
      rw [if_pos (by rfl)]
      refine wp_store_row 33 (.tmp 2) (.tmp 20) rfl (w.heap.size + 1) r4 (by rfl) (by rfl) 33 z9 HR.out (by rw [HZ4.out.1]; exact info33) (by rw [HZ4.out.1]; rfl) HZ4.out.2 ?_
      replace HF := Aside0.mk ((setRow_other wd (w.heap.size + 1) _ r4 HSZ.out.2.1).trans HF.out)
      replace HG := Aside0.mk ((setRow_other wd (w.heap.size + 1) _ r4 HSZ.out.2.2.1).trans HG.out)
      replace HR := Aside0.mk (setRow_heap wd (w.heap.size + 1) z9 r4 _ (0, 0) HR.out)
      replace HB := Aside0.mk (below_setRow HB.out (Nat.le_succ _) r4)
      replace HSZ := Aside0.mk (show w.heap.size + 1 < (wd.setRow (w.heap.size + 1) r4).heap.size ∧ w3.heap.size ≠ w.heap.size + 1 ∧ w3.heap.size + 1 ≠ w.heap.size + 1 ∧ w.heap.size ≤ (wd.setRow (w.heap.size + 1) r4).heap.size from ⟨blk_lt HR.out, HNE.out.1, HNE.out.2, by have := blk_lt HR.out; omega⟩)
      refine hK.out _ _ ⟨HF.out, HG.out⟩ (fun hHeld => ?_)
      clear hK K
      try simp only [Act.put, List.setIfInBounds_toArray, List.set_cons_zero, List.set_cons_succ]
      generalize wd.setRow (w.heap.size + 1) r4 = we at HB HR HF HG HSZ hHeld ⊢
      refine wpAnyH_ready (rs := [2]) (by kernel_rfl) (by simp) ?_
      refine AllReadyH.cons (o := { dst := some 22, op := Op.buildSlice 36 1 #[(0, Operand.tmp 21)], type := 36, pos := "ref.go:84", after := #[{ on := 1, ground := Ground.data }, { on := 3, ground := Ground.gcOnly Departure.lateStores }], guard := none }) rfl (fun K hK => ?_) AllReadyH.nil
      clear hHeld
      refine Kd.R_lit_step kQ (w0 := we) (we).heap.size 49 (by rfl) (N := 22) (by rfl) (xs := [x]) (inner := [.int .i64 x1, .int .i64 x2, .string x3]) (ok := fun k => k ≠ w.heap.size + 1) (okp := fun _ => False) (by go_simp; done) (Reps.snoc (Reps.none _ _) (HKM.out _ _) rfl) (fun _ h => h.elim) (by have := HSZ.out.1; show _ ≠ _; omega) (Below.refl _ _) (Nat.le_refl _) (by simp) ?_
      intro v1 w1 hr1 hb1 hg1 hn1
      clear hg1 hn1
      replace HB := Aside0.mk (Below.trans HB.out (hb1.mono HSZ.out.2.2.2))
      have HV := Aside0.mk (Kd.R_lower hr1 HSZ.out.2.2.2)
      replace HR := Aside0.mk (blk_below HR.out hb1)
      replace HF := Aside0.mk (blk_below HF.out hb1)
      replace HG := Aside0.mk (blk_below HG.out hb1)
      clear hr1 hb1
      refine hK.out _ _ ⟨HF.out, HG.out⟩ (fun hHeld => ?_)
      clear hK K
      try simp only [Act.put, List.setIfInBounds_toArray, List.set_cons_zero, List.set_cons_succ]
      refine wpAnyH_ready (rs := [4]) (by kernel_rfl) (by simp) ?_
      refine AllReadyH.cons (o := { dst := some 3, op := Op.assign (Operand.tmp 22), type := 36, pos := "ref.go:84", after := #[{ on := 2, ground := Ground.data }, { on := 3, ground := Ground.chain }, { on := 0, ground := Ground.phase }, { on := 1, ground := Ground.phase }, { on := 2, ground := Ground.phase }, { on := 3, ground := Ground.phase }], guard := none }) rfl (fun K hK => ?_) AllReadyH.nil
      clear hHeld
      go_simp
      refine hK.out _ _ ⟨HF.out, HG.out⟩ (fun hHeld => ?_)
      clear hK K
      try simp only [Act.put, List.setIfInBounds_toArray, List.set_cons_zero, List.set_cons_succ]
      refine wpAnyH_done (by kernel_rfl) ?_ _
      go_wp2
      refine bodyPost_ret (results_ct rfl _ _ (w.heap.size + 1) 33 r4 (0, 0) _ rfl HR.out hu33 rfl (by rw [HZ4.out.1]; exact info33)) rfl ?_
      exact ⟨v1, by rw [HE.out, HR4.out]; rfl, by rw [HE.out, ← HXX.out]; exact Kd.R_mono HV.out (fun _ _ => trivial), HB.out⟩
end Go.Proofs.Ytgiaabgmnjaefaa.Str
end
/- StreamPlays: what the law's loop keeps. -/
section
namespace Go.Proofs.Ytgiaabgmnjaefaa.Str
open Go Go.RowKit Go.Proofs Go.Proofs.Ytgiaabgmnjaefaa.Met Go.Proofs.Ytgiaabgmnjaefaa.Win Go.Proofs.YtgiaabgmnjaefaaW.PrintWords Go.Proofs.YtgiaabgmnjaefaaW.PrintMore Go.Proofs.Ytgiaabgmnjaefaa.Aid
set_option linter.unusedVariables false
set_option linter.unusedSimpArgs false
theorem ref_step (s : SS) (chunk : List Int) (m : Nat) (hb : Bd s m) (hm : m + 2 * chunk.length + 2 ≤ 100000) (hl : s.st.held.length + chunk.length ≤ 4000) (hby : Byt chunk) (w : World) :
    Calls Try.prog 16 #[.agg (refA s), .string (strOfNums chunk)] w fun e w' => ∃ v, e = .returned (.tuple #[.agg (refA (step s chunk).1), v]) ∧ Kd.R kQ 49 w' w.heap.size (fun _ => True) v (step s chunk).2 ∧ Below w.heap.size w w' := by
  by_cases hov : s.over = true
  · have he : step s chunk = (s, []) := if_pos hov
    rw [he]
    refine (ref_feed_over s hov _ w).mono ?_
    rintro e w' ⟨rfl, hb'⟩
    exact ⟨_, rfl, Kd.R_nil _ _ _ _ _, hb'⟩
  · have he : step s chunk = feed s [] chunk := if_neg hov
    rw [he]
    exact ref_feed s chunk m hb hm hl hby (by cases h : s.over with | true => exact absurd h hov | false => rfl) w
theorem lineq_at {w : World} {A : Option Addr} {n : Nat} {xs : List Ln} (h : Kd.C kQ w A n xs) (i : Nat) (x : Ln) (hx : xs[i]? = some x) : ∃ ad, A = some ad ∧ w.cell? (ad.add (i * 3)) = some (.int .i64 x.1) ∧ w.cell? ⟨(ad.add (i * 3)).block, (ad.add (i * 3)).off + 1, none⟩ = some (.int .i64 x.2.1) ∧ w.cell? ⟨(ad.add (i * 3)).block, (ad.add (i * 3)).off + 2, none⟩ = some (.string (strOfNums x.2.2)) := by
  have hi : i < xs.length := (List.getElem?_eq_some_iff.1 hx).1
  obtain ⟨ad, e, hc⟩ := h.2.2 (by have := h.1; omega)
  obtain ⟨c, hs, hr, hcell⟩ := hc i x hx
  obtain ⟨c0, c1, rfl, hr0, c2, c3, rfl, hr1, hr2⟩ := hr
  obtain rfl : c0 = [.int .i64 x.1] := hr0
  obtain rfl : c2 = [.int .i64 x.2.1] := hr1
  obtain rfl : c3 = [.string (strOfNums x.2.2)] := hr2
  have hsz : kQ.sz = 3 := rfl
  refine ⟨ad, e, ?_, ?_, ?_⟩
  · have := hcell 0 _ rfl
    rw [hsz] at this
    exact this
  · have := hcell 1 _ rfl
    rw [hsz, add_tail _ _ 0] at this
    exact this
  · have := hcell 2 _ rfl
    rw [hsz, add_tail _ _ 1] at this
    exact this
/-- where the law's loop stands: the stream and the document's are of one state -/
structure Pl (w wr : World) (L : List (List Int)) (gs gw gm gb i : Nat) (A : Option Addr) (s : SS) : Prop where
  le : i ≤ L.length + 1
  str : StrAt wr w.heap.size gs gw (some gm) A s
  bd : Bd s (2 * tot (L.take i) + i)
  held : s.st.held.length ≤ tot (L.take i)
  box : wr.heap[gb]? = some (.cells (refA s) 33 (0, 0))
  far : ¬ Foot gs gw (some gm) A gb
  bel : Below w.heap.size w wr
  low : w.heap.size ≤ gb
theorem kept_setRow (w : World) (g : Nat) (cs : Array Value) : Kept w (w.setRow g cs) (fun k => k = g) :=
  ⟨(below_setRow (Below.refl g w) (Nat.le_refl _) cs).size, fun i _ hn => setRow_other w g i cs hn⟩
theorem pl_new {w w6 : World} {L : List (List Int)} {gs gw gm : Nat} {most : Int} (hb : Below w.heap.size w w6) (hs : StrAt w6 w.heap.size gs gw (some gm) none (newSS most 0)) :
    Pl w ((w6.alloc (.cells z9 33)).setRow w6.heap.size (refA (newSS most 0))) L gs gw gm w6.heap.size 0 none (newSS most 0) := by
  have hf := foot_lt hs
  refine ⟨Nat.zero_le _, (hs.below (below_alloc (Below.refl _ _) _)).kept (kept_setRow _ w6.heap.size _) (fun k hk e => ?_), (bd_new most 0).mono (Nat.zero_le _), Nat.zero_le _, setRow_heap _ w6.heap.size z9 _ _ (0, 0) (blk_new w6 _), fun h => ?_, below_setRow (below_alloc hb _) hb.size _, hb.size⟩
  · have := hf k hk
    omega
  · have := hf _ h
    omega
/-- behind a call of the stream: its lines, its state; the document's box as it was -/
structure Pm (w wr w1 : World) (gs gw gm gb : Nat) (A1 : Option Addr) (s s1 : SS) (v : Value) (X : List Ln) : Prop where
  str : StrAt w1 w.heap.size gs gw (some gm) A1 s1
  box : w1.heap[gb]? = some (.cells (refA s) 33 (0, 0))
  far : ¬ Foot gs gw (some gm) A1 gb
  bel : Below w.heap.size w w1
  low : w.heap.size ≤ gb
  row : Kd.R kL 47 w1 wr.heap.size (fun k => ¬ Foot gs gw (some gm) A1 k) v X
  old : gb < wr.heap.size
  sz : wr.heap.size ≤ w1.heap.size
theorem pm_of {w wr w1 : World} {L : List (List Int)} {gs gw gm gb i : Nat} {A A1 : Option Addr} {s s1 : SS} {v : Value} {X : List Ln} (h : Pl w wr L gs gw gm gb i A s)
    (hl : Lined wr w1 w.heap.size gs gw (some gm) A A1 s s1) (hr : Kd.R kL 47 w1 wr.heap.size (fun k => ¬ Foot gs gw (some gm) A1 k) v X) : Pm w wr w1 gs gw gm gb A1 s s1 v X :=
  ⟨hl.str, blk_kept h.box hl.kept h.far, fun hf => by
    rcases hl.foot gb hf with h1 | h1
    · exact h.far h1
    · have := blk_lt h.box; omega, Below.trans h.bel hl.bel, h.low, hr, blk_lt h.box, hl.kept.1⟩
/-- behind the document's call too, with its state stored -/
structure Pn (w w2 : World) (gs gw gm gb : Nat) (A1 : Option Addr) (s1 : SS) (v u : Value) (X : List Ln) : Prop where
  str : StrAt w2 w.heap.size gs gw (some gm) A1 s1
  box : w2.heap[gb]? = some (.cells (refA s1) 33 (0, 0))
  far : ¬ Foot gs gw (some gm) A1 gb
  bel : Below w.heap.size w w2
  low : w.heap.size ≤ gb
  row : Kd.R kL 47 w2 w.heap.size (fun _ => True) v X
  row2 : Kd.R kQ 49 w2 w.heap.size (fun _ => True) u X
theorem Pm.below {w wr w1 w2 : World} {gs gw gm gb : Nat} {A1 : Option Addr} {s s1 : SS} {v : Value} {X : List Ln} (h : Pm w wr w1 gs gw gm gb A1 s s1 v X) (hb : Below w1.heap.size w1 w2) : Pm w wr w2 gs gw gm gb A1 s s1 v X :=
  ⟨h.str.below hb, blk_below h.box hb, h.far, Below.trans h.bel (hb.mono h.bel.size), h.low, Kd.R_below h.row hb, h.old, Nat.le_trans h.sz hb.size⟩
theorem pn_of {w wr w1 w2 : World} {gs gw gm gb : Nat} {A1 : Option Addr} {s s1 : SS} {v u : Value} {X : List Ln} (h : Pm w wr w1 gs gw gm gb A1 s s1 v X) (hw : w.heap.size ≤ wr.heap.size)
    (hr : Kd.R kQ 49 w2 w1.heap.size (fun _ => True) u X) (hb : Below w1.heap.size w1 w2) : Pn w (w2.setRow gb (refA s1)) gs gw gm gb A1 s1 v u X := by
  have h2 := h.below hb
  have hold := h.old
  have hsz := h.sz
  refine ⟨h2.str.kept (kept_setRow w2 gb _) (fun k hk e => h.far (e ▸ hk)), setRow_heap w2 gb (refA s) (refA s1) _ (0, 0) h2.box, h.far, below_setRow h2.bel h.low _, h.low, ?_, ?_⟩
  · exact Kd.R_mono (Kd.R_lower (Kd.R_move (Kd.R_bound h2.row) (fun k hk => setRow_other w2 gb k _ (by have := hk.2.1; omega))) hw) (fun _ _ => trivial)
  · exact Kd.R_mono (Kd.R_lower (Kd.R_move (Kd.R_bound hr) (fun k hk => setRow_other w2 gb k _ (by have := hk.2.1; omega))) (Nat.le_trans hw hsz)) (fun _ _ => trivial)
theorem Pn.below {w w1 w2 : World} {gs gw gm gb : Nat} {A1 : Option Addr} {s1 : SS} {v u : Value} {X : List Ln} (h : Pn w w1 gs gw gm gb A1 s1 v u X) (hb : Below w1.heap.size w1 w2) : Pn w w2 gs gw gm gb A1 s1 v u X :=
  ⟨h.str.below hb, blk_below h.box hb, h.far, Below.trans h.bel (hb.mono h.bel.size), h.low, Kd.R_below h.row hb, Kd.R_below h.row2 hb⟩
theorem pl_step {w w2 : World} {L : List (List Int)} {gs gw gm gb i : Nat} {A A1 : Option Addr} {s : SS} {wr : World} {v u : Value} {X : List Ln} (h : Pl w wr L gs gw gm gb i A s) (hi : i < L.length) (ht : tot L ≤ 1500)
    (hn : Pn w w2 gs gw gm gb A1 (step s L[i]).1 v u X) : Pl w w2 L gs gw gm gb (i + 1) A1 (step s L[i]).1 := by
  have h1 := tot_take L i hi
  have h2 := tot_take_le L (i + 1)
  have h3 := h.held
  have h4 := step_bd s L[i] _ h.bd (by omega)
  exact ⟨by omega, hn.str, h4.1.mono (by omega), by have := h4.2.1; omega, hn.box, hn.far, hn.bel, hn.low⟩
theorem tot_mono (L : List (List Int)) (i : Nat) : tot (L.take i) ≤ tot (L.take (i + 1)) := by
  by_cases h : i < L.length
  · rw [tot_take L i h]; omega
  · rw [List.take_of_length_le (by omega), List.take_of_length_le (by omega)]
    exact Nat.le_refl _
theorem pl_end {w w2 : World} {L : List (List Int)} {gs gw gm gb i : Nat} {A A1 : Option Addr} {s : SS} {wr : World} {v u : Value} {X : List Ln} (h : Pl w wr L gs gw gm gb i A s) (hi : i ≤ L.length) (ht : tot L ≤ 1500)
    (hn : Pn w w2 gs gw gm gb A1 (endS s).1 v u X) : Pl w w2 L gs gw gm gb (i + 1) A1 (endS s).1 := by
  have h1 := tot_mono L i
  have h2 := tot_take_le L (i + 1)
  have h3 := h.held
  have h4 := endS_bd s _ h.bd (by omega)
  exact ⟨by omega, hn.str, h4.1.mono (by omega), by have := h4.2.1; omega, hn.box, hn.far, hn.bel, hn.low⟩
end Go.Proofs.Ytgiaabgmnjaefaa.Str
end
