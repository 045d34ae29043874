/- What a stream does of a chunk, by definition; its bounds; a stream whose meter counted. -/
import Derived.Test.YtgiaabgmnjaefaaStrD
namespace Go.Proofs.Ytgiaabgmnjaefaa.Str
open Go Go.RowKit Go.Proofs Go.Proofs.Ytgiaabgmnjaefaa.Met Go.Proofs.Ytgiaabgmnjaefaa.Win Go.Proofs.YtgiaabgmnjaefaaW.PrintWords Go.Proofs.YtgiaabgmnjaefaaW.PrintMore
set_option linter.unusedVariables false
set_option linter.unusedSimpArgs false
def readS (s : SS) : SS := { s with hunt := s.hunt + 1 }
def badS (s : SS) : SS := { s with over := true, bad := 15 }
def restS (s : SS) (part : List Int) : SS := { s with st := addS s.st part }
/-- what a stream does of bytes, some of which it has read -/
def feed : SS → List Int → List Int → SS × List Ln
  | s, part, [] => (restS s part, [])
  | s, part, c :: cs =>
    if c = 10 then ((feed (lineS (readS s) part) [] cs).1, lnOf s part :: (feed (lineS (readS s) part) [] cs).2)
    else if s.most ≤ (s.st.held.length : Int) + (part.length : Int) then (badS (readS s), [])
    else feed (readS s) (part ++ [c]) cs
theorem feed_nil (s : SS) (part : List Int) : feed s part [] = (restS s part, []) := rfl
theorem feed_nl (s : SS) (part cs : List Int) {c : Int} (hc : c = 10) : feed s part (c :: cs) = ((feed (lineS (readS s) part) [] cs).1, lnOf s part :: (feed (lineS (readS s) part) [] cs).2) := by rw [feed, if_pos hc]
theorem feed_bad (s : SS) (part cs : List Int) {c : Int} (hc : c ≠ 10) (h : s.most ≤ (s.st.held.length : Int) + (part.length : Int)) : feed s part (c :: cs) = (badS (readS s), []) := by rw [feed, if_neg hc, if_pos h]
theorem feed_go (s : SS) (part cs : List Int) {c : Int} (hc : c ≠ 10) (h : ¬ s.most ≤ (s.st.held.length : Int) + (part.length : Int)) : feed s part (c :: cs) = feed (readS s) (part ++ [c]) cs := by rw [feed, if_neg hc, if_neg h]
/-- what is small -/
structure Bd (s : SS) (m : Nat) : Prop where
  room : s.st.room ≤ 10000
  held : s.st.held.length ≤ s.st.room
  mv : s.st.mv ≤ 5000 * m
  num : s.num ≤ m
  off : s.off ≤ 10000 * m
  hunt : s.hunt ≤ m
theorem Bd.sml {s : SS} {m : Nat} (h : Bd s m) (hm : m ≤ 100000) : Sml s := ⟨by have := h.room; omega, by have := h.mv; omega, by have := h.num; omega, by have := h.off; omega, by have := h.hunt; omega⟩
theorem Bd.mono {s : SS} {m m' : Nat} (h : Bd s m) (hm : m ≤ m') : Bd s m' := ⟨h.room, h.held, by have := h.mv; omega, by have := h.num; omega, by have := h.off; omega, by have := h.hunt; omega⟩
theorem Bd.read {s : SS} {m : Nat} (h : Bd s m) : Bd (readS s) (m + 1) := ⟨h.room, h.held, by have := h.mv; show s.st.mv ≤ _; omega, by have := h.num; show s.num ≤ _; omega, by have := h.off; show s.off ≤ _; omega, by have := h.hunt; show s.hunt + 1 ≤ _; omega⟩
theorem add_le2 (st : St) (l : List Int) (h0 : st.held.length ≤ st.room) (hr : st.room ≤ 10000) (hn : st.held.length + l.length ≤ 5000) : (addS st l).room ≤ 10000 ∧ (addS st l).mv ≤ st.mv + 5000 ∧ (addS st l).held.length ≤ (addS st l).room := by
  rw [add_held, List.length_append]
  by_cases h : st.held.length + l.length ≤ st.room
  · obtain ⟨h1, h2⟩ := add_fit st l h
    rw [h1, h2]
    omega
  · obtain ⟨h1, h2⟩ := add_grow st l h h0
    rw [h1, h2]
    unfold roomN
    omega
theorem Bd.line {s : SS} {m : Nat} (h : Bd s m) (part : List Int) (hp : s.st.held.length + part.length ≤ 5000) : Bd (lineS s part) (m + 1) := by
  have ha := add_le2 s.st part h.held h.room hp
  have h1 := h.room
  have h2 := h.held
  have h3 := h.mv
  have h4 := h.num
  have h5 := h.off
  have h6 := h.hunt
  have hl : (s.st.held ++ part).length = s.st.held.length + part.length := List.length_append
  by_cases h0 : s.st.held.length = 0
  · have hst : (lineS s part).st = s.st := if_pos h0
    exact ⟨by rw [hst]; exact h1, by rw [hst]; exact h2, by rw [hst]; omega, by show s.num + 1 ≤ _; omega, by show s.off + ((s.st.held ++ part).length + 1) ≤ _; omega, by show s.hunt ≤ _; omega⟩
  · have hst : (lineS s part).st = clearS (addS s.st part) := if_neg h0
    exact ⟨by rw [hst]; exact ha.1, by rw [hst]; exact Nat.zero_le _, by rw [hst]; show (addS s.st part).mv ≤ _; omega, by show s.num + 1 ≤ _; omega, by show s.off + ((s.st.held ++ part).length + 1) ≤ _; omega, by show s.hunt ≤ _; omega⟩
theorem Bd.rest {s : SS} {m : Nat} (h : Bd s m) (part : List Int) (hp : s.st.held.length + part.length ≤ 5000) : Bd (restS s part) (m + 1) := by
  have ha := add_le2 s.st part h.held h.room hp
  have h3 := h.mv
  have h4 := h.num
  have h5 := h.off
  have h6 := h.hunt
  exact ⟨ha.1, ha.2.2, by show (addS s.st part).mv ≤ _; omega, by show s.num ≤ _; omega, by show s.off ≤ _; omega, by show s.hunt ≤ _; omega⟩
theorem Bd.bad {s : SS} {m : Nat} (h : Bd s m) : Bd (badS s) m := ⟨h.room, h.held, h.mv, h.num, h.off, h.hunt⟩
theorem line_held_le (s : SS) (part : List Int) : (lineS s part).st.held.length ≤ s.st.held.length := by
  unfold lineS
  dsimp only
  split
  · exact Nat.le_refl _
  · exact Nat.zero_le _
theorem Win.put {w w' : World} {g : Nat} {M : Option Nat} {c c' : Int} {A : Option Addr} {st : St} (h : Win w g M c A st) (hp : Put w w' M 0 0 c' (st.mv : Int)) : Win w' g M c' A st := by
  obtain ⟨buf, h1, h2, h3⟩ := h
  refine ⟨buf, ⟨blk_kept h1.win hp.kept (fun e => h1.ne e), h1.le, h1.no, fun q => ?_, h1.ne, hp.met⟩, h2, h3⟩
  obtain ⟨gb, q1, q2, q3, q4⟩ := h1.row q
  exact ⟨gb, q1, blk_kept q2 hp.kept (fun e => q4 e), q3, q4⟩
theorem Win.met {w : World} {g : Nat} {M : Option Nat} {c : Int} {A : Option Addr} {st : St} (h : Win w g M c A st) : MAt w M 0 0 c (st.mv : Int) := by
  obtain ⟨buf, h1, h2, h3⟩ := h
  exact h1.met
/-- a byte is read, and counted -/
theorem StrAt.read {w w' : World} {B gs gw : Nat} {M : Option Nat} {A : Option Addr} {s : SS} (h : StrAt w B gs gw M A s) (hB : B ≤ w.heap.size) (hp : Put w w' M 0 0 ((s.hunt : Int) + 1) (s.st.mv : Int)) : Lined w w' B gs gw M A A s (readS s) :=
  ⟨⟨blk_kept h.box hp.kept h.ne.2.1, by show Win w' gw M ((s.hunt + 1 : Nat) : Int) A s.st; rw [Int.natCast_add]; exact Win.put h.win hp, h.ne, h.low⟩, Kept.mono hp.kept (fun k hk => Or.inr (Or.inr (Or.inl hk))), hp.bel B hB h.low.2.2.1, fun ad e => Or.inl e⟩
theorem info5b : ∃ i, Try.prog.info? 5 = some i ∧ i.size = 1 := by
  have h : (Try.prog.info? 5).map (·.size) = some 1 := by kernel_rfl
  obtain ⟨i, hi, he⟩ := Option.map_eq_some_iff.mp h
  exact ⟨i, hi, he⟩
theorem cut_lh (A : Option Addr) (n c l h : Nat) (h1 : l ≤ h) (h2 : h ≤ c) (W : World) : (Instr.slice 38 (.slice A n c) (some (.int .i64 (l : Int))) (some (.int .i64 (h : Int))) none).run Try.prog W = .ok (.slice (if c = l then A else A.map (·.add l)) (h - l) (c - l)) W := by
  obtain ⟨i, hi, hs⟩ := info5b
  have he : Try.prog.elem 38 = 5 := by kernel_rfl
  rw [run_slice_lh (P := Try.prog) W 38 A n c (by rw [he]; exact Try.underlying38) .i64 .i64 (l : Int) (h : Int) (by omega) (by omega) (by omega), he]
  simp [sizeOf, typeInfo, hi, hs, sliced]
/-- a part of bytes as they lie -/
theorem mid_C {w : World} {A : Option Addr} {l : List Int} {c : Nat} (h : Kd.C (Kd.int .u8) w A l.length l) (a b : Nat) (h1 : a ≤ b) (h2 : b ≤ l.length) (hc : l.length ≤ c) : Kd.C (Kd.int .u8) w (if c = a then A else A.map (·.add a)) ((l.take b).drop a).length ((l.take b).drop a) := by
  have h3 := readsInt_of.mpr (Kd.reads_of_C (d := (0 : Int)) h)
  have h4 := h3.take_ b h2
  have h5 := h4.drop_ a h1 (c := c) (by omega)
  have hl : ((l.take b).drop a).length = b - a := by rw [List.length_drop, List.length_take]; omega
  rw [hl]
  exact Kd.C_of_reads (d := (0 : Int)) (readsInt_of.mp h5)
end Go.Proofs.Ytgiaabgmnjaefaa.Str
