/- What an argument of a law reads as: from the form's reading ('trod') down to the print's kinds ('Kd'). For every program and every reading; no condition. -/
import Derived.Test.YtgiaabgmnjaefaaWWords
import Derived.Deep.Slices
import Derived.SizedLaws
import Derived.ChangeSame
import Derived.Deep.Strs
import Derived.OpenShut
import Derived.Lib.SmallJoins
namespace Go.Proofs.Ytgiaabgmnjaefaa.Opens
open Go.RowKit Go.ChangeShapes Go.WideShapes Go.Proofs.YtgiaabgmnjaefaaW.PrintWords
set_option linter.unusedVariables false

/-- Whatever reads at type t is a value of the kind d, of which 'good' holds. -/
structure Opens (P : Program) {α : Type} (d : Kd α) (t : TypeId) (good : α → Prop) : Prop where
  sz : P.cellsOf t = d.sz
  down : ∀ {H : Type} {enc : TypeId × Value → H} {w : World} {base : Nat} {spare : Nat → Bool} {held : Bool} {fuel : Nat} {cs : List Value} {x : DataW H × List MemPlace},
    DataW.trod enc P w base spare held fuel t cs = some x → ∃ a, d.K w a cs ∧ good a

theorem opens_int {P : Program} {t : TypeId} {k : IntKind} (ht : P.underlying t = some (.int k)) (hs : P.cellsOf t = 1) : Opens P (Kd.int k) t (fun n => (Lit.int k n).wf = true) :=
  ⟨hs, fun h => by obtain ⟨n, rfl, _, hw⟩ := DataW.trod_int ht h; exact ⟨n, rfl, hw⟩⟩
theorem opens_bool {P : Program} {t : TypeId} (ht : P.underlying t = some .bool) (hs : P.cellsOf t = 1) : Opens P Kd.bool t (fun _ => True) :=
  ⟨hs, fun h => by obtain ⟨b, rfl, _⟩ := DataW.trod_bool ht h; exact ⟨b, rfl, trivial⟩⟩
theorem opens_string {P : Program} {t : TypeId} (ht : P.underlying t = some .string) (hs : P.cellsOf t = 1) : Opens P Kd.string t (fun s => s.size ≤ maxLen) :=
  ⟨hs, fun h => by obtain ⟨s, rfl, _, hl⟩ := DataW.trod_string ht h; exact ⟨s, rfl, hl⟩⟩

theorem opens_slice {P : Program} {α : Type} {d : Kd α} {t e : TypeId} {good : α → Prop} (ht : P.underlying t = some (.slice e)) (hs : P.cellsOf t = 1) (hd : Opens P d e good) :
    Opens P (Kd.slice e d) t (fun xs => xs.length ≤ maxLen ∧ ∀ x ∈ xs, good x) :=
  ⟨hs, fun {H enc w base spare held fuel cs x} h => by
    rcases Go.Deep.open_slice ht h with ⟨rfl, _⟩ | ⟨a, len, cap, m, n, D, Pl, rfl, hb, hl, hm, hmm, rfl, hx⟩
    · exact ⟨[], ⟨none, 0, rfl, Nat.le_refl _, by simpa using Kd.C_nil d w⟩, by simp [maxLen], by simp⟩
    · have hlm : len ≤ m := by rw [hmm]; split <;> omega
      have hall : ∀ i, i < len → ∃ cs' y, w.cells? base (a.add (i * P.cellsOf e)) (P.cellsOf e) = some cs' ∧ d.K w y cs' ∧ good y := fun i hi => by
        obtain ⟨cs', h1, h2⟩ := hx i (by omega)
        obtain ⟨y, hy, hg⟩ := hd.down h2
        exact ⟨cs', y, h1, hy, hg⟩
      have key : ∀ k, k ≤ len → ∃ xs : List α, xs.length = k ∧ (∀ i y, xs[i]? = some y → ∃ cs', w.cells? base (a.add (i * P.cellsOf e)) (P.cellsOf e) = some cs' ∧ d.K w y cs' ∧ good y) := by
        intro k
        induction k with
        | zero => exact fun _ => ⟨[], rfl, fun i y h => by simp at h⟩
        | succ k ih =>
          intro hk
          obtain ⟨xs, hxl, hxs⟩ := ih (by omega)
          obtain ⟨cs', y, h1, h2, h3⟩ := hall k (by omega)
          refine ⟨xs ++ [y], by simp [hxl], fun i z hz => ?_⟩
          rcases Nat.lt_or_ge i k with hi | hi
          · rw [List.getElem?_append_left (by omega)] at hz
            exact hxs i z hz
          · rw [List.getElem?_append_right (by omega)] at hz
            have : i - xs.length = 0 := by
              have := (List.getElem?_eq_some_iff.1 hz).1
              simp at this; omega
            rw [this] at hz
            simp at hz
            subst hz
            have : i = k := by omega
            subst this
            exact ⟨cs', h1, h2, h3⟩
      obtain ⟨xs, hxl, hxs⟩ := key len (Nat.le_refl _)
      subst hxl
      refine ⟨xs, ⟨some a, cap, rfl, hl, ?_⟩, by omega, fun y hy => ?_⟩
      · refine ⟨rfl, by unfold maxLen at hm; omega, fun hpos => ⟨a, rfl, ?_⟩⟩
        intro j p hj
        obtain ⟨cs', h1, h2, _⟩ := hxs j p hj
        obtain ⟨_, hlc, hc⟩ := World.cells?_some h1
        refine ⟨cs', by rw [hlc, hd.sz], h2, fun i u hu => ?_⟩
        have hi : i < P.cellsOf e := by rw [← hlc]; exact (List.getElem?_eq_some_iff.1 hu).1
        have h3 := hc i hi
        rw [Go.Deep.add_add, hd.sz] at h3
        rw [h3, hu]
      · obtain ⟨i, hi, rfl⟩ := List.getElem_of_mem hy
        obtain ⟨_, _, _, hg⟩ := hxs i _ (List.getElem?_eq_getElem hi)
        exact hg⟩
/-- Fields from offset o on, each by its kind. -/
def OpensF (P : Program) {β : Type} (d : Kd β) (fs : List Field) (o : Nat) (good : β → Prop) : Prop :=
  ∀ {H : Type} {enc : TypeId × Value → H} {w : World} {base : Nat} {spare : Nat → Bool} {held : Bool} {n : Nat} {cs : List Value},
    (∀ f ∈ fs, ∃ y, DataW.trod enc P w base spare held n f.type ((cs.drop f.offset).take (P.cellsOf f.type)) = some y) → ∃ b, d.K w b ((cs.drop o).take d.sz) ∧ good b
theorem opensF_one {P : Program} {α : Type} {d : Kd α} {f : Field} {good : α → Prop} (h : Opens P d f.type good) : OpensF P d [f] f.offset good := by
  intro H enc w base spare held n cs hf
  obtain ⟨y, hy⟩ := hf f (by simp)
  obtain ⟨a, ha, hg⟩ := h.down hy
  rw [h.sz] at ha
  exact ⟨a, ha, hg⟩
theorem opensF_cons {P : Program} {α β : Type} {d : Kd α} {d' : Kd β} {f : Field} {fs : List Field} {good : α → Prop} {good' : β → Prop} (h : Opens P d f.type good) (h' : OpensF P d' fs (f.offset + d.sz) good') :
    OpensF P (Kd.pair d d') (f :: fs) f.offset (fun x => good x.1 ∧ good' x.2) := by
  intro H enc w base spare held n cs hf
  obtain ⟨y, hy⟩ := hf f (by simp)
  obtain ⟨a, ha, hg⟩ := h.down hy
  rw [h.sz] at ha
  obtain ⟨b, hb, hg'⟩ := h' (cs := cs) (fun f' hf' => hf f' (List.mem_cons_of_mem _ hf'))
  refine ⟨(a, b), ⟨_, _, ?_, ha, hb⟩, hg, hg'⟩
  show (cs.drop f.offset).take (d.sz + d'.sz) = _
  rw [List.take_add, List.drop_drop]
theorem opens_struct {P : Program} {α β : Type} {d : Kd β} {t : TypeId} {fs : Array Field} {good : β → Prop} {f : α → β} (g : β → α) (hfg : ∀ b, f (g b) = b) (ht : P.underlying t = some (.struct fs)) (hs : P.cellsOf t = d.sz)
    (h : OpensF P d fs.toList 0 good) : Opens P (Kd.iso d f) t (fun x => good (f x)) :=
  ⟨hs, fun {H enc w base spare held fuel cs x} hx => by
    obtain ⟨xs, n, _, rfl, hl, hlen, hf⟩ := DataW.trod_struct ht hx
    obtain ⟨b, hb, hg⟩ := h (enc := enc) (w := w) (base := base) (spare := spare) (held := held) (n := n) (cs := cs) (fun fl hfl => by
      obtain ⟨i, hi, rfl⟩ := List.getElem_of_mem hfl
      have h1 := hf i (fs.toList[i]) (by simp at hi; simp [hi])
      rw [h1]
      have hi2 : i < xs.length := by rw [hlen]; simpa using hi
      exact ⟨_, List.getElem?_eq_getElem hi2⟩)
    rw [List.drop_zero, List.take_of_length_le (by omega)] at hb
    refine ⟨g b, ?_, by rw [hfg]; exact hg⟩
    show d.K w (f (g b)) cs
    rw [hfg]; exact hb⟩

/-- An array's element as a field of a struct. -/
def aF (e : TypeId) (o : Nat) : Field := { name := "", type := e, offset := o, embedded := false, tag := "", pkgPath := "", byteOffset := 0 }
theorem opens_array {P : Program} {α β : Type} {d : Kd β} {t e : TypeId} {n : Nat} {fs : List Field} {good : β → Prop} {f : α → β} (g : β → α) (hfg : ∀ b, f (g b) = b) (ht : P.underlying t = some (.array n e)) (hc : P.cellsOf e = 1) (hs : P.cellsOf t = d.sz)
    (hfs : fs = (List.range n).map (aF e)) (h : OpensF P d fs 0 good) : Opens P (Kd.iso d f) t (fun x => good (f x)) :=
  ⟨hs, fun {H enc w base spare held fuel cs x} hx => by
    obtain ⟨xs, m, _, rfl, hl, hlen, hf⟩ := DataW.trod_array ht hx
    obtain ⟨b, hb, hg⟩ := h (enc := enc) (w := w) (base := base) (spare := spare) (held := held) (n := m) (cs := cs) (fun fl hfl => by
      rw [hfs] at hfl
      obtain ⟨i, hi, rfl⟩ := List.mem_map.mp hfl
      have hi := List.mem_range.mp hi
      have h1 := hf i hi
      rw [hc, Nat.mul_one] at h1
      show ∃ y, DataW.trod enc P w base spare held m e ((cs.drop i).take (P.cellsOf e)) = some y
      rw [hc, h1]
      have hi2 : i < xs.length := by rw [hlen]; exact hi
      exact ⟨_, List.getElem?_eq_getElem hi2⟩)
    rw [List.drop_zero, List.take_of_length_le (by omega)] at hb
    refine ⟨g b, ?_, by rw [hfg]; exact hg⟩
    show d.K w (f (g b)) cs
    rw [hfg]; exact hb⟩
theorem okWide_array {P : Program} {w : World} {r : Reach} {base : Nat} {t e : TypeId} {n : Nat} {v : Value} (ht : P.underlying t = some (.array n e)) (h : Value.okWide P w r base t v) : ∃ cs, v = .agg cs ∧ cs.size = P.cellsOf t := by
  simp only [Value.okWide, ht] at h
  obtain ⟨cs, h1, h2, _⟩ := h
  exact ⟨cs, h1, h2⟩
/-- A slice that came in: its value, what it reads as, that it is read as long as it is. -/
theorem open_arg_slice {P : Program} {α : Type} {d : Kd α} {t e : TypeId} {good : α → Prop} (ht : P.underlying t = some (.slice e)) (hs : P.cellsOf t = 1) (hd : Opens P d e good)
    {H : Type} {enc : TypeId × Value → H} {W : World} {base : Nat} {spare : Nat → Bool} {held : Bool} {a : Option Addr} {len cap : Nat} {x : DataW H} {ps : List MemPlace}
    (h : DataW.Trod enc P W base spare held t (.slice a len cap) x ps) :
    ∃ xs : List α, xs.length = len ∧ len ≤ cap ∧ d.C W a xs.length xs ∧ xs.length ≤ maxLen ∧ ∀ y ∈ xs, good y := by
  obtain ⟨fuel, hf⟩ := h
  obtain ⟨xs, ⟨A, c, he, hl, hc⟩, hm, hg⟩ := (opens_slice ht hs hd).down hf
  have he' : Value.slice a len cap = .slice A xs.length c := by simpa [Value.cells] using he
  injection he' with h1 h2 h3
  subst h1 h2 h3
  exact ⟨xs, rfl, hl, hc, hm, hg⟩

/-- A struct that came in by value. -/
theorem open_arg_struct {P : Program} {α : Type} {d : Kd α} {t : TypeId} {good : α → Prop} {fs : Array Field} (ht : P.underlying t = some (.struct fs)) (hd : Opens P d t good)
    {H : Type} {enc : TypeId × Value → H} {W : World} {base : Nat} {spare : Nat → Bool} {held : Bool} {v : Value} {x : DataW H} {ps : List MemPlace} {r : Reach} {b0 : Nat}
    (hv : Value.okWide P W r b0 t v) (h : DataW.Trod enc P W base spare held t v x ps) :
    ∃ (a : α) (cs : List Value), v = .agg cs.toArray ∧ d.K W a cs ∧ good a := by
  obtain ⟨cs, rfl, hsz⟩ := okWide_struct ht hv
  obtain ⟨fuel, hf⟩ := h
  obtain ⟨a, ha, hg⟩ := hd.down hf
  exact ⟨a, cs.toList, by simp, by simpa [Value.cells] using ha, hg⟩

theorem open_arg_array {P : Program} {α : Type} {d : Kd α} {t e : TypeId} {n : Nat} {good : α → Prop} (ht : P.underlying t = some (.array n e)) (hd : Opens P d t good)
    {H : Type} {enc : TypeId × Value → H} {W : World} {base : Nat} {spare : Nat → Bool} {held : Bool} {v : Value} {x : DataW H} {ps : List MemPlace} {r : Reach} {b0 : Nat}
    (hv : Value.okWide P W r b0 t v) (h : DataW.Trod enc P W base spare held t v x ps) :
    ∃ (a : α) (cs : List Value), v = .agg cs.toArray ∧ d.K W a cs ∧ good a := by
  obtain ⟨cs, rfl, hsz⟩ := okWide_array ht hv
  obtain ⟨fuel, hf⟩ := h
  obtain ⟨a, ha, hg⟩ := hd.down hf
  exact ⟨a, cs.toList, by simp, by simpa [Value.cells] using ha, hg⟩

/-- It weighs no more than the form lets in. -/
theorem sized_slice {P : Program} {t e : TypeId} (ht : P.underlying t = some (.slice e)) {H : Type} {enc : TypeId × Value → H} {W : World} {base : Nat} {spare : Nat → Bool} {held : Bool} {a : Option Addr} {len cap : Nat} {d : DataW H} {ps : List MemPlace} {ts : List TypeId} {ds : List (DataW H)} {j : Nat}
    (hsz : (DataW.weightsEach P ts ds).all (· ≤ reachBytes) = true) (htj : ts[j]? = some t) (hdj : ds[j]? = some d) {B : Nat} (hB : P.bytesOf e = B)
    (h : DataW.Trod enc P W base spare held t (.slice a len cap) d ps) : len * B ≤ 140737488351232 := by
  obtain ⟨fuel, hf⟩ := h
  rcases Go.Deep.open_slice ht hf with ⟨hcs, _⟩ | ⟨a', len', cap', m, n, D, Pl, hcs, hb, hl, hm, hmm, hx, _⟩
  · simp [Value.cells] at hcs
    obtain ⟨rfl, rfl, rfl⟩ := hcs
    simp
  · simp [Value.cells] at hcs
    obtain ⟨rfl, rfl, rfl⟩ := hcs
    obtain ⟨hx, _⟩ := Prod.mk.inj hx
    subst hx
    have z := Go.sized_slice hsz htj hdj ht
    rw [hB] at z
    exact Nat.le_trans (Nat.mul_le_mul_right _ (by simp)) z
end Go.Proofs.Ytgiaabgmnjaefaa.Opens
