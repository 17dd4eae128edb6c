/- What Go functions compute, as Lean functions, and that the machine's call comes to just that; no conditions beyond each theorem's own. (Written by pp.py of this repo, over the kit's print.py.) -/
import Derived.Test.YtjcgbppicdccdaaDoorQ0
import Derived.Deep.Slices
import Derived.ChangeArms
import Derived.DataReads
namespace Go.Proofs.YtjcgbppicdccdaaDoor.Q
open Go.RowKit Go.Proofs.YtjcgbppicdccdaaDoorW.PrintWords Go.Proofs.YtjcgbppicdccdaaDoorW.PrintLast Go.Proofs.YtjcgbppicdccdaaDoorW.PrintMore
attribute [local go_sem] max2_int min2_int max_two min_two max_three min_three max_four min_four   -- for this text's walks alone
set_option linter.unusedVariables false
set_option linter.unusedSimpArgs false

/-- What is read of a value of type t in memory (the claim's own reading), as the print's words tell it. -/
def Rd {α : Type} (P : Program) (d : Kd α) (t : TypeId) (wf : α → Prop) : Prop :=
  ∀ {H : Type} (enc : TypeId × Value → H) (w : World) (base : Nat) (spare : Nat → Bool) (held : Bool) (fuel : Nat) (cs : List Value) (x : DataW H × List MemPlace),
    DataW.trod enc P w base spare held fuel t cs = some x → ∃ a, d.K w a cs ∧ wf a
theorem Rd.int {P : Program} {t : TypeId} {k : IntKind} (ht : P.underlying t = some (.int k)) : Rd P (Kd.int k) t (fun n => (Lit.int k n).wf = true) := by
  intro H enc w base spare held fuel cs x h
  obtain ⟨n, rfl, _, hw⟩ := DataW.trod_int ht h
  exact ⟨n, rfl, hw⟩
theorem Rd.bool {P : Program} {t : TypeId} (ht : P.underlying t = some .bool) : Rd P Kd.bool t (fun _ => True) := by
  intro H enc w base spare held fuel cs x h
  obtain ⟨n, rfl, _⟩ := DataW.trod_bool ht h
  exact ⟨n, rfl, trivial⟩
theorem Rd.string {P : Program} {t : TypeId} (ht : P.underlying t = some .string) : Rd P Kd.string t (fun s => s.size ≤ maxLen) := by
  intro H enc w base spare held fuel cs x h
  obtain ⟨n, rfl, _, hs⟩ := DataW.trod_string ht h
  exact ⟨n, rfl, hs⟩
theorem Rd.slice {α : Type} {P : Program} {d : Kd α} {t e : TypeId} {wf : α → Prop} (ht : P.underlying t = some (.slice e)) (hc : P.cellsOf e = d.sz) (hd : Rd P d e wf) :
    Rd P (Kd.slice e d) t (fun l => l.length ≤ maxLen ∧ ∀ a ∈ l, wf a) := by
  intro H enc w base spare held fuel cs x h
  rcases Go.Deep.open_slice ht h with ⟨rfl, _⟩ | ⟨a, len, cap, m, n, D, Pl, rfl, _, hl, hm, hmm, _, hi⟩
  · exact ⟨[], ⟨none, 0, rfl, Nat.le_refl _, rfl, Nat.zero_le _, fun h => absurd h (Nat.lt_irrefl _)⟩, Nat.zero_le _, fun _ h => by cases h⟩
  · have hlm : len ≤ m := by rw [hmm]; split <;> omega
    have hex : ∀ i, i < len → ∃ v, wf v ∧ ∃ c, c.length = d.sz ∧ d.K w v c ∧ ∀ j u, c[j]? = some u → w.cell? (a.add (i * d.sz + j)) = some u := by
      intro i hilt
      obtain ⟨cs', hcs, ht'⟩ := hi i (by omega)
      obtain ⟨v, hK, hw⟩ := hd enc w base spare held n cs' _ ht'
      rw [hc] at hcs
      obtain ⟨_, hlen, hat⟩ := World.cells?_some hcs
      refine ⟨v, hw, cs', hlen, hK, fun j u hj => ?_⟩
      have hjl : j < d.sz := by rw [← hlen]; exact (List.getElem?_eq_some_iff.1 hj).1
      have := hat j hjl
      rw [Go.Deep.add_add] at this
      rw [this, hj]
    have hex' : ∀ i : Fin len, ∃ v, wf v ∧ ∃ c, c.length = d.sz ∧ d.K w v c ∧ ∀ j u, c[j]? = some u → w.cell? (a.add (i.val * d.sz + j)) = some u := fun i => hex i.val i.isLt
    have hch : ∃ g : Fin len → α, ∀ i : Fin len, wf (g i) ∧ ∃ c, c.length = d.sz ∧ d.K w (g i) c ∧ ∀ j u, c[j]? = some u → w.cell? (a.add (i.val * d.sz + j)) = some u := ⟨fun i => Classical.choose (hex' i), fun i => Classical.choose_spec (hex' i)⟩
    obtain ⟨g, hg⟩ := hch
    have hlen : (List.ofFn g).length = len := List.length_ofFn
    refine ⟨List.ofFn g, ⟨some a, cap, by rw [hlen], by rw [hlen]; exact hl, rfl, by rw [hlen]; simp only [maxLen] at hm; omega, fun _ => ⟨a, rfl, fun j p hp => ?_⟩⟩, by rw [hlen]; omega, fun v hv => ?_⟩
    · obtain ⟨hj, he⟩ := List.getElem?_eq_some_iff.1 hp
      rw [List.getElem_ofFn] at he
      subst he
      exact (hg ⟨j, by omega⟩).2
    · obtain ⟨i, rfl⟩ := List.mem_ofFn.1 hv
      exact (hg i).1
/-- A slice that came in. -/
theorem Rd.arg_slice {α : Type} {P : Program} {d : Kd α} {t e : TypeId} {wf : α → Prop} (hd : Rd P (Kd.slice e d) t (fun l => l.length ≤ maxLen ∧ ∀ a ∈ l, wf a)) {H : Type} {enc : TypeId × Value → H} {w : World} {base : Nat} {spare : Nat → Bool} {held : Bool} {A : Option Addr} {n c : Nat} {x : DataW H} {p : List MemPlace}
    (h : DataW.Trod enc P w base spare held t (.slice A n c) x p) : ∃ l : List α, l.length = n ∧ d.C w A l.length l ∧ l.length ≤ c ∧ l.length ≤ maxLen ∧ ∀ a ∈ l, wf a := by
  obtain ⟨fuel, hf⟩ := h
  obtain ⟨l, ⟨A', c', he, hl, hC⟩, hm, hw⟩ := hd enc w base spare held fuel _ _ hf
  have he' : [Value.slice A n c] = [.slice A' l.length c'] := he
  injection he' with he' _
  injection he' with h1 h2 h3
  subst h1; subst h3
  exact ⟨l, h2.symm, hC, hl, hm, hw⟩
theorem some_of_len {α : Type} {xs : List α} {n j : Nat} (h : xs.length = n) (hj : j < n) : ∃ y, xs[j]? = some y := ⟨_, List.getElem?_eq_getElem (by omega)⟩

def wf43 (v : S43) : Prop := (fun n => (Lit.int .i64 n).wf = true) v.f0 ∧ (fun n => (Lit.int .i64 n).wf = true) v.f1 ∧ (fun s => s.size ≤ maxLen) v.f2
theorem rd43 : Rd Tryd.prog k43 43 wf43 := by
  intro H enc w base spare held fuel cs x h
  obtain ⟨xs, n, _, _, hlen, hl, hf⟩ := DataW.trod_struct Tryd.underlying43 h
  rw [show Tryd.prog.cellsOf 43 = 3 by kernel_rfl] at hlen
  obtain ⟨c0, c1, c2, rfl⟩ : ∃ c0 c1 c2, cs = [c0, c1, c2] := by
    match cs, hlen with
    | [c0, c1, c2], _ => exact ⟨c0, c1, c2, rfl⟩
  obtain ⟨y0, hy0⟩ := some_of_len hl (j := 0) (by decide)
  have g0 : DataW.trod enc Tryd.prog w base spare held n 3 ((([c0, c1, c2] : List Value).drop 0).take (Tryd.prog.cellsOf 3)) = some y0 := (hf 0 _ rfl).trans hy0
  rw [show Tryd.prog.cellsOf 3 = 1 by kernel_rfl] at g0
  obtain ⟨a0, K0, w0⟩ := (Rd.int Tryd.underlying3) enc w base spare held n _ _ g0
  obtain ⟨y1, hy1⟩ := some_of_len hl (j := 1) (by decide)
  have g1 : DataW.trod enc Tryd.prog w base spare held n 3 ((([c0, c1, c2] : List Value).drop 1).take (Tryd.prog.cellsOf 3)) = some y1 := (hf 1 _ rfl).trans hy1
  rw [show Tryd.prog.cellsOf 3 = 1 by kernel_rfl] at g1
  obtain ⟨a1, K1, w1⟩ := (Rd.int Tryd.underlying3) enc w base spare held n _ _ g1
  obtain ⟨y2, hy2⟩ := some_of_len hl (j := 2) (by decide)
  have g2 : DataW.trod enc Tryd.prog w base spare held n 9 ((([c0, c1, c2] : List Value).drop 2).take (Tryd.prog.cellsOf 9)) = some y2 := (hf 2 _ rfl).trans hy2
  rw [show Tryd.prog.cellsOf 9 = 1 by kernel_rfl] at g2
  obtain ⟨a2, K2, w2⟩ := (Rd.string Tryd.underlying9) enc w base spare held n _ _ g2
  exact ⟨⟨a0, a1, a2⟩, ⟨[c0], [c1, c2], rfl, K0, ⟨[c1], [c2], rfl, K1, K2⟩⟩, ⟨w0, w1, w2⟩⟩
end Go.Proofs.YtjcgbppicdccdaaDoor.Q
