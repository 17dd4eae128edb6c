/- Packed by chunk.py: YtjcgbppicdccdaaDoorA2 YtjcgbppicdccdaaDoorA3 YtjcgbppicdccdaaDoorA4 YtjcgbppicdccdaaDoorR YtjcgbppicdccdaaDoorA5 YtjcgbppicdccdaaDoorQ14 YtjcgbppicdccdaaDoorA6 YtjcgbppicdccdaaDoorH47 YtjcgbppicdccdaaDoorQ41 YtjcgbppicdccdaaDoorH42 YtjcgbppicdccdaaDoorH43 -/
import Derived.Test.YtjcgbppicdccdaaDoorQ0
import Derived.LoopN
import Derived.Test.YtjcgbppicdccdaaDoorShelf
import Derived.Laws.BitsLemmas
import Derived.Deep.Slices
import Derived.ChangeArms
import Derived.DataReads
import Derived.Test.YtjcgbppicdccdaaDoorM1
section
/- Plain law: what the references compute of texts and rows; a row's order is its key's. -/
namespace Go.Proofs.YtjcgbppicdccdaaDoor.Q
open Go.RowKit Go.Proofs.YtjcgbppicdccdaaDoorW.PrintWords Go.Proofs.YtjcgbppicdccdaaDoorW.PrintLast Go.Proofs.YtjcgbppicdccdaaDoorW.PrintMore
set_option linter.unusedVariables false

/-- A value whose number is one of Go's ints. -/
def wfS (v : S43) : Prop := -9223372036854775808 ≤ v.f1 ∧ v.f1 ≤ 9223372036854775807
def orderS (v w : S43) : Int := if v.f0 = w.f0 then (if v.f1 = w.f1 then cmpL v.f2.data.toList w.f2.data.toList else cmpI v.f1 w.f1) else cmpI v.f0 w.f0
def orderL : List S43 → List S43 → Int
  | [], [] => 0
  | [], _ :: _ => -1
  | _ :: _, [] => 1
  | v :: a, w :: b => if orderS v w = 0 then orderL a b else orderS v w

/-- What a right value is. -/
theorem right_cases {v : S43} (h : rightV v = true) :
    (v.f0 = 0 ∧ v.f1 = 0 ∧ v.f2.data.toList = []) ∨ (v.f0 = 1 ∧ v.f2.data.toList = []) ∨ (v.f0 = 2 ∧ (v.f1 = 0 ∨ v.f1 = 1) ∧ v.f2.data.toList = []) ∨ (v.f0 = 3 ∧ v.f1 = 0 ∧ v.f2.size ≤ 16) := by
  unfold rightV value_Right.f at h
  have ht : v.f2.toList = v.f2.data.toList := Lib.toList_data _
  rw [ht] at h
  by_cases h0 : v.f0 = 0
  · simp [h0] at h
    exact .inl ⟨h0, h.1, by simpa using h.2⟩
  · by_cases h1 : v.f0 = 1
    · simp [h1] at h
      exact .inr (.inl ⟨h1, by simpa using h⟩)
    · by_cases h2 : v.f0 = 2
      · by_cases hs : v.f2.data.toList = []
        · refine .inr (.inr (.inl ⟨h2, ?_, hs⟩))
          by_cases hz : v.f1 = 0
          · exact .inl hz
          · simp [h2, hs, hz] at h
            exact .inr h
        · rw [if_neg h0, if_neg h1, if_pos h2, if_neg hs] at h
          simp at h
      · by_cases h3 : v.f0 = 3
        · by_cases hz : v.f1 = 0
          · simp [h3, hz] at h
            exact .inr (.inr (.inr ⟨h3, hz, by omega⟩))
          · simp [h3, hz] at h
        · simp [h0, h1, h2, h3] at h

end Go.Proofs.YtjcgbppicdccdaaDoor.Q
end
section
/- Plain law: the rounds of the references' loops. -/
namespace Go.Proofs.YtjcgbppicdccdaaDoor.Q
open Go.RowKit Go.Proofs.YtjcgbppicdccdaaDoorW.PrintWords Go.Proofs.YtjcgbppicdccdaaDoorW.PrintLast Go.Proofs.YtjcgbppicdccdaaDoorW.PrintMore
set_option linter.unusedVariables false

theorem wrap_succ (i : Nat) (h : (i : Int) < 9223372036854775807) : wrap64 ((i : Int) + 1) = ((i + 1 : Nat) : Int) := by unfold wrap64; omega
theorem bt_get (s : ByteArray) (i : Nat) (h : i < s.data.toList.length) : bt s (i : Int) = ((s.data.toList[i]).toNat : Int) := by
  have h' : i < s.size := by simpa using h
  unfold bt
  simp [h']
  rfl
theorem cmpL_end : ∀ (s t : List UInt8), (s = [] ∨ t = []) → cmpL s t = cmpI s.length t.length
  | [], [], _ => rfl
  | [], d :: t, _ => by simp only [cmpL, cmpI, List.length_cons, List.length_nil]; rw [if_pos (by omega)]
  | c :: s, [], _ => by simp only [cmpL, cmpI, List.length_cons, List.length_nil]; rw [if_neg (by omega), if_pos (by omega)]
  | c :: s, d :: t, h => by simp at h
theorem cmpI_add (a b c : Int) : cmpI (a - c) (b - c) = cmpI a b := by unfold cmpI; split <;> split <;> (try split) <;> (try split) <;> omega
theorem Ev.some_ {α : Type} {g : Nat → Option α} {r : α} (h : ∀ k, g k = some r) : Ev g r := ⟨0, fun k _ => h k⟩
theorem Ev.to {α : Type} {g : Nat → Option α} {r r' : α} (h : Ev g r) (e : r = r') : Ev g r' := e ▸ h
theorem size_list (s : ByteArray) : s.data.toList.length = s.size := by simp

theorem rd_get (l : List S43) (i : Nat) (h : i < l.length) : rd_T43 l (i : Int) = l[i] := by unfold rd_T43; simp [h]
/-- Is a row long? -/
def longL (l : List S43) : Bool := decide (100 < l.length) || l.any fun v => decide (1000 < v.f2.size)
theorem long_ev (l : List S43) (h1 : l.length ≤ 100) : ∀ (d i : Nat), i + d = l.length → Ev (fun k => interlocklaw05_long.l0 k l i) ((l.drop i).any fun v => decide (1000 < v.f2.size)) := by
  intro d
  induction d with
  | zero =>
    intro i hi
    refine Ev.step (f := fun k => some false) (fun k => by simp only [interlocklaw05_long.l0]; rw [if_neg (by omega)]) (Ev.some_ fun _ => ?_)
    rw [List.drop_eq_nil_iff.2 (by omega)]
    rfl
  | succ d ih =>
    intro i hi
    rw [List.drop_eq_getElem_cons (by omega : i < l.length), List.any_cons]
    have e := rd_get l i (by omega)
    by_cases hb : 1000 < (l[i]).f2.size
    · refine Ev.step (f := fun k => some true) (fun k => by simp only [interlocklaw05_long.l0]; rw [if_pos (by omega), if_pos (by omega), e, if_pos (by omega)]) (Ev.some_ fun _ => by simp [hb])
    · refine Ev.step (fun k => ?_) (Ev.to (ih (i + 1) (by omega)) (by simp [hb]))
      simp only [interlocklaw05_long.l0]
      rw [if_pos (by omega), if_pos (by omega), e, if_neg (by omega), wrap_succ i (by omega)]
theorem long_f (l : List S43) : Ev (fun k => interlocklaw05_long.f k l) (longL l) := by
  unfold interlocklaw05_long.f longL
  by_cases h : 100 < l.length
  · simp only [if_pos (show (l.length : Int) > 100 by omega)]
    exact Ev.some_ fun _ => by simp [h]
  · simp only [if_neg (show ¬ (l.length : Int) > 100 by omega)]
    exact Ev.to (long_ev l (by omega) l.length 0 (by omega)) (by simp [h])
theorem alive_f : interlocklaw05_alive.f = some true := by
  unfold interlocklaw05_alive.f key_Encode.f
  decide +kernel
end Go.Proofs.YtjcgbppicdccdaaDoor.Q
end
section
/- Plain law: KeyOrder: one row is below the other just if its key is. -/
namespace Go.Proofs.YtjcgbppicdccdaaDoor.Q
open Go.RowKit Go.Proofs.YtjcgbppicdccdaaDoorW.PrintWords Go.Proofs.YtjcgbppicdccdaaDoorW.PrintLast Go.Proofs.YtjcgbppicdccdaaDoorW.PrintMore
set_option linter.unusedVariables false

/-- What comes in: numbers in their range. -/
def wfRow (l : List S43) : Prop := ∀ v ∈ l, wfS v
theorem not_long {l : List S43} (h : longL l = false) : l.length ≤ 100 ∧ ∀ v ∈ l, v.f2.size ≤ 1000 := by
  unfold longL at h
  rw [Bool.or_eq_false_iff] at h
  refine ⟨?_, fun v hv => ?_⟩
  · have := of_decide_eq_false h.1
    omega
  · have := List.any_eq_false.1 h.2 v hv
    simp at this
    omega

end Go.Proofs.YtjcgbppicdccdaaDoor.Q
end
section
/- What Go functions compute, as Lean functions, and that the machine's call comes to just that; no conditions beyond each theorem's own. (Written by pp.py of this repo, over the kit's print.py.) -/
namespace Go.Proofs.YtjcgbppicdccdaaDoor.Q
open Go.RowKit Go.Proofs.YtjcgbppicdccdaaDoorW.PrintWords Go.Proofs.YtjcgbppicdccdaaDoorW.PrintLast Go.Proofs.YtjcgbppicdccdaaDoorW.PrintMore
attribute [local go_sem] max2_int min2_int max_two min_two max_three min_three max_four min_four   -- for this text's walks alone
set_option linter.unusedVariables false
set_option linter.unusedSimpArgs false

/-- What is read of a value of type t in memory (the claim's own reading), as the print's words tell it. -/
def Rd {α : Type} (P : Program) (d : Kd α) (t : TypeId) (wf : α → Prop) : Prop :=
  ∀ {H : Type} (enc : TypeId × Value → H) (w : World) (base : Nat) (spare : Nat → Bool) (held : Bool) (fuel : Nat) (cs : List Value) (x : DataW H × List MemPlace),
    DataW.trod enc P w base spare held fuel t cs = some x → ∃ a, d.K w a cs ∧ wf a
theorem Rd.int {P : Program} {t : TypeId} {k : IntKind} (ht : P.underlying t = some (.int k)) : Rd P (Kd.int k) t (fun n => (Lit.int k n).wf = true) := by
  intro H enc w base spare held fuel cs x h
  obtain ⟨n, rfl, _, hw⟩ := DataW.trod_int ht h
  exact ⟨n, rfl, hw⟩
theorem Rd.bool {P : Program} {t : TypeId} (ht : P.underlying t = some .bool) : Rd P Kd.bool t (fun _ => True) := by
  intro H enc w base spare held fuel cs x h
  obtain ⟨n, rfl, _⟩ := DataW.trod_bool ht h
  exact ⟨n, rfl, trivial⟩
theorem Rd.string {P : Program} {t : TypeId} (ht : P.underlying t = some .string) : Rd P Kd.string t (fun s => s.size ≤ maxLen) := by
  intro H enc w base spare held fuel cs x h
  obtain ⟨n, rfl, _, hs⟩ := DataW.trod_string ht h
  exact ⟨n, rfl, hs⟩
theorem Rd.slice {α : Type} {P : Program} {d : Kd α} {t e : TypeId} {wf : α → Prop} (ht : P.underlying t = some (.slice e)) (hc : P.cellsOf e = d.sz) (hd : Rd P d e wf) :
    Rd P (Kd.slice e d) t (fun l => l.length ≤ maxLen ∧ ∀ a ∈ l, wf a) := by
  intro H enc w base spare held fuel cs x h
  rcases Go.Deep.open_slice ht h with ⟨rfl, _⟩ | ⟨a, len, cap, m, n, D, Pl, rfl, _, hl, hm, hmm, _, hi⟩
  · exact ⟨[], ⟨none, 0, rfl, Nat.le_refl _, rfl, Nat.zero_le _, fun h => absurd h (Nat.lt_irrefl _)⟩, Nat.zero_le _, fun _ h => by cases h⟩
  · have hlm : len ≤ m := by rw [hmm]; split <;> omega
    have hex : ∀ i, i < len → ∃ v, wf v ∧ ∃ c, c.length = d.sz ∧ d.K w v c ∧ ∀ j u, c[j]? = some u → w.cell? (a.add (i * d.sz + j)) = some u := by
      intro i hilt
      obtain ⟨cs', hcs, ht'⟩ := hi i (by omega)
      obtain ⟨v, hK, hw⟩ := hd enc w base spare held n cs' _ ht'
      rw [hc] at hcs
      obtain ⟨_, hlen, hat⟩ := World.cells?_some hcs
      refine ⟨v, hw, cs', hlen, hK, fun j u hj => ?_⟩
      have hjl : j < d.sz := by rw [← hlen]; exact (List.getElem?_eq_some_iff.1 hj).1
      have := hat j hjl
      rw [Go.Deep.add_add] at this
      rw [this, hj]
    have hex' : ∀ i : Fin len, ∃ v, wf v ∧ ∃ c, c.length = d.sz ∧ d.K w v c ∧ ∀ j u, c[j]? = some u → w.cell? (a.add (i.val * d.sz + j)) = some u := fun i => hex i.val i.isLt
    have hch : ∃ g : Fin len → α, ∀ i : Fin len, wf (g i) ∧ ∃ c, c.length = d.sz ∧ d.K w (g i) c ∧ ∀ j u, c[j]? = some u → w.cell? (a.add (i.val * d.sz + j)) = some u := ⟨fun i => Classical.choose (hex' i), fun i => Classical.choose_spec (hex' i)⟩
    obtain ⟨g, hg⟩ := hch
    have hlen : (List.ofFn g).length = len := List.length_ofFn
    refine ⟨List.ofFn g, ⟨some a, cap, by rw [hlen], by rw [hlen]; exact hl, rfl, by rw [hlen]; simp only [maxLen] at hm; omega, fun _ => ⟨a, rfl, fun j p hp => ?_⟩⟩, by rw [hlen]; omega, fun v hv => ?_⟩
    · obtain ⟨hj, he⟩ := List.getElem?_eq_some_iff.1 hp
      rw [List.getElem_ofFn] at he
      subst he
      exact (hg ⟨j, by omega⟩).2
    · obtain ⟨i, rfl⟩ := List.mem_ofFn.1 hv
      exact (hg i).1
/-- A slice that came in. -/
theorem Rd.arg_slice {α : Type} {P : Program} {d : Kd α} {t e : TypeId} {wf : α → Prop} (hd : Rd P (Kd.slice e d) t (fun l => l.length ≤ maxLen ∧ ∀ a ∈ l, wf a)) {H : Type} {enc : TypeId × Value → H} {w : World} {base : Nat} {spare : Nat → Bool} {held : Bool} {A : Option Addr} {n c : Nat} {x : DataW H} {p : List MemPlace}
    (h : DataW.Trod enc P w base spare held t (.slice A n c) x p) : ∃ l : List α, l.length = n ∧ d.C w A l.length l ∧ l.length ≤ c ∧ l.length ≤ maxLen ∧ ∀ a ∈ l, wf a := by
  obtain ⟨fuel, hf⟩ := h
  obtain ⟨l, ⟨A', c', he, hl, hC⟩, hm, hw⟩ := hd enc w base spare held fuel _ _ hf
  have he' : [Value.slice A n c] = [.slice A' l.length c'] := he
  injection he' with he' _
  injection he' with h1 h2 h3
  subst h1; subst h3
  exact ⟨l, h2.symm, hC, hl, hm, hw⟩
theorem some_of_len {α : Type} {xs : List α} {n j : Nat} (h : xs.length = n) (hj : j < n) : ∃ y, xs[j]? = some y := ⟨_, List.getElem?_eq_getElem (by omega)⟩

def wf43 (v : S43) : Prop := (fun n => (Lit.int .i64 n).wf = true) v.f0 ∧ (fun n => (Lit.int .i64 n).wf = true) v.f1 ∧ (fun s => s.size ≤ maxLen) v.f2
theorem rd43 : Rd Tryd.prog k43 43 wf43 := by
  intro H enc w base spare held fuel cs x h
  obtain ⟨xs, n, _, _, hlen, hl, hf⟩ := DataW.trod_struct Tryd.underlying43 h
  rw [show Tryd.prog.cellsOf 43 = 3 by kernel_rfl] at hlen
  obtain ⟨c0, c1, c2, rfl⟩ : ∃ c0 c1 c2, cs = [c0, c1, c2] := by
    match cs, hlen with
    | [c0, c1, c2], _ => exact ⟨c0, c1, c2, rfl⟩
  obtain ⟨y0, hy0⟩ := some_of_len hl (j := 0) (by decide)
  have g0 : DataW.trod enc Tryd.prog w base spare held n 3 ((([c0, c1, c2] : List Value).drop 0).take (Tryd.prog.cellsOf 3)) = some y0 := (hf 0 _ rfl).trans hy0
  rw [show Tryd.prog.cellsOf 3 = 1 by kernel_rfl] at g0
  obtain ⟨a0, K0, w0⟩ := (Rd.int Tryd.underlying3) enc w base spare held n _ _ g0
  obtain ⟨y1, hy1⟩ := some_of_len hl (j := 1) (by decide)
  have g1 : DataW.trod enc Tryd.prog w base spare held n 3 ((([c0, c1, c2] : List Value).drop 1).take (Tryd.prog.cellsOf 3)) = some y1 := (hf 1 _ rfl).trans hy1
  rw [show Tryd.prog.cellsOf 3 = 1 by kernel_rfl] at g1
  obtain ⟨a1, K1, w1⟩ := (Rd.int Tryd.underlying3) enc w base spare held n _ _ g1
  obtain ⟨y2, hy2⟩ := some_of_len hl (j := 2) (by decide)
  have g2 : DataW.trod enc Tryd.prog w base spare held n 9 ((([c0, c1, c2] : List Value).drop 2).take (Tryd.prog.cellsOf 9)) = some y2 := (hf 2 _ rfl).trans hy2
  rw [show Tryd.prog.cellsOf 9 = 1 by kernel_rfl] at g2
  obtain ⟨a2, K2, w2⟩ := (Rd.string Tryd.underlying9) enc w base spare held n _ _ g2
  exact ⟨⟨a0, a1, a2⟩, ⟨[c0], [c1, c2], rfl, K0, ⟨[c1], [c2], rfl, K1, K2⟩⟩, ⟨w0, w1, w2⟩⟩
end Go.Proofs.YtjcgbppicdccdaaDoor.Q
end
section
/- Plain law: the laws' pure statements in the row's own form. -/
namespace Go.Proofs.YtjcgbppicdccdaaDoor.Q
open Go.RowKit
theorem wf_range {n : Int} (h : (Lit.int .i64 n).wf = true) : -9223372036854775808 ≤ n ∧ n ≤ 9223372036854775807 := by
  simp [Lit.wf, IntKind.min, IntKind.max, IntKind.bits, IntKind.signed] at h
  omega
end Go.Proofs.YtjcgbppicdccdaaDoor.Q
end
section
/- What Go functions compute, as Lean functions, and that the machine's call comes to just that; no conditions beyond each theorem's own. (Written by pp.py of this repo, over the kit's print.py.) -/
namespace Go.Proofs.YtjcgbppicdccdaaDoor.Q
open Go.RowKit Go.Proofs.YtjcgbppicdccdaaDoorW.PrintWords Go.Proofs.YtjcgbppicdccdaaDoorW.PrintLast Go.Proofs.YtjcgbppicdccdaaDoorW.PrintMore
attribute [local go_sem] max2_int min2_int max_two min_two max_three min_three max_four min_four   -- for this text's walks alone
set_option linter.unusedVariables false
set_option linter.unusedSimpArgs false

/-! ### interlockref00_CopyRow: function 14 -/
def interlockref00_CopyRow.f (l0 : List (S43)) : Option ((List (S43))) := (some (([] : List (S43)) : List (S43))).bind fun y139 => (if y139.length + l0.length < 4398046511104 then (some (y139 ++ l0)) else (none))
set_option maxHeartbeats 8000000 in
set_option maxRecDepth 100000 in
theorem interlockref00_CopyRow.calls (A0 : Option Addr) (c0 : Nat) (l0 : List (S43)) (r : List (S43)) (w : World) (hr0 : Kd.C k43 w A0 l0.length l0) (hc0 : l0.length ≤ c0) (h : interlockref00_CopyRow.f l0 = some r) :
    Calls Tryd.prog 14 #[.slice A0 l0.length c0] w fun e w' => ∃ v0_ : Value, e = .returned (v0_) ∧ Kd.R k43 43 w' w.heap.size (fun _ => True) v0_ r ∧ Below w.heap.size w w' := by
  have HR0 := Aside0.mk hr0
  have HC0 := Aside0.mk hc0
  clear hr0 hc0
  have HB := Aside0.mk (Below.refl w.heap.size w)
  have H : ((some (([] : List (S43)) : List (S43))).bind fun y139 => (if y139.length + l0.length < 4398046511104 then (some (y139 ++ l0)) else (none))) = some r := h
  clear h
  obtain ⟨y139, hy139⟩ : ∃ y_ : List (S43), y_ = (([] : List (S43))) := ⟨_, rfl⟩
  replace H : (if y139.length + l0.length < 4398046511104 then (some (y139 ++ l0)) else (none)) = some r := by first | (rw [hy139]; with_reducible exact H) | (have H2_ := (Option.bind_some _ _).symm.trans H; rw [hy139]; with_reducible exact H2_) | (have H2_ := (Option.bind_some _ _).symm.trans H; with_reducible exact H2_) | with_reducible exact H | (rw [hy139]; exact H) | exact H
  have Ny139 := Aside0.mk hy139
  clear hy139
  by_cases c2 : y139.length + l0.length < 4398046511104
  · rw [if_pos c2] at H
    have LMc2 := Aside0.mk c2
    clear c2
    obtain ⟨y142, hy142⟩ : ∃ y_ : List (S43), y_ = (y139 ++ l0) := ⟨_, rfl⟩
    replace H : (some y142) = some r := by first | (rw [hy142]; with_reducible exact H) | (have H2_ := (Option.bind_some _ _).symm.trans H; rw [hy142]; with_reducible exact H2_) | (have H2_ := (Option.bind_some _ _).symm.trans H; with_reducible exact H2_) | with_reducible exact H | (rw [hy142]; exact H) | exact H
    have Ny142 := Aside0.mk hy142
    clear hy142
    obtain rfl := Option.some.inj H
    go_enter Tryd.func14, Tryd.ntmps14
    go_wp2_with (first | ((with_reducible refine gate_dst (N := 4) rfl ?_); refine Kd.R_lit k43 _ 43 ?hg (N := 4) ?hd (xs := ([] : List (S43))) (inner := []) (ok := fun _ => True) (okp := fun _ => True) ?hr ?hp (fun _ hk => hk) trivial (Below.refl _ _) (Nat.le_refl _) (by simp) ?_; (case hd => rfl); (case hg => rfl); (case hr => first | (go_simp; done) | (go_simp; rfl)); (case hp => exact (Reps.none _ _)); intro v140 w3 ho4 hb hg_ hnew_; clear hg_ hnew_; (first | rw [← Ny139.out] at ho4 | (simp only [Int.reduceToNat] at ho4; rw [← Ny139.out] at ho4)); have n0_ := Aside0.mk (Kd.R_lower ho4 (below_size (by repeat (first | (with_reducible first | exact HB.out | apply below_alloc | apply pw_below_drewN | apply below_drew1) | exact HB.out)))); have n1_ := Aside0.mk (below_step (by repeat (first | (with_reducible first | exact HB.out | apply below_alloc | apply pw_below_drewN | apply below_drew1) | exact HB.out)) hb); clear HB; have HO141 := n0_; have HB := n1_; clear n0_ n1_; clear hb ho4) | ((with_reducible refine gate_builtin (b := .append) (xs := #[.tmp 5, .tmp 6]) rfl ?_); at_builtin; refine Kd.R_append_rows k43 (w0 := w) w.heap.size rfl (.tmp 5) (.tmp 6) 23 43 (.agg #[(.int .i64 0), (.int .i64 0), (.string ⟨#[]⟩)]) 32 rfl Tryd.underlying23 info43 rfl (by decide) (by omega) v140 y139 l0 _ _ _ (fun _ => True) (fun _ => False) rfl rfl ?aO ?aR (fun _ _ h => h) (fun _ h => h.elim) ?aF ?aB ?aS ?aL ?_; (case aR => repeat (first | exact (Kd.C_below HR0.out HB.out) | (with_reducible refine Kd.C_alloc ?_ _) | (with_reducible refine Kd.C_drewN ?_ _) | (with_reducible refine Kd.C_drew ?_))); (case aB => exact (by repeat (first | (with_reducible first | exact HB.out | apply below_alloc | apply pw_below_drewN | apply below_drew1) | exact HB.out))); (case aF => exact (fun _ _ => trivial)); (case aO => exact (by (with_reducible repeat (first | apply Kd.R_alloc | apply Kd.R_drewN | apply Kd.R_drew)); exact HO141.out)); (case aS => exact (below_size (by repeat (first | (with_reducible first | exact HB.out | apply below_alloc | apply pw_below_drewN | apply below_drew1) | exact HB.out)))); (case aL => have := LMc2.out; omega); intro v143 w5 ho hb hg hat; rw [← Ny142.out] at ho; have n0_ := Aside0.mk (hb); have n1_ := Aside0.mk (ho); clear HB; clear HO141; have HB := n0_; have HO144 := n1_; clear n0_ n1_; clear ho hb hg hat))
    go_ret
    exact ⟨_, by first | rfl | (simp [errW_none, errW_some] <;> rfl) | (simp [*, errW_none, errW_some] <;> rfl), by (with_reducible repeat (first | apply Kd.R_alloc | apply Kd.R_drewN | apply Kd.R_drew)); exact HO144.out, by repeat (first | (with_reducible first | exact HB.out | apply below_alloc | apply pw_below_drewN | apply below_drew1) | exact HB.out)⟩
  · rw [if_neg c2] at H
    exact absurd H (by simp)

end Go.Proofs.YtjcgbppicdccdaaDoor.Q
end
section
/- Plain laws: KeyJoins and KeyNext: the key of two rows together is their keys together; what is next is above all that begin so. -/
namespace Go.Proofs.YtjcgbppicdccdaaDoor.Q
open Go.RowKit Go.Proofs.YtjcgbppicdccdaaDoorW.PrintWords Go.Proofs.YtjcgbppicdccdaaDoorW.PrintLast Go.Proofs.YtjcgbppicdccdaaDoorW.PrintMore
set_option linter.unusedVariables false

theorem encL_app (a b : List S43) : encL (a ++ b) = encL a ++ encL b := by simp [encL]
theorem right_app (a b : List S43) : rightRow (a ++ b) = (decide (a.length + b.length ≤ 8) && (a.all rightV && b.all rightV)) := by simp [rightRow]
theorem copy_f (l : List S43) (h : l.length ≤ 100) : interlockref00_CopyRow.f l = some l := by
  unfold interlockref00_CopyRow.f
  simp
  omega
theorem rightRow_all {a : List S43} (h : rightRow a = true) : a.length ≤ 8 ∧ a.all rightV = true := by
  unfold rightRow at h
  rw [Bool.and_eq_true] at h
  exact ⟨of_decide_eq_true h.1, h.2⟩
theorem rightRow_of {a : List S43} (h1 : a.length ≤ 8) (h2 : a.all rightV = true) : rightRow a = true := by
  unfold rightRow
  rw [h2, decide_eq_true h1]
  rfl
end Go.Proofs.YtjcgbppicdccdaaDoor.Q
end
section
/- strings.Repeat (function 47), at one byte 0. -/
namespace Go.Proofs.YtjcgbppicdccdaaDoor.Q
open Go.RowKit Go.Proofs.YtjcgbppicdccdaaDoorW.PrintWords Go.Proofs.YtjcgbppicdccdaaDoorW.PrintLast Go.Proofs.YtjcgbppicdccdaaDoorW.PrintMore
set_option linter.unusedVariables false
set_option linter.unusedSimpArgs false

def strings_Repeat.f (a0 : ByteArray) (a1 : Int) : Option (ByteArray) := if a0 = ⟨#[0]⟩ ∧ 0 ≤ a1 ∧ a1 ≤ 1000000 then some ⟨(List.replicate a1.toNat (0 : UInt8)).toArray⟩ else none
theorem repeat_zero : ∀ n, Lib.repeatL [0] n = List.replicate n (0 : UInt8)
  | 0 => rfl
  | n + 1 => by rw [Lib.repeatL, repeat_zero n, List.replicate_succ]; rfl
theorem strings_Repeat.calls (a0 : ByteArray) (a1 : Int) (r : ByteArray) (w : World) (h : strings_Repeat.f a0 a1 = some r) :
    Calls Tryd.prog 47 #[.string a0, .int .i64 a1] w fun e w' => e = .returned (.string r) ∧ Below w.heap.size w w' := by
  unfold strings_Repeat.f at h
  split at h
  · rename_i hc
    obtain ⟨rfl, h0, h1⟩ := hc
    obtain rfl := Option.some.inj h
    obtain ⟨n, rfl⟩ := Int.eq_ofNat_of_zero_le h0
    have hs : (⟨#[0]⟩ : ByteArray).size = 1 := rfl
    refine (Tryd.strings_Repeat ⟨#[0]⟩ n w (by omega) (by rw [hs]; omega)).mono ?_
    rintro e w' ⟨rfl, hb⟩
    exact ⟨by rw [Int.toNat_natCast, ← repeat_zero], hb⟩
  · cases h
end Go.Proofs.YtjcgbppicdccdaaDoor.Q
end
section
/- What Go functions compute, as Lean functions, and that the machine's call comes to just that; no conditions beyond each theorem's own. (Written by pp.py of this repo, over the kit's print.py.) -/
namespace Go.Proofs.YtjcgbppicdccdaaDoor.Q
open Go.RowKit Go.Proofs.YtjcgbppicdccdaaDoorW.PrintWords Go.Proofs.YtjcgbppicdccdaaDoorW.PrintLast Go.Proofs.YtjcgbppicdccdaaDoorW.PrintMore
attribute [local go_sem] max2_int min2_int max_two min_two max_three min_three max_four min_four   -- for this text's walks alone
set_option linter.unusedVariables false
set_option linter.unusedSimpArgs false

/-- A state of type 59 at block g of W; what its slices lead to came in by w0. -/
def IsS59 (w0 W : World) (g : Nat) (f0 : ByteArray) (f1 : Bool) : Prop := W.heap[g]? = some (.cells #[.string f0, .bool f1] 59 (0, 0)) ∧ w0.heap.size ≤ g
theorem IsS59.grown {w0 W : World} {g : Nat} {f0 : ByteArray} {f1 : Bool} {W1 : World} {row : Option Nat} (h : IsS59 w0 W g f0 f1) (hw : W.grownBy W1 row) (hne : some g ≠ row) : IsS59 w0 W1 g f0 f1 := by
  obtain ⟨hb, hg⟩ := h
  exact ⟨blk_grown hb hw hne, hg⟩
theorem IsS59.own_neN {w0 W : World} {g : Nat} {f0 : ByteArray} {f1 : Bool} {α : Type} {d : Kd α} {e : Nat} {base : Nat} {ok : Nat → Prop} {v : Value} {xs : List α} (h : IsS59 w0 W g f0 f1) (ho : Kd.N d e W base ok v xs) (ht : e ≠ 59) : some g ≠ v.ownBlock := by
  obtain ⟨hb, hg⟩ := h
  exact Kd.N_ne ho hb ht
theorem IsS59.fresh {w0 W : World} {g : Nat} {f0 : ByteArray} {f1 : Bool} (h : IsS59 w0 W g f0 f1) : ∀ k, W.heap.size ≤ k → k ≠ g := by
  obtain ⟨hb, hg⟩ := h
  exact Kd.freshB hb
theorem IsS59.kept {w0 W : World} {g : Nat} {f0 : ByteArray} {f1 : Bool} {W1 : World} {S : Nat → Prop} (h : IsS59 w0 W g f0 f1) (hk : Kept W W1 S) (hne : ¬ S g) : IsS59 w0 W1 g f0 f1 := by
  obtain ⟨hb, hg⟩ := h
  exact ⟨blk_kept hb hk hne, hg⟩
theorem IsS59.below {w0 W : World} {g : Nat} {f0 : ByteArray} {f1 : Bool} {W1 : World} (h : IsS59 w0 W g f0 f1) (hw : Below W.heap.size W W1) : IsS59 w0 W1 g f0 f1 := h.grown (grown_of_below hw none) (by simp)
theorem IsS59.alloc {w0 W : World} {g : Nat} {f0 : ByteArray} {f1 : Bool} (h : IsS59 w0 W g f0 f1) (o : Obj) : IsS59 w0 (W.alloc o) g f0 f1 := h.below (below_alloc (Below.refl _ _) o)
theorem IsS59.drewN {w0 W : World} {g : Nat} {f0 : ByteArray} {f1 : Bool} (h : IsS59 w0 W g f0 f1) (m : Nat) : IsS59 w0 (W.drewN m) g f0 f1 := h
theorem IsS59.drew {w0 W : World} {g : Nat} {f0 : ByteArray} {f1 : Bool} (h : IsS59 w0 W g f0 f1) : IsS59 w0 W.drew g f0 f1 := h
theorem IsS59.at_ {w0 W : World} {g : Nat} {f0 : ByteArray} {f1 : Bool} {w' : World} {m : Nat} (hq : W.drewN m = w') (h : IsS59 w0 W g f0 f1) : IsS59 w0 w' g f0 f1 := by subst hq; exact IsS59.drewN h m
theorem IsS59.apart {w0 W : World} {g : Nat} {f0 : ByteArray} {f1 : Bool} {α : Type} {d : Kd α} {e : Nat} {base : Nat} {ok : Nat → Prop} {v : Value} {xs : List α} (h : IsS59 w0 W g f0 f1) (ho : d.R e W base ok v xs) (ht : ∀ q, q ∈ e :: d.E → q ≠ 59) : d.R e W base (fun k => ok k ∧ k ≠ g) v xs := by
  obtain ⟨hb, hg⟩ := h
  exact Kd.R_types ho hb ht
theorem IsS59.own_ne {w0 W : World} {g : Nat} {f0 : ByteArray} {f1 : Bool} {α : Type} {d : Kd α} {e : Nat} {base : Nat} {ok : Nat → Prop} {v : Value} {xs : List α} (h : IsS59 w0 W g f0 f1) (ho : d.R e W base ok v xs) (ht : e ≠ 59) : some g ≠ v.ownBlock := by
  obtain ⟨hb, hg⟩ := h
  exact Kd.R_ne ho hb ht
theorem IsS59.apartQ {w0 W : World} {g : Nat} {f0 : ByteArray} {f1 : Bool} {α : Type} {d : Kd α} {e : Nat} {base : Nat} {ok : Nat → Prop} {v : Value} {xs : List α} (h : IsS59 w0 W g f0 f1) (ho : d.Q e W base ok v xs) (ht : ∀ q, q ∈ e :: d.E → q ≠ 59) : d.Q e W base (fun k => ok k ∧ k ≠ g) v xs := by
  obtain ⟨hb, hg⟩ := h
  exact Kd.Q_types ho hb ht
theorem IsS59.own_neQ {w0 W : World} {g : Nat} {f0 : ByteArray} {f1 : Bool} {α : Type} {d : Kd α} {e : Nat} {base : Nat} {ok : Nat → Prop} {v : Value} {xs : List α} (h : IsS59 w0 W g f0 f1) (ho : d.Q e W base ok v xs) (ht : e ≠ 59) : some g ≠ v.ownBlock := by
  obtain ⟨hb, hg⟩ := h
  exact Kd.Q_ne ho hb ht
theorem IsS59.apartS {w0 W : World} {g : Nat} {f0 : ByteArray} {f1 : Bool} {α : Type} {d : Kd α} {e : Nat} {base : Nat} {ok : Nat → Prop} {v : Value} {xs : List α} (h : IsS59 w0 W g f0 f1) (ho : d.S e W base ok v xs) (ht : ∀ q, q ∈ e :: d.E → q ≠ 59) : d.S e W base (fun k => ok k ∧ k ≠ g) v xs := by
  obtain ⟨hb, hg⟩ := h
  exact Kd.S_types ho hb ht
theorem IsS59.own_neS {w0 W : World} {g : Nat} {f0 : ByteArray} {f1 : Bool} {α : Type} {d : Kd α} {e : Nat} {base : Nat} {ok : Nat → Prop} {v : Value} {xs : List α} (h : IsS59 w0 W g f0 f1) (ho : d.S e W base ok v xs) (ht : e ≠ 59) : some g ≠ v.ownBlock := by
  obtain ⟨hb, hg⟩ := h
  exact Kd.S_ne ho hb ht
theorem IsS59.lt {w0 W : World} {g : Nat} {f0 : ByteArray} {f1 : Bool} (h : IsS59 w0 W g f0 f1) : g < W.heap.size := by
  obtain ⟨hb, hg⟩ := h
  exact blk_lt hb
theorem IsS59.ge {w0 W : World} {g : Nat} {f0 : ByteArray} {f1 : Bool} (h : IsS59 w0 W g f0 f1) : w0.heap.size ≤ g := by
  obtain ⟨hb, hg⟩ := h
  exact hg
theorem IsS59.ne_blk {w0 W : World} {g : Nat} {f0 : ByteArray} {f1 : Bool} {a : Nat} {cs : Array Value} {t : TypeId} {fr : Nat × Nat} (h : IsS59 w0 W g f0 f1) (hb2 : W.heap[a]? = some (.cells cs t fr)) (ht : t ≠ 59) : g ≠ a := by
  obtain ⟨hb, hg⟩ := h
  rintro rfl
  rw [hb] at hb2
  injection hb2 with hb2
  injection hb2 with _ ht2
  exact ht ht2.symm
theorem IsS59.far {w0 W : World} {g : Nat} {f0 : ByteArray} {f1 : Bool} {p : Addr} (h : IsS59 w0 W g f0 f1) (hne : g ≠ p.block) (u : Value) : IsS59 w0 (W.setCell p u) g f0 f1 := by
  obtain ⟨hb, hg⟩ := h
  exact ⟨blk_far hb hne u, hg⟩
theorem cellS59_0 {W : World} {g : Nat} {f0 : ByteArray} {f1 : Bool} (h : W.heap[g]? = some (.cells #[.string f0, .bool f1] 59 (0, 0))) : W.cell? ⟨g, 0, none⟩ = some (.string f0) := (blk_cell h 0).trans rfl
theorem IsS59.set_0 {w0 W : World} {g : Nat} {f0 : ByteArray} {f1 : Bool} (h : IsS59 w0 W g f0 f1) (x : ByteArray) : IsS59 w0 (W.setCell ⟨g, 0, none⟩ (.string x)) g x f1 := by
  obtain ⟨hb, hg⟩ := h
  exact ⟨by simpa using blk_set hb 0 (.string x), hg⟩
theorem cellS59_1 {W : World} {g : Nat} {f0 : ByteArray} {f1 : Bool} (h : W.heap[g]? = some (.cells #[.string f0, .bool f1] 59 (0, 0))) : W.cell? ⟨g, 1, none⟩ = some (.bool f1) := (blk_cell h 1).trans rfl
theorem IsS59.set_1 {w0 W : World} {g : Nat} {f0 : ByteArray} {f1 : Bool} (h : IsS59 w0 W g f0 f1) (x : Bool) : IsS59 w0 (W.setCell ⟨g, 1, none⟩ (.bool x)) g f0 x := by
  obtain ⟨hb, hg⟩ := h
  exact ⟨by simpa using blk_set hb 1 (.bool x), hg⟩
theorem IsS59.new (w0 W : World) (f0 : ByteArray) (f1 : Bool) (hB : Below w0.heap.size w0 W) : IsS59 w0 (W.alloc (.cells #[.string f0, .bool f1] 59)) W.heap.size f0 f1 := ⟨by simpa using heap_alloc_new W _, hB.size⟩

/-! ### key_reader_take: function 41 -/
def key_reader_take.f (s0_0 : ByteArray) (s0_1 : Bool) (a1 : Int) : Option (ByteArray × ByteArray × Bool) := if (s0_0.size : Int) < a1 then ((strings_Repeat.f (⟨#[0]⟩ : ByteArray) a1).bind fun t182 => (some (t182, (⟨#[]⟩ : ByteArray), true))) else (if 0 ≤ a1 then (if a1 ≤ (s0_0.size : Int) then (some (s0_0.extract 0 (a1 : Int).toNat, s0_0.extract (a1 : Int).toNat s0_0.size, s0_1)) else (none)) else (none))
set_option maxHeartbeats 8000000 in
set_option maxRecDepth 100000 in
theorem key_reader_take.calls (g : Nat) (s0_0 : ByteArray) (s0_1 : Bool) (a1 : Int) (r1 : ByteArray) (r2 : ByteArray) (r3 : Bool) (w0 w : World) (hI : IsS59 w0 w g s0_0 s0_1) (hB : Below w0.heap.size w0 w) (h : key_reader_take.f s0_0 s0_1 a1 = some (r1, r2, r3)) :
    Calls Tryd.prog 41 #[.pointer (some ⟨g, 0, none⟩), .int .i64 a1] w fun e w' => e = .returned (.string r1) ∧ IsS59 w0 w' g r2 r3 ∧ Below w0.heap.size w0 w' ∧ KeepBut w w' g none := by
  have HI0 := Aside0.mk hI
  have HK := Aside0.mk (KeepBut.refl w g none)
  have HL := Aside0.mk hB.size
  clear hI
  have HW0 := Aside0.mk hB.size
  have HB := Aside0.mk hB
  clear hB
  have H : (if (s0_0.size : Int) < a1 then ((strings_Repeat.f (⟨#[0]⟩ : ByteArray) a1).bind fun t182 => (some (t182, (⟨#[]⟩ : ByteArray), true))) else (if 0 ≤ a1 then (if a1 ≤ (s0_0.size : Int) then (some (s0_0.extract 0 (a1 : Int).toNat, s0_0.extract (a1 : Int).toNat s0_0.size, s0_1)) else (none)) else (none))) = some (r1, r2, r3) := h
  clear h
  by_cases c3 : (s0_0.size : Int) < a1
  · rw [if_pos c3] at H
    have c3b0 : decide ((s0_0.size : Int) < a1) = true := decide_eq_true c3
    clear c3
    replace H := Option.bind_eq_some_iff.mp H
    obtain ⟨t182, A40, H⟩ := H
    replace H : (some (t182, (⟨#[]⟩ : ByteArray), true)) = some (r1, r2, r3) := H
    have A4 := Aside0.mk A40
    clear A40
    simp only [Option.some.injEq, Prod.mk.injEq] at H
    obtain ⟨rfl, rfl, rfl⟩ := H
    obtain ⟨HGz5, hgz5⟩ := HI0.out
    have hcz5_0 := cellS59_0 HGz5
    have hcz5_1 := cellS59_1 HGz5
    have hfz5_0 := blk_frozen HGz5 0
    have hfz5_1 := blk_frozen HGz5 1
    clear HGz5 hgz5
    go_enter Tryd.func41, Tryd.ntmps41
    go_wp2_with (first | ((with_reducible refine gate_callee (f := 47) rfl ?_); refine goesL_ (some 20) rfl rfl Tryd.func47 (by kernel_rfl) rfl #[.string (⟨#[0]⟩ : ByteArray), .int .i64 a1] rfl (by (try simp only [List.map_toArray, List.map_cons, List.map_nil]); first | done | rfl | (simp only [List.length_drop, List.length_take]; rfl)) ?_; (with_reducible refine (strings_Repeat.calls (⟨#[0]⟩ : ByteArray) a1 t182 _ A4.out).mono ?_); rintro e w6 ⟨rfl, hb⟩; refine ⟨_, rfl, ?_⟩; have n0_ := Aside0.mk (IsS59.below (show IsS59 w0 ((w.setCell ⟨g, 0, none⟩ (.string (⟨#[]⟩ : ByteArray))).setCell ⟨g, 1, none⟩ (.bool true)) g (⟨#[]⟩ : ByteArray) true from by repeat (first | (with_reducible first | exact HI0.out | apply IsS59.alloc | apply IsS59.drewN | apply IsS59.drew | apply IsS59.set_0 | apply IsS59.set_1) | exact HI0.out)) hb); have n1_ := Aside0.mk (KeepBut.trans (by repeat (first | (with_reducible first | exact HK.out | apply KeepBut.set_ | apply keep_drewN | apply keep_drew | apply keep_alloc) | exact HK.out)) (KeepBut.of_below hb g none) (.inl rfl)); have n2_ := Aside0.mk (below_step (by repeat (first | (with_reducible first | exact HB.out | apply below_alloc | apply pw_below_drewN | apply below_drew1 | refine below_set ?_ (IsS59.ge HI0.out)) | exact HB.out)) hb); clear HI0; clear HK; clear HB; have HI0 := n0_; have HK := n1_; have HB := n2_; clear n0_ n1_ n2_; (try clear hb); (try clear hb2); (try clear hk); (try clear hi)))
    go_ret
    exact ⟨by first | rfl | (simp [errW_none, errW_some] <;> rfl) | (simp [*, errW_none, errW_some] <;> rfl), by repeat (first | (with_reducible first | exact HI0.out | apply IsS59.alloc | apply IsS59.drewN | apply IsS59.drew | apply IsS59.set_0 | apply IsS59.set_1) | exact HI0.out), by repeat (first | (with_reducible first | exact HB.out | apply below_alloc | apply pw_below_drewN | apply below_drew1 | refine below_set ?_ (IsS59.ge HI0.out)) | exact HB.out), by repeat (first | (with_reducible first | exact HK.out | apply KeepBut.set_ | apply keep_drewN | apply keep_drew | apply keep_alloc) | exact HK.out)⟩
  · rw [if_neg c3] at H
    have c3b0 : decide ((s0_0.size : Int) < a1) = false := decide_eq_false c3
    clear c3
    by_cases c7 : 0 ≤ a1
    · rw [if_pos c7] at H
      have c7b0 := eq_true c7
      have c7b1 : decide (0 ≤ a1) = true := decide_eq_true c7
      clear c7
      by_cases c8 : a1 ≤ (s0_0.size : Int)
      · rw [if_pos c8] at H
        have c8b0 := eq_true c8
        have c8b1 : decide (a1 ≤ (s0_0.size : Int)) = true := decide_eq_true c8
        clear c8
        have c9b0 := eq_true (of_decide_eq_true (by first | (with_reducible assumption) | assumption) : 0 ≤ a1)
        have c10b0 := eq_true (of_decide_eq_true (by first | (with_reducible assumption) | assumption) : a1 ≤ (s0_0.size : Int))
        simp only [Option.some.injEq, Prod.mk.injEq] at H
        obtain ⟨rfl, rfl, rfl⟩ := H
        obtain ⟨HGz11, hgz11⟩ := HI0.out
        have hcz11_0 := cellS59_0 HGz11
        have hcz11_1 := cellS59_1 HGz11
        have hfz11_0 := blk_frozen HGz11 0
        have hfz11_1 := blk_frozen HGz11 1
        clear HGz11 hgz11
        go_enter Tryd.func41, Tryd.ntmps41
        go_wp2
        go_ret
        exact ⟨by first | rfl | (simp [errW_none, errW_some] <;> rfl) | (simp [*, errW_none, errW_some] <;> rfl), by repeat (first | (with_reducible first | exact HI0.out | apply IsS59.alloc | apply IsS59.drewN | apply IsS59.drew | apply IsS59.set_0 | apply IsS59.set_1) | exact HI0.out), by repeat (first | (with_reducible first | exact HB.out | apply below_alloc | apply pw_below_drewN | apply below_drew1 | refine below_set ?_ (IsS59.ge HI0.out)) | exact HB.out), by repeat (first | (with_reducible first | exact HK.out | apply KeepBut.set_ | apply keep_drewN | apply keep_drew | apply keep_alloc) | exact HK.out)⟩
      · rw [if_neg c8] at H
        exact absurd H (by simp)
    · rw [if_neg c7] at H
      exact absurd H (by simp)

end Go.Proofs.YtjcgbppicdccdaaDoor.Q
end
section
/- (*reader).num (function 42): the next eight bytes as a number. -/
namespace Go.Proofs.YtjcgbppicdccdaaDoor.Q
open Go.RowKit Go.Proofs.YtjcgbppicdccdaaDoorW.PrintWords Go.Proofs.YtjcgbppicdccdaaDoorW.PrintLast Go.Proofs.YtjcgbppicdccdaaDoorW.PrintMore
set_option linter.unusedVariables false
set_option linter.unusedSimpArgs false

def foldB : List UInt8 → Int → Int
  | [], u => u
  | c :: l, u => foldB l (Go.bits .or .u64 (IntKind.u64.wrap (u * 256)) (IntKind.u64.wrap (c.toNat : Int)))
def numOf (s : ByteArray) : Int := wrap64 (Go.bits .xor .u64 (foldB s.data.toList 0) 9223372036854775808)
def key_reader_num.f (s0_0 : ByteArray) (s0_1 : Bool) : Option (Int × ByteArray × Bool) := (key_reader_take.f s0_0 s0_1 8).bind fun t => if t.1.size ≤ 1000 then some (numOf t.1, t.2.1, t.2.2) else none

theorem bytes_below (w : World) (s : ByteArray) : Below w.heap.size w (Lib.bytesWorld w 5 s) :=
  ⟨rfl, rfl, rfl, by rw [Lib.bytesWorld_size]; omega, fun k hk => Lib.bytesWorld_at_old w 5 s k hk⟩
set_option maxHeartbeats 1000000 in
theorem key_reader_num.calls (g : Nat) (s0_0 : ByteArray) (s0_1 : Bool) (r1 : Int) (r2 : ByteArray) (r3 : Bool) (w0 w : World) (hI : IsS59 w0 w g s0_0 s0_1) (hB : Below w0.heap.size w0 w) (h : key_reader_num.f s0_0 s0_1 = some (r1, r2, r3)) :
    Calls Tryd.prog 42 #[.pointer (some ⟨g, 0, none⟩)] w fun e w' => e = .returned (.int .i64 r1) ∧ IsS59 w0 w' g r2 r3 ∧ Below w0.heap.size w0 w' ∧ KeepBut w w' g none := by
  unfold key_reader_num.f at h
  obtain ⟨⟨s, b2, b3⟩, ht, h⟩ := Option.bind_eq_some_iff.mp h
  by_cases hsz : s.size ≤ 1000
  · simp only [if_pos hsz, Option.some.injEq, Prod.mk.injEq] at h
    obtain ⟨rfl, rfl, rfl⟩ := h
    have HT := Aside0.mk ht
    have HI := Aside0.mk hI
    have HB := Aside0.mk hB
    clear ht hI hB
    have hconv : ∀ W, (convert 9 45 (.string s)).run Tryd.prog W = .ok (.slice (some ⟨W.heap.size, 0, none⟩) s.size (grownCap W s.size 0 5)) (Lib.bytesWorld W 5 s) := fun W => Lib.run_convert_string_bytes W 9 45 5 s Tryd.underlying9 Tryd.underlying45 Tryd.underlying5
    go_enter Tryd.func42, Tryd.ntmps42
    go_wp2_with (go_at_call 41; refine (key_reader_take.calls _ _ _ _ _ _ _ _ _ HI.out HB.out HT.out).mono ?_; rintro e w1 ⟨rfl, hi, hb, hk⟩; have HI1 := Aside0.mk hi; have HB1 := Aside0.mk hb; have HK1 := Aside0.mk hk; clear hi hb hk)
    have HBW := Aside0.mk (bytes_below w1 s)
    go_loopg [3, 10] s.size (fun gq v3 v10 wx => ∃ (i : Nat) (u : Int), v10 = .int .i64 i ∧ v3 = .int .u64 u ∧ i + gq = s.size ∧ Aside0 (foldB (s.data.toList.drop i) u = foldB s.data.toList 0) ∧ Aside0 (wx = Lib.bytesWorld w1 5 s))
    case atStart => exact ⟨0, 0, rfl, rfl, by omega, ⟨rfl⟩, ⟨rfl⟩⟩
    case round =>
      obtain ⟨i, u, rfl, rfl, hi, HF, HW⟩ := hrel
      have hwr := HW.out
      clear HW
      subst hwr
      cases gk with
      | zero =>
        have h0 : ¬ (i : Int) < (s.size : Int) := by omega
        have HF' := Aside0.mk (show u = foldB s.data.toList 0 by
          rw [← HF.out, List.drop_eq_nil_iff.2 (by rw [show s.data.toList.length = s.size by simp]; omega)]
          rfl)
        clear HF
        go_wp2
        go_ret
        exact ⟨by rw [HF'.out]; rfl, HI1.out.below HBW.out, below_step HB1.out HBW.out, KeepBut.trans HK1.out (KeepBut.of_below HBW.out g none) (.inl rfl)⟩
      | succ gq =>
        have h0 : (i : Int) < (s.size : Int) := by omega
        have hin : i < s.size := by omega
        have hcell := Lib.bytesWorld_cell w1 5 s i hin
        have HF' := Aside0.mk (show foldB (s.data.toList.drop (i + 1)) (Go.bits .or .u64 (IntKind.u64.wrap (u * 256)) (IntKind.u64.wrap ((s.data[i]'hin).toNat : Int))) = foldB s.data.toList 0 by
          have hl : i < s.data.toList.length := by simpa using hin
          rw [← HF.out, List.drop_eq_getElem_cons hl, foldB]
          rfl)
        clear HF
        go_wp2
        go_roundg gq
        case measure => omega
        case rel => exact ⟨i + 1, _, by go_num, rfl, by omega, HF', ⟨rfl⟩⟩
  · simp [hsz] at h
end Go.Proofs.YtjcgbppicdccdaaDoor.Q
end
section
/- (*reader).text (function 43): the next text of a key. -/
namespace Go.Proofs.YtjcgbppicdccdaaDoor.Q
open Go.RowKit Go.Proofs.YtjcgbppicdccdaaDoorW.PrintWords Go.Proofs.YtjcgbppicdccdaaDoorW.PrintLast Go.Proofs.YtjcgbppicdccdaaDoorW.PrintMore
set_option linter.unusedVariables false
set_option linter.unusedSimpArgs false

/-- The text that bytes begin with (escaped, ended), what is left, was it bad; n: rounds. -/
def textGo : Nat → List UInt8 → List UInt8 → List UInt8 × List UInt8 × Bool
  | 0, rest, acc => ([], rest, true)
  | n + 1, rest, acc =>
    if Lib.indexByte rest 0 < 0 then ([], rest, true) else
    if (rest.drop (Lib.indexByte rest 0).toNat).length < 2 then ([], [], true) else
    if (rest.drop (Lib.indexByte rest 0).toNat).take 2 = [0, 1] then (acc ++ rest.take (Lib.indexByte rest 0).toNat, (rest.drop (Lib.indexByte rest 0).toNat).drop 2, false) else
    if (rest.drop (Lib.indexByte rest 0).toNat).take 2 = [0, 255] then textGo n ((rest.drop (Lib.indexByte rest 0).toNat).drop 2) (acc ++ rest.take (Lib.indexByte rest 0).toNat ++ [0]) else
    ([], (rest.drop (Lib.indexByte rest 0).toNat).drop 2, true)
def textOf (rest : List UInt8) : List UInt8 × List UInt8 × Bool := textGo (rest.length + 1) rest []
def bA (l : List UInt8) : ByteArray := ⟨l.toArray⟩
def key_reader_text.f (s0_0 : ByteArray) (s0_1 : Bool) : Option (ByteArray × ByteArray × Bool) :=
  if s0_1 = true then some (⟨#[]⟩, s0_0, true) else if s0_0.size ≤ 70368744177664 then some (bA (textOf s0_0.data.toList).1, bA (textOf s0_0.data.toList).2.1, (textOf s0_0.data.toList).2.2) else none

theorem bA_list (s : ByteArray) : bA s.data.toList = s := by simp [bA]
theorem list_bA (l : List UInt8) : (bA l).data.toList = l := by simp [bA]
theorem bA_size (l : List UInt8) : (bA l).size = l.length := by simp [bA, ByteArray.size]
theorem index_lt : ∀ (l : List UInt8), Lib.indexByte l 0 < l.length
  | [] => by simp [Lib.indexByte]
  | c :: l => by
    have := index_lt l
    have h2 := Lib.indexByte_ge l 0
    unfold Lib.indexByte
    simp only [List.length_cons]
    split
    · omega
    · split <;> omega
theorem builder_keep {B b g : Nat} {bs : List Value} {W W' : World} (h : Lib.IsBuilder 47 5 B b bs W) (hg : g < B) (hk : KeepBut W W' g none) : Lib.IsBuilder 47 5 B b bs W' := by
  have key : ∀ p, Lib.BuilderAt 47 5 B b p bs W → Lib.BuilderAt 47 5 B b p bs W' := by
    rintro p ⟨h1, v, h2, h3, h4⟩
    refine ⟨h1, v, hk.blk h2 (by omega) (by simp), hk.own h3 (fun e => ?_) ?_, h4⟩
    · have := own_base h3 g e
      omega
    · cases hv : v.ownBlock with
      | none => exact .inl rfl
      | some k => exact .inr (by simp)
  exact h.imp (key _) (key _)
theorem S59_below {B g : Nat} {w0 W W' : World} {f0 : ByteArray} {f1 : Bool} (h : IsS59 w0 W g f0 f1) (hb : Below B W W') (hg : g < B) : IsS59 w0 W' g f0 f1 := ⟨(hb.block g hg).trans h.1, h.2⟩
theorem keep_belowB {w W W' : World} {g : Nat} (hk : KeepBut w W g none) (hb : Below w.heap.size W W') : KeepBut w W' g none :=
  ⟨Nat.le_trans hk.1 hb.size, fun i hi h1 h2 => (hb.block i hi).trans (hk.2 i hi h1 h2)⟩
theorem below_belowB {w0 w W W' : World} (h : Below w0.heap.size w0 W) (hb : Below w.heap.size W W') (hw : w0.heap.size ≤ w.heap.size) : Below w0.heap.size w0 W' := h.trans (hb.mono hw)

def laysWB_ren : Go.Shelf.Ren := ⟨fun | 167 => 49 | 240 => 38 | 276 => 45 | n => n, fun | 37 => 45 | 70 => 44 | 72 => 47 | 75 => 49 | 80 => 53 | 164 => 72 | n => n, fun | n => n⟩
theorem laysWB : Go.Proofs.Lays.n167 Tryd.prog laysWB_ren := {
  mixed := by kernel_rfl
  f167 := Tryd.func49.trans (congrArg some (by kernel_rfl))
  f240 := Tryd.func38.trans (congrArg some (by kernel_rfl))
  f276 := Tryd.func45.trans (congrArg some (by kernel_rfl))
  t0 := Tryd.underlying0
  a0 := Tryd.isAgg0
  z0 := Tryd.sizeOf0
  v0 := Tryd.zeroValue0
  t4 := Tryd.underlying4
  a4 := Tryd.isAgg4
  z4 := Tryd.sizeOf4
  v4 := Tryd.zeroValue4
  t5 := Tryd.underlying5
  a5 := Tryd.isAgg5
  z5 := Tryd.sizeOf5
  v5 := Tryd.zeroValue5
  t9 := Tryd.underlying9
  a9 := Tryd.isAgg9
  z9 := Tryd.sizeOf9
  v9 := Tryd.zeroValue9
  t20 := Tryd.underlying20
  a20 := Tryd.isAgg20
  z20 := Tryd.sizeOf20
  v20 := Tryd.zeroValue20
  t37 := Tryd.underlying45
  a37 := Tryd.isAgg45
  z37 := Tryd.sizeOf45
  v37 := Tryd.zeroValue45
  t70 := Tryd.underlying44
  a70 := Tryd.isAgg44
  z70 := Tryd.sizeOf44
  v70 := Tryd.zeroValue44
  t72 := Tryd.underlying47
  a72 := Tryd.isAgg47
  z72 := Tryd.sizeOf47
  v72 := Tryd.zeroValue47
  t75 := Tryd.underlying49
  a75 := Tryd.isAgg49
  z75 := Tryd.sizeOf49
  v75 := Tryd.zeroValue49
  t164 := Tryd.underlying72
  a164 := Tryd.isAgg72
  z164 := Tryd.sizeOf72
  v164 := Tryd.zeroValue72 }
theorem extraWB : Builder.Extra Tryd.prog laysWB_ren := {
  sizeBuilder := by kernel_rfl
  liesBuilder := by kernel_rfl
  t5 := Tryd.underlying5
  a5 := Tryd.isAgg5
  z5 := Tryd.sizeOf5
  v5 := Tryd.zeroValue5
  infoByte := by kernel_rfl
  cellsByte := by kernel_rfl
  sizeByte := by kernel_rfl
  neB5 := by decide }
theorem writeByte (B b : Nat) (bs : List Value) (c : Int) (w : World) (h : Lib.IsBuilder 47 5 B b bs w) (hlen : bs.length + 1 ≤ 140737488355328) (hBw : B ≤ w.heap.size) :
    Calls Tryd.prog 49 #[.pointer (some ⟨b, 0, none⟩), .int .u8 c] w fun e w' => e = .returned .nilIface ∧ (Lib.BuilderAt 47 5 B b (.pointer (some ⟨b, 0, none⟩)) (bs ++ [.int .u8 c]) w' ∧ Below B w w') :=
  Any.Builder_WriteByte laysWB extraWB B b bs c w h hlen hBw

theorem take_le (s : ByteArray) (b : Bool) (n : Nat) (h : n ≤ s.size) : key_reader_take.f s b n = some (s.extract 0 n, s.extract n s.size, b) := by
  unfold key_reader_take.f
  rw [if_neg (by omega), if_pos (by omega), if_pos (by omega), Int.toNat_natCast]
theorem bA_take (l : List UInt8) (n : Nat) : (bA l).extract 0 n = bA (l.take n) := by
  apply ByteArray.ext
  simp [bA]
theorem bA_drop (l : List UInt8) (n : Nat) : (bA l).extract n (bA l).size = bA (l.drop n) := by
  apply ByteArray.ext
  simp [bA, ByteArray.size, List.take_of_length_le]

theorem take2_short (s : ByteArray) (b : Bool) (h : s.size < 2) : key_reader_take.f s b 2 = some (bA [0, 0], bA [], true) := by
  unfold key_reader_take.f strings_Repeat.f
  rw [if_pos (by omega), if_pos ⟨rfl, by decide, by decide⟩]
  rfl
/-- How a reader ends: what comes of it, at the loop's head. -/
def TextRel (w0 w : World) (g : Nat) (F : List UInt8 × List UInt8 × Bool) (gq : Nat) (wx : World) : Prop :=
  ∃ (rest acc : List UInt8) (bad : Bool), IsS59 w0 wx g (bA rest) bad ∧ Lib.IsBuilder 47 5 w.heap.size w.heap.size (Lib.byteCells acc) wx ∧ Below w0.heap.size w0 wx ∧ KeepBut w wx g none ∧
    ((bad = true ∧ F = ([], rest, true)) ∨ (bad = false ∧ acc.length + rest.length ≤ 70368744177664 ∧ rest.length < gq ∧ textGo gq rest acc = F))

set_option maxHeartbeats 4000000 in
set_option maxRecDepth 100000 in
theorem text_any (g : Nat) (s0 : ByteArray) (b0 : Bool) (F : List UInt8 × List UInt8 × Bool) (n : Nat) (w0 w : World) (hI : IsS59 w0 w g s0 b0) (hB : Below w0.heap.size w0 w) (hF : TextRel w0 w g F n (w.alloc (.cells #[.pointer none, .slice none 0 0] 47))) :
    Calls Tryd.prog 43 #[.pointer (some ⟨g, 0, none⟩)] w fun e w' => e = .returned (.string (bA F.1)) ∧ IsS59 w0 w' g (bA F.2.1) F.2.2 ∧ Below w0.heap.size w0 w' ∧ KeepBut w w' g none := by
  have hgw := hI.lt
  have hw0 : w0.heap.size ≤ w.heap.size := hB.size
  have hu59 := Tryd.underlying59
  have hu47 := Tryd.underlying47
  clear hI hB
  have HF := Aside0.mk hF
  clear hF
  go_enter Tryd.func43, Tryd.ntmps43
  go_wp2
  go_loopg [4] n (fun gq v4 wx => Aside0 (TextRel w0 w g F gq wx))
  case atStart => exact HF
  case round =>
    obtain ⟨rest, acc, bad, hS, hIB, hB0, hK, hcase⟩ := hrel.out
    clear hrel HF
    have hc0 := cellS59_0 hS.1
    have hc1 := cellS59_1 hS.1
    have hf0 := blk_frozen hS.1 0
    have hf1 := blk_frozen hS.1 1
    have HS := Aside0.mk hS
    have HIB := Aside0.mk hIB
    have HB0 := Aside0.mk hB0
    have HK := Aside0.mk hK
    have hwr : w.heap.size ≤ wr.heap.size := hK.1
    clear hS hIB hB0 hK
    rcases hcase with ⟨rfl, hF⟩ | ⟨rfl, hlen, hgq, hgo⟩
    · have HF := Aside0.mk hF
      clear hF
      go_wp2
      go_ret
      refine ⟨?_, ?_, HB0.out, HK.out⟩
      · rw [HF.out]; rfl
      · rw [HF.out]; exact HS.out
    · obtain ⟨gq, rfl⟩ : ∃ q, gk = q + 1 := ⟨gk - 1, by omega⟩
      have HGO := Aside0.mk hgo
      clear hgo
      have hix := index_lt rest
      by_cases hneg : Lib.indexByte rest 0 < 0
      · have HN := Aside0.mk (show F = ([], rest, true) by rw [← HGO.out, textGo, if_pos hneg])
        have hdec : decide (Lib.indexByte rest 0 < 0) = true := decide_eq_true hneg
        clear hneg hix
        go_wp2_with (go_at_call 48; refine (Tryd.strings_IndexByte (bA rest) 0 _).mono ?_; rintro e w' ⟨rfl, hw⟩; rw [hw, list_bA]; clear hw)
        go_ret
        refine ⟨?_, ?_, HB0.out.setCell HS.out.ge _, HK.out.set_ 1 _⟩
        · rw [HN.out]; rfl
        · rw [HN.out]; exact HS.out.set_1 true
      · obtain ⟨k, hk⟩ := Int.eq_ofNat_of_zero_le (show 0 ≤ Lib.indexByte rest 0 by omega)
        have hkl : k < rest.length := by omega
        have HKX := Aside0.mk hk
        have hdec : decide ((k : Int) < 0) = false := decide_eq_false (by omega)
        have HT := Aside0.mk (take_le (bA rest) false k (by rw [bA_size]; omega))
        rw [bA_take, bA_drop] at HT
        have hlk : (rest.drop k).length = rest.length - k := List.length_drop
        have htk : (rest.take k).length = k := by rw [List.length_take]; omega
        have HGO2 := Aside0.mk (show F = (if (rest.drop k).length < 2 then ([], [], true) else if (rest.drop k).take 2 = [0, 1] then (acc ++ rest.take k, (rest.drop k).drop 2, false) else if (rest.drop k).take 2 = [0, 255] then textGo gq ((rest.drop k).drop 2) (acc ++ rest.take k ++ [0]) else ([], (rest.drop k).drop 2, true)) by
          rw [← HGO.out, textGo, if_neg hneg, hk, Int.toNat_natCast])
        clear hneg hix hk
        go_wp2_with (first
          | (go_at_call 48; refine (Tryd.strings_IndexByte (bA rest) 0 _).mono ?_; rintro e w' ⟨rfl, hw⟩; rw [hw, list_bA, show (0 : Int).toNat.toUInt8 = 0 from rfl, HKX.out]; clear hw)
          | (go_at_call 41; refine (key_reader_take.calls _ _ _ _ _ _ _ _ _ HS.out HB0.out HT.out).mono ?_; rintro e w1 ⟨rfl, hs1, hb1, hk1⟩))
        have hg1 : w.heap.size ≤ w1.heap.size := Nat.le_trans hwr hk1.1
        have HIB1 := builder_keep HIB.out hgw hk1
        have HK1 := Aside0.mk (KeepBut.trans HK.out hk1 (.inl rfl))
        refine (writeString w.heap.size w.heap.size _ (bA (rest.take k)) w1 HIB1 (by rw [Lib.byteCells_length, bA_size, htk]; omega) hg1).mono ?_
        rintro e w2 ⟨rfl, h2, hb2⟩
        rw [Lib.strCells_eq, list_bA, ← Lib.byteCells_append] at h2
        have HIB2 := Aside0.mk (Or.inr h2 : Lib.IsBuilder 47 5 w.heap.size w.heap.size _ w2)
        have HS2 := Aside0.mk (S59_below hs1 hb2 hgw)
        have HB2 := Aside0.mk (below_belowB hb1 hb2 hw0)
        have HK2 := Aside0.mk (keep_belowB HK1.out hb2)
        clear h2 hb2 hs1 hb1 hk1 HIB1 HK1
        by_cases h2 : (rest.drop k).length < 2
        · have HT2 := Aside0.mk (take2_short (bA (rest.drop k)) false (by rw [bA_size]; exact h2))
          have HN := Aside0.mk (show F = ([], [], true) by rw [HGO2.out, if_pos h2])
          have q1 : ((bA [0, 0]).toList == [0, 1]) = false := by rw [Lib.toList_data, list_bA]; decide
          have q2 : ((bA [0, 0]).toList == [0, 255]) = false := by rw [Lib.toList_data, list_bA]; decide
          clear h2 hlk htk
          go_wp2_with (first
            | (go_at_call 41; refine (key_reader_take.calls _ _ _ _ _ _ _ _ _ HS2.out HB2.out HT2.out).mono ?_; rintro e w3 ⟨rfl, hs3, hb3, hk3⟩; have hc31 := cellS59_1 hs3.1; have hf31 := blk_frozen hs3.1 1; have HS3 := Aside0.mk hs3; have HB3 := Aside0.mk hb3; have HK3 := Aside0.mk hk3; clear hs3 hb3 hk3))
          go_roundg gq
          case measure => omega
          case rel =>
            refine ⟨[], acc ++ rest.take k, true, HS3.out.set_1 true, ?_, HB3.out.setCell HS3.out.ge _, (KeepBut.trans HK2.out HK3.out (.inl rfl)).set_ 1 _, .inl ⟨rfl, HN.out⟩⟩
            exact builder_keep (builder_keep HIB2.out hgw HK3.out) hgw ((KeepBut.refl _ g none).set_ 1 _)
        · have h2' : 2 ≤ (rest.drop k).length := by omega
          obtain ⟨E, hE⟩ : ∃ E, (rest.drop k).take 2 = E := ⟨_, rfl⟩
          obtain ⟨R, hR⟩ : ∃ R, (rest.drop k).drop 2 = R := ⟨_, rfl⟩
          have hRl : R.length + 2 + k = rest.length := by rw [← hR, List.length_drop, hlk]; omega
          have ht2 := take_le (bA (rest.drop k)) false 2 (by rw [bA_size]; exact h2')
          rw [bA_take, bA_drop, hE, hR] at ht2
          have HT2 := Aside0.mk ht2
          have hgo2 := HGO2.out
          rw [if_neg h2, hE, hR] at hgo2
          clear ht2 h2 HGO2 hlk
          by_cases he1 : E = [0, 1]
          · have HN := Aside0.mk (show F = (acc ++ rest.take k, R, false) by rw [hgo2, if_pos he1])
            have q1 : ((bA E).toList == [0, 1]) = true := by rw [he1, Lib.toList_data, list_bA]; decide
            clear hgo2 he1 hE hR
            go_wp2_with (first
              | (go_at_call 41; refine (key_reader_take.calls _ _ _ _ _ _ _ _ _ HS2.out HB2.out HT2.out).mono ?_; rintro e w3 ⟨rfl, hs3, hb3, hk3⟩; have HS3 := Aside0.mk hs3; have HB3 := Aside0.mk hb3; have HK3 := Aside0.mk hk3; clear hs3 hb3 hk3))
            have HIB3 := Aside0.mk (builder_keep HIB2.out hgw HK3.out)
            have HK4 := Aside0.mk (KeepBut.trans HK2.out HK3.out (.inl rfl))
            refine (Tryd.Builder_String_any w.heap.size w.heap.size _ w3 HIB3.out HK4.out.1).mono ?_
            rintro e w5 ⟨rfl, hb5⟩
            have Hb5 := Aside0.mk hb5
            clear hb5
            go_wp2
            go_ret
            refine ⟨?_, ?_, below_belowB HB3.out Hb5.out hw0, keep_belowB HK4.out Hb5.out⟩
            · rw [HN.out]; rfl
            · rw [HN.out]; exact S59_below HS3.out Hb5.out hgw
          · have q1 : ((bA E).toList == [0, 1]) = false := by
              rw [Bool.eq_false_iff]; intro h; exact he1 (by rw [Lib.toList_data, list_bA] at h; simpa using h)
            by_cases he2 : E = [0, 255]
            · have HN := Aside0.mk (show textGo gq R (acc ++ rest.take k ++ [0]) = F by rw [hgo2, if_neg he1, if_pos he2])
              have q2 : ((bA E).toList == [0, 255]) = true := by rw [he2, Lib.toList_data, list_bA]; decide
              clear hgo2 he1 he2 hE hR
              go_wp2_with (first
                | (go_at_call 41; refine (key_reader_take.calls _ _ _ _ _ _ _ _ _ HS2.out HB2.out HT2.out).mono ?_; rintro e w3 ⟨rfl, hs3, hb3, hk3⟩; have HS3 := Aside0.mk hs3; have HB3 := Aside0.mk hb3; have HK3 := Aside0.mk hk3; clear hs3 hb3 hk3))
              have HIB3 := Aside0.mk (builder_keep HIB2.out hgw HK3.out)
              have HK4 := Aside0.mk (KeepBut.trans HK2.out HK3.out (.inl rfl))
              refine (writeByte w.heap.size w.heap.size _ 0 w3 HIB3.out (by rw [Lib.byteCells_length, List.length_append, htk]; omega) HK4.out.1).mono ?_
              rintro e w5 ⟨rfl, h5, hb5⟩
              have h5' : Lib.BuilderAt 47 5 w.heap.size w.heap.size (.pointer (some ⟨w.heap.size, 0, none⟩)) (Lib.byteCells (acc ++ rest.take k ++ [0])) w5 := by
                rw [Lib.byteCells_append (acc ++ rest.take k) [0]]
                exact h5
              have HIB5 := Aside0.mk (Or.inr h5' : Lib.IsBuilder 47 5 w.heap.size w.heap.size _ w5)
              have Hb5 := Aside0.mk hb5
              clear h5 h5' hb5
              go_wp2
              go_roundg gq
              case measure => omega
              case rel => exact ⟨R, _, false, S59_below HS3.out Hb5.out hgw, HIB5.out, below_belowB HB3.out Hb5.out hw0, keep_belowB HK4.out Hb5.out, .inr ⟨rfl, by rw [List.length_append, List.length_append, htk, List.length_singleton]; omega, by omega, HN.out⟩⟩
            · have HN := Aside0.mk (show F = ([], R, true) by rw [hgo2, if_neg he1, if_neg he2])
              have q2 : ((bA E).toList == [0, 255]) = false := by
                rw [Bool.eq_false_iff]; intro h; exact he2 (by rw [Lib.toList_data, list_bA] at h; simpa using h)
              clear hgo2 he1 he2 hE hR
              go_wp2_with (first
                | (go_at_call 41; refine (key_reader_take.calls _ _ _ _ _ _ _ _ _ HS2.out HB2.out HT2.out).mono ?_; rintro e w3 ⟨rfl, hs3, hb3, hk3⟩; have hc31 := cellS59_1 hs3.1; have hf31 := blk_frozen hs3.1 1; have HS3 := Aside0.mk hs3; have HB3 := Aside0.mk hb3; have HK3 := Aside0.mk hk3; clear hs3 hb3 hk3))
              go_roundg gq
              case measure => omega
              case rel =>
                refine ⟨R, acc ++ rest.take k, true, HS3.out.set_1 true, ?_, HB3.out.setCell HS3.out.ge _, (KeepBut.trans HK2.out HK3.out (.inl rfl)).set_ 1 _, .inl ⟨rfl, HN.out⟩⟩
                exact builder_keep (builder_keep HIB2.out hgw HK3.out) hgw ((KeepBut.refl _ g none).set_ 1 _)

theorem key_reader_text.calls (g : Nat) (s0_0 : ByteArray) (s0_1 : Bool) (r1 : ByteArray) (r2 : ByteArray) (r3 : Bool) (w0 w : World) (hI : IsS59 w0 w g s0_0 s0_1) (hB : Below w0.heap.size w0 w) (h : key_reader_text.f s0_0 s0_1 = some (r1, r2, r3)) :
    Calls Tryd.prog 43 #[.pointer (some ⟨g, 0, none⟩)] w fun e w' => e = .returned (.string r1) ∧ IsS59 w0 w' g r2 r3 ∧ Below w0.heap.size w0 w' ∧ KeepBut w w' g none := by
  unfold key_reader_text.f at h
  have hal := below_alloc (Below.refl w.heap.size w) (.cells #[.pointer none, .slice none 0 0] 47)
  have hfr : Lib.IsBuilder 47 5 w.heap.size w.heap.size (Lib.byteCells []) (w.alloc (.cells #[.pointer none, .slice none 0 0] 47)) := Lib.fresh_isBuilder 47 5 w
  have hk : KeepBut w (w.alloc (.cells #[.pointer none, .slice none 0 0] 47)) g none := keep_alloc (KeepBut.refl w g none) _
  cases s0_1 with
  | true =>
    simp only [if_true, Option.some.injEq, Prod.mk.injEq] at h
    obtain ⟨rfl, rfl, rfl⟩ := h
    have := text_any g s0_0 true ([], s0_0.data.toList, true) 0 w0 w hI hB ⟨s0_0.data.toList, [], true, by rw [bA_list]; exact hI.alloc _, hfr, below_alloc hB _, hk, .inl ⟨rfl, rfl⟩⟩
    rw [bA_list] at this
    exact this
  | false =>
    simp only [Bool.false_eq_true, if_false] at h
    split at h
    · rename_i hsz
      simp only [Option.some.injEq, Prod.mk.injEq] at h
      obtain ⟨rfl, rfl, rfl⟩ := h
      refine text_any g s0_0 false (textOf s0_0.data.toList) (s0_0.data.toList.length + 1) w0 w hI hB ⟨s0_0.data.toList, [], false, by rw [bA_list]; exact hI.alloc _, hfr, below_alloc hB _, hk, .inr ⟨rfl, by simpa using hsz, by omega, rfl⟩⟩
    · cases h
end Go.Proofs.YtjcgbppicdccdaaDoor.Q
end
