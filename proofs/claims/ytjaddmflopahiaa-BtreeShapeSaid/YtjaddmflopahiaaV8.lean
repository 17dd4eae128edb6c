/- Packed by shake.py: YtjaddmflopahiaaE25 YtjaddmflopahiaaP15 YtjaddmflopahiaaQ14 YtjaddmflopahiaaP16 YtjaddmflopahiaaE26 YtjaddmflopahiaaH1 YtjaddmflopahiaaH2 -/
import Derived.Test.YtjaddmflopahiaaV7
section
namespace Go.Proofs.Bt
open Go Go.RowKit Go.Proofs.Ytjaddmflopahiaa.Q Go.Proofs.YtjaddmflopahiaaW.PrintWords Go.Proofs.YtjaddmflopahiaaW.PrintLast Go.Proofs.YtjaddmflopahiaaW.PrintMore
set_option linter.unusedVariables false
set_option linter.unusedSimpArgs false
set_option maxRecDepth 100000
end Go.Proofs.Bt
end
section
namespace Go.Proofs.Bt
open Go Go.RowKit Go.Proofs.Ytjaddmflopahiaa.Q
set_option linter.unusedVariables false
set_option linter.unusedSimpArgs false
theorem sins_le (l : List S29) (e : S29) : (sins l e).length ≤ l.length + 1 := by
  unfold sins
  split
  · omega
  · rw [insAt_len _ _ _ (low_le l e)]
    omega
theorem sdel_le (l : List S29) (e : S29) : (sdel l e).length ≤ l.length := by
  unfold sdel
  split
  · rename_i h
    rw [delAt_len _ _ (found_lt h)]
    omega
  · omega
end Go.Proofs.Bt
end
section
namespace Go.Proofs.Ytjaddmflopahiaa.Q
open Go.RowKit Go.Proofs.YtjaddmflopahiaaW.PrintWords Go.Proofs.YtjaddmflopahiaaW.PrintLast Go.Proofs.YtjaddmflopahiaaW.PrintMore
attribute [local go_sem] max2_int min2_int max_two min_two max_three min_three max_four min_four
set_option linter.unusedVariables false
set_option linter.unusedSimpArgs false
def interlocklaw08_great.l0 : Nat → List (S41) → Int → Option (Bool)
  | 0, _, _ => none
  | k + 1, x0, x3 => if x3 < (x0.length : Int) then (if 0 ≤ x3 then (if (((rd_T41 x0 x3).f2.f0).size : Int) > 500 then (some true) else (if (((rd_T41 x0 x3).f3).size : Int) > 500 then (some true) else (interlocklaw08_great.l0 k x0 (wrap64 (x3 + 1))))) else (none)) else (some false)
def interlocklaw08_great.f (k : Nat) (l0 : List (S41)) : Option (Bool) := if (l0.length : Int) > 300 then (some true) else (interlocklaw08_great.l0 k l0 0)
theorem interlocklaw08_great.mono_l : ∀ k, (∀ y0 y1, LeO (interlocklaw08_great.l0 k y0 y1) (interlocklaw08_great.l0 (k + 1) y0 y1))
  | 0 => fun _ _ r h => by simp [interlocklaw08_great.l0] at h
  | k + 1 => by
    have ih0 := interlocklaw08_great.mono_l k
    · intro y0 y1
      unfold interlocklaw08_great.l0
      repeat' first
      | (with_reducible exact ih0 _ _)
      | (with_reducible exact LeO.refl _)
      | (with_reducible exact LeO.none _)
      | (with_reducible refine LeO.ite ?_ ?_)
      | (with_reducible refine LeO.bind ?_ (fun _ => ?_))
      | exact ih0 _ _
      | exact LeO.none _
      | refine LeO.ite ?_ ?_
      | refine LeO.bind ?_ (fun _ => ?_)
theorem interlocklaw08_great.mono : ∀ a0 k, LeO (interlocklaw08_great.f k a0) (interlocklaw08_great.f (k + 1) a0) := by
  intro a0 k
  have ih0 := interlocklaw08_great.mono_l k
  unfold interlocklaw08_great.f
  repeat' first
      | (with_reducible exact ih0 _ _)
      | (with_reducible exact LeO.refl _)
      | (with_reducible exact LeO.none _)
      | (with_reducible refine LeO.ite ?_ ?_)
      | (with_reducible refine LeO.bind ?_ (fun _ => ?_))
      | exact ih0 _ _
      | exact LeO.none _
      | refine LeO.ite ?_ ?_
      | refine LeO.bind ?_ (fun _ => ?_)
set_option maxHeartbeats 8000000 in
set_option maxRecDepth 100000 in
theorem interlocklaw08_great.calls (k : Nat) (A0 : Option Addr) (c0 : Nat) (l0 : List (S41)) (r : Bool) (w : World) (hr0 : Kd.C k41 w A0 l0.length l0) (hc0 : l0.length ≤ c0) (h : interlocklaw08_great.f k l0 = some r) :
    Calls Try.prog 14 #[.slice A0 l0.length c0] w fun e w' => e = .returned (.bool r) ∧ Drawn0 w w' := by
  have HR0 := Aside0.mk hr0
  have HC0 := Aside0.mk hc0
  clear hr0 hc0
  have H : (if (l0.length : Int) > 300 then (some true) else (interlocklaw08_great.l0 k l0 0)) = some r := h
  clear h
  by_cases c2 : (l0.length : Int) > 300
  · rw [if_pos c2] at H
    have c2b0 : decide (300 < (l0.length : Int)) = true := decide_eq_true c2
    have c2b1 : decide (300 < l0.length) = true := decide_eq_true (by omega)
    clear c2
    obtain rfl := Option.some.inj H
    go_enter Try.func14, Try.ntmps14
    go_wp2
    go_ret
    exact ⟨by first | rfl | (simp; done) | (simp [*]; done), by repeat (first | exact Drawn0.refl _ | apply Drawn0.step)⟩
  · rw [if_neg c2] at H
    have c2b0 : decide (300 < (l0.length : Int)) = false := decide_eq_false c2
    have c2b1 : decide (300 < l0.length) = false := decide_eq_false (by omega)
    clear c2
    have H' := Aside0.mk H
    clear H
    go_enter Try.func14, Try.ntmps14
    go_wp2
    go_loopg [3] k (fun kq v3 w' => ∃ (x3_1 : Int), v3 = .int .i64 x3_1 ∧ Aside0 (interlocklaw08_great.l0 kq l0 x3_1 = some r) ∧ Aside0 (kq ≤ k) ∧ Drawn0 w w')
    case atStart => exact ⟨(0), (by first | rfl | (simp; done) | (simp [*]; done)), H', ⟨Nat.le_refl _⟩, by repeat (first | exact Drawn0.refl _ | apply Drawn0.step)⟩
    case round =>
      clear H'
      try clear c1
      try clear c2
      try clear c2b0
      try clear c2b1
      try clear p2
      obtain ⟨x3_1, rfl, HA, HK1, ⟨m1, rfl⟩⟩ := hrel
      cases gk with
      | zero => exact absurd HA.out (by simp [interlocklaw08_great.l0])
      | succ k1 =>
        have H := HA.out
        clear HA
        simp only [interlocklaw08_great.l0] at H
        by_cases c3 : x3_1 < (l0.length : Int)
        · rw [if_pos c3] at H
          have c3b0 : decide (x3_1 < (l0.length : Int)) = true := decide_eq_true c3
          clear c3
          by_cases c4 : 0 ≤ x3_1
          · rw [if_pos c4] at H
            have c4b0 : decide (0 ≤ x3_1) = true := decide_eq_true c4
            clear c4
            by_cases c5 : (((rd_T41 l0 x3_1).f2.f0).size : Int) > 500
            · rw [if_pos c5] at H
              have c5b0 : decide (500 < (((rd_T41 l0 x3_1).f2.f0).size : Int)) = true := decide_eq_true c5
              have c5b1 : decide (500 < ((rd_T41 l0 x3_1).f2.f0).size) = true := decide_eq_true (by omega)
              clear c5
              obtain rfl := Option.some.inj H
              have p129 : 0 ≤ (x3_1 : Int) := of_decide_eq_true (by first | (with_reducible assumption) | assumption)
              have q129 : x3_1 < (l0.length : Int) := of_decide_eq_true (by first | (with_reducible assumption) | assumption)
              obtain ⟨ad129, e129, hx129_0, hx129_1, hx129_2, hx129_3, hx129_4, hx129_5⟩ := at_T41 HR0.out x3_1 p129 q129
              cases e129
              replace p129 := eq_true p129
              replace q129 := eq_true q129
              go_wp2
              go_ret
              exact ⟨by first | rfl | (simp; done) | (simp [*]; done), by repeat (first | exact Drawn0.refl _ | apply Drawn0.step)⟩
            · rw [if_neg c5] at H
              have c5b0 : decide (500 < (((rd_T41 l0 x3_1).f2.f0).size : Int)) = false := decide_eq_false c5
              have c5b1 : decide (500 < ((rd_T41 l0 x3_1).f2.f0).size) = false := decide_eq_false (by omega)
              clear c5
              by_cases c6 : (((rd_T41 l0 x3_1).f3).size : Int) > 500
              · rw [if_pos c6] at H
                have c6b0 : decide (500 < (((rd_T41 l0 x3_1).f3).size : Int)) = true := decide_eq_true c6
                have c6b1 : decide (500 < ((rd_T41 l0 x3_1).f3).size) = true := decide_eq_true (by omega)
                clear c6
                obtain rfl := Option.some.inj H
                have p129 : 0 ≤ (x3_1 : Int) := of_decide_eq_true (by first | (with_reducible assumption) | assumption)
                have q129 : x3_1 < (l0.length : Int) := of_decide_eq_true (by first | (with_reducible assumption) | assumption)
                obtain ⟨ad129, e129, hx129_0, hx129_1, hx129_2, hx129_3, hx129_4, hx129_5⟩ := at_T41 HR0.out x3_1 p129 q129
                cases e129
                replace p129 := eq_true p129
                replace q129 := eq_true q129
                have p130 : 0 ≤ (x3_1 : Int) := of_decide_eq_true (by first | (with_reducible assumption) | assumption)
                have q130 : x3_1 < (l0.length : Int) := of_decide_eq_true (by first | (with_reducible assumption) | assumption)
                obtain ⟨ad130, e130, hx130_0, hx130_1, hx130_2, hx130_3, hx130_4, hx130_5⟩ := at_T41 HR0.out x3_1 p130 q130
                obtain rfl : ad129 = ad130 := (by injection e130)
                replace p130 := eq_true p130
                replace q130 := eq_true q130
                go_wp2
                go_ret
                exact ⟨by first | rfl | (simp; done) | (simp [*]; done), by repeat (first | exact Drawn0.refl _ | apply Drawn0.step)⟩
              · rw [if_neg c6] at H
                have c6b0 : decide (500 < (((rd_T41 l0 x3_1).f3).size : Int)) = false := decide_eq_false c6
                have c6b1 : decide (500 < ((rd_T41 l0 x3_1).f3).size) = false := decide_eq_false (by omega)
                clear c6
                have H' := Aside0.mk H
                clear H
                have p129 : 0 ≤ (x3_1 : Int) := of_decide_eq_true (by first | (with_reducible assumption) | assumption)
                have q129 : x3_1 < (l0.length : Int) := of_decide_eq_true (by first | (with_reducible assumption) | assumption)
                obtain ⟨ad129, e129, hx129_0, hx129_1, hx129_2, hx129_3, hx129_4, hx129_5⟩ := at_T41 HR0.out x3_1 p129 q129
                cases e129
                replace p129 := eq_true p129
                replace q129 := eq_true q129
                have p130 : 0 ≤ (x3_1 : Int) := of_decide_eq_true (by first | (with_reducible assumption) | assumption)
                have q130 : x3_1 < (l0.length : Int) := of_decide_eq_true (by first | (with_reducible assumption) | assumption)
                obtain ⟨ad130, e130, hx130_0, hx130_1, hx130_2, hx130_3, hx130_4, hx130_5⟩ := at_T41 HR0.out x3_1 p130 q130
                obtain rfl : ad129 = ad130 := (by injection e130)
                replace p130 := eq_true p130
                replace q130 := eq_true q130
                go_wp2
                go_roundg k1
                case measure => have := HK1.out; omega
                case rel => exact ⟨(wrap64 (x3_1 + 1)), (by first | rfl | (simp; done) | (simp [*]; done)), H', ⟨by have := HK1.out; omega⟩, by repeat (first | exact Drawn0.refl _ | apply Drawn0.step)⟩
          · rw [if_neg c4] at H
            exact absurd H (by simp)
        · rw [if_neg c3] at H
          have c3b0 : decide (x3_1 < (l0.length : Int)) = false := decide_eq_false c3
          clear c3
          obtain rfl := Option.some.inj H
          go_wp2
          go_ret
          exact ⟨by first | rfl | (simp; done) | (simp [*]; done), by repeat (first | exact Drawn0.refl _ | apply Drawn0.step)⟩
end Go.Proofs.Ytjaddmflopahiaa.Q
end
section
namespace Go.Proofs.Bt
open Go Go.RowKit Go.Proofs.Ytjaddmflopahiaa.Q Go.Proofs.YtjaddmflopahiaaW.PrintWords
set_option linter.unusedVariables false
set_option linter.unusedSimpArgs false
abbrev S41 := Go.Proofs.Ytjaddmflopahiaa.Q.S41
def bigC (x : S41) : Bool := decide (500 < x.f2.f0.size ∨ 500 < x.f3.size)
def greatB (l : List S41) : Bool := decide (300 < l.length) || l.any bigC
theorem great_l0 (l : List S41) (hn : l.length ≤ 300) : ∀ (k i : Nat), i ≤ l.length → l.length < i + k → interlocklaw08_great.l0 k l (i : Int) = some ((l.drop i).any bigC)
  | 0, i, h1, h2 => by omega
  | k + 1, i, h1, h2 => by
    unfold interlocklaw08_great.l0
    by_cases h : i < l.length
    · obtain ⟨x, hx⟩ : ∃ x, l[i]? = some x := ⟨_, List.getElem?_eq_getElem h⟩
      have hrx : rd_T41 l (i : Int) = x := by simp [rd_T41, List.getD_eq_getElem?_getD, hx]
      have hd : l.drop i = x :: l.drop (i + 1) := by
        rw [List.drop_eq_getElem_cons h]
        congr 1
        rw [List.getElem?_eq_getElem h] at hx
        exact Option.some.inj hx
      rw [if_pos (by omega), if_pos (by omega), hrx, hd, List.any_cons]
      by_cases h3 : 500 < x.f2.f0.size
      · rw [if_pos (by omega)]
        have : bigC x = true := decide_eq_true (.inl h3)
        rw [this, Bool.true_or]
      · rw [if_neg (by omega)]
        by_cases h4 : 500 < x.f3.size
        · rw [if_pos (by omega)]
          have : bigC x = true := decide_eq_true (.inr h4)
          rw [this, Bool.true_or]
        · rw [if_neg (by omega)]
          have : bigC x = false := decide_eq_false (by omega)
          rw [this, Bool.false_or, show wrap64 ((i : Int) + 1) = ((i + 1 : Nat) : Int) by rw [IntWalk.wrap64_in _ (by omega)]; omega]
          exact great_l0 l hn k (i + 1) (by omega) (by omega)
    · rw [if_neg (by omega), List.drop_eq_nil_of_le (by omega)]
      rfl
theorem great_calls (w : World) (A : Option Addr) (n c : Nat) (l : List S41) (hn : l.length = n) (hC : Kd.C k41 w A n l) (hc : n ≤ c) : Calls Try.prog 14 #[.slice A n c] w fun E w' => E = .returned (.bool (greatB l)) ∧ Below w.heap.size w w' := by
  subst hn
  refine (interlocklaw08_great.calls (l.length + 1) A c l (greatB l) w hC hc ?_).mono fun E w' h => ⟨h.1, h.2.below⟩
  unfold interlocklaw08_great.f greatB
  by_cases h : 300 < l.length
  · rw [if_pos (by omega), decide_eq_true h, Bool.true_or]
  · rw [if_neg (by omega), decide_eq_false h, Bool.false_or]
    exact great_l0 l (by omega) _ 0 (by omega) (by omega)
theorem great_no {l : List S41} (h : greatB l = false) : l.length ≤ 300 ∧ ∀ x ∈ l, x.f2.f0.size ≤ 500 ∧ x.f3.size ≤ 500 := by
  unfold greatB at h
  rw [Bool.or_eq_false_iff, decide_eq_false_iff_not, List.any_eq_false] at h
  refine ⟨by omega, fun x hx => ?_⟩
  have := h.2 x hx
  unfold bigC at this
  rw [decide_eq_true_eq] at this
  omega
end Go.Proofs.Bt
end
section
namespace Go.Proofs.Bt
open Go Go.RowKit Go.Proofs.Ytjaddmflopahiaa.Q Go.Proofs.YtjaddmflopahiaaW.PrintWords Go.Proofs.YtjaddmflopahiaaW.PrintLast Go.Proofs.YtjaddmflopahiaaW.PrintMore
set_option linter.unusedVariables false
set_option linter.unusedSimpArgs false
set_option maxRecDepth 100000
section
variable {w0 W W' : World} {F : Nat → Prop} {tp rp : Nat} {T : ST} {cnt : Int} {R R' : List Chunk} {v : Value} {ks : List S29} {c : Chunk}
theorem TS.perm (s : TS w0 F W tp T cnt R) (h : R.Perm R') : TS w0 F W tp T cnt R' := s.upd fun X hX => hX.perm (h.append_right X)
theorem TS.box (s : TS w0 F W tp T cnt (refC rp v ks ++ R)) (C : Array Value) (ty : TypeId) {n : Nat} (hn : W.heap.size = n) : TS w0 F (W.alloc (.cells C ty)) tp T cnt (refC rp v ks ++ (blkC n (.cells C ty (0, 0)) :: R)) :=
  TS.perm (R := blkC n (.cells C ty (0, 0)) :: (refC rp v ks ++ R)) (s.upd fun X hX => (hX.alloc C ty hn).perm (List.perm_append_singleton _ _)) (List.perm_middle (a := blkC n (.cells C ty (0, 0))) (l₁ := refC rp v ks) (l₂ := R)).symm
end
end Go.Proofs.Bt
end
section
namespace Go.Proofs.Bt
open Go Go.RowKit Go.Proofs.Ytjaddmflopahiaa.Q Go.Proofs.YtjaddmflopahiaaW.PrintWords Go.Proofs.YtjaddmflopahiaaW.PrintLast Go.Proofs.YtjaddmflopahiaaW.PrintMore
set_option linter.unusedVariables false
set_option linter.unusedSimpArgs false
theorem no_ {P : Program} {ops : Array Oper} {Q : Exit → Act → World → Prop} {oi : Oper} {N : Option Tmp} {a : Act} {w : World} {K : Act → World → Prop} (hw : Region.wanted oi (yielded ops a.tmps) = false) (h : K (a.put N undef) w) :
    if Region.wanted oi (yielded ops a.tmps) = true then Oper.wp P oi a w K Q else K (a.put N undef) w := by
  rw [hw]
  exact h
def bs_ (n k : Nat) : Array Bool := ((List.range n).map fun i => k.testBit i).toArray
def Edge (W : World) (v : Value) (lo : List S29) : Prop := (v = .slice none 0 0 ∧ lo = []) ∨ ∃ g o c x, v = .slice (some ⟨g, o, none⟩) 1 c ∧ lo = [x] ∧ W.cell? ⟨g, o, none⟩ = some (.string x.f0) ∧ W.cell? ⟨g, o + 1, none⟩ = some (.int .i64 x.f1.f0) ∧ W.cell? ⟨g, o + 2, none⟩ = some (.int .i64 x.f1.f1)
theorem Edge.below {W W' : World} {v : Value} {lo : List S29} (h : Edge W v lo) (hb : Below W.heap.size W W') : Edge W' v lo :=
  h.imp id fun ⟨g, o, c, x, h1, h2, h3, h4, h5⟩ => ⟨g, o, c, x, h1, h2, pw_cell_below hb h3, pw_cell_below hb h4, pw_cell_below hb h5⟩
theorem Edge.nil (W : World) : Edge W (.slice none 0 0) [] := .inl ⟨rfl, rfl⟩
theorem Edge.part {W : World} {g n c c' i : Nat} {ks : List S29} {z : S29} (h : RowE W (.slice (some ⟨g, 0, none⟩) n c) ks) (hz : ks[i]? = some z) : Edge W (.slice (some ⟨g, i * 3, none⟩) 1 c') [z] := by
  obtain ⟨hi, rfl⟩ := List.getElem?_eq_some_iff.1 hz
  obtain ⟨d0, d1, d2⟩ := RowE.cells h i hi
  exact .inr ⟨g, i * 3, c', _, rfl, rfl, d0, d1, d2⟩
theorem part_of_row {W : World} {v : Value} {ks : List S29} (h : RowE W v ks) : PartE W v ks := by
  by_cases h0 : 0 < ks.length
  · obtain ⟨g, c, rfl, _⟩ := row_slice h h0
    exact .inr ⟨⟨g, 0, none⟩, c, rfl, row_cells h⟩
  · have hk : ks = [] := List.length_eq_zero_iff.1 (by omega)
    subst hk
    rcases h.2.2 with ⟨rfl, _⟩ | ⟨g, c, cur, rfl, _⟩
    · exact .inl ⟨rfl, rfl⟩
    · exact .inr ⟨_, c, rfl, fun j x hx => by simp [encEs] at hx⟩
theorem RowI.below {w w' : World} {v : Value} {l : List Int} (h : RowI w v l) (hb : Below w.heap.size w w') : RowI w' v l := Row.below h hb
theorem PgOk.below {w w' : World} {p : Pg} (h : PgOk w p) (hb : Below w.heap.size w w') : PgOk w' p := ⟨Row.below h.1 hb, Row.below h.2 hb⟩
def ShapePost (W : World) (res : List S29) (dq : Int) (E : Ending) (w' : World) : Prop := ∃ v, E = .returned (.tuple #[v, .int .i64 dq, .bool true]) ∧ RowE w' v res ∧ Below W.heap.size W w'
def PgsAt (W : World) (pv : Value) (l : List Pg) : Prop := RowPg W pv l ∧ ∀ p ∈ l, PgOk W p
theorem PgsAt.below {W W' : World} {pv : Value} {l : List Pg} (h : PgsAt W pv l) (hb : Below W.heap.size W W') : PgsAt W' pv l := ⟨Row.below h.1 hb, fun p hp => (h.2 p hp).below hb⟩
theorem PgsAt.cells {W : World} {pv : Value} {l : List Pg} (h : PgsAt W pv l) {a : Nat} {p : Pg} (hp : l[a]? = some p) : ∃ g c, pv = .slice (some ⟨g, 0, none⟩) l.length c ∧ W.cell? ⟨g, a * 3, none⟩ = some (.bool p.leaf) ∧ W.cell? ⟨g, a * 3 + 1, none⟩ = some p.K ∧ W.cell? ⟨g, a * 3 + 2, none⟩ = some p.C := by
  have hl := (List.getElem?_eq_some_iff.1 hp).1
  obtain ⟨g, c, rfl, _⟩ := row_slice h.1 (by omega)
  obtain ⟨e0, e1, e2⟩ := encPgs_get l a p hp
  exact ⟨g, c, rfl, h.1.cell rfl _ _ e0, h.1.cell rfl _ _ e1, h.1.cell rfl _ _ e2⟩
end Go.Proofs.Bt
end
section
namespace Go.Proofs.Bt
open Go Go.RowKit Go.Proofs.Ytjaddmflopahiaa.Q Go.Proofs.YtjaddmflopahiaaW.PrintWords Go.Proofs.YtjaddmflopahiaaW.PrintLast Go.Proofs.YtjaddmflopahiaaW.PrintMore
set_option linter.unusedVariables false
set_option linter.unusedSimpArgs false
set_option maxRecDepth 100000
set_option maxHeartbeats 2000000 in
theorem shape_rl (W : World) (l : List Pg) (pv : Value) (d : Nat) (pg : Pg) (rs : List (List S29)) (dq : Int) (loF hiF : Nat → List S29)
    (hpgs : PgsAt W pv l) (hp : l[0]? = some pg) (hl : l.length < 100000) (hd : d ≤ 40)
    (hlf : pg.leaf = true) (hn4 : pg.ks.length ≤ 4) (hn2 : 0 ≤ pg.ks.length)
    (hsz : ∀ x ∈ pg.ks, x.f0.size < 1000000)
    (hsrt : Sorted pg.ks)
    (hleaf : pg.leaf = true → pg.kids = [] ∧ rs = [pg.ks] ∧ dq = (d : Int))
    (hin : pg.leaf = false → pg.kids.length = pg.ks.length + 1 ∧ rs.length = pg.ks.length + 1 ∧ 1 ≤ pg.ks.length ∧ (∀ k ∈ pg.kids, 0 < k) ∧ rs.flatten.length < 90000 ∧ loF 0 = [] ∧ (∀ i z, pg.ks[i]? = some z → loF (i + 1) = [z] ∧ hiF i = [z]) ∧ hiF pg.ks.length = [] ∧
      ∀ (i : Nat) (W' : World) (lv' hv' : Value) (kd : Int) (r : List S29), pg.kids[i]? = some kd → rs[i]? = some r → Below W.heap.size W W' → Edge W' lv' (loF i) → Edge W' hv' (hiF i) →
        Calls Try.prog 16 #[pv, .int .i64 kd, .int .i64 ((d : Int) + 1), lv', hv'] W' (ShapePost W' r dq)) :
    Calls Try.prog 16 #[pv, .int .i64 0, .int .i64 (d : Int), .slice none 0 0, .slice none 0 0] W (ShapePost W rs.flatten dq) := by
  have mixed : Try.prog.follows Departure.mixedOrders = true := by kernel_rfl
  have hu29 := Try.underlying29
  have hu35 := Try.underlying35
  obtain ⟨R, hR⟩ : ∃ R, ShapePost W rs.flatten dq = R := ⟨_, rfl⟩
  have HR := Aside0.mk hR
  rw [hR]
  obtain ⟨gp, cp, rfl, p0, p1, p2⟩ := hpgs.cells hp
  have hal := (List.getElem?_eq_some_iff.1 hp).1
  obtain ⟨n0, hn0⟩ : ∃ n0, l.length = n0 := ⟨_, rfl⟩
  rw [hn0] at hl hal hpgs hin
  rw [hn0]
  have hok := hpgs.2 pg (List.mem_of_getElem? hp)
  obtain ⟨lf, K, C, ks, kids⟩ := pg
  simp only at *
  subst hlf
  obtain ⟨AK, cK, rfl⟩ : ∃ A c, K = .slice A ks.length c := RowE.slice hok.1
  obtain ⟨AC, cC, rfl⟩ : ∃ A c, C = .slice A kids.length c := by
    rcases hok.2.2.2 with ⟨h1, h0⟩ | ⟨g, c, cur, h1, _⟩
    · change C = _ at h1
      change kids.length = 0 at h0
      subst h1
      exact ⟨_, _, by rw [h0]⟩
    · change C = .slice (some ⟨g, 0, none⟩) kids.length c at h1
      exact ⟨_, _, h1⟩
  obtain ⟨n, hn⟩ : ∃ n, ks.length = n := ⟨_, rfl⟩
  obtain ⟨m, hm⟩ : ∃ m, kids.length = m := ⟨_, rfl⟩
  rw [hn] at p1 hn4 hn2
  rw [hm] at p2
  obtain ⟨xb, hxb⟩ : ∃ b, W.heap.size = b := ⟨_, rfl⟩
  have hsx : St W NoF (W.alloc (.cells #[.bool true, .slice AK n cK, .slice AC m cC] 35)) [blkC xb (.cells #[.bool true, .slice AK n cK, .slice AC m cC] 35 (0, 0))] := (St.none W NoF).alloc _ 35 hxb
  have HSX := Aside0.mk hsx
  obtain ⟨wa, hwa⟩ : ∃ wa, W.alloc (.cells #[.bool true, .slice AK n cK, .slice AC m cC] 35) = wa := ⟨_, rfl⟩
  rw [hwa] at HSX
  have b0 : wa.cell? ⟨xb, 0, none⟩ = some (.bool true) := (blk_cell (HSX.out.blk 0 rfl) 0).trans rfl
  have b1 : wa.cell? ⟨xb, 1, none⟩ = some (.slice AK n cK) := (blk_cell (HSX.out.blk 0 rfl) 1).trans rfl
  have b2 : wa.cell? ⟨xb, 2, none⟩ = some (.slice AC m cC) := (blk_cell (HSX.out.blk 0 rfl) 2).trans rfl
  obtain ⟨ho1, ho2⟩ := hok
  change RowE W (.slice AK ks.length cK) ks at ho1
  change RowI W (.slice AC kids.length cC) kids at ho2
  rw [hn] at ho1
  rw [hm] at ho2
  have HOK := Aside0.mk (And.intro ho1 ho2)
  have HN := Aside0.mk hn
  have HM := Aside0.mk hm
  have HPG := Aside0.mk hpgs
  have HSZ := Aside0.mk hsz
  have HSRT := Aside0.mk hsrt
  have HN0 := Aside0.mk hn0
  have HLFA := Aside0.mk hleaf
  have HIN := Aside0.mk hin
  clear hleaf hin
  clear hR hpgs ho1 ho2 hn hm hsx hsz hsrt hp hn0
  have ha2 : (0 : Int) < (n0 : Int) := by omega
  have ha3 : decide ((n0 : Int) ≤ 0) = false := by first | (simp; done) | (simp; omega)
  have hd1 : decide ((40 : Int) < (d : Int)) = false := by first | (simp; done) | (simp; omega)
  have hn1 : decide ((4 : Int) < (n : Int)) = false := by first | (simp; done) | (simp; omega)
  have hn2' : decide ((n : Int) < 0) = false := by first | (simp; done) | (simp; omega)
  have hdum : True := trivial
  go_enter Try.func16, Try.ntmps16
  go_wp2
  go_loopg [15] n (fun gq v15 wx => ∃ i : Nat, v15 = .int .i64 i ∧ i + gq = n ∧ Aside0 (St W NoF wx [blkC xb (.cells #[.bool true, .slice AK n cK, .slice AC m cC] 35 (0, 0))]))
  case atStart => exact ⟨0, rfl, by omega, HSX⟩
  case round =>
    clear HSX b0 b1 b2
    obtain ⟨i, rfl, hi, HS⟩ := hrel
    cases gk with
    | succ gq =>
      have hin : i < n := by omega
      obtain ⟨g, c', hv, hnc⟩ := row_slice HOK.out.1 (by rw [HN.out]; omega)
      obtain ⟨rfl, -, rfl⟩ : AK = some ⟨g, 0, none⟩ ∧ True ∧ cK = c' := by
        injection hv with e1 e2 e3
        exact ⟨e1, trivial, e3⟩
      have HKC := Aside0.mk (show ∀ W' : World, Below W.heap.size W W' → ∀ i z, ks[i]? = some z → W'.cell? ⟨g, i * 3, none⟩ = some (.string z.f0) ∧ W'.cell? ⟨g, i * 3 + 1, none⟩ = some (.int .i64 z.f1.f0) ∧ W'.cell? ⟨g, i * 3 + 2, none⟩ = some (.int .i64 z.f1.f1) from fun W' hb i z hz => by
        obtain ⟨hi, rfl⟩ := List.getElem?_eq_some_iff.1 hz
        exact RowE.cells (Row.below HOK.out.1 hb) i hi)
      obtain ⟨z, hz⟩ : ∃ z, ks[i]? = some z := ⟨_, List.getElem?_eq_getElem (by rw [HN.out]; exact hin)⟩
      have HZ := Aside0.mk hz
      have HS1 := Aside0.mk (HS.out.below (⟨rfl, rfl, rfl, Nat.le_refl _, fun _ _ => rfl⟩ : Below wr.heap.size wr wr.drew))
      clear hz hv hnc
      cases i with
      | zero =>
        have hb3 : (0 : Int) < (n : Int) := by omega
        go_wp2
        clear HS
        refine start_ (n := 51) (S := fun w' => w'.cell? ⟨xb, 1, none⟩ = some (.slice (some ⟨g, 0, none⟩) n cK)) (ds := []) #[false, false, false, false, false, false, false, false, false, false, false, false, false, false, false, false, false, false, false, false, false, false, false, false, false, false, false, false, false, false, false, false, false, false, false, false, false, false, false, false, false, false, false, false, false, false, false, false, false, false, false] (by kernel_rfl) rfl rfl ((blk_cell (HS1.out.blk 0 rfl) 1).trans rfl) (fun hHeld => ?_)
        refine pure_ (i := 0) (N := (some 71)) (v := ?_) (a' := ?_) (bs_ 51 1) rfl rfl (by kernel_rfl) (fun _ _ _ h => h) (Or.inl ⟨by rfl, ?_⟩) ?_ ?_
        rotate_left
        · intro w'
          go_simp
          with_reducible rfl
        rotate_left
        · simp only [Act.put, List.setIfInBounds_toArray, List.set_cons_zero, List.set_cons_succ, i64_w, i32_w]
          rfl
        refine pure_ (i := 1) (N := (some 72)) (v := ?_) (a' := ?_) (bs_ 51 3) rfl rfl (by kernel_rfl) (fun _ _ _ h => h) (Or.inl ⟨by rfl, ?_⟩) ?_ ?_
        rotate_left
        · intro w'
          go_simp
          with_reducible rfl
        rotate_left
        · simp only [Act.put, List.setIfInBounds_toArray, List.set_cons_zero, List.set_cons_succ, i64_w, i32_w]
          rfl
        refine pure_ (i := 2) (N := (some 73)) (v := ?_) (a' := ?_) (bs_ 51 7) rfl rfl (by kernel_rfl) (fun _ _ _ h => h) (Or.inl ⟨by rfl, ?_⟩) ?_ ?_
        rotate_left
        · intro w'
          go_simp
          with_reducible rfl
        rotate_left
        · simp only [Act.put, List.setIfInBounds_toArray, List.set_cons_zero, List.set_cons_succ, i64_w, i32_w]
          rfl
        refine pure_ (i := 3) (N := (some 74)) (v := undef) (a' := ?_) (bs_ 51 15) rfl rfl (by kernel_rfl) (fun _ _ _ h => h) (Or.inr ⟨by rfl, rfl⟩) ?_ ?_
        rotate_left
        · simp only [Act.put, List.setIfInBounds_toArray, List.set_cons_zero, List.set_cons_succ, i64_w, i32_w]
          rfl
        refine pure_ (i := 5) (N := (some 76)) (v := undef) (a' := ?_) (bs_ 51 47) rfl rfl (by kernel_rfl) (fun _ _ _ h => h) (Or.inr ⟨by rfl, rfl⟩) ?_ ?_
        rotate_left
        · simp only [Act.put, List.setIfInBounds_toArray, List.set_cons_zero, List.set_cons_succ, i64_w, i32_w]
          rfl
        refine pure_ (i := 6) (N := (some 77)) (v := undef) (a' := ?_) (bs_ 51 111) rfl rfl (by kernel_rfl) (fun _ _ _ h => h) (Or.inr ⟨by rfl, rfl⟩) ?_ ?_
        rotate_left
        · simp only [Act.put, List.setIfInBounds_toArray, List.set_cons_zero, List.set_cons_succ, i64_w, i32_w]
          rfl
        refine pure_ (i := 9) (N := (some 80)) (v := undef) (a' := ?_) (bs_ 51 623) rfl rfl (by kernel_rfl) (fun _ _ _ h => h) (Or.inr ⟨by rfl, rfl⟩) ?_ ?_
        rotate_left
        · simp only [Act.put, List.setIfInBounds_toArray, List.set_cons_zero, List.set_cons_succ, i64_w, i32_w]
          rfl
        refine pure_ (i := 11) (N := (some 82)) (v := undef) (a' := ?_) (bs_ 51 2671) rfl rfl (by kernel_rfl) (fun _ _ _ h => h) (Or.inr ⟨by rfl, rfl⟩) ?_ ?_
        rotate_left
        · simp only [Act.put, List.setIfInBounds_toArray, List.set_cons_zero, List.set_cons_succ, i64_w, i32_w]
          rfl
        refine pure_ (i := 4) (N := (some 75)) (v := undef) (a' := ?_) (bs_ 51 2687) rfl rfl (by kernel_rfl) (fun _ _ _ h => h) (Or.inr ⟨by rfl, rfl⟩) ?_ ?_
        rotate_left
        · simp only [Act.put, List.setIfInBounds_toArray, List.set_cons_zero, List.set_cons_succ, i64_w, i32_w]
          rfl
        refine pure_ (i := 7) (N := (some 78)) (v := undef) (a' := ?_) (bs_ 51 2815) rfl rfl (by kernel_rfl) (fun _ _ _ h => h) (Or.inr ⟨by rfl, rfl⟩) ?_ ?_
        rotate_left
        · simp only [Act.put, List.setIfInBounds_toArray, List.set_cons_zero, List.set_cons_succ, i64_w, i32_w]
          rfl
        refine pure_ (i := 8) (N := (some 79)) (v := undef) (a' := ?_) (bs_ 51 3071) rfl rfl (by kernel_rfl) (fun _ _ _ h => h) (Or.inr ⟨by rfl, rfl⟩) ?_ ?_
        rotate_left
        · simp only [Act.put, List.setIfInBounds_toArray, List.set_cons_zero, List.set_cons_succ, i64_w, i32_w]
          rfl
        refine pure_ (i := 10) (N := (some 81)) (v := undef) (a' := ?_) (bs_ 51 4095) rfl rfl (by kernel_rfl) (fun _ _ _ h => h) (Or.inr ⟨by rfl, rfl⟩) ?_ ?_
        rotate_left
        · simp only [Act.put, List.setIfInBounds_toArray, List.set_cons_zero, List.set_cons_succ, i64_w, i32_w]
          rfl
        refine pure_ (i := 12) (N := (some 83)) (v := undef) (a' := ?_) (bs_ 51 8191) rfl rfl (by kernel_rfl) (fun _ _ _ h => h) (Or.inr ⟨by rfl, rfl⟩) ?_ ?_
        rotate_left
        · simp only [Act.put, List.setIfInBounds_toArray, List.set_cons_zero, List.set_cons_succ, i64_w, i32_w]
          rfl
        refine pure_ (i := 13) (N := (some 84)) (v := undef) (a' := ?_) (bs_ 51 16383) rfl rfl (by kernel_rfl) (fun _ _ _ h => h) (Or.inr ⟨by rfl, rfl⟩) ?_ ?_
        rotate_left
        · simp only [Act.put, List.setIfInBounds_toArray, List.set_cons_zero, List.set_cons_succ, i64_w, i32_w]
          rfl
        refine one_ (i := 14) (N := (some 85)) (bs_ 51 32767) rfl rfl (by kernel_rfl) (by decide) (fun K_ hK => ?_)
        refine no_ (by rfl) ?_
        refine hK.out _ _ hHeld (fun hHeld => ?_)
        clear hK K_
        refine norm_ (a' := ?_) ?_ ?_
        rotate_left
        · show Act.put _ (some 85) _ = _
          simp only [Act.put, List.setIfInBounds_toArray, List.set_cons_zero, List.set_cons_succ, i64_w, i32_w]
          rfl
        refine pure_ (i := 15) (N := (some 86)) (v := undef) (a' := ?_) (bs_ 51 65535) rfl rfl (by kernel_rfl) (fun _ _ _ h => h) (Or.inr ⟨by rfl, rfl⟩) ?_ ?_
        rotate_left
        · simp only [Act.put, List.setIfInBounds_toArray, List.set_cons_zero, List.set_cons_succ, i64_w, i32_w]
          rfl
        refine pure_ (i := 16) (N := (some 87)) (v := ?_) (a' := ?_) (bs_ 51 131071) rfl rfl (by kernel_rfl) (fun _ _ _ h => h) (Or.inl ⟨by rfl, ?_⟩) ?_ ?_
        rotate_left
        · intro w'
          go_simp
          with_reducible rfl
        rotate_left
        · simp only [Act.put, List.setIfInBounds_toArray, List.set_cons_zero, List.set_cons_succ, i64_w, i32_w]
          rfl
        refine pure_ (i := 17) (N := (some 88)) (v := ?_) (a' := ?_) (bs_ 51 262143) rfl rfl (by kernel_rfl) (fun _ _ _ h => h) (Or.inl ⟨by rfl, ?_⟩) ?_ ?_
        rotate_left
        · intro w'
          go_simp
          with_reducible rfl
        rotate_left
        · simp only [Act.put, List.setIfInBounds_toArray, List.set_cons_zero, List.set_cons_succ, i64_w, i32_w]
          rfl
        refine pure_ (i := 18) (N := (some 89)) (v := ?_) (a' := ?_) (bs_ 51 524287) rfl rfl (by kernel_rfl) (fun _ _ _ h => h) (Or.inl ⟨by rfl, ?_⟩) ?_ ?_
        rotate_left
        · intro w'
          go_simp
          with_reducible rfl
        rotate_left
        · simp only [Act.put, List.setIfInBounds_toArray, List.set_cons_zero, List.set_cons_succ, i64_w, i32_w]
          rfl
        refine pure_ (i := 19) (N := (some 90)) (v := ?_) (a' := ?_) (bs_ 51 1048575) rfl rfl (by kernel_rfl) (fun _ _ _ h => h) (Or.inl ⟨by rfl, ?_⟩) ?_ ?_
        rotate_left
        · intro w'
          go_simp
          with_reducible rfl
        rotate_left
        · simp only [Act.put, List.setIfInBounds_toArray, List.set_cons_zero, List.set_cons_succ, i64_w, i32_w]
          rfl
        refine pure_ (i := 20) (N := (some 91)) (v := ?_) (a' := ?_) (bs_ 51 2097151) rfl rfl (by kernel_rfl) (fun _ _ _ h => h) (Or.inl ⟨by rfl, ?_⟩) ?_ ?_
        rotate_left
        · intro w'
          go_simp
          with_reducible rfl
        rotate_left
        · simp only [Act.put, List.setIfInBounds_toArray, List.set_cons_zero, List.set_cons_succ, i64_w, i32_w]
          rfl
        refine pure_ (i := 21) (N := (some 92)) (v := ?_) (a' := ?_) (bs_ 51 4194303) rfl rfl (by kernel_rfl) (fun _ _ _ h => h) (Or.inl ⟨by rfl, ?_⟩) ?_ ?_
        rotate_left
        · intro w'
          go_simp
          with_reducible rfl
        rotate_left
        · simp only [Act.put, List.setIfInBounds_toArray, List.set_cons_zero, List.set_cons_succ, i64_w, i32_w]
          rfl
        refine pure_ (i := 22) (N := (some 93)) (v := undef) (a' := ?_) (bs_ 51 8388607) rfl rfl (by kernel_rfl) (fun _ _ _ h => h) (Or.inr ⟨by rfl, rfl⟩) ?_ ?_
        rotate_left
        · simp only [Act.put, List.setIfInBounds_toArray, List.set_cons_zero, List.set_cons_succ, i64_w, i32_w]
          rfl
        refine pure_ (i := 24) (N := (some 95)) (v := undef) (a' := ?_) (bs_ 51 25165823) rfl rfl (by kernel_rfl) (fun _ _ _ h => h) (Or.inr ⟨by rfl, rfl⟩) ?_ ?_
        rotate_left
        · simp only [Act.put, List.setIfInBounds_toArray, List.set_cons_zero, List.set_cons_succ, i64_w, i32_w]
          rfl
        refine pure_ (i := 27) (N := (some 98)) (v := undef) (a' := ?_) (bs_ 51 159383551) rfl rfl (by kernel_rfl) (fun _ _ _ h => h) (Or.inr ⟨by rfl, rfl⟩) ?_ ?_
        rotate_left
        · simp only [Act.put, List.setIfInBounds_toArray, List.set_cons_zero, List.set_cons_succ, i64_w, i32_w]
          rfl
        refine pure_ (i := 28) (N := (some 99)) (v := undef) (a' := ?_) (bs_ 51 427819007) rfl rfl (by kernel_rfl) (fun _ _ _ h => h) (Or.inr ⟨by rfl, rfl⟩) ?_ ?_
        rotate_left
        · simp only [Act.put, List.setIfInBounds_toArray, List.set_cons_zero, List.set_cons_succ, i64_w, i32_w]
          rfl
        refine pure_ (i := 23) (N := (some 94)) (v := undef) (a' := ?_) (bs_ 51 436207615) rfl rfl (by kernel_rfl) (fun _ _ _ h => h) (Or.inr ⟨by rfl, rfl⟩) ?_ ?_
        rotate_left
        · simp only [Act.put, List.setIfInBounds_toArray, List.set_cons_zero, List.set_cons_succ, i64_w, i32_w]
          rfl
        refine pure_ (i := 25) (N := (some 96)) (v := undef) (a' := ?_) (bs_ 51 469762047) rfl rfl (by kernel_rfl) (fun _ _ _ h => h) (Or.inr ⟨by rfl, rfl⟩) ?_ ?_
        rotate_left
        · simp only [Act.put, List.setIfInBounds_toArray, List.set_cons_zero, List.set_cons_succ, i64_w, i32_w]
          rfl
        refine pure_ (i := 26) (N := (some 97)) (v := undef) (a' := ?_) (bs_ 51 536870911) rfl rfl (by kernel_rfl) (fun _ _ _ h => h) (Or.inr ⟨by rfl, rfl⟩) ?_ ?_
        rotate_left
        · simp only [Act.put, List.setIfInBounds_toArray, List.set_cons_zero, List.set_cons_succ, i64_w, i32_w]
          rfl
        refine pure_ (i := 29) (N := (some 100)) (v := undef) (a' := ?_) (bs_ 51 1073741823) rfl rfl (by kernel_rfl) (fun _ _ _ h => h) (Or.inr ⟨by rfl, rfl⟩) ?_ ?_
        rotate_left
        · simp only [Act.put, List.setIfInBounds_toArray, List.set_cons_zero, List.set_cons_succ, i64_w, i32_w]
          rfl
        refine one_ (i := 30) (N := (some 101)) (bs_ 51 2147483647) rfl rfl (by kernel_rfl) (by decide) (fun K_ hK => ?_)
        refine no_ (by rfl) ?_
        refine hK.out _ _ hHeld (fun hHeld => ?_)
        clear hK K_
        refine norm_ (a' := ?_) ?_ ?_
        rotate_left
        · show Act.put _ (some 101) _ = _
          simp only [Act.put, List.setIfInBounds_toArray, List.set_cons_zero, List.set_cons_succ, i64_w, i32_w]
          rfl
        refine pure_ (i := 31) (N := (some 102)) (v := undef) (a' := ?_) (bs_ 51 4294967295) rfl rfl (by kernel_rfl) (fun _ _ _ h => h) (Or.inr ⟨by rfl, rfl⟩) ?_ ?_
        rotate_left
        · simp only [Act.put, List.setIfInBounds_toArray, List.set_cons_zero, List.set_cons_succ, i64_w, i32_w]
          rfl
        refine pure_ (i := 32) (N := (some 103)) (v := ?_) (a' := ?_) (bs_ 51 8589934591) rfl rfl (by kernel_rfl) (fun _ _ _ h => h) (Or.inl ⟨by rfl, ?_⟩) ?_ ?_
        rotate_left
        · intro w'
          go_simp
          with_reducible rfl
        rotate_left
        · simp only [Act.put, List.setIfInBounds_toArray, List.set_cons_zero, List.set_cons_succ, i64_w, i32_w]
          rfl
        refine pure_ (i := 33) (N := (some 104)) (v := ?_) (a' := ?_) (bs_ 51 17179869183) rfl rfl (by kernel_rfl) (fun _ _ _ h => h) (Or.inl ⟨by rfl, ?_⟩) ?_ ?_
        rotate_left
        · intro w'
          go_simp
          with_reducible rfl
        rotate_left
        · simp only [Act.put, List.setIfInBounds_toArray, List.set_cons_zero, List.set_cons_succ, i64_w, i32_w]
          rfl
        refine pure_ (i := 34) (N := (some 105)) (v := ?_) (a' := ?_) (bs_ 51 34359738367) rfl rfl (by kernel_rfl) (fun _ _ _ h => h) (Or.inl ⟨by rfl, ?_⟩) ?_ ?_
        rotate_left
        · intro w'
          go_simp
          with_reducible rfl
        rotate_left
        · simp only [Act.put, List.setIfInBounds_toArray, List.set_cons_zero, List.set_cons_succ, i64_w, i32_w]
          rfl
        refine pure_ (i := 35) (N := (some 106)) (v := ?_) (a' := ?_) (bs_ 51 68719476735) rfl rfl (by kernel_rfl) (fun _ _ _ h => h) (Or.inl ⟨by rfl, ?_⟩) ?_ ?_
        rotate_left
        · intro w'
          go_simp
          with_reducible rfl
        rotate_left
        · simp only [Act.put, List.setIfInBounds_toArray, List.set_cons_zero, List.set_cons_succ, i64_w, i32_w]
          rfl
        refine pure_ (i := 36) (N := (some 107)) (v := ?_) (a' := ?_) (bs_ 51 137438953471) rfl rfl (by kernel_rfl) (fun _ _ _ h => h) (Or.inl ⟨by rfl, ?_⟩) ?_ ?_
        rotate_left
        · intro w'
          go_simp
          with_reducible rfl
        rotate_left
        · simp only [Act.put, List.setIfInBounds_toArray, List.set_cons_zero, List.set_cons_succ, i64_w, i32_w]
          rfl
        refine pure_ (i := 37) (N := (some 108)) (v := ?_) (a' := ?_) (bs_ 51 274877906943) rfl rfl (by kernel_rfl) (fun _ _ _ h => h) (Or.inl ⟨by rfl, ?_⟩) ?_ ?_
        rotate_left
        · intro w'
          go_simp
          with_reducible rfl
        rotate_left
        · simp only [Act.put, List.setIfInBounds_toArray, List.set_cons_zero, List.set_cons_succ, i64_w, i32_w]
          rfl
        refine pure_ (i := 38) (N := (some 109)) (v := ?_) (a' := ?_) (bs_ 51 549755813887) rfl rfl (by kernel_rfl) (fun _ _ _ h => h) (Or.inl ⟨by rfl, ?_⟩) ?_ ?_
        rotate_left
        · intro w'
          go_simp
          with_reducible rfl
        rotate_left
        · simp only [Act.put, List.setIfInBounds_toArray, List.set_cons_zero, List.set_cons_succ, i64_w, i32_w]
          rfl
        refine pure_ (i := 39) (N := (some 110)) (v := undef) (a' := ?_) (bs_ 51 1099511627775) rfl rfl (by kernel_rfl) (fun _ _ _ h => h) (Or.inr ⟨by rfl, rfl⟩) ?_ ?_
        rotate_left
        · simp only [Act.put, List.setIfInBounds_toArray, List.set_cons_zero, List.set_cons_succ, i64_w, i32_w]
          rfl
        refine pure_ (i := 41) (N := (some 112)) (v := undef) (a' := ?_) (bs_ 51 3298534883327) rfl rfl (by kernel_rfl) (fun _ _ _ h => h) (Or.inr ⟨by rfl, rfl⟩) ?_ ?_
        rotate_left
        · simp only [Act.put, List.setIfInBounds_toArray, List.set_cons_zero, List.set_cons_succ, i64_w, i32_w]
          rfl
        refine pure_ (i := 44) (N := (some 115)) (v := undef) (a' := ?_) (bs_ 51 20890720927743) rfl rfl (by kernel_rfl) (fun _ _ _ h => h) (Or.inr ⟨by rfl, rfl⟩) ?_ ?_
        rotate_left
        · simp only [Act.put, List.setIfInBounds_toArray, List.set_cons_zero, List.set_cons_succ, i64_w, i32_w]
          rfl
        refine pure_ (i := 45) (N := (some 116)) (v := undef) (a' := ?_) (bs_ 51 56075093016575) rfl rfl (by kernel_rfl) (fun _ _ _ h => h) (Or.inr ⟨by rfl, rfl⟩) ?_ ?_
        rotate_left
        · simp only [Act.put, List.setIfInBounds_toArray, List.set_cons_zero, List.set_cons_succ, i64_w, i32_w]
          rfl
        refine pure_ (i := 40) (N := (some 111)) (v := undef) (a' := ?_) (bs_ 51 57174604644351) rfl rfl (by kernel_rfl) (fun _ _ _ h => h) (Or.inr ⟨by rfl, rfl⟩) ?_ ?_
        rotate_left
        · simp only [Act.put, List.setIfInBounds_toArray, List.set_cons_zero, List.set_cons_succ, i64_w, i32_w]
          rfl
        refine pure_ (i := 42) (N := (some 113)) (v := undef) (a' := ?_) (bs_ 51 61572651155455) rfl rfl (by kernel_rfl) (fun _ _ _ h => h) (Or.inr ⟨by rfl, rfl⟩) ?_ ?_
        rotate_left
        · simp only [Act.put, List.setIfInBounds_toArray, List.set_cons_zero, List.set_cons_succ, i64_w, i32_w]
          rfl
        refine pure_ (i := 43) (N := (some 114)) (v := undef) (a' := ?_) (bs_ 51 70368744177663) rfl rfl (by kernel_rfl) (fun _ _ _ h => h) (Or.inr ⟨by rfl, rfl⟩) ?_ ?_
        rotate_left
        · simp only [Act.put, List.setIfInBounds_toArray, List.set_cons_zero, List.set_cons_succ, i64_w, i32_w]
          rfl
        refine pure_ (i := 46) (N := (some 117)) (v := undef) (a' := ?_) (bs_ 51 140737488355327) rfl rfl (by kernel_rfl) (fun _ _ _ h => h) (Or.inr ⟨by rfl, rfl⟩) ?_ ?_
        rotate_left
        · simp only [Act.put, List.setIfInBounds_toArray, List.set_cons_zero, List.set_cons_succ, i64_w, i32_w]
          rfl
        refine one_ (i := 47) (N := (some 118)) (bs_ 51 281474976710655) rfl rfl (by kernel_rfl) (by decide) (fun K_ hK => ?_)
        refine no_ (by rfl) ?_
        refine hK.out _ _ hHeld (fun hHeld => ?_)
        clear hK K_
        refine norm_ (a' := ?_) ?_ ?_
        rotate_left
        · show Act.put _ (some 118) _ = _
          simp only [Act.put, List.setIfInBounds_toArray, List.set_cons_zero, List.set_cons_succ, i64_w, i32_w]
          rfl
        refine pure_ (i := 48) (N := (some 119)) (v := undef) (a' := ?_) (bs_ 51 562949953421311) rfl rfl (by kernel_rfl) (fun _ _ _ h => h) (Or.inr ⟨by rfl, rfl⟩) ?_ ?_
        rotate_left
        · simp only [Act.put, List.setIfInBounds_toArray, List.set_cons_zero, List.set_cons_succ, i64_w, i32_w]
          rfl
        refine pure_ (i := 49) (N := (some 120)) (v := ?_) (a' := ?_) (bs_ 51 1125899906842623) rfl rfl (by kernel_rfl) (fun _ _ _ h => h) (Or.inl ⟨by rfl, ?_⟩) ?_ ?_
        rotate_left
        · intro w'
          go_simp
          with_reducible rfl
        rotate_left
        · simp only [Act.put, List.setIfInBounds_toArray, List.set_cons_zero, List.set_cons_succ, i64_w, i32_w]
          rfl
        refine pure_ (i := 50) (N := (some 121)) (v := ?_) (a' := ?_) (bs_ 51 2251799813685247) rfl rfl (by kernel_rfl) (fun _ _ _ h => h) (Or.inl ⟨by rfl, ?_⟩) ?_ ?_
        rotate_left
        · intro w'
          go_simp
          with_reducible rfl
        rotate_left
        · simp only [Act.put, List.setIfInBounds_toArray, List.set_cons_zero, List.set_cons_succ, i64_w, i32_w]
          rfl
        refine done_ (by kernel_rfl) ?_
        clear hHeld HKC HZ HSRT HSZ HOK
        go_wp2
        go_roundg gq
        case measure => omega
        case rel => exact ⟨1, by go_num, by omega, HS1⟩
      | succ i0 =>
        have him1 : ((i0 + 1 : Nat) : Int) - 1 = (i0 : Int) := by omega
        have hb0 : (0 : Int) ≤ (i0 : Int) := by omega
        have hb1 : (i0 : Int) < (n : Int) := by omega
        have hb2 : (0 : Int) ≤ ((i0 + 1 : Nat) : Int) := by omega
        have hb3 : ((i0 + 1 : Nat) : Int) < (n : Int) := by omega
        have hb4 : (0 : Int) ≤ (i0 : Int) + 1 := by omega
        have hb5 : (i0 : Int) + 1 < (n : Int) := by omega
        have hb6 : (0 : Int) < (i0 : Int) + 1 := by omega
        have hw0 : wrap64 (i0 : Int) = (i0 : Int) := IntWalk.wrap64_in _ (by omega)
        obtain ⟨zp, hzp⟩ : ∃ z, ks[i0]? = some z := ⟨_, List.getElem?_eq_getElem (by rw [HN.out]; omega)⟩
        have HZP := Aside0.mk hzp
        obtain ⟨o1, ho1⟩ : ∃ o, ord zp z = o := ⟨_, rfl⟩
        have HO1 := Aside0.mk ho1
        have hq1 : decide (0 ≤ o1) = false := decide_eq_false (by
          obtain ⟨p1, p2⟩ := List.getElem?_eq_some_iff.1 hzp
          obtain ⟨p3, p4⟩ := List.getElem?_eq_some_iff.1 HZ.out
          have : ord ks[i0] ks[i0 + 1] < 0 := List.pairwise_iff_getElem.1 HSRT.out i0 (i0 + 1) p1 p3 (by omega)
          rw [p2, p4, ho1] at this
          omega)
        clear hzp ho1
        go_wp2
        clear HS
        refine start_ (n := 51) (S := fun w' => w'.cell? ⟨xb, 1, none⟩ = some (.slice (some ⟨g, 0, none⟩) n cK) ∧ w'.cell? ⟨g, (i0 + 1) * 3, none⟩ = some (.string z.f0) ∧ w'.cell? ⟨g, (i0 + 1) * 3 + 1, none⟩ = some (.int .i64 z.f1.f0) ∧ w'.cell? ⟨g, (i0 + 1) * 3 + 2, none⟩ = some (.int .i64 z.f1.f1) ∧ w'.cell? ⟨g, i0 * 3, none⟩ = some (.string zp.f0) ∧ w'.cell? ⟨g, i0 * 3 + 1, none⟩ = some (.int .i64 zp.f1.f0) ∧ w'.cell? ⟨g, i0 * 3 + 2, none⟩ = some (.int .i64 zp.f1.f1)) (ds := []) #[false, false, false, false, false, false, false, false, false, false, false, false, false, false, false, false, false, false, false, false, false, false, false, false, false, false, false, false, false, false, false, false, false, false, false, false, false, false, false, false, false, false, false, false, false, false, false, false, false, false, false] (by kernel_rfl) rfl rfl (⟨(blk_cell (HS1.out.blk 0 rfl) 1).trans rfl, (HKC.out _ (keep_below HS1.out.keep) (i0 + 1) z HZ.out).1, (HKC.out _ (keep_below HS1.out.keep) (i0 + 1) z HZ.out).2.1, (HKC.out _ (keep_below HS1.out.keep) (i0 + 1) z HZ.out).2.2, (HKC.out _ (keep_below HS1.out.keep) i0 zp HZP.out).1, (HKC.out _ (keep_below HS1.out.keep) i0 zp HZP.out).2.1, (HKC.out _ (keep_below HS1.out.keep) i0 zp HZP.out).2.2⟩) (fun hHeld => ?_)
        refine pure_ (i := 0) (N := (some 71)) (v := ?_) (a' := ?_) (bs_ 51 1) rfl rfl (by kernel_rfl) (fun _ _ _ h => h) (Or.inl ⟨by rfl, ?_⟩) ?_ ?_
        rotate_left
        · intro w'
          go_simp
          with_reducible rfl
        rotate_left
        · simp only [Act.put, List.setIfInBounds_toArray, List.set_cons_zero, List.set_cons_succ, i64_w, i32_w]
          rfl
        refine pure_ (i := 1) (N := (some 72)) (v := ?_) (a' := ?_) (bs_ 51 3) rfl rfl (by kernel_rfl) (fun _ _ _ h => h) (Or.inl ⟨by rfl, ?_⟩) ?_ ?_
        rotate_left
        · intro w'
          go_simp
          with_reducible rfl
        rotate_left
        · simp only [Act.put, List.setIfInBounds_toArray, List.set_cons_zero, List.set_cons_succ, i64_w, i32_w]
          rfl
        refine pure_ (i := 2) (N := (some 73)) (v := ?_) (a' := ?_) (bs_ 51 7) rfl rfl (by kernel_rfl) (fun _ _ _ h => h) (Or.inl ⟨by rfl, ?_⟩) ?_ ?_
        rotate_left
        · intro w'
          go_simp
          with_reducible rfl
        rotate_left
        · simp only [Act.put, List.setIfInBounds_toArray, List.set_cons_zero, List.set_cons_succ, i64_w, i32_w]
          rfl
        refine pure_ (i := 3) (N := (some 74)) (v := ?_) (a' := ?_) (bs_ 51 15) rfl rfl (by kernel_rfl) (fun _ _ _ h => h) (Or.inl ⟨by rfl, ?_⟩) ?_ ?_
        rotate_left
        · intro w'
          go_simp
          with_reducible rfl
        rotate_left
        · simp only [Act.put, List.setIfInBounds_toArray, List.set_cons_zero, List.set_cons_succ, i64_w, i32_w]
          rfl
        refine pure_ (i := 5) (N := (some 76)) (v := ?_) (a' := ?_) (bs_ 51 47) rfl rfl (by kernel_rfl) (fun _ _ _ h => h) (Or.inl ⟨by rfl, ?_⟩) ?_ ?_
        rotate_left
        · intro w'
          go_simp
          with_reducible rfl
        rotate_left
        · simp only [Act.put, List.setIfInBounds_toArray, List.set_cons_zero, List.set_cons_succ, i64_w, i32_w]
          rfl
        refine pure_ (i := 6) (N := (some 77)) (v := ?_) (a' := ?_) (bs_ 51 111) rfl rfl (by kernel_rfl) (fun _ _ _ h => h) (Or.inl ⟨by rfl, ?_⟩) ?_ ?_
        rotate_left
        · intro w'
          go_simp
          with_reducible rfl
        rotate_left
        · simp only [Act.put, List.setIfInBounds_toArray, List.set_cons_zero, List.set_cons_succ, i64_w, i32_w]
          rfl
        refine pure_ (i := 9) (N := (some 80)) (v := ?_) (a' := ?_) (bs_ 51 623) rfl rfl (by kernel_rfl) (fun _ _ _ h => h) (Or.inl ⟨by rfl, ?_⟩) ?_ ?_
        rotate_left
        · intro w'
          go_simp
          with_reducible rfl
        rotate_left
        · simp only [Act.put, List.setIfInBounds_toArray, List.set_cons_zero, List.set_cons_succ, i64_w, i32_w]
          rfl
        refine pure_ (i := 11) (N := (some 82)) (v := ?_) (a' := ?_) (bs_ 51 2671) rfl rfl (by kernel_rfl) (fun _ _ _ h => h) (Or.inl ⟨by rfl, ?_⟩) ?_ ?_
        rotate_left
        · intro w'
          go_simp
          with_reducible rfl
        rotate_left
        · simp only [Act.put, List.setIfInBounds_toArray, List.set_cons_zero, List.set_cons_succ, i64_w, i32_w]
          rfl
        refine take_ (i := 4) (N := (some 75)) (v := ?_) (a' := ?_) (bs_ 51 2687) rfl rfl (by kernel_rfl) (fun _ _ _ h => h) (Or.inl ⟨by rfl, ?_⟩) hHeld ?_ ?_
        rotate_left
        · rintro w' ⟨s0, s1, s2, s3, s4, s5, s6⟩
          go_simp
          with_reducible rfl
        rotate_left
        · simp only [Act.put, List.setIfInBounds_toArray, List.set_cons_zero, List.set_cons_succ, i64_w, i32_w]
          rfl
        refine pure_ (i := 7) (N := (some 78)) (v := ?_) (a' := ?_) (bs_ 51 2815) rfl rfl (by kernel_rfl) (fun _ _ _ h => h) (Or.inl ⟨by rfl, ?_⟩) ?_ ?_
        rotate_left
        · intro w'
          go_simp
          with_reducible rfl
        rotate_left
        · simp only [Act.put, List.setIfInBounds_toArray, List.set_cons_zero, List.set_cons_succ, i64_w, i32_w]
          rfl
        refine take_ (i := 8) (N := (some 79)) (v := ?_) (a' := ?_) (bs_ 51 3071) rfl rfl (by kernel_rfl) (fun _ _ _ h => h) (Or.inl ⟨by rfl, ?_⟩) hHeld ?_ ?_
        rotate_left
        · rintro w' ⟨s0, s1, s2, s3, s4, s5, s6⟩
          go_simp
          with_reducible rfl
        rotate_left
        · simp only [Act.put, List.setIfInBounds_toArray, List.set_cons_zero, List.set_cons_succ, i64_w, i32_w]
          rfl
        refine take_ (i := 10) (N := (some 81)) (v := ?_) (a' := ?_) (bs_ 51 4095) rfl rfl (by kernel_rfl) (fun _ _ _ h => h) (Or.inl ⟨by rfl, ?_⟩) hHeld ?_ ?_
        rotate_left
        · rintro w' ⟨s0, s1, s2, s3, s4, s5, s6⟩
          go_simp
          with_reducible rfl
        rotate_left
        · simp only [Act.put, List.setIfInBounds_toArray, List.set_cons_zero, List.set_cons_succ, i64_w, i32_w]
          rfl
        refine pure_ (i := 12) (N := (some 83)) (v := ?_) (a' := ?_) (bs_ 51 8191) rfl rfl (by kernel_rfl) (fun _ _ _ h => h) (Or.inl ⟨by rfl, ?_⟩) ?_ ?_
        rotate_left
        · intro w'
          go_simp
          with_reducible rfl
        rotate_left
        · simp only [Act.put, List.setIfInBounds_toArray, List.set_cons_zero, List.set_cons_succ, i64_w, i32_w]
          rfl
        refine take_ (i := 13) (N := (some 84)) (v := ?_) (a' := ?_) (bs_ 51 16383) rfl rfl (by kernel_rfl) (fun _ _ _ h => h) (Or.inl ⟨by rfl, ?_⟩) hHeld ?_ ?_
        rotate_left
        · rintro w' ⟨s0, s1, s2, s3, s4, s5, s6⟩
          go_simp
          with_reducible rfl
        rotate_left
        · simp only [Act.put, List.setIfInBounds_toArray, List.set_cons_zero, List.set_cons_succ, i64_w, i32_w]
          rfl
        refine one_ (i := 14) (N := (some 85)) (bs_ 51 32767) rfl rfl (by kernel_rfl) (by decide) (fun K_ hK => ?_)
        refine goes_ Try.func21 (by kernel_rfl) rfl #[entryV zp, entryV z] (by rfl) rfl rfl (by (try simp only [List.map_toArray, List.map_cons, List.map_nil]); first | done | rfl) ?_
        refine (reforder_calls _ zp z (HSZ.out _ (List.mem_of_getElem? HZP.out)) (HSZ.out _ (List.mem_of_getElem? HZ.out))).mono ?_
        rw [HO1.out]
        rintro E w6 ⟨rfl, hb_⟩
        have HS1_1 := Aside0.mk (HS1.out.below hb_)
        clear hb_
        refine ⟨_, rfl, ?_⟩
        clear hHeld
        refine hK.out _ _ (⟨(blk_cell (HS1_1.out.blk 0 rfl) 1).trans rfl, (HKC.out _ (keep_below HS1_1.out.keep) (i0 + 1) z HZ.out).1, (HKC.out _ (keep_below HS1_1.out.keep) (i0 + 1) z HZ.out).2.1, (HKC.out _ (keep_below HS1_1.out.keep) (i0 + 1) z HZ.out).2.2, (HKC.out _ (keep_below HS1_1.out.keep) i0 zp HZP.out).1, (HKC.out _ (keep_below HS1_1.out.keep) i0 zp HZP.out).2.1, (HKC.out _ (keep_below HS1_1.out.keep) i0 zp HZP.out).2.2⟩) (fun hHeld => ?_)
        clear hK K_
        refine norm_ (a' := ?_) ?_ ?_
        rotate_left
        · show Act.put _ (some 85) _ = _
          simp only [Act.put, List.setIfInBounds_toArray, List.set_cons_zero, List.set_cons_succ, i64_w, i32_w]
          rfl
        refine pure_ (i := 15) (N := (some 86)) (v := ?_) (a' := ?_) (bs_ 51 65535) rfl rfl (by kernel_rfl) (fun _ _ _ h => h) (Or.inl ⟨by rfl, ?_⟩) ?_ ?_
        rotate_left
        · intro w'
          go_simp
          with_reducible rfl
        rotate_left
        · simp only [Act.put, List.setIfInBounds_toArray, List.set_cons_zero, List.set_cons_succ, i64_w, i32_w]
          rfl
        refine pure_ (i := 16) (N := (some 87)) (v := ?_) (a' := ?_) (bs_ 51 131071) rfl rfl (by kernel_rfl) (fun _ _ _ h => h) (Or.inl ⟨by rfl, ?_⟩) ?_ ?_
        rotate_left
        · intro w'
          go_simp
          with_reducible rfl
        rotate_left
        · simp only [Act.put, List.setIfInBounds_toArray, List.set_cons_zero, List.set_cons_succ, i64_w, i32_w]
          rfl
        refine pure_ (i := 17) (N := (some 88)) (v := ?_) (a' := ?_) (bs_ 51 262143) rfl rfl (by kernel_rfl) (fun _ _ _ h => h) (Or.inl ⟨by rfl, ?_⟩) ?_ ?_
        rotate_left
        · intro w'
          go_simp
          with_reducible rfl
        rotate_left
        · simp only [Act.put, List.setIfInBounds_toArray, List.set_cons_zero, List.set_cons_succ, i64_w, i32_w]
          rfl
        refine pure_ (i := 18) (N := (some 89)) (v := ?_) (a' := ?_) (bs_ 51 524287) rfl rfl (by kernel_rfl) (fun _ _ _ h => h) (Or.inl ⟨by rfl, ?_⟩) ?_ ?_
        rotate_left
        · intro w'
          go_simp
          with_reducible rfl
        rotate_left
        · simp only [Act.put, List.setIfInBounds_toArray, List.set_cons_zero, List.set_cons_succ, i64_w, i32_w]
          rfl
        refine pure_ (i := 19) (N := (some 90)) (v := ?_) (a' := ?_) (bs_ 51 1048575) rfl rfl (by kernel_rfl) (fun _ _ _ h => h) (Or.inl ⟨by rfl, ?_⟩) ?_ ?_
        rotate_left
        · intro w'
          go_simp
          with_reducible rfl
        rotate_left
        · simp only [Act.put, List.setIfInBounds_toArray, List.set_cons_zero, List.set_cons_succ, i64_w, i32_w]
          rfl
        refine pure_ (i := 20) (N := (some 91)) (v := ?_) (a' := ?_) (bs_ 51 2097151) rfl rfl (by kernel_rfl) (fun _ _ _ h => h) (Or.inl ⟨by rfl, ?_⟩) ?_ ?_
        rotate_left
        · intro w'
          go_simp
          with_reducible rfl
        rotate_left
        · simp only [Act.put, List.setIfInBounds_toArray, List.set_cons_zero, List.set_cons_succ, i64_w, i32_w]
          rfl
        refine pure_ (i := 21) (N := (some 92)) (v := ?_) (a' := ?_) (bs_ 51 4194303) rfl rfl (by kernel_rfl) (fun _ _ _ h => h) (Or.inl ⟨by rfl, ?_⟩) ?_ ?_
        rotate_left
        · intro w'
          go_simp
          with_reducible rfl
        rotate_left
        · simp only [Act.put, List.setIfInBounds_toArray, List.set_cons_zero, List.set_cons_succ, i64_w, i32_w]
          rfl
        refine pure_ (i := 22) (N := (some 93)) (v := undef) (a' := ?_) (bs_ 51 8388607) rfl rfl (by kernel_rfl) (fun _ _ _ h => h) (Or.inr ⟨by rfl, rfl⟩) ?_ ?_
        rotate_left
        · simp only [Act.put, List.setIfInBounds_toArray, List.set_cons_zero, List.set_cons_succ, i64_w, i32_w]
          rfl
        refine pure_ (i := 24) (N := (some 95)) (v := undef) (a' := ?_) (bs_ 51 25165823) rfl rfl (by kernel_rfl) (fun _ _ _ h => h) (Or.inr ⟨by rfl, rfl⟩) ?_ ?_
        rotate_left
        · simp only [Act.put, List.setIfInBounds_toArray, List.set_cons_zero, List.set_cons_succ, i64_w, i32_w]
          rfl
        refine pure_ (i := 27) (N := (some 98)) (v := undef) (a' := ?_) (bs_ 51 159383551) rfl rfl (by kernel_rfl) (fun _ _ _ h => h) (Or.inr ⟨by rfl, rfl⟩) ?_ ?_
        rotate_left
        · simp only [Act.put, List.setIfInBounds_toArray, List.set_cons_zero, List.set_cons_succ, i64_w, i32_w]
          rfl
        refine pure_ (i := 28) (N := (some 99)) (v := undef) (a' := ?_) (bs_ 51 427819007) rfl rfl (by kernel_rfl) (fun _ _ _ h => h) (Or.inr ⟨by rfl, rfl⟩) ?_ ?_
        rotate_left
        · simp only [Act.put, List.setIfInBounds_toArray, List.set_cons_zero, List.set_cons_succ, i64_w, i32_w]
          rfl
        refine pure_ (i := 23) (N := (some 94)) (v := undef) (a' := ?_) (bs_ 51 436207615) rfl rfl (by kernel_rfl) (fun _ _ _ h => h) (Or.inr ⟨by rfl, rfl⟩) ?_ ?_
        rotate_left
        · simp only [Act.put, List.setIfInBounds_toArray, List.set_cons_zero, List.set_cons_succ, i64_w, i32_w]
          rfl
        refine pure_ (i := 25) (N := (some 96)) (v := undef) (a' := ?_) (bs_ 51 469762047) rfl rfl (by kernel_rfl) (fun _ _ _ h => h) (Or.inr ⟨by rfl, rfl⟩) ?_ ?_
        rotate_left
        · simp only [Act.put, List.setIfInBounds_toArray, List.set_cons_zero, List.set_cons_succ, i64_w, i32_w]
          rfl
        refine pure_ (i := 26) (N := (some 97)) (v := undef) (a' := ?_) (bs_ 51 536870911) rfl rfl (by kernel_rfl) (fun _ _ _ h => h) (Or.inr ⟨by rfl, rfl⟩) ?_ ?_
        rotate_left
        · simp only [Act.put, List.setIfInBounds_toArray, List.set_cons_zero, List.set_cons_succ, i64_w, i32_w]
          rfl
        refine pure_ (i := 29) (N := (some 100)) (v := undef) (a' := ?_) (bs_ 51 1073741823) rfl rfl (by kernel_rfl) (fun _ _ _ h => h) (Or.inr ⟨by rfl, rfl⟩) ?_ ?_
        rotate_left
        · simp only [Act.put, List.setIfInBounds_toArray, List.set_cons_zero, List.set_cons_succ, i64_w, i32_w]
          rfl
        refine one_ (i := 30) (N := (some 101)) (bs_ 51 2147483647) rfl rfl (by kernel_rfl) (by decide) (fun K_ hK => ?_)
        refine no_ (by rfl) ?_
        refine hK.out _ _ hHeld (fun hHeld => ?_)
        clear hK K_
        refine norm_ (a' := ?_) ?_ ?_
        rotate_left
        · show Act.put _ (some 101) _ = _
          simp only [Act.put, List.setIfInBounds_toArray, List.set_cons_zero, List.set_cons_succ, i64_w, i32_w]
          rfl
        refine pure_ (i := 31) (N := (some 102)) (v := undef) (a' := ?_) (bs_ 51 4294967295) rfl rfl (by kernel_rfl) (fun _ _ _ h => h) (Or.inr ⟨by rfl, rfl⟩) ?_ ?_
        rotate_left
        · simp only [Act.put, List.setIfInBounds_toArray, List.set_cons_zero, List.set_cons_succ, i64_w, i32_w]
          rfl
        refine pure_ (i := 32) (N := (some 103)) (v := ?_) (a' := ?_) (bs_ 51 8589934591) rfl rfl (by kernel_rfl) (fun _ _ _ h => h) (Or.inl ⟨by rfl, ?_⟩) ?_ ?_
        rotate_left
        · intro w'
          go_simp
          with_reducible rfl
        rotate_left
        · simp only [Act.put, List.setIfInBounds_toArray, List.set_cons_zero, List.set_cons_succ, i64_w, i32_w]
          rfl
        refine pure_ (i := 33) (N := (some 104)) (v := ?_) (a' := ?_) (bs_ 51 17179869183) rfl rfl (by kernel_rfl) (fun _ _ _ h => h) (Or.inl ⟨by rfl, ?_⟩) ?_ ?_
        rotate_left
        · intro w'
          go_simp
          with_reducible rfl
        rotate_left
        · simp only [Act.put, List.setIfInBounds_toArray, List.set_cons_zero, List.set_cons_succ, i64_w, i32_w]
          rfl
        refine pure_ (i := 34) (N := (some 105)) (v := ?_) (a' := ?_) (bs_ 51 34359738367) rfl rfl (by kernel_rfl) (fun _ _ _ h => h) (Or.inl ⟨by rfl, ?_⟩) ?_ ?_
        rotate_left
        · intro w'
          go_simp
          with_reducible rfl
        rotate_left
        · simp only [Act.put, List.setIfInBounds_toArray, List.set_cons_zero, List.set_cons_succ, i64_w, i32_w]
          rfl
        refine pure_ (i := 35) (N := (some 106)) (v := ?_) (a' := ?_) (bs_ 51 68719476735) rfl rfl (by kernel_rfl) (fun _ _ _ h => h) (Or.inl ⟨by rfl, ?_⟩) ?_ ?_
        rotate_left
        · intro w'
          go_simp
          with_reducible rfl
        rotate_left
        · simp only [Act.put, List.setIfInBounds_toArray, List.set_cons_zero, List.set_cons_succ, i64_w, i32_w]
          rfl
        refine pure_ (i := 36) (N := (some 107)) (v := ?_) (a' := ?_) (bs_ 51 137438953471) rfl rfl (by kernel_rfl) (fun _ _ _ h => h) (Or.inl ⟨by rfl, ?_⟩) ?_ ?_
        rotate_left
        · intro w'
          go_simp
          with_reducible rfl
        rotate_left
        · simp only [Act.put, List.setIfInBounds_toArray, List.set_cons_zero, List.set_cons_succ, i64_w, i32_w]
          rfl
        refine pure_ (i := 37) (N := (some 108)) (v := ?_) (a' := ?_) (bs_ 51 274877906943) rfl rfl (by kernel_rfl) (fun _ _ _ h => h) (Or.inl ⟨by rfl, ?_⟩) ?_ ?_
        rotate_left
        · intro w'
          go_simp
          with_reducible rfl
        rotate_left
        · simp only [Act.put, List.setIfInBounds_toArray, List.set_cons_zero, List.set_cons_succ, i64_w, i32_w]
          rfl
        refine pure_ (i := 38) (N := (some 109)) (v := ?_) (a' := ?_) (bs_ 51 549755813887) rfl rfl (by kernel_rfl) (fun _ _ _ h => h) (Or.inl ⟨by rfl, ?_⟩) ?_ ?_
        rotate_left
        · intro w'
          go_simp
          with_reducible rfl
        rotate_left
        · simp only [Act.put, List.setIfInBounds_toArray, List.set_cons_zero, List.set_cons_succ, i64_w, i32_w]
          rfl
        refine pure_ (i := 39) (N := (some 110)) (v := undef) (a' := ?_) (bs_ 51 1099511627775) rfl rfl (by kernel_rfl) (fun _ _ _ h => h) (Or.inr ⟨by rfl, rfl⟩) ?_ ?_
        rotate_left
        · simp only [Act.put, List.setIfInBounds_toArray, List.set_cons_zero, List.set_cons_succ, i64_w, i32_w]
          rfl
        refine pure_ (i := 41) (N := (some 112)) (v := undef) (a' := ?_) (bs_ 51 3298534883327) rfl rfl (by kernel_rfl) (fun _ _ _ h => h) (Or.inr ⟨by rfl, rfl⟩) ?_ ?_
        rotate_left
        · simp only [Act.put, List.setIfInBounds_toArray, List.set_cons_zero, List.set_cons_succ, i64_w, i32_w]
          rfl
        refine pure_ (i := 44) (N := (some 115)) (v := undef) (a' := ?_) (bs_ 51 20890720927743) rfl rfl (by kernel_rfl) (fun _ _ _ h => h) (Or.inr ⟨by rfl, rfl⟩) ?_ ?_
        rotate_left
        · simp only [Act.put, List.setIfInBounds_toArray, List.set_cons_zero, List.set_cons_succ, i64_w, i32_w]
          rfl
        refine pure_ (i := 45) (N := (some 116)) (v := undef) (a' := ?_) (bs_ 51 56075093016575) rfl rfl (by kernel_rfl) (fun _ _ _ h => h) (Or.inr ⟨by rfl, rfl⟩) ?_ ?_
        rotate_left
        · simp only [Act.put, List.setIfInBounds_toArray, List.set_cons_zero, List.set_cons_succ, i64_w, i32_w]
          rfl
        refine pure_ (i := 40) (N := (some 111)) (v := undef) (a' := ?_) (bs_ 51 57174604644351) rfl rfl (by kernel_rfl) (fun _ _ _ h => h) (Or.inr ⟨by rfl, rfl⟩) ?_ ?_
        rotate_left
        · simp only [Act.put, List.setIfInBounds_toArray, List.set_cons_zero, List.set_cons_succ, i64_w, i32_w]
          rfl
        refine pure_ (i := 42) (N := (some 113)) (v := undef) (a' := ?_) (bs_ 51 61572651155455) rfl rfl (by kernel_rfl) (fun _ _ _ h => h) (Or.inr ⟨by rfl, rfl⟩) ?_ ?_
        rotate_left
        · simp only [Act.put, List.setIfInBounds_toArray, List.set_cons_zero, List.set_cons_succ, i64_w, i32_w]
          rfl
        refine pure_ (i := 43) (N := (some 114)) (v := undef) (a' := ?_) (bs_ 51 70368744177663) rfl rfl (by kernel_rfl) (fun _ _ _ h => h) (Or.inr ⟨by rfl, rfl⟩) ?_ ?_
        rotate_left
        · simp only [Act.put, List.setIfInBounds_toArray, List.set_cons_zero, List.set_cons_succ, i64_w, i32_w]
          rfl
        refine pure_ (i := 46) (N := (some 117)) (v := undef) (a' := ?_) (bs_ 51 140737488355327) rfl rfl (by kernel_rfl) (fun _ _ _ h => h) (Or.inr ⟨by rfl, rfl⟩) ?_ ?_
        rotate_left
        · simp only [Act.put, List.setIfInBounds_toArray, List.set_cons_zero, List.set_cons_succ, i64_w, i32_w]
          rfl
        refine one_ (i := 47) (N := (some 118)) (bs_ 51 281474976710655) rfl rfl (by kernel_rfl) (by decide) (fun K_ hK => ?_)
        refine no_ (by rfl) ?_
        refine hK.out _ _ hHeld (fun hHeld => ?_)
        clear hK K_
        refine norm_ (a' := ?_) ?_ ?_
        rotate_left
        · show Act.put _ (some 118) _ = _
          simp only [Act.put, List.setIfInBounds_toArray, List.set_cons_zero, List.set_cons_succ, i64_w, i32_w]
          rfl
        refine pure_ (i := 48) (N := (some 119)) (v := undef) (a' := ?_) (bs_ 51 562949953421311) rfl rfl (by kernel_rfl) (fun _ _ _ h => h) (Or.inr ⟨by rfl, rfl⟩) ?_ ?_
        rotate_left
        · simp only [Act.put, List.setIfInBounds_toArray, List.set_cons_zero, List.set_cons_succ, i64_w, i32_w]
          rfl
        refine pure_ (i := 49) (N := (some 120)) (v := ?_) (a' := ?_) (bs_ 51 1125899906842623) rfl rfl (by kernel_rfl) (fun _ _ _ h => h) (Or.inl ⟨by rfl, ?_⟩) ?_ ?_
        rotate_left
        · intro w'
          go_simp
          with_reducible rfl
        rotate_left
        · simp only [Act.put, List.setIfInBounds_toArray, List.set_cons_zero, List.set_cons_succ, i64_w, i32_w]
          rfl
        refine pure_ (i := 50) (N := (some 121)) (v := ?_) (a' := ?_) (bs_ 51 2251799813685247) rfl rfl (by kernel_rfl) (fun _ _ _ h => h) (Or.inl ⟨by rfl, ?_⟩) ?_ ?_
        rotate_left
        · intro w'
          go_simp
          with_reducible rfl
        rotate_left
        · simp only [Act.put, List.setIfInBounds_toArray, List.set_cons_zero, List.set_cons_succ, i64_w, i32_w]
          rfl
        refine done_ (by kernel_rfl) ?_
        clear hHeld HKC HZ HSRT HSZ HOK
        clear him1 hb0 hb1 hb2 hb4 hb5 hb6 hw0 HZP
        go_wp2
        go_roundg gq
        case measure => omega
        case rel => exact ⟨i0 + 1 + 1, by go_num, by omega, HS1_1⟩
    | zero =>
      obtain rfl : i = n := by omega
      obtain ⟨k0, k1, k2⟩ := HLFA.out (by first | trivial | rfl)
      obtain rfl : m = 0 := by rw [← HM.out, k0]; rfl
      have HS1 := Aside0.mk (HS.out.below (⟨rfl, rfl, rfl, Nat.le_refl _, fun _ _ => rfl⟩ : Below wr.heap.size wr wr.drew))
      have b0 : wr.cell? ⟨xb, 0, none⟩ = some (.bool true) := (blk_cell (HS.out.blk 0 rfl) 0).trans rfl
      have HK1 := Aside0.mk k1
      have HK2 := Aside0.mk k2
      clear k0 k1 k2
      go_wp2
      clear b0 HS
      refine start_ (n := 10) (S := fun w' => w'.cell? ⟨xb, 1, none⟩ = some (.slice AK i cK) ∧ w'.cell? ⟨xb, 2, none⟩ = some (.slice AC 0 cC)) (ds := []) #[false, false, false, false, false, false, false, false, false, false] (by kernel_rfl) rfl rfl ⟨(blk_cell (HS1.out.blk 0 rfl) 1).trans rfl, (blk_cell (HS1.out.blk 0 rfl) 2).trans rfl⟩ (fun hHeld => ?_)
      refine pure_ (i := 0) (N := (some 124)) (v := ?_) (a' := ?_) (bs_ 10 1) rfl rfl (by kernel_rfl) (fun _ _ _ h => h) (Or.inl ⟨by rfl, ?_⟩) ?_ ?_
      rotate_left
      · intro w'
        go_simp
        with_reducible rfl
      rotate_left
      · simp only [Act.put, List.setIfInBounds_toArray, List.set_cons_zero, List.set_cons_succ, i64_w, i32_w]
        rfl
      refine pure_ (i := 2) (N := (some 126)) (v := ?_) (a' := ?_) (bs_ 10 5) rfl rfl (by kernel_rfl) (fun _ _ _ h => h) (Or.inl ⟨by rfl, ?_⟩) ?_ ?_
      rotate_left
      · intro w'
        go_simp
        with_reducible rfl
      rotate_left
      · simp only [Act.put, List.setIfInBounds_toArray, List.set_cons_zero, List.set_cons_succ, i64_w, i32_w]
        rfl
      refine pure_ (i := 3) (N := (some 127)) (v := ?_) (a' := ?_) (bs_ 10 13) rfl rfl (by kernel_rfl) (fun _ _ _ h => h) (Or.inl ⟨by rfl, ?_⟩) ?_ ?_
      rotate_left
      · intro w'
        go_simp
        with_reducible rfl
      rotate_left
      · simp only [Act.put, List.setIfInBounds_toArray, List.set_cons_zero, List.set_cons_succ, i64_w, i32_w]
        rfl
      refine take_ (i := 1) (N := (some 125)) (v := ?_) (a' := ?_) (bs_ 10 15) rfl rfl (by kernel_rfl) (fun _ _ _ h => h) (Or.inl ⟨by rfl, ?_⟩) hHeld ?_ ?_
      rotate_left
      · rintro w' ⟨s0, s1⟩
        go_simp
        with_reducible rfl
      rotate_left
      · simp only [Act.put, List.setIfInBounds_toArray, List.set_cons_zero, List.set_cons_succ, i64_w, i32_w]
        rfl
      refine pure_ (i := 7) (N := (some 10)) (v := ?_) (a' := ?_) (bs_ 10 143) rfl rfl (by kernel_rfl) (fun _ _ _ h => h) (Or.inl ⟨by rfl, ?_⟩) ?_ ?_
      rotate_left
      · intro w'
        go_simp
        with_reducible rfl
      rotate_left
      · simp only [Act.put, List.setIfInBounds_toArray, List.set_cons_zero, List.set_cons_succ, i64_w, i32_w]
        rfl
      refine pure_ (i := 8) (N := (some 11)) (v := ?_) (a' := ?_) (bs_ 10 399) rfl rfl (by kernel_rfl) (fun _ _ _ h => h) (Or.inl ⟨by rfl, ?_⟩) ?_ ?_
      rotate_left
      · intro w'
        go_simp
        with_reducible rfl
      rotate_left
      · simp only [Act.put, List.setIfInBounds_toArray, List.set_cons_zero, List.set_cons_succ, i64_w, i32_w]
        rfl
      refine take_ (i := 4) (N := (some 128)) (v := ?_) (a' := ?_) (bs_ 10 415) rfl rfl (by kernel_rfl) (fun _ _ _ h => h) (Or.inl ⟨by rfl, ?_⟩) hHeld ?_ ?_
      rotate_left
      · rintro w' ⟨s0, s1⟩
        go_simp
        with_reducible rfl
      rotate_left
      · simp only [Act.put, List.setIfInBounds_toArray, List.set_cons_zero, List.set_cons_succ, i64_w, i32_w]
        rfl
      refine pure_ (i := 5) (N := (some 129)) (v := ?_) (a' := ?_) (bs_ 10 447) rfl rfl (by kernel_rfl) (fun _ _ _ h => h) (Or.inl ⟨by rfl, ?_⟩) ?_ ?_
      rotate_left
      · intro w'
        go_simp
        with_reducible rfl
      rotate_left
      · simp only [Act.put, List.setIfInBounds_toArray, List.set_cons_zero, List.set_cons_succ, i64_w, i32_w]
        rfl
      refine pure_ (i := 6) (N := (some 130)) (v := ?_) (a' := ?_) (bs_ 10 511) rfl rfl (by kernel_rfl) (fun _ _ _ h => h) (Or.inl ⟨by rfl, ?_⟩) ?_ ?_
      rotate_left
      · intro w'
        go_simp
        with_reducible rfl
      rotate_left
      · simp only [Act.put, List.setIfInBounds_toArray, List.set_cons_zero, List.set_cons_succ, i64_w, i32_w]
        rfl
      refine pure_ (i := 9) (N := (some 12)) (v := ?_) (a' := ?_) (bs_ 10 1023) rfl rfl (by kernel_rfl) (fun _ _ _ h => h) (Or.inl ⟨by rfl, ?_⟩) ?_ ?_
      rotate_left
      · intro w'
        go_simp
        with_reducible rfl
      rotate_left
      · simp only [Act.put, List.setIfInBounds_toArray, List.set_cons_zero, List.set_cons_succ, i64_w, i32_w]
        rfl
      refine done_ (by kernel_rfl) ?_
      go_wp2
      go_ret3
      rw [← HR.out]
      exact ⟨.slice AK i cK, by rw [HK2.out]; rfl, by rw [HK1.out, List.flatten_singleton]; exact Row.below HOK.out.1 (keep_below HS1.out.keep), keep_below HS1.out.keep⟩
set_option maxHeartbeats 2000000 in
theorem shape_ri (W : World) (l : List Pg) (pv : Value) (d : Nat) (pg : Pg) (rs : List (List S29)) (dq : Int) (loF hiF : Nat → List S29)
    (hpgs : PgsAt W pv l) (hp : l[0]? = some pg) (hl : l.length < 100000) (hd : d ≤ 40)
    (hlf : pg.leaf = false) (hn4 : pg.ks.length ≤ 4) (hn2 : 1 ≤ pg.ks.length)
    (hsz : ∀ x ∈ pg.ks, x.f0.size < 1000000)
    (hsrt : Sorted pg.ks)
    (hleaf : pg.leaf = true → pg.kids = [] ∧ rs = [pg.ks] ∧ dq = (d : Int))
    (hin : pg.leaf = false → pg.kids.length = pg.ks.length + 1 ∧ rs.length = pg.ks.length + 1 ∧ 1 ≤ pg.ks.length ∧ (∀ k ∈ pg.kids, 0 < k) ∧ rs.flatten.length < 90000 ∧ loF 0 = [] ∧ (∀ i z, pg.ks[i]? = some z → loF (i + 1) = [z] ∧ hiF i = [z]) ∧ hiF pg.ks.length = [] ∧
      ∀ (i : Nat) (W' : World) (lv' hv' : Value) (kd : Int) (r : List S29), pg.kids[i]? = some kd → rs[i]? = some r → Below W.heap.size W W' → Edge W' lv' (loF i) → Edge W' hv' (hiF i) →
        Calls Try.prog 16 #[pv, .int .i64 kd, .int .i64 ((d : Int) + 1), lv', hv'] W' (ShapePost W' r dq)) :
    Calls Try.prog 16 #[pv, .int .i64 0, .int .i64 (d : Int), .slice none 0 0, .slice none 0 0] W (ShapePost W rs.flatten dq) := by
  have mixed : Try.prog.follows Departure.mixedOrders = true := by kernel_rfl
  have hu29 := Try.underlying29
  have hu35 := Try.underlying35
  obtain ⟨R, hR⟩ : ∃ R, ShapePost W rs.flatten dq = R := ⟨_, rfl⟩
  have HR := Aside0.mk hR
  rw [hR]
  obtain ⟨gp, cp, rfl, p0, p1, p2⟩ := hpgs.cells hp
  have hal := (List.getElem?_eq_some_iff.1 hp).1
  obtain ⟨n0, hn0⟩ : ∃ n0, l.length = n0 := ⟨_, rfl⟩
  rw [hn0] at hl hal hpgs hin
  rw [hn0]
  have hok := hpgs.2 pg (List.mem_of_getElem? hp)
  obtain ⟨lf, K, C, ks, kids⟩ := pg
  simp only at *
  subst hlf
  obtain ⟨AK, cK, rfl⟩ : ∃ A c, K = .slice A ks.length c := RowE.slice hok.1
  obtain ⟨AC, cC, rfl⟩ : ∃ A c, C = .slice A kids.length c := by
    rcases hok.2.2.2 with ⟨h1, h0⟩ | ⟨g, c, cur, h1, _⟩
    · change C = _ at h1
      change kids.length = 0 at h0
      subst h1
      exact ⟨_, _, by rw [h0]⟩
    · change C = .slice (some ⟨g, 0, none⟩) kids.length c at h1
      exact ⟨_, _, h1⟩
  obtain ⟨n, hn⟩ : ∃ n, ks.length = n := ⟨_, rfl⟩
  obtain ⟨m, hm⟩ : ∃ m, kids.length = m := ⟨_, rfl⟩
  rw [hn] at p1 hn4 hn2
  rw [hm] at p2
  obtain ⟨xb, hxb⟩ : ∃ b, W.heap.size = b := ⟨_, rfl⟩
  have hsx : St W NoF (W.alloc (.cells #[.bool false, .slice AK n cK, .slice AC m cC] 35)) [blkC xb (.cells #[.bool false, .slice AK n cK, .slice AC m cC] 35 (0, 0))] := (St.none W NoF).alloc _ 35 hxb
  have HSX := Aside0.mk hsx
  obtain ⟨wa, hwa⟩ : ∃ wa, W.alloc (.cells #[.bool false, .slice AK n cK, .slice AC m cC] 35) = wa := ⟨_, rfl⟩
  rw [hwa] at HSX
  have b0 : wa.cell? ⟨xb, 0, none⟩ = some (.bool false) := (blk_cell (HSX.out.blk 0 rfl) 0).trans rfl
  have b1 : wa.cell? ⟨xb, 1, none⟩ = some (.slice AK n cK) := (blk_cell (HSX.out.blk 0 rfl) 1).trans rfl
  have b2 : wa.cell? ⟨xb, 2, none⟩ = some (.slice AC m cC) := (blk_cell (HSX.out.blk 0 rfl) 2).trans rfl
  obtain ⟨ho1, ho2⟩ := hok
  change RowE W (.slice AK ks.length cK) ks at ho1
  change RowI W (.slice AC kids.length cC) kids at ho2
  rw [hn] at ho1
  rw [hm] at ho2
  have HOK := Aside0.mk (And.intro ho1 ho2)
  have HN := Aside0.mk hn
  have HM := Aside0.mk hm
  have HPG := Aside0.mk hpgs
  have HSZ := Aside0.mk hsz
  have HSRT := Aside0.mk hsrt
  have HN0 := Aside0.mk hn0
  have HLFA := Aside0.mk hleaf
  have HIN := Aside0.mk hin
  clear hleaf hin
  clear hR hpgs ho1 ho2 hn hm hsx hsz hsrt hp hn0
  have ha2 : (0 : Int) < (n0 : Int) := by omega
  have ha3 : decide ((n0 : Int) ≤ 0) = false := by first | (simp; done) | (simp; omega)
  have hd1 : decide ((40 : Int) < (d : Int)) = false := by first | (simp; done) | (simp; omega)
  have hn1 : decide ((4 : Int) < (n : Int)) = false := by first | (simp; done) | (simp; omega)
  have hn2' : decide ((n : Int) < 1) = false := by first | (simp; done) | (simp; omega)
  have hdum : True := trivial
  go_enter Try.func16, Try.ntmps16
  go_wp2
  go_loopg [15] n (fun gq v15 wx => ∃ i : Nat, v15 = .int .i64 i ∧ i + gq = n ∧ Aside0 (St W NoF wx [blkC xb (.cells #[.bool false, .slice AK n cK, .slice AC m cC] 35 (0, 0))]))
  case atStart => exact ⟨0, rfl, by omega, HSX⟩
  case round =>
    clear HSX b0 b1 b2
    obtain ⟨i, rfl, hi, HS⟩ := hrel
    cases gk with
    | succ gq =>
      have hin : i < n := by omega
      obtain ⟨g, c', hv, hnc⟩ := row_slice HOK.out.1 (by rw [HN.out]; omega)
      obtain ⟨rfl, -, rfl⟩ : AK = some ⟨g, 0, none⟩ ∧ True ∧ cK = c' := by
        injection hv with e1 e2 e3
        exact ⟨e1, trivial, e3⟩
      have HKC := Aside0.mk (show ∀ W' : World, Below W.heap.size W W' → ∀ i z, ks[i]? = some z → W'.cell? ⟨g, i * 3, none⟩ = some (.string z.f0) ∧ W'.cell? ⟨g, i * 3 + 1, none⟩ = some (.int .i64 z.f1.f0) ∧ W'.cell? ⟨g, i * 3 + 2, none⟩ = some (.int .i64 z.f1.f1) from fun W' hb i z hz => by
        obtain ⟨hi, rfl⟩ := List.getElem?_eq_some_iff.1 hz
        exact RowE.cells (Row.below HOK.out.1 hb) i hi)
      obtain ⟨z, hz⟩ : ∃ z, ks[i]? = some z := ⟨_, List.getElem?_eq_getElem (by rw [HN.out]; exact hin)⟩
      have HZ := Aside0.mk hz
      have HS1 := Aside0.mk (HS.out.below (⟨rfl, rfl, rfl, Nat.le_refl _, fun _ _ => rfl⟩ : Below wr.heap.size wr wr.drew))
      clear hz hv hnc
      cases i with
      | zero =>
        have hb3 : (0 : Int) < (n : Int) := by omega
        go_wp2
        clear HS
        refine start_ (n := 51) (S := fun w' => w'.cell? ⟨xb, 1, none⟩ = some (.slice (some ⟨g, 0, none⟩) n cK)) (ds := []) #[false, false, false, false, false, false, false, false, false, false, false, false, false, false, false, false, false, false, false, false, false, false, false, false, false, false, false, false, false, false, false, false, false, false, false, false, false, false, false, false, false, false, false, false, false, false, false, false, false, false, false] (by kernel_rfl) rfl rfl ((blk_cell (HS1.out.blk 0 rfl) 1).trans rfl) (fun hHeld => ?_)
        refine pure_ (i := 0) (N := (some 71)) (v := ?_) (a' := ?_) (bs_ 51 1) rfl rfl (by kernel_rfl) (fun _ _ _ h => h) (Or.inl ⟨by rfl, ?_⟩) ?_ ?_
        rotate_left
        · intro w'
          go_simp
          with_reducible rfl
        rotate_left
        · simp only [Act.put, List.setIfInBounds_toArray, List.set_cons_zero, List.set_cons_succ, i64_w, i32_w]
          rfl
        refine pure_ (i := 1) (N := (some 72)) (v := ?_) (a' := ?_) (bs_ 51 3) rfl rfl (by kernel_rfl) (fun _ _ _ h => h) (Or.inl ⟨by rfl, ?_⟩) ?_ ?_
        rotate_left
        · intro w'
          go_simp
          with_reducible rfl
        rotate_left
        · simp only [Act.put, List.setIfInBounds_toArray, List.set_cons_zero, List.set_cons_succ, i64_w, i32_w]
          rfl
        refine pure_ (i := 2) (N := (some 73)) (v := ?_) (a' := ?_) (bs_ 51 7) rfl rfl (by kernel_rfl) (fun _ _ _ h => h) (Or.inl ⟨by rfl, ?_⟩) ?_ ?_
        rotate_left
        · intro w'
          go_simp
          with_reducible rfl
        rotate_left
        · simp only [Act.put, List.setIfInBounds_toArray, List.set_cons_zero, List.set_cons_succ, i64_w, i32_w]
          rfl
        refine pure_ (i := 3) (N := (some 74)) (v := undef) (a' := ?_) (bs_ 51 15) rfl rfl (by kernel_rfl) (fun _ _ _ h => h) (Or.inr ⟨by rfl, rfl⟩) ?_ ?_
        rotate_left
        · simp only [Act.put, List.setIfInBounds_toArray, List.set_cons_zero, List.set_cons_succ, i64_w, i32_w]
          rfl
        refine pure_ (i := 5) (N := (some 76)) (v := undef) (a' := ?_) (bs_ 51 47) rfl rfl (by kernel_rfl) (fun _ _ _ h => h) (Or.inr ⟨by rfl, rfl⟩) ?_ ?_
        rotate_left
        · simp only [Act.put, List.setIfInBounds_toArray, List.set_cons_zero, List.set_cons_succ, i64_w, i32_w]
          rfl
        refine pure_ (i := 6) (N := (some 77)) (v := undef) (a' := ?_) (bs_ 51 111) rfl rfl (by kernel_rfl) (fun _ _ _ h => h) (Or.inr ⟨by rfl, rfl⟩) ?_ ?_
        rotate_left
        · simp only [Act.put, List.setIfInBounds_toArray, List.set_cons_zero, List.set_cons_succ, i64_w, i32_w]
          rfl
        refine pure_ (i := 9) (N := (some 80)) (v := undef) (a' := ?_) (bs_ 51 623) rfl rfl (by kernel_rfl) (fun _ _ _ h => h) (Or.inr ⟨by rfl, rfl⟩) ?_ ?_
        rotate_left
        · simp only [Act.put, List.setIfInBounds_toArray, List.set_cons_zero, List.set_cons_succ, i64_w, i32_w]
          rfl
        refine pure_ (i := 11) (N := (some 82)) (v := undef) (a' := ?_) (bs_ 51 2671) rfl rfl (by kernel_rfl) (fun _ _ _ h => h) (Or.inr ⟨by rfl, rfl⟩) ?_ ?_
        rotate_left
        · simp only [Act.put, List.setIfInBounds_toArray, List.set_cons_zero, List.set_cons_succ, i64_w, i32_w]
          rfl
        refine pure_ (i := 4) (N := (some 75)) (v := undef) (a' := ?_) (bs_ 51 2687) rfl rfl (by kernel_rfl) (fun _ _ _ h => h) (Or.inr ⟨by rfl, rfl⟩) ?_ ?_
        rotate_left
        · simp only [Act.put, List.setIfInBounds_toArray, List.set_cons_zero, List.set_cons_succ, i64_w, i32_w]
          rfl
        refine pure_ (i := 7) (N := (some 78)) (v := undef) (a' := ?_) (bs_ 51 2815) rfl rfl (by kernel_rfl) (fun _ _ _ h => h) (Or.inr ⟨by rfl, rfl⟩) ?_ ?_
        rotate_left
        · simp only [Act.put, List.setIfInBounds_toArray, List.set_cons_zero, List.set_cons_succ, i64_w, i32_w]
          rfl
        refine pure_ (i := 8) (N := (some 79)) (v := undef) (a' := ?_) (bs_ 51 3071) rfl rfl (by kernel_rfl) (fun _ _ _ h => h) (Or.inr ⟨by rfl, rfl⟩) ?_ ?_
        rotate_left
        · simp only [Act.put, List.setIfInBounds_toArray, List.set_cons_zero, List.set_cons_succ, i64_w, i32_w]
          rfl
        refine pure_ (i := 10) (N := (some 81)) (v := undef) (a' := ?_) (bs_ 51 4095) rfl rfl (by kernel_rfl) (fun _ _ _ h => h) (Or.inr ⟨by rfl, rfl⟩) ?_ ?_
        rotate_left
        · simp only [Act.put, List.setIfInBounds_toArray, List.set_cons_zero, List.set_cons_succ, i64_w, i32_w]
          rfl
        refine pure_ (i := 12) (N := (some 83)) (v := undef) (a' := ?_) (bs_ 51 8191) rfl rfl (by kernel_rfl) (fun _ _ _ h => h) (Or.inr ⟨by rfl, rfl⟩) ?_ ?_
        rotate_left
        · simp only [Act.put, List.setIfInBounds_toArray, List.set_cons_zero, List.set_cons_succ, i64_w, i32_w]
          rfl
        refine pure_ (i := 13) (N := (some 84)) (v := undef) (a' := ?_) (bs_ 51 16383) rfl rfl (by kernel_rfl) (fun _ _ _ h => h) (Or.inr ⟨by rfl, rfl⟩) ?_ ?_
        rotate_left
        · simp only [Act.put, List.setIfInBounds_toArray, List.set_cons_zero, List.set_cons_succ, i64_w, i32_w]
          rfl
        refine one_ (i := 14) (N := (some 85)) (bs_ 51 32767) rfl rfl (by kernel_rfl) (by decide) (fun K_ hK => ?_)
        refine no_ (by rfl) ?_
        refine hK.out _ _ hHeld (fun hHeld => ?_)
        clear hK K_
        refine norm_ (a' := ?_) ?_ ?_
        rotate_left
        · show Act.put _ (some 85) _ = _
          simp only [Act.put, List.setIfInBounds_toArray, List.set_cons_zero, List.set_cons_succ, i64_w, i32_w]
          rfl
        refine pure_ (i := 15) (N := (some 86)) (v := undef) (a' := ?_) (bs_ 51 65535) rfl rfl (by kernel_rfl) (fun _ _ _ h => h) (Or.inr ⟨by rfl, rfl⟩) ?_ ?_
        rotate_left
        · simp only [Act.put, List.setIfInBounds_toArray, List.set_cons_zero, List.set_cons_succ, i64_w, i32_w]
          rfl
        refine pure_ (i := 16) (N := (some 87)) (v := ?_) (a' := ?_) (bs_ 51 131071) rfl rfl (by kernel_rfl) (fun _ _ _ h => h) (Or.inl ⟨by rfl, ?_⟩) ?_ ?_
        rotate_left
        · intro w'
          go_simp
          with_reducible rfl
        rotate_left
        · simp only [Act.put, List.setIfInBounds_toArray, List.set_cons_zero, List.set_cons_succ, i64_w, i32_w]
          rfl
        refine pure_ (i := 17) (N := (some 88)) (v := ?_) (a' := ?_) (bs_ 51 262143) rfl rfl (by kernel_rfl) (fun _ _ _ h => h) (Or.inl ⟨by rfl, ?_⟩) ?_ ?_
        rotate_left
        · intro w'
          go_simp
          with_reducible rfl
        rotate_left
        · simp only [Act.put, List.setIfInBounds_toArray, List.set_cons_zero, List.set_cons_succ, i64_w, i32_w]
          rfl
        refine pure_ (i := 18) (N := (some 89)) (v := ?_) (a' := ?_) (bs_ 51 524287) rfl rfl (by kernel_rfl) (fun _ _ _ h => h) (Or.inl ⟨by rfl, ?_⟩) ?_ ?_
        rotate_left
        · intro w'
          go_simp
          with_reducible rfl
        rotate_left
        · simp only [Act.put, List.setIfInBounds_toArray, List.set_cons_zero, List.set_cons_succ, i64_w, i32_w]
          rfl
        refine pure_ (i := 19) (N := (some 90)) (v := ?_) (a' := ?_) (bs_ 51 1048575) rfl rfl (by kernel_rfl) (fun _ _ _ h => h) (Or.inl ⟨by rfl, ?_⟩) ?_ ?_
        rotate_left
        · intro w'
          go_simp
          with_reducible rfl
        rotate_left
        · simp only [Act.put, List.setIfInBounds_toArray, List.set_cons_zero, List.set_cons_succ, i64_w, i32_w]
          rfl
        refine pure_ (i := 20) (N := (some 91)) (v := ?_) (a' := ?_) (bs_ 51 2097151) rfl rfl (by kernel_rfl) (fun _ _ _ h => h) (Or.inl ⟨by rfl, ?_⟩) ?_ ?_
        rotate_left
        · intro w'
          go_simp
          with_reducible rfl
        rotate_left
        · simp only [Act.put, List.setIfInBounds_toArray, List.set_cons_zero, List.set_cons_succ, i64_w, i32_w]
          rfl
        refine pure_ (i := 21) (N := (some 92)) (v := ?_) (a' := ?_) (bs_ 51 4194303) rfl rfl (by kernel_rfl) (fun _ _ _ h => h) (Or.inl ⟨by rfl, ?_⟩) ?_ ?_
        rotate_left
        · intro w'
          go_simp
          with_reducible rfl
        rotate_left
        · simp only [Act.put, List.setIfInBounds_toArray, List.set_cons_zero, List.set_cons_succ, i64_w, i32_w]
          rfl
        refine pure_ (i := 22) (N := (some 93)) (v := undef) (a' := ?_) (bs_ 51 8388607) rfl rfl (by kernel_rfl) (fun _ _ _ h => h) (Or.inr ⟨by rfl, rfl⟩) ?_ ?_
        rotate_left
        · simp only [Act.put, List.setIfInBounds_toArray, List.set_cons_zero, List.set_cons_succ, i64_w, i32_w]
          rfl
        refine pure_ (i := 24) (N := (some 95)) (v := undef) (a' := ?_) (bs_ 51 25165823) rfl rfl (by kernel_rfl) (fun _ _ _ h => h) (Or.inr ⟨by rfl, rfl⟩) ?_ ?_
        rotate_left
        · simp only [Act.put, List.setIfInBounds_toArray, List.set_cons_zero, List.set_cons_succ, i64_w, i32_w]
          rfl
        refine pure_ (i := 27) (N := (some 98)) (v := undef) (a' := ?_) (bs_ 51 159383551) rfl rfl (by kernel_rfl) (fun _ _ _ h => h) (Or.inr ⟨by rfl, rfl⟩) ?_ ?_
        rotate_left
        · simp only [Act.put, List.setIfInBounds_toArray, List.set_cons_zero, List.set_cons_succ, i64_w, i32_w]
          rfl
        refine pure_ (i := 28) (N := (some 99)) (v := undef) (a' := ?_) (bs_ 51 427819007) rfl rfl (by kernel_rfl) (fun _ _ _ h => h) (Or.inr ⟨by rfl, rfl⟩) ?_ ?_
        rotate_left
        · simp only [Act.put, List.setIfInBounds_toArray, List.set_cons_zero, List.set_cons_succ, i64_w, i32_w]
          rfl
        refine pure_ (i := 23) (N := (some 94)) (v := undef) (a' := ?_) (bs_ 51 436207615) rfl rfl (by kernel_rfl) (fun _ _ _ h => h) (Or.inr ⟨by rfl, rfl⟩) ?_ ?_
        rotate_left
        · simp only [Act.put, List.setIfInBounds_toArray, List.set_cons_zero, List.set_cons_succ, i64_w, i32_w]
          rfl
        refine pure_ (i := 25) (N := (some 96)) (v := undef) (a' := ?_) (bs_ 51 469762047) rfl rfl (by kernel_rfl) (fun _ _ _ h => h) (Or.inr ⟨by rfl, rfl⟩) ?_ ?_
        rotate_left
        · simp only [Act.put, List.setIfInBounds_toArray, List.set_cons_zero, List.set_cons_succ, i64_w, i32_w]
          rfl
        refine pure_ (i := 26) (N := (some 97)) (v := undef) (a' := ?_) (bs_ 51 536870911) rfl rfl (by kernel_rfl) (fun _ _ _ h => h) (Or.inr ⟨by rfl, rfl⟩) ?_ ?_
        rotate_left
        · simp only [Act.put, List.setIfInBounds_toArray, List.set_cons_zero, List.set_cons_succ, i64_w, i32_w]
          rfl
        refine pure_ (i := 29) (N := (some 100)) (v := undef) (a' := ?_) (bs_ 51 1073741823) rfl rfl (by kernel_rfl) (fun _ _ _ h => h) (Or.inr ⟨by rfl, rfl⟩) ?_ ?_
        rotate_left
        · simp only [Act.put, List.setIfInBounds_toArray, List.set_cons_zero, List.set_cons_succ, i64_w, i32_w]
          rfl
        refine one_ (i := 30) (N := (some 101)) (bs_ 51 2147483647) rfl rfl (by kernel_rfl) (by decide) (fun K_ hK => ?_)
        refine no_ (by rfl) ?_
        refine hK.out _ _ hHeld (fun hHeld => ?_)
        clear hK K_
        refine norm_ (a' := ?_) ?_ ?_
        rotate_left
        · show Act.put _ (some 101) _ = _
          simp only [Act.put, List.setIfInBounds_toArray, List.set_cons_zero, List.set_cons_succ, i64_w, i32_w]
          rfl
        refine pure_ (i := 31) (N := (some 102)) (v := undef) (a' := ?_) (bs_ 51 4294967295) rfl rfl (by kernel_rfl) (fun _ _ _ h => h) (Or.inr ⟨by rfl, rfl⟩) ?_ ?_
        rotate_left
        · simp only [Act.put, List.setIfInBounds_toArray, List.set_cons_zero, List.set_cons_succ, i64_w, i32_w]
          rfl
        refine pure_ (i := 32) (N := (some 103)) (v := ?_) (a' := ?_) (bs_ 51 8589934591) rfl rfl (by kernel_rfl) (fun _ _ _ h => h) (Or.inl ⟨by rfl, ?_⟩) ?_ ?_
        rotate_left
        · intro w'
          go_simp
          with_reducible rfl
        rotate_left
        · simp only [Act.put, List.setIfInBounds_toArray, List.set_cons_zero, List.set_cons_succ, i64_w, i32_w]
          rfl
        refine pure_ (i := 33) (N := (some 104)) (v := ?_) (a' := ?_) (bs_ 51 17179869183) rfl rfl (by kernel_rfl) (fun _ _ _ h => h) (Or.inl ⟨by rfl, ?_⟩) ?_ ?_
        rotate_left
        · intro w'
          go_simp
          with_reducible rfl
        rotate_left
        · simp only [Act.put, List.setIfInBounds_toArray, List.set_cons_zero, List.set_cons_succ, i64_w, i32_w]
          rfl
        refine pure_ (i := 34) (N := (some 105)) (v := ?_) (a' := ?_) (bs_ 51 34359738367) rfl rfl (by kernel_rfl) (fun _ _ _ h => h) (Or.inl ⟨by rfl, ?_⟩) ?_ ?_
        rotate_left
        · intro w'
          go_simp
          with_reducible rfl
        rotate_left
        · simp only [Act.put, List.setIfInBounds_toArray, List.set_cons_zero, List.set_cons_succ, i64_w, i32_w]
          rfl
        refine pure_ (i := 35) (N := (some 106)) (v := ?_) (a' := ?_) (bs_ 51 68719476735) rfl rfl (by kernel_rfl) (fun _ _ _ h => h) (Or.inl ⟨by rfl, ?_⟩) ?_ ?_
        rotate_left
        · intro w'
          go_simp
          with_reducible rfl
        rotate_left
        · simp only [Act.put, List.setIfInBounds_toArray, List.set_cons_zero, List.set_cons_succ, i64_w, i32_w]
          rfl
        refine pure_ (i := 36) (N := (some 107)) (v := ?_) (a' := ?_) (bs_ 51 137438953471) rfl rfl (by kernel_rfl) (fun _ _ _ h => h) (Or.inl ⟨by rfl, ?_⟩) ?_ ?_
        rotate_left
        · intro w'
          go_simp
          with_reducible rfl
        rotate_left
        · simp only [Act.put, List.setIfInBounds_toArray, List.set_cons_zero, List.set_cons_succ, i64_w, i32_w]
          rfl
        refine pure_ (i := 37) (N := (some 108)) (v := ?_) (a' := ?_) (bs_ 51 274877906943) rfl rfl (by kernel_rfl) (fun _ _ _ h => h) (Or.inl ⟨by rfl, ?_⟩) ?_ ?_
        rotate_left
        · intro w'
          go_simp
          with_reducible rfl
        rotate_left
        · simp only [Act.put, List.setIfInBounds_toArray, List.set_cons_zero, List.set_cons_succ, i64_w, i32_w]
          rfl
        refine pure_ (i := 38) (N := (some 109)) (v := ?_) (a' := ?_) (bs_ 51 549755813887) rfl rfl (by kernel_rfl) (fun _ _ _ h => h) (Or.inl ⟨by rfl, ?_⟩) ?_ ?_
        rotate_left
        · intro w'
          go_simp
          with_reducible rfl
        rotate_left
        · simp only [Act.put, List.setIfInBounds_toArray, List.set_cons_zero, List.set_cons_succ, i64_w, i32_w]
          rfl
        refine pure_ (i := 39) (N := (some 110)) (v := undef) (a' := ?_) (bs_ 51 1099511627775) rfl rfl (by kernel_rfl) (fun _ _ _ h => h) (Or.inr ⟨by rfl, rfl⟩) ?_ ?_
        rotate_left
        · simp only [Act.put, List.setIfInBounds_toArray, List.set_cons_zero, List.set_cons_succ, i64_w, i32_w]
          rfl
        refine pure_ (i := 41) (N := (some 112)) (v := undef) (a' := ?_) (bs_ 51 3298534883327) rfl rfl (by kernel_rfl) (fun _ _ _ h => h) (Or.inr ⟨by rfl, rfl⟩) ?_ ?_
        rotate_left
        · simp only [Act.put, List.setIfInBounds_toArray, List.set_cons_zero, List.set_cons_succ, i64_w, i32_w]
          rfl
        refine pure_ (i := 44) (N := (some 115)) (v := undef) (a' := ?_) (bs_ 51 20890720927743) rfl rfl (by kernel_rfl) (fun _ _ _ h => h) (Or.inr ⟨by rfl, rfl⟩) ?_ ?_
        rotate_left
        · simp only [Act.put, List.setIfInBounds_toArray, List.set_cons_zero, List.set_cons_succ, i64_w, i32_w]
          rfl
        refine pure_ (i := 45) (N := (some 116)) (v := undef) (a' := ?_) (bs_ 51 56075093016575) rfl rfl (by kernel_rfl) (fun _ _ _ h => h) (Or.inr ⟨by rfl, rfl⟩) ?_ ?_
        rotate_left
        · simp only [Act.put, List.setIfInBounds_toArray, List.set_cons_zero, List.set_cons_succ, i64_w, i32_w]
          rfl
        refine pure_ (i := 40) (N := (some 111)) (v := undef) (a' := ?_) (bs_ 51 57174604644351) rfl rfl (by kernel_rfl) (fun _ _ _ h => h) (Or.inr ⟨by rfl, rfl⟩) ?_ ?_
        rotate_left
        · simp only [Act.put, List.setIfInBounds_toArray, List.set_cons_zero, List.set_cons_succ, i64_w, i32_w]
          rfl
        refine pure_ (i := 42) (N := (some 113)) (v := undef) (a' := ?_) (bs_ 51 61572651155455) rfl rfl (by kernel_rfl) (fun _ _ _ h => h) (Or.inr ⟨by rfl, rfl⟩) ?_ ?_
        rotate_left
        · simp only [Act.put, List.setIfInBounds_toArray, List.set_cons_zero, List.set_cons_succ, i64_w, i32_w]
          rfl
        refine pure_ (i := 43) (N := (some 114)) (v := undef) (a' := ?_) (bs_ 51 70368744177663) rfl rfl (by kernel_rfl) (fun _ _ _ h => h) (Or.inr ⟨by rfl, rfl⟩) ?_ ?_
        rotate_left
        · simp only [Act.put, List.setIfInBounds_toArray, List.set_cons_zero, List.set_cons_succ, i64_w, i32_w]
          rfl
        refine pure_ (i := 46) (N := (some 117)) (v := undef) (a' := ?_) (bs_ 51 140737488355327) rfl rfl (by kernel_rfl) (fun _ _ _ h => h) (Or.inr ⟨by rfl, rfl⟩) ?_ ?_
        rotate_left
        · simp only [Act.put, List.setIfInBounds_toArray, List.set_cons_zero, List.set_cons_succ, i64_w, i32_w]
          rfl
        refine one_ (i := 47) (N := (some 118)) (bs_ 51 281474976710655) rfl rfl (by kernel_rfl) (by decide) (fun K_ hK => ?_)
        refine no_ (by rfl) ?_
        refine hK.out _ _ hHeld (fun hHeld => ?_)
        clear hK K_
        refine norm_ (a' := ?_) ?_ ?_
        rotate_left
        · show Act.put _ (some 118) _ = _
          simp only [Act.put, List.setIfInBounds_toArray, List.set_cons_zero, List.set_cons_succ, i64_w, i32_w]
          rfl
        refine pure_ (i := 48) (N := (some 119)) (v := undef) (a' := ?_) (bs_ 51 562949953421311) rfl rfl (by kernel_rfl) (fun _ _ _ h => h) (Or.inr ⟨by rfl, rfl⟩) ?_ ?_
        rotate_left
        · simp only [Act.put, List.setIfInBounds_toArray, List.set_cons_zero, List.set_cons_succ, i64_w, i32_w]
          rfl
        refine pure_ (i := 49) (N := (some 120)) (v := ?_) (a' := ?_) (bs_ 51 1125899906842623) rfl rfl (by kernel_rfl) (fun _ _ _ h => h) (Or.inl ⟨by rfl, ?_⟩) ?_ ?_
        rotate_left
        · intro w'
          go_simp
          with_reducible rfl
        rotate_left
        · simp only [Act.put, List.setIfInBounds_toArray, List.set_cons_zero, List.set_cons_succ, i64_w, i32_w]
          rfl
        refine pure_ (i := 50) (N := (some 121)) (v := ?_) (a' := ?_) (bs_ 51 2251799813685247) rfl rfl (by kernel_rfl) (fun _ _ _ h => h) (Or.inl ⟨by rfl, ?_⟩) ?_ ?_
        rotate_left
        · intro w'
          go_simp
          with_reducible rfl
        rotate_left
        · simp only [Act.put, List.setIfInBounds_toArray, List.set_cons_zero, List.set_cons_succ, i64_w, i32_w]
          rfl
        refine done_ (by kernel_rfl) ?_
        clear hHeld HKC HZ HSRT HSZ HOK
        go_wp2
        go_roundg gq
        case measure => omega
        case rel => exact ⟨1, by go_num, by omega, HS1⟩
      | succ i0 =>
        have him1 : ((i0 + 1 : Nat) : Int) - 1 = (i0 : Int) := by omega
        have hb0 : (0 : Int) ≤ (i0 : Int) := by omega
        have hb1 : (i0 : Int) < (n : Int) := by omega
        have hb2 : (0 : Int) ≤ ((i0 + 1 : Nat) : Int) := by omega
        have hb3 : ((i0 + 1 : Nat) : Int) < (n : Int) := by omega
        have hb4 : (0 : Int) ≤ (i0 : Int) + 1 := by omega
        have hb5 : (i0 : Int) + 1 < (n : Int) := by omega
        have hb6 : (0 : Int) < (i0 : Int) + 1 := by omega
        have hw0 : wrap64 (i0 : Int) = (i0 : Int) := IntWalk.wrap64_in _ (by omega)
        obtain ⟨zp, hzp⟩ : ∃ z, ks[i0]? = some z := ⟨_, List.getElem?_eq_getElem (by rw [HN.out]; omega)⟩
        have HZP := Aside0.mk hzp
        obtain ⟨o1, ho1⟩ : ∃ o, ord zp z = o := ⟨_, rfl⟩
        have HO1 := Aside0.mk ho1
        have hq1 : decide (0 ≤ o1) = false := decide_eq_false (by
          obtain ⟨p1, p2⟩ := List.getElem?_eq_some_iff.1 hzp
          obtain ⟨p3, p4⟩ := List.getElem?_eq_some_iff.1 HZ.out
          have : ord ks[i0] ks[i0 + 1] < 0 := List.pairwise_iff_getElem.1 HSRT.out i0 (i0 + 1) p1 p3 (by omega)
          rw [p2, p4, ho1] at this
          omega)
        clear hzp ho1
        go_wp2
        clear HS
        refine start_ (n := 51) (S := fun w' => w'.cell? ⟨xb, 1, none⟩ = some (.slice (some ⟨g, 0, none⟩) n cK) ∧ w'.cell? ⟨g, (i0 + 1) * 3, none⟩ = some (.string z.f0) ∧ w'.cell? ⟨g, (i0 + 1) * 3 + 1, none⟩ = some (.int .i64 z.f1.f0) ∧ w'.cell? ⟨g, (i0 + 1) * 3 + 2, none⟩ = some (.int .i64 z.f1.f1) ∧ w'.cell? ⟨g, i0 * 3, none⟩ = some (.string zp.f0) ∧ w'.cell? ⟨g, i0 * 3 + 1, none⟩ = some (.int .i64 zp.f1.f0) ∧ w'.cell? ⟨g, i0 * 3 + 2, none⟩ = some (.int .i64 zp.f1.f1)) (ds := []) #[false, false, false, false, false, false, false, false, false, false, false, false, false, false, false, false, false, false, false, false, false, false, false, false, false, false, false, false, false, false, false, false, false, false, false, false, false, false, false, false, false, false, false, false, false, false, false, false, false, false, false] (by kernel_rfl) rfl rfl (⟨(blk_cell (HS1.out.blk 0 rfl) 1).trans rfl, (HKC.out _ (keep_below HS1.out.keep) (i0 + 1) z HZ.out).1, (HKC.out _ (keep_below HS1.out.keep) (i0 + 1) z HZ.out).2.1, (HKC.out _ (keep_below HS1.out.keep) (i0 + 1) z HZ.out).2.2, (HKC.out _ (keep_below HS1.out.keep) i0 zp HZP.out).1, (HKC.out _ (keep_below HS1.out.keep) i0 zp HZP.out).2.1, (HKC.out _ (keep_below HS1.out.keep) i0 zp HZP.out).2.2⟩) (fun hHeld => ?_)
        refine pure_ (i := 0) (N := (some 71)) (v := ?_) (a' := ?_) (bs_ 51 1) rfl rfl (by kernel_rfl) (fun _ _ _ h => h) (Or.inl ⟨by rfl, ?_⟩) ?_ ?_
        rotate_left
        · intro w'
          go_simp
          with_reducible rfl
        rotate_left
        · simp only [Act.put, List.setIfInBounds_toArray, List.set_cons_zero, List.set_cons_succ, i64_w, i32_w]
          rfl
        refine pure_ (i := 1) (N := (some 72)) (v := ?_) (a' := ?_) (bs_ 51 3) rfl rfl (by kernel_rfl) (fun _ _ _ h => h) (Or.inl ⟨by rfl, ?_⟩) ?_ ?_
        rotate_left
        · intro w'
          go_simp
          with_reducible rfl
        rotate_left
        · simp only [Act.put, List.setIfInBounds_toArray, List.set_cons_zero, List.set_cons_succ, i64_w, i32_w]
          rfl
        refine pure_ (i := 2) (N := (some 73)) (v := ?_) (a' := ?_) (bs_ 51 7) rfl rfl (by kernel_rfl) (fun _ _ _ h => h) (Or.inl ⟨by rfl, ?_⟩) ?_ ?_
        rotate_left
        · intro w'
          go_simp
          with_reducible rfl
        rotate_left
        · simp only [Act.put, List.setIfInBounds_toArray, List.set_cons_zero, List.set_cons_succ, i64_w, i32_w]
          rfl
        refine pure_ (i := 3) (N := (some 74)) (v := ?_) (a' := ?_) (bs_ 51 15) rfl rfl (by kernel_rfl) (fun _ _ _ h => h) (Or.inl ⟨by rfl, ?_⟩) ?_ ?_
        rotate_left
        · intro w'
          go_simp
          with_reducible rfl
        rotate_left
        · simp only [Act.put, List.setIfInBounds_toArray, List.set_cons_zero, List.set_cons_succ, i64_w, i32_w]
          rfl
        refine pure_ (i := 5) (N := (some 76)) (v := ?_) (a' := ?_) (bs_ 51 47) rfl rfl (by kernel_rfl) (fun _ _ _ h => h) (Or.inl ⟨by rfl, ?_⟩) ?_ ?_
        rotate_left
        · intro w'
          go_simp
          with_reducible rfl
        rotate_left
        · simp only [Act.put, List.setIfInBounds_toArray, List.set_cons_zero, List.set_cons_succ, i64_w, i32_w]
          rfl
        refine pure_ (i := 6) (N := (some 77)) (v := ?_) (a' := ?_) (bs_ 51 111) rfl rfl (by kernel_rfl) (fun _ _ _ h => h) (Or.inl ⟨by rfl, ?_⟩) ?_ ?_
        rotate_left
        · intro w'
          go_simp
          with_reducible rfl
        rotate_left
        · simp only [Act.put, List.setIfInBounds_toArray, List.set_cons_zero, List.set_cons_succ, i64_w, i32_w]
          rfl
        refine pure_ (i := 9) (N := (some 80)) (v := ?_) (a' := ?_) (bs_ 51 623) rfl rfl (by kernel_rfl) (fun _ _ _ h => h) (Or.inl ⟨by rfl, ?_⟩) ?_ ?_
        rotate_left
        · intro w'
          go_simp
          with_reducible rfl
        rotate_left
        · simp only [Act.put, List.setIfInBounds_toArray, List.set_cons_zero, List.set_cons_succ, i64_w, i32_w]
          rfl
        refine pure_ (i := 11) (N := (some 82)) (v := ?_) (a' := ?_) (bs_ 51 2671) rfl rfl (by kernel_rfl) (fun _ _ _ h => h) (Or.inl ⟨by rfl, ?_⟩) ?_ ?_
        rotate_left
        · intro w'
          go_simp
          with_reducible rfl
        rotate_left
        · simp only [Act.put, List.setIfInBounds_toArray, List.set_cons_zero, List.set_cons_succ, i64_w, i32_w]
          rfl
        refine take_ (i := 4) (N := (some 75)) (v := ?_) (a' := ?_) (bs_ 51 2687) rfl rfl (by kernel_rfl) (fun _ _ _ h => h) (Or.inl ⟨by rfl, ?_⟩) hHeld ?_ ?_
        rotate_left
        · rintro w' ⟨s0, s1, s2, s3, s4, s5, s6⟩
          go_simp
          with_reducible rfl
        rotate_left
        · simp only [Act.put, List.setIfInBounds_toArray, List.set_cons_zero, List.set_cons_succ, i64_w, i32_w]
          rfl
        refine pure_ (i := 7) (N := (some 78)) (v := ?_) (a' := ?_) (bs_ 51 2815) rfl rfl (by kernel_rfl) (fun _ _ _ h => h) (Or.inl ⟨by rfl, ?_⟩) ?_ ?_
        rotate_left
        · intro w'
          go_simp
          with_reducible rfl
        rotate_left
        · simp only [Act.put, List.setIfInBounds_toArray, List.set_cons_zero, List.set_cons_succ, i64_w, i32_w]
          rfl
        refine take_ (i := 8) (N := (some 79)) (v := ?_) (a' := ?_) (bs_ 51 3071) rfl rfl (by kernel_rfl) (fun _ _ _ h => h) (Or.inl ⟨by rfl, ?_⟩) hHeld ?_ ?_
        rotate_left
        · rintro w' ⟨s0, s1, s2, s3, s4, s5, s6⟩
          go_simp
          with_reducible rfl
        rotate_left
        · simp only [Act.put, List.setIfInBounds_toArray, List.set_cons_zero, List.set_cons_succ, i64_w, i32_w]
          rfl
        refine take_ (i := 10) (N := (some 81)) (v := ?_) (a' := ?_) (bs_ 51 4095) rfl rfl (by kernel_rfl) (fun _ _ _ h => h) (Or.inl ⟨by rfl, ?_⟩) hHeld ?_ ?_
        rotate_left
        · rintro w' ⟨s0, s1, s2, s3, s4, s5, s6⟩
          go_simp
          with_reducible rfl
        rotate_left
        · simp only [Act.put, List.setIfInBounds_toArray, List.set_cons_zero, List.set_cons_succ, i64_w, i32_w]
          rfl
        refine pure_ (i := 12) (N := (some 83)) (v := ?_) (a' := ?_) (bs_ 51 8191) rfl rfl (by kernel_rfl) (fun _ _ _ h => h) (Or.inl ⟨by rfl, ?_⟩) ?_ ?_
        rotate_left
        · intro w'
          go_simp
          with_reducible rfl
        rotate_left
        · simp only [Act.put, List.setIfInBounds_toArray, List.set_cons_zero, List.set_cons_succ, i64_w, i32_w]
          rfl
        refine take_ (i := 13) (N := (some 84)) (v := ?_) (a' := ?_) (bs_ 51 16383) rfl rfl (by kernel_rfl) (fun _ _ _ h => h) (Or.inl ⟨by rfl, ?_⟩) hHeld ?_ ?_
        rotate_left
        · rintro w' ⟨s0, s1, s2, s3, s4, s5, s6⟩
          go_simp
          with_reducible rfl
        rotate_left
        · simp only [Act.put, List.setIfInBounds_toArray, List.set_cons_zero, List.set_cons_succ, i64_w, i32_w]
          rfl
        refine one_ (i := 14) (N := (some 85)) (bs_ 51 32767) rfl rfl (by kernel_rfl) (by decide) (fun K_ hK => ?_)
        refine goes_ Try.func21 (by kernel_rfl) rfl #[entryV zp, entryV z] (by rfl) rfl rfl (by (try simp only [List.map_toArray, List.map_cons, List.map_nil]); first | done | rfl) ?_
        refine (reforder_calls _ zp z (HSZ.out _ (List.mem_of_getElem? HZP.out)) (HSZ.out _ (List.mem_of_getElem? HZ.out))).mono ?_
        rw [HO1.out]
        rintro E w6 ⟨rfl, hb_⟩
        have HS1_1 := Aside0.mk (HS1.out.below hb_)
        clear hb_
        refine ⟨_, rfl, ?_⟩
        clear hHeld
        refine hK.out _ _ (⟨(blk_cell (HS1_1.out.blk 0 rfl) 1).trans rfl, (HKC.out _ (keep_below HS1_1.out.keep) (i0 + 1) z HZ.out).1, (HKC.out _ (keep_below HS1_1.out.keep) (i0 + 1) z HZ.out).2.1, (HKC.out _ (keep_below HS1_1.out.keep) (i0 + 1) z HZ.out).2.2, (HKC.out _ (keep_below HS1_1.out.keep) i0 zp HZP.out).1, (HKC.out _ (keep_below HS1_1.out.keep) i0 zp HZP.out).2.1, (HKC.out _ (keep_below HS1_1.out.keep) i0 zp HZP.out).2.2⟩) (fun hHeld => ?_)
        clear hK K_
        refine norm_ (a' := ?_) ?_ ?_
        rotate_left
        · show Act.put _ (some 85) _ = _
          simp only [Act.put, List.setIfInBounds_toArray, List.set_cons_zero, List.set_cons_succ, i64_w, i32_w]
          rfl
        refine pure_ (i := 15) (N := (some 86)) (v := ?_) (a' := ?_) (bs_ 51 65535) rfl rfl (by kernel_rfl) (fun _ _ _ h => h) (Or.inl ⟨by rfl, ?_⟩) ?_ ?_
        rotate_left
        · intro w'
          go_simp
          with_reducible rfl
        rotate_left
        · simp only [Act.put, List.setIfInBounds_toArray, List.set_cons_zero, List.set_cons_succ, i64_w, i32_w]
          rfl
        refine pure_ (i := 16) (N := (some 87)) (v := ?_) (a' := ?_) (bs_ 51 131071) rfl rfl (by kernel_rfl) (fun _ _ _ h => h) (Or.inl ⟨by rfl, ?_⟩) ?_ ?_
        rotate_left
        · intro w'
          go_simp
          with_reducible rfl
        rotate_left
        · simp only [Act.put, List.setIfInBounds_toArray, List.set_cons_zero, List.set_cons_succ, i64_w, i32_w]
          rfl
        refine pure_ (i := 17) (N := (some 88)) (v := ?_) (a' := ?_) (bs_ 51 262143) rfl rfl (by kernel_rfl) (fun _ _ _ h => h) (Or.inl ⟨by rfl, ?_⟩) ?_ ?_
        rotate_left
        · intro w'
          go_simp
          with_reducible rfl
        rotate_left
        · simp only [Act.put, List.setIfInBounds_toArray, List.set_cons_zero, List.set_cons_succ, i64_w, i32_w]
          rfl
        refine pure_ (i := 18) (N := (some 89)) (v := ?_) (a' := ?_) (bs_ 51 524287) rfl rfl (by kernel_rfl) (fun _ _ _ h => h) (Or.inl ⟨by rfl, ?_⟩) ?_ ?_
        rotate_left
        · intro w'
          go_simp
          with_reducible rfl
        rotate_left
        · simp only [Act.put, List.setIfInBounds_toArray, List.set_cons_zero, List.set_cons_succ, i64_w, i32_w]
          rfl
        refine pure_ (i := 19) (N := (some 90)) (v := ?_) (a' := ?_) (bs_ 51 1048575) rfl rfl (by kernel_rfl) (fun _ _ _ h => h) (Or.inl ⟨by rfl, ?_⟩) ?_ ?_
        rotate_left
        · intro w'
          go_simp
          with_reducible rfl
        rotate_left
        · simp only [Act.put, List.setIfInBounds_toArray, List.set_cons_zero, List.set_cons_succ, i64_w, i32_w]
          rfl
        refine pure_ (i := 20) (N := (some 91)) (v := ?_) (a' := ?_) (bs_ 51 2097151) rfl rfl (by kernel_rfl) (fun _ _ _ h => h) (Or.inl ⟨by rfl, ?_⟩) ?_ ?_
        rotate_left
        · intro w'
          go_simp
          with_reducible rfl
        rotate_left
        · simp only [Act.put, List.setIfInBounds_toArray, List.set_cons_zero, List.set_cons_succ, i64_w, i32_w]
          rfl
        refine pure_ (i := 21) (N := (some 92)) (v := ?_) (a' := ?_) (bs_ 51 4194303) rfl rfl (by kernel_rfl) (fun _ _ _ h => h) (Or.inl ⟨by rfl, ?_⟩) ?_ ?_
        rotate_left
        · intro w'
          go_simp
          with_reducible rfl
        rotate_left
        · simp only [Act.put, List.setIfInBounds_toArray, List.set_cons_zero, List.set_cons_succ, i64_w, i32_w]
          rfl
        refine pure_ (i := 22) (N := (some 93)) (v := undef) (a' := ?_) (bs_ 51 8388607) rfl rfl (by kernel_rfl) (fun _ _ _ h => h) (Or.inr ⟨by rfl, rfl⟩) ?_ ?_
        rotate_left
        · simp only [Act.put, List.setIfInBounds_toArray, List.set_cons_zero, List.set_cons_succ, i64_w, i32_w]
          rfl
        refine pure_ (i := 24) (N := (some 95)) (v := undef) (a' := ?_) (bs_ 51 25165823) rfl rfl (by kernel_rfl) (fun _ _ _ h => h) (Or.inr ⟨by rfl, rfl⟩) ?_ ?_
        rotate_left
        · simp only [Act.put, List.setIfInBounds_toArray, List.set_cons_zero, List.set_cons_succ, i64_w, i32_w]
          rfl
        refine pure_ (i := 27) (N := (some 98)) (v := undef) (a' := ?_) (bs_ 51 159383551) rfl rfl (by kernel_rfl) (fun _ _ _ h => h) (Or.inr ⟨by rfl, rfl⟩) ?_ ?_
        rotate_left
        · simp only [Act.put, List.setIfInBounds_toArray, List.set_cons_zero, List.set_cons_succ, i64_w, i32_w]
          rfl
        refine pure_ (i := 28) (N := (some 99)) (v := undef) (a' := ?_) (bs_ 51 427819007) rfl rfl (by kernel_rfl) (fun _ _ _ h => h) (Or.inr ⟨by rfl, rfl⟩) ?_ ?_
        rotate_left
        · simp only [Act.put, List.setIfInBounds_toArray, List.set_cons_zero, List.set_cons_succ, i64_w, i32_w]
          rfl
        refine pure_ (i := 23) (N := (some 94)) (v := undef) (a' := ?_) (bs_ 51 436207615) rfl rfl (by kernel_rfl) (fun _ _ _ h => h) (Or.inr ⟨by rfl, rfl⟩) ?_ ?_
        rotate_left
        · simp only [Act.put, List.setIfInBounds_toArray, List.set_cons_zero, List.set_cons_succ, i64_w, i32_w]
          rfl
        refine pure_ (i := 25) (N := (some 96)) (v := undef) (a' := ?_) (bs_ 51 469762047) rfl rfl (by kernel_rfl) (fun _ _ _ h => h) (Or.inr ⟨by rfl, rfl⟩) ?_ ?_
        rotate_left
        · simp only [Act.put, List.setIfInBounds_toArray, List.set_cons_zero, List.set_cons_succ, i64_w, i32_w]
          rfl
        refine pure_ (i := 26) (N := (some 97)) (v := undef) (a' := ?_) (bs_ 51 536870911) rfl rfl (by kernel_rfl) (fun _ _ _ h => h) (Or.inr ⟨by rfl, rfl⟩) ?_ ?_
        rotate_left
        · simp only [Act.put, List.setIfInBounds_toArray, List.set_cons_zero, List.set_cons_succ, i64_w, i32_w]
          rfl
        refine pure_ (i := 29) (N := (some 100)) (v := undef) (a' := ?_) (bs_ 51 1073741823) rfl rfl (by kernel_rfl) (fun _ _ _ h => h) (Or.inr ⟨by rfl, rfl⟩) ?_ ?_
        rotate_left
        · simp only [Act.put, List.setIfInBounds_toArray, List.set_cons_zero, List.set_cons_succ, i64_w, i32_w]
          rfl
        refine one_ (i := 30) (N := (some 101)) (bs_ 51 2147483647) rfl rfl (by kernel_rfl) (by decide) (fun K_ hK => ?_)
        refine no_ (by rfl) ?_
        refine hK.out _ _ hHeld (fun hHeld => ?_)
        clear hK K_
        refine norm_ (a' := ?_) ?_ ?_
        rotate_left
        · show Act.put _ (some 101) _ = _
          simp only [Act.put, List.setIfInBounds_toArray, List.set_cons_zero, List.set_cons_succ, i64_w, i32_w]
          rfl
        refine pure_ (i := 31) (N := (some 102)) (v := undef) (a' := ?_) (bs_ 51 4294967295) rfl rfl (by kernel_rfl) (fun _ _ _ h => h) (Or.inr ⟨by rfl, rfl⟩) ?_ ?_
        rotate_left
        · simp only [Act.put, List.setIfInBounds_toArray, List.set_cons_zero, List.set_cons_succ, i64_w, i32_w]
          rfl
        refine pure_ (i := 32) (N := (some 103)) (v := ?_) (a' := ?_) (bs_ 51 8589934591) rfl rfl (by kernel_rfl) (fun _ _ _ h => h) (Or.inl ⟨by rfl, ?_⟩) ?_ ?_
        rotate_left
        · intro w'
          go_simp
          with_reducible rfl
        rotate_left
        · simp only [Act.put, List.setIfInBounds_toArray, List.set_cons_zero, List.set_cons_succ, i64_w, i32_w]
          rfl
        refine pure_ (i := 33) (N := (some 104)) (v := ?_) (a' := ?_) (bs_ 51 17179869183) rfl rfl (by kernel_rfl) (fun _ _ _ h => h) (Or.inl ⟨by rfl, ?_⟩) ?_ ?_
        rotate_left
        · intro w'
          go_simp
          with_reducible rfl
        rotate_left
        · simp only [Act.put, List.setIfInBounds_toArray, List.set_cons_zero, List.set_cons_succ, i64_w, i32_w]
          rfl
        refine pure_ (i := 34) (N := (some 105)) (v := ?_) (a' := ?_) (bs_ 51 34359738367) rfl rfl (by kernel_rfl) (fun _ _ _ h => h) (Or.inl ⟨by rfl, ?_⟩) ?_ ?_
        rotate_left
        · intro w'
          go_simp
          with_reducible rfl
        rotate_left
        · simp only [Act.put, List.setIfInBounds_toArray, List.set_cons_zero, List.set_cons_succ, i64_w, i32_w]
          rfl
        refine pure_ (i := 35) (N := (some 106)) (v := ?_) (a' := ?_) (bs_ 51 68719476735) rfl rfl (by kernel_rfl) (fun _ _ _ h => h) (Or.inl ⟨by rfl, ?_⟩) ?_ ?_
        rotate_left
        · intro w'
          go_simp
          with_reducible rfl
        rotate_left
        · simp only [Act.put, List.setIfInBounds_toArray, List.set_cons_zero, List.set_cons_succ, i64_w, i32_w]
          rfl
        refine pure_ (i := 36) (N := (some 107)) (v := ?_) (a' := ?_) (bs_ 51 137438953471) rfl rfl (by kernel_rfl) (fun _ _ _ h => h) (Or.inl ⟨by rfl, ?_⟩) ?_ ?_
        rotate_left
        · intro w'
          go_simp
          with_reducible rfl
        rotate_left
        · simp only [Act.put, List.setIfInBounds_toArray, List.set_cons_zero, List.set_cons_succ, i64_w, i32_w]
          rfl
        refine pure_ (i := 37) (N := (some 108)) (v := ?_) (a' := ?_) (bs_ 51 274877906943) rfl rfl (by kernel_rfl) (fun _ _ _ h => h) (Or.inl ⟨by rfl, ?_⟩) ?_ ?_
        rotate_left
        · intro w'
          go_simp
          with_reducible rfl
        rotate_left
        · simp only [Act.put, List.setIfInBounds_toArray, List.set_cons_zero, List.set_cons_succ, i64_w, i32_w]
          rfl
        refine pure_ (i := 38) (N := (some 109)) (v := ?_) (a' := ?_) (bs_ 51 549755813887) rfl rfl (by kernel_rfl) (fun _ _ _ h => h) (Or.inl ⟨by rfl, ?_⟩) ?_ ?_
        rotate_left
        · intro w'
          go_simp
          with_reducible rfl
        rotate_left
        · simp only [Act.put, List.setIfInBounds_toArray, List.set_cons_zero, List.set_cons_succ, i64_w, i32_w]
          rfl
        refine pure_ (i := 39) (N := (some 110)) (v := undef) (a' := ?_) (bs_ 51 1099511627775) rfl rfl (by kernel_rfl) (fun _ _ _ h => h) (Or.inr ⟨by rfl, rfl⟩) ?_ ?_
        rotate_left
        · simp only [Act.put, List.setIfInBounds_toArray, List.set_cons_zero, List.set_cons_succ, i64_w, i32_w]
          rfl
        refine pure_ (i := 41) (N := (some 112)) (v := undef) (a' := ?_) (bs_ 51 3298534883327) rfl rfl (by kernel_rfl) (fun _ _ _ h => h) (Or.inr ⟨by rfl, rfl⟩) ?_ ?_
        rotate_left
        · simp only [Act.put, List.setIfInBounds_toArray, List.set_cons_zero, List.set_cons_succ, i64_w, i32_w]
          rfl
        refine pure_ (i := 44) (N := (some 115)) (v := undef) (a' := ?_) (bs_ 51 20890720927743) rfl rfl (by kernel_rfl) (fun _ _ _ h => h) (Or.inr ⟨by rfl, rfl⟩) ?_ ?_
        rotate_left
        · simp only [Act.put, List.setIfInBounds_toArray, List.set_cons_zero, List.set_cons_succ, i64_w, i32_w]
          rfl
        refine pure_ (i := 45) (N := (some 116)) (v := undef) (a' := ?_) (bs_ 51 56075093016575) rfl rfl (by kernel_rfl) (fun _ _ _ h => h) (Or.inr ⟨by rfl, rfl⟩) ?_ ?_
        rotate_left
        · simp only [Act.put, List.setIfInBounds_toArray, List.set_cons_zero, List.set_cons_succ, i64_w, i32_w]
          rfl
        refine pure_ (i := 40) (N := (some 111)) (v := undef) (a' := ?_) (bs_ 51 57174604644351) rfl rfl (by kernel_rfl) (fun _ _ _ h => h) (Or.inr ⟨by rfl, rfl⟩) ?_ ?_
        rotate_left
        · simp only [Act.put, List.setIfInBounds_toArray, List.set_cons_zero, List.set_cons_succ, i64_w, i32_w]
          rfl
        refine pure_ (i := 42) (N := (some 113)) (v := undef) (a' := ?_) (bs_ 51 61572651155455) rfl rfl (by kernel_rfl) (fun _ _ _ h => h) (Or.inr ⟨by rfl, rfl⟩) ?_ ?_
        rotate_left
        · simp only [Act.put, List.setIfInBounds_toArray, List.set_cons_zero, List.set_cons_succ, i64_w, i32_w]
          rfl
        refine pure_ (i := 43) (N := (some 114)) (v := undef) (a' := ?_) (bs_ 51 70368744177663) rfl rfl (by kernel_rfl) (fun _ _ _ h => h) (Or.inr ⟨by rfl, rfl⟩) ?_ ?_
        rotate_left
        · simp only [Act.put, List.setIfInBounds_toArray, List.set_cons_zero, List.set_cons_succ, i64_w, i32_w]
          rfl
        refine pure_ (i := 46) (N := (some 117)) (v := undef) (a' := ?_) (bs_ 51 140737488355327) rfl rfl (by kernel_rfl) (fun _ _ _ h => h) (Or.inr ⟨by rfl, rfl⟩) ?_ ?_
        rotate_left
        · simp only [Act.put, List.setIfInBounds_toArray, List.set_cons_zero, List.set_cons_succ, i64_w, i32_w]
          rfl
        refine one_ (i := 47) (N := (some 118)) (bs_ 51 281474976710655) rfl rfl (by kernel_rfl) (by decide) (fun K_ hK => ?_)
        refine no_ (by rfl) ?_
        refine hK.out _ _ hHeld (fun hHeld => ?_)
        clear hK K_
        refine norm_ (a' := ?_) ?_ ?_
        rotate_left
        · show Act.put _ (some 118) _ = _
          simp only [Act.put, List.setIfInBounds_toArray, List.set_cons_zero, List.set_cons_succ, i64_w, i32_w]
          rfl
        refine pure_ (i := 48) (N := (some 119)) (v := undef) (a' := ?_) (bs_ 51 562949953421311) rfl rfl (by kernel_rfl) (fun _ _ _ h => h) (Or.inr ⟨by rfl, rfl⟩) ?_ ?_
        rotate_left
        · simp only [Act.put, List.setIfInBounds_toArray, List.set_cons_zero, List.set_cons_succ, i64_w, i32_w]
          rfl
        refine pure_ (i := 49) (N := (some 120)) (v := ?_) (a' := ?_) (bs_ 51 1125899906842623) rfl rfl (by kernel_rfl) (fun _ _ _ h => h) (Or.inl ⟨by rfl, ?_⟩) ?_ ?_
        rotate_left
        · intro w'
          go_simp
          with_reducible rfl
        rotate_left
        · simp only [Act.put, List.setIfInBounds_toArray, List.set_cons_zero, List.set_cons_succ, i64_w, i32_w]
          rfl
        refine pure_ (i := 50) (N := (some 121)) (v := ?_) (a' := ?_) (bs_ 51 2251799813685247) rfl rfl (by kernel_rfl) (fun _ _ _ h => h) (Or.inl ⟨by rfl, ?_⟩) ?_ ?_
        rotate_left
        · intro w'
          go_simp
          with_reducible rfl
        rotate_left
        · simp only [Act.put, List.setIfInBounds_toArray, List.set_cons_zero, List.set_cons_succ, i64_w, i32_w]
          rfl
        refine done_ (by kernel_rfl) ?_
        clear hHeld HKC HZ HSRT HSZ HOK
        clear him1 hb0 hb1 hb2 hb4 hb5 hb6 hw0 HZP
        go_wp2
        go_roundg gq
        case measure => omega
        case rel => exact ⟨i0 + 1 + 1, by go_num, by omega, HS1_1⟩
    | zero =>
      obtain rfl : i = n := by omega
      obtain ⟨k0, k1, k2, k3, k4, k5, k6, k7, k8⟩ := HIN.out (by first | trivial | rfl)
      rw [HN.out] at k0 k1 k2 k7
      rw [HM.out] at k0
      subst k0
      have HK1 := Aside0.mk k1
      have HK3 := Aside0.mk k3
      have HK4 := Aside0.mk k4
      have HL0 := Aside0.mk k5
      have HLH := Aside0.mk k6
      have HHN := Aside0.mk k7
      have HREC := Aside0.mk k8
      obtain ⟨g, c', hv, hnc⟩ := row_slice HOK.out.1 (by rw [HN.out]; omega)
      obtain ⟨rfl, -, rfl⟩ : AK = some ⟨g, 0, none⟩ ∧ True ∧ cK = c' := by
        injection hv with e1 e2 e3
        exact ⟨e1, trivial, e3⟩
      obtain ⟨gc, cc', hvc, -⟩ := row_slice HOK.out.2 (by rw [HM.out]; omega)
      obtain ⟨rfl, -, rfl⟩ : AC = some ⟨gc, 0, none⟩ ∧ True ∧ cC = cc' := by
        injection hvc with e1 e2 e3
        exact ⟨e1, trivial, e3⟩
      rw [HN.out] at hnc
      clear k1 k3 k4 k5 k6 k7 k8 hv hvc
      have HS2 := Aside0.mk (st_row0 HS.out)
      have b0 : wr.cell? ⟨xb, 0, none⟩ = some (.bool false) := (blk_cell (HS.out.blk 0 rfl) 0).trans rfl
      have b2 : wr.cell? ⟨xb, 2, none⟩ = some (.slice (some ⟨gc, 0, none⟩) (i + 1) cC) := (blk_cell (HS.out.blk 0 rfl) 2).trans rfl
      have hii : ((i : Int) + 1 != (i : Int) + 1) = false := by simp
      clear HS
      go_wp2
      clear b0 b2 hii
      go_loopg [16, 17, 18] (i + 1) (fun gq v16 v17 v18 wx => ∃ (j : Nat) (va : Value) (acc : List S29) (dv : Int), va = v16 ∧ v17 = .int .i64 dv ∧ v18 = .int .i64 j ∧ j + gq = i + 1 ∧ Aside0 (acc = (rs.take j).flatten) ∧ Aside0 (0 < j → dv = dq) ∧ Aside0 (St W NoF wx [rowEC va acc, blkC xb (.cells #[.bool false, .slice (some ⟨g, 0, none⟩) i cK, .slice (some ⟨gc, 0, none⟩) (i + 1) cC] 35 (0, 0))]))
      case atStart => exact ⟨0, _, [], 0, rfl, rfl, rfl, by omega, Aside0.mk rfl, Aside0.mk fun h => absurd h (Nat.lt_irrefl _), HS2⟩
      case round =>
        clear HS2
        obtain ⟨j, va, acc, dv, rfl, rfl, rfl, hj, HACC, HDV, HS⟩ := hrel
        cases gk with
        | succ gq2 =>
          have hji : j ≤ i := by omega
          have hji2 : (j : Int) ≤ (i : Int) := by omega
          obtain ⟨kd, hkd⟩ : ∃ k, kids[j]? = some k := ⟨_, List.getElem?_eq_getElem (by rw [HM.out]; omega)⟩
          obtain ⟨r, hr⟩ : ∃ r, rs[j]? = some r := ⟨_, List.getElem?_eq_getElem (by rw [HK1.out]; omega)⟩
          have HBW := Aside0.mk (keep_below HS.out.keep)
          have b1 : wr.cell? ⟨xb, 1, none⟩ = some (.slice (some ⟨g, 0, none⟩) i cK) := (blk_cell (HS.out.blk 1 rfl) 1).trans rfl
          have b2 : wr.cell? ⟨xb, 2, none⟩ = some (.slice (some ⟨gc, 0, none⟩) (i + 1) cC) := (blk_cell (HS.out.blk 1 rfl) 2).trans rfl
          have hkd2 : decide (kd ≤ 0) = false := decide_eq_false (by have := HK3.out kd (List.mem_of_getElem? hkd); omega)
          have e0 : wr.cell? ⟨gc, j, none⟩ = some (.int .i64 kd) := (Row.below HOK.out.2 HBW.out).cell (by rw [HM.out]) j _ (by show (encIs kids)[j]? = _; unfold encIs; rw [List.getElem?_map, hkd]; rfl)
          have hpre : (rs.take (j + 1)).flatten = acc ++ r := by rw [List.take_add_one, hr, List.flatten_append, HACC.out]; simp
          have HACC2 := Aside0.mk hpre.symm
          have HBD2 := Aside0.mk (show acc.length + r.length < 100000 by
            have h1 : (rs.take (j + 1)).flatten.length ≤ rs.flatten.length := by
              conv => rhs; rw [← List.take_append_drop (j + 1) rs, List.flatten_append, List.length_append]
              omega
            have := HK4.out
            rw [hpre, List.length_append] at h1
            omega)
          have hl0 := HL0.out
          have hlh := HLH.out
          have hhn := HHN.out
          have hrec := HREC.out
          clear hpre
          rcases Nat.eq_zero_or_pos j with rfl | hj0
          · have hi0 : (0 : Int) < (i : Int) := by omega
            have hi1 : (0 : Int) < (i : Int) + 1 := by omega
            have hi2 : (1 : Int) ≤ (cK : Int) := by omega
            obtain ⟨z, hz⟩ : ∃ z, ks[0]? = some z := ⟨_, List.getElem?_eq_getElem (by rw [HN.out]; omega)⟩
            have HCALL := Aside0.mk (show ∀ lv' hv', Edge wr lv' (loF 0) → Edge wr hv' (hiF 0) → Calls Try.prog 16 #[.slice (some ⟨gp, 0, none⟩) n0 cp, .int .i64 kd, .int .i64 ((d : Int) + 1), lv', hv'] wr (ShapePost wr r dq) from fun lv' hv' e1 e2 => hrec 0 wr lv' hv' kd r hkd hr HBW.out e1 e2)
            have HEL : Edge wr (.slice none 0 0) (loF 0) := by rw [hl0]; exact Edge.nil _
            have HEH : ∀ c', Edge wr (.slice (some ⟨g, 0 * 3, none⟩) 1 c') (hiF 0) := fun c' => by rw [(hlh 0 z hz).2]; exact Edge.part (Row.below HOK.out.1 HBW.out) hz
            have HEL := Aside0.mk HEL
            have HEH := Aside0.mk HEH
            clear hz hkd hr hrec hl0 hlh hhn
            have hG1 : True := trivial
            go_wp2_with (first
              | (clear hG1; go_at_call 16; refine (HCALL.out _ _ HEL.out (HEH.out _)).mono ?_; clear HCALL HEL HEH b1 b2 e0; rintro E w2 ⟨vq, rfl, hrow, hbq⟩; have HROW := Aside0.mk hrow; have HS2 := Aside0.mk (HS.out.below hbq); clear hrow hbq HS)
              | (at_builtin; obtain ⟨v', w3, hrun, hrow2, hg2, hown⟩ := appendPart _ va vq acc r 22 (HS2.out.rowE 0 rfl) (part_of_row HROW.out) HBD2.out; have HS3 := Aside0.mk (HS2.out.setE 0 rfl hg2 hrow2 hown); refine wpList_append_run rfl (.tmp 196) (.tmp 197) 22 22 rfl va vq rfl rfl hrun ?_; clear hrun hrow2 hg2 hown))
            go_roundg gq2
            case measure => omega
            case rel => exact ⟨0 + 1, v', acc ++ r, dq, rfl, rfl, by go_num, by omega, HACC2, Aside0.mk fun _ => rfl, HS3⟩
          · obtain ⟨j0, rfl⟩ : ∃ j0, j = j0 + 1 := ⟨j - 1, by omega⟩
            have him1 : ((j0 + 1 : Nat) : Int) - 1 = (j0 : Int) := by omega
            have hb0 : (0 : Int) ≤ (j0 : Int) := by omega
            have hb4 : (0 : Int) ≤ (j0 : Int) + 1 := by omega
            have hb6 : (0 : Int) < (j0 : Int) + 1 := by omega
            have hb7 : (j0 : Int) ≤ (j0 : Int) + 1 := by omega
            have hb8 : (j0 : Int) + 1 ≤ (cK : Int) := by omega
            have hb9 : (j0 : Int) + 1 < (i : Int) + 1 := by omega
            have hb10 : (j0 : Int) + 1 ≤ (i : Int) := by omega
            have hw0 : wrap64 (j0 : Int) = (j0 : Int) := IntWalk.wrap64_in _ (by omega)
            rcases Nat.lt_or_ge (j0 + 1) i with hlt | hge
            · have hc1 : (j0 : Int) + 1 < (i : Int) := by omega
              have hc2 : (j0 : Int) + 1 + 1 ≤ (cK : Int) := by omega
              have hc3 : (0 : Int) ≤ (j0 : Int) + 1 + 1 := by omega
              have hc4 : (j0 : Int) + 1 ≤ (j0 : Int) + 1 + 1 := by omega
              obtain ⟨z, hz⟩ : ∃ z, ks[(j0 + 1)]? = some z := ⟨_, List.getElem?_eq_getElem (by rw [HN.out]; omega)⟩
              obtain ⟨zp, hzp⟩ : ∃ z, ks[j0]? = some z := ⟨_, List.getElem?_eq_getElem (by rw [HN.out]; omega)⟩
              obtain rfl : dq = dv := (HDV.out (by omega)).symm
              have HCALL := Aside0.mk (show ∀ lv' hv', Edge wr lv' (loF (j0 + 1)) → Edge wr hv' (hiF (j0 + 1)) → Calls Try.prog 16 #[.slice (some ⟨gp, 0, none⟩) n0 cp, .int .i64 kd, .int .i64 ((d : Int) + 1), lv', hv'] wr (ShapePost wr r dq) from fun lv' hv' e1 e2 => hrec (j0 + 1) wr lv' hv' kd r hkd hr HBW.out e1 e2)
              have HEL : ∀ c', Edge wr (.slice (some ⟨g, j0 * 3, none⟩) 1 c') (loF (j0 + 1)) := fun c' => by rw [(hlh j0 zp hzp).1]; exact Edge.part (Row.below HOK.out.1 HBW.out) hzp
              have HEH : ∀ c', Edge wr (.slice (some ⟨g, (j0 + 1) * 3, none⟩) 1 c') (hiF (j0 + 1)) := fun c' => by rw [(hlh (j0 + 1) z hz).2]; exact Edge.part (Row.below HOK.out.1 HBW.out) hz
              have HEL := Aside0.mk HEL
              have HEH := Aside0.mk HEH
              clear hz hzp hkd hr hrec hl0 hlh hhn
              have hG1 : True := trivial
              go_wp2_with (first
                | (clear hG1; go_at_call 16; refine (HCALL.out _ _ (HEL.out _) (HEH.out _)).mono ?_; clear HCALL HEL HEH b1 b2 e0; rintro E w2 ⟨vq, rfl, hrow, hbq⟩; have HROW := Aside0.mk hrow; have HS2 := Aside0.mk (HS.out.below hbq); clear hrow hbq HS)
                | (at_builtin; obtain ⟨v', w3, hrun, hrow2, hg2, hown⟩ := appendPart _ va vq acc r 22 (HS2.out.rowE 0 rfl) (part_of_row HROW.out) HBD2.out; have HS3 := Aside0.mk (HS2.out.setE 0 rfl hg2 hrow2 hown); refine wpList_append_run rfl (.tmp 196) (.tmp 197) 22 22 rfl va vq rfl rfl hrun ?_; clear hrun hrow2 hg2 hown))
              go_roundg gq2
              case measure => omega
              case rel => exact ⟨(j0 + 1) + 1, v', acc ++ r, dq, rfl, rfl, by go_num, by omega, HACC2, Aside0.mk fun _ => rfl, HS3⟩
            · have hc1 : decide ((j0 : Int) + 1 < (i : Int)) = false := decide_eq_false (by omega)
              obtain ⟨zp, hzp⟩ : ∃ z, ks[j0]? = some z := ⟨_, List.getElem?_eq_getElem (by rw [HN.out]; omega)⟩
              obtain rfl : dq = dv := (HDV.out (by omega)).symm
              have HCALL := Aside0.mk (show ∀ lv' hv', Edge wr lv' (loF (j0 + 1)) → Edge wr hv' (hiF (j0 + 1)) → Calls Try.prog 16 #[.slice (some ⟨gp, 0, none⟩) n0 cp, .int .i64 kd, .int .i64 ((d : Int) + 1), lv', hv'] wr (ShapePost wr r dq) from fun lv' hv' e1 e2 => hrec (j0 + 1) wr lv' hv' kd r hkd hr HBW.out e1 e2)
              have HEL : ∀ c', Edge wr (.slice (some ⟨g, j0 * 3, none⟩) 1 c') (loF (j0 + 1)) := fun c' => by rw [(hlh j0 zp hzp).1]; exact Edge.part (Row.below HOK.out.1 HBW.out) hzp
              have HEH : Edge wr (.slice none 0 0) (hiF (j0 + 1)) := by rw [show j0 + 1 = i by omega, hhn]; exact Edge.nil _
              have HEL := Aside0.mk HEL
              have HEH := Aside0.mk HEH
              clear hzp hkd hr hrec hl0 hlh hhn
              have hG1 : True := trivial
              go_wp2_with (first
                | (clear hG1; go_at_call 16; refine (HCALL.out _ _ (HEL.out _) HEH.out).mono ?_; clear HCALL HEL HEH b1 b2 e0; rintro E w2 ⟨vq, rfl, hrow, hbq⟩; have HROW := Aside0.mk hrow; have HS2 := Aside0.mk (HS.out.below hbq); clear hrow hbq HS)
                | (at_builtin; obtain ⟨v', w3, hrun, hrow2, hg2, hown⟩ := appendPart _ va vq acc r 22 (HS2.out.rowE 0 rfl) (part_of_row HROW.out) HBD2.out; have HS3 := Aside0.mk (HS2.out.setE 0 rfl hg2 hrow2 hown); refine wpList_append_run rfl (.tmp 196) (.tmp 197) 22 22 rfl va vq rfl rfl hrun ?_; clear hrun hrow2 hg2 hown))
              go_roundg gq2
              case measure => omega
              case rel => exact ⟨(j0 + 1) + 1, v', acc ++ r, dq, rfl, rfl, by go_num, by omega, HACC2, Aside0.mk fun _ => rfl, HS3⟩
        | zero =>
          obtain rfl : j = i + 1 := by omega
          obtain rfl : dq = dv := (HDV.out (by omega)).symm
          have hje : decide (((i + 1 : Nat) : Int) ≤ (i : Int)) = false := decide_eq_false (by omega)
          have hje2 : decide ((i : Int) + 1 ≤ (i : Int)) = false := decide_eq_false (by omega)
          go_wp2
          go_ret3
          rw [← HR.out]
          refine ⟨_, rfl, ?_, keep_below HS.out.keep⟩
          have := HS.out.rowE 0 rfl
          rw [HACC.out, List.take_of_length_le (by rw [HK1.out]; exact Nat.le_refl _)] at this
          exact this
end Go.Proofs.Bt
end
