/- Packed by shake.py: YtnojcnmnkkgkgaaQe60 YtnojcnmnkkgkgaaQ18 YtnojcnmnkkgkgaaQ20 YtnojcnmnkkgkgaaQe64 YtnojcnmnkkgkgaaQ46 YtnojcnmnkkgkgaaQe62 YtnojcnmnkkgkgaaQe66 YtnojcnmnkkgkgaaQ21 -/
import Derived.Test.YtnojcnmnkkgkgaaV5
set_option linter.unusedSectionVars false
section
namespace Go.Proofs.Ytnojcnmnkkgkgaa.Q
open Go.RowKit Go.Proofs.YtnojcnmnkkgkgaaW.PrintWords Go.Proofs.YtnojcnmnkkgkgaaW.PrintLast Go.Proofs.YtnojcnmnkkgkgaaW.PrintMore
attribute [local go_sem] max2_int min2_int max_two min_two max_three min_three max_four min_four
set_option linter.unusedVariables false
set_option linter.unusedSimpArgs false
theorem eqA60 (d : Nat) (w : World) (x0 y0 : Int) (x1 y1 : Int) (x2 y2 : ByteArray) :
    (Op.equalIn (d + 2) 60 (.agg #[.int .i64 x0, .int .i64 x1, .string x2]) (.agg #[.int .i64 y0, .int .i64 y1, .string y2])).run Try.prog w = .ok (x0 == y0 && (x1 == y1 && (x2.toList == y2.toList))) w := by
  refine eqA_of Try.underlying60 (by kernel_rfl) ?_
  refine eqf_cons (by rfl) (by go_simp; rfl) (by go_simp; rfl) (by go_simp) ?_
  refine eqf_cons (by rfl) (by go_simp; rfl) (by go_simp; rfl) (by go_simp) ?_
  exact eqf_last (by rfl) (by go_simp; rfl) (by go_simp; rfl) (by go_simp)
end Go.Proofs.Ytnojcnmnkkgkgaa.Q
end
section
namespace Go.Proofs.Ytnojcnmnkkgkgaa.Q
open Go.RowKit Go.Proofs.YtnojcnmnkkgkgaaW.PrintWords Go.Proofs.YtnojcnmnkkgkgaaW.PrintLast Go.Proofs.YtnojcnmnkkgkgaaW.PrintMore
attribute [local go_sem] max2_int min2_int max_two min_two max_three min_three max_four min_four
set_option linter.unusedVariables false
set_option linter.unusedSimpArgs false
attribute [local go_sem high] eqA60
def interlockref00_SameRow.l0 : Nat → List (S60) → List (S60) → Int → Option (Bool)
  | 0, _, _, _ => none
  | k + 1, x0, x1, x5 => if x5 < (x0.length : Int) then (if 0 ≤ x5 then (if x5 < (x1.length : Int) then (if (!(((rd_T60 x0 x5).f0) == ((rd_T60 x1 x5).f0)) || (!(((rd_T60 x0 x5).f1) == ((rd_T60 x1 x5).f1)) || (!((((rd_T60 x0 x5).f2).toList) == (((rd_T60 x1 x5).f2).toList))))) = true then (some false) else (interlockref00_SameRow.l0 k x0 x1 (wrap64 (x5 + 1)))) else (none)) else (none)) else (some true)
def interlockref00_SameRow.f (k : Nat) (l0 : List (S60)) (l1 : List (S60)) : Option (Bool) := if (l0.length : Int) = (l1.length : Int) then (interlockref00_SameRow.l0 k l0 l1 0) else (some false)
theorem interlockref00_SameRow.mono_l : ∀ k, (∀ y0 y1 y2, LeO (interlockref00_SameRow.l0 k y0 y1 y2) (interlockref00_SameRow.l0 (k + 1) y0 y1 y2))
  | 0 => fun _ _ _ r h => by simp [interlockref00_SameRow.l0] at h
  | k + 1 => by
    have ih0 := interlockref00_SameRow.mono_l k
    · intro y0 y1 y2
      unfold interlockref00_SameRow.l0
      repeat' first
      | (with_reducible exact ih0 _ _ _)
      | (with_reducible exact LeO.refl _)
      | (with_reducible exact LeO.none _)
      | (with_reducible refine LeO.ite ?_ ?_)
      | (with_reducible refine LeO.bind ?_ (fun _ => ?_))
      | exact ih0 _ _ _
      | exact LeO.none _
      | refine LeO.ite ?_ ?_
      | refine LeO.bind ?_ (fun _ => ?_)
theorem interlockref00_SameRow.mono : ∀ a0 a1 k, LeO (interlockref00_SameRow.f k a0 a1) (interlockref00_SameRow.f (k + 1) a0 a1) := by
  intro a0 a1 k
  have ih0 := interlockref00_SameRow.mono_l k
  unfold interlockref00_SameRow.f
  repeat' first
      | (with_reducible exact ih0 _ _ _)
      | (with_reducible exact LeO.refl _)
      | (with_reducible exact LeO.none _)
      | (with_reducible refine LeO.ite ?_ ?_)
      | (with_reducible refine LeO.bind ?_ (fun _ => ?_))
      | exact ih0 _ _ _
      | exact LeO.none _
      | refine LeO.ite ?_ ?_
      | refine LeO.bind ?_ (fun _ => ?_)
set_option maxHeartbeats 8000000 in
set_option maxRecDepth 100000 in
theorem interlockref00_SameRow.calls (k : Nat) (A0 : Option Addr) (c0 : Nat) (l0 : List (S60)) (A1 : Option Addr) (c1 : Nat) (l1 : List (S60)) (r : Bool) (w : World) (hr0 : Kd.C k60 w A0 l0.length l0) (hc0 : l0.length ≤ c0) (hr1 : Kd.C k60 w A1 l1.length l1) (hc1 : l1.length ≤ c1) (h : interlockref00_SameRow.f k l0 l1 = some r) :
    Calls Try.prog 18 #[.slice A0 l0.length c0, .slice A1 l1.length c1] w fun e w' => e = .returned (.bool r) ∧ Drawn0 w w' := by
  have hu60 := Try.underlying60
  have HR0 := Aside0.mk hr0
  have HC0 := Aside0.mk hc0
  clear hr0 hc0
  have HR1 := Aside0.mk hr1
  have HC1 := Aside0.mk hc1
  clear hr1 hc1
  have H : (if (l0.length : Int) = (l1.length : Int) then (interlockref00_SameRow.l0 k l0 l1 0) else (some false)) = some r := h
  clear h
  by_cases c3 : (l0.length : Int) = (l1.length : Int)
  · rw [if_pos c3] at H
    have c3b0 : ((l0.length : Int) == (l1.length : Int)) = true := beq_iff_eq.mpr c3
    have c3b1 : ((l0.length : Int) != (l1.length : Int)) = false := bne_eq_false_iff_eq.mpr c3
    have c3b2 : (l0.length == l1.length) = true := by first | simpa using c3 | (simp at c3 ⊢; omega)
    clear c3
    have H' := Aside0.mk H
    clear H
    go_enter Try.func18, Try.ntmps18
    go_wp2
    repeat (go_quiet (fail); try go_wp2)
    go_loopg [5] k (fun kq v5 w' => ∃ (x5_1 : Int), v5 = .int .i64 x5_1 ∧ Aside0 (interlockref00_SameRow.l0 kq l0 l1 x5_1 = some r) ∧ Aside0 (kq ≤ k) ∧ Drawn0 w w')
    case atStart => exact ⟨(0), (by first | rfl | (simp; done) | (simp [*]; done)), H', ⟨Nat.le_refl _⟩, by repeat (first | exact Drawn0.refl _ | apply Drawn0.step)⟩
    case round =>
      clear H'
      try clear c1
      try clear p2
      try clear c3
      try clear c3b0
      try clear c3b1
      try clear c3b2
      obtain ⟨x5_1, rfl, HA, HK1, ⟨m1, rfl⟩⟩ := hrel
      cases gk with
      | zero => exact absurd HA.out (by simp [interlockref00_SameRow.l0])
      | succ k1 =>
        have H := HA.out
        clear HA
        simp only [interlockref00_SameRow.l0] at H
        by_cases c4 : x5_1 < (l0.length : Int)
        · rw [if_pos c4] at H
          have c4b0 : decide (x5_1 < (l0.length : Int)) = true := decide_eq_true c4
          clear c4
          by_cases c5 : 0 ≤ x5_1
          · rw [if_pos c5] at H
            have c5b0 : decide (0 ≤ x5_1) = true := decide_eq_true c5
            clear c5
            by_cases c6 : x5_1 < (l1.length : Int)
            · rw [if_pos c6] at H
              have c6b0 : decide (x5_1 < (l1.length : Int)) = true := decide_eq_true c6
              clear c6
              by_cases c7 : (!(((rd_T60 l0 x5_1).f0) == ((rd_T60 l1 x5_1).f0)) || (!(((rd_T60 l0 x5_1).f1) == ((rd_T60 l1 x5_1).f1)) || (!((((rd_T60 l0 x5_1).f2).toList) == (((rd_T60 l1 x5_1).f2).toList))))) = true
              · rw [if_pos c7] at H
                have c7b0 : (!(((rd_T60 l0 x5_1).f0) == ((rd_T60 l1 x5_1).f0)) || (!(((rd_T60 l0 x5_1).f1) == ((rd_T60 l1 x5_1).f1)) || (!((((rd_T60 l0 x5_1).f2).toList) == (((rd_T60 l1 x5_1).f2).toList))))) = true := c7
                clear c7
                obtain rfl := Option.some.inj H
                have p223 : 0 ≤ (x5_1 : Int) := of_decide_eq_true (by first | (with_reducible assumption) | assumption)
                have q223 : x5_1 < (l0.length : Int) := of_decide_eq_true (by first | (with_reducible assumption) | assumption)
                obtain ⟨ad223, e223, hx223_0, hx223_1, hx223_2⟩ := at_T60 HR0.out x5_1 p223 q223
                cases e223
                replace p223 := eq_true p223
                replace q223 := eq_true q223
                have p224 : 0 ≤ (x5_1 : Int) := of_decide_eq_true (by first | (with_reducible assumption) | assumption)
                have q224 : x5_1 < (l1.length : Int) := of_decide_eq_true (by first | (with_reducible assumption) | assumption)
                obtain ⟨ad224, e224, hx224_0, hx224_1, hx224_2⟩ := at_T60 HR1.out x5_1 p224 q224
                cases e224
                replace p224 := eq_true p224
                replace q224 := eq_true q224
                go_wp2
                repeat (go_quiet (fail); try go_wp2)
                go_ret
                exact ⟨by first | rfl | (simp; done) | (simp [*]; done), by repeat (first | exact Drawn0.refl _ | apply Drawn0.step)⟩
              · rw [if_neg c7] at H
                have c7b0 : (!(((rd_T60 l0 x5_1).f0) == ((rd_T60 l1 x5_1).f0)) || (!(((rd_T60 l0 x5_1).f1) == ((rd_T60 l1 x5_1).f1)) || (!((((rd_T60 l0 x5_1).f2).toList) == (((rd_T60 l1 x5_1).f2).toList))))) = false := by simpa using c7
                clear c7
                have H' := Aside0.mk H
                clear H
                have p223 : 0 ≤ (x5_1 : Int) := of_decide_eq_true (by first | (with_reducible assumption) | assumption)
                have q223 : x5_1 < (l0.length : Int) := of_decide_eq_true (by first | (with_reducible assumption) | assumption)
                obtain ⟨ad223, e223, hx223_0, hx223_1, hx223_2⟩ := at_T60 HR0.out x5_1 p223 q223
                cases e223
                replace p223 := eq_true p223
                replace q223 := eq_true q223
                have p224 : 0 ≤ (x5_1 : Int) := of_decide_eq_true (by first | (with_reducible assumption) | assumption)
                have q224 : x5_1 < (l1.length : Int) := of_decide_eq_true (by first | (with_reducible assumption) | assumption)
                obtain ⟨ad224, e224, hx224_0, hx224_1, hx224_2⟩ := at_T60 HR1.out x5_1 p224 q224
                cases e224
                replace p224 := eq_true p224
                replace q224 := eq_true q224
                go_wp2
                repeat (go_quiet (fail); try go_wp2)
                go_roundg k1
                case measure => have := HK1.out; omega
                case rel => exact ⟨(wrap64 (x5_1 + 1)), (by first | rfl | (simp; done) | (simp [*]; done)), H', ⟨by have := HK1.out; omega⟩, by repeat (first | exact Drawn0.refl _ | apply Drawn0.step)⟩
            · rw [if_neg c6] at H
              exact absurd H (by simp)
          · rw [if_neg c5] at H
            exact absurd H (by simp)
        · rw [if_neg c4] at H
          have c4b0 : decide (x5_1 < (l0.length : Int)) = false := decide_eq_false c4
          clear c4
          obtain rfl := Option.some.inj H
          go_wp2
          repeat (go_quiet (fail); try go_wp2)
          go_ret
          exact ⟨by first | rfl | (simp; done) | (simp [*]; done), by repeat (first | exact Drawn0.refl _ | apply Drawn0.step)⟩
  · rw [if_neg c3] at H
    have c3b0 : ((l0.length : Int) == (l1.length : Int)) = false := beq_eq_false_iff_ne.mpr c3
    have c3b1 : ((l0.length : Int) != (l1.length : Int)) = true := bne_iff_ne.mpr c3
    have c3b2 : (l0.length == l1.length) = false := by first | simpa using c3 | (simp at c3 ⊢; omega)
    obtain rfl := Option.some.inj H
    go_enter Try.func18, Try.ntmps18
    go_wp2
    repeat (go_quiet (fail); try go_wp2)
    go_ret
    exact ⟨by first | rfl | (simp; done) | (simp [*]; done), by repeat (first | exact Drawn0.refl _ | apply Drawn0.step)⟩
end Go.Proofs.Ytnojcnmnkkgkgaa.Q
end
section
namespace Go.Proofs.Ytnojcnmnkkgkgaa.Q
open Go.RowKit Go.Proofs.YtnojcnmnkkgkgaaW.PrintWords Go.Proofs.YtnojcnmnkkgkgaaW.PrintLast Go.Proofs.YtnojcnmnkkgkgaaW.PrintMore
attribute [local go_sem] max2_int min2_int max_two min_two max_three min_three max_four min_four
set_option linter.unusedVariables false
set_option linter.unusedSimpArgs false
def interlockref00_SameTexts.l0 : Nat → List ByteArray → List ByteArray → Int → Option (Bool)
  | 0, _, _, _ => none
  | k + 1, x0, x1, x5 => if x5 < (x0.length : Int) then (if 0 ≤ x5 then (if x5 < (x1.length : Int) then (if (rdOf ByteArray.empty x0 x5).toList = (rdOf ByteArray.empty x1 x5).toList then (interlockref00_SameTexts.l0 k x0 x1 (wrap64 (x5 + 1))) else (some false)) else (none)) else (none)) else (some true)
def interlockref00_SameTexts.f (k : Nat) (l0 : List ByteArray) (l1 : List ByteArray) : Option (Bool) := if (l0.length : Int) = (l1.length : Int) then (interlockref00_SameTexts.l0 k l0 l1 0) else (some false)
theorem interlockref00_SameTexts.mono_l : ∀ k, (∀ y0 y1 y2, LeO (interlockref00_SameTexts.l0 k y0 y1 y2) (interlockref00_SameTexts.l0 (k + 1) y0 y1 y2))
  | 0 => fun _ _ _ r h => by simp [interlockref00_SameTexts.l0] at h
  | k + 1 => by
    have ih0 := interlockref00_SameTexts.mono_l k
    · intro y0 y1 y2
      unfold interlockref00_SameTexts.l0
      repeat' first
      | (with_reducible exact ih0 _ _ _)
      | (with_reducible exact LeO.refl _)
      | (with_reducible exact LeO.none _)
      | (with_reducible refine LeO.ite ?_ ?_)
      | (with_reducible refine LeO.bind ?_ (fun _ => ?_))
      | exact ih0 _ _ _
      | exact LeO.none _
      | refine LeO.ite ?_ ?_
      | refine LeO.bind ?_ (fun _ => ?_)
theorem interlockref00_SameTexts.mono : ∀ a0 a1 k, LeO (interlockref00_SameTexts.f k a0 a1) (interlockref00_SameTexts.f (k + 1) a0 a1) := by
  intro a0 a1 k
  have ih0 := interlockref00_SameTexts.mono_l k
  unfold interlockref00_SameTexts.f
  repeat' first
      | (with_reducible exact ih0 _ _ _)
      | (with_reducible exact LeO.refl _)
      | (with_reducible exact LeO.none _)
      | (with_reducible refine LeO.ite ?_ ?_)
      | (with_reducible refine LeO.bind ?_ (fun _ => ?_))
      | exact ih0 _ _ _
      | exact LeO.none _
      | refine LeO.ite ?_ ?_
      | refine LeO.bind ?_ (fun _ => ?_)
set_option maxHeartbeats 8000000 in
set_option maxRecDepth 100000 in
theorem interlockref00_SameTexts.calls (k : Nat) (A0 : Option Addr) (c0 : Nat) (l0 : List ByteArray) (A1 : Option Addr) (c1 : Nat) (l1 : List ByteArray) (r : Bool) (w : World) (hr0 : Kd.C Kd.string w A0 l0.length l0) (hc0 : l0.length ≤ c0) (hr1 : Kd.C Kd.string w A1 l1.length l1) (hc1 : l1.length ≤ c1) (h : interlockref00_SameTexts.f k l0 l1 = some r) :
    Calls Try.prog 20 #[.slice A0 l0.length c0, .slice A1 l1.length c1] w fun e w' => e = .returned (.bool r) ∧ Drawn0 w w' := by
  have HR0 := Aside0.mk hr0
  have HC0 := Aside0.mk hc0
  clear hr0 hc0
  have HR1 := Aside0.mk hr1
  have HC1 := Aside0.mk hc1
  clear hr1 hc1
  have H : (if (l0.length : Int) = (l1.length : Int) then (interlockref00_SameTexts.l0 k l0 l1 0) else (some false)) = some r := h
  clear h
  by_cases c3 : (l0.length : Int) = (l1.length : Int)
  · rw [if_pos c3] at H
    have c3b0 : ((l0.length : Int) == (l1.length : Int)) = true := beq_iff_eq.mpr c3
    have c3b1 : ((l0.length : Int) != (l1.length : Int)) = false := bne_eq_false_iff_eq.mpr c3
    have c3b2 : (l0.length == l1.length) = true := by first | simpa using c3 | (simp at c3 ⊢; omega)
    clear c3
    have H' := Aside0.mk H
    clear H
    go_enter Try.func20, Try.ntmps20
    go_wp2
    repeat (go_quiet (fail); try go_wp2)
    go_loopg [5] k (fun kq v5 w' => ∃ (x5_1 : Int), v5 = .int .i64 x5_1 ∧ Aside0 (interlockref00_SameTexts.l0 kq l0 l1 x5_1 = some r) ∧ Aside0 (kq ≤ k) ∧ Drawn0 w w')
    case atStart => exact ⟨(0), (by first | rfl | (simp; done) | (simp [*]; done)), H', ⟨Nat.le_refl _⟩, by repeat (first | exact Drawn0.refl _ | apply Drawn0.step)⟩
    case round =>
      clear H'
      try clear c1
      try clear c2
      try clear p2
      try clear c3
      try clear c3b0
      try clear c3b1
      try clear c3b2
      obtain ⟨x5_1, rfl, HA, HK1, ⟨m1, rfl⟩⟩ := hrel
      cases gk with
      | zero => exact absurd HA.out (by simp [interlockref00_SameTexts.l0])
      | succ k1 =>
        have H := HA.out
        clear HA
        simp only [interlockref00_SameTexts.l0] at H
        by_cases c4 : x5_1 < (l0.length : Int)
        · rw [if_pos c4] at H
          have c4b0 : decide (x5_1 < (l0.length : Int)) = true := decide_eq_true c4
          clear c4
          by_cases c5 : 0 ≤ x5_1
          · rw [if_pos c5] at H
            have c5b0 : decide (0 ≤ x5_1) = true := decide_eq_true c5
            clear c5
            by_cases c6 : x5_1 < (l1.length : Int)
            · rw [if_pos c6] at H
              have c6b0 : decide (x5_1 < (l1.length : Int)) = true := decide_eq_true c6
              clear c6
              by_cases c7 : (rdOf ByteArray.empty l0 x5_1).toList = (rdOf ByteArray.empty l1 x5_1).toList
              · rw [if_pos c7] at H
                have c7b0 : ((rdOf ByteArray.empty l0 x5_1).toList == (rdOf ByteArray.empty l1 x5_1).toList) = true := beq_iff_eq.mpr c7
                have c7b1 : ((rdOf ByteArray.empty l0 x5_1).toList != (rdOf ByteArray.empty l1 x5_1).toList) = false := bne_eq_false_iff_eq.mpr c7
                clear c7
                have H' := Aside0.mk H
                clear H
                have p225 : 0 ≤ (x5_1 : Int) := of_decide_eq_true (by first | (with_reducible assumption) | assumption)
                have q225 : x5_1 < (l0.length : Int) := of_decide_eq_true (by first | (with_reducible assumption) | assumption)
                obtain ⟨ad225, e225, hx225_0⟩ := Kd.at_string HR0.out x5_1 p225 q225
                cases e225
                replace p225 := eq_true p225
                replace q225 := eq_true q225
                have p226 : 0 ≤ (x5_1 : Int) := of_decide_eq_true (by first | (with_reducible assumption) | assumption)
                have q226 : x5_1 < (l1.length : Int) := of_decide_eq_true (by first | (with_reducible assumption) | assumption)
                obtain ⟨ad226, e226, hx226_0⟩ := Kd.at_string HR1.out x5_1 p226 q226
                cases e226
                replace p226 := eq_true p226
                replace q226 := eq_true q226
                go_wp2
                repeat (go_quiet (fail); try go_wp2)
                go_roundg k1
                case measure => have := HK1.out; omega
                case rel => exact ⟨(wrap64 (x5_1 + 1)), (by first | rfl | (simp; done) | (simp [*]; done)), H', ⟨by have := HK1.out; omega⟩, by repeat (first | exact Drawn0.refl _ | apply Drawn0.step)⟩
              · rw [if_neg c7] at H
                have c7b0 : ((rdOf ByteArray.empty l0 x5_1).toList == (rdOf ByteArray.empty l1 x5_1).toList) = false := beq_eq_false_iff_ne.mpr c7
                have c7b1 : ((rdOf ByteArray.empty l0 x5_1).toList != (rdOf ByteArray.empty l1 x5_1).toList) = true := bne_iff_ne.mpr c7
                obtain rfl := Option.some.inj H
                have p225 : 0 ≤ (x5_1 : Int) := of_decide_eq_true (by first | (with_reducible assumption) | assumption)
                have q225 : x5_1 < (l0.length : Int) := of_decide_eq_true (by first | (with_reducible assumption) | assumption)
                obtain ⟨ad225, e225, hx225_0⟩ := Kd.at_string HR0.out x5_1 p225 q225
                cases e225
                replace p225 := eq_true p225
                replace q225 := eq_true q225
                have p226 : 0 ≤ (x5_1 : Int) := of_decide_eq_true (by first | (with_reducible assumption) | assumption)
                have q226 : x5_1 < (l1.length : Int) := of_decide_eq_true (by first | (with_reducible assumption) | assumption)
                obtain ⟨ad226, e226, hx226_0⟩ := Kd.at_string HR1.out x5_1 p226 q226
                cases e226
                replace p226 := eq_true p226
                replace q226 := eq_true q226
                go_wp2
                repeat (go_quiet (fail); try go_wp2)
                go_ret
                exact ⟨by first | rfl | (simp; done) | (simp [*]; done), by repeat (first | exact Drawn0.refl _ | apply Drawn0.step)⟩
            · rw [if_neg c6] at H
              exact absurd H (by simp)
          · rw [if_neg c5] at H
            exact absurd H (by simp)
        · rw [if_neg c4] at H
          have c4b0 : decide (x5_1 < (l0.length : Int)) = false := decide_eq_false c4
          clear c4
          obtain rfl := Option.some.inj H
          go_wp2
          repeat (go_quiet (fail); try go_wp2)
          go_ret
          exact ⟨by first | rfl | (simp; done) | (simp [*]; done), by repeat (first | exact Drawn0.refl _ | apply Drawn0.step)⟩
  · rw [if_neg c3] at H
    have c3b0 : ((l0.length : Int) == (l1.length : Int)) = false := beq_eq_false_iff_ne.mpr c3
    have c3b1 : ((l0.length : Int) != (l1.length : Int)) = true := bne_iff_ne.mpr c3
    have c3b2 : (l0.length == l1.length) = false := by first | simpa using c3 | (simp at c3 ⊢; omega)
    obtain rfl := Option.some.inj H
    go_enter Try.func20, Try.ntmps20
    go_wp2
    repeat (go_quiet (fail); try go_wp2)
    go_ret
    exact ⟨by first | rfl | (simp; done) | (simp [*]; done), by repeat (first | exact Drawn0.refl _ | apply Drawn0.step)⟩
end Go.Proofs.Ytnojcnmnkkgkgaa.Q
end
section
namespace Go.Proofs.Ytnojcnmnkkgkgaa.Q
open Go.RowKit Go.Proofs.YtnojcnmnkkgkgaaW.PrintWords Go.Proofs.YtnojcnmnkkgkgaaW.PrintLast Go.Proofs.YtnojcnmnkkgkgaaW.PrintMore
attribute [local go_sem] max2_int min2_int max_two min_two max_three min_three max_four min_four
set_option linter.unusedVariables false
set_option linter.unusedSimpArgs false
theorem eqA64 (d : Nat) (w : World) (x0 y0 : ByteArray) (x1 y1 : Int) (x2 y2 : Int) (x3 y3 : Int) (x4 y4 : ByteArray) :
    (Op.equalIn (d + 3) 64 (.agg #[.string x0, .int .i64 x1, .int .i64 x2, .int .i64 x3, .string x4]) (.agg #[.string y0, .int .i64 y1, .int .i64 y2, .int .i64 y3, .string y4])).run Try.prog w = .ok (x0.toList == y0.toList && (x1 == y1 && ((x2 == y2 && (x3 == y3 && (x4.toList == y4.toList)))))) w := by
  refine eqA_of Try.underlying64 (by kernel_rfl) ?_
  refine eqf_cons (by rfl) (by go_simp; rfl) (by go_simp; rfl) (by go_simp) ?_
  refine eqf_cons (by rfl) (by go_simp; rfl) (by go_simp; rfl) (by go_simp) ?_
  exact eqf_last (by rfl) (by go_simp) (by go_simp) (eqA60 (d + 0) w _ _ _ _ _ _)
end Go.Proofs.Ytnojcnmnkkgkgaa.Q
end
section
namespace Go.Proofs.Ytnojcnmnkkgkgaa.Q
open Go.RowKit Go.Proofs.YtnojcnmnkkgkgaaW.PrintWords Go.Proofs.YtnojcnmnkkgkgaaW.PrintLast Go.Proofs.YtnojcnmnkkgkgaaW.PrintMore
attribute [local go_sem] max2_int min2_int max_two min_two max_three min_three max_four min_four
set_option linter.unusedVariables false
set_option linter.unusedSimpArgs false
attribute [local go_sem high] eqA64
def interlockref00_SameConds.l0 : Nat → List (S64) → List (S64) → Int → Option (Bool)
  | 0, _, _, _ => none
  | k + 1, x0, x1, x5 => if x5 < (x0.length : Int) then (if 0 ≤ x5 then (if x5 < (x1.length : Int) then (if (!((((rd_T64 x0 x5).f0).toList) == (((rd_T64 x1 x5).f0).toList)) || (!(((rd_T64 x0 x5).f1) == ((rd_T64 x1 x5).f1)) || ((!(((rd_T64 x0 x5).f2.f0) == ((rd_T64 x1 x5).f2.f0)) || (!(((rd_T64 x0 x5).f2.f1) == ((rd_T64 x1 x5).f2.f1)) || (!((((rd_T64 x0 x5).f2.f2).toList) == (((rd_T64 x1 x5).f2.f2).toList)))))))) = true then (some false) else (interlockref00_SameConds.l0 k x0 x1 (wrap64 (x5 + 1)))) else (none)) else (none)) else (some true)
def interlockref00_SameConds.f (k : Nat) (l0 : List (S64)) (l1 : List (S64)) : Option (Bool) := if (l0.length : Int) = (l1.length : Int) then (interlockref00_SameConds.l0 k l0 l1 0) else (some false)
theorem interlockref00_SameConds.mono_l : ∀ k, (∀ y0 y1 y2, LeO (interlockref00_SameConds.l0 k y0 y1 y2) (interlockref00_SameConds.l0 (k + 1) y0 y1 y2))
  | 0 => fun _ _ _ r h => by simp [interlockref00_SameConds.l0] at h
  | k + 1 => by
    have ih0 := interlockref00_SameConds.mono_l k
    · intro y0 y1 y2
      unfold interlockref00_SameConds.l0
      repeat' first
      | (with_reducible exact ih0 _ _ _)
      | (with_reducible exact LeO.refl _)
      | (with_reducible exact LeO.none _)
      | (with_reducible refine LeO.ite ?_ ?_)
      | (with_reducible refine LeO.bind ?_ (fun _ => ?_))
      | exact ih0 _ _ _
      | exact LeO.none _
      | refine LeO.ite ?_ ?_
      | refine LeO.bind ?_ (fun _ => ?_)
theorem interlockref00_SameConds.mono : ∀ a0 a1 k, LeO (interlockref00_SameConds.f k a0 a1) (interlockref00_SameConds.f (k + 1) a0 a1) := by
  intro a0 a1 k
  have ih0 := interlockref00_SameConds.mono_l k
  unfold interlockref00_SameConds.f
  repeat' first
      | (with_reducible exact ih0 _ _ _)
      | (with_reducible exact LeO.refl _)
      | (with_reducible exact LeO.none _)
      | (with_reducible refine LeO.ite ?_ ?_)
      | (with_reducible refine LeO.bind ?_ (fun _ => ?_))
      | exact ih0 _ _ _
      | exact LeO.none _
      | refine LeO.ite ?_ ?_
      | refine LeO.bind ?_ (fun _ => ?_)
set_option maxHeartbeats 8000000 in
set_option maxRecDepth 100000 in
theorem interlockref00_SameConds.calls (k : Nat) (A0 : Option Addr) (c0 : Nat) (l0 : List (S64)) (A1 : Option Addr) (c1 : Nat) (l1 : List (S64)) (r : Bool) (w : World) (hr0 : Kd.C k64 w A0 l0.length l0) (hc0 : l0.length ≤ c0) (hr1 : Kd.C k64 w A1 l1.length l1) (hc1 : l1.length ≤ c1) (h : interlockref00_SameConds.f k l0 l1 = some r) :
    Calls Try.prog 46 #[.slice A0 l0.length c0, .slice A1 l1.length c1] w fun e w' => e = .returned (.bool r) ∧ Drawn0 w w' := by
  have hu64 := Try.underlying64
  have HR0 := Aside0.mk hr0
  have HC0 := Aside0.mk hc0
  clear hr0 hc0
  have HR1 := Aside0.mk hr1
  have HC1 := Aside0.mk hc1
  clear hr1 hc1
  have H : (if (l0.length : Int) = (l1.length : Int) then (interlockref00_SameConds.l0 k l0 l1 0) else (some false)) = some r := h
  clear h
  by_cases c3 : (l0.length : Int) = (l1.length : Int)
  · rw [if_pos c3] at H
    have c3b0 : ((l0.length : Int) == (l1.length : Int)) = true := beq_iff_eq.mpr c3
    have c3b1 : ((l0.length : Int) != (l1.length : Int)) = false := bne_eq_false_iff_eq.mpr c3
    have c3b2 : (l0.length == l1.length) = true := by first | simpa using c3 | (simp at c3 ⊢; omega)
    clear c3
    have H' := Aside0.mk H
    clear H
    go_enter Try.func46, Try.ntmps46
    go_wp2
    repeat (go_quiet (fail); try go_wp2)
    go_loopg [5] k (fun kq v5 w' => ∃ (x5_1 : Int), v5 = .int .i64 x5_1 ∧ Aside0 (interlockref00_SameConds.l0 kq l0 l1 x5_1 = some r) ∧ Aside0 (kq ≤ k) ∧ Drawn0 w w')
    case atStart => exact ⟨(0), (by first | rfl | (simp; done) | (simp [*]; done)), H', ⟨Nat.le_refl _⟩, by repeat (first | exact Drawn0.refl _ | apply Drawn0.step)⟩
    case round =>
      clear H'
      try clear c1
      try clear p2
      try clear c3
      try clear c3b0
      try clear c3b1
      try clear c3b2
      obtain ⟨x5_1, rfl, HA, HK1, ⟨m1, rfl⟩⟩ := hrel
      cases gk with
      | zero => exact absurd HA.out (by simp [interlockref00_SameConds.l0])
      | succ k1 =>
        have H := HA.out
        clear HA
        simp only [interlockref00_SameConds.l0] at H
        by_cases c4 : x5_1 < (l0.length : Int)
        · rw [if_pos c4] at H
          have c4b0 : decide (x5_1 < (l0.length : Int)) = true := decide_eq_true c4
          clear c4
          by_cases c5 : 0 ≤ x5_1
          · rw [if_pos c5] at H
            have c5b0 : decide (0 ≤ x5_1) = true := decide_eq_true c5
            clear c5
            by_cases c6 : x5_1 < (l1.length : Int)
            · rw [if_pos c6] at H
              have c6b0 : decide (x5_1 < (l1.length : Int)) = true := decide_eq_true c6
              clear c6
              by_cases c7 : (!((((rd_T64 l0 x5_1).f0).toList) == (((rd_T64 l1 x5_1).f0).toList)) || (!(((rd_T64 l0 x5_1).f1) == ((rd_T64 l1 x5_1).f1)) || ((!(((rd_T64 l0 x5_1).f2.f0) == ((rd_T64 l1 x5_1).f2.f0)) || (!(((rd_T64 l0 x5_1).f2.f1) == ((rd_T64 l1 x5_1).f2.f1)) || (!((((rd_T64 l0 x5_1).f2.f2).toList) == (((rd_T64 l1 x5_1).f2.f2).toList)))))))) = true
              · rw [if_pos c7] at H
                have c7b0 : (!((((rd_T64 l0 x5_1).f0).toList) == (((rd_T64 l1 x5_1).f0).toList)) || (!(((rd_T64 l0 x5_1).f1) == ((rd_T64 l1 x5_1).f1)) || ((!(((rd_T64 l0 x5_1).f2.f0) == ((rd_T64 l1 x5_1).f2.f0)) || (!(((rd_T64 l0 x5_1).f2.f1) == ((rd_T64 l1 x5_1).f2.f1)) || (!((((rd_T64 l0 x5_1).f2.f2).toList) == (((rd_T64 l1 x5_1).f2.f2).toList)))))))) = true := c7
                clear c7
                obtain rfl := Option.some.inj H
                have p227 : 0 ≤ (x5_1 : Int) := of_decide_eq_true (by first | (with_reducible assumption) | assumption)
                have q227 : x5_1 < (l0.length : Int) := of_decide_eq_true (by first | (with_reducible assumption) | assumption)
                obtain ⟨ad227, e227, hx227_0, hx227_1, hx227_2, hx227_3, hx227_4⟩ := at_T64 HR0.out x5_1 p227 q227
                cases e227
                replace p227 := eq_true p227
                replace q227 := eq_true q227
                have p228 : 0 ≤ (x5_1 : Int) := of_decide_eq_true (by first | (with_reducible assumption) | assumption)
                have q228 : x5_1 < (l1.length : Int) := of_decide_eq_true (by first | (with_reducible assumption) | assumption)
                obtain ⟨ad228, e228, hx228_0, hx228_1, hx228_2, hx228_3, hx228_4⟩ := at_T64 HR1.out x5_1 p228 q228
                cases e228
                replace p228 := eq_true p228
                replace q228 := eq_true q228
                go_wp2
                repeat (go_quiet (fail); try go_wp2)
                go_ret
                exact ⟨by first | rfl | (simp; done) | (simp [*]; done), by repeat (first | exact Drawn0.refl _ | apply Drawn0.step)⟩
              · rw [if_neg c7] at H
                have c7b0 : (!((((rd_T64 l0 x5_1).f0).toList) == (((rd_T64 l1 x5_1).f0).toList)) || (!(((rd_T64 l0 x5_1).f1) == ((rd_T64 l1 x5_1).f1)) || ((!(((rd_T64 l0 x5_1).f2.f0) == ((rd_T64 l1 x5_1).f2.f0)) || (!(((rd_T64 l0 x5_1).f2.f1) == ((rd_T64 l1 x5_1).f2.f1)) || (!((((rd_T64 l0 x5_1).f2.f2).toList) == (((rd_T64 l1 x5_1).f2.f2).toList)))))))) = false := by simpa using c7
                clear c7
                have H' := Aside0.mk H
                clear H
                have p227 : 0 ≤ (x5_1 : Int) := of_decide_eq_true (by first | (with_reducible assumption) | assumption)
                have q227 : x5_1 < (l0.length : Int) := of_decide_eq_true (by first | (with_reducible assumption) | assumption)
                obtain ⟨ad227, e227, hx227_0, hx227_1, hx227_2, hx227_3, hx227_4⟩ := at_T64 HR0.out x5_1 p227 q227
                cases e227
                replace p227 := eq_true p227
                replace q227 := eq_true q227
                have p228 : 0 ≤ (x5_1 : Int) := of_decide_eq_true (by first | (with_reducible assumption) | assumption)
                have q228 : x5_1 < (l1.length : Int) := of_decide_eq_true (by first | (with_reducible assumption) | assumption)
                obtain ⟨ad228, e228, hx228_0, hx228_1, hx228_2, hx228_3, hx228_4⟩ := at_T64 HR1.out x5_1 p228 q228
                cases e228
                replace p228 := eq_true p228
                replace q228 := eq_true q228
                go_wp2
                repeat (go_quiet (fail); try go_wp2)
                go_roundg k1
                case measure => have := HK1.out; omega
                case rel => exact ⟨(wrap64 (x5_1 + 1)), (by first | rfl | (simp; done) | (simp [*]; done)), H', ⟨by have := HK1.out; omega⟩, by repeat (first | exact Drawn0.refl _ | apply Drawn0.step)⟩
            · rw [if_neg c6] at H
              exact absurd H (by simp)
          · rw [if_neg c5] at H
            exact absurd H (by simp)
        · rw [if_neg c4] at H
          have c4b0 : decide (x5_1 < (l0.length : Int)) = false := decide_eq_false c4
          clear c4
          obtain rfl := Option.some.inj H
          go_wp2
          repeat (go_quiet (fail); try go_wp2)
          go_ret
          exact ⟨by first | rfl | (simp; done) | (simp [*]; done), by repeat (first | exact Drawn0.refl _ | apply Drawn0.step)⟩
  · rw [if_neg c3] at H
    have c3b0 : ((l0.length : Int) == (l1.length : Int)) = false := beq_eq_false_iff_ne.mpr c3
    have c3b1 : ((l0.length : Int) != (l1.length : Int)) = true := bne_iff_ne.mpr c3
    have c3b2 : (l0.length == l1.length) = false := by first | simpa using c3 | (simp at c3 ⊢; omega)
    obtain rfl := Option.some.inj H
    go_enter Try.func46, Try.ntmps46
    go_wp2
    repeat (go_quiet (fail); try go_wp2)
    go_ret
    exact ⟨by first | rfl | (simp; done) | (simp [*]; done), by repeat (first | exact Drawn0.refl _ | apply Drawn0.step)⟩
end Go.Proofs.Ytnojcnmnkkgkgaa.Q
end
section
namespace Go.Proofs.Ytnojcnmnkkgkgaa.Q
open Go.RowKit Go.Proofs.YtnojcnmnkkgkgaaW.PrintWords Go.Proofs.YtnojcnmnkkgkgaaW.PrintLast Go.Proofs.YtnojcnmnkkgkgaaW.PrintMore
attribute [local go_sem] max2_int min2_int max_two min_two max_three min_three max_four min_four
set_option linter.unusedVariables false
set_option linter.unusedSimpArgs false
theorem eqA62 (d : Nat) (w : World) (x0 y0 : ByteArray) (x1 y1 : Int) (x2 y2 : Int) (x3 y3 : ByteArray) :
    (Op.equalIn (d + 3) 62 (.agg #[.string x0, .int .i64 x1, .int .i64 x2, .string x3]) (.agg #[.string y0, .int .i64 y1, .int .i64 y2, .string y3])).run Try.prog w = .ok (x0.toList == y0.toList && ((x1 == y1 && (x2 == y2 && (x3.toList == y3.toList))))) w := by
  refine eqA_of Try.underlying62 (by kernel_rfl) ?_
  refine eqf_cons (by rfl) (by go_simp; rfl) (by go_simp; rfl) (by go_simp) ?_
  exact eqf_last (by rfl) (by go_simp) (by go_simp) (eqA60 (d + 0) w _ _ _ _ _ _)
end Go.Proofs.Ytnojcnmnkkgkgaa.Q
end
section
namespace Go.Proofs.Ytnojcnmnkkgkgaa.Q
open Go.RowKit Go.Proofs.YtnojcnmnkkgkgaaW.PrintWords Go.Proofs.YtnojcnmnkkgkgaaW.PrintLast Go.Proofs.YtnojcnmnkkgkgaaW.PrintMore
attribute [local go_sem] max2_int min2_int max_two min_two max_three min_three max_four min_four
set_option linter.unusedVariables false
set_option linter.unusedSimpArgs false
theorem eqA66 (d : Nat) (w : World) (x0 y0 : ByteArray) (x1 y1 : Int) (x2 y2 : Bool) :
    (Op.equalIn (d + 2) 66 (.agg #[.string x0, .int .i64 x1, .bool x2]) (.agg #[.string y0, .int .i64 y1, .bool y2])).run Try.prog w = .ok (x0.toList == y0.toList && (x1 == y1 && (x2 == y2))) w := by
  refine eqA_of Try.underlying66 (by kernel_rfl) ?_
  refine eqf_cons (by rfl) (by go_simp; rfl) (by go_simp; rfl) (by go_simp) ?_
  refine eqf_cons (by rfl) (by go_simp; rfl) (by go_simp; rfl) (by go_simp) ?_
  exact eqf_last (by rfl) (by go_simp; rfl) (by go_simp; rfl) (by go_simp)
end Go.Proofs.Ytnojcnmnkkgkgaa.Q
end
section
namespace Go.Proofs.Ytnojcnmnkkgkgaa.Q
open Go.RowKit Go.Proofs.YtnojcnmnkkgkgaaW.PrintWords Go.Proofs.YtnojcnmnkkgkgaaW.PrintLast Go.Proofs.YtnojcnmnkkgkgaaW.PrintMore
attribute [local go_sem] max2_int min2_int max_two min_two max_three min_three max_four min_four
set_option linter.unusedVariables false
set_option linter.unusedSimpArgs false
attribute [local go_sem high] eqA62 eqA66
mutual
def interlockref00_SameStmt.j0 : Nat → Bool → Int → ByteArray → ByteArray → ByteArray → Int → Bool → List (S60) → List (S62) → List (S64) → List (S66) → List ByteArray → Int → ByteArray → ByteArray → ByteArray → Int → Bool → List (S60) → List (S62) → List (S64) → List (S66) → List ByteArray → Option (Bool)
  | 0, _, _, _, _, _, _, _, _, _, _, _, _, _, _, _, _, _, _, _, _, _, _, _ => none
  | k + 1, x88, x230000, x230001, x230002, x230003, x230004, x230005, x230006, x230007, x230008, x230009, x230010, x231000, x231001, x231002, x231003, x231004, x231005, x231006, x231007, x231008, x231009, x231010 => if x88 = true then (some false) else (interlockref00_SameStmt.l0 k 0 x230000 x230001 x230002 x230003 x230004 x230005 x230006 x230007 x230008 x230009 x230010 x231000 x231001 x231002 x231003 x231004 x231005 x231006 x231007 x231008 x231009 x231010)
def interlockref00_SameStmt.l0 : Nat → Int → Int → ByteArray → ByteArray → ByteArray → Int → Bool → List (S60) → List (S62) → List (S64) → List (S66) → List ByteArray → Int → ByteArray → ByteArray → ByteArray → Int → Bool → List (S60) → List (S62) → List (S64) → List (S66) → List ByteArray → Option (Bool)
  | 0, _, _, _, _, _, _, _, _, _, _, _, _, _, _, _, _, _, _, _, _, _, _, _ => none
  | k + 1, x5, x230000, x230001, x230002, x230003, x230004, x230005, x230006, x230007, x230008, x230009, x230010, x231000, x231001, x231002, x231003, x231004, x231005, x231006, x231007, x231008, x231009, x231010 => if x5 < (x230007.length : Int) then (if 0 ≤ x5 then (if x5 < (x231007.length : Int) then (if (!((((rd_T62 x230007 x5).f0).toList) == (((rd_T62 x231007 x5).f0).toList)) || ((!(((rd_T62 x230007 x5).f1.f0) == ((rd_T62 x231007 x5).f1.f0)) || (!(((rd_T62 x230007 x5).f1.f1) == ((rd_T62 x231007 x5).f1.f1)) || (!((((rd_T62 x230007 x5).f1.f2).toList) == (((rd_T62 x231007 x5).f1.f2).toList))))))) = true then (some false) else (interlockref00_SameStmt.l0 k (wrap64 (x5 + 1)) x230000 x230001 x230002 x230003 x230004 x230005 x230006 x230007 x230008 x230009 x230010 x231000 x231001 x231002 x231003 x231004 x231005 x231006 x231007 x231008 x231009 x231010)) else (none)) else (none)) else (interlockref00_SameStmt.l1 k 0 x230000 x230001 x230002 x230003 x230004 x230005 x230006 x230007 x230008 x230009 x230010 x231000 x231001 x231002 x231003 x231004 x231005 x231006 x231007 x231008 x231009 x231010)
def interlockref00_SameStmt.l1 : Nat → Int → Int → ByteArray → ByteArray → ByteArray → Int → Bool → List (S60) → List (S62) → List (S64) → List (S66) → List ByteArray → Int → ByteArray → ByteArray → ByteArray → Int → Bool → List (S60) → List (S62) → List (S64) → List (S66) → List ByteArray → Option (Bool)
  | 0, _, _, _, _, _, _, _, _, _, _, _, _, _, _, _, _, _, _, _, _, _, _, _ => none
  | k + 1, x6, x230000, x230001, x230002, x230003, x230004, x230005, x230006, x230007, x230008, x230009, x230010, x231000, x231001, x231002, x231003, x231004, x231005, x231006, x231007, x231008, x231009, x231010 => if x6 < (x230009.length : Int) then (if 0 ≤ x6 then (if x6 < (x231009.length : Int) then (if (!((((rd_T66 x230009 x6).f0).toList) == (((rd_T66 x231009 x6).f0).toList)) || (!(((rd_T66 x230009 x6).f1) == ((rd_T66 x231009 x6).f1)) || (!(((rd_T66 x230009 x6).f2) == ((rd_T66 x231009 x6).f2))))) = true then (some false) else (interlockref00_SameStmt.l1 k (wrap64 (x6 + 1)) x230000 x230001 x230002 x230003 x230004 x230005 x230006 x230007 x230008 x230009 x230010 x231000 x231001 x231002 x231003 x231004 x231005 x231006 x231007 x231008 x231009 x231010)) else (none)) else (none)) else (some true)
end
def interlockref00_SameStmt.f (k : Nat) (a0_0 : Int) (a0_1 : ByteArray) (a0_2 : ByteArray) (a0_3 : ByteArray) (a0_4 : Int) (a0_5 : Bool) (l0_6 : List (S60)) (l0_7 : List (S62)) (l0_8 : List (S64)) (l0_9 : List (S66)) (l0_10 : List ByteArray) (a1_0 : Int) (a1_1 : ByteArray) (a1_2 : ByteArray) (a1_3 : ByteArray) (a1_4 : Int) (a1_5 : Bool) (l1_6 : List (S60)) (l1_7 : List (S62)) (l1_8 : List (S64)) (l1_9 : List (S66)) (l1_10 : List ByteArray) : Option (Bool) := if a0_0 = a1_0 then (if a0_1.toList = a1_1.toList then (if a0_2.toList = a1_2.toList then (if a0_3.toList = a1_3.toList then (if a0_4 = a1_4 then (if (a0_5 != a1_5) = true then (interlockref00_SameStmt.j0 k true a0_0 a0_1 a0_2 a0_3 a0_4 a0_5 l0_6 l0_7 l0_8 l0_9 l0_10 a1_0 a1_1 a1_2 a1_3 a1_4 a1_5 l1_6 l1_7 l1_8 l1_9 l1_10) else ((interlockref00_SameRow.f k l0_6 l1_6).bind fun t231 => (if t231 = true then ((interlockref00_SameConds.f k l0_8 l1_8).bind fun t232 => (if t232 = true then ((interlockref00_SameTexts.f k l0_10 l1_10).bind fun t233 => (if t233 = true then (if (l0_7.length : Int) = (l1_7.length : Int) then (interlockref00_SameStmt.j0 k ((l0_9.length : Int) != (l1_9.length : Int)) a0_0 a0_1 a0_2 a0_3 a0_4 a0_5 l0_6 l0_7 l0_8 l0_9 l0_10 a1_0 a1_1 a1_2 a1_3 a1_4 a1_5 l1_6 l1_7 l1_8 l1_9 l1_10) else (interlockref00_SameStmt.j0 k true a0_0 a0_1 a0_2 a0_3 a0_4 a0_5 l0_6 l0_7 l0_8 l0_9 l0_10 a1_0 a1_1 a1_2 a1_3 a1_4 a1_5 l1_6 l1_7 l1_8 l1_9 l1_10)) else (interlockref00_SameStmt.j0 k true a0_0 a0_1 a0_2 a0_3 a0_4 a0_5 l0_6 l0_7 l0_8 l0_9 l0_10 a1_0 a1_1 a1_2 a1_3 a1_4 a1_5 l1_6 l1_7 l1_8 l1_9 l1_10))) else (interlockref00_SameStmt.j0 k true a0_0 a0_1 a0_2 a0_3 a0_4 a0_5 l0_6 l0_7 l0_8 l0_9 l0_10 a1_0 a1_1 a1_2 a1_3 a1_4 a1_5 l1_6 l1_7 l1_8 l1_9 l1_10))) else (interlockref00_SameStmt.j0 k true a0_0 a0_1 a0_2 a0_3 a0_4 a0_5 l0_6 l0_7 l0_8 l0_9 l0_10 a1_0 a1_1 a1_2 a1_3 a1_4 a1_5 l1_6 l1_7 l1_8 l1_9 l1_10)))) else (interlockref00_SameStmt.j0 k true a0_0 a0_1 a0_2 a0_3 a0_4 a0_5 l0_6 l0_7 l0_8 l0_9 l0_10 a1_0 a1_1 a1_2 a1_3 a1_4 a1_5 l1_6 l1_7 l1_8 l1_9 l1_10)) else (interlockref00_SameStmt.j0 k true a0_0 a0_1 a0_2 a0_3 a0_4 a0_5 l0_6 l0_7 l0_8 l0_9 l0_10 a1_0 a1_1 a1_2 a1_3 a1_4 a1_5 l1_6 l1_7 l1_8 l1_9 l1_10)) else (interlockref00_SameStmt.j0 k true a0_0 a0_1 a0_2 a0_3 a0_4 a0_5 l0_6 l0_7 l0_8 l0_9 l0_10 a1_0 a1_1 a1_2 a1_3 a1_4 a1_5 l1_6 l1_7 l1_8 l1_9 l1_10)) else (interlockref00_SameStmt.j0 k true a0_0 a0_1 a0_2 a0_3 a0_4 a0_5 l0_6 l0_7 l0_8 l0_9 l0_10 a1_0 a1_1 a1_2 a1_3 a1_4 a1_5 l1_6 l1_7 l1_8 l1_9 l1_10)) else (interlockref00_SameStmt.j0 k true a0_0 a0_1 a0_2 a0_3 a0_4 a0_5 l0_6 l0_7 l0_8 l0_9 l0_10 a1_0 a1_1 a1_2 a1_3 a1_4 a1_5 l1_6 l1_7 l1_8 l1_9 l1_10)
theorem interlockref00_SameStmt.mono_l : ∀ k, (∀ y0 y1 y2 y3 y4 y5 y6 y7 y8 y9 y10 y11 y12 y13 y14 y15 y16 y17 y18 y19 y20 y21 y22, LeO (interlockref00_SameStmt.j0 k y0 y1 y2 y3 y4 y5 y6 y7 y8 y9 y10 y11 y12 y13 y14 y15 y16 y17 y18 y19 y20 y21 y22) (interlockref00_SameStmt.j0 (k + 1) y0 y1 y2 y3 y4 y5 y6 y7 y8 y9 y10 y11 y12 y13 y14 y15 y16 y17 y18 y19 y20 y21 y22)) ∧ (∀ y0 y1 y2 y3 y4 y5 y6 y7 y8 y9 y10 y11 y12 y13 y14 y15 y16 y17 y18 y19 y20 y21 y22, LeO (interlockref00_SameStmt.l0 k y0 y1 y2 y3 y4 y5 y6 y7 y8 y9 y10 y11 y12 y13 y14 y15 y16 y17 y18 y19 y20 y21 y22) (interlockref00_SameStmt.l0 (k + 1) y0 y1 y2 y3 y4 y5 y6 y7 y8 y9 y10 y11 y12 y13 y14 y15 y16 y17 y18 y19 y20 y21 y22)) ∧ (∀ y0 y1 y2 y3 y4 y5 y6 y7 y8 y9 y10 y11 y12 y13 y14 y15 y16 y17 y18 y19 y20 y21 y22, LeO (interlockref00_SameStmt.l1 k y0 y1 y2 y3 y4 y5 y6 y7 y8 y9 y10 y11 y12 y13 y14 y15 y16 y17 y18 y19 y20 y21 y22) (interlockref00_SameStmt.l1 (k + 1) y0 y1 y2 y3 y4 y5 y6 y7 y8 y9 y10 y11 y12 y13 y14 y15 y16 y17 y18 y19 y20 y21 y22))
  | 0 => ⟨fun _ _ _ _ _ _ _ _ _ _ _ _ _ _ _ _ _ _ _ _ _ _ _ r h => by simp [interlockref00_SameStmt.j0] at h, fun _ _ _ _ _ _ _ _ _ _ _ _ _ _ _ _ _ _ _ _ _ _ _ r h => by simp [interlockref00_SameStmt.l0] at h, fun _ _ _ _ _ _ _ _ _ _ _ _ _ _ _ _ _ _ _ _ _ _ _ r h => by simp [interlockref00_SameStmt.l1] at h⟩
  | k + 1 => by
    obtain ⟨ih0, ih1, ih2⟩ := interlockref00_SameStmt.mono_l k
    refine ⟨?_, ?_, ?_⟩
    · intro y0 y1 y2 y3 y4 y5 y6 y7 y8 y9 y10 y11 y12 y13 y14 y15 y16 y17 y18 y19 y20 y21 y22
      unfold interlockref00_SameStmt.j0
      repeat' first
      | (with_reducible exact ih0 _ _ _ _ _ _ _ _ _ _ _ _ _ _ _ _ _ _ _ _ _ _ _)
      | (with_reducible exact ih1 _ _ _ _ _ _ _ _ _ _ _ _ _ _ _ _ _ _ _ _ _ _ _)
      | (with_reducible exact ih2 _ _ _ _ _ _ _ _ _ _ _ _ _ _ _ _ _ _ _ _ _ _ _)
      | (with_reducible exact interlockref00_SameConds.mono _ _ _)
      | (with_reducible exact interlockref00_SameRow.mono _ _ _)
      | (with_reducible exact interlockref00_SameTexts.mono _ _ _)
      | (with_reducible exact LeO.refl _)
      | (with_reducible exact LeO.none _)
      | (with_reducible refine LeO.ite ?_ ?_)
      | (with_reducible refine LeO.bind ?_ (fun _ => ?_))
      | exact ih0 _ _ _ _ _ _ _ _ _ _ _ _ _ _ _ _ _ _ _ _ _ _ _
      | exact ih1 _ _ _ _ _ _ _ _ _ _ _ _ _ _ _ _ _ _ _ _ _ _ _
      | exact ih2 _ _ _ _ _ _ _ _ _ _ _ _ _ _ _ _ _ _ _ _ _ _ _
      | exact interlockref00_SameConds.mono _ _ _
      | exact interlockref00_SameRow.mono _ _ _
      | exact interlockref00_SameTexts.mono _ _ _
      | exact LeO.none _
      | refine LeO.ite ?_ ?_
      | refine LeO.bind ?_ (fun _ => ?_)
    · intro y0 y1 y2 y3 y4 y5 y6 y7 y8 y9 y10 y11 y12 y13 y14 y15 y16 y17 y18 y19 y20 y21 y22
      unfold interlockref00_SameStmt.l0
      repeat' first
      | (with_reducible exact ih0 _ _ _ _ _ _ _ _ _ _ _ _ _ _ _ _ _ _ _ _ _ _ _)
      | (with_reducible exact ih1 _ _ _ _ _ _ _ _ _ _ _ _ _ _ _ _ _ _ _ _ _ _ _)
      | (with_reducible exact ih2 _ _ _ _ _ _ _ _ _ _ _ _ _ _ _ _ _ _ _ _ _ _ _)
      | (with_reducible exact interlockref00_SameConds.mono _ _ _)
      | (with_reducible exact interlockref00_SameRow.mono _ _ _)
      | (with_reducible exact interlockref00_SameTexts.mono _ _ _)
      | (with_reducible exact LeO.refl _)
      | (with_reducible exact LeO.none _)
      | (with_reducible refine LeO.ite ?_ ?_)
      | (with_reducible refine LeO.bind ?_ (fun _ => ?_))
      | exact ih0 _ _ _ _ _ _ _ _ _ _ _ _ _ _ _ _ _ _ _ _ _ _ _
      | exact ih1 _ _ _ _ _ _ _ _ _ _ _ _ _ _ _ _ _ _ _ _ _ _ _
      | exact ih2 _ _ _ _ _ _ _ _ _ _ _ _ _ _ _ _ _ _ _ _ _ _ _
      | exact interlockref00_SameConds.mono _ _ _
      | exact interlockref00_SameRow.mono _ _ _
      | exact interlockref00_SameTexts.mono _ _ _
      | exact LeO.none _
      | refine LeO.ite ?_ ?_
      | refine LeO.bind ?_ (fun _ => ?_)
    · intro y0 y1 y2 y3 y4 y5 y6 y7 y8 y9 y10 y11 y12 y13 y14 y15 y16 y17 y18 y19 y20 y21 y22
      unfold interlockref00_SameStmt.l1
      repeat' first
      | (with_reducible exact ih0 _ _ _ _ _ _ _ _ _ _ _ _ _ _ _ _ _ _ _ _ _ _ _)
      | (with_reducible exact ih1 _ _ _ _ _ _ _ _ _ _ _ _ _ _ _ _ _ _ _ _ _ _ _)
      | (with_reducible exact ih2 _ _ _ _ _ _ _ _ _ _ _ _ _ _ _ _ _ _ _ _ _ _ _)
      | (with_reducible exact interlockref00_SameConds.mono _ _ _)
      | (with_reducible exact interlockref00_SameRow.mono _ _ _)
      | (with_reducible exact interlockref00_SameTexts.mono _ _ _)
      | (with_reducible exact LeO.refl _)
      | (with_reducible exact LeO.none _)
      | (with_reducible refine LeO.ite ?_ ?_)
      | (with_reducible refine LeO.bind ?_ (fun _ => ?_))
      | exact ih0 _ _ _ _ _ _ _ _ _ _ _ _ _ _ _ _ _ _ _ _ _ _ _
      | exact ih1 _ _ _ _ _ _ _ _ _ _ _ _ _ _ _ _ _ _ _ _ _ _ _
      | exact ih2 _ _ _ _ _ _ _ _ _ _ _ _ _ _ _ _ _ _ _ _ _ _ _
      | exact interlockref00_SameConds.mono _ _ _
      | exact interlockref00_SameRow.mono _ _ _
      | exact interlockref00_SameTexts.mono _ _ _
      | exact LeO.none _
      | refine LeO.ite ?_ ?_
      | refine LeO.bind ?_ (fun _ => ?_)
theorem interlockref00_SameStmt.mono : ∀ a0 a1 a2 a3 a4 a5 a6 a7 a8 a9 a10 a11 a12 a13 a14 a15 a16 a17 a18 a19 a20 a21 k, LeO (interlockref00_SameStmt.f k a0 a1 a2 a3 a4 a5 a6 a7 a8 a9 a10 a11 a12 a13 a14 a15 a16 a17 a18 a19 a20 a21) (interlockref00_SameStmt.f (k + 1) a0 a1 a2 a3 a4 a5 a6 a7 a8 a9 a10 a11 a12 a13 a14 a15 a16 a17 a18 a19 a20 a21) := by
  intro a0 a1 a2 a3 a4 a5 a6 a7 a8 a9 a10 a11 a12 a13 a14 a15 a16 a17 a18 a19 a20 a21 k
  obtain ⟨ih0, ih1, ih2⟩ := interlockref00_SameStmt.mono_l k
  unfold interlockref00_SameStmt.f
  repeat' first
      | (with_reducible exact ih0 _ _ _ _ _ _ _ _ _ _ _ _ _ _ _ _ _ _ _ _ _ _ _)
      | (with_reducible exact ih1 _ _ _ _ _ _ _ _ _ _ _ _ _ _ _ _ _ _ _ _ _ _ _)
      | (with_reducible exact ih2 _ _ _ _ _ _ _ _ _ _ _ _ _ _ _ _ _ _ _ _ _ _ _)
      | (with_reducible exact interlockref00_SameConds.mono _ _ _)
      | (with_reducible exact interlockref00_SameRow.mono _ _ _)
      | (with_reducible exact interlockref00_SameTexts.mono _ _ _)
      | (with_reducible exact LeO.refl _)
      | (with_reducible exact LeO.none _)
      | (with_reducible refine LeO.ite ?_ ?_)
      | (with_reducible refine LeO.bind ?_ (fun _ => ?_))
      | exact ih0 _ _ _ _ _ _ _ _ _ _ _ _ _ _ _ _ _ _ _ _ _ _ _
      | exact ih1 _ _ _ _ _ _ _ _ _ _ _ _ _ _ _ _ _ _ _ _ _ _ _
      | exact ih2 _ _ _ _ _ _ _ _ _ _ _ _ _ _ _ _ _ _ _ _ _ _ _
      | exact interlockref00_SameConds.mono _ _ _
      | exact interlockref00_SameRow.mono _ _ _
      | exact interlockref00_SameTexts.mono _ _ _
      | exact LeO.none _
      | refine LeO.ite ?_ ?_
      | refine LeO.bind ?_ (fun _ => ?_)
set_option maxHeartbeats 8000000 in
set_option maxRecDepth 100000 in
theorem interlockref00_SameStmt.calls (k : Nat) (a0_0 : Int) (a0_1 : ByteArray) (a0_2 : ByteArray) (a0_3 : ByteArray) (a0_4 : Int) (a0_5 : Bool) (A0_6 : Option Addr) (c0_6 : Nat) (l0_6 : List (S60)) (A0_7 : Option Addr) (c0_7 : Nat) (l0_7 : List (S62)) (A0_8 : Option Addr) (c0_8 : Nat) (l0_8 : List (S64)) (A0_9 : Option Addr) (c0_9 : Nat) (l0_9 : List (S66)) (A0_10 : Option Addr) (c0_10 : Nat) (l0_10 : List ByteArray) (a1_0 : Int) (a1_1 : ByteArray) (a1_2 : ByteArray) (a1_3 : ByteArray) (a1_4 : Int) (a1_5 : Bool) (A1_6 : Option Addr) (c1_6 : Nat) (l1_6 : List (S60)) (A1_7 : Option Addr) (c1_7 : Nat) (l1_7 : List (S62)) (A1_8 : Option Addr) (c1_8 : Nat) (l1_8 : List (S64)) (A1_9 : Option Addr) (c1_9 : Nat) (l1_9 : List (S66)) (A1_10 : Option Addr) (c1_10 : Nat) (l1_10 : List ByteArray) (r : Bool) (w : World) (hr0_6 : Kd.C k60 w A0_6 l0_6.length l0_6) (hc0_6 : l0_6.length ≤ c0_6) (hr0_7 : Kd.C k62 w A0_7 l0_7.length l0_7) (hc0_7 : l0_7.length ≤ c0_7) (hr0_8 : Kd.C k64 w A0_8 l0_8.length l0_8) (hc0_8 : l0_8.length ≤ c0_8) (hr0_9 : Kd.C k66 w A0_9 l0_9.length l0_9) (hc0_9 : l0_9.length ≤ c0_9) (hr0_10 : Kd.C Kd.string w A0_10 l0_10.length l0_10) (hc0_10 : l0_10.length ≤ c0_10) (hr1_6 : Kd.C k60 w A1_6 l1_6.length l1_6) (hc1_6 : l1_6.length ≤ c1_6) (hr1_7 : Kd.C k62 w A1_7 l1_7.length l1_7) (hc1_7 : l1_7.length ≤ c1_7) (hr1_8 : Kd.C k64 w A1_8 l1_8.length l1_8) (hc1_8 : l1_8.length ≤ c1_8) (hr1_9 : Kd.C k66 w A1_9 l1_9.length l1_9) (hc1_9 : l1_9.length ≤ c1_9) (hr1_10 : Kd.C Kd.string w A1_10 l1_10.length l1_10) (hc1_10 : l1_10.length ≤ c1_10) (h : interlockref00_SameStmt.f k a0_0 a0_1 a0_2 a0_3 a0_4 a0_5 l0_6 l0_7 l0_8 l0_9 l0_10 a1_0 a1_1 a1_2 a1_3 a1_4 a1_5 l1_6 l1_7 l1_8 l1_9 l1_10 = some r) :
    Calls Try.prog 21 #[.agg #[.int .i64 a0_0, .string a0_1, .string a0_2, .string a0_3, .int .i64 a0_4, .bool a0_5, .slice A0_6 l0_6.length c0_6, .slice A0_7 l0_7.length c0_7, .slice A0_8 l0_8.length c0_8, .slice A0_9 l0_9.length c0_9, .slice A0_10 l0_10.length c0_10], .agg #[.int .i64 a1_0, .string a1_1, .string a1_2, .string a1_3, .int .i64 a1_4, .bool a1_5, .slice A1_6 l1_6.length c1_6, .slice A1_7 l1_7.length c1_7, .slice A1_8 l1_8.length c1_8, .slice A1_9 l1_9.length c1_9, .slice A1_10 l1_10.length c1_10]] w fun e w' => e = .returned (.bool r) ∧ Below w.heap.size w w' := by
  have hu28 := Try.underlying28
  have hu62 := Try.underlying62
  have hu66 := Try.underlying66
  have HR0_6 := Aside0.mk hr0_6
  have HC0_6 := Aside0.mk hc0_6
  clear hr0_6 hc0_6
  have HR0_7 := Aside0.mk hr0_7
  have HC0_7 := Aside0.mk hc0_7
  clear hr0_7 hc0_7
  have HR0_8 := Aside0.mk hr0_8
  have HC0_8 := Aside0.mk hc0_8
  clear hr0_8 hc0_8
  have HR0_9 := Aside0.mk hr0_9
  have HC0_9 := Aside0.mk hc0_9
  clear hr0_9 hc0_9
  have HR0_10 := Aside0.mk hr0_10
  have HC0_10 := Aside0.mk hc0_10
  clear hr0_10 hc0_10
  have HR1_6 := Aside0.mk hr1_6
  have HC1_6 := Aside0.mk hc1_6
  clear hr1_6 hc1_6
  have HR1_7 := Aside0.mk hr1_7
  have HC1_7 := Aside0.mk hc1_7
  clear hr1_7 hc1_7
  have HR1_8 := Aside0.mk hr1_8
  have HC1_8 := Aside0.mk hc1_8
  clear hr1_8 hc1_8
  have HR1_9 := Aside0.mk hr1_9
  have HC1_9 := Aside0.mk hc1_9
  clear hr1_9 hc1_9
  have HR1_10 := Aside0.mk hr1_10
  have HC1_10 := Aside0.mk hc1_10
  clear hr1_10 hc1_10
  have HB := Aside0.mk (Below.refl w.heap.size w)
  have H : (if a0_0 = a1_0 then (if a0_1.toList = a1_1.toList then (if a0_2.toList = a1_2.toList then (if a0_3.toList = a1_3.toList then (if a0_4 = a1_4 then (if (a0_5 != a1_5) = true then (interlockref00_SameStmt.j0 k true a0_0 a0_1 a0_2 a0_3 a0_4 a0_5 l0_6 l0_7 l0_8 l0_9 l0_10 a1_0 a1_1 a1_2 a1_3 a1_4 a1_5 l1_6 l1_7 l1_8 l1_9 l1_10) else ((interlockref00_SameRow.f k l0_6 l1_6).bind fun t231 => (if t231 = true then ((interlockref00_SameConds.f k l0_8 l1_8).bind fun t232 => (if t232 = true then ((interlockref00_SameTexts.f k l0_10 l1_10).bind fun t233 => (if t233 = true then (if (l0_7.length : Int) = (l1_7.length : Int) then (interlockref00_SameStmt.j0 k ((l0_9.length : Int) != (l1_9.length : Int)) a0_0 a0_1 a0_2 a0_3 a0_4 a0_5 l0_6 l0_7 l0_8 l0_9 l0_10 a1_0 a1_1 a1_2 a1_3 a1_4 a1_5 l1_6 l1_7 l1_8 l1_9 l1_10) else (interlockref00_SameStmt.j0 k true a0_0 a0_1 a0_2 a0_3 a0_4 a0_5 l0_6 l0_7 l0_8 l0_9 l0_10 a1_0 a1_1 a1_2 a1_3 a1_4 a1_5 l1_6 l1_7 l1_8 l1_9 l1_10)) else (interlockref00_SameStmt.j0 k true a0_0 a0_1 a0_2 a0_3 a0_4 a0_5 l0_6 l0_7 l0_8 l0_9 l0_10 a1_0 a1_1 a1_2 a1_3 a1_4 a1_5 l1_6 l1_7 l1_8 l1_9 l1_10))) else (interlockref00_SameStmt.j0 k true a0_0 a0_1 a0_2 a0_3 a0_4 a0_5 l0_6 l0_7 l0_8 l0_9 l0_10 a1_0 a1_1 a1_2 a1_3 a1_4 a1_5 l1_6 l1_7 l1_8 l1_9 l1_10))) else (interlockref00_SameStmt.j0 k true a0_0 a0_1 a0_2 a0_3 a0_4 a0_5 l0_6 l0_7 l0_8 l0_9 l0_10 a1_0 a1_1 a1_2 a1_3 a1_4 a1_5 l1_6 l1_7 l1_8 l1_9 l1_10)))) else (interlockref00_SameStmt.j0 k true a0_0 a0_1 a0_2 a0_3 a0_4 a0_5 l0_6 l0_7 l0_8 l0_9 l0_10 a1_0 a1_1 a1_2 a1_3 a1_4 a1_5 l1_6 l1_7 l1_8 l1_9 l1_10)) else (interlockref00_SameStmt.j0 k true a0_0 a0_1 a0_2 a0_3 a0_4 a0_5 l0_6 l0_7 l0_8 l0_9 l0_10 a1_0 a1_1 a1_2 a1_3 a1_4 a1_5 l1_6 l1_7 l1_8 l1_9 l1_10)) else (interlockref00_SameStmt.j0 k true a0_0 a0_1 a0_2 a0_3 a0_4 a0_5 l0_6 l0_7 l0_8 l0_9 l0_10 a1_0 a1_1 a1_2 a1_3 a1_4 a1_5 l1_6 l1_7 l1_8 l1_9 l1_10)) else (interlockref00_SameStmt.j0 k true a0_0 a0_1 a0_2 a0_3 a0_4 a0_5 l0_6 l0_7 l0_8 l0_9 l0_10 a1_0 a1_1 a1_2 a1_3 a1_4 a1_5 l1_6 l1_7 l1_8 l1_9 l1_10)) else (interlockref00_SameStmt.j0 k true a0_0 a0_1 a0_2 a0_3 a0_4 a0_5 l0_6 l0_7 l0_8 l0_9 l0_10 a1_0 a1_1 a1_2 a1_3 a1_4 a1_5 l1_6 l1_7 l1_8 l1_9 l1_10)) = some r := h
  clear h
  have HC3 := Aside0.mk H
  clear H
  go_enter Try.func21, Try.ntmps21
  go_upto_region 1 with (first | ((with_reducible refine gate_dst (N := 2) rfl ?_); (try (refine gate_guard (by rfl) ?_; dsimp only)); refine box_event ?hg (N := 2) ?hd (cs := #[.int .i64 a0_0, .string a0_1, .string a0_2, .string a0_3, .int .i64 a0_4, .bool a0_5, .slice A0_6 l0_6.length c0_6, .slice A0_7 l0_7.length c0_7, .slice A0_8 l0_8.length c0_8, .slice A0_9 l0_9.length c0_9, .slice A0_10 l0_10.length c0_10]) (t := 28) ?hr ?_; (case hd => rfl); (case hg => rfl); (case hr => first | (go_simp; done) | (go_simp; rfl)); intro gb229 hg w4 hbox hb; have n0_ := Aside0.mk (below_step (by repeat (first | (with_reducible first | exact HB.out | apply below_alloc | apply pw_below_drewN | apply below_drew1) | exact HB.out)) hb); have n1_ := Aside0.mk (hbox); have n2_ := Aside0.mk ((by rw [hg]; exact (below_size (by repeat (first | (with_reducible first | exact HB.out | apply below_alloc | apply pw_below_drewN | apply below_drew1) | exact HB.out))) : w.heap.size ≤ gb229)); have n3_ := Aside0.mk ((by rw [hg]; exact (below_size (by repeat (first | (with_reducible first | exact HB.out | apply below_alloc | apply pw_below_drewN | apply below_drew1) | exact HB.out))) : w.heap.size ≤ gb229)); clear HB; have HB := n0_; have BK229 := n1_; have GW229 := n2_; have GE229 := n3_; clear n0_ n1_ n2_ n3_; clear hb hbox hg) | ((with_reducible refine gate_dst (N := 3) rfl ?_); (try (refine gate_guard (by rfl) ?_; dsimp only)); refine box_event ?hg (N := 3) ?hd (cs := #[.int .i64 a1_0, .string a1_1, .string a1_2, .string a1_3, .int .i64 a1_4, .bool a1_5, .slice A1_6 l1_6.length c1_6, .slice A1_7 l1_7.length c1_7, .slice A1_8 l1_8.length c1_8, .slice A1_9 l1_9.length c1_9, .slice A1_10 l1_10.length c1_10]) (t := 28) ?hr ?_; (case hd => rfl); (case hg => rfl); (case hr => first | (go_simp; done) | (go_simp; rfl)); intro gb230 hg w5 hbox hb; have n0_ := Aside0.mk (blk_below (g := gb229) (o := .cells #[.int .i64 a0_0, .string a0_1, .string a0_2, .string a0_3, .int .i64 a0_4, .bool a0_5, .slice A0_6 l0_6.length c0_6, .slice A0_7 l0_7.length c0_7, .slice A0_8 l0_8.length c0_8, .slice A0_9 l0_9.length c0_9, .slice A0_10 l0_10.length c0_10] 28 (0, 0)) (by (with_reducible repeat (first | refine blk_drewN ?_ _ | refine blk_drew ?_ | refine blk_alloc ?_ _)); exact BK229.out) hb); have n1_ := Aside0.mk (below_step (by repeat (first | (with_reducible first | exact HB.out | apply below_alloc | apply pw_below_drewN | apply below_drew1 | refine below_set ?_ GE229.out) | exact HB.out)) hb); have n2_ := Aside0.mk (hbox); have n3_ := Aside0.mk ((by rw [hg]; exact (below_size (by repeat (first | (with_reducible first | exact HB.out | apply below_alloc | apply pw_below_drewN | apply below_drew1 | refine below_set ?_ GE229.out) | exact HB.out))) : w.heap.size ≤ gb230)); have n4_ := Aside0.mk ((by rw [hg]; exact (below_size (by repeat (first | (with_reducible first | exact HB.out | apply below_alloc | apply pw_below_drewN | apply below_drew1 | refine below_set ?_ GE229.out) | exact HB.out))) : w.heap.size ≤ gb230)); have n5_ := Aside0.mk ((by rw [hg]; exact Nat.ne_of_lt (blk_lt (g := gb229) (o := .cells #[.int .i64 a0_0, .string a0_1, .string a0_2, .string a0_3, .int .i64 a0_4, .bool a0_5, .slice A0_6 l0_6.length c0_6, .slice A0_7 l0_7.length c0_7, .slice A0_8 l0_8.length c0_8, .slice A0_9 l0_9.length c0_9, .slice A0_10 l0_10.length c0_10] 28 (0, 0)) (by (with_reducible repeat (first | refine blk_drewN ?_ _ | refine blk_drew ?_ | refine blk_alloc ?_ _)); exact BK229.out)) : gb229 ≠ gb230)); have n6_ := Aside0.mk ((by rw [hg]; exact Nat.ne_of_gt (blk_lt (g := gb229) (o := .cells #[.int .i64 a0_0, .string a0_1, .string a0_2, .string a0_3, .int .i64 a0_4, .bool a0_5, .slice A0_6 l0_6.length c0_6, .slice A0_7 l0_7.length c0_7, .slice A0_8 l0_8.length c0_8, .slice A0_9 l0_9.length c0_9, .slice A0_10 l0_10.length c0_10] 28 (0, 0)) (by (with_reducible repeat (first | refine blk_drewN ?_ _ | refine blk_drew ?_ | refine blk_alloc ?_ _)); exact BK229.out)) : gb230 ≠ gb229)); clear BK229; clear HB; have BK229 := n0_; have HB := n1_; have BK230 := n2_; have GW230 := n3_; have GE230 := n4_; have NB229_230 := n5_; have NB230_229 := n6_; clear n0_ n1_ n2_ n3_ n4_ n5_ n6_; clear hb hbox hg))
  repeat (go_quiet (first | ((with_reducible refine gate_dst (N := 2) rfl ?_); (try (refine gate_guard (by rfl) ?_; dsimp only)); refine box_event ?hg (N := 2) ?hd (cs := #[.int .i64 a0_0, .string a0_1, .string a0_2, .string a0_3, .int .i64 a0_4, .bool a0_5, .slice A0_6 l0_6.length c0_6, .slice A0_7 l0_7.length c0_7, .slice A0_8 l0_8.length c0_8, .slice A0_9 l0_9.length c0_9, .slice A0_10 l0_10.length c0_10]) (t := 28) ?hr ?_; (case hd => rfl); (case hg => rfl); (case hr => first | (go_simp; done) | (go_simp; rfl)); intro gb229 hg w4 hbox hb; have n0_ := Aside0.mk (below_step (by repeat (first | (with_reducible first | exact HB.out | apply below_alloc | apply pw_below_drewN | apply below_drew1) | exact HB.out)) hb); have n1_ := Aside0.mk (hbox); have n2_ := Aside0.mk ((by rw [hg]; exact (below_size (by repeat (first | (with_reducible first | exact HB.out | apply below_alloc | apply pw_below_drewN | apply below_drew1) | exact HB.out))) : w.heap.size ≤ gb229)); have n3_ := Aside0.mk ((by rw [hg]; exact (below_size (by repeat (first | (with_reducible first | exact HB.out | apply below_alloc | apply pw_below_drewN | apply below_drew1) | exact HB.out))) : w.heap.size ≤ gb229)); clear HB; have HB := n0_; have BK229 := n1_; have GW229 := n2_; have GE229 := n3_; clear n0_ n1_ n2_ n3_; clear hb hbox hg) | ((with_reducible refine gate_dst (N := 3) rfl ?_); (try (refine gate_guard (by rfl) ?_; dsimp only)); refine box_event ?hg (N := 3) ?hd (cs := #[.int .i64 a1_0, .string a1_1, .string a1_2, .string a1_3, .int .i64 a1_4, .bool a1_5, .slice A1_6 l1_6.length c1_6, .slice A1_7 l1_7.length c1_7, .slice A1_8 l1_8.length c1_8, .slice A1_9 l1_9.length c1_9, .slice A1_10 l1_10.length c1_10]) (t := 28) ?hr ?_; (case hd => rfl); (case hg => rfl); (case hr => first | (go_simp; done) | (go_simp; rfl)); intro gb230 hg w5 hbox hb; have n0_ := Aside0.mk (blk_below (g := gb229) (o := .cells #[.int .i64 a0_0, .string a0_1, .string a0_2, .string a0_3, .int .i64 a0_4, .bool a0_5, .slice A0_6 l0_6.length c0_6, .slice A0_7 l0_7.length c0_7, .slice A0_8 l0_8.length c0_8, .slice A0_9 l0_9.length c0_9, .slice A0_10 l0_10.length c0_10] 28 (0, 0)) (by (with_reducible repeat (first | refine blk_drewN ?_ _ | refine blk_drew ?_ | refine blk_alloc ?_ _)); exact BK229.out) hb); have n1_ := Aside0.mk (below_step (by repeat (first | (with_reducible first | exact HB.out | apply below_alloc | apply pw_below_drewN | apply below_drew1 | refine below_set ?_ GE229.out) | exact HB.out)) hb); have n2_ := Aside0.mk (hbox); have n3_ := Aside0.mk ((by rw [hg]; exact (below_size (by repeat (first | (with_reducible first | exact HB.out | apply below_alloc | apply pw_below_drewN | apply below_drew1 | refine below_set ?_ GE229.out) | exact HB.out))) : w.heap.size ≤ gb230)); have n4_ := Aside0.mk ((by rw [hg]; exact (below_size (by repeat (first | (with_reducible first | exact HB.out | apply below_alloc | apply pw_below_drewN | apply below_drew1 | refine below_set ?_ GE229.out) | exact HB.out))) : w.heap.size ≤ gb230)); have n5_ := Aside0.mk ((by rw [hg]; exact Nat.ne_of_lt (blk_lt (g := gb229) (o := .cells #[.int .i64 a0_0, .string a0_1, .string a0_2, .string a0_3, .int .i64 a0_4, .bool a0_5, .slice A0_6 l0_6.length c0_6, .slice A0_7 l0_7.length c0_7, .slice A0_8 l0_8.length c0_8, .slice A0_9 l0_9.length c0_9, .slice A0_10 l0_10.length c0_10] 28 (0, 0)) (by (with_reducible repeat (first | refine blk_drewN ?_ _ | refine blk_drew ?_ | refine blk_alloc ?_ _)); exact BK229.out)) : gb229 ≠ gb230)); have n6_ := Aside0.mk ((by rw [hg]; exact Nat.ne_of_gt (blk_lt (g := gb229) (o := .cells #[.int .i64 a0_0, .string a0_1, .string a0_2, .string a0_3, .int .i64 a0_4, .bool a0_5, .slice A0_6 l0_6.length c0_6, .slice A0_7 l0_7.length c0_7, .slice A0_8 l0_8.length c0_8, .slice A0_9 l0_9.length c0_9, .slice A0_10 l0_10.length c0_10] 28 (0, 0)) (by (with_reducible repeat (first | refine blk_drewN ?_ _ | refine blk_drew ?_ | refine blk_alloc ?_ _)); exact BK229.out)) : gb230 ≠ gb229)); clear BK229; clear HB; have BK229 := n0_; have HB := n1_; have BK230 := n2_; have GW230 := n3_; have GE230 := n4_; have NB229_230 := n5_; have NB230_229 := n6_; clear n0_ n1_ n2_ n3_ n4_ n5_ n6_; clear hb hbox hg)); go_upto_region 1 with (first | ((with_reducible refine gate_dst (N := 2) rfl ?_); (try (refine gate_guard (by rfl) ?_; dsimp only)); refine box_event ?hg (N := 2) ?hd (cs := #[.int .i64 a0_0, .string a0_1, .string a0_2, .string a0_3, .int .i64 a0_4, .bool a0_5, .slice A0_6 l0_6.length c0_6, .slice A0_7 l0_7.length c0_7, .slice A0_8 l0_8.length c0_8, .slice A0_9 l0_9.length c0_9, .slice A0_10 l0_10.length c0_10]) (t := 28) ?hr ?_; (case hd => rfl); (case hg => rfl); (case hr => first | (go_simp; done) | (go_simp; rfl)); intro gb229 hg w4 hbox hb; have n0_ := Aside0.mk (below_step (by repeat (first | (with_reducible first | exact HB.out | apply below_alloc | apply pw_below_drewN | apply below_drew1) | exact HB.out)) hb); have n1_ := Aside0.mk (hbox); have n2_ := Aside0.mk ((by rw [hg]; exact (below_size (by repeat (first | (with_reducible first | exact HB.out | apply below_alloc | apply pw_below_drewN | apply below_drew1) | exact HB.out))) : w.heap.size ≤ gb229)); have n3_ := Aside0.mk ((by rw [hg]; exact (below_size (by repeat (first | (with_reducible first | exact HB.out | apply below_alloc | apply pw_below_drewN | apply below_drew1) | exact HB.out))) : w.heap.size ≤ gb229)); clear HB; have HB := n0_; have BK229 := n1_; have GW229 := n2_; have GE229 := n3_; clear n0_ n1_ n2_ n3_; clear hb hbox hg) | ((with_reducible refine gate_dst (N := 3) rfl ?_); (try (refine gate_guard (by rfl) ?_; dsimp only)); refine box_event ?hg (N := 3) ?hd (cs := #[.int .i64 a1_0, .string a1_1, .string a1_2, .string a1_3, .int .i64 a1_4, .bool a1_5, .slice A1_6 l1_6.length c1_6, .slice A1_7 l1_7.length c1_7, .slice A1_8 l1_8.length c1_8, .slice A1_9 l1_9.length c1_9, .slice A1_10 l1_10.length c1_10]) (t := 28) ?hr ?_; (case hd => rfl); (case hg => rfl); (case hr => first | (go_simp; done) | (go_simp; rfl)); intro gb230 hg w5 hbox hb; have n0_ := Aside0.mk (blk_below (g := gb229) (o := .cells #[.int .i64 a0_0, .string a0_1, .string a0_2, .string a0_3, .int .i64 a0_4, .bool a0_5, .slice A0_6 l0_6.length c0_6, .slice A0_7 l0_7.length c0_7, .slice A0_8 l0_8.length c0_8, .slice A0_9 l0_9.length c0_9, .slice A0_10 l0_10.length c0_10] 28 (0, 0)) (by (with_reducible repeat (first | refine blk_drewN ?_ _ | refine blk_drew ?_ | refine blk_alloc ?_ _)); exact BK229.out) hb); have n1_ := Aside0.mk (below_step (by repeat (first | (with_reducible first | exact HB.out | apply below_alloc | apply pw_below_drewN | apply below_drew1 | refine below_set ?_ GE229.out) | exact HB.out)) hb); have n2_ := Aside0.mk (hbox); have n3_ := Aside0.mk ((by rw [hg]; exact (below_size (by repeat (first | (with_reducible first | exact HB.out | apply below_alloc | apply pw_below_drewN | apply below_drew1 | refine below_set ?_ GE229.out) | exact HB.out))) : w.heap.size ≤ gb230)); have n4_ := Aside0.mk ((by rw [hg]; exact (below_size (by repeat (first | (with_reducible first | exact HB.out | apply below_alloc | apply pw_below_drewN | apply below_drew1 | refine below_set ?_ GE229.out) | exact HB.out))) : w.heap.size ≤ gb230)); have n5_ := Aside0.mk ((by rw [hg]; exact Nat.ne_of_lt (blk_lt (g := gb229) (o := .cells #[.int .i64 a0_0, .string a0_1, .string a0_2, .string a0_3, .int .i64 a0_4, .bool a0_5, .slice A0_6 l0_6.length c0_6, .slice A0_7 l0_7.length c0_7, .slice A0_8 l0_8.length c0_8, .slice A0_9 l0_9.length c0_9, .slice A0_10 l0_10.length c0_10] 28 (0, 0)) (by (with_reducible repeat (first | refine blk_drewN ?_ _ | refine blk_drew ?_ | refine blk_alloc ?_ _)); exact BK229.out)) : gb229 ≠ gb230)); have n6_ := Aside0.mk ((by rw [hg]; exact Nat.ne_of_gt (blk_lt (g := gb229) (o := .cells #[.int .i64 a0_0, .string a0_1, .string a0_2, .string a0_3, .int .i64 a0_4, .bool a0_5, .slice A0_6 l0_6.length c0_6, .slice A0_7 l0_7.length c0_7, .slice A0_8 l0_8.length c0_8, .slice A0_9 l0_9.length c0_9, .slice A0_10 l0_10.length c0_10] 28 (0, 0)) (by (with_reducible repeat (first | refine blk_drewN ?_ _ | refine blk_drew ?_ | refine blk_alloc ?_ _)); exact BK229.out)) : gb230 ≠ gb229)); clear BK229; clear HB; have BK229 := n0_; have HB := n1_; have BK230 := n2_; have GW230 := n3_; have GE230 := n4_; have NB229_230 := n5_; have NB230_229 := n6_; clear n0_ n1_ n2_ n3_ n4_ n5_ n6_; clear hb hbox hg)))
  (try simp only [Act.put, List.setIfInBounds_toArray, List.set_cons_zero, List.set_cons_succ])
  go_cut [88] (fun v88 wc => ∃ (kq : Nat) (x88_2 : Bool), v88 = .bool x88_2 ∧ Aside0 (interlockref00_SameStmt.j0 kq x88_2 a0_0 a0_1 a0_2 a0_3 a0_4 a0_5 l0_6 l0_7 l0_8 l0_9 l0_10 a1_0 a1_1 a1_2 a1_3 a1_4 a1_5 l1_6 l1_7 l1_8 l1_9 l1_10 = some r) ∧ Aside0 (kq ≤ k) ∧ Aside0 (wc.heap[gb229]? = some (.cells #[.int .i64 a0_0, .string a0_1, .string a0_2, .string a0_3, .int .i64 a0_4, .bool a0_5, (.slice A0_6 l0_6.length c0_6), (.slice A0_7 l0_7.length c0_7), (.slice A0_8 l0_8.length c0_8), (.slice A0_9 l0_9.length c0_9), (.slice A0_10 l0_10.length c0_10)] 28 (0, 0))) ∧ Aside0 (wc.heap[gb230]? = some (.cells #[.int .i64 a1_0, .string a1_1, .string a1_2, .string a1_3, .int .i64 a1_4, .bool a1_5, (.slice A1_6 l1_6.length c1_6), (.slice A1_7 l1_7.length c1_7), (.slice A1_8 l1_8.length c1_8), (.slice A1_9 l1_9.length c1_9), (.slice A1_10 l1_10.length c1_10)] 28 (0, 0))) ∧ Aside0 (Below w.heap.size w wc))
  case first =>
    have H := HC3.out
    clear HC3
    by_cases c6 : a0_0 = a1_0
    · rw [if_pos c6] at H
      have c6b0 : (a0_0 == a1_0) = true := beq_iff_eq.mpr c6
      have c6b1 : (a0_0 != a1_0) = false := bne_eq_false_iff_eq.mpr c6
      clear c6
      (first | rw [c6b0] | (simp only [i64_w, i32_w]; rw [c6b0]) | skip)
      by_cases c7 : a0_1.toList = a1_1.toList
      · rw [if_pos c7] at H
        have c7b0 : (a0_1.toList == a1_1.toList) = true := beq_iff_eq.mpr c7
        have c7b1 : (a0_1.toList != a1_1.toList) = false := bne_eq_false_iff_eq.mpr c7
        clear c7
        by_cases c8 : a0_2.toList = a1_2.toList
        · rw [if_pos c8] at H
          have c8b0 : (a0_2.toList == a1_2.toList) = true := beq_iff_eq.mpr c8
          have c8b1 : (a0_2.toList != a1_2.toList) = false := bne_eq_false_iff_eq.mpr c8
          clear c8
          by_cases c9 : a0_3.toList = a1_3.toList
          · rw [if_pos c9] at H
            have c9b0 : (a0_3.toList == a1_3.toList) = true := beq_iff_eq.mpr c9
            have c9b1 : (a0_3.toList != a1_3.toList) = false := bne_eq_false_iff_eq.mpr c9
            clear c9
            by_cases c10 : a0_4 = a1_4
            · rw [if_pos c10] at H
              have c10b0 : (a0_4 == a1_4) = true := beq_iff_eq.mpr c10
              have c10b1 : (a0_4 != a1_4) = false := bne_eq_false_iff_eq.mpr c10
              clear c10
              by_cases c11 : (a0_5 != a1_5) = true
              · rw [if_pos c11] at H
                have c11b0 : (a0_5 != a1_5) = true := c11
                (try (have c11b1 : decide (a0_5 = a1_5) = false := by simpa using c11))
                (try (have c11b2 : (a0_5 == a1_5) = false := by simpa using c11))
                (try (have c11b3 : ¬ (a0_5 = a1_5) := by simpa using c11))
                clear c11
                have H' := Aside0.mk H
                clear H
                have hnb12 := NB229_230.out
                have hnc12 := NB230_229.out
                have hcz13_0 : w5.cell? ⟨gb229, 0, none⟩ = some (.int .i64 a0_0) := (blk_cell BK229.out 0).trans rfl
                have hcz13_1 : w5.cell? ⟨gb229, 1, none⟩ = some (.string a0_1) := (blk_cell BK229.out 1).trans rfl
                have hcz13_2 : w5.cell? ⟨gb229, 2, none⟩ = some (.string a0_2) := (blk_cell BK229.out 2).trans rfl
                have hcz13_3 : w5.cell? ⟨gb229, 3, none⟩ = some (.string a0_3) := (blk_cell BK229.out 3).trans rfl
                have hcz13_4 : w5.cell? ⟨gb229, 4, none⟩ = some (.int .i64 a0_4) := (blk_cell BK229.out 4).trans rfl
                have hcz13_5 : w5.cell? ⟨gb229, 5, none⟩ = some (.bool a0_5) := (blk_cell BK229.out 5).trans rfl
                have hcz13_6 : w5.cell? ⟨gb229, 6, none⟩ = some (.slice A0_6 l0_6.length c0_6) := (blk_cell BK229.out 6).trans rfl
                have hcz13_7 : w5.cell? ⟨gb229, 7, none⟩ = some (.slice A0_7 l0_7.length c0_7) := (blk_cell BK229.out 7).trans rfl
                have hcz13_8 : w5.cell? ⟨gb229, 8, none⟩ = some (.slice A0_8 l0_8.length c0_8) := (blk_cell BK229.out 8).trans rfl
                have hcz13_9 : w5.cell? ⟨gb229, 9, none⟩ = some (.slice A0_9 l0_9.length c0_9) := (blk_cell BK229.out 9).trans rfl
                have hcz13_10 : w5.cell? ⟨gb229, 10, none⟩ = some (.slice A0_10 l0_10.length c0_10) := (blk_cell BK229.out 10).trans rfl
                have hfz13_0 := blk_frozen BK229.out 0
                have hfz13_1 := blk_frozen BK229.out 1
                have hfz13_2 := blk_frozen BK229.out 2
                have hfz13_3 := blk_frozen BK229.out 3
                have hfz13_4 := blk_frozen BK229.out 4
                have hfz13_5 := blk_frozen BK229.out 5
                have hfz13_6 := blk_frozen BK229.out 6
                have hfz13_7 := blk_frozen BK229.out 7
                have hfz13_8 := blk_frozen BK229.out 8
                have hfz13_9 := blk_frozen BK229.out 9
                have hfz13_10 := blk_frozen BK229.out 10
                have hcz14_0 : w5.cell? ⟨gb230, 0, none⟩ = some (.int .i64 a1_0) := (blk_cell BK230.out 0).trans rfl
                have hcz14_1 : w5.cell? ⟨gb230, 1, none⟩ = some (.string a1_1) := (blk_cell BK230.out 1).trans rfl
                have hcz14_2 : w5.cell? ⟨gb230, 2, none⟩ = some (.string a1_2) := (blk_cell BK230.out 2).trans rfl
                have hcz14_3 : w5.cell? ⟨gb230, 3, none⟩ = some (.string a1_3) := (blk_cell BK230.out 3).trans rfl
                have hcz14_4 : w5.cell? ⟨gb230, 4, none⟩ = some (.int .i64 a1_4) := (blk_cell BK230.out 4).trans rfl
                have hcz14_5 : w5.cell? ⟨gb230, 5, none⟩ = some (.bool a1_5) := (blk_cell BK230.out 5).trans rfl
                have hcz14_6 : w5.cell? ⟨gb230, 6, none⟩ = some (.slice A1_6 l1_6.length c1_6) := (blk_cell BK230.out 6).trans rfl
                have hcz14_7 : w5.cell? ⟨gb230, 7, none⟩ = some (.slice A1_7 l1_7.length c1_7) := (blk_cell BK230.out 7).trans rfl
                have hcz14_8 : w5.cell? ⟨gb230, 8, none⟩ = some (.slice A1_8 l1_8.length c1_8) := (blk_cell BK230.out 8).trans rfl
                have hcz14_9 : w5.cell? ⟨gb230, 9, none⟩ = some (.slice A1_9 l1_9.length c1_9) := (blk_cell BK230.out 9).trans rfl
                have hcz14_10 : w5.cell? ⟨gb230, 10, none⟩ = some (.slice A1_10 l1_10.length c1_10) := (blk_cell BK230.out 10).trans rfl
                have hfz14_0 := blk_frozen BK230.out 0
                have hfz14_1 := blk_frozen BK230.out 1
                have hfz14_2 := blk_frozen BK230.out 2
                have hfz14_3 := blk_frozen BK230.out 3
                have hfz14_4 := blk_frozen BK230.out 4
                have hfz14_5 := blk_frozen BK230.out 5
                have hfz14_6 := blk_frozen BK230.out 6
                have hfz14_7 := blk_frozen BK230.out 7
                have hfz14_8 := blk_frozen BK230.out 8
                have hfz14_9 := blk_frozen BK230.out 9
                have hfz14_10 := blk_frozen BK230.out 10
                go_wp2
                repeat (go_quiet (fail); try go_wp2)
                go_meet
                case rel => exact ⟨_, (true), (by first | rfl | (simp; done) | (simp [*]; done)), H', ⟨by first | omega | exact Nat.le_refl _⟩, ⟨by (with_reducible repeat (first | refine blk_drewN ?_ _ | refine blk_drew ?_ | refine blk_alloc ?_ _)); exact BK229.out⟩, ⟨by (with_reducible repeat (first | refine blk_drewN ?_ _ | refine blk_drew ?_ | refine blk_alloc ?_ _)); exact BK230.out⟩, ⟨by repeat (first | (with_reducible first | exact HB.out | apply below_alloc | apply pw_below_drewN | apply below_drew1 | refine below_set ?_ GE229.out | refine below_set ?_ GE230.out) | exact HB.out)⟩⟩
              · rw [if_neg c11] at H
                have c11b0 : (a0_5 != a1_5) = false := by simpa using c11
                (try (have c11b1 : decide (a0_5 = a1_5) = true := by simpa using c11))
                (try (have c11b2 : (a0_5 == a1_5) = true := by simpa using c11))
                clear c11
                replace H := Option.bind_eq_some_iff.mp H
                obtain ⟨t231, A150, H⟩ := H
                replace H : (if t231 = true then ((interlockref00_SameConds.f k l0_8 l1_8).bind fun t232 => (if t232 = true then ((interlockref00_SameTexts.f k l0_10 l1_10).bind fun t233 => (if t233 = true then (if (l0_7.length : Int) = (l1_7.length : Int) then (interlockref00_SameStmt.j0 k ((l0_9.length : Int) != (l1_9.length : Int)) a0_0 a0_1 a0_2 a0_3 a0_4 a0_5 l0_6 l0_7 l0_8 l0_9 l0_10 a1_0 a1_1 a1_2 a1_3 a1_4 a1_5 l1_6 l1_7 l1_8 l1_9 l1_10) else (interlockref00_SameStmt.j0 k true a0_0 a0_1 a0_2 a0_3 a0_4 a0_5 l0_6 l0_7 l0_8 l0_9 l0_10 a1_0 a1_1 a1_2 a1_3 a1_4 a1_5 l1_6 l1_7 l1_8 l1_9 l1_10)) else (interlockref00_SameStmt.j0 k true a0_0 a0_1 a0_2 a0_3 a0_4 a0_5 l0_6 l0_7 l0_8 l0_9 l0_10 a1_0 a1_1 a1_2 a1_3 a1_4 a1_5 l1_6 l1_7 l1_8 l1_9 l1_10))) else (interlockref00_SameStmt.j0 k true a0_0 a0_1 a0_2 a0_3 a0_4 a0_5 l0_6 l0_7 l0_8 l0_9 l0_10 a1_0 a1_1 a1_2 a1_3 a1_4 a1_5 l1_6 l1_7 l1_8 l1_9 l1_10))) else (interlockref00_SameStmt.j0 k true a0_0 a0_1 a0_2 a0_3 a0_4 a0_5 l0_6 l0_7 l0_8 l0_9 l0_10 a1_0 a1_1 a1_2 a1_3 a1_4 a1_5 l1_6 l1_7 l1_8 l1_9 l1_10)) = some r := H
                have A15 := Aside0.mk A150
                clear A150
                by_cases c16 : t231 = true
                · subst c16
                  have H1 : ((interlockref00_SameConds.f k l0_8 l1_8).bind fun t232 => (if t232 = true then ((interlockref00_SameTexts.f k l0_10 l1_10).bind fun t233 => (if t233 = true then (if (l0_7.length : Int) = (l1_7.length : Int) then (interlockref00_SameStmt.j0 k ((l0_9.length : Int) != (l1_9.length : Int)) a0_0 a0_1 a0_2 a0_3 a0_4 a0_5 l0_6 l0_7 l0_8 l0_9 l0_10 a1_0 a1_1 a1_2 a1_3 a1_4 a1_5 l1_6 l1_7 l1_8 l1_9 l1_10) else (interlockref00_SameStmt.j0 k true a0_0 a0_1 a0_2 a0_3 a0_4 a0_5 l0_6 l0_7 l0_8 l0_9 l0_10 a1_0 a1_1 a1_2 a1_3 a1_4 a1_5 l1_6 l1_7 l1_8 l1_9 l1_10)) else (interlockref00_SameStmt.j0 k true a0_0 a0_1 a0_2 a0_3 a0_4 a0_5 l0_6 l0_7 l0_8 l0_9 l0_10 a1_0 a1_1 a1_2 a1_3 a1_4 a1_5 l1_6 l1_7 l1_8 l1_9 l1_10))) else (interlockref00_SameStmt.j0 k true a0_0 a0_1 a0_2 a0_3 a0_4 a0_5 l0_6 l0_7 l0_8 l0_9 l0_10 a1_0 a1_1 a1_2 a1_3 a1_4 a1_5 l1_6 l1_7 l1_8 l1_9 l1_10))) = some r := by rw [if_pos rfl] at H; exact H
                  clear H
                  have H := H1
                  clear H1
                  replace H := Option.bind_eq_some_iff.mp H
                  obtain ⟨t232, A170, H⟩ := H
                  replace H : (if t232 = true then ((interlockref00_SameTexts.f k l0_10 l1_10).bind fun t233 => (if t233 = true then (if (l0_7.length : Int) = (l1_7.length : Int) then (interlockref00_SameStmt.j0 k ((l0_9.length : Int) != (l1_9.length : Int)) a0_0 a0_1 a0_2 a0_3 a0_4 a0_5 l0_6 l0_7 l0_8 l0_9 l0_10 a1_0 a1_1 a1_2 a1_3 a1_4 a1_5 l1_6 l1_7 l1_8 l1_9 l1_10) else (interlockref00_SameStmt.j0 k true a0_0 a0_1 a0_2 a0_3 a0_4 a0_5 l0_6 l0_7 l0_8 l0_9 l0_10 a1_0 a1_1 a1_2 a1_3 a1_4 a1_5 l1_6 l1_7 l1_8 l1_9 l1_10)) else (interlockref00_SameStmt.j0 k true a0_0 a0_1 a0_2 a0_3 a0_4 a0_5 l0_6 l0_7 l0_8 l0_9 l0_10 a1_0 a1_1 a1_2 a1_3 a1_4 a1_5 l1_6 l1_7 l1_8 l1_9 l1_10))) else (interlockref00_SameStmt.j0 k true a0_0 a0_1 a0_2 a0_3 a0_4 a0_5 l0_6 l0_7 l0_8 l0_9 l0_10 a1_0 a1_1 a1_2 a1_3 a1_4 a1_5 l1_6 l1_7 l1_8 l1_9 l1_10)) = some r := H
                  have A17 := Aside0.mk A170
                  clear A170
                  by_cases c18 : t232 = true
                  · subst c18
                    have H1 : ((interlockref00_SameTexts.f k l0_10 l1_10).bind fun t233 => (if t233 = true then (if (l0_7.length : Int) = (l1_7.length : Int) then (interlockref00_SameStmt.j0 k ((l0_9.length : Int) != (l1_9.length : Int)) a0_0 a0_1 a0_2 a0_3 a0_4 a0_5 l0_6 l0_7 l0_8 l0_9 l0_10 a1_0 a1_1 a1_2 a1_3 a1_4 a1_5 l1_6 l1_7 l1_8 l1_9 l1_10) else (interlockref00_SameStmt.j0 k true a0_0 a0_1 a0_2 a0_3 a0_4 a0_5 l0_6 l0_7 l0_8 l0_9 l0_10 a1_0 a1_1 a1_2 a1_3 a1_4 a1_5 l1_6 l1_7 l1_8 l1_9 l1_10)) else (interlockref00_SameStmt.j0 k true a0_0 a0_1 a0_2 a0_3 a0_4 a0_5 l0_6 l0_7 l0_8 l0_9 l0_10 a1_0 a1_1 a1_2 a1_3 a1_4 a1_5 l1_6 l1_7 l1_8 l1_9 l1_10))) = some r := by rw [if_pos rfl] at H; exact H
                    clear H
                    have H := H1
                    clear H1
                    replace H := Option.bind_eq_some_iff.mp H
                    obtain ⟨t233, A190, H⟩ := H
                    replace H : (if t233 = true then (if (l0_7.length : Int) = (l1_7.length : Int) then (interlockref00_SameStmt.j0 k ((l0_9.length : Int) != (l1_9.length : Int)) a0_0 a0_1 a0_2 a0_3 a0_4 a0_5 l0_6 l0_7 l0_8 l0_9 l0_10 a1_0 a1_1 a1_2 a1_3 a1_4 a1_5 l1_6 l1_7 l1_8 l1_9 l1_10) else (interlockref00_SameStmt.j0 k true a0_0 a0_1 a0_2 a0_3 a0_4 a0_5 l0_6 l0_7 l0_8 l0_9 l0_10 a1_0 a1_1 a1_2 a1_3 a1_4 a1_5 l1_6 l1_7 l1_8 l1_9 l1_10)) else (interlockref00_SameStmt.j0 k true a0_0 a0_1 a0_2 a0_3 a0_4 a0_5 l0_6 l0_7 l0_8 l0_9 l0_10 a1_0 a1_1 a1_2 a1_3 a1_4 a1_5 l1_6 l1_7 l1_8 l1_9 l1_10)) = some r := H
                    have A19 := Aside0.mk A190
                    clear A190
                    by_cases c20 : t233 = true
                    · subst c20
                      have H1 : (if (l0_7.length : Int) = (l1_7.length : Int) then (interlockref00_SameStmt.j0 k ((l0_9.length : Int) != (l1_9.length : Int)) a0_0 a0_1 a0_2 a0_3 a0_4 a0_5 l0_6 l0_7 l0_8 l0_9 l0_10 a1_0 a1_1 a1_2 a1_3 a1_4 a1_5 l1_6 l1_7 l1_8 l1_9 l1_10) else (interlockref00_SameStmt.j0 k true a0_0 a0_1 a0_2 a0_3 a0_4 a0_5 l0_6 l0_7 l0_8 l0_9 l0_10 a1_0 a1_1 a1_2 a1_3 a1_4 a1_5 l1_6 l1_7 l1_8 l1_9 l1_10)) = some r := by rw [if_pos rfl] at H; exact H
                      clear H
                      have H := H1
                      clear H1
                      by_cases c21 : (l0_7.length : Int) = (l1_7.length : Int)
                      · rw [if_pos c21] at H
                        have c21b0 : ((l0_7.length : Int) == (l1_7.length : Int)) = true := beq_iff_eq.mpr c21
                        have c21b1 : ((l0_7.length : Int) != (l1_7.length : Int)) = false := bne_eq_false_iff_eq.mpr c21
                        have c21b2 : (l0_7.length == l1_7.length) = true := by first | simpa using c21 | (simp at c21 ⊢; omega)
                        clear c21
                        have H' := Aside0.mk H
                        clear H
                        have hnb22 := NB229_230.out
                        have hnc22 := NB230_229.out
                        have hcz23_0 : w5.cell? ⟨gb229, 0, none⟩ = some (.int .i64 a0_0) := (blk_cell BK229.out 0).trans rfl
                        have hcz23_1 : w5.cell? ⟨gb229, 1, none⟩ = some (.string a0_1) := (blk_cell BK229.out 1).trans rfl
                        have hcz23_2 : w5.cell? ⟨gb229, 2, none⟩ = some (.string a0_2) := (blk_cell BK229.out 2).trans rfl
                        have hcz23_3 : w5.cell? ⟨gb229, 3, none⟩ = some (.string a0_3) := (blk_cell BK229.out 3).trans rfl
                        have hcz23_4 : w5.cell? ⟨gb229, 4, none⟩ = some (.int .i64 a0_4) := (blk_cell BK229.out 4).trans rfl
                        have hcz23_5 : w5.cell? ⟨gb229, 5, none⟩ = some (.bool a0_5) := (blk_cell BK229.out 5).trans rfl
                        have hcz23_6 : w5.cell? ⟨gb229, 6, none⟩ = some (.slice A0_6 l0_6.length c0_6) := (blk_cell BK229.out 6).trans rfl
                        have hcz23_7 : w5.cell? ⟨gb229, 7, none⟩ = some (.slice A0_7 l0_7.length c0_7) := (blk_cell BK229.out 7).trans rfl
                        have hcz23_8 : w5.cell? ⟨gb229, 8, none⟩ = some (.slice A0_8 l0_8.length c0_8) := (blk_cell BK229.out 8).trans rfl
                        have hcz23_9 : w5.cell? ⟨gb229, 9, none⟩ = some (.slice A0_9 l0_9.length c0_9) := (blk_cell BK229.out 9).trans rfl
                        have hcz23_10 : w5.cell? ⟨gb229, 10, none⟩ = some (.slice A0_10 l0_10.length c0_10) := (blk_cell BK229.out 10).trans rfl
                        have hfz23_0 := blk_frozen BK229.out 0
                        have hfz23_1 := blk_frozen BK229.out 1
                        have hfz23_2 := blk_frozen BK229.out 2
                        have hfz23_3 := blk_frozen BK229.out 3
                        have hfz23_4 := blk_frozen BK229.out 4
                        have hfz23_5 := blk_frozen BK229.out 5
                        have hfz23_6 := blk_frozen BK229.out 6
                        have hfz23_7 := blk_frozen BK229.out 7
                        have hfz23_8 := blk_frozen BK229.out 8
                        have hfz23_9 := blk_frozen BK229.out 9
                        have hfz23_10 := blk_frozen BK229.out 10
                        have hcz24_0 : w5.cell? ⟨gb230, 0, none⟩ = some (.int .i64 a1_0) := (blk_cell BK230.out 0).trans rfl
                        have hcz24_1 : w5.cell? ⟨gb230, 1, none⟩ = some (.string a1_1) := (blk_cell BK230.out 1).trans rfl
                        have hcz24_2 : w5.cell? ⟨gb230, 2, none⟩ = some (.string a1_2) := (blk_cell BK230.out 2).trans rfl
                        have hcz24_3 : w5.cell? ⟨gb230, 3, none⟩ = some (.string a1_3) := (blk_cell BK230.out 3).trans rfl
                        have hcz24_4 : w5.cell? ⟨gb230, 4, none⟩ = some (.int .i64 a1_4) := (blk_cell BK230.out 4).trans rfl
                        have hcz24_5 : w5.cell? ⟨gb230, 5, none⟩ = some (.bool a1_5) := (blk_cell BK230.out 5).trans rfl
                        have hcz24_6 : w5.cell? ⟨gb230, 6, none⟩ = some (.slice A1_6 l1_6.length c1_6) := (blk_cell BK230.out 6).trans rfl
                        have hcz24_7 : w5.cell? ⟨gb230, 7, none⟩ = some (.slice A1_7 l1_7.length c1_7) := (blk_cell BK230.out 7).trans rfl
                        have hcz24_8 : w5.cell? ⟨gb230, 8, none⟩ = some (.slice A1_8 l1_8.length c1_8) := (blk_cell BK230.out 8).trans rfl
                        have hcz24_9 : w5.cell? ⟨gb230, 9, none⟩ = some (.slice A1_9 l1_9.length c1_9) := (blk_cell BK230.out 9).trans rfl
                        have hcz24_10 : w5.cell? ⟨gb230, 10, none⟩ = some (.slice A1_10 l1_10.length c1_10) := (blk_cell BK230.out 10).trans rfl
                        have hfz24_0 := blk_frozen BK230.out 0
                        have hfz24_1 := blk_frozen BK230.out 1
                        have hfz24_2 := blk_frozen BK230.out 2
                        have hfz24_3 := blk_frozen BK230.out 3
                        have hfz24_4 := blk_frozen BK230.out 4
                        have hfz24_5 := blk_frozen BK230.out 5
                        have hfz24_6 := blk_frozen BK230.out 6
                        have hfz24_7 := blk_frozen BK230.out 7
                        have hfz24_8 := blk_frozen BK230.out 8
                        have hfz24_9 := blk_frozen BK230.out 9
                        have hfz24_10 := blk_frozen BK230.out 10
                        go_wp2_with (first | (go_at_call 18; (with_reducible refine (interlockref00_SameRow.calls k _ _ l0_6 _ _ l1_6 true _ ?side1 ?side2 ?side3 ?side4 A15.out).mono ?_); (case side1 => repeat (first | exact (Kd.C_below HR0_6.out HB.out) | (with_reducible refine Kd.C_alloc ?_ _) | (with_reducible refine Kd.C_drewN ?_ _) | (with_reducible refine Kd.C_drew ?_))); (case side2 => exact HC0_6.out); (case side3 => repeat (first | exact (Kd.C_below HR1_6.out HB.out) | (with_reducible refine Kd.C_alloc ?_ _) | (with_reducible refine Kd.C_drewN ?_ _) | (with_reducible refine Kd.C_drew ?_))); (case side4 => exact HC1_6.out); rintro e w' ⟨rfl, ⟨nd, rfl⟩⟩; (try first | exact ⟨rfl, _, World.drewN_drewN _ _ _⟩ | exact ⟨rfl, _, Eq.trans (World.drewN_drewN _ _ _) (congrArg (World.drewN _) (Nat.add_assoc _ _ _))⟩)) | (go_at_call 46; (with_reducible refine (interlockref00_SameConds.calls k _ _ l0_8 _ _ l1_8 true _ ?side1 ?side2 ?side3 ?side4 A17.out).mono ?_); (case side1 => repeat (first | exact (Kd.C_below HR0_8.out (by repeat (first | (with_reducible first | exact HB.out | apply below_alloc | apply pw_below_drewN | apply below_drew1 | refine below_set ?_ GE229.out | refine below_set ?_ GE230.out) | exact HB.out))) | (with_reducible refine Kd.C_alloc ?_ _) | (with_reducible refine Kd.C_drewN ?_ _) | (with_reducible refine Kd.C_drew ?_))); (case side2 => exact HC0_8.out); (case side3 => repeat (first | exact (Kd.C_below HR1_8.out (by repeat (first | (with_reducible first | exact HB.out | apply below_alloc | apply pw_below_drewN | apply below_drew1 | refine below_set ?_ GE229.out | refine below_set ?_ GE230.out) | exact HB.out))) | (with_reducible refine Kd.C_alloc ?_ _) | (with_reducible refine Kd.C_drewN ?_ _) | (with_reducible refine Kd.C_drew ?_))); (case side4 => exact HC1_8.out); rintro e w' ⟨rfl, ⟨nd, rfl⟩⟩; (try first | exact ⟨rfl, _, World.drewN_drewN _ _ _⟩ | exact ⟨rfl, _, Eq.trans (World.drewN_drewN _ _ _) (congrArg (World.drewN _) (Nat.add_assoc _ _ _))⟩)) | (go_at_call 20; (with_reducible refine (interlockref00_SameTexts.calls k _ _ l0_10 _ _ l1_10 true _ ?side1 ?side2 ?side3 ?side4 A19.out).mono ?_); (case side1 => repeat (first | exact (Kd.C_below HR0_10.out (by repeat (first | (with_reducible first | exact HB.out | apply below_alloc | apply pw_below_drewN | apply below_drew1 | refine below_set ?_ GE229.out | refine below_set ?_ GE230.out) | exact HB.out))) | (with_reducible refine Kd.C_alloc ?_ _) | (with_reducible refine Kd.C_drewN ?_ _) | (with_reducible refine Kd.C_drew ?_))); (case side2 => exact HC0_10.out); (case side3 => repeat (first | exact (Kd.C_below HR1_10.out (by repeat (first | (with_reducible first | exact HB.out | apply below_alloc | apply pw_below_drewN | apply below_drew1 | refine below_set ?_ GE229.out | refine below_set ?_ GE230.out) | exact HB.out))) | (with_reducible refine Kd.C_alloc ?_ _) | (with_reducible refine Kd.C_drewN ?_ _) | (with_reducible refine Kd.C_drew ?_))); (case side4 => exact HC1_10.out); rintro e w' ⟨rfl, ⟨nd, rfl⟩⟩; (try first | exact ⟨rfl, _, World.drewN_drewN _ _ _⟩ | exact ⟨rfl, _, Eq.trans (World.drewN_drewN _ _ _) (congrArg (World.drewN _) (Nat.add_assoc _ _ _))⟩)))
                        repeat (go_quiet (first | (go_at_call 18; (with_reducible refine (interlockref00_SameRow.calls k _ _ l0_6 _ _ l1_6 true _ ?side1 ?side2 ?side3 ?side4 A15.out).mono ?_); (case side1 => repeat (first | exact (Kd.C_below HR0_6.out HB.out) | (with_reducible refine Kd.C_alloc ?_ _) | (with_reducible refine Kd.C_drewN ?_ _) | (with_reducible refine Kd.C_drew ?_))); (case side2 => exact HC0_6.out); (case side3 => repeat (first | exact (Kd.C_below HR1_6.out HB.out) | (with_reducible refine Kd.C_alloc ?_ _) | (with_reducible refine Kd.C_drewN ?_ _) | (with_reducible refine Kd.C_drew ?_))); (case side4 => exact HC1_6.out); rintro e w' ⟨rfl, ⟨nd, rfl⟩⟩; (try first | exact ⟨rfl, _, World.drewN_drewN _ _ _⟩ | exact ⟨rfl, _, Eq.trans (World.drewN_drewN _ _ _) (congrArg (World.drewN _) (Nat.add_assoc _ _ _))⟩)) | (go_at_call 46; (with_reducible refine (interlockref00_SameConds.calls k _ _ l0_8 _ _ l1_8 true _ ?side1 ?side2 ?side3 ?side4 A17.out).mono ?_); (case side1 => repeat (first | exact (Kd.C_below HR0_8.out (by repeat (first | (with_reducible first | exact HB.out | apply below_alloc | apply pw_below_drewN | apply below_drew1 | refine below_set ?_ GE229.out | refine below_set ?_ GE230.out) | exact HB.out))) | (with_reducible refine Kd.C_alloc ?_ _) | (with_reducible refine Kd.C_drewN ?_ _) | (with_reducible refine Kd.C_drew ?_))); (case side2 => exact HC0_8.out); (case side3 => repeat (first | exact (Kd.C_below HR1_8.out (by repeat (first | (with_reducible first | exact HB.out | apply below_alloc | apply pw_below_drewN | apply below_drew1 | refine below_set ?_ GE229.out | refine below_set ?_ GE230.out) | exact HB.out))) | (with_reducible refine Kd.C_alloc ?_ _) | (with_reducible refine Kd.C_drewN ?_ _) | (with_reducible refine Kd.C_drew ?_))); (case side4 => exact HC1_8.out); rintro e w' ⟨rfl, ⟨nd, rfl⟩⟩; (try first | exact ⟨rfl, _, World.drewN_drewN _ _ _⟩ | exact ⟨rfl, _, Eq.trans (World.drewN_drewN _ _ _) (congrArg (World.drewN _) (Nat.add_assoc _ _ _))⟩)) | (go_at_call 20; (with_reducible refine (interlockref00_SameTexts.calls k _ _ l0_10 _ _ l1_10 true _ ?side1 ?side2 ?side3 ?side4 A19.out).mono ?_); (case side1 => repeat (first | exact (Kd.C_below HR0_10.out (by repeat (first | (with_reducible first | exact HB.out | apply below_alloc | apply pw_below_drewN | apply below_drew1 | refine below_set ?_ GE229.out | refine below_set ?_ GE230.out) | exact HB.out))) | (with_reducible refine Kd.C_alloc ?_ _) | (with_reducible refine Kd.C_drewN ?_ _) | (with_reducible refine Kd.C_drew ?_))); (case side2 => exact HC0_10.out); (case side3 => repeat (first | exact (Kd.C_below HR1_10.out (by repeat (first | (with_reducible first | exact HB.out | apply below_alloc | apply pw_below_drewN | apply below_drew1 | refine below_set ?_ GE229.out | refine below_set ?_ GE230.out) | exact HB.out))) | (with_reducible refine Kd.C_alloc ?_ _) | (with_reducible refine Kd.C_drewN ?_ _) | (with_reducible refine Kd.C_drew ?_))); (case side4 => exact HC1_10.out); rintro e w' ⟨rfl, ⟨nd, rfl⟩⟩; (try first | exact ⟨rfl, _, World.drewN_drewN _ _ _⟩ | exact ⟨rfl, _, Eq.trans (World.drewN_drewN _ _ _) (congrArg (World.drewN _) (Nat.add_assoc _ _ _))⟩))); try go_wp2_with (first | (go_at_call 18; (with_reducible refine (interlockref00_SameRow.calls k _ _ l0_6 _ _ l1_6 true _ ?side1 ?side2 ?side3 ?side4 A15.out).mono ?_); (case side1 => repeat (first | exact (Kd.C_below HR0_6.out HB.out) | (with_reducible refine Kd.C_alloc ?_ _) | (with_reducible refine Kd.C_drewN ?_ _) | (with_reducible refine Kd.C_drew ?_))); (case side2 => exact HC0_6.out); (case side3 => repeat (first | exact (Kd.C_below HR1_6.out HB.out) | (with_reducible refine Kd.C_alloc ?_ _) | (with_reducible refine Kd.C_drewN ?_ _) | (with_reducible refine Kd.C_drew ?_))); (case side4 => exact HC1_6.out); rintro e w' ⟨rfl, ⟨nd, rfl⟩⟩; (try first | exact ⟨rfl, _, World.drewN_drewN _ _ _⟩ | exact ⟨rfl, _, Eq.trans (World.drewN_drewN _ _ _) (congrArg (World.drewN _) (Nat.add_assoc _ _ _))⟩)) | (go_at_call 46; (with_reducible refine (interlockref00_SameConds.calls k _ _ l0_8 _ _ l1_8 true _ ?side1 ?side2 ?side3 ?side4 A17.out).mono ?_); (case side1 => repeat (first | exact (Kd.C_below HR0_8.out (by repeat (first | (with_reducible first | exact HB.out | apply below_alloc | apply pw_below_drewN | apply below_drew1 | refine below_set ?_ GE229.out | refine below_set ?_ GE230.out) | exact HB.out))) | (with_reducible refine Kd.C_alloc ?_ _) | (with_reducible refine Kd.C_drewN ?_ _) | (with_reducible refine Kd.C_drew ?_))); (case side2 => exact HC0_8.out); (case side3 => repeat (first | exact (Kd.C_below HR1_8.out (by repeat (first | (with_reducible first | exact HB.out | apply below_alloc | apply pw_below_drewN | apply below_drew1 | refine below_set ?_ GE229.out | refine below_set ?_ GE230.out) | exact HB.out))) | (with_reducible refine Kd.C_alloc ?_ _) | (with_reducible refine Kd.C_drewN ?_ _) | (with_reducible refine Kd.C_drew ?_))); (case side4 => exact HC1_8.out); rintro e w' ⟨rfl, ⟨nd, rfl⟩⟩; (try first | exact ⟨rfl, _, World.drewN_drewN _ _ _⟩ | exact ⟨rfl, _, Eq.trans (World.drewN_drewN _ _ _) (congrArg (World.drewN _) (Nat.add_assoc _ _ _))⟩)) | (go_at_call 20; (with_reducible refine (interlockref00_SameTexts.calls k _ _ l0_10 _ _ l1_10 true _ ?side1 ?side2 ?side3 ?side4 A19.out).mono ?_); (case side1 => repeat (first | exact (Kd.C_below HR0_10.out (by repeat (first | (with_reducible first | exact HB.out | apply below_alloc | apply pw_below_drewN | apply below_drew1 | refine below_set ?_ GE229.out | refine below_set ?_ GE230.out) | exact HB.out))) | (with_reducible refine Kd.C_alloc ?_ _) | (with_reducible refine Kd.C_drewN ?_ _) | (with_reducible refine Kd.C_drew ?_))); (case side2 => exact HC0_10.out); (case side3 => repeat (first | exact (Kd.C_below HR1_10.out (by repeat (first | (with_reducible first | exact HB.out | apply below_alloc | apply pw_below_drewN | apply below_drew1 | refine below_set ?_ GE229.out | refine below_set ?_ GE230.out) | exact HB.out))) | (with_reducible refine Kd.C_alloc ?_ _) | (with_reducible refine Kd.C_drewN ?_ _) | (with_reducible refine Kd.C_drew ?_))); (case side4 => exact HC1_10.out); rintro e w' ⟨rfl, ⟨nd, rfl⟩⟩; (try first | exact ⟨rfl, _, World.drewN_drewN _ _ _⟩ | exact ⟨rfl, _, Eq.trans (World.drewN_drewN _ _ _) (congrArg (World.drewN _) (Nat.add_assoc _ _ _))⟩))))
                        go_meet
                        case rel => exact ⟨_, (((l0_9.length : Int) != (l1_9.length : Int))), (by first | rfl | (simp; done) | (simp [*]; done)), H', ⟨by first | omega | exact Nat.le_refl _⟩, ⟨by (with_reducible repeat (first | refine blk_drewN ?_ _ | refine blk_drew ?_ | refine blk_alloc ?_ _)); exact BK229.out⟩, ⟨by (with_reducible repeat (first | refine blk_drewN ?_ _ | refine blk_drew ?_ | refine blk_alloc ?_ _)); exact BK230.out⟩, ⟨by repeat (first | (with_reducible first | exact HB.out | apply below_alloc | apply pw_below_drewN | apply below_drew1 | refine below_set ?_ GE229.out | refine below_set ?_ GE230.out) | exact HB.out)⟩⟩
                      · rw [if_neg c21] at H
                        have c21b0 : ((l0_7.length : Int) == (l1_7.length : Int)) = false := beq_eq_false_iff_ne.mpr c21
                        have c21b1 : ((l0_7.length : Int) != (l1_7.length : Int)) = true := bne_iff_ne.mpr c21
                        have c21b2 : (l0_7.length == l1_7.length) = false := by first | simpa using c21 | (simp at c21 ⊢; omega)
                        have H' := Aside0.mk H
                        clear H
                        have hnb25 := NB229_230.out
                        have hnc25 := NB230_229.out
                        have hcz26_0 : w5.cell? ⟨gb229, 0, none⟩ = some (.int .i64 a0_0) := (blk_cell BK229.out 0).trans rfl
                        have hcz26_1 : w5.cell? ⟨gb229, 1, none⟩ = some (.string a0_1) := (blk_cell BK229.out 1).trans rfl
                        have hcz26_2 : w5.cell? ⟨gb229, 2, none⟩ = some (.string a0_2) := (blk_cell BK229.out 2).trans rfl
                        have hcz26_3 : w5.cell? ⟨gb229, 3, none⟩ = some (.string a0_3) := (blk_cell BK229.out 3).trans rfl
                        have hcz26_4 : w5.cell? ⟨gb229, 4, none⟩ = some (.int .i64 a0_4) := (blk_cell BK229.out 4).trans rfl
                        have hcz26_5 : w5.cell? ⟨gb229, 5, none⟩ = some (.bool a0_5) := (blk_cell BK229.out 5).trans rfl
                        have hcz26_6 : w5.cell? ⟨gb229, 6, none⟩ = some (.slice A0_6 l0_6.length c0_6) := (blk_cell BK229.out 6).trans rfl
                        have hcz26_7 : w5.cell? ⟨gb229, 7, none⟩ = some (.slice A0_7 l0_7.length c0_7) := (blk_cell BK229.out 7).trans rfl
                        have hcz26_8 : w5.cell? ⟨gb229, 8, none⟩ = some (.slice A0_8 l0_8.length c0_8) := (blk_cell BK229.out 8).trans rfl
                        have hcz26_9 : w5.cell? ⟨gb229, 9, none⟩ = some (.slice A0_9 l0_9.length c0_9) := (blk_cell BK229.out 9).trans rfl
                        have hcz26_10 : w5.cell? ⟨gb229, 10, none⟩ = some (.slice A0_10 l0_10.length c0_10) := (blk_cell BK229.out 10).trans rfl
                        have hfz26_0 := blk_frozen BK229.out 0
                        have hfz26_1 := blk_frozen BK229.out 1
                        have hfz26_2 := blk_frozen BK229.out 2
                        have hfz26_3 := blk_frozen BK229.out 3
                        have hfz26_4 := blk_frozen BK229.out 4
                        have hfz26_5 := blk_frozen BK229.out 5
                        have hfz26_6 := blk_frozen BK229.out 6
                        have hfz26_7 := blk_frozen BK229.out 7
                        have hfz26_8 := blk_frozen BK229.out 8
                        have hfz26_9 := blk_frozen BK229.out 9
                        have hfz26_10 := blk_frozen BK229.out 10
                        have hcz27_0 : w5.cell? ⟨gb230, 0, none⟩ = some (.int .i64 a1_0) := (blk_cell BK230.out 0).trans rfl
                        have hcz27_1 : w5.cell? ⟨gb230, 1, none⟩ = some (.string a1_1) := (blk_cell BK230.out 1).trans rfl
                        have hcz27_2 : w5.cell? ⟨gb230, 2, none⟩ = some (.string a1_2) := (blk_cell BK230.out 2).trans rfl
                        have hcz27_3 : w5.cell? ⟨gb230, 3, none⟩ = some (.string a1_3) := (blk_cell BK230.out 3).trans rfl
                        have hcz27_4 : w5.cell? ⟨gb230, 4, none⟩ = some (.int .i64 a1_4) := (blk_cell BK230.out 4).trans rfl
                        have hcz27_5 : w5.cell? ⟨gb230, 5, none⟩ = some (.bool a1_5) := (blk_cell BK230.out 5).trans rfl
                        have hcz27_6 : w5.cell? ⟨gb230, 6, none⟩ = some (.slice A1_6 l1_6.length c1_6) := (blk_cell BK230.out 6).trans rfl
                        have hcz27_7 : w5.cell? ⟨gb230, 7, none⟩ = some (.slice A1_7 l1_7.length c1_7) := (blk_cell BK230.out 7).trans rfl
                        have hcz27_8 : w5.cell? ⟨gb230, 8, none⟩ = some (.slice A1_8 l1_8.length c1_8) := (blk_cell BK230.out 8).trans rfl
                        have hcz27_9 : w5.cell? ⟨gb230, 9, none⟩ = some (.slice A1_9 l1_9.length c1_9) := (blk_cell BK230.out 9).trans rfl
                        have hcz27_10 : w5.cell? ⟨gb230, 10, none⟩ = some (.slice A1_10 l1_10.length c1_10) := (blk_cell BK230.out 10).trans rfl
                        have hfz27_0 := blk_frozen BK230.out 0
                        have hfz27_1 := blk_frozen BK230.out 1
                        have hfz27_2 := blk_frozen BK230.out 2
                        have hfz27_3 := blk_frozen BK230.out 3
                        have hfz27_4 := blk_frozen BK230.out 4
                        have hfz27_5 := blk_frozen BK230.out 5
                        have hfz27_6 := blk_frozen BK230.out 6
                        have hfz27_7 := blk_frozen BK230.out 7
                        have hfz27_8 := blk_frozen BK230.out 8
                        have hfz27_9 := blk_frozen BK230.out 9
                        have hfz27_10 := blk_frozen BK230.out 10
                        go_wp2_with (first | (go_at_call 18; (with_reducible refine (interlockref00_SameRow.calls k _ _ l0_6 _ _ l1_6 true _ ?side1 ?side2 ?side3 ?side4 A15.out).mono ?_); (case side1 => repeat (first | exact (Kd.C_below HR0_6.out HB.out) | (with_reducible refine Kd.C_alloc ?_ _) | (with_reducible refine Kd.C_drewN ?_ _) | (with_reducible refine Kd.C_drew ?_))); (case side2 => exact HC0_6.out); (case side3 => repeat (first | exact (Kd.C_below HR1_6.out HB.out) | (with_reducible refine Kd.C_alloc ?_ _) | (with_reducible refine Kd.C_drewN ?_ _) | (with_reducible refine Kd.C_drew ?_))); (case side4 => exact HC1_6.out); rintro e w' ⟨rfl, ⟨nd, rfl⟩⟩; (try first | exact ⟨rfl, _, World.drewN_drewN _ _ _⟩ | exact ⟨rfl, _, Eq.trans (World.drewN_drewN _ _ _) (congrArg (World.drewN _) (Nat.add_assoc _ _ _))⟩)) | (go_at_call 46; (with_reducible refine (interlockref00_SameConds.calls k _ _ l0_8 _ _ l1_8 true _ ?side1 ?side2 ?side3 ?side4 A17.out).mono ?_); (case side1 => repeat (first | exact (Kd.C_below HR0_8.out (by repeat (first | (with_reducible first | exact HB.out | apply below_alloc | apply pw_below_drewN | apply below_drew1 | refine below_set ?_ GE229.out | refine below_set ?_ GE230.out) | exact HB.out))) | (with_reducible refine Kd.C_alloc ?_ _) | (with_reducible refine Kd.C_drewN ?_ _) | (with_reducible refine Kd.C_drew ?_))); (case side2 => exact HC0_8.out); (case side3 => repeat (first | exact (Kd.C_below HR1_8.out (by repeat (first | (with_reducible first | exact HB.out | apply below_alloc | apply pw_below_drewN | apply below_drew1 | refine below_set ?_ GE229.out | refine below_set ?_ GE230.out) | exact HB.out))) | (with_reducible refine Kd.C_alloc ?_ _) | (with_reducible refine Kd.C_drewN ?_ _) | (with_reducible refine Kd.C_drew ?_))); (case side4 => exact HC1_8.out); rintro e w' ⟨rfl, ⟨nd, rfl⟩⟩; (try first | exact ⟨rfl, _, World.drewN_drewN _ _ _⟩ | exact ⟨rfl, _, Eq.trans (World.drewN_drewN _ _ _) (congrArg (World.drewN _) (Nat.add_assoc _ _ _))⟩)) | (go_at_call 20; (with_reducible refine (interlockref00_SameTexts.calls k _ _ l0_10 _ _ l1_10 true _ ?side1 ?side2 ?side3 ?side4 A19.out).mono ?_); (case side1 => repeat (first | exact (Kd.C_below HR0_10.out (by repeat (first | (with_reducible first | exact HB.out | apply below_alloc | apply pw_below_drewN | apply below_drew1 | refine below_set ?_ GE229.out | refine below_set ?_ GE230.out) | exact HB.out))) | (with_reducible refine Kd.C_alloc ?_ _) | (with_reducible refine Kd.C_drewN ?_ _) | (with_reducible refine Kd.C_drew ?_))); (case side2 => exact HC0_10.out); (case side3 => repeat (first | exact (Kd.C_below HR1_10.out (by repeat (first | (with_reducible first | exact HB.out | apply below_alloc | apply pw_below_drewN | apply below_drew1 | refine below_set ?_ GE229.out | refine below_set ?_ GE230.out) | exact HB.out))) | (with_reducible refine Kd.C_alloc ?_ _) | (with_reducible refine Kd.C_drewN ?_ _) | (with_reducible refine Kd.C_drew ?_))); (case side4 => exact HC1_10.out); rintro e w' ⟨rfl, ⟨nd, rfl⟩⟩; (try first | exact ⟨rfl, _, World.drewN_drewN _ _ _⟩ | exact ⟨rfl, _, Eq.trans (World.drewN_drewN _ _ _) (congrArg (World.drewN _) (Nat.add_assoc _ _ _))⟩)))
                        repeat (go_quiet (first | (go_at_call 18; (with_reducible refine (interlockref00_SameRow.calls k _ _ l0_6 _ _ l1_6 true _ ?side1 ?side2 ?side3 ?side4 A15.out).mono ?_); (case side1 => repeat (first | exact (Kd.C_below HR0_6.out HB.out) | (with_reducible refine Kd.C_alloc ?_ _) | (with_reducible refine Kd.C_drewN ?_ _) | (with_reducible refine Kd.C_drew ?_))); (case side2 => exact HC0_6.out); (case side3 => repeat (first | exact (Kd.C_below HR1_6.out HB.out) | (with_reducible refine Kd.C_alloc ?_ _) | (with_reducible refine Kd.C_drewN ?_ _) | (with_reducible refine Kd.C_drew ?_))); (case side4 => exact HC1_6.out); rintro e w' ⟨rfl, ⟨nd, rfl⟩⟩; (try first | exact ⟨rfl, _, World.drewN_drewN _ _ _⟩ | exact ⟨rfl, _, Eq.trans (World.drewN_drewN _ _ _) (congrArg (World.drewN _) (Nat.add_assoc _ _ _))⟩)) | (go_at_call 46; (with_reducible refine (interlockref00_SameConds.calls k _ _ l0_8 _ _ l1_8 true _ ?side1 ?side2 ?side3 ?side4 A17.out).mono ?_); (case side1 => repeat (first | exact (Kd.C_below HR0_8.out (by repeat (first | (with_reducible first | exact HB.out | apply below_alloc | apply pw_below_drewN | apply below_drew1 | refine below_set ?_ GE229.out | refine below_set ?_ GE230.out) | exact HB.out))) | (with_reducible refine Kd.C_alloc ?_ _) | (with_reducible refine Kd.C_drewN ?_ _) | (with_reducible refine Kd.C_drew ?_))); (case side2 => exact HC0_8.out); (case side3 => repeat (first | exact (Kd.C_below HR1_8.out (by repeat (first | (with_reducible first | exact HB.out | apply below_alloc | apply pw_below_drewN | apply below_drew1 | refine below_set ?_ GE229.out | refine below_set ?_ GE230.out) | exact HB.out))) | (with_reducible refine Kd.C_alloc ?_ _) | (with_reducible refine Kd.C_drewN ?_ _) | (with_reducible refine Kd.C_drew ?_))); (case side4 => exact HC1_8.out); rintro e w' ⟨rfl, ⟨nd, rfl⟩⟩; (try first | exact ⟨rfl, _, World.drewN_drewN _ _ _⟩ | exact ⟨rfl, _, Eq.trans (World.drewN_drewN _ _ _) (congrArg (World.drewN _) (Nat.add_assoc _ _ _))⟩)) | (go_at_call 20; (with_reducible refine (interlockref00_SameTexts.calls k _ _ l0_10 _ _ l1_10 true _ ?side1 ?side2 ?side3 ?side4 A19.out).mono ?_); (case side1 => repeat (first | exact (Kd.C_below HR0_10.out (by repeat (first | (with_reducible first | exact HB.out | apply below_alloc | apply pw_below_drewN | apply below_drew1 | refine below_set ?_ GE229.out | refine below_set ?_ GE230.out) | exact HB.out))) | (with_reducible refine Kd.C_alloc ?_ _) | (with_reducible refine Kd.C_drewN ?_ _) | (with_reducible refine Kd.C_drew ?_))); (case side2 => exact HC0_10.out); (case side3 => repeat (first | exact (Kd.C_below HR1_10.out (by repeat (first | (with_reducible first | exact HB.out | apply below_alloc | apply pw_below_drewN | apply below_drew1 | refine below_set ?_ GE229.out | refine below_set ?_ GE230.out) | exact HB.out))) | (with_reducible refine Kd.C_alloc ?_ _) | (with_reducible refine Kd.C_drewN ?_ _) | (with_reducible refine Kd.C_drew ?_))); (case side4 => exact HC1_10.out); rintro e w' ⟨rfl, ⟨nd, rfl⟩⟩; (try first | exact ⟨rfl, _, World.drewN_drewN _ _ _⟩ | exact ⟨rfl, _, Eq.trans (World.drewN_drewN _ _ _) (congrArg (World.drewN _) (Nat.add_assoc _ _ _))⟩))); try go_wp2_with (first | (go_at_call 18; (with_reducible refine (interlockref00_SameRow.calls k _ _ l0_6 _ _ l1_6 true _ ?side1 ?side2 ?side3 ?side4 A15.out).mono ?_); (case side1 => repeat (first | exact (Kd.C_below HR0_6.out HB.out) | (with_reducible refine Kd.C_alloc ?_ _) | (with_reducible refine Kd.C_drewN ?_ _) | (with_reducible refine Kd.C_drew ?_))); (case side2 => exact HC0_6.out); (case side3 => repeat (first | exact (Kd.C_below HR1_6.out HB.out) | (with_reducible refine Kd.C_alloc ?_ _) | (with_reducible refine Kd.C_drewN ?_ _) | (with_reducible refine Kd.C_drew ?_))); (case side4 => exact HC1_6.out); rintro e w' ⟨rfl, ⟨nd, rfl⟩⟩; (try first | exact ⟨rfl, _, World.drewN_drewN _ _ _⟩ | exact ⟨rfl, _, Eq.trans (World.drewN_drewN _ _ _) (congrArg (World.drewN _) (Nat.add_assoc _ _ _))⟩)) | (go_at_call 46; (with_reducible refine (interlockref00_SameConds.calls k _ _ l0_8 _ _ l1_8 true _ ?side1 ?side2 ?side3 ?side4 A17.out).mono ?_); (case side1 => repeat (first | exact (Kd.C_below HR0_8.out (by repeat (first | (with_reducible first | exact HB.out | apply below_alloc | apply pw_below_drewN | apply below_drew1 | refine below_set ?_ GE229.out | refine below_set ?_ GE230.out) | exact HB.out))) | (with_reducible refine Kd.C_alloc ?_ _) | (with_reducible refine Kd.C_drewN ?_ _) | (with_reducible refine Kd.C_drew ?_))); (case side2 => exact HC0_8.out); (case side3 => repeat (first | exact (Kd.C_below HR1_8.out (by repeat (first | (with_reducible first | exact HB.out | apply below_alloc | apply pw_below_drewN | apply below_drew1 | refine below_set ?_ GE229.out | refine below_set ?_ GE230.out) | exact HB.out))) | (with_reducible refine Kd.C_alloc ?_ _) | (with_reducible refine Kd.C_drewN ?_ _) | (with_reducible refine Kd.C_drew ?_))); (case side4 => exact HC1_8.out); rintro e w' ⟨rfl, ⟨nd, rfl⟩⟩; (try first | exact ⟨rfl, _, World.drewN_drewN _ _ _⟩ | exact ⟨rfl, _, Eq.trans (World.drewN_drewN _ _ _) (congrArg (World.drewN _) (Nat.add_assoc _ _ _))⟩)) | (go_at_call 20; (with_reducible refine (interlockref00_SameTexts.calls k _ _ l0_10 _ _ l1_10 true _ ?side1 ?side2 ?side3 ?side4 A19.out).mono ?_); (case side1 => repeat (first | exact (Kd.C_below HR0_10.out (by repeat (first | (with_reducible first | exact HB.out | apply below_alloc | apply pw_below_drewN | apply below_drew1 | refine below_set ?_ GE229.out | refine below_set ?_ GE230.out) | exact HB.out))) | (with_reducible refine Kd.C_alloc ?_ _) | (with_reducible refine Kd.C_drewN ?_ _) | (with_reducible refine Kd.C_drew ?_))); (case side2 => exact HC0_10.out); (case side3 => repeat (first | exact (Kd.C_below HR1_10.out (by repeat (first | (with_reducible first | exact HB.out | apply below_alloc | apply pw_below_drewN | apply below_drew1 | refine below_set ?_ GE229.out | refine below_set ?_ GE230.out) | exact HB.out))) | (with_reducible refine Kd.C_alloc ?_ _) | (with_reducible refine Kd.C_drewN ?_ _) | (with_reducible refine Kd.C_drew ?_))); (case side4 => exact HC1_10.out); rintro e w' ⟨rfl, ⟨nd, rfl⟩⟩; (try first | exact ⟨rfl, _, World.drewN_drewN _ _ _⟩ | exact ⟨rfl, _, Eq.trans (World.drewN_drewN _ _ _) (congrArg (World.drewN _) (Nat.add_assoc _ _ _))⟩))))
                        go_meet
                        case rel => exact ⟨_, (true), (by first | rfl | (simp; done) | (simp [*]; done)), H', ⟨by first | omega | exact Nat.le_refl _⟩, ⟨by (with_reducible repeat (first | refine blk_drewN ?_ _ | refine blk_drew ?_ | refine blk_alloc ?_ _)); exact BK229.out⟩, ⟨by (with_reducible repeat (first | refine blk_drewN ?_ _ | refine blk_drew ?_ | refine blk_alloc ?_ _)); exact BK230.out⟩, ⟨by repeat (first | (with_reducible first | exact HB.out | apply below_alloc | apply pw_below_drewN | apply below_drew1 | refine below_set ?_ GE229.out | refine below_set ?_ GE230.out) | exact HB.out)⟩⟩
                    · replace c20 := Bool.eq_false_iff.mpr c20
                      subst c20
                      have H1 : (interlockref00_SameStmt.j0 k true a0_0 a0_1 a0_2 a0_3 a0_4 a0_5 l0_6 l0_7 l0_8 l0_9 l0_10 a1_0 a1_1 a1_2 a1_3 a1_4 a1_5 l1_6 l1_7 l1_8 l1_9 l1_10) = some r := by rw [if_neg (show ¬ (false = true) by decide)] at H; exact H
                      clear H
                      have H := H1
                      clear H1
                      have H' := Aside0.mk H
                      clear H
                      have hnb28 := NB229_230.out
                      have hnc28 := NB230_229.out
                      have hcz29_0 : w5.cell? ⟨gb229, 0, none⟩ = some (.int .i64 a0_0) := (blk_cell BK229.out 0).trans rfl
                      have hcz29_1 : w5.cell? ⟨gb229, 1, none⟩ = some (.string a0_1) := (blk_cell BK229.out 1).trans rfl
                      have hcz29_2 : w5.cell? ⟨gb229, 2, none⟩ = some (.string a0_2) := (blk_cell BK229.out 2).trans rfl
                      have hcz29_3 : w5.cell? ⟨gb229, 3, none⟩ = some (.string a0_3) := (blk_cell BK229.out 3).trans rfl
                      have hcz29_4 : w5.cell? ⟨gb229, 4, none⟩ = some (.int .i64 a0_4) := (blk_cell BK229.out 4).trans rfl
                      have hcz29_5 : w5.cell? ⟨gb229, 5, none⟩ = some (.bool a0_5) := (blk_cell BK229.out 5).trans rfl
                      have hcz29_6 : w5.cell? ⟨gb229, 6, none⟩ = some (.slice A0_6 l0_6.length c0_6) := (blk_cell BK229.out 6).trans rfl
                      have hcz29_7 : w5.cell? ⟨gb229, 7, none⟩ = some (.slice A0_7 l0_7.length c0_7) := (blk_cell BK229.out 7).trans rfl
                      have hcz29_8 : w5.cell? ⟨gb229, 8, none⟩ = some (.slice A0_8 l0_8.length c0_8) := (blk_cell BK229.out 8).trans rfl
                      have hcz29_9 : w5.cell? ⟨gb229, 9, none⟩ = some (.slice A0_9 l0_9.length c0_9) := (blk_cell BK229.out 9).trans rfl
                      have hcz29_10 : w5.cell? ⟨gb229, 10, none⟩ = some (.slice A0_10 l0_10.length c0_10) := (blk_cell BK229.out 10).trans rfl
                      have hfz29_0 := blk_frozen BK229.out 0
                      have hfz29_1 := blk_frozen BK229.out 1
                      have hfz29_2 := blk_frozen BK229.out 2
                      have hfz29_3 := blk_frozen BK229.out 3
                      have hfz29_4 := blk_frozen BK229.out 4
                      have hfz29_5 := blk_frozen BK229.out 5
                      have hfz29_6 := blk_frozen BK229.out 6
                      have hfz29_7 := blk_frozen BK229.out 7
                      have hfz29_8 := blk_frozen BK229.out 8
                      have hfz29_9 := blk_frozen BK229.out 9
                      have hfz29_10 := blk_frozen BK229.out 10
                      have hcz30_0 : w5.cell? ⟨gb230, 0, none⟩ = some (.int .i64 a1_0) := (blk_cell BK230.out 0).trans rfl
                      have hcz30_1 : w5.cell? ⟨gb230, 1, none⟩ = some (.string a1_1) := (blk_cell BK230.out 1).trans rfl
                      have hcz30_2 : w5.cell? ⟨gb230, 2, none⟩ = some (.string a1_2) := (blk_cell BK230.out 2).trans rfl
                      have hcz30_3 : w5.cell? ⟨gb230, 3, none⟩ = some (.string a1_3) := (blk_cell BK230.out 3).trans rfl
                      have hcz30_4 : w5.cell? ⟨gb230, 4, none⟩ = some (.int .i64 a1_4) := (blk_cell BK230.out 4).trans rfl
                      have hcz30_5 : w5.cell? ⟨gb230, 5, none⟩ = some (.bool a1_5) := (blk_cell BK230.out 5).trans rfl
                      have hcz30_6 : w5.cell? ⟨gb230, 6, none⟩ = some (.slice A1_6 l1_6.length c1_6) := (blk_cell BK230.out 6).trans rfl
                      have hcz30_7 : w5.cell? ⟨gb230, 7, none⟩ = some (.slice A1_7 l1_7.length c1_7) := (blk_cell BK230.out 7).trans rfl
                      have hcz30_8 : w5.cell? ⟨gb230, 8, none⟩ = some (.slice A1_8 l1_8.length c1_8) := (blk_cell BK230.out 8).trans rfl
                      have hcz30_9 : w5.cell? ⟨gb230, 9, none⟩ = some (.slice A1_9 l1_9.length c1_9) := (blk_cell BK230.out 9).trans rfl
                      have hcz30_10 : w5.cell? ⟨gb230, 10, none⟩ = some (.slice A1_10 l1_10.length c1_10) := (blk_cell BK230.out 10).trans rfl
                      have hfz30_0 := blk_frozen BK230.out 0
                      have hfz30_1 := blk_frozen BK230.out 1
                      have hfz30_2 := blk_frozen BK230.out 2
                      have hfz30_3 := blk_frozen BK230.out 3
                      have hfz30_4 := blk_frozen BK230.out 4
                      have hfz30_5 := blk_frozen BK230.out 5
                      have hfz30_6 := blk_frozen BK230.out 6
                      have hfz30_7 := blk_frozen BK230.out 7
                      have hfz30_8 := blk_frozen BK230.out 8
                      have hfz30_9 := blk_frozen BK230.out 9
                      have hfz30_10 := blk_frozen BK230.out 10
                      go_wp2_with (first | (go_at_call 18; (with_reducible refine (interlockref00_SameRow.calls k _ _ l0_6 _ _ l1_6 true _ ?side1 ?side2 ?side3 ?side4 A15.out).mono ?_); (case side1 => repeat (first | exact (Kd.C_below HR0_6.out HB.out) | (with_reducible refine Kd.C_alloc ?_ _) | (with_reducible refine Kd.C_drewN ?_ _) | (with_reducible refine Kd.C_drew ?_))); (case side2 => exact HC0_6.out); (case side3 => repeat (first | exact (Kd.C_below HR1_6.out HB.out) | (with_reducible refine Kd.C_alloc ?_ _) | (with_reducible refine Kd.C_drewN ?_ _) | (with_reducible refine Kd.C_drew ?_))); (case side4 => exact HC1_6.out); rintro e w' ⟨rfl, ⟨nd, rfl⟩⟩; (try first | exact ⟨rfl, _, World.drewN_drewN _ _ _⟩ | exact ⟨rfl, _, Eq.trans (World.drewN_drewN _ _ _) (congrArg (World.drewN _) (Nat.add_assoc _ _ _))⟩)) | (go_at_call 46; (with_reducible refine (interlockref00_SameConds.calls k _ _ l0_8 _ _ l1_8 true _ ?side1 ?side2 ?side3 ?side4 A17.out).mono ?_); (case side1 => repeat (first | exact (Kd.C_below HR0_8.out (by repeat (first | (with_reducible first | exact HB.out | apply below_alloc | apply pw_below_drewN | apply below_drew1 | refine below_set ?_ GE229.out | refine below_set ?_ GE230.out) | exact HB.out))) | (with_reducible refine Kd.C_alloc ?_ _) | (with_reducible refine Kd.C_drewN ?_ _) | (with_reducible refine Kd.C_drew ?_))); (case side2 => exact HC0_8.out); (case side3 => repeat (first | exact (Kd.C_below HR1_8.out (by repeat (first | (with_reducible first | exact HB.out | apply below_alloc | apply pw_below_drewN | apply below_drew1 | refine below_set ?_ GE229.out | refine below_set ?_ GE230.out) | exact HB.out))) | (with_reducible refine Kd.C_alloc ?_ _) | (with_reducible refine Kd.C_drewN ?_ _) | (with_reducible refine Kd.C_drew ?_))); (case side4 => exact HC1_8.out); rintro e w' ⟨rfl, ⟨nd, rfl⟩⟩; (try first | exact ⟨rfl, _, World.drewN_drewN _ _ _⟩ | exact ⟨rfl, _, Eq.trans (World.drewN_drewN _ _ _) (congrArg (World.drewN _) (Nat.add_assoc _ _ _))⟩)) | (go_at_call 20; (with_reducible refine (interlockref00_SameTexts.calls k _ _ l0_10 _ _ l1_10 false _ ?side1 ?side2 ?side3 ?side4 A19.out).mono ?_); (case side1 => repeat (first | exact (Kd.C_below HR0_10.out (by repeat (first | (with_reducible first | exact HB.out | apply below_alloc | apply pw_below_drewN | apply below_drew1 | refine below_set ?_ GE229.out | refine below_set ?_ GE230.out) | exact HB.out))) | (with_reducible refine Kd.C_alloc ?_ _) | (with_reducible refine Kd.C_drewN ?_ _) | (with_reducible refine Kd.C_drew ?_))); (case side2 => exact HC0_10.out); (case side3 => repeat (first | exact (Kd.C_below HR1_10.out (by repeat (first | (with_reducible first | exact HB.out | apply below_alloc | apply pw_below_drewN | apply below_drew1 | refine below_set ?_ GE229.out | refine below_set ?_ GE230.out) | exact HB.out))) | (with_reducible refine Kd.C_alloc ?_ _) | (with_reducible refine Kd.C_drewN ?_ _) | (with_reducible refine Kd.C_drew ?_))); (case side4 => exact HC1_10.out); rintro e w' ⟨rfl, ⟨nd, rfl⟩⟩; (try first | exact ⟨rfl, _, World.drewN_drewN _ _ _⟩ | exact ⟨rfl, _, Eq.trans (World.drewN_drewN _ _ _) (congrArg (World.drewN _) (Nat.add_assoc _ _ _))⟩)))
                      repeat (go_quiet (first | (go_at_call 18; (with_reducible refine (interlockref00_SameRow.calls k _ _ l0_6 _ _ l1_6 true _ ?side1 ?side2 ?side3 ?side4 A15.out).mono ?_); (case side1 => repeat (first | exact (Kd.C_below HR0_6.out HB.out) | (with_reducible refine Kd.C_alloc ?_ _) | (with_reducible refine Kd.C_drewN ?_ _) | (with_reducible refine Kd.C_drew ?_))); (case side2 => exact HC0_6.out); (case side3 => repeat (first | exact (Kd.C_below HR1_6.out HB.out) | (with_reducible refine Kd.C_alloc ?_ _) | (with_reducible refine Kd.C_drewN ?_ _) | (with_reducible refine Kd.C_drew ?_))); (case side4 => exact HC1_6.out); rintro e w' ⟨rfl, ⟨nd, rfl⟩⟩; (try first | exact ⟨rfl, _, World.drewN_drewN _ _ _⟩ | exact ⟨rfl, _, Eq.trans (World.drewN_drewN _ _ _) (congrArg (World.drewN _) (Nat.add_assoc _ _ _))⟩)) | (go_at_call 46; (with_reducible refine (interlockref00_SameConds.calls k _ _ l0_8 _ _ l1_8 true _ ?side1 ?side2 ?side3 ?side4 A17.out).mono ?_); (case side1 => repeat (first | exact (Kd.C_below HR0_8.out (by repeat (first | (with_reducible first | exact HB.out | apply below_alloc | apply pw_below_drewN | apply below_drew1 | refine below_set ?_ GE229.out | refine below_set ?_ GE230.out) | exact HB.out))) | (with_reducible refine Kd.C_alloc ?_ _) | (with_reducible refine Kd.C_drewN ?_ _) | (with_reducible refine Kd.C_drew ?_))); (case side2 => exact HC0_8.out); (case side3 => repeat (first | exact (Kd.C_below HR1_8.out (by repeat (first | (with_reducible first | exact HB.out | apply below_alloc | apply pw_below_drewN | apply below_drew1 | refine below_set ?_ GE229.out | refine below_set ?_ GE230.out) | exact HB.out))) | (with_reducible refine Kd.C_alloc ?_ _) | (with_reducible refine Kd.C_drewN ?_ _) | (with_reducible refine Kd.C_drew ?_))); (case side4 => exact HC1_8.out); rintro e w' ⟨rfl, ⟨nd, rfl⟩⟩; (try first | exact ⟨rfl, _, World.drewN_drewN _ _ _⟩ | exact ⟨rfl, _, Eq.trans (World.drewN_drewN _ _ _) (congrArg (World.drewN _) (Nat.add_assoc _ _ _))⟩)) | (go_at_call 20; (with_reducible refine (interlockref00_SameTexts.calls k _ _ l0_10 _ _ l1_10 false _ ?side1 ?side2 ?side3 ?side4 A19.out).mono ?_); (case side1 => repeat (first | exact (Kd.C_below HR0_10.out (by repeat (first | (with_reducible first | exact HB.out | apply below_alloc | apply pw_below_drewN | apply below_drew1 | refine below_set ?_ GE229.out | refine below_set ?_ GE230.out) | exact HB.out))) | (with_reducible refine Kd.C_alloc ?_ _) | (with_reducible refine Kd.C_drewN ?_ _) | (with_reducible refine Kd.C_drew ?_))); (case side2 => exact HC0_10.out); (case side3 => repeat (first | exact (Kd.C_below HR1_10.out (by repeat (first | (with_reducible first | exact HB.out | apply below_alloc | apply pw_below_drewN | apply below_drew1 | refine below_set ?_ GE229.out | refine below_set ?_ GE230.out) | exact HB.out))) | (with_reducible refine Kd.C_alloc ?_ _) | (with_reducible refine Kd.C_drewN ?_ _) | (with_reducible refine Kd.C_drew ?_))); (case side4 => exact HC1_10.out); rintro e w' ⟨rfl, ⟨nd, rfl⟩⟩; (try first | exact ⟨rfl, _, World.drewN_drewN _ _ _⟩ | exact ⟨rfl, _, Eq.trans (World.drewN_drewN _ _ _) (congrArg (World.drewN _) (Nat.add_assoc _ _ _))⟩))); try go_wp2_with (first | (go_at_call 18; (with_reducible refine (interlockref00_SameRow.calls k _ _ l0_6 _ _ l1_6 true _ ?side1 ?side2 ?side3 ?side4 A15.out).mono ?_); (case side1 => repeat (first | exact (Kd.C_below HR0_6.out HB.out) | (with_reducible refine Kd.C_alloc ?_ _) | (with_reducible refine Kd.C_drewN ?_ _) | (with_reducible refine Kd.C_drew ?_))); (case side2 => exact HC0_6.out); (case side3 => repeat (first | exact (Kd.C_below HR1_6.out HB.out) | (with_reducible refine Kd.C_alloc ?_ _) | (with_reducible refine Kd.C_drewN ?_ _) | (with_reducible refine Kd.C_drew ?_))); (case side4 => exact HC1_6.out); rintro e w' ⟨rfl, ⟨nd, rfl⟩⟩; (try first | exact ⟨rfl, _, World.drewN_drewN _ _ _⟩ | exact ⟨rfl, _, Eq.trans (World.drewN_drewN _ _ _) (congrArg (World.drewN _) (Nat.add_assoc _ _ _))⟩)) | (go_at_call 46; (with_reducible refine (interlockref00_SameConds.calls k _ _ l0_8 _ _ l1_8 true _ ?side1 ?side2 ?side3 ?side4 A17.out).mono ?_); (case side1 => repeat (first | exact (Kd.C_below HR0_8.out (by repeat (first | (with_reducible first | exact HB.out | apply below_alloc | apply pw_below_drewN | apply below_drew1 | refine below_set ?_ GE229.out | refine below_set ?_ GE230.out) | exact HB.out))) | (with_reducible refine Kd.C_alloc ?_ _) | (with_reducible refine Kd.C_drewN ?_ _) | (with_reducible refine Kd.C_drew ?_))); (case side2 => exact HC0_8.out); (case side3 => repeat (first | exact (Kd.C_below HR1_8.out (by repeat (first | (with_reducible first | exact HB.out | apply below_alloc | apply pw_below_drewN | apply below_drew1 | refine below_set ?_ GE229.out | refine below_set ?_ GE230.out) | exact HB.out))) | (with_reducible refine Kd.C_alloc ?_ _) | (with_reducible refine Kd.C_drewN ?_ _) | (with_reducible refine Kd.C_drew ?_))); (case side4 => exact HC1_8.out); rintro e w' ⟨rfl, ⟨nd, rfl⟩⟩; (try first | exact ⟨rfl, _, World.drewN_drewN _ _ _⟩ | exact ⟨rfl, _, Eq.trans (World.drewN_drewN _ _ _) (congrArg (World.drewN _) (Nat.add_assoc _ _ _))⟩)) | (go_at_call 20; (with_reducible refine (interlockref00_SameTexts.calls k _ _ l0_10 _ _ l1_10 false _ ?side1 ?side2 ?side3 ?side4 A19.out).mono ?_); (case side1 => repeat (first | exact (Kd.C_below HR0_10.out (by repeat (first | (with_reducible first | exact HB.out | apply below_alloc | apply pw_below_drewN | apply below_drew1 | refine below_set ?_ GE229.out | refine below_set ?_ GE230.out) | exact HB.out))) | (with_reducible refine Kd.C_alloc ?_ _) | (with_reducible refine Kd.C_drewN ?_ _) | (with_reducible refine Kd.C_drew ?_))); (case side2 => exact HC0_10.out); (case side3 => repeat (first | exact (Kd.C_below HR1_10.out (by repeat (first | (with_reducible first | exact HB.out | apply below_alloc | apply pw_below_drewN | apply below_drew1 | refine below_set ?_ GE229.out | refine below_set ?_ GE230.out) | exact HB.out))) | (with_reducible refine Kd.C_alloc ?_ _) | (with_reducible refine Kd.C_drewN ?_ _) | (with_reducible refine Kd.C_drew ?_))); (case side4 => exact HC1_10.out); rintro e w' ⟨rfl, ⟨nd, rfl⟩⟩; (try first | exact ⟨rfl, _, World.drewN_drewN _ _ _⟩ | exact ⟨rfl, _, Eq.trans (World.drewN_drewN _ _ _) (congrArg (World.drewN _) (Nat.add_assoc _ _ _))⟩))))
                      go_meet
                      case rel => exact ⟨_, (true), (by first | rfl | (simp; done) | (simp [*]; done)), H', ⟨by first | omega | exact Nat.le_refl _⟩, ⟨by (with_reducible repeat (first | refine blk_drewN ?_ _ | refine blk_drew ?_ | refine blk_alloc ?_ _)); exact BK229.out⟩, ⟨by (with_reducible repeat (first | refine blk_drewN ?_ _ | refine blk_drew ?_ | refine blk_alloc ?_ _)); exact BK230.out⟩, ⟨by repeat (first | (with_reducible first | exact HB.out | apply below_alloc | apply pw_below_drewN | apply below_drew1 | refine below_set ?_ GE229.out | refine below_set ?_ GE230.out) | exact HB.out)⟩⟩
                  · replace c18 := Bool.eq_false_iff.mpr c18
                    subst c18
                    have H1 : (interlockref00_SameStmt.j0 k true a0_0 a0_1 a0_2 a0_3 a0_4 a0_5 l0_6 l0_7 l0_8 l0_9 l0_10 a1_0 a1_1 a1_2 a1_3 a1_4 a1_5 l1_6 l1_7 l1_8 l1_9 l1_10) = some r := by rw [if_neg (show ¬ (false = true) by decide)] at H; exact H
                    clear H
                    have H := H1
                    clear H1
                    have H' := Aside0.mk H
                    clear H
                    have hnb31 := NB229_230.out
                    have hnc31 := NB230_229.out
                    have hcz32_0 : w5.cell? ⟨gb229, 0, none⟩ = some (.int .i64 a0_0) := (blk_cell BK229.out 0).trans rfl
                    have hcz32_1 : w5.cell? ⟨gb229, 1, none⟩ = some (.string a0_1) := (blk_cell BK229.out 1).trans rfl
                    have hcz32_2 : w5.cell? ⟨gb229, 2, none⟩ = some (.string a0_2) := (blk_cell BK229.out 2).trans rfl
                    have hcz32_3 : w5.cell? ⟨gb229, 3, none⟩ = some (.string a0_3) := (blk_cell BK229.out 3).trans rfl
                    have hcz32_4 : w5.cell? ⟨gb229, 4, none⟩ = some (.int .i64 a0_4) := (blk_cell BK229.out 4).trans rfl
                    have hcz32_5 : w5.cell? ⟨gb229, 5, none⟩ = some (.bool a0_5) := (blk_cell BK229.out 5).trans rfl
                    have hcz32_6 : w5.cell? ⟨gb229, 6, none⟩ = some (.slice A0_6 l0_6.length c0_6) := (blk_cell BK229.out 6).trans rfl
                    have hcz32_7 : w5.cell? ⟨gb229, 7, none⟩ = some (.slice A0_7 l0_7.length c0_7) := (blk_cell BK229.out 7).trans rfl
                    have hcz32_8 : w5.cell? ⟨gb229, 8, none⟩ = some (.slice A0_8 l0_8.length c0_8) := (blk_cell BK229.out 8).trans rfl
                    have hcz32_9 : w5.cell? ⟨gb229, 9, none⟩ = some (.slice A0_9 l0_9.length c0_9) := (blk_cell BK229.out 9).trans rfl
                    have hcz32_10 : w5.cell? ⟨gb229, 10, none⟩ = some (.slice A0_10 l0_10.length c0_10) := (blk_cell BK229.out 10).trans rfl
                    have hfz32_0 := blk_frozen BK229.out 0
                    have hfz32_1 := blk_frozen BK229.out 1
                    have hfz32_2 := blk_frozen BK229.out 2
                    have hfz32_3 := blk_frozen BK229.out 3
                    have hfz32_4 := blk_frozen BK229.out 4
                    have hfz32_5 := blk_frozen BK229.out 5
                    have hfz32_6 := blk_frozen BK229.out 6
                    have hfz32_7 := blk_frozen BK229.out 7
                    have hfz32_8 := blk_frozen BK229.out 8
                    have hfz32_9 := blk_frozen BK229.out 9
                    have hfz32_10 := blk_frozen BK229.out 10
                    have hcz33_0 : w5.cell? ⟨gb230, 0, none⟩ = some (.int .i64 a1_0) := (blk_cell BK230.out 0).trans rfl
                    have hcz33_1 : w5.cell? ⟨gb230, 1, none⟩ = some (.string a1_1) := (blk_cell BK230.out 1).trans rfl
                    have hcz33_2 : w5.cell? ⟨gb230, 2, none⟩ = some (.string a1_2) := (blk_cell BK230.out 2).trans rfl
                    have hcz33_3 : w5.cell? ⟨gb230, 3, none⟩ = some (.string a1_3) := (blk_cell BK230.out 3).trans rfl
                    have hcz33_4 : w5.cell? ⟨gb230, 4, none⟩ = some (.int .i64 a1_4) := (blk_cell BK230.out 4).trans rfl
                    have hcz33_5 : w5.cell? ⟨gb230, 5, none⟩ = some (.bool a1_5) := (blk_cell BK230.out 5).trans rfl
                    have hcz33_6 : w5.cell? ⟨gb230, 6, none⟩ = some (.slice A1_6 l1_6.length c1_6) := (blk_cell BK230.out 6).trans rfl
                    have hcz33_7 : w5.cell? ⟨gb230, 7, none⟩ = some (.slice A1_7 l1_7.length c1_7) := (blk_cell BK230.out 7).trans rfl
                    have hcz33_8 : w5.cell? ⟨gb230, 8, none⟩ = some (.slice A1_8 l1_8.length c1_8) := (blk_cell BK230.out 8).trans rfl
                    have hcz33_9 : w5.cell? ⟨gb230, 9, none⟩ = some (.slice A1_9 l1_9.length c1_9) := (blk_cell BK230.out 9).trans rfl
                    have hcz33_10 : w5.cell? ⟨gb230, 10, none⟩ = some (.slice A1_10 l1_10.length c1_10) := (blk_cell BK230.out 10).trans rfl
                    have hfz33_0 := blk_frozen BK230.out 0
                    have hfz33_1 := blk_frozen BK230.out 1
                    have hfz33_2 := blk_frozen BK230.out 2
                    have hfz33_3 := blk_frozen BK230.out 3
                    have hfz33_4 := blk_frozen BK230.out 4
                    have hfz33_5 := blk_frozen BK230.out 5
                    have hfz33_6 := blk_frozen BK230.out 6
                    have hfz33_7 := blk_frozen BK230.out 7
                    have hfz33_8 := blk_frozen BK230.out 8
                    have hfz33_9 := blk_frozen BK230.out 9
                    have hfz33_10 := blk_frozen BK230.out 10
                    go_wp2_with (first | (go_at_call 18; (with_reducible refine (interlockref00_SameRow.calls k _ _ l0_6 _ _ l1_6 true _ ?side1 ?side2 ?side3 ?side4 A15.out).mono ?_); (case side1 => repeat (first | exact (Kd.C_below HR0_6.out HB.out) | (with_reducible refine Kd.C_alloc ?_ _) | (with_reducible refine Kd.C_drewN ?_ _) | (with_reducible refine Kd.C_drew ?_))); (case side2 => exact HC0_6.out); (case side3 => repeat (first | exact (Kd.C_below HR1_6.out HB.out) | (with_reducible refine Kd.C_alloc ?_ _) | (with_reducible refine Kd.C_drewN ?_ _) | (with_reducible refine Kd.C_drew ?_))); (case side4 => exact HC1_6.out); rintro e w' ⟨rfl, ⟨nd, rfl⟩⟩; (try first | exact ⟨rfl, _, World.drewN_drewN _ _ _⟩ | exact ⟨rfl, _, Eq.trans (World.drewN_drewN _ _ _) (congrArg (World.drewN _) (Nat.add_assoc _ _ _))⟩)) | (go_at_call 46; (with_reducible refine (interlockref00_SameConds.calls k _ _ l0_8 _ _ l1_8 false _ ?side1 ?side2 ?side3 ?side4 A17.out).mono ?_); (case side1 => repeat (first | exact (Kd.C_below HR0_8.out (by repeat (first | (with_reducible first | exact HB.out | apply below_alloc | apply pw_below_drewN | apply below_drew1 | refine below_set ?_ GE229.out | refine below_set ?_ GE230.out) | exact HB.out))) | (with_reducible refine Kd.C_alloc ?_ _) | (with_reducible refine Kd.C_drewN ?_ _) | (with_reducible refine Kd.C_drew ?_))); (case side2 => exact HC0_8.out); (case side3 => repeat (first | exact (Kd.C_below HR1_8.out (by repeat (first | (with_reducible first | exact HB.out | apply below_alloc | apply pw_below_drewN | apply below_drew1 | refine below_set ?_ GE229.out | refine below_set ?_ GE230.out) | exact HB.out))) | (with_reducible refine Kd.C_alloc ?_ _) | (with_reducible refine Kd.C_drewN ?_ _) | (with_reducible refine Kd.C_drew ?_))); (case side4 => exact HC1_8.out); rintro e w' ⟨rfl, ⟨nd, rfl⟩⟩; (try first | exact ⟨rfl, _, World.drewN_drewN _ _ _⟩ | exact ⟨rfl, _, Eq.trans (World.drewN_drewN _ _ _) (congrArg (World.drewN _) (Nat.add_assoc _ _ _))⟩)))
                    repeat (go_quiet (first | (go_at_call 18; (with_reducible refine (interlockref00_SameRow.calls k _ _ l0_6 _ _ l1_6 true _ ?side1 ?side2 ?side3 ?side4 A15.out).mono ?_); (case side1 => repeat (first | exact (Kd.C_below HR0_6.out HB.out) | (with_reducible refine Kd.C_alloc ?_ _) | (with_reducible refine Kd.C_drewN ?_ _) | (with_reducible refine Kd.C_drew ?_))); (case side2 => exact HC0_6.out); (case side3 => repeat (first | exact (Kd.C_below HR1_6.out HB.out) | (with_reducible refine Kd.C_alloc ?_ _) | (with_reducible refine Kd.C_drewN ?_ _) | (with_reducible refine Kd.C_drew ?_))); (case side4 => exact HC1_6.out); rintro e w' ⟨rfl, ⟨nd, rfl⟩⟩; (try first | exact ⟨rfl, _, World.drewN_drewN _ _ _⟩ | exact ⟨rfl, _, Eq.trans (World.drewN_drewN _ _ _) (congrArg (World.drewN _) (Nat.add_assoc _ _ _))⟩)) | (go_at_call 46; (with_reducible refine (interlockref00_SameConds.calls k _ _ l0_8 _ _ l1_8 false _ ?side1 ?side2 ?side3 ?side4 A17.out).mono ?_); (case side1 => repeat (first | exact (Kd.C_below HR0_8.out (by repeat (first | (with_reducible first | exact HB.out | apply below_alloc | apply pw_below_drewN | apply below_drew1 | refine below_set ?_ GE229.out | refine below_set ?_ GE230.out) | exact HB.out))) | (with_reducible refine Kd.C_alloc ?_ _) | (with_reducible refine Kd.C_drewN ?_ _) | (with_reducible refine Kd.C_drew ?_))); (case side2 => exact HC0_8.out); (case side3 => repeat (first | exact (Kd.C_below HR1_8.out (by repeat (first | (with_reducible first | exact HB.out | apply below_alloc | apply pw_below_drewN | apply below_drew1 | refine below_set ?_ GE229.out | refine below_set ?_ GE230.out) | exact HB.out))) | (with_reducible refine Kd.C_alloc ?_ _) | (with_reducible refine Kd.C_drewN ?_ _) | (with_reducible refine Kd.C_drew ?_))); (case side4 => exact HC1_8.out); rintro e w' ⟨rfl, ⟨nd, rfl⟩⟩; (try first | exact ⟨rfl, _, World.drewN_drewN _ _ _⟩ | exact ⟨rfl, _, Eq.trans (World.drewN_drewN _ _ _) (congrArg (World.drewN _) (Nat.add_assoc _ _ _))⟩))); try go_wp2_with (first | (go_at_call 18; (with_reducible refine (interlockref00_SameRow.calls k _ _ l0_6 _ _ l1_6 true _ ?side1 ?side2 ?side3 ?side4 A15.out).mono ?_); (case side1 => repeat (first | exact (Kd.C_below HR0_6.out HB.out) | (with_reducible refine Kd.C_alloc ?_ _) | (with_reducible refine Kd.C_drewN ?_ _) | (with_reducible refine Kd.C_drew ?_))); (case side2 => exact HC0_6.out); (case side3 => repeat (first | exact (Kd.C_below HR1_6.out HB.out) | (with_reducible refine Kd.C_alloc ?_ _) | (with_reducible refine Kd.C_drewN ?_ _) | (with_reducible refine Kd.C_drew ?_))); (case side4 => exact HC1_6.out); rintro e w' ⟨rfl, ⟨nd, rfl⟩⟩; (try first | exact ⟨rfl, _, World.drewN_drewN _ _ _⟩ | exact ⟨rfl, _, Eq.trans (World.drewN_drewN _ _ _) (congrArg (World.drewN _) (Nat.add_assoc _ _ _))⟩)) | (go_at_call 46; (with_reducible refine (interlockref00_SameConds.calls k _ _ l0_8 _ _ l1_8 false _ ?side1 ?side2 ?side3 ?side4 A17.out).mono ?_); (case side1 => repeat (first | exact (Kd.C_below HR0_8.out (by repeat (first | (with_reducible first | exact HB.out | apply below_alloc | apply pw_below_drewN | apply below_drew1 | refine below_set ?_ GE229.out | refine below_set ?_ GE230.out) | exact HB.out))) | (with_reducible refine Kd.C_alloc ?_ _) | (with_reducible refine Kd.C_drewN ?_ _) | (with_reducible refine Kd.C_drew ?_))); (case side2 => exact HC0_8.out); (case side3 => repeat (first | exact (Kd.C_below HR1_8.out (by repeat (first | (with_reducible first | exact HB.out | apply below_alloc | apply pw_below_drewN | apply below_drew1 | refine below_set ?_ GE229.out | refine below_set ?_ GE230.out) | exact HB.out))) | (with_reducible refine Kd.C_alloc ?_ _) | (with_reducible refine Kd.C_drewN ?_ _) | (with_reducible refine Kd.C_drew ?_))); (case side4 => exact HC1_8.out); rintro e w' ⟨rfl, ⟨nd, rfl⟩⟩; (try first | exact ⟨rfl, _, World.drewN_drewN _ _ _⟩ | exact ⟨rfl, _, Eq.trans (World.drewN_drewN _ _ _) (congrArg (World.drewN _) (Nat.add_assoc _ _ _))⟩))))
                    go_meet
                    case rel => exact ⟨_, (true), (by first | rfl | (simp; done) | (simp [*]; done)), H', ⟨by first | omega | exact Nat.le_refl _⟩, ⟨by (with_reducible repeat (first | refine blk_drewN ?_ _ | refine blk_drew ?_ | refine blk_alloc ?_ _)); exact BK229.out⟩, ⟨by (with_reducible repeat (first | refine blk_drewN ?_ _ | refine blk_drew ?_ | refine blk_alloc ?_ _)); exact BK230.out⟩, ⟨by repeat (first | (with_reducible first | exact HB.out | apply below_alloc | apply pw_below_drewN | apply below_drew1 | refine below_set ?_ GE229.out | refine below_set ?_ GE230.out) | exact HB.out)⟩⟩
                · replace c16 := Bool.eq_false_iff.mpr c16
                  subst c16
                  have H1 : (interlockref00_SameStmt.j0 k true a0_0 a0_1 a0_2 a0_3 a0_4 a0_5 l0_6 l0_7 l0_8 l0_9 l0_10 a1_0 a1_1 a1_2 a1_3 a1_4 a1_5 l1_6 l1_7 l1_8 l1_9 l1_10) = some r := by rw [if_neg (show ¬ (false = true) by decide)] at H; exact H
                  clear H
                  have H := H1
                  clear H1
                  have H' := Aside0.mk H
                  clear H
                  have hnb34 := NB229_230.out
                  have hnc34 := NB230_229.out
                  have hcz35_0 : w5.cell? ⟨gb229, 0, none⟩ = some (.int .i64 a0_0) := (blk_cell BK229.out 0).trans rfl
                  have hcz35_1 : w5.cell? ⟨gb229, 1, none⟩ = some (.string a0_1) := (blk_cell BK229.out 1).trans rfl
                  have hcz35_2 : w5.cell? ⟨gb229, 2, none⟩ = some (.string a0_2) := (blk_cell BK229.out 2).trans rfl
                  have hcz35_3 : w5.cell? ⟨gb229, 3, none⟩ = some (.string a0_3) := (blk_cell BK229.out 3).trans rfl
                  have hcz35_4 : w5.cell? ⟨gb229, 4, none⟩ = some (.int .i64 a0_4) := (blk_cell BK229.out 4).trans rfl
                  have hcz35_5 : w5.cell? ⟨gb229, 5, none⟩ = some (.bool a0_5) := (blk_cell BK229.out 5).trans rfl
                  have hcz35_6 : w5.cell? ⟨gb229, 6, none⟩ = some (.slice A0_6 l0_6.length c0_6) := (blk_cell BK229.out 6).trans rfl
                  have hcz35_7 : w5.cell? ⟨gb229, 7, none⟩ = some (.slice A0_7 l0_7.length c0_7) := (blk_cell BK229.out 7).trans rfl
                  have hcz35_8 : w5.cell? ⟨gb229, 8, none⟩ = some (.slice A0_8 l0_8.length c0_8) := (blk_cell BK229.out 8).trans rfl
                  have hcz35_9 : w5.cell? ⟨gb229, 9, none⟩ = some (.slice A0_9 l0_9.length c0_9) := (blk_cell BK229.out 9).trans rfl
                  have hcz35_10 : w5.cell? ⟨gb229, 10, none⟩ = some (.slice A0_10 l0_10.length c0_10) := (blk_cell BK229.out 10).trans rfl
                  have hfz35_0 := blk_frozen BK229.out 0
                  have hfz35_1 := blk_frozen BK229.out 1
                  have hfz35_2 := blk_frozen BK229.out 2
                  have hfz35_3 := blk_frozen BK229.out 3
                  have hfz35_4 := blk_frozen BK229.out 4
                  have hfz35_5 := blk_frozen BK229.out 5
                  have hfz35_6 := blk_frozen BK229.out 6
                  have hfz35_7 := blk_frozen BK229.out 7
                  have hfz35_8 := blk_frozen BK229.out 8
                  have hfz35_9 := blk_frozen BK229.out 9
                  have hfz35_10 := blk_frozen BK229.out 10
                  have hcz36_0 : w5.cell? ⟨gb230, 0, none⟩ = some (.int .i64 a1_0) := (blk_cell BK230.out 0).trans rfl
                  have hcz36_1 : w5.cell? ⟨gb230, 1, none⟩ = some (.string a1_1) := (blk_cell BK230.out 1).trans rfl
                  have hcz36_2 : w5.cell? ⟨gb230, 2, none⟩ = some (.string a1_2) := (blk_cell BK230.out 2).trans rfl
                  have hcz36_3 : w5.cell? ⟨gb230, 3, none⟩ = some (.string a1_3) := (blk_cell BK230.out 3).trans rfl
                  have hcz36_4 : w5.cell? ⟨gb230, 4, none⟩ = some (.int .i64 a1_4) := (blk_cell BK230.out 4).trans rfl
                  have hcz36_5 : w5.cell? ⟨gb230, 5, none⟩ = some (.bool a1_5) := (blk_cell BK230.out 5).trans rfl
                  have hcz36_6 : w5.cell? ⟨gb230, 6, none⟩ = some (.slice A1_6 l1_6.length c1_6) := (blk_cell BK230.out 6).trans rfl
                  have hcz36_7 : w5.cell? ⟨gb230, 7, none⟩ = some (.slice A1_7 l1_7.length c1_7) := (blk_cell BK230.out 7).trans rfl
                  have hcz36_8 : w5.cell? ⟨gb230, 8, none⟩ = some (.slice A1_8 l1_8.length c1_8) := (blk_cell BK230.out 8).trans rfl
                  have hcz36_9 : w5.cell? ⟨gb230, 9, none⟩ = some (.slice A1_9 l1_9.length c1_9) := (blk_cell BK230.out 9).trans rfl
                  have hcz36_10 : w5.cell? ⟨gb230, 10, none⟩ = some (.slice A1_10 l1_10.length c1_10) := (blk_cell BK230.out 10).trans rfl
                  have hfz36_0 := blk_frozen BK230.out 0
                  have hfz36_1 := blk_frozen BK230.out 1
                  have hfz36_2 := blk_frozen BK230.out 2
                  have hfz36_3 := blk_frozen BK230.out 3
                  have hfz36_4 := blk_frozen BK230.out 4
                  have hfz36_5 := blk_frozen BK230.out 5
                  have hfz36_6 := blk_frozen BK230.out 6
                  have hfz36_7 := blk_frozen BK230.out 7
                  have hfz36_8 := blk_frozen BK230.out 8
                  have hfz36_9 := blk_frozen BK230.out 9
                  have hfz36_10 := blk_frozen BK230.out 10
                  go_wp2_with (first | (go_at_call 18; (with_reducible refine (interlockref00_SameRow.calls k _ _ l0_6 _ _ l1_6 false _ ?side1 ?side2 ?side3 ?side4 A15.out).mono ?_); (case side1 => repeat (first | exact (Kd.C_below HR0_6.out HB.out) | (with_reducible refine Kd.C_alloc ?_ _) | (with_reducible refine Kd.C_drewN ?_ _) | (with_reducible refine Kd.C_drew ?_))); (case side2 => exact HC0_6.out); (case side3 => repeat (first | exact (Kd.C_below HR1_6.out HB.out) | (with_reducible refine Kd.C_alloc ?_ _) | (with_reducible refine Kd.C_drewN ?_ _) | (with_reducible refine Kd.C_drew ?_))); (case side4 => exact HC1_6.out); rintro e w' ⟨rfl, ⟨nd, rfl⟩⟩; (try first | exact ⟨rfl, _, World.drewN_drewN _ _ _⟩ | exact ⟨rfl, _, Eq.trans (World.drewN_drewN _ _ _) (congrArg (World.drewN _) (Nat.add_assoc _ _ _))⟩)))
                  repeat (go_quiet (first | (go_at_call 18; (with_reducible refine (interlockref00_SameRow.calls k _ _ l0_6 _ _ l1_6 false _ ?side1 ?side2 ?side3 ?side4 A15.out).mono ?_); (case side1 => repeat (first | exact (Kd.C_below HR0_6.out HB.out) | (with_reducible refine Kd.C_alloc ?_ _) | (with_reducible refine Kd.C_drewN ?_ _) | (with_reducible refine Kd.C_drew ?_))); (case side2 => exact HC0_6.out); (case side3 => repeat (first | exact (Kd.C_below HR1_6.out HB.out) | (with_reducible refine Kd.C_alloc ?_ _) | (with_reducible refine Kd.C_drewN ?_ _) | (with_reducible refine Kd.C_drew ?_))); (case side4 => exact HC1_6.out); rintro e w' ⟨rfl, ⟨nd, rfl⟩⟩; (try first | exact ⟨rfl, _, World.drewN_drewN _ _ _⟩ | exact ⟨rfl, _, Eq.trans (World.drewN_drewN _ _ _) (congrArg (World.drewN _) (Nat.add_assoc _ _ _))⟩))); try go_wp2_with (first | (go_at_call 18; (with_reducible refine (interlockref00_SameRow.calls k _ _ l0_6 _ _ l1_6 false _ ?side1 ?side2 ?side3 ?side4 A15.out).mono ?_); (case side1 => repeat (first | exact (Kd.C_below HR0_6.out HB.out) | (with_reducible refine Kd.C_alloc ?_ _) | (with_reducible refine Kd.C_drewN ?_ _) | (with_reducible refine Kd.C_drew ?_))); (case side2 => exact HC0_6.out); (case side3 => repeat (first | exact (Kd.C_below HR1_6.out HB.out) | (with_reducible refine Kd.C_alloc ?_ _) | (with_reducible refine Kd.C_drewN ?_ _) | (with_reducible refine Kd.C_drew ?_))); (case side4 => exact HC1_6.out); rintro e w' ⟨rfl, ⟨nd, rfl⟩⟩; (try first | exact ⟨rfl, _, World.drewN_drewN _ _ _⟩ | exact ⟨rfl, _, Eq.trans (World.drewN_drewN _ _ _) (congrArg (World.drewN _) (Nat.add_assoc _ _ _))⟩))))
                  go_meet
                  case rel => exact ⟨_, (true), (by first | rfl | (simp; done) | (simp [*]; done)), H', ⟨by first | omega | exact Nat.le_refl _⟩, ⟨by (with_reducible repeat (first | refine blk_drewN ?_ _ | refine blk_drew ?_ | refine blk_alloc ?_ _)); exact BK229.out⟩, ⟨by (with_reducible repeat (first | refine blk_drewN ?_ _ | refine blk_drew ?_ | refine blk_alloc ?_ _)); exact BK230.out⟩, ⟨by repeat (first | (with_reducible first | exact HB.out | apply below_alloc | apply pw_below_drewN | apply below_drew1 | refine below_set ?_ GE229.out | refine below_set ?_ GE230.out) | exact HB.out)⟩⟩
            · rw [if_neg c10] at H
              have c10b0 : (a0_4 == a1_4) = false := beq_eq_false_iff_ne.mpr c10
              have c10b1 : (a0_4 != a1_4) = true := bne_iff_ne.mpr c10
              have H' := Aside0.mk H
              clear H
              have hnb37 := NB229_230.out
              have hnc37 := NB230_229.out
              have hcz38_0 : w5.cell? ⟨gb229, 0, none⟩ = some (.int .i64 a0_0) := (blk_cell BK229.out 0).trans rfl
              have hcz38_1 : w5.cell? ⟨gb229, 1, none⟩ = some (.string a0_1) := (blk_cell BK229.out 1).trans rfl
              have hcz38_2 : w5.cell? ⟨gb229, 2, none⟩ = some (.string a0_2) := (blk_cell BK229.out 2).trans rfl
              have hcz38_3 : w5.cell? ⟨gb229, 3, none⟩ = some (.string a0_3) := (blk_cell BK229.out 3).trans rfl
              have hcz38_4 : w5.cell? ⟨gb229, 4, none⟩ = some (.int .i64 a0_4) := (blk_cell BK229.out 4).trans rfl
              have hcz38_5 : w5.cell? ⟨gb229, 5, none⟩ = some (.bool a0_5) := (blk_cell BK229.out 5).trans rfl
              have hcz38_6 : w5.cell? ⟨gb229, 6, none⟩ = some (.slice A0_6 l0_6.length c0_6) := (blk_cell BK229.out 6).trans rfl
              have hcz38_7 : w5.cell? ⟨gb229, 7, none⟩ = some (.slice A0_7 l0_7.length c0_7) := (blk_cell BK229.out 7).trans rfl
              have hcz38_8 : w5.cell? ⟨gb229, 8, none⟩ = some (.slice A0_8 l0_8.length c0_8) := (blk_cell BK229.out 8).trans rfl
              have hcz38_9 : w5.cell? ⟨gb229, 9, none⟩ = some (.slice A0_9 l0_9.length c0_9) := (blk_cell BK229.out 9).trans rfl
              have hcz38_10 : w5.cell? ⟨gb229, 10, none⟩ = some (.slice A0_10 l0_10.length c0_10) := (blk_cell BK229.out 10).trans rfl
              have hfz38_0 := blk_frozen BK229.out 0
              have hfz38_1 := blk_frozen BK229.out 1
              have hfz38_2 := blk_frozen BK229.out 2
              have hfz38_3 := blk_frozen BK229.out 3
              have hfz38_4 := blk_frozen BK229.out 4
              have hfz38_5 := blk_frozen BK229.out 5
              have hfz38_6 := blk_frozen BK229.out 6
              have hfz38_7 := blk_frozen BK229.out 7
              have hfz38_8 := blk_frozen BK229.out 8
              have hfz38_9 := blk_frozen BK229.out 9
              have hfz38_10 := blk_frozen BK229.out 10
              have hcz39_0 : w5.cell? ⟨gb230, 0, none⟩ = some (.int .i64 a1_0) := (blk_cell BK230.out 0).trans rfl
              have hcz39_1 : w5.cell? ⟨gb230, 1, none⟩ = some (.string a1_1) := (blk_cell BK230.out 1).trans rfl
              have hcz39_2 : w5.cell? ⟨gb230, 2, none⟩ = some (.string a1_2) := (blk_cell BK230.out 2).trans rfl
              have hcz39_3 : w5.cell? ⟨gb230, 3, none⟩ = some (.string a1_3) := (blk_cell BK230.out 3).trans rfl
              have hcz39_4 : w5.cell? ⟨gb230, 4, none⟩ = some (.int .i64 a1_4) := (blk_cell BK230.out 4).trans rfl
              have hcz39_5 : w5.cell? ⟨gb230, 5, none⟩ = some (.bool a1_5) := (blk_cell BK230.out 5).trans rfl
              have hcz39_6 : w5.cell? ⟨gb230, 6, none⟩ = some (.slice A1_6 l1_6.length c1_6) := (blk_cell BK230.out 6).trans rfl
              have hcz39_7 : w5.cell? ⟨gb230, 7, none⟩ = some (.slice A1_7 l1_7.length c1_7) := (blk_cell BK230.out 7).trans rfl
              have hcz39_8 : w5.cell? ⟨gb230, 8, none⟩ = some (.slice A1_8 l1_8.length c1_8) := (blk_cell BK230.out 8).trans rfl
              have hcz39_9 : w5.cell? ⟨gb230, 9, none⟩ = some (.slice A1_9 l1_9.length c1_9) := (blk_cell BK230.out 9).trans rfl
              have hcz39_10 : w5.cell? ⟨gb230, 10, none⟩ = some (.slice A1_10 l1_10.length c1_10) := (blk_cell BK230.out 10).trans rfl
              have hfz39_0 := blk_frozen BK230.out 0
              have hfz39_1 := blk_frozen BK230.out 1
              have hfz39_2 := blk_frozen BK230.out 2
              have hfz39_3 := blk_frozen BK230.out 3
              have hfz39_4 := blk_frozen BK230.out 4
              have hfz39_5 := blk_frozen BK230.out 5
              have hfz39_6 := blk_frozen BK230.out 6
              have hfz39_7 := blk_frozen BK230.out 7
              have hfz39_8 := blk_frozen BK230.out 8
              have hfz39_9 := blk_frozen BK230.out 9
              have hfz39_10 := blk_frozen BK230.out 10
              go_wp2
              repeat (go_quiet (fail); try go_wp2)
              go_meet
              case rel => exact ⟨_, (true), (by first | rfl | (simp; done) | (simp [*]; done)), H', ⟨by first | omega | exact Nat.le_refl _⟩, ⟨by (with_reducible repeat (first | refine blk_drewN ?_ _ | refine blk_drew ?_ | refine blk_alloc ?_ _)); exact BK229.out⟩, ⟨by (with_reducible repeat (first | refine blk_drewN ?_ _ | refine blk_drew ?_ | refine blk_alloc ?_ _)); exact BK230.out⟩, ⟨by repeat (first | (with_reducible first | exact HB.out | apply below_alloc | apply pw_below_drewN | apply below_drew1 | refine below_set ?_ GE229.out | refine below_set ?_ GE230.out) | exact HB.out)⟩⟩
          · rw [if_neg c9] at H
            have c9b0 : (a0_3.toList == a1_3.toList) = false := beq_eq_false_iff_ne.mpr c9
            have c9b1 : (a0_3.toList != a1_3.toList) = true := bne_iff_ne.mpr c9
            have H' := Aside0.mk H
            clear H
            have hnb40 := NB229_230.out
            have hnc40 := NB230_229.out
            have hcz41_0 : w5.cell? ⟨gb229, 0, none⟩ = some (.int .i64 a0_0) := (blk_cell BK229.out 0).trans rfl
            have hcz41_1 : w5.cell? ⟨gb229, 1, none⟩ = some (.string a0_1) := (blk_cell BK229.out 1).trans rfl
            have hcz41_2 : w5.cell? ⟨gb229, 2, none⟩ = some (.string a0_2) := (blk_cell BK229.out 2).trans rfl
            have hcz41_3 : w5.cell? ⟨gb229, 3, none⟩ = some (.string a0_3) := (blk_cell BK229.out 3).trans rfl
            have hcz41_4 : w5.cell? ⟨gb229, 4, none⟩ = some (.int .i64 a0_4) := (blk_cell BK229.out 4).trans rfl
            have hcz41_5 : w5.cell? ⟨gb229, 5, none⟩ = some (.bool a0_5) := (blk_cell BK229.out 5).trans rfl
            have hcz41_6 : w5.cell? ⟨gb229, 6, none⟩ = some (.slice A0_6 l0_6.length c0_6) := (blk_cell BK229.out 6).trans rfl
            have hcz41_7 : w5.cell? ⟨gb229, 7, none⟩ = some (.slice A0_7 l0_7.length c0_7) := (blk_cell BK229.out 7).trans rfl
            have hcz41_8 : w5.cell? ⟨gb229, 8, none⟩ = some (.slice A0_8 l0_8.length c0_8) := (blk_cell BK229.out 8).trans rfl
            have hcz41_9 : w5.cell? ⟨gb229, 9, none⟩ = some (.slice A0_9 l0_9.length c0_9) := (blk_cell BK229.out 9).trans rfl
            have hcz41_10 : w5.cell? ⟨gb229, 10, none⟩ = some (.slice A0_10 l0_10.length c0_10) := (blk_cell BK229.out 10).trans rfl
            have hfz41_0 := blk_frozen BK229.out 0
            have hfz41_1 := blk_frozen BK229.out 1
            have hfz41_2 := blk_frozen BK229.out 2
            have hfz41_3 := blk_frozen BK229.out 3
            have hfz41_4 := blk_frozen BK229.out 4
            have hfz41_5 := blk_frozen BK229.out 5
            have hfz41_6 := blk_frozen BK229.out 6
            have hfz41_7 := blk_frozen BK229.out 7
            have hfz41_8 := blk_frozen BK229.out 8
            have hfz41_9 := blk_frozen BK229.out 9
            have hfz41_10 := blk_frozen BK229.out 10
            have hcz42_0 : w5.cell? ⟨gb230, 0, none⟩ = some (.int .i64 a1_0) := (blk_cell BK230.out 0).trans rfl
            have hcz42_1 : w5.cell? ⟨gb230, 1, none⟩ = some (.string a1_1) := (blk_cell BK230.out 1).trans rfl
            have hcz42_2 : w5.cell? ⟨gb230, 2, none⟩ = some (.string a1_2) := (blk_cell BK230.out 2).trans rfl
            have hcz42_3 : w5.cell? ⟨gb230, 3, none⟩ = some (.string a1_3) := (blk_cell BK230.out 3).trans rfl
            have hcz42_4 : w5.cell? ⟨gb230, 4, none⟩ = some (.int .i64 a1_4) := (blk_cell BK230.out 4).trans rfl
            have hcz42_5 : w5.cell? ⟨gb230, 5, none⟩ = some (.bool a1_5) := (blk_cell BK230.out 5).trans rfl
            have hcz42_6 : w5.cell? ⟨gb230, 6, none⟩ = some (.slice A1_6 l1_6.length c1_6) := (blk_cell BK230.out 6).trans rfl
            have hcz42_7 : w5.cell? ⟨gb230, 7, none⟩ = some (.slice A1_7 l1_7.length c1_7) := (blk_cell BK230.out 7).trans rfl
            have hcz42_8 : w5.cell? ⟨gb230, 8, none⟩ = some (.slice A1_8 l1_8.length c1_8) := (blk_cell BK230.out 8).trans rfl
            have hcz42_9 : w5.cell? ⟨gb230, 9, none⟩ = some (.slice A1_9 l1_9.length c1_9) := (blk_cell BK230.out 9).trans rfl
            have hcz42_10 : w5.cell? ⟨gb230, 10, none⟩ = some (.slice A1_10 l1_10.length c1_10) := (blk_cell BK230.out 10).trans rfl
            have hfz42_0 := blk_frozen BK230.out 0
            have hfz42_1 := blk_frozen BK230.out 1
            have hfz42_2 := blk_frozen BK230.out 2
            have hfz42_3 := blk_frozen BK230.out 3
            have hfz42_4 := blk_frozen BK230.out 4
            have hfz42_5 := blk_frozen BK230.out 5
            have hfz42_6 := blk_frozen BK230.out 6
            have hfz42_7 := blk_frozen BK230.out 7
            have hfz42_8 := blk_frozen BK230.out 8
            have hfz42_9 := blk_frozen BK230.out 9
            have hfz42_10 := blk_frozen BK230.out 10
            go_wp2
            repeat (go_quiet (fail); try go_wp2)
            go_meet
            case rel => exact ⟨_, (true), (by first | rfl | (simp; done) | (simp [*]; done)), H', ⟨by first | omega | exact Nat.le_refl _⟩, ⟨by (with_reducible repeat (first | refine blk_drewN ?_ _ | refine blk_drew ?_ | refine blk_alloc ?_ _)); exact BK229.out⟩, ⟨by (with_reducible repeat (first | refine blk_drewN ?_ _ | refine blk_drew ?_ | refine blk_alloc ?_ _)); exact BK230.out⟩, ⟨by repeat (first | (with_reducible first | exact HB.out | apply below_alloc | apply pw_below_drewN | apply below_drew1 | refine below_set ?_ GE229.out | refine below_set ?_ GE230.out) | exact HB.out)⟩⟩
        · rw [if_neg c8] at H
          have c8b0 : (a0_2.toList == a1_2.toList) = false := beq_eq_false_iff_ne.mpr c8
          have c8b1 : (a0_2.toList != a1_2.toList) = true := bne_iff_ne.mpr c8
          have H' := Aside0.mk H
          clear H
          have hnb43 := NB229_230.out
          have hnc43 := NB230_229.out
          have hcz44_0 : w5.cell? ⟨gb229, 0, none⟩ = some (.int .i64 a0_0) := (blk_cell BK229.out 0).trans rfl
          have hcz44_1 : w5.cell? ⟨gb229, 1, none⟩ = some (.string a0_1) := (blk_cell BK229.out 1).trans rfl
          have hcz44_2 : w5.cell? ⟨gb229, 2, none⟩ = some (.string a0_2) := (blk_cell BK229.out 2).trans rfl
          have hcz44_3 : w5.cell? ⟨gb229, 3, none⟩ = some (.string a0_3) := (blk_cell BK229.out 3).trans rfl
          have hcz44_4 : w5.cell? ⟨gb229, 4, none⟩ = some (.int .i64 a0_4) := (blk_cell BK229.out 4).trans rfl
          have hcz44_5 : w5.cell? ⟨gb229, 5, none⟩ = some (.bool a0_5) := (blk_cell BK229.out 5).trans rfl
          have hcz44_6 : w5.cell? ⟨gb229, 6, none⟩ = some (.slice A0_6 l0_6.length c0_6) := (blk_cell BK229.out 6).trans rfl
          have hcz44_7 : w5.cell? ⟨gb229, 7, none⟩ = some (.slice A0_7 l0_7.length c0_7) := (blk_cell BK229.out 7).trans rfl
          have hcz44_8 : w5.cell? ⟨gb229, 8, none⟩ = some (.slice A0_8 l0_8.length c0_8) := (blk_cell BK229.out 8).trans rfl
          have hcz44_9 : w5.cell? ⟨gb229, 9, none⟩ = some (.slice A0_9 l0_9.length c0_9) := (blk_cell BK229.out 9).trans rfl
          have hcz44_10 : w5.cell? ⟨gb229, 10, none⟩ = some (.slice A0_10 l0_10.length c0_10) := (blk_cell BK229.out 10).trans rfl
          have hfz44_0 := blk_frozen BK229.out 0
          have hfz44_1 := blk_frozen BK229.out 1
          have hfz44_2 := blk_frozen BK229.out 2
          have hfz44_3 := blk_frozen BK229.out 3
          have hfz44_4 := blk_frozen BK229.out 4
          have hfz44_5 := blk_frozen BK229.out 5
          have hfz44_6 := blk_frozen BK229.out 6
          have hfz44_7 := blk_frozen BK229.out 7
          have hfz44_8 := blk_frozen BK229.out 8
          have hfz44_9 := blk_frozen BK229.out 9
          have hfz44_10 := blk_frozen BK229.out 10
          have hcz45_0 : w5.cell? ⟨gb230, 0, none⟩ = some (.int .i64 a1_0) := (blk_cell BK230.out 0).trans rfl
          have hcz45_1 : w5.cell? ⟨gb230, 1, none⟩ = some (.string a1_1) := (blk_cell BK230.out 1).trans rfl
          have hcz45_2 : w5.cell? ⟨gb230, 2, none⟩ = some (.string a1_2) := (blk_cell BK230.out 2).trans rfl
          have hcz45_3 : w5.cell? ⟨gb230, 3, none⟩ = some (.string a1_3) := (blk_cell BK230.out 3).trans rfl
          have hcz45_4 : w5.cell? ⟨gb230, 4, none⟩ = some (.int .i64 a1_4) := (blk_cell BK230.out 4).trans rfl
          have hcz45_5 : w5.cell? ⟨gb230, 5, none⟩ = some (.bool a1_5) := (blk_cell BK230.out 5).trans rfl
          have hcz45_6 : w5.cell? ⟨gb230, 6, none⟩ = some (.slice A1_6 l1_6.length c1_6) := (blk_cell BK230.out 6).trans rfl
          have hcz45_7 : w5.cell? ⟨gb230, 7, none⟩ = some (.slice A1_7 l1_7.length c1_7) := (blk_cell BK230.out 7).trans rfl
          have hcz45_8 : w5.cell? ⟨gb230, 8, none⟩ = some (.slice A1_8 l1_8.length c1_8) := (blk_cell BK230.out 8).trans rfl
          have hcz45_9 : w5.cell? ⟨gb230, 9, none⟩ = some (.slice A1_9 l1_9.length c1_9) := (blk_cell BK230.out 9).trans rfl
          have hcz45_10 : w5.cell? ⟨gb230, 10, none⟩ = some (.slice A1_10 l1_10.length c1_10) := (blk_cell BK230.out 10).trans rfl
          have hfz45_0 := blk_frozen BK230.out 0
          have hfz45_1 := blk_frozen BK230.out 1
          have hfz45_2 := blk_frozen BK230.out 2
          have hfz45_3 := blk_frozen BK230.out 3
          have hfz45_4 := blk_frozen BK230.out 4
          have hfz45_5 := blk_frozen BK230.out 5
          have hfz45_6 := blk_frozen BK230.out 6
          have hfz45_7 := blk_frozen BK230.out 7
          have hfz45_8 := blk_frozen BK230.out 8
          have hfz45_9 := blk_frozen BK230.out 9
          have hfz45_10 := blk_frozen BK230.out 10
          go_wp2
          repeat (go_quiet (fail); try go_wp2)
          go_meet
          case rel => exact ⟨_, (true), (by first | rfl | (simp; done) | (simp [*]; done)), H', ⟨by first | omega | exact Nat.le_refl _⟩, ⟨by (with_reducible repeat (first | refine blk_drewN ?_ _ | refine blk_drew ?_ | refine blk_alloc ?_ _)); exact BK229.out⟩, ⟨by (with_reducible repeat (first | refine blk_drewN ?_ _ | refine blk_drew ?_ | refine blk_alloc ?_ _)); exact BK230.out⟩, ⟨by repeat (first | (with_reducible first | exact HB.out | apply below_alloc | apply pw_below_drewN | apply below_drew1 | refine below_set ?_ GE229.out | refine below_set ?_ GE230.out) | exact HB.out)⟩⟩
      · rw [if_neg c7] at H
        have c7b0 : (a0_1.toList == a1_1.toList) = false := beq_eq_false_iff_ne.mpr c7
        have c7b1 : (a0_1.toList != a1_1.toList) = true := bne_iff_ne.mpr c7
        have H' := Aside0.mk H
        clear H
        have hnb46 := NB229_230.out
        have hnc46 := NB230_229.out
        have hcz47_0 : w5.cell? ⟨gb229, 0, none⟩ = some (.int .i64 a0_0) := (blk_cell BK229.out 0).trans rfl
        have hcz47_1 : w5.cell? ⟨gb229, 1, none⟩ = some (.string a0_1) := (blk_cell BK229.out 1).trans rfl
        have hcz47_2 : w5.cell? ⟨gb229, 2, none⟩ = some (.string a0_2) := (blk_cell BK229.out 2).trans rfl
        have hcz47_3 : w5.cell? ⟨gb229, 3, none⟩ = some (.string a0_3) := (blk_cell BK229.out 3).trans rfl
        have hcz47_4 : w5.cell? ⟨gb229, 4, none⟩ = some (.int .i64 a0_4) := (blk_cell BK229.out 4).trans rfl
        have hcz47_5 : w5.cell? ⟨gb229, 5, none⟩ = some (.bool a0_5) := (blk_cell BK229.out 5).trans rfl
        have hcz47_6 : w5.cell? ⟨gb229, 6, none⟩ = some (.slice A0_6 l0_6.length c0_6) := (blk_cell BK229.out 6).trans rfl
        have hcz47_7 : w5.cell? ⟨gb229, 7, none⟩ = some (.slice A0_7 l0_7.length c0_7) := (blk_cell BK229.out 7).trans rfl
        have hcz47_8 : w5.cell? ⟨gb229, 8, none⟩ = some (.slice A0_8 l0_8.length c0_8) := (blk_cell BK229.out 8).trans rfl
        have hcz47_9 : w5.cell? ⟨gb229, 9, none⟩ = some (.slice A0_9 l0_9.length c0_9) := (blk_cell BK229.out 9).trans rfl
        have hcz47_10 : w5.cell? ⟨gb229, 10, none⟩ = some (.slice A0_10 l0_10.length c0_10) := (blk_cell BK229.out 10).trans rfl
        have hfz47_0 := blk_frozen BK229.out 0
        have hfz47_1 := blk_frozen BK229.out 1
        have hfz47_2 := blk_frozen BK229.out 2
        have hfz47_3 := blk_frozen BK229.out 3
        have hfz47_4 := blk_frozen BK229.out 4
        have hfz47_5 := blk_frozen BK229.out 5
        have hfz47_6 := blk_frozen BK229.out 6
        have hfz47_7 := blk_frozen BK229.out 7
        have hfz47_8 := blk_frozen BK229.out 8
        have hfz47_9 := blk_frozen BK229.out 9
        have hfz47_10 := blk_frozen BK229.out 10
        have hcz48_0 : w5.cell? ⟨gb230, 0, none⟩ = some (.int .i64 a1_0) := (blk_cell BK230.out 0).trans rfl
        have hcz48_1 : w5.cell? ⟨gb230, 1, none⟩ = some (.string a1_1) := (blk_cell BK230.out 1).trans rfl
        have hcz48_2 : w5.cell? ⟨gb230, 2, none⟩ = some (.string a1_2) := (blk_cell BK230.out 2).trans rfl
        have hcz48_3 : w5.cell? ⟨gb230, 3, none⟩ = some (.string a1_3) := (blk_cell BK230.out 3).trans rfl
        have hcz48_4 : w5.cell? ⟨gb230, 4, none⟩ = some (.int .i64 a1_4) := (blk_cell BK230.out 4).trans rfl
        have hcz48_5 : w5.cell? ⟨gb230, 5, none⟩ = some (.bool a1_5) := (blk_cell BK230.out 5).trans rfl
        have hcz48_6 : w5.cell? ⟨gb230, 6, none⟩ = some (.slice A1_6 l1_6.length c1_6) := (blk_cell BK230.out 6).trans rfl
        have hcz48_7 : w5.cell? ⟨gb230, 7, none⟩ = some (.slice A1_7 l1_7.length c1_7) := (blk_cell BK230.out 7).trans rfl
        have hcz48_8 : w5.cell? ⟨gb230, 8, none⟩ = some (.slice A1_8 l1_8.length c1_8) := (blk_cell BK230.out 8).trans rfl
        have hcz48_9 : w5.cell? ⟨gb230, 9, none⟩ = some (.slice A1_9 l1_9.length c1_9) := (blk_cell BK230.out 9).trans rfl
        have hcz48_10 : w5.cell? ⟨gb230, 10, none⟩ = some (.slice A1_10 l1_10.length c1_10) := (blk_cell BK230.out 10).trans rfl
        have hfz48_0 := blk_frozen BK230.out 0
        have hfz48_1 := blk_frozen BK230.out 1
        have hfz48_2 := blk_frozen BK230.out 2
        have hfz48_3 := blk_frozen BK230.out 3
        have hfz48_4 := blk_frozen BK230.out 4
        have hfz48_5 := blk_frozen BK230.out 5
        have hfz48_6 := blk_frozen BK230.out 6
        have hfz48_7 := blk_frozen BK230.out 7
        have hfz48_8 := blk_frozen BK230.out 8
        have hfz48_9 := blk_frozen BK230.out 9
        have hfz48_10 := blk_frozen BK230.out 10
        go_wp2
        repeat (go_quiet (fail); try go_wp2)
        go_meet
        case rel => exact ⟨_, (true), (by first | rfl | (simp; done) | (simp [*]; done)), H', ⟨by first | omega | exact Nat.le_refl _⟩, ⟨by (with_reducible repeat (first | refine blk_drewN ?_ _ | refine blk_drew ?_ | refine blk_alloc ?_ _)); exact BK229.out⟩, ⟨by (with_reducible repeat (first | refine blk_drewN ?_ _ | refine blk_drew ?_ | refine blk_alloc ?_ _)); exact BK230.out⟩, ⟨by repeat (first | (with_reducible first | exact HB.out | apply below_alloc | apply pw_below_drewN | apply below_drew1 | refine below_set ?_ GE229.out | refine below_set ?_ GE230.out) | exact HB.out)⟩⟩
    · rw [if_neg c6] at H
      have c6b0 : (a0_0 == a1_0) = false := beq_eq_false_iff_ne.mpr c6
      have c6b1 : (a0_0 != a1_0) = true := bne_iff_ne.mpr c6
      (first | rw [c6b0] | (simp only [i64_w, i32_w]; rw [c6b0]) | skip)
      have H' := Aside0.mk H
      clear H
      have hnb49 := NB229_230.out
      have hnc49 := NB230_229.out
      have hcz50_0 : w5.cell? ⟨gb229, 0, none⟩ = some (.int .i64 a0_0) := (blk_cell BK229.out 0).trans rfl
      have hcz50_1 : w5.cell? ⟨gb229, 1, none⟩ = some (.string a0_1) := (blk_cell BK229.out 1).trans rfl
      have hcz50_2 : w5.cell? ⟨gb229, 2, none⟩ = some (.string a0_2) := (blk_cell BK229.out 2).trans rfl
      have hcz50_3 : w5.cell? ⟨gb229, 3, none⟩ = some (.string a0_3) := (blk_cell BK229.out 3).trans rfl
      have hcz50_4 : w5.cell? ⟨gb229, 4, none⟩ = some (.int .i64 a0_4) := (blk_cell BK229.out 4).trans rfl
      have hcz50_5 : w5.cell? ⟨gb229, 5, none⟩ = some (.bool a0_5) := (blk_cell BK229.out 5).trans rfl
      have hcz50_6 : w5.cell? ⟨gb229, 6, none⟩ = some (.slice A0_6 l0_6.length c0_6) := (blk_cell BK229.out 6).trans rfl
      have hcz50_7 : w5.cell? ⟨gb229, 7, none⟩ = some (.slice A0_7 l0_7.length c0_7) := (blk_cell BK229.out 7).trans rfl
      have hcz50_8 : w5.cell? ⟨gb229, 8, none⟩ = some (.slice A0_8 l0_8.length c0_8) := (blk_cell BK229.out 8).trans rfl
      have hcz50_9 : w5.cell? ⟨gb229, 9, none⟩ = some (.slice A0_9 l0_9.length c0_9) := (blk_cell BK229.out 9).trans rfl
      have hcz50_10 : w5.cell? ⟨gb229, 10, none⟩ = some (.slice A0_10 l0_10.length c0_10) := (blk_cell BK229.out 10).trans rfl
      have hfz50_0 := blk_frozen BK229.out 0
      have hfz50_1 := blk_frozen BK229.out 1
      have hfz50_2 := blk_frozen BK229.out 2
      have hfz50_3 := blk_frozen BK229.out 3
      have hfz50_4 := blk_frozen BK229.out 4
      have hfz50_5 := blk_frozen BK229.out 5
      have hfz50_6 := blk_frozen BK229.out 6
      have hfz50_7 := blk_frozen BK229.out 7
      have hfz50_8 := blk_frozen BK229.out 8
      have hfz50_9 := blk_frozen BK229.out 9
      have hfz50_10 := blk_frozen BK229.out 10
      have hcz51_0 : w5.cell? ⟨gb230, 0, none⟩ = some (.int .i64 a1_0) := (blk_cell BK230.out 0).trans rfl
      have hcz51_1 : w5.cell? ⟨gb230, 1, none⟩ = some (.string a1_1) := (blk_cell BK230.out 1).trans rfl
      have hcz51_2 : w5.cell? ⟨gb230, 2, none⟩ = some (.string a1_2) := (blk_cell BK230.out 2).trans rfl
      have hcz51_3 : w5.cell? ⟨gb230, 3, none⟩ = some (.string a1_3) := (blk_cell BK230.out 3).trans rfl
      have hcz51_4 : w5.cell? ⟨gb230, 4, none⟩ = some (.int .i64 a1_4) := (blk_cell BK230.out 4).trans rfl
      have hcz51_5 : w5.cell? ⟨gb230, 5, none⟩ = some (.bool a1_5) := (blk_cell BK230.out 5).trans rfl
      have hcz51_6 : w5.cell? ⟨gb230, 6, none⟩ = some (.slice A1_6 l1_6.length c1_6) := (blk_cell BK230.out 6).trans rfl
      have hcz51_7 : w5.cell? ⟨gb230, 7, none⟩ = some (.slice A1_7 l1_7.length c1_7) := (blk_cell BK230.out 7).trans rfl
      have hcz51_8 : w5.cell? ⟨gb230, 8, none⟩ = some (.slice A1_8 l1_8.length c1_8) := (blk_cell BK230.out 8).trans rfl
      have hcz51_9 : w5.cell? ⟨gb230, 9, none⟩ = some (.slice A1_9 l1_9.length c1_9) := (blk_cell BK230.out 9).trans rfl
      have hcz51_10 : w5.cell? ⟨gb230, 10, none⟩ = some (.slice A1_10 l1_10.length c1_10) := (blk_cell BK230.out 10).trans rfl
      have hfz51_0 := blk_frozen BK230.out 0
      have hfz51_1 := blk_frozen BK230.out 1
      have hfz51_2 := blk_frozen BK230.out 2
      have hfz51_3 := blk_frozen BK230.out 3
      have hfz51_4 := blk_frozen BK230.out 4
      have hfz51_5 := blk_frozen BK230.out 5
      have hfz51_6 := blk_frozen BK230.out 6
      have hfz51_7 := blk_frozen BK230.out 7
      have hfz51_8 := blk_frozen BK230.out 8
      have hfz51_9 := blk_frozen BK230.out 9
      have hfz51_10 := blk_frozen BK230.out 10
      go_wp2
      repeat (go_quiet (fail); try go_wp2)
      go_meet
      case rel => exact ⟨_, (true), (by first | rfl | (simp; done) | (simp [*]; done)), H', ⟨by first | omega | exact Nat.le_refl _⟩, ⟨by (with_reducible repeat (first | refine blk_drewN ?_ _ | refine blk_drew ?_ | refine blk_alloc ?_ _)); exact BK229.out⟩, ⟨by (with_reducible repeat (first | refine blk_drewN ?_ _ | refine blk_drew ?_ | refine blk_alloc ?_ _)); exact BK230.out⟩, ⟨by repeat (first | (with_reducible first | exact HB.out | apply below_alloc | apply pw_below_drewN | apply below_drew1 | refine below_set ?_ GE229.out | refine below_set ?_ GE230.out) | exact HB.out)⟩⟩
  case rest =>
    clear HC3
    try clear c1
    try clear c2
    try clear p2
    try clear c3
    try clear c4
    try clear c6
    try clear c6b0
    try clear c6b1
    try clear c7
    try clear c7b0
    try clear c7b1
    try clear c8
    try clear c8b0
    try clear c8b1
    try clear c9
    try clear c9b0
    try clear c9b1
    try clear c10
    try clear c10b0
    try clear c10b1
    try clear c11
    try clear c16
    try clear c18
    try clear c20
    try clear c21
    try clear c21b0
    try clear c21b1
    try clear c21b2
    try clear c22
    try clear c25
    try clear c28
    try clear c31
    try clear c34
    try clear c37
    try clear c40
    try clear c43
    try clear c46
    try clear c49
    try clear hcz23_0
    try clear hcz23_1
    try clear hcz23_10
    try clear hcz23_2
    try clear hcz23_3
    try clear hcz23_4
    try clear hcz23_5
    try clear hcz23_6
    try clear hcz23_7
    try clear hcz23_8
    try clear hcz23_9
    try clear hcz24_0
    try clear hcz24_1
    try clear hcz24_10
    try clear hcz24_2
    try clear hcz24_3
    try clear hcz24_4
    try clear hcz24_5
    try clear hcz24_6
    try clear hcz24_7
    try clear hcz24_8
    try clear hcz24_9
    try clear hcz26_0
    try clear hcz26_1
    try clear hcz26_10
    try clear hcz26_2
    try clear hcz26_3
    try clear hcz26_4
    try clear hcz26_5
    try clear hcz26_6
    try clear hcz26_7
    try clear hcz26_8
    try clear hcz26_9
    try clear hcz27_0
    try clear hcz27_1
    try clear hcz27_10
    try clear hcz27_2
    try clear hcz27_3
    try clear hcz27_4
    try clear hcz27_5
    try clear hcz27_6
    try clear hcz27_7
    try clear hcz27_8
    try clear hcz27_9
    try clear hcz29_0
    try clear hcz29_1
    try clear hcz29_10
    try clear hcz29_2
    try clear hcz29_3
    try clear hcz29_4
    try clear hcz29_5
    try clear hcz29_6
    try clear hcz29_7
    try clear hcz29_8
    try clear hcz29_9
    try clear hcz30_0
    try clear hcz30_1
    try clear hcz30_10
    try clear hcz30_2
    try clear hcz30_3
    try clear hcz30_4
    try clear hcz30_5
    try clear hcz30_6
    try clear hcz30_7
    try clear hcz30_8
    try clear hcz30_9
    try clear hcz32_0
    try clear hcz32_1
    try clear hcz32_10
    try clear hcz32_2
    try clear hcz32_3
    try clear hcz32_4
    try clear hcz32_5
    try clear hcz32_6
    try clear hcz32_7
    try clear hcz32_8
    try clear hcz32_9
    try clear hcz33_0
    try clear hcz33_1
    try clear hcz33_10
    try clear hcz33_2
    try clear hcz33_3
    try clear hcz33_4
    try clear hcz33_5
    try clear hcz33_6
    try clear hcz33_7
    try clear hcz33_8
    try clear hcz33_9
    try clear hcz35_0
    try clear hcz35_1
    try clear hcz35_10
    try clear hcz35_2
    try clear hcz35_3
    try clear hcz35_4
    try clear hcz35_5
    try clear hcz35_6
    try clear hcz35_7
    try clear hcz35_8
    try clear hcz35_9
    try clear hcz36_0
    try clear hcz36_1
    try clear hcz36_10
    try clear hcz36_2
    try clear hcz36_3
    try clear hcz36_4
    try clear hcz36_5
    try clear hcz36_6
    try clear hcz36_7
    try clear hcz36_8
    try clear hcz36_9
    try clear hcz38_0
    try clear hcz38_1
    try clear hcz38_10
    try clear hcz38_2
    try clear hcz38_3
    try clear hcz38_4
    try clear hcz38_5
    try clear hcz38_6
    try clear hcz38_7
    try clear hcz38_8
    try clear hcz38_9
    try clear hcz39_0
    try clear hcz39_1
    try clear hcz39_10
    try clear hcz39_2
    try clear hcz39_3
    try clear hcz39_4
    try clear hcz39_5
    try clear hcz39_6
    try clear hcz39_7
    try clear hcz39_8
    try clear hcz39_9
    try clear hcz41_0
    try clear hcz41_1
    try clear hcz41_10
    try clear hcz41_2
    try clear hcz41_3
    try clear hcz41_4
    try clear hcz41_5
    try clear hcz41_6
    try clear hcz41_7
    try clear hcz41_8
    try clear hcz41_9
    try clear hcz42_0
    try clear hcz42_1
    try clear hcz42_10
    try clear hcz42_2
    try clear hcz42_3
    try clear hcz42_4
    try clear hcz42_5
    try clear hcz42_6
    try clear hcz42_7
    try clear hcz42_8
    try clear hcz42_9
    try clear hcz44_0
    try clear hcz44_1
    try clear hcz44_10
    try clear hcz44_2
    try clear hcz44_3
    try clear hcz44_4
    try clear hcz44_5
    try clear hcz44_6
    try clear hcz44_7
    try clear hcz44_8
    try clear hcz44_9
    try clear hcz45_0
    try clear hcz45_1
    try clear hcz45_10
    try clear hcz45_2
    try clear hcz45_3
    try clear hcz45_4
    try clear hcz45_5
    try clear hcz45_6
    try clear hcz45_7
    try clear hcz45_8
    try clear hcz45_9
    try clear hcz47_0
    try clear hcz47_1
    try clear hcz47_10
    try clear hcz47_2
    try clear hcz47_3
    try clear hcz47_4
    try clear hcz47_5
    try clear hcz47_6
    try clear hcz47_7
    try clear hcz47_8
    try clear hcz47_9
    try clear hcz48_0
    try clear hcz48_1
    try clear hcz48_10
    try clear hcz48_2
    try clear hcz48_3
    try clear hcz48_4
    try clear hcz48_5
    try clear hcz48_6
    try clear hcz48_7
    try clear hcz48_8
    try clear hcz48_9
    try clear hcz50_0
    try clear hcz50_1
    try clear hcz50_10
    try clear hcz50_2
    try clear hcz50_3
    try clear hcz50_4
    try clear hcz50_5
    try clear hcz50_6
    try clear hcz50_7
    try clear hcz50_8
    try clear hcz50_9
    try clear hcz51_0
    try clear hcz51_1
    try clear hcz51_10
    try clear hcz51_2
    try clear hcz51_3
    try clear hcz51_4
    try clear hcz51_5
    try clear hcz51_6
    try clear hcz51_7
    try clear hcz51_8
    try clear hcz51_9
    try clear hfz23_0
    try clear hfz23_1
    try clear hfz23_10
    try clear hfz23_2
    try clear hfz23_3
    try clear hfz23_4
    try clear hfz23_5
    try clear hfz23_6
    try clear hfz23_7
    try clear hfz23_8
    try clear hfz23_9
    try clear hfz24_0
    try clear hfz24_1
    try clear hfz24_10
    try clear hfz24_2
    try clear hfz24_3
    try clear hfz24_4
    try clear hfz24_5
    try clear hfz24_6
    try clear hfz24_7
    try clear hfz24_8
    try clear hfz24_9
    try clear hfz26_0
    try clear hfz26_1
    try clear hfz26_10
    try clear hfz26_2
    try clear hfz26_3
    try clear hfz26_4
    try clear hfz26_5
    try clear hfz26_6
    try clear hfz26_7
    try clear hfz26_8
    try clear hfz26_9
    try clear hfz27_0
    try clear hfz27_1
    try clear hfz27_10
    try clear hfz27_2
    try clear hfz27_3
    try clear hfz27_4
    try clear hfz27_5
    try clear hfz27_6
    try clear hfz27_7
    try clear hfz27_8
    try clear hfz27_9
    try clear hfz29_0
    try clear hfz29_1
    try clear hfz29_10
    try clear hfz29_2
    try clear hfz29_3
    try clear hfz29_4
    try clear hfz29_5
    try clear hfz29_6
    try clear hfz29_7
    try clear hfz29_8
    try clear hfz29_9
    try clear hfz30_0
    try clear hfz30_1
    try clear hfz30_10
    try clear hfz30_2
    try clear hfz30_3
    try clear hfz30_4
    try clear hfz30_5
    try clear hfz30_6
    try clear hfz30_7
    try clear hfz30_8
    try clear hfz30_9
    try clear hfz32_0
    try clear hfz32_1
    try clear hfz32_10
    try clear hfz32_2
    try clear hfz32_3
    try clear hfz32_4
    try clear hfz32_5
    try clear hfz32_6
    try clear hfz32_7
    try clear hfz32_8
    try clear hfz32_9
    try clear hfz33_0
    try clear hfz33_1
    try clear hfz33_10
    try clear hfz33_2
    try clear hfz33_3
    try clear hfz33_4
    try clear hfz33_5
    try clear hfz33_6
    try clear hfz33_7
    try clear hfz33_8
    try clear hfz33_9
    try clear hfz35_0
    try clear hfz35_1
    try clear hfz35_10
    try clear hfz35_2
    try clear hfz35_3
    try clear hfz35_4
    try clear hfz35_5
    try clear hfz35_6
    try clear hfz35_7
    try clear hfz35_8
    try clear hfz35_9
    try clear hfz36_0
    try clear hfz36_1
    try clear hfz36_10
    try clear hfz36_2
    try clear hfz36_3
    try clear hfz36_4
    try clear hfz36_5
    try clear hfz36_6
    try clear hfz36_7
    try clear hfz36_8
    try clear hfz36_9
    try clear hfz38_0
    try clear hfz38_1
    try clear hfz38_10
    try clear hfz38_2
    try clear hfz38_3
    try clear hfz38_4
    try clear hfz38_5
    try clear hfz38_6
    try clear hfz38_7
    try clear hfz38_8
    try clear hfz38_9
    try clear hfz39_0
    try clear hfz39_1
    try clear hfz39_10
    try clear hfz39_2
    try clear hfz39_3
    try clear hfz39_4
    try clear hfz39_5
    try clear hfz39_6
    try clear hfz39_7
    try clear hfz39_8
    try clear hfz39_9
    try clear hfz41_0
    try clear hfz41_1
    try clear hfz41_10
    try clear hfz41_2
    try clear hfz41_3
    try clear hfz41_4
    try clear hfz41_5
    try clear hfz41_6
    try clear hfz41_7
    try clear hfz41_8
    try clear hfz41_9
    try clear hfz42_0
    try clear hfz42_1
    try clear hfz42_10
    try clear hfz42_2
    try clear hfz42_3
    try clear hfz42_4
    try clear hfz42_5
    try clear hfz42_6
    try clear hfz42_7
    try clear hfz42_8
    try clear hfz42_9
    try clear hfz44_0
    try clear hfz44_1
    try clear hfz44_10
    try clear hfz44_2
    try clear hfz44_3
    try clear hfz44_4
    try clear hfz44_5
    try clear hfz44_6
    try clear hfz44_7
    try clear hfz44_8
    try clear hfz44_9
    try clear hfz45_0
    try clear hfz45_1
    try clear hfz45_10
    try clear hfz45_2
    try clear hfz45_3
    try clear hfz45_4
    try clear hfz45_5
    try clear hfz45_6
    try clear hfz45_7
    try clear hfz45_8
    try clear hfz45_9
    try clear hfz47_0
    try clear hfz47_1
    try clear hfz47_10
    try clear hfz47_2
    try clear hfz47_3
    try clear hfz47_4
    try clear hfz47_5
    try clear hfz47_6
    try clear hfz47_7
    try clear hfz47_8
    try clear hfz47_9
    try clear hfz48_0
    try clear hfz48_1
    try clear hfz48_10
    try clear hfz48_2
    try clear hfz48_3
    try clear hfz48_4
    try clear hfz48_5
    try clear hfz48_6
    try clear hfz48_7
    try clear hfz48_8
    try clear hfz48_9
    try clear hfz50_0
    try clear hfz50_1
    try clear hfz50_10
    try clear hfz50_2
    try clear hfz50_3
    try clear hfz50_4
    try clear hfz50_5
    try clear hfz50_6
    try clear hfz50_7
    try clear hfz50_8
    try clear hfz50_9
    try clear hfz51_0
    try clear hfz51_1
    try clear hfz51_10
    try clear hfz51_2
    try clear hfz51_3
    try clear hfz51_4
    try clear hfz51_5
    try clear hfz51_6
    try clear hfz51_7
    try clear hfz51_8
    try clear hfz51_9
    obtain ⟨kq, x88_2, rfl, HA, HJ2, BK229, BK230, HB⟩ := hcut
    cases kq with
    | zero => exact absurd HA.out (by simp [interlockref00_SameStmt.j0])
    | succ kj2 =>
      have H := HA.out
      clear HA
      simp only [interlockref00_SameStmt.j0] at H
      by_cases c52 : x88_2 = true
      · subst c52
        have H1 : (some false) = some r := by rw [if_pos rfl] at H; exact H
        clear H
        have H := H1
        clear H1
        obtain rfl := Option.some.inj H
        go_wp2
        repeat (go_quiet (fail); try go_wp2)
        go_ret
        exact ⟨by first | rfl | (simp [errW_none, errW_some] <;> rfl) | (simp [*, errW_none, errW_some] <;> rfl), by repeat (first | (with_reducible first | exact HB.out | apply below_alloc | apply pw_below_drewN | apply below_drew1 | refine below_set ?_ GE229.out | refine below_set ?_ GE230.out) | exact HB.out)⟩
      · replace c52 := Bool.eq_false_iff.mpr c52
        subst c52
        have H1 : (interlockref00_SameStmt.l0 kj2 0 a0_0 a0_1 a0_2 a0_3 a0_4 a0_5 l0_6 l0_7 l0_8 l0_9 l0_10 a1_0 a1_1 a1_2 a1_3 a1_4 a1_5 l1_6 l1_7 l1_8 l1_9 l1_10) = some r := by rw [if_neg (show ¬ (false = true) by decide)] at H; exact H
        clear H
        have H := H1
        clear H1
        have H' := Aside0.mk H
        clear H
        go_wp2
        repeat (go_quiet (fail); try go_wp2)
        go_loopg [5] kj2 (fun kq v5 w' => ∃ (x5_2 : Int), v5 = .int .i64 x5_2 ∧ Aside0 (interlockref00_SameStmt.l0 kq x5_2 a0_0 a0_1 a0_2 a0_3 a0_4 a0_5 l0_6 l0_7 l0_8 l0_9 l0_10 a1_0 a1_1 a1_2 a1_3 a1_4 a1_5 l1_6 l1_7 l1_8 l1_9 l1_10 = some r) ∧ Aside0 (kq ≤ kj2) ∧ Aside0 (w'.heap[gb229]? = some (.cells #[.int .i64 a0_0, .string a0_1, .string a0_2, .string a0_3, .int .i64 a0_4, .bool a0_5, (.slice A0_6 l0_6.length c0_6), (.slice A0_7 l0_7.length c0_7), (.slice A0_8 l0_8.length c0_8), (.slice A0_9 l0_9.length c0_9), (.slice A0_10 l0_10.length c0_10)] 28 (0, 0))) ∧ Aside0 (w'.heap[gb230]? = some (.cells #[.int .i64 a1_0, .string a1_1, .string a1_2, .string a1_3, .int .i64 a1_4, .bool a1_5, (.slice A1_6 l1_6.length c1_6), (.slice A1_7 l1_7.length c1_7), (.slice A1_8 l1_8.length c1_8), (.slice A1_9 l1_9.length c1_9), (.slice A1_10 l1_10.length c1_10)] 28 (0, 0))) ∧ Aside0 (Below w.heap.size w w'))
        case atStart => exact ⟨(0), (by first | rfl | (simp; done) | (simp [*]; done)), H', ⟨Nat.le_refl _⟩, ⟨by (with_reducible repeat (first | refine blk_drewN ?_ _ | refine blk_drew ?_ | refine blk_alloc ?_ _)); exact BK229.out⟩, ⟨by (with_reducible repeat (first | refine blk_drewN ?_ _ | refine blk_drew ?_ | refine blk_alloc ?_ _)); exact BK230.out⟩, ⟨by repeat (first | (with_reducible first | exact HB.out | apply below_alloc | apply pw_below_drewN | apply below_drew1 | refine below_set ?_ GE229.out | refine below_set ?_ GE230.out) | exact HB.out)⟩⟩
        case round =>
          clear H'
          try clear c1
          try clear c2
          try clear p2
          try clear c3
          try clear c4
          try clear c5
          try clear c6
          try clear c6b0
          try clear c6b1
          try clear c7
          try clear c7b0
          try clear c7b1
          try clear c8
          try clear c8b0
          try clear c8b1
          try clear c9
          try clear c9b0
          try clear c9b1
          try clear c10
          try clear c10b0
          try clear c10b1
          try clear c11
          try clear c16
          try clear c18
          try clear c20
          try clear c21
          try clear c21b0
          try clear c21b1
          try clear c21b2
          try clear c22
          try clear c25
          try clear c28
          try clear c31
          try clear c34
          try clear c37
          try clear c40
          try clear c43
          try clear c46
          try clear c49
          try clear c52
          try clear hcz23_0
          try clear hcz23_1
          try clear hcz23_10
          try clear hcz23_2
          try clear hcz23_3
          try clear hcz23_4
          try clear hcz23_5
          try clear hcz23_6
          try clear hcz23_7
          try clear hcz23_8
          try clear hcz23_9
          try clear hcz24_0
          try clear hcz24_1
          try clear hcz24_10
          try clear hcz24_2
          try clear hcz24_3
          try clear hcz24_4
          try clear hcz24_5
          try clear hcz24_6
          try clear hcz24_7
          try clear hcz24_8
          try clear hcz24_9
          try clear hcz26_0
          try clear hcz26_1
          try clear hcz26_10
          try clear hcz26_2
          try clear hcz26_3
          try clear hcz26_4
          try clear hcz26_5
          try clear hcz26_6
          try clear hcz26_7
          try clear hcz26_8
          try clear hcz26_9
          try clear hcz27_0
          try clear hcz27_1
          try clear hcz27_10
          try clear hcz27_2
          try clear hcz27_3
          try clear hcz27_4
          try clear hcz27_5
          try clear hcz27_6
          try clear hcz27_7
          try clear hcz27_8
          try clear hcz27_9
          try clear hcz29_0
          try clear hcz29_1
          try clear hcz29_10
          try clear hcz29_2
          try clear hcz29_3
          try clear hcz29_4
          try clear hcz29_5
          try clear hcz29_6
          try clear hcz29_7
          try clear hcz29_8
          try clear hcz29_9
          try clear hcz30_0
          try clear hcz30_1
          try clear hcz30_10
          try clear hcz30_2
          try clear hcz30_3
          try clear hcz30_4
          try clear hcz30_5
          try clear hcz30_6
          try clear hcz30_7
          try clear hcz30_8
          try clear hcz30_9
          try clear hcz32_0
          try clear hcz32_1
          try clear hcz32_10
          try clear hcz32_2
          try clear hcz32_3
          try clear hcz32_4
          try clear hcz32_5
          try clear hcz32_6
          try clear hcz32_7
          try clear hcz32_8
          try clear hcz32_9
          try clear hcz33_0
          try clear hcz33_1
          try clear hcz33_10
          try clear hcz33_2
          try clear hcz33_3
          try clear hcz33_4
          try clear hcz33_5
          try clear hcz33_6
          try clear hcz33_7
          try clear hcz33_8
          try clear hcz33_9
          try clear hcz35_0
          try clear hcz35_1
          try clear hcz35_10
          try clear hcz35_2
          try clear hcz35_3
          try clear hcz35_4
          try clear hcz35_5
          try clear hcz35_6
          try clear hcz35_7
          try clear hcz35_8
          try clear hcz35_9
          try clear hcz36_0
          try clear hcz36_1
          try clear hcz36_10
          try clear hcz36_2
          try clear hcz36_3
          try clear hcz36_4
          try clear hcz36_5
          try clear hcz36_6
          try clear hcz36_7
          try clear hcz36_8
          try clear hcz36_9
          try clear hcz38_0
          try clear hcz38_1
          try clear hcz38_10
          try clear hcz38_2
          try clear hcz38_3
          try clear hcz38_4
          try clear hcz38_5
          try clear hcz38_6
          try clear hcz38_7
          try clear hcz38_8
          try clear hcz38_9
          try clear hcz39_0
          try clear hcz39_1
          try clear hcz39_10
          try clear hcz39_2
          try clear hcz39_3
          try clear hcz39_4
          try clear hcz39_5
          try clear hcz39_6
          try clear hcz39_7
          try clear hcz39_8
          try clear hcz39_9
          try clear hcz41_0
          try clear hcz41_1
          try clear hcz41_10
          try clear hcz41_2
          try clear hcz41_3
          try clear hcz41_4
          try clear hcz41_5
          try clear hcz41_6
          try clear hcz41_7
          try clear hcz41_8
          try clear hcz41_9
          try clear hcz42_0
          try clear hcz42_1
          try clear hcz42_10
          try clear hcz42_2
          try clear hcz42_3
          try clear hcz42_4
          try clear hcz42_5
          try clear hcz42_6
          try clear hcz42_7
          try clear hcz42_8
          try clear hcz42_9
          try clear hcz44_0
          try clear hcz44_1
          try clear hcz44_10
          try clear hcz44_2
          try clear hcz44_3
          try clear hcz44_4
          try clear hcz44_5
          try clear hcz44_6
          try clear hcz44_7
          try clear hcz44_8
          try clear hcz44_9
          try clear hcz45_0
          try clear hcz45_1
          try clear hcz45_10
          try clear hcz45_2
          try clear hcz45_3
          try clear hcz45_4
          try clear hcz45_5
          try clear hcz45_6
          try clear hcz45_7
          try clear hcz45_8
          try clear hcz45_9
          try clear hcz47_0
          try clear hcz47_1
          try clear hcz47_10
          try clear hcz47_2
          try clear hcz47_3
          try clear hcz47_4
          try clear hcz47_5
          try clear hcz47_6
          try clear hcz47_7
          try clear hcz47_8
          try clear hcz47_9
          try clear hcz48_0
          try clear hcz48_1
          try clear hcz48_10
          try clear hcz48_2
          try clear hcz48_3
          try clear hcz48_4
          try clear hcz48_5
          try clear hcz48_6
          try clear hcz48_7
          try clear hcz48_8
          try clear hcz48_9
          try clear hcz50_0
          try clear hcz50_1
          try clear hcz50_10
          try clear hcz50_2
          try clear hcz50_3
          try clear hcz50_4
          try clear hcz50_5
          try clear hcz50_6
          try clear hcz50_7
          try clear hcz50_8
          try clear hcz50_9
          try clear hcz51_0
          try clear hcz51_1
          try clear hcz51_10
          try clear hcz51_2
          try clear hcz51_3
          try clear hcz51_4
          try clear hcz51_5
          try clear hcz51_6
          try clear hcz51_7
          try clear hcz51_8
          try clear hcz51_9
          try clear hfz23_0
          try clear hfz23_1
          try clear hfz23_10
          try clear hfz23_2
          try clear hfz23_3
          try clear hfz23_4
          try clear hfz23_5
          try clear hfz23_6
          try clear hfz23_7
          try clear hfz23_8
          try clear hfz23_9
          try clear hfz24_0
          try clear hfz24_1
          try clear hfz24_10
          try clear hfz24_2
          try clear hfz24_3
          try clear hfz24_4
          try clear hfz24_5
          try clear hfz24_6
          try clear hfz24_7
          try clear hfz24_8
          try clear hfz24_9
          try clear hfz26_0
          try clear hfz26_1
          try clear hfz26_10
          try clear hfz26_2
          try clear hfz26_3
          try clear hfz26_4
          try clear hfz26_5
          try clear hfz26_6
          try clear hfz26_7
          try clear hfz26_8
          try clear hfz26_9
          try clear hfz27_0
          try clear hfz27_1
          try clear hfz27_10
          try clear hfz27_2
          try clear hfz27_3
          try clear hfz27_4
          try clear hfz27_5
          try clear hfz27_6
          try clear hfz27_7
          try clear hfz27_8
          try clear hfz27_9
          try clear hfz29_0
          try clear hfz29_1
          try clear hfz29_10
          try clear hfz29_2
          try clear hfz29_3
          try clear hfz29_4
          try clear hfz29_5
          try clear hfz29_6
          try clear hfz29_7
          try clear hfz29_8
          try clear hfz29_9
          try clear hfz30_0
          try clear hfz30_1
          try clear hfz30_10
          try clear hfz30_2
          try clear hfz30_3
          try clear hfz30_4
          try clear hfz30_5
          try clear hfz30_6
          try clear hfz30_7
          try clear hfz30_8
          try clear hfz30_9
          try clear hfz32_0
          try clear hfz32_1
          try clear hfz32_10
          try clear hfz32_2
          try clear hfz32_3
          try clear hfz32_4
          try clear hfz32_5
          try clear hfz32_6
          try clear hfz32_7
          try clear hfz32_8
          try clear hfz32_9
          try clear hfz33_0
          try clear hfz33_1
          try clear hfz33_10
          try clear hfz33_2
          try clear hfz33_3
          try clear hfz33_4
          try clear hfz33_5
          try clear hfz33_6
          try clear hfz33_7
          try clear hfz33_8
          try clear hfz33_9
          try clear hfz35_0
          try clear hfz35_1
          try clear hfz35_10
          try clear hfz35_2
          try clear hfz35_3
          try clear hfz35_4
          try clear hfz35_5
          try clear hfz35_6
          try clear hfz35_7
          try clear hfz35_8
          try clear hfz35_9
          try clear hfz36_0
          try clear hfz36_1
          try clear hfz36_10
          try clear hfz36_2
          try clear hfz36_3
          try clear hfz36_4
          try clear hfz36_5
          try clear hfz36_6
          try clear hfz36_7
          try clear hfz36_8
          try clear hfz36_9
          try clear hfz38_0
          try clear hfz38_1
          try clear hfz38_10
          try clear hfz38_2
          try clear hfz38_3
          try clear hfz38_4
          try clear hfz38_5
          try clear hfz38_6
          try clear hfz38_7
          try clear hfz38_8
          try clear hfz38_9
          try clear hfz39_0
          try clear hfz39_1
          try clear hfz39_10
          try clear hfz39_2
          try clear hfz39_3
          try clear hfz39_4
          try clear hfz39_5
          try clear hfz39_6
          try clear hfz39_7
          try clear hfz39_8
          try clear hfz39_9
          try clear hfz41_0
          try clear hfz41_1
          try clear hfz41_10
          try clear hfz41_2
          try clear hfz41_3
          try clear hfz41_4
          try clear hfz41_5
          try clear hfz41_6
          try clear hfz41_7
          try clear hfz41_8
          try clear hfz41_9
          try clear hfz42_0
          try clear hfz42_1
          try clear hfz42_10
          try clear hfz42_2
          try clear hfz42_3
          try clear hfz42_4
          try clear hfz42_5
          try clear hfz42_6
          try clear hfz42_7
          try clear hfz42_8
          try clear hfz42_9
          try clear hfz44_0
          try clear hfz44_1
          try clear hfz44_10
          try clear hfz44_2
          try clear hfz44_3
          try clear hfz44_4
          try clear hfz44_5
          try clear hfz44_6
          try clear hfz44_7
          try clear hfz44_8
          try clear hfz44_9
          try clear hfz45_0
          try clear hfz45_1
          try clear hfz45_10
          try clear hfz45_2
          try clear hfz45_3
          try clear hfz45_4
          try clear hfz45_5
          try clear hfz45_6
          try clear hfz45_7
          try clear hfz45_8
          try clear hfz45_9
          try clear hfz47_0
          try clear hfz47_1
          try clear hfz47_10
          try clear hfz47_2
          try clear hfz47_3
          try clear hfz47_4
          try clear hfz47_5
          try clear hfz47_6
          try clear hfz47_7
          try clear hfz47_8
          try clear hfz47_9
          try clear hfz48_0
          try clear hfz48_1
          try clear hfz48_10
          try clear hfz48_2
          try clear hfz48_3
          try clear hfz48_4
          try clear hfz48_5
          try clear hfz48_6
          try clear hfz48_7
          try clear hfz48_8
          try clear hfz48_9
          try clear hfz50_0
          try clear hfz50_1
          try clear hfz50_10
          try clear hfz50_2
          try clear hfz50_3
          try clear hfz50_4
          try clear hfz50_5
          try clear hfz50_6
          try clear hfz50_7
          try clear hfz50_8
          try clear hfz50_9
          try clear hfz51_0
          try clear hfz51_1
          try clear hfz51_10
          try clear hfz51_2
          try clear hfz51_3
          try clear hfz51_4
          try clear hfz51_5
          try clear hfz51_6
          try clear hfz51_7
          try clear hfz51_8
          try clear hfz51_9
          try clear p2
          obtain ⟨x5_2, rfl, HA, HK2, BK229, BK230, HB⟩ := hrel
          cases gk with
          | zero => exact absurd HA.out (by simp [interlockref00_SameStmt.l0])
          | succ k2 =>
            have H := HA.out
            clear HA
            simp only [interlockref00_SameStmt.l0] at H
            by_cases c53 : x5_2 < (l0_7.length : Int)
            · rw [if_pos c53] at H
              have c53b0 : decide (x5_2 < (l0_7.length : Int)) = true := decide_eq_true c53
              clear c53
              by_cases c54 : 0 ≤ x5_2
              · rw [if_pos c54] at H
                have c54b0 : decide (0 ≤ x5_2) = true := decide_eq_true c54
                clear c54
                by_cases c55 : x5_2 < (l1_7.length : Int)
                · rw [if_pos c55] at H
                  have c55b0 : decide (x5_2 < (l1_7.length : Int)) = true := decide_eq_true c55
                  clear c55
                  by_cases c56 : (!((((rd_T62 l0_7 x5_2).f0).toList) == (((rd_T62 l1_7 x5_2).f0).toList)) || ((!(((rd_T62 l0_7 x5_2).f1.f0) == ((rd_T62 l1_7 x5_2).f1.f0)) || (!(((rd_T62 l0_7 x5_2).f1.f1) == ((rd_T62 l1_7 x5_2).f1.f1)) || (!((((rd_T62 l0_7 x5_2).f1.f2).toList) == (((rd_T62 l1_7 x5_2).f1.f2).toList))))))) = true
                  · rw [if_pos c56] at H
                    have c56b0 : (!((((rd_T62 l0_7 x5_2).f0).toList) == (((rd_T62 l1_7 x5_2).f0).toList)) || ((!(((rd_T62 l0_7 x5_2).f1.f0) == ((rd_T62 l1_7 x5_2).f1.f0)) || (!(((rd_T62 l0_7 x5_2).f1.f1) == ((rd_T62 l1_7 x5_2).f1.f1)) || (!((((rd_T62 l0_7 x5_2).f1.f2).toList) == (((rd_T62 l1_7 x5_2).f1.f2).toList))))))) = true := c56
                    clear c56
                    obtain rfl := Option.some.inj H
                    have hnb57 := NB229_230.out
                    have hnc57 := NB230_229.out
                    have hcz58_0 : wr.cell? ⟨gb229, 0, none⟩ = some (.int .i64 a0_0) := (blk_cell BK229.out 0).trans rfl
                    have hcz58_1 : wr.cell? ⟨gb229, 1, none⟩ = some (.string a0_1) := (blk_cell BK229.out 1).trans rfl
                    have hcz58_2 : wr.cell? ⟨gb229, 2, none⟩ = some (.string a0_2) := (blk_cell BK229.out 2).trans rfl
                    have hcz58_3 : wr.cell? ⟨gb229, 3, none⟩ = some (.string a0_3) := (blk_cell BK229.out 3).trans rfl
                    have hcz58_4 : wr.cell? ⟨gb229, 4, none⟩ = some (.int .i64 a0_4) := (blk_cell BK229.out 4).trans rfl
                    have hcz58_5 : wr.cell? ⟨gb229, 5, none⟩ = some (.bool a0_5) := (blk_cell BK229.out 5).trans rfl
                    have hcz58_6 : wr.cell? ⟨gb229, 6, none⟩ = some (.slice A0_6 l0_6.length c0_6) := (blk_cell BK229.out 6).trans rfl
                    have hcz58_7 : wr.cell? ⟨gb229, 7, none⟩ = some (.slice A0_7 l0_7.length c0_7) := (blk_cell BK229.out 7).trans rfl
                    have hcz58_8 : wr.cell? ⟨gb229, 8, none⟩ = some (.slice A0_8 l0_8.length c0_8) := (blk_cell BK229.out 8).trans rfl
                    have hcz58_9 : wr.cell? ⟨gb229, 9, none⟩ = some (.slice A0_9 l0_9.length c0_9) := (blk_cell BK229.out 9).trans rfl
                    have hcz58_10 : wr.cell? ⟨gb229, 10, none⟩ = some (.slice A0_10 l0_10.length c0_10) := (blk_cell BK229.out 10).trans rfl
                    have hfz58_0 := blk_frozen BK229.out 0
                    have hfz58_1 := blk_frozen BK229.out 1
                    have hfz58_2 := blk_frozen BK229.out 2
                    have hfz58_3 := blk_frozen BK229.out 3
                    have hfz58_4 := blk_frozen BK229.out 4
                    have hfz58_5 := blk_frozen BK229.out 5
                    have hfz58_6 := blk_frozen BK229.out 6
                    have hfz58_7 := blk_frozen BK229.out 7
                    have hfz58_8 := blk_frozen BK229.out 8
                    have hfz58_9 := blk_frozen BK229.out 9
                    have hfz58_10 := blk_frozen BK229.out 10
                    have p234 : 0 ≤ (x5_2 : Int) := of_decide_eq_true (by first | (with_reducible assumption) | assumption)
                    have q234 : x5_2 < (l0_7.length : Int) := of_decide_eq_true (by first | (with_reducible assumption) | assumption)
                    obtain ⟨ad234, e234, hx234_0, hx234_1, hx234_2, hx234_3⟩ := at_T62 HR0_7.out x5_2 p234 q234
                    cases e234
                    replace hx234_0 := (HB.out.cell (World.block_lt_of_cell? w _ hx234_0)).trans hx234_0
                    replace hx234_1 := (HB.out.cell (World.block_lt_of_cell? w _ hx234_1)).trans hx234_1
                    replace hx234_2 := (HB.out.cell (World.block_lt_of_cell? w _ hx234_2)).trans hx234_2
                    replace hx234_3 := (HB.out.cell (World.block_lt_of_cell? w _ hx234_3)).trans hx234_3
                    replace p234 := eq_true p234
                    replace q234 := eq_true q234
                    have hcz59_0 : wr.cell? ⟨gb230, 0, none⟩ = some (.int .i64 a1_0) := (blk_cell BK230.out 0).trans rfl
                    have hcz59_1 : wr.cell? ⟨gb230, 1, none⟩ = some (.string a1_1) := (blk_cell BK230.out 1).trans rfl
                    have hcz59_2 : wr.cell? ⟨gb230, 2, none⟩ = some (.string a1_2) := (blk_cell BK230.out 2).trans rfl
                    have hcz59_3 : wr.cell? ⟨gb230, 3, none⟩ = some (.string a1_3) := (blk_cell BK230.out 3).trans rfl
                    have hcz59_4 : wr.cell? ⟨gb230, 4, none⟩ = some (.int .i64 a1_4) := (blk_cell BK230.out 4).trans rfl
                    have hcz59_5 : wr.cell? ⟨gb230, 5, none⟩ = some (.bool a1_5) := (blk_cell BK230.out 5).trans rfl
                    have hcz59_6 : wr.cell? ⟨gb230, 6, none⟩ = some (.slice A1_6 l1_6.length c1_6) := (blk_cell BK230.out 6).trans rfl
                    have hcz59_7 : wr.cell? ⟨gb230, 7, none⟩ = some (.slice A1_7 l1_7.length c1_7) := (blk_cell BK230.out 7).trans rfl
                    have hcz59_8 : wr.cell? ⟨gb230, 8, none⟩ = some (.slice A1_8 l1_8.length c1_8) := (blk_cell BK230.out 8).trans rfl
                    have hcz59_9 : wr.cell? ⟨gb230, 9, none⟩ = some (.slice A1_9 l1_9.length c1_9) := (blk_cell BK230.out 9).trans rfl
                    have hcz59_10 : wr.cell? ⟨gb230, 10, none⟩ = some (.slice A1_10 l1_10.length c1_10) := (blk_cell BK230.out 10).trans rfl
                    have hfz59_0 := blk_frozen BK230.out 0
                    have hfz59_1 := blk_frozen BK230.out 1
                    have hfz59_2 := blk_frozen BK230.out 2
                    have hfz59_3 := blk_frozen BK230.out 3
                    have hfz59_4 := blk_frozen BK230.out 4
                    have hfz59_5 := blk_frozen BK230.out 5
                    have hfz59_6 := blk_frozen BK230.out 6
                    have hfz59_7 := blk_frozen BK230.out 7
                    have hfz59_8 := blk_frozen BK230.out 8
                    have hfz59_9 := blk_frozen BK230.out 9
                    have hfz59_10 := blk_frozen BK230.out 10
                    have p235 : 0 ≤ (x5_2 : Int) := of_decide_eq_true (by first | (with_reducible assumption) | assumption)
                    have q235 : x5_2 < (l1_7.length : Int) := of_decide_eq_true (by first | (with_reducible assumption) | assumption)
                    obtain ⟨ad235, e235, hx235_0, hx235_1, hx235_2, hx235_3⟩ := at_T62 HR1_7.out x5_2 p235 q235
                    cases e235
                    replace hx235_0 := (HB.out.cell (World.block_lt_of_cell? w _ hx235_0)).trans hx235_0
                    replace hx235_1 := (HB.out.cell (World.block_lt_of_cell? w _ hx235_1)).trans hx235_1
                    replace hx235_2 := (HB.out.cell (World.block_lt_of_cell? w _ hx235_2)).trans hx235_2
                    replace hx235_3 := (HB.out.cell (World.block_lt_of_cell? w _ hx235_3)).trans hx235_3
                    replace p235 := eq_true p235
                    replace q235 := eq_true q235
                    go_wp2
                    repeat (go_quiet (fail); try go_wp2)
                    go_ret
                    exact ⟨by first | rfl | (simp [errW_none, errW_some] <;> rfl) | (simp [*, errW_none, errW_some] <;> rfl), by repeat (first | (with_reducible first | exact HB.out | apply below_alloc | apply pw_below_drewN | apply below_drew1 | refine below_set ?_ GE229.out | refine below_set ?_ GE230.out) | exact HB.out)⟩
                  · rw [if_neg c56] at H
                    have c56b0 : (!((((rd_T62 l0_7 x5_2).f0).toList) == (((rd_T62 l1_7 x5_2).f0).toList)) || ((!(((rd_T62 l0_7 x5_2).f1.f0) == ((rd_T62 l1_7 x5_2).f1.f0)) || (!(((rd_T62 l0_7 x5_2).f1.f1) == ((rd_T62 l1_7 x5_2).f1.f1)) || (!((((rd_T62 l0_7 x5_2).f1.f2).toList) == (((rd_T62 l1_7 x5_2).f1.f2).toList))))))) = false := by simpa using c56
                    clear c56
                    have H' := Aside0.mk H
                    clear H
                    have hnb60 := NB229_230.out
                    have hnc60 := NB230_229.out
                    have hcz61_0 : wr.cell? ⟨gb229, 0, none⟩ = some (.int .i64 a0_0) := (blk_cell BK229.out 0).trans rfl
                    have hcz61_1 : wr.cell? ⟨gb229, 1, none⟩ = some (.string a0_1) := (blk_cell BK229.out 1).trans rfl
                    have hcz61_2 : wr.cell? ⟨gb229, 2, none⟩ = some (.string a0_2) := (blk_cell BK229.out 2).trans rfl
                    have hcz61_3 : wr.cell? ⟨gb229, 3, none⟩ = some (.string a0_3) := (blk_cell BK229.out 3).trans rfl
                    have hcz61_4 : wr.cell? ⟨gb229, 4, none⟩ = some (.int .i64 a0_4) := (blk_cell BK229.out 4).trans rfl
                    have hcz61_5 : wr.cell? ⟨gb229, 5, none⟩ = some (.bool a0_5) := (blk_cell BK229.out 5).trans rfl
                    have hcz61_6 : wr.cell? ⟨gb229, 6, none⟩ = some (.slice A0_6 l0_6.length c0_6) := (blk_cell BK229.out 6).trans rfl
                    have hcz61_7 : wr.cell? ⟨gb229, 7, none⟩ = some (.slice A0_7 l0_7.length c0_7) := (blk_cell BK229.out 7).trans rfl
                    have hcz61_8 : wr.cell? ⟨gb229, 8, none⟩ = some (.slice A0_8 l0_8.length c0_8) := (blk_cell BK229.out 8).trans rfl
                    have hcz61_9 : wr.cell? ⟨gb229, 9, none⟩ = some (.slice A0_9 l0_9.length c0_9) := (blk_cell BK229.out 9).trans rfl
                    have hcz61_10 : wr.cell? ⟨gb229, 10, none⟩ = some (.slice A0_10 l0_10.length c0_10) := (blk_cell BK229.out 10).trans rfl
                    have hfz61_0 := blk_frozen BK229.out 0
                    have hfz61_1 := blk_frozen BK229.out 1
                    have hfz61_2 := blk_frozen BK229.out 2
                    have hfz61_3 := blk_frozen BK229.out 3
                    have hfz61_4 := blk_frozen BK229.out 4
                    have hfz61_5 := blk_frozen BK229.out 5
                    have hfz61_6 := blk_frozen BK229.out 6
                    have hfz61_7 := blk_frozen BK229.out 7
                    have hfz61_8 := blk_frozen BK229.out 8
                    have hfz61_9 := blk_frozen BK229.out 9
                    have hfz61_10 := blk_frozen BK229.out 10
                    have p234 : 0 ≤ (x5_2 : Int) := of_decide_eq_true (by first | (with_reducible assumption) | assumption)
                    have q234 : x5_2 < (l0_7.length : Int) := of_decide_eq_true (by first | (with_reducible assumption) | assumption)
                    obtain ⟨ad234, e234, hx234_0, hx234_1, hx234_2, hx234_3⟩ := at_T62 HR0_7.out x5_2 p234 q234
                    cases e234
                    replace hx234_0 := (HB.out.cell (World.block_lt_of_cell? w _ hx234_0)).trans hx234_0
                    replace hx234_1 := (HB.out.cell (World.block_lt_of_cell? w _ hx234_1)).trans hx234_1
                    replace hx234_2 := (HB.out.cell (World.block_lt_of_cell? w _ hx234_2)).trans hx234_2
                    replace hx234_3 := (HB.out.cell (World.block_lt_of_cell? w _ hx234_3)).trans hx234_3
                    replace p234 := eq_true p234
                    replace q234 := eq_true q234
                    have hcz62_0 : wr.cell? ⟨gb230, 0, none⟩ = some (.int .i64 a1_0) := (blk_cell BK230.out 0).trans rfl
                    have hcz62_1 : wr.cell? ⟨gb230, 1, none⟩ = some (.string a1_1) := (blk_cell BK230.out 1).trans rfl
                    have hcz62_2 : wr.cell? ⟨gb230, 2, none⟩ = some (.string a1_2) := (blk_cell BK230.out 2).trans rfl
                    have hcz62_3 : wr.cell? ⟨gb230, 3, none⟩ = some (.string a1_3) := (blk_cell BK230.out 3).trans rfl
                    have hcz62_4 : wr.cell? ⟨gb230, 4, none⟩ = some (.int .i64 a1_4) := (blk_cell BK230.out 4).trans rfl
                    have hcz62_5 : wr.cell? ⟨gb230, 5, none⟩ = some (.bool a1_5) := (blk_cell BK230.out 5).trans rfl
                    have hcz62_6 : wr.cell? ⟨gb230, 6, none⟩ = some (.slice A1_6 l1_6.length c1_6) := (blk_cell BK230.out 6).trans rfl
                    have hcz62_7 : wr.cell? ⟨gb230, 7, none⟩ = some (.slice A1_7 l1_7.length c1_7) := (blk_cell BK230.out 7).trans rfl
                    have hcz62_8 : wr.cell? ⟨gb230, 8, none⟩ = some (.slice A1_8 l1_8.length c1_8) := (blk_cell BK230.out 8).trans rfl
                    have hcz62_9 : wr.cell? ⟨gb230, 9, none⟩ = some (.slice A1_9 l1_9.length c1_9) := (blk_cell BK230.out 9).trans rfl
                    have hcz62_10 : wr.cell? ⟨gb230, 10, none⟩ = some (.slice A1_10 l1_10.length c1_10) := (blk_cell BK230.out 10).trans rfl
                    have hfz62_0 := blk_frozen BK230.out 0
                    have hfz62_1 := blk_frozen BK230.out 1
                    have hfz62_2 := blk_frozen BK230.out 2
                    have hfz62_3 := blk_frozen BK230.out 3
                    have hfz62_4 := blk_frozen BK230.out 4
                    have hfz62_5 := blk_frozen BK230.out 5
                    have hfz62_6 := blk_frozen BK230.out 6
                    have hfz62_7 := blk_frozen BK230.out 7
                    have hfz62_8 := blk_frozen BK230.out 8
                    have hfz62_9 := blk_frozen BK230.out 9
                    have hfz62_10 := blk_frozen BK230.out 10
                    have p235 : 0 ≤ (x5_2 : Int) := of_decide_eq_true (by first | (with_reducible assumption) | assumption)
                    have q235 : x5_2 < (l1_7.length : Int) := of_decide_eq_true (by first | (with_reducible assumption) | assumption)
                    obtain ⟨ad235, e235, hx235_0, hx235_1, hx235_2, hx235_3⟩ := at_T62 HR1_7.out x5_2 p235 q235
                    cases e235
                    replace hx235_0 := (HB.out.cell (World.block_lt_of_cell? w _ hx235_0)).trans hx235_0
                    replace hx235_1 := (HB.out.cell (World.block_lt_of_cell? w _ hx235_1)).trans hx235_1
                    replace hx235_2 := (HB.out.cell (World.block_lt_of_cell? w _ hx235_2)).trans hx235_2
                    replace hx235_3 := (HB.out.cell (World.block_lt_of_cell? w _ hx235_3)).trans hx235_3
                    replace p235 := eq_true p235
                    replace q235 := eq_true q235
                    go_wp2
                    repeat (go_quiet (fail); try go_wp2)
                    go_roundg k2
                    case measure => have := HJ2.out; have := HK2.out; omega
                    case rel => exact ⟨(wrap64 (x5_2 + 1)), (by first | rfl | (simp; done) | (simp [*]; done)), H', ⟨by have := HJ2.out; have := HK2.out; omega⟩, ⟨by (with_reducible repeat (first | refine blk_drewN ?_ _ | refine blk_drew ?_ | refine blk_alloc ?_ _)); exact BK229.out⟩, ⟨by (with_reducible repeat (first | refine blk_drewN ?_ _ | refine blk_drew ?_ | refine blk_alloc ?_ _)); exact BK230.out⟩, ⟨by repeat (first | (with_reducible first | exact HB.out | apply below_alloc | apply pw_below_drewN | apply below_drew1 | refine below_set ?_ GE229.out | refine below_set ?_ GE230.out) | exact HB.out)⟩⟩
                · rw [if_neg c55] at H
                  exact absurd H (by simp)
              · rw [if_neg c54] at H
                exact absurd H (by simp)
            · rw [if_neg c53] at H
              have c53b0 : decide (x5_2 < (l0_7.length : Int)) = false := decide_eq_false c53
              clear c53
              have H' := Aside0.mk H
              clear H
              have hnb63 := NB229_230.out
              have hnc63 := NB230_229.out
              have hcz64_0 : wr.cell? ⟨gb229, 0, none⟩ = some (.int .i64 a0_0) := (blk_cell BK229.out 0).trans rfl
              have hcz64_1 : wr.cell? ⟨gb229, 1, none⟩ = some (.string a0_1) := (blk_cell BK229.out 1).trans rfl
              have hcz64_2 : wr.cell? ⟨gb229, 2, none⟩ = some (.string a0_2) := (blk_cell BK229.out 2).trans rfl
              have hcz64_3 : wr.cell? ⟨gb229, 3, none⟩ = some (.string a0_3) := (blk_cell BK229.out 3).trans rfl
              have hcz64_4 : wr.cell? ⟨gb229, 4, none⟩ = some (.int .i64 a0_4) := (blk_cell BK229.out 4).trans rfl
              have hcz64_5 : wr.cell? ⟨gb229, 5, none⟩ = some (.bool a0_5) := (blk_cell BK229.out 5).trans rfl
              have hcz64_6 : wr.cell? ⟨gb229, 6, none⟩ = some (.slice A0_6 l0_6.length c0_6) := (blk_cell BK229.out 6).trans rfl
              have hcz64_7 : wr.cell? ⟨gb229, 7, none⟩ = some (.slice A0_7 l0_7.length c0_7) := (blk_cell BK229.out 7).trans rfl
              have hcz64_8 : wr.cell? ⟨gb229, 8, none⟩ = some (.slice A0_8 l0_8.length c0_8) := (blk_cell BK229.out 8).trans rfl
              have hcz64_9 : wr.cell? ⟨gb229, 9, none⟩ = some (.slice A0_9 l0_9.length c0_9) := (blk_cell BK229.out 9).trans rfl
              have hcz64_10 : wr.cell? ⟨gb229, 10, none⟩ = some (.slice A0_10 l0_10.length c0_10) := (blk_cell BK229.out 10).trans rfl
              have hfz64_0 := blk_frozen BK229.out 0
              have hfz64_1 := blk_frozen BK229.out 1
              have hfz64_2 := blk_frozen BK229.out 2
              have hfz64_3 := blk_frozen BK229.out 3
              have hfz64_4 := blk_frozen BK229.out 4
              have hfz64_5 := blk_frozen BK229.out 5
              have hfz64_6 := blk_frozen BK229.out 6
              have hfz64_7 := blk_frozen BK229.out 7
              have hfz64_8 := blk_frozen BK229.out 8
              have hfz64_9 := blk_frozen BK229.out 9
              have hfz64_10 := blk_frozen BK229.out 10
              go_wp2
              repeat (go_quiet (fail); try go_wp2)
              go_loopg [6] k2 (fun kq v6 w' => ∃ (x6_3 : Int), v6 = .int .i64 x6_3 ∧ Aside0 (interlockref00_SameStmt.l1 kq x6_3 a0_0 a0_1 a0_2 a0_3 a0_4 a0_5 l0_6 l0_7 l0_8 l0_9 l0_10 a1_0 a1_1 a1_2 a1_3 a1_4 a1_5 l1_6 l1_7 l1_8 l1_9 l1_10 = some r) ∧ Aside0 (kq ≤ k2) ∧ Aside0 (w'.heap[gb229]? = some (.cells #[.int .i64 a0_0, .string a0_1, .string a0_2, .string a0_3, .int .i64 a0_4, .bool a0_5, (.slice A0_6 l0_6.length c0_6), (.slice A0_7 l0_7.length c0_7), (.slice A0_8 l0_8.length c0_8), (.slice A0_9 l0_9.length c0_9), (.slice A0_10 l0_10.length c0_10)] 28 (0, 0))) ∧ Aside0 (w'.heap[gb230]? = some (.cells #[.int .i64 a1_0, .string a1_1, .string a1_2, .string a1_3, .int .i64 a1_4, .bool a1_5, (.slice A1_6 l1_6.length c1_6), (.slice A1_7 l1_7.length c1_7), (.slice A1_8 l1_8.length c1_8), (.slice A1_9 l1_9.length c1_9), (.slice A1_10 l1_10.length c1_10)] 28 (0, 0))) ∧ Aside0 (Below w.heap.size w w'))
              case atStart => exact ⟨(0), (by first | rfl | (simp; done) | (simp [*]; done)), H', ⟨Nat.le_refl _⟩, ⟨by (with_reducible repeat (first | refine blk_drewN ?_ _ | refine blk_drew ?_ | refine blk_alloc ?_ _)); exact BK229.out⟩, ⟨by (with_reducible repeat (first | refine blk_drewN ?_ _ | refine blk_drew ?_ | refine blk_alloc ?_ _)); exact BK230.out⟩, ⟨by repeat (first | (with_reducible first | exact HB.out | apply below_alloc | apply pw_below_drewN | apply below_drew1 | refine below_set ?_ GE229.out | refine below_set ?_ GE230.out) | exact HB.out)⟩⟩
              case round =>
                clear H'
                try clear c1
                try clear p2
                try clear q2
                try clear hx2
                try clear c5
                try clear c6
                try clear p6
                try clear p23
                try clear q23
                try clear hx23
                try clear c53
                try clear c53b0
                try clear c54
                try clear c54b0
                try clear c55
                try clear c55b0
                try clear c56
                try clear c56b0
                try clear c57
                try clear c60
                try clear c63
                try clear p64
                try clear hcz29_5
                try clear hcz29_6
                try clear hcz29_7
                try clear hcz29_8
                try clear hcz29_9
                try clear hcz30_0
                try clear hcz30_1
                try clear hcz30_10
                try clear hcz30_2
                try clear hcz30_3
                try clear hcz30_4
                try clear hcz30_5
                try clear hcz30_6
                try clear hcz30_7
                try clear hcz30_8
                try clear hcz30_9
                try clear hcz32_0
                try clear hcz32_1
                try clear hcz32_10
                try clear hcz32_2
                try clear hcz32_3
                try clear hcz32_4
                try clear hcz32_5
                try clear hcz32_6
                try clear hcz32_7
                try clear hcz32_8
                try clear hcz32_9
                try clear hcz33_0
                try clear hcz33_1
                try clear hcz33_10
                try clear hcz33_2
                try clear hcz33_3
                try clear hcz33_4
                try clear hcz33_5
                try clear hcz33_6
                try clear hcz33_7
                try clear hcz33_8
                try clear hcz33_9
                try clear hcz35_0
                try clear hcz35_1
                try clear hcz35_10
                try clear hcz35_2
                try clear hcz35_3
                try clear hcz35_4
                try clear hcz35_5
                try clear hcz35_6
                try clear hcz35_7
                try clear hcz35_8
                try clear hcz35_9
                try clear hcz36_0
                try clear hcz36_1
                try clear hcz36_10
                try clear hcz36_2
                try clear hcz36_3
                try clear hcz36_4
                try clear hcz36_5
                try clear hcz36_6
                try clear hcz36_7
                try clear hcz36_8
                try clear hcz36_9
                try clear hcz38_0
                try clear hcz38_1
                try clear hcz38_10
                try clear hcz38_2
                try clear hcz38_3
                try clear hcz38_4
                try clear hcz38_5
                try clear hcz38_6
                try clear hcz38_7
                try clear hcz38_8
                try clear hcz38_9
                try clear hcz39_0
                try clear hcz39_1
                try clear hcz39_10
                try clear hcz39_2
                try clear hcz39_3
                try clear hcz39_4
                try clear hcz39_5
                try clear hcz39_6
                try clear hcz39_7
                try clear hcz39_8
                try clear hcz39_9
                try clear hcz41_0
                try clear hcz41_1
                try clear hcz41_10
                try clear hcz41_2
                try clear hcz41_3
                try clear hcz41_4
                try clear hcz41_5
                try clear hcz41_6
                try clear hcz41_7
                try clear hcz41_8
                try clear hcz41_9
                try clear hcz42_0
                try clear hcz42_1
                try clear hcz42_10
                try clear hcz42_2
                try clear hcz42_3
                try clear hcz42_4
                try clear hcz42_5
                try clear hcz42_6
                try clear hcz42_7
                try clear hcz42_8
                try clear hcz42_9
                try clear hcz44_0
                try clear hcz44_1
                try clear hcz44_10
                try clear hcz44_2
                try clear hcz44_3
                try clear hcz44_4
                try clear hcz44_5
                try clear hcz44_6
                try clear hcz44_7
                try clear hcz44_8
                try clear hcz44_9
                try clear hcz45_0
                try clear hcz45_1
                try clear hcz45_10
                try clear hcz45_2
                try clear hcz45_3
                try clear hcz45_4
                try clear hcz45_5
                try clear hcz45_6
                try clear hcz45_7
                try clear hcz45_8
                try clear hcz45_9
                try clear hcz47_0
                try clear hcz47_1
                try clear hcz47_10
                try clear hcz47_2
                try clear hcz47_3
                try clear hcz47_4
                try clear hcz47_5
                try clear hcz47_6
                try clear hcz47_7
                try clear hcz47_8
                try clear hcz47_9
                try clear hcz48_0
                try clear hcz48_1
                try clear hcz48_10
                try clear hcz48_2
                try clear hcz48_3
                try clear hcz48_4
                try clear hcz48_5
                try clear hcz48_6
                try clear hcz48_7
                try clear hcz48_8
                try clear hcz48_9
                try clear hcz50_0
                try clear hcz50_1
                try clear hcz50_10
                try clear hcz50_2
                try clear hcz50_3
                try clear hcz50_4
                try clear hcz50_5
                try clear hcz50_6
                try clear hcz50_7
                try clear hcz50_8
                try clear hcz50_9
                try clear hcz51_0
                try clear hcz51_1
                try clear hcz51_10
                try clear hcz51_2
                try clear hcz51_3
                try clear hcz51_4
                try clear hcz51_5
                try clear hcz51_6
                try clear hcz51_7
                try clear hcz51_8
                try clear hcz51_9
                try clear hcz58_0
                try clear hcz58_1
                try clear hcz58_10
                try clear hcz58_2
                try clear hcz58_3
                try clear hcz58_4
                try clear hcz58_5
                try clear hcz58_6
                try clear hcz58_7
                try clear hcz58_8
                try clear hcz58_9
                try clear hcz59_0
                try clear hcz59_1
                try clear hcz59_10
                try clear hcz59_2
                try clear hcz59_3
                try clear hcz59_4
                try clear hcz59_5
                try clear hcz59_6
                try clear hcz59_7
                try clear hcz59_8
                try clear hcz59_9
                try clear hcz61_0
                try clear hcz61_1
                try clear hcz61_10
                try clear hcz61_2
                try clear hcz61_3
                try clear hcz61_4
                try clear hcz61_5
                try clear hcz61_6
                try clear hcz61_7
                try clear hcz61_8
                try clear hcz61_9
                try clear hcz62_0
                try clear hcz62_1
                try clear hcz62_10
                try clear hcz62_2
                try clear hcz62_3
                try clear hcz62_4
                try clear hcz62_5
                try clear hcz62_6
                try clear hcz62_7
                try clear hcz62_8
                try clear hcz62_9
                try clear hcz64_0
                try clear hcz64_1
                try clear hcz64_10
                try clear hcz64_2
                try clear hcz64_3
                try clear hcz64_4
                try clear hcz64_5
                try clear hcz64_6
                try clear hcz64_7
                try clear hcz64_8
                try clear hcz64_9
                try clear hfz23_0
                try clear hfz23_1
                try clear hfz23_10
                try clear hfz23_2
                try clear hfz23_3
                try clear hfz23_4
                try clear hfz23_5
                try clear hfz23_6
                try clear hfz23_7
                try clear hfz23_8
                try clear hfz23_9
                try clear hfz24_0
                try clear hfz24_1
                try clear hfz24_10
                try clear hfz24_2
                try clear hfz24_3
                try clear hfz24_4
                try clear hfz24_5
                try clear hfz24_6
                try clear hfz24_7
                try clear hfz24_8
                try clear hfz24_9
                try clear hfz26_0
                try clear hfz26_1
                try clear hfz26_10
                try clear hfz26_2
                try clear hfz26_3
                try clear hfz26_4
                try clear hfz26_5
                try clear hfz26_6
                try clear hfz26_7
                try clear hfz26_8
                try clear hfz26_9
                try clear hfz27_0
                try clear hfz27_1
                try clear hfz27_10
                try clear hfz27_2
                try clear hfz27_3
                try clear hfz27_4
                try clear hfz27_5
                try clear hfz27_6
                try clear hfz27_7
                try clear hfz27_8
                try clear hfz27_9
                try clear hfz29_0
                try clear hfz29_1
                try clear hfz29_10
                try clear hfz29_2
                try clear hfz29_3
                try clear hfz29_4
                try clear hfz29_5
                try clear hfz29_6
                try clear hfz29_7
                try clear hfz29_8
                try clear hfz29_9
                try clear hfz30_0
                try clear hfz30_1
                try clear hfz30_10
                try clear hfz30_2
                try clear hfz30_3
                try clear hfz30_4
                try clear hfz30_5
                try clear hfz30_6
                try clear hfz30_7
                try clear hfz30_8
                try clear hfz30_9
                try clear hfz32_0
                try clear hfz32_1
                try clear hfz32_10
                try clear hfz32_2
                try clear hfz32_3
                try clear hfz32_4
                try clear hfz32_5
                try clear hfz32_6
                try clear hfz32_7
                try clear hfz32_8
                try clear hfz32_9
                try clear hfz33_0
                try clear hfz33_1
                try clear hfz33_10
                try clear hfz33_2
                try clear hfz33_3
                try clear hfz33_4
                try clear hfz33_5
                try clear hfz33_6
                try clear hfz33_7
                try clear hfz33_8
                try clear hfz33_9
                try clear hfz35_0
                try clear hfz35_1
                try clear hfz35_10
                try clear hfz35_2
                try clear hfz35_3
                try clear hfz35_4
                try clear hfz35_5
                try clear hfz35_6
                try clear hfz35_7
                try clear hfz35_8
                try clear hfz35_9
                try clear hfz36_0
                try clear hfz36_1
                try clear hfz36_10
                try clear hfz36_2
                try clear hfz36_3
                try clear hfz36_4
                try clear hfz36_5
                try clear hfz36_6
                try clear hfz36_7
                try clear hfz36_8
                try clear hfz36_9
                try clear hfz38_0
                try clear hfz38_1
                try clear hfz38_10
                try clear hfz38_2
                try clear hfz38_3
                try clear hfz38_4
                try clear hfz38_5
                try clear hfz38_6
                try clear hfz38_7
                try clear hfz38_8
                try clear hfz38_9
                try clear hfz39_0
                try clear hfz39_1
                try clear hfz39_10
                try clear hfz39_2
                try clear hfz39_3
                try clear hfz39_4
                try clear hfz39_5
                try clear hfz39_6
                try clear hfz39_7
                try clear hfz39_8
                try clear hfz39_9
                try clear hfz41_0
                try clear hfz41_1
                try clear hfz41_10
                try clear hfz41_2
                try clear hfz41_3
                try clear hfz41_4
                try clear hfz41_5
                try clear hfz41_6
                try clear hfz41_7
                try clear hfz41_8
                try clear hfz41_9
                try clear hfz42_0
                try clear hfz42_1
                try clear hfz42_10
                try clear hfz42_2
                try clear hfz42_3
                try clear hfz42_4
                try clear hfz42_5
                try clear hfz42_6
                try clear hfz42_7
                try clear hfz42_8
                try clear hfz42_9
                try clear hfz44_0
                try clear hfz44_1
                try clear hfz44_10
                try clear hfz44_2
                try clear hfz44_3
                try clear hfz44_4
                try clear hfz44_5
                try clear hfz44_6
                try clear hfz44_7
                try clear hfz44_8
                try clear hfz44_9
                try clear hfz45_0
                try clear hfz45_1
                try clear hfz45_10
                try clear hfz45_2
                try clear hfz45_3
                try clear hfz45_4
                try clear hfz45_5
                try clear hfz45_6
                try clear hfz45_7
                try clear hfz45_8
                try clear hfz45_9
                try clear hfz47_0
                try clear hfz47_1
                try clear hfz47_10
                try clear hfz47_2
                try clear hfz47_3
                try clear hfz47_4
                try clear hfz47_5
                try clear hfz47_6
                try clear hfz47_7
                try clear hfz47_8
                try clear hfz47_9
                try clear hfz48_0
                try clear hfz48_1
                try clear hfz48_10
                try clear hfz48_2
                try clear hfz48_3
                try clear hfz48_4
                try clear hfz48_5
                try clear hfz48_6
                try clear hfz48_7
                try clear hfz48_8
                try clear hfz48_9
                try clear hfz50_0
                try clear hfz50_1
                try clear hfz50_10
                try clear hfz50_2
                try clear hfz50_3
                try clear hfz50_4
                try clear hfz50_5
                try clear hfz50_6
                try clear hfz50_7
                try clear hfz50_8
                try clear hfz50_9
                try clear hfz51_0
                try clear hfz51_1
                try clear hfz51_10
                try clear hfz51_2
                try clear hfz51_3
                try clear hfz51_4
                try clear hfz51_5
                try clear hfz51_6
                try clear hfz51_7
                try clear hfz51_8
                try clear hfz51_9
                try clear hfz58_0
                try clear hfz58_1
                try clear hfz58_10
                try clear hfz58_2
                try clear hfz58_3
                try clear hfz58_4
                try clear hfz58_5
                try clear hfz58_6
                try clear hfz58_7
                try clear hfz58_8
                try clear hfz58_9
                try clear hfz59_0
                try clear hfz59_1
                try clear hfz59_10
                try clear hfz59_2
                try clear hfz59_3
                try clear hfz59_4
                try clear hfz59_5
                try clear hfz59_6
                try clear hfz59_7
                try clear hfz59_8
                try clear hfz59_9
                try clear hfz61_0
                try clear hfz61_1
                try clear hfz61_10
                try clear hfz61_2
                try clear hfz61_3
                try clear hfz61_4
                try clear hfz61_5
                try clear hfz61_6
                try clear hfz61_7
                try clear hfz61_8
                try clear hfz61_9
                try clear hfz62_0
                try clear hfz62_1
                try clear hfz62_10
                try clear hfz62_2
                try clear hfz62_3
                try clear hfz62_4
                try clear hfz62_5
                try clear hfz62_6
                try clear hfz62_7
                try clear hfz62_8
                try clear hfz62_9
                try clear hfz64_0
                try clear hfz64_1
                try clear hfz64_10
                try clear hfz64_2
                try clear hfz64_3
                try clear hfz64_4
                try clear hfz64_5
                try clear hfz64_6
                try clear hfz64_7
                try clear hfz64_8
                try clear hfz64_9
                try clear hx234_0
                try clear hx234_1
                try clear hx234_2
                try clear hx234_3
                try clear hx235_0
                try clear hx235_1
                try clear hx235_2
                try clear hx235_3
                try clear p2
                try clear p234
                try clear p235
                try clear q234
                try clear q235
                obtain ⟨x6_3, rfl, HA, HK3, BK229, BK230, HB⟩ := hrel
                cases gk with
                | zero => exact absurd HA.out (by simp [interlockref00_SameStmt.l1])
                | succ k3 =>
                  have H := HA.out
                  clear HA
                  simp only [interlockref00_SameStmt.l1] at H
                  by_cases c65 : x6_3 < (l0_9.length : Int)
                  · rw [if_pos c65] at H
                    have c65b0 : decide (x6_3 < (l0_9.length : Int)) = true := decide_eq_true c65
                    clear c65
                    by_cases c66 : 0 ≤ x6_3
                    · rw [if_pos c66] at H
                      have c66b0 : decide (0 ≤ x6_3) = true := decide_eq_true c66
                      clear c66
                      by_cases c67 : x6_3 < (l1_9.length : Int)
                      · rw [if_pos c67] at H
                        have c67b0 : decide (x6_3 < (l1_9.length : Int)) = true := decide_eq_true c67
                        clear c67
                        by_cases c68 : (!((((rd_T66 l0_9 x6_3).f0).toList) == (((rd_T66 l1_9 x6_3).f0).toList)) || (!(((rd_T66 l0_9 x6_3).f1) == ((rd_T66 l1_9 x6_3).f1)) || (!(((rd_T66 l0_9 x6_3).f2) == ((rd_T66 l1_9 x6_3).f2))))) = true
                        · rw [if_pos c68] at H
                          have c68b0 : (!((((rd_T66 l0_9 x6_3).f0).toList) == (((rd_T66 l1_9 x6_3).f0).toList)) || (!(((rd_T66 l0_9 x6_3).f1) == ((rd_T66 l1_9 x6_3).f1)) || (!(((rd_T66 l0_9 x6_3).f2) == ((rd_T66 l1_9 x6_3).f2))))) = true := c68
                          clear c68
                          obtain rfl := Option.some.inj H
                          have hnb69 := NB229_230.out
                          have hnc69 := NB230_229.out
                          have hcz70_0 : wr.cell? ⟨gb229, 0, none⟩ = some (.int .i64 a0_0) := (blk_cell BK229.out 0).trans rfl
                          have hcz70_1 : wr.cell? ⟨gb229, 1, none⟩ = some (.string a0_1) := (blk_cell BK229.out 1).trans rfl
                          have hcz70_2 : wr.cell? ⟨gb229, 2, none⟩ = some (.string a0_2) := (blk_cell BK229.out 2).trans rfl
                          have hcz70_3 : wr.cell? ⟨gb229, 3, none⟩ = some (.string a0_3) := (blk_cell BK229.out 3).trans rfl
                          have hcz70_4 : wr.cell? ⟨gb229, 4, none⟩ = some (.int .i64 a0_4) := (blk_cell BK229.out 4).trans rfl
                          have hcz70_5 : wr.cell? ⟨gb229, 5, none⟩ = some (.bool a0_5) := (blk_cell BK229.out 5).trans rfl
                          have hcz70_6 : wr.cell? ⟨gb229, 6, none⟩ = some (.slice A0_6 l0_6.length c0_6) := (blk_cell BK229.out 6).trans rfl
                          have hcz70_7 : wr.cell? ⟨gb229, 7, none⟩ = some (.slice A0_7 l0_7.length c0_7) := (blk_cell BK229.out 7).trans rfl
                          have hcz70_8 : wr.cell? ⟨gb229, 8, none⟩ = some (.slice A0_8 l0_8.length c0_8) := (blk_cell BK229.out 8).trans rfl
                          have hcz70_9 : wr.cell? ⟨gb229, 9, none⟩ = some (.slice A0_9 l0_9.length c0_9) := (blk_cell BK229.out 9).trans rfl
                          have hcz70_10 : wr.cell? ⟨gb229, 10, none⟩ = some (.slice A0_10 l0_10.length c0_10) := (blk_cell BK229.out 10).trans rfl
                          have hfz70_0 := blk_frozen BK229.out 0
                          have hfz70_1 := blk_frozen BK229.out 1
                          have hfz70_2 := blk_frozen BK229.out 2
                          have hfz70_3 := blk_frozen BK229.out 3
                          have hfz70_4 := blk_frozen BK229.out 4
                          have hfz70_5 := blk_frozen BK229.out 5
                          have hfz70_6 := blk_frozen BK229.out 6
                          have hfz70_7 := blk_frozen BK229.out 7
                          have hfz70_8 := blk_frozen BK229.out 8
                          have hfz70_9 := blk_frozen BK229.out 9
                          have hfz70_10 := blk_frozen BK229.out 10
                          have p236 : 0 ≤ (x6_3 : Int) := of_decide_eq_true (by first | (with_reducible assumption) | assumption)
                          have q236 : x6_3 < (l0_9.length : Int) := of_decide_eq_true (by first | (with_reducible assumption) | assumption)
                          obtain ⟨ad236, e236, hx236_0, hx236_1, hx236_2⟩ := at_T66 HR0_9.out x6_3 p236 q236
                          cases e236
                          replace hx236_0 := (HB.out.cell (World.block_lt_of_cell? w _ hx236_0)).trans hx236_0
                          replace hx236_1 := (HB.out.cell (World.block_lt_of_cell? w _ hx236_1)).trans hx236_1
                          replace hx236_2 := (HB.out.cell (World.block_lt_of_cell? w _ hx236_2)).trans hx236_2
                          replace p236 := eq_true p236
                          replace q236 := eq_true q236
                          have hcz71_0 : wr.cell? ⟨gb230, 0, none⟩ = some (.int .i64 a1_0) := (blk_cell BK230.out 0).trans rfl
                          have hcz71_1 : wr.cell? ⟨gb230, 1, none⟩ = some (.string a1_1) := (blk_cell BK230.out 1).trans rfl
                          have hcz71_2 : wr.cell? ⟨gb230, 2, none⟩ = some (.string a1_2) := (blk_cell BK230.out 2).trans rfl
                          have hcz71_3 : wr.cell? ⟨gb230, 3, none⟩ = some (.string a1_3) := (blk_cell BK230.out 3).trans rfl
                          have hcz71_4 : wr.cell? ⟨gb230, 4, none⟩ = some (.int .i64 a1_4) := (blk_cell BK230.out 4).trans rfl
                          have hcz71_5 : wr.cell? ⟨gb230, 5, none⟩ = some (.bool a1_5) := (blk_cell BK230.out 5).trans rfl
                          have hcz71_6 : wr.cell? ⟨gb230, 6, none⟩ = some (.slice A1_6 l1_6.length c1_6) := (blk_cell BK230.out 6).trans rfl
                          have hcz71_7 : wr.cell? ⟨gb230, 7, none⟩ = some (.slice A1_7 l1_7.length c1_7) := (blk_cell BK230.out 7).trans rfl
                          have hcz71_8 : wr.cell? ⟨gb230, 8, none⟩ = some (.slice A1_8 l1_8.length c1_8) := (blk_cell BK230.out 8).trans rfl
                          have hcz71_9 : wr.cell? ⟨gb230, 9, none⟩ = some (.slice A1_9 l1_9.length c1_9) := (blk_cell BK230.out 9).trans rfl
                          have hcz71_10 : wr.cell? ⟨gb230, 10, none⟩ = some (.slice A1_10 l1_10.length c1_10) := (blk_cell BK230.out 10).trans rfl
                          have hfz71_0 := blk_frozen BK230.out 0
                          have hfz71_1 := blk_frozen BK230.out 1
                          have hfz71_2 := blk_frozen BK230.out 2
                          have hfz71_3 := blk_frozen BK230.out 3
                          have hfz71_4 := blk_frozen BK230.out 4
                          have hfz71_5 := blk_frozen BK230.out 5
                          have hfz71_6 := blk_frozen BK230.out 6
                          have hfz71_7 := blk_frozen BK230.out 7
                          have hfz71_8 := blk_frozen BK230.out 8
                          have hfz71_9 := blk_frozen BK230.out 9
                          have hfz71_10 := blk_frozen BK230.out 10
                          have p237 : 0 ≤ (x6_3 : Int) := of_decide_eq_true (by first | (with_reducible assumption) | assumption)
                          have q237 : x6_3 < (l1_9.length : Int) := of_decide_eq_true (by first | (with_reducible assumption) | assumption)
                          obtain ⟨ad237, e237, hx237_0, hx237_1, hx237_2⟩ := at_T66 HR1_9.out x6_3 p237 q237
                          cases e237
                          replace hx237_0 := (HB.out.cell (World.block_lt_of_cell? w _ hx237_0)).trans hx237_0
                          replace hx237_1 := (HB.out.cell (World.block_lt_of_cell? w _ hx237_1)).trans hx237_1
                          replace hx237_2 := (HB.out.cell (World.block_lt_of_cell? w _ hx237_2)).trans hx237_2
                          replace p237 := eq_true p237
                          replace q237 := eq_true q237
                          go_wp2
                          repeat (go_quiet (fail); try go_wp2)
                          go_ret
                          exact ⟨by first | rfl | (simp [errW_none, errW_some] <;> rfl) | (simp [*, errW_none, errW_some] <;> rfl), by repeat (first | (with_reducible first | exact HB.out | apply below_alloc | apply pw_below_drewN | apply below_drew1 | refine below_set ?_ GE229.out | refine below_set ?_ GE230.out) | exact HB.out)⟩
                        · rw [if_neg c68] at H
                          have c68b0 : (!((((rd_T66 l0_9 x6_3).f0).toList) == (((rd_T66 l1_9 x6_3).f0).toList)) || (!(((rd_T66 l0_9 x6_3).f1) == ((rd_T66 l1_9 x6_3).f1)) || (!(((rd_T66 l0_9 x6_3).f2) == ((rd_T66 l1_9 x6_3).f2))))) = false := by simpa using c68
                          clear c68
                          have H' := Aside0.mk H
                          clear H
                          have hnb72 := NB229_230.out
                          have hnc72 := NB230_229.out
                          have hcz73_0 : wr.cell? ⟨gb229, 0, none⟩ = some (.int .i64 a0_0) := (blk_cell BK229.out 0).trans rfl
                          have hcz73_1 : wr.cell? ⟨gb229, 1, none⟩ = some (.string a0_1) := (blk_cell BK229.out 1).trans rfl
                          have hcz73_2 : wr.cell? ⟨gb229, 2, none⟩ = some (.string a0_2) := (blk_cell BK229.out 2).trans rfl
                          have hcz73_3 : wr.cell? ⟨gb229, 3, none⟩ = some (.string a0_3) := (blk_cell BK229.out 3).trans rfl
                          have hcz73_4 : wr.cell? ⟨gb229, 4, none⟩ = some (.int .i64 a0_4) := (blk_cell BK229.out 4).trans rfl
                          have hcz73_5 : wr.cell? ⟨gb229, 5, none⟩ = some (.bool a0_5) := (blk_cell BK229.out 5).trans rfl
                          have hcz73_6 : wr.cell? ⟨gb229, 6, none⟩ = some (.slice A0_6 l0_6.length c0_6) := (blk_cell BK229.out 6).trans rfl
                          have hcz73_7 : wr.cell? ⟨gb229, 7, none⟩ = some (.slice A0_7 l0_7.length c0_7) := (blk_cell BK229.out 7).trans rfl
                          have hcz73_8 : wr.cell? ⟨gb229, 8, none⟩ = some (.slice A0_8 l0_8.length c0_8) := (blk_cell BK229.out 8).trans rfl
                          have hcz73_9 : wr.cell? ⟨gb229, 9, none⟩ = some (.slice A0_9 l0_9.length c0_9) := (blk_cell BK229.out 9).trans rfl
                          have hcz73_10 : wr.cell? ⟨gb229, 10, none⟩ = some (.slice A0_10 l0_10.length c0_10) := (blk_cell BK229.out 10).trans rfl
                          have hfz73_0 := blk_frozen BK229.out 0
                          have hfz73_1 := blk_frozen BK229.out 1
                          have hfz73_2 := blk_frozen BK229.out 2
                          have hfz73_3 := blk_frozen BK229.out 3
                          have hfz73_4 := blk_frozen BK229.out 4
                          have hfz73_5 := blk_frozen BK229.out 5
                          have hfz73_6 := blk_frozen BK229.out 6
                          have hfz73_7 := blk_frozen BK229.out 7
                          have hfz73_8 := blk_frozen BK229.out 8
                          have hfz73_9 := blk_frozen BK229.out 9
                          have hfz73_10 := blk_frozen BK229.out 10
                          have p236 : 0 ≤ (x6_3 : Int) := of_decide_eq_true (by first | (with_reducible assumption) | assumption)
                          have q236 : x6_3 < (l0_9.length : Int) := of_decide_eq_true (by first | (with_reducible assumption) | assumption)
                          obtain ⟨ad236, e236, hx236_0, hx236_1, hx236_2⟩ := at_T66 HR0_9.out x6_3 p236 q236
                          cases e236
                          replace hx236_0 := (HB.out.cell (World.block_lt_of_cell? w _ hx236_0)).trans hx236_0
                          replace hx236_1 := (HB.out.cell (World.block_lt_of_cell? w _ hx236_1)).trans hx236_1
                          replace hx236_2 := (HB.out.cell (World.block_lt_of_cell? w _ hx236_2)).trans hx236_2
                          replace p236 := eq_true p236
                          replace q236 := eq_true q236
                          have hcz74_0 : wr.cell? ⟨gb230, 0, none⟩ = some (.int .i64 a1_0) := (blk_cell BK230.out 0).trans rfl
                          have hcz74_1 : wr.cell? ⟨gb230, 1, none⟩ = some (.string a1_1) := (blk_cell BK230.out 1).trans rfl
                          have hcz74_2 : wr.cell? ⟨gb230, 2, none⟩ = some (.string a1_2) := (blk_cell BK230.out 2).trans rfl
                          have hcz74_3 : wr.cell? ⟨gb230, 3, none⟩ = some (.string a1_3) := (blk_cell BK230.out 3).trans rfl
                          have hcz74_4 : wr.cell? ⟨gb230, 4, none⟩ = some (.int .i64 a1_4) := (blk_cell BK230.out 4).trans rfl
                          have hcz74_5 : wr.cell? ⟨gb230, 5, none⟩ = some (.bool a1_5) := (blk_cell BK230.out 5).trans rfl
                          have hcz74_6 : wr.cell? ⟨gb230, 6, none⟩ = some (.slice A1_6 l1_6.length c1_6) := (blk_cell BK230.out 6).trans rfl
                          have hcz74_7 : wr.cell? ⟨gb230, 7, none⟩ = some (.slice A1_7 l1_7.length c1_7) := (blk_cell BK230.out 7).trans rfl
                          have hcz74_8 : wr.cell? ⟨gb230, 8, none⟩ = some (.slice A1_8 l1_8.length c1_8) := (blk_cell BK230.out 8).trans rfl
                          have hcz74_9 : wr.cell? ⟨gb230, 9, none⟩ = some (.slice A1_9 l1_9.length c1_9) := (blk_cell BK230.out 9).trans rfl
                          have hcz74_10 : wr.cell? ⟨gb230, 10, none⟩ = some (.slice A1_10 l1_10.length c1_10) := (blk_cell BK230.out 10).trans rfl
                          have hfz74_0 := blk_frozen BK230.out 0
                          have hfz74_1 := blk_frozen BK230.out 1
                          have hfz74_2 := blk_frozen BK230.out 2
                          have hfz74_3 := blk_frozen BK230.out 3
                          have hfz74_4 := blk_frozen BK230.out 4
                          have hfz74_5 := blk_frozen BK230.out 5
                          have hfz74_6 := blk_frozen BK230.out 6
                          have hfz74_7 := blk_frozen BK230.out 7
                          have hfz74_8 := blk_frozen BK230.out 8
                          have hfz74_9 := blk_frozen BK230.out 9
                          have hfz74_10 := blk_frozen BK230.out 10
                          have p237 : 0 ≤ (x6_3 : Int) := of_decide_eq_true (by first | (with_reducible assumption) | assumption)
                          have q237 : x6_3 < (l1_9.length : Int) := of_decide_eq_true (by first | (with_reducible assumption) | assumption)
                          obtain ⟨ad237, e237, hx237_0, hx237_1, hx237_2⟩ := at_T66 HR1_9.out x6_3 p237 q237
                          cases e237
                          replace hx237_0 := (HB.out.cell (World.block_lt_of_cell? w _ hx237_0)).trans hx237_0
                          replace hx237_1 := (HB.out.cell (World.block_lt_of_cell? w _ hx237_1)).trans hx237_1
                          replace hx237_2 := (HB.out.cell (World.block_lt_of_cell? w _ hx237_2)).trans hx237_2
                          replace p237 := eq_true p237
                          replace q237 := eq_true q237
                          go_wp2
                          repeat (go_quiet (fail); try go_wp2)
                          go_roundg k3
                          case measure => have := HJ2.out; have := HK2.out; have := HK3.out; omega
                          case rel => exact ⟨(wrap64 (x6_3 + 1)), (by first | rfl | (simp; done) | (simp [*]; done)), H', ⟨by have := HJ2.out; have := HK2.out; have := HK3.out; omega⟩, ⟨by (with_reducible repeat (first | refine blk_drewN ?_ _ | refine blk_drew ?_ | refine blk_alloc ?_ _)); exact BK229.out⟩, ⟨by (with_reducible repeat (first | refine blk_drewN ?_ _ | refine blk_drew ?_ | refine blk_alloc ?_ _)); exact BK230.out⟩, ⟨by repeat (first | (with_reducible first | exact HB.out | apply below_alloc | apply pw_below_drewN | apply below_drew1 | refine below_set ?_ GE229.out | refine below_set ?_ GE230.out) | exact HB.out)⟩⟩
                      · rw [if_neg c67] at H
                        exact absurd H (by simp)
                    · rw [if_neg c66] at H
                      exact absurd H (by simp)
                  · rw [if_neg c65] at H
                    have c65b0 : decide (x6_3 < (l0_9.length : Int)) = false := decide_eq_false c65
                    clear c65
                    obtain rfl := Option.some.inj H
                    have hnb75 := NB229_230.out
                    have hnc75 := NB230_229.out
                    have hcz76_0 : wr.cell? ⟨gb229, 0, none⟩ = some (.int .i64 a0_0) := (blk_cell BK229.out 0).trans rfl
                    have hcz76_1 : wr.cell? ⟨gb229, 1, none⟩ = some (.string a0_1) := (blk_cell BK229.out 1).trans rfl
                    have hcz76_2 : wr.cell? ⟨gb229, 2, none⟩ = some (.string a0_2) := (blk_cell BK229.out 2).trans rfl
                    have hcz76_3 : wr.cell? ⟨gb229, 3, none⟩ = some (.string a0_3) := (blk_cell BK229.out 3).trans rfl
                    have hcz76_4 : wr.cell? ⟨gb229, 4, none⟩ = some (.int .i64 a0_4) := (blk_cell BK229.out 4).trans rfl
                    have hcz76_5 : wr.cell? ⟨gb229, 5, none⟩ = some (.bool a0_5) := (blk_cell BK229.out 5).trans rfl
                    have hcz76_6 : wr.cell? ⟨gb229, 6, none⟩ = some (.slice A0_6 l0_6.length c0_6) := (blk_cell BK229.out 6).trans rfl
                    have hcz76_7 : wr.cell? ⟨gb229, 7, none⟩ = some (.slice A0_7 l0_7.length c0_7) := (blk_cell BK229.out 7).trans rfl
                    have hcz76_8 : wr.cell? ⟨gb229, 8, none⟩ = some (.slice A0_8 l0_8.length c0_8) := (blk_cell BK229.out 8).trans rfl
                    have hcz76_9 : wr.cell? ⟨gb229, 9, none⟩ = some (.slice A0_9 l0_9.length c0_9) := (blk_cell BK229.out 9).trans rfl
                    have hcz76_10 : wr.cell? ⟨gb229, 10, none⟩ = some (.slice A0_10 l0_10.length c0_10) := (blk_cell BK229.out 10).trans rfl
                    have hfz76_0 := blk_frozen BK229.out 0
                    have hfz76_1 := blk_frozen BK229.out 1
                    have hfz76_2 := blk_frozen BK229.out 2
                    have hfz76_3 := blk_frozen BK229.out 3
                    have hfz76_4 := blk_frozen BK229.out 4
                    have hfz76_5 := blk_frozen BK229.out 5
                    have hfz76_6 := blk_frozen BK229.out 6
                    have hfz76_7 := blk_frozen BK229.out 7
                    have hfz76_8 := blk_frozen BK229.out 8
                    have hfz76_9 := blk_frozen BK229.out 9
                    have hfz76_10 := blk_frozen BK229.out 10
                    go_wp2
                    repeat (go_quiet (fail); try go_wp2)
                    go_ret
                    exact ⟨by first | rfl | (simp [errW_none, errW_some] <;> rfl) | (simp [*, errW_none, errW_some] <;> rfl), by repeat (first | (with_reducible first | exact HB.out | apply below_alloc | apply pw_below_drewN | apply below_drew1 | refine below_set ?_ GE229.out | refine below_set ?_ GE230.out) | exact HB.out)⟩
end Go.Proofs.Ytnojcnmnkkgkgaa.Q
end
