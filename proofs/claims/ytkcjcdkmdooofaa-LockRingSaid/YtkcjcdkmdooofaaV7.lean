/- Packed by shake.py: YtkcjcdkmdooofaaQ24 YtkcjcdkmdooofaaQ25 YtkcjcdkmdooofaaQe37 YtkcjcdkmdooofaaQ22 YtkcjcdkmdooofaaLL1 YtkcjcdkmdooofaaLL2 YtkcjcdkmdooofaaLL3 YtkcjcdkmdooofaaR YtkcjcdkmdooofaaLL4 YtkcjcdkmdooofaaA8 YtkcjcdkmdooofaaLL5 YtkcjcdkmdooofaaA9 YtkcjcdkmdooofaaA10 YtkcjcdkmdooofaaLL6 YtkcjcdkmdooofaaLL7 YtkcjcdkmdooofaaLL8 YtkcjcdkmdooofaaLL9 YtkcjcdkmdooofaaLL10 -/
import Derived.Deep.Slices
import Derived.ChangeArms
import Derived.DataReads
import Derived.Laws.ResultCell
import Derived.Test.YtkcjcdkmdooofaaV6
set_option linter.unusedSectionVars false
section
namespace Go.Proofs.Ytkcjcdkmdooofaa.Q
open Go.RowKit Go.Proofs.YtkcjcdkmdooofaaW.PrintWords Go.Proofs.YtkcjcdkmdooofaaW.PrintLast Go.Proofs.YtkcjcdkmdooofaaW.PrintMore
attribute [local go_sem] max2_int min2_int max_two min_two max_three min_three max_four min_four
set_option linter.unusedVariables false
set_option linter.unusedSimpArgs false
def interlocklaw11_row.f (a0 : ByteArray) : Option (Int × ByteArray × ByteArray) := some (4, (⟨#[116]⟩ : ByteArray), a0)
set_option maxHeartbeats 8000000 in
set_option maxRecDepth 100000 in
theorem interlocklaw11_row.calls (a0 : ByteArray) (r1 : Int) (r2 : ByteArray) (r3 : ByteArray) (w : World) (h : interlocklaw11_row.f a0 = some (r1, r2, r3)) :
    Calls Try.prog 24 #[.string a0] w fun e w' => e = .returned (.agg #[.int .i64 r1, .string r2, .string r3]) ∧ Below w.heap.size w w' := by
  have hu29 := Try.underlying29
  have HB := Aside0.mk (Below.refl w.heap.size w)
  have H : (some (4, (⟨#[116]⟩ : ByteArray), a0)) = some (r1, r2, r3) := h
  clear h
  simp only [Option.some.injEq, Prod.mk.injEq] at H
  obtain ⟨rfl, rfl, rfl⟩ := H
  go_enter Try.func24, Try.ntmps24
  go_wp2_with (first | ((with_reducible refine gate_dst (N := 2) rfl ?_); refine box_event ?hg (N := 2) ?hd (cs := #[.int .i64 0, .string (⟨#[]⟩ : ByteArray), .string (⟨#[]⟩ : ByteArray)]) (t := 29) ?hr ?_; (case hd => rfl); (case hg => rfl); (case hr => first | (go_simp; done) | (go_simp; rfl)); intro gb333 hg w2 hbox hb; have n0_ := Aside0.mk (below_step (by repeat (first | (with_reducible first | exact HB.out | apply below_alloc | apply pw_below_drewN | apply below_drew1) | exact HB.out)) hb); have n1_ := Aside0.mk (hbox); have n2_ := Aside0.mk ((by rw [hg]; exact (below_size (by repeat (first | (with_reducible first | exact HB.out | apply below_alloc | apply pw_below_drewN | apply below_drew1) | exact HB.out))) : w.heap.size ≤ gb333)); have n3_ := Aside0.mk ((by rw [hg]; exact (below_size (by repeat (first | (with_reducible first | exact HB.out | apply below_alloc | apply pw_below_drewN | apply below_drew1) | exact HB.out))) : w.heap.size ≤ gb333)); clear HB; have HB := n0_; have BK333 := n1_; have GW333 := n2_; have GE333 := n3_; clear n0_ n1_ n2_ n3_; clear hb hbox hg; have hcz3_0 : w2.cell? ⟨gb333, 0, none⟩ = some (.int .i64 0) := (blk_cell BK333.out 0).trans rfl; have hcz3_1 : w2.cell? ⟨gb333, 1, none⟩ = some (.string (⟨#[]⟩ : ByteArray)) := (blk_cell BK333.out 1).trans rfl; have hcz3_2 : w2.cell? ⟨gb333, 2, none⟩ = some (.string (⟨#[]⟩ : ByteArray)) := (blk_cell BK333.out 2).trans rfl; have hfz3_0 := blk_frozen BK333.out 0; have hfz3_1 := blk_frozen BK333.out 1; have hfz3_2 := blk_frozen BK333.out 2))
  refine bodyPost_ret (results_cell_row rfl _ _ gb333 29 #[.int .i64 4, .string (⟨#[116]⟩ : ByteArray), .string a0] (0, 0) _ rfl (by (with_reducible repeat (first | refine blk_drewN ?_ _ | refine blk_drew ?_ | refine blk_alloc ?_ _)); refine blk_put (cs := #[.int .i64 4, .string (⟨#[116]⟩ : ByteArray), .string (⟨#[]⟩ : ByteArray)]) ?_ 2 _ rfl; (with_reducible repeat (first | refine blk_drewN ?_ _ | refine blk_drew ?_ | refine blk_alloc ?_ _)); refine blk_put (cs := #[.int .i64 4, .string (⟨#[]⟩ : ByteArray), .string (⟨#[]⟩ : ByteArray)]) ?_ 1 _ rfl; (with_reducible repeat (first | refine blk_drewN ?_ _ | refine blk_drew ?_ | refine blk_alloc ?_ _)); refine blk_put (cs := #[.int .i64 0, .string (⟨#[]⟩ : ByteArray), .string (⟨#[]⟩ : ByteArray)]) ?_ 0 _ rfl; (with_reducible repeat (first | refine blk_drewN ?_ _ | refine blk_drew ?_ | refine blk_alloc ?_ _)); exact BK333.out) Try.underlying29 rfl (by kernel_rfl)) rfl ?_
  exact ⟨by first | rfl | (simp [errW_none, errW_some] <;> rfl) | (simp [*, errW_none, errW_some] <;> rfl), by repeat (first | (with_reducible first | exact HB.out | apply below_alloc | apply pw_below_drewN | apply below_drew1 | refine below_set ?_ GE333.out) | exact HB.out)⟩
end Go.Proofs.Ytkcjcdkmdooofaa.Q
end
section
namespace Go.Proofs.Ytkcjcdkmdooofaa.Q
open Go.RowKit Go.Proofs.YtkcjcdkmdooofaaW.PrintWords Go.Proofs.YtkcjcdkmdooofaaW.PrintLast Go.Proofs.YtkcjcdkmdooofaaW.PrintMore
attribute [local go_sem] max2_int min2_int max_two min_two max_three min_three max_four min_four
set_option linter.unusedVariables false
set_option linter.unusedSimpArgs false
def interlockref00_SameInts.l0 : Nat → List Int → List Int → Int → Option (Bool)
  | 0, _, _, _ => none
  | k + 1, x0, x1, x5 => if x5 < (x0.length : Int) then (if 0 ≤ x5 then (if x5 < (x1.length : Int) then (if (rd x0 x5) = (rd x1 x5) then (interlockref00_SameInts.l0 k x0 x1 (wrap64 (x5 + 1))) else (some false)) else (none)) else (none)) else (some true)
def interlockref00_SameInts.f (k : Nat) (l0 : List Int) (l1 : List Int) : Option (Bool) := if (l0.length : Int) = (l1.length : Int) then (interlockref00_SameInts.l0 k l0 l1 0) else (some false)
theorem interlockref00_SameInts.mono_l : ∀ k, (∀ y0 y1 y2, LeO (interlockref00_SameInts.l0 k y0 y1 y2) (interlockref00_SameInts.l0 (k + 1) y0 y1 y2))
  | 0 => fun _ _ _ r h => by simp [interlockref00_SameInts.l0] at h
  | k + 1 => by
    have ih0 := interlockref00_SameInts.mono_l k
    · intro y0 y1 y2
      unfold interlockref00_SameInts.l0
      repeat' first
      | (with_reducible exact ih0 _ _ _)
      | (with_reducible exact LeO.refl _)
      | (with_reducible exact LeO.none _)
      | (with_reducible refine LeO.ite ?_ ?_)
      | (with_reducible refine LeO.bind ?_ (fun _ => ?_))
      | exact ih0 _ _ _
      | exact LeO.none _
      | refine LeO.ite ?_ ?_
      | refine LeO.bind ?_ (fun _ => ?_)
theorem interlockref00_SameInts.mono : ∀ a0 a1 k, LeO (interlockref00_SameInts.f k a0 a1) (interlockref00_SameInts.f (k + 1) a0 a1) := by
  intro a0 a1 k
  have ih0 := interlockref00_SameInts.mono_l k
  unfold interlockref00_SameInts.f
  repeat' first
      | (with_reducible exact ih0 _ _ _)
      | (with_reducible exact LeO.refl _)
      | (with_reducible exact LeO.none _)
      | (with_reducible refine LeO.ite ?_ ?_)
      | (with_reducible refine LeO.bind ?_ (fun _ => ?_))
      | exact ih0 _ _ _
      | exact LeO.none _
      | refine LeO.ite ?_ ?_
      | refine LeO.bind ?_ (fun _ => ?_)
set_option maxHeartbeats 8000000 in
set_option maxRecDepth 100000 in
theorem interlockref00_SameInts.calls (k : Nat) (A0 : Option Addr) (c0 : Nat) (l0 : List Int) (A1 : Option Addr) (c1 : Nat) (l1 : List Int) (r : Bool) (w : World) (hr0 : Kd.C (Kd.int .i64) w A0 l0.length l0) (hc0 : l0.length ≤ c0) (hr1 : Kd.C (Kd.int .i64) w A1 l1.length l1) (hc1 : l1.length ≤ c1) (h : interlockref00_SameInts.f k l0 l1 = some r) :
    Calls Try.prog 25 #[.slice A0 l0.length c0, .slice A1 l1.length c1] w fun e w' => e = .returned (.bool r) ∧ Drawn0 w w' := by
  have HR0 := Aside0.mk hr0
  have HC0 := Aside0.mk hc0
  clear hr0 hc0
  have HR1 := Aside0.mk hr1
  have HC1 := Aside0.mk hc1
  clear hr1 hc1
  have H : (if (l0.length : Int) = (l1.length : Int) then (interlockref00_SameInts.l0 k l0 l1 0) else (some false)) = some r := h
  clear h
  by_cases c3 : (l0.length : Int) = (l1.length : Int)
  · rw [if_pos c3] at H
    have c3b0 : ((l0.length : Int) == (l1.length : Int)) = true := beq_iff_eq.mpr c3
    have c3b1 : ((l0.length : Int) != (l1.length : Int)) = false := bne_eq_false_iff_eq.mpr c3
    have c3b2 : (l0.length == l1.length) = true := by first | simpa using c3 | (simp at c3 ⊢; omega)
    clear c3
    have H' := Aside0.mk H
    clear H
    go_enter Try.func25, Try.ntmps25
    go_wp2
    repeat (go_quiet (fail); try go_wp2)
    go_loopg [5] k (fun kq v5 w' => ∃ (x5_1 : Int), v5 = .int .i64 x5_1 ∧ Aside0 (interlockref00_SameInts.l0 kq l0 l1 x5_1 = some r) ∧ Aside0 (kq ≤ k) ∧ Drawn0 w w')
    case atStart => exact ⟨(0), (by first | rfl | (simp; done) | (simp [*]; done)), H', ⟨Nat.le_refl _⟩, by repeat (first | exact Drawn0.refl _ | apply Drawn0.step)⟩
    case round =>
      clear H'
      try clear c1
      try clear c2
      try clear p2
      try clear c3
      try clear c3b0
      try clear c3b1
      try clear c3b2
      obtain ⟨x5_1, rfl, HA, HK1, ⟨m1, rfl⟩⟩ := hrel
      cases gk with
      | zero => exact absurd HA.out (by simp [interlockref00_SameInts.l0])
      | succ k1 =>
        have H := HA.out
        clear HA
        simp only [interlockref00_SameInts.l0] at H
        by_cases c4 : x5_1 < (l0.length : Int)
        · rw [if_pos c4] at H
          have c4b0 : decide (x5_1 < (l0.length : Int)) = true := decide_eq_true c4
          clear c4
          by_cases c5 : 0 ≤ x5_1
          · rw [if_pos c5] at H
            have c5b0 : decide (0 ≤ x5_1) = true := decide_eq_true c5
            clear c5
            by_cases c6 : x5_1 < (l1.length : Int)
            · rw [if_pos c6] at H
              have c6b0 : decide (x5_1 < (l1.length : Int)) = true := decide_eq_true c6
              clear c6
              by_cases c7 : (rd l0 x5_1) = (rd l1 x5_1)
              · rw [if_pos c7] at H
                have c7b0 : ((rd l0 x5_1) == (rd l1 x5_1)) = true := beq_iff_eq.mpr c7
                have c7b1 : ((rd l0 x5_1) != (rd l1 x5_1)) = false := bne_eq_false_iff_eq.mpr c7
                clear c7
                have H' := Aside0.mk H
                clear H
                have p334 : 0 ≤ (x5_1 : Int) := of_decide_eq_true (by first | (with_reducible assumption) | assumption)
                have q334 : x5_1 < (l0.length : Int) := of_decide_eq_true (by first | (with_reducible assumption) | assumption)
                obtain ⟨ad334, e334, hx334_0⟩ := Kd.at_int HR0.out x5_1 p334 q334
                cases e334
                replace p334 := eq_true p334
                replace q334 := eq_true q334
                have p335 : 0 ≤ (x5_1 : Int) := of_decide_eq_true (by first | (with_reducible assumption) | assumption)
                have q335 : x5_1 < (l1.length : Int) := of_decide_eq_true (by first | (with_reducible assumption) | assumption)
                obtain ⟨ad335, e335, hx335_0⟩ := Kd.at_int HR1.out x5_1 p335 q335
                cases e335
                replace p335 := eq_true p335
                replace q335 := eq_true q335
                go_wp2
                repeat (go_quiet (fail); try go_wp2)
                go_roundg k1
                case measure => have := HK1.out; omega
                case rel => exact ⟨(wrap64 (x5_1 + 1)), (by first | rfl | (simp; done) | (simp [*]; done)), H', ⟨by have := HK1.out; omega⟩, by repeat (first | exact Drawn0.refl _ | apply Drawn0.step)⟩
              · rw [if_neg c7] at H
                have c7b0 : ((rd l0 x5_1) == (rd l1 x5_1)) = false := beq_eq_false_iff_ne.mpr c7
                have c7b1 : ((rd l0 x5_1) != (rd l1 x5_1)) = true := bne_iff_ne.mpr c7
                obtain rfl := Option.some.inj H
                have p334 : 0 ≤ (x5_1 : Int) := of_decide_eq_true (by first | (with_reducible assumption) | assumption)
                have q334 : x5_1 < (l0.length : Int) := of_decide_eq_true (by first | (with_reducible assumption) | assumption)
                obtain ⟨ad334, e334, hx334_0⟩ := Kd.at_int HR0.out x5_1 p334 q334
                cases e334
                replace p334 := eq_true p334
                replace q334 := eq_true q334
                have p335 : 0 ≤ (x5_1 : Int) := of_decide_eq_true (by first | (with_reducible assumption) | assumption)
                have q335 : x5_1 < (l1.length : Int) := of_decide_eq_true (by first | (with_reducible assumption) | assumption)
                obtain ⟨ad335, e335, hx335_0⟩ := Kd.at_int HR1.out x5_1 p335 q335
                cases e335
                replace p335 := eq_true p335
                replace q335 := eq_true q335
                go_wp2
                repeat (go_quiet (fail); try go_wp2)
                go_ret
                exact ⟨by first | rfl | (simp; done) | (simp [*]; done), by repeat (first | exact Drawn0.refl _ | apply Drawn0.step)⟩
            · rw [if_neg c6] at H
              exact absurd H (by simp)
          · rw [if_neg c5] at H
            exact absurd H (by simp)
        · rw [if_neg c4] at H
          have c4b0 : decide (x5_1 < (l0.length : Int)) = false := decide_eq_false c4
          clear c4
          obtain rfl := Option.some.inj H
          go_wp2
          repeat (go_quiet (fail); try go_wp2)
          go_ret
          exact ⟨by first | rfl | (simp; done) | (simp [*]; done), by repeat (first | exact Drawn0.refl _ | apply Drawn0.step)⟩
  · rw [if_neg c3] at H
    have c3b0 : ((l0.length : Int) == (l1.length : Int)) = false := beq_eq_false_iff_ne.mpr c3
    have c3b1 : ((l0.length : Int) != (l1.length : Int)) = true := bne_iff_ne.mpr c3
    have c3b2 : (l0.length == l1.length) = false := by first | simpa using c3 | (simp at c3 ⊢; omega)
    obtain rfl := Option.some.inj H
    go_enter Try.func25, Try.ntmps25
    go_wp2
    repeat (go_quiet (fail); try go_wp2)
    go_ret
    exact ⟨by first | rfl | (simp; done) | (simp [*]; done), by repeat (first | exact Drawn0.refl _ | apply Drawn0.step)⟩
end Go.Proofs.Ytkcjcdkmdooofaa.Q
end
section
namespace Go.Proofs.Ytkcjcdkmdooofaa.Q
open Go.RowKit Go.Proofs.YtkcjcdkmdooofaaW.PrintWords Go.Proofs.YtkcjcdkmdooofaaW.PrintLast Go.Proofs.YtkcjcdkmdooofaaW.PrintMore
attribute [local go_sem] max2_int min2_int max_two min_two max_three min_three max_four min_four
set_option linter.unusedVariables false
set_option linter.unusedSimpArgs false
theorem eqA37 (d : Nat) (w : World) (x0 y0 : Int) (x1 y1 : Int) (x2 y2 : Bool) :
    (Op.equalIn (d + 2) 37 (.agg #[.int .i64 x0, .int .i64 x1, .bool x2]) (.agg #[.int .i64 y0, .int .i64 y1, .bool y2])).run Try.prog w = .ok (x0 == y0 && (x1 == y1 && (x2 == y2))) w := by
  refine eqA_of Try.underlying37 (by kernel_rfl) ?_
  refine eqf_cons (by rfl) (by go_simp; rfl) (by go_simp; rfl) (by go_simp) ?_
  refine eqf_cons (by rfl) (by go_simp; rfl) (by go_simp; rfl) (by go_simp) ?_
  exact eqf_last (by rfl) (by go_simp; rfl) (by go_simp; rfl) (by go_simp)
end Go.Proofs.Ytkcjcdkmdooofaa.Q
end
section
namespace Go.Proofs.Ytkcjcdkmdooofaa.Q
open Go.RowKit Go.Proofs.YtkcjcdkmdooofaaW.PrintWords Go.Proofs.YtkcjcdkmdooofaaW.PrintLast Go.Proofs.YtkcjcdkmdooofaaW.PrintMore
attribute [local go_sem] max2_int min2_int max_two min_two max_three min_three max_four min_four
set_option linter.unusedVariables false
set_option linter.unusedSimpArgs false
attribute [local go_sem high] eqA37
def interlockref11_SameHeld.l0 : Nat → List (S37) → List (S37) → Int → Option (Bool)
  | 0, _, _, _ => none
  | k + 1, x0, x1, x5 => if x5 < (x0.length : Int) then (if 0 ≤ x5 then (if x5 < (x1.length : Int) then (if (!(((rd_T37 x0 x5).f0) == ((rd_T37 x1 x5).f0)) || (!(((rd_T37 x0 x5).f1) == ((rd_T37 x1 x5).f1)) || (!(((rd_T37 x0 x5).f2) == ((rd_T37 x1 x5).f2))))) = true then (some false) else (interlockref11_SameHeld.l0 k x0 x1 (wrap64 (x5 + 1)))) else (none)) else (none)) else (some true)
def interlockref11_SameHeld.f (k : Nat) (l0 : List (S37)) (l1 : List (S37)) : Option (Bool) := if (l0.length : Int) = (l1.length : Int) then (interlockref11_SameHeld.l0 k l0 l1 0) else (some false)
theorem interlockref11_SameHeld.mono_l : ∀ k, (∀ y0 y1 y2, LeO (interlockref11_SameHeld.l0 k y0 y1 y2) (interlockref11_SameHeld.l0 (k + 1) y0 y1 y2))
  | 0 => fun _ _ _ r h => by simp [interlockref11_SameHeld.l0] at h
  | k + 1 => by
    have ih0 := interlockref11_SameHeld.mono_l k
    · intro y0 y1 y2
      unfold interlockref11_SameHeld.l0
      repeat' first
      | (with_reducible exact ih0 _ _ _)
      | (with_reducible exact LeO.refl _)
      | (with_reducible exact LeO.none _)
      | (with_reducible refine LeO.ite ?_ ?_)
      | (with_reducible refine LeO.bind ?_ (fun _ => ?_))
      | exact ih0 _ _ _
      | exact LeO.none _
      | refine LeO.ite ?_ ?_
      | refine LeO.bind ?_ (fun _ => ?_)
theorem interlockref11_SameHeld.mono : ∀ a0 a1 k, LeO (interlockref11_SameHeld.f k a0 a1) (interlockref11_SameHeld.f (k + 1) a0 a1) := by
  intro a0 a1 k
  have ih0 := interlockref11_SameHeld.mono_l k
  unfold interlockref11_SameHeld.f
  repeat' first
      | (with_reducible exact ih0 _ _ _)
      | (with_reducible exact LeO.refl _)
      | (with_reducible exact LeO.none _)
      | (with_reducible refine LeO.ite ?_ ?_)
      | (with_reducible refine LeO.bind ?_ (fun _ => ?_))
      | exact ih0 _ _ _
      | exact LeO.none _
      | refine LeO.ite ?_ ?_
      | refine LeO.bind ?_ (fun _ => ?_)
set_option maxHeartbeats 8000000 in
set_option maxRecDepth 100000 in
theorem interlockref11_SameHeld.calls (k : Nat) (A0 : Option Addr) (c0 : Nat) (l0 : List (S37)) (A1 : Option Addr) (c1 : Nat) (l1 : List (S37)) (r : Bool) (w : World) (hr0 : Kd.C k37 w A0 l0.length l0) (hc0 : l0.length ≤ c0) (hr1 : Kd.C k37 w A1 l1.length l1) (hc1 : l1.length ≤ c1) (h : interlockref11_SameHeld.f k l0 l1 = some r) :
    Calls Try.prog 22 #[.slice A0 l0.length c0, .slice A1 l1.length c1] w fun e w' => e = .returned (.bool r) ∧ Drawn0 w w' := by
  have hu37 := Try.underlying37
  have HR0 := Aside0.mk hr0
  have HC0 := Aside0.mk hc0
  clear hr0 hc0
  have HR1 := Aside0.mk hr1
  have HC1 := Aside0.mk hc1
  clear hr1 hc1
  have H : (if (l0.length : Int) = (l1.length : Int) then (interlockref11_SameHeld.l0 k l0 l1 0) else (some false)) = some r := h
  clear h
  by_cases c3 : (l0.length : Int) = (l1.length : Int)
  · rw [if_pos c3] at H
    have c3b0 : ((l0.length : Int) == (l1.length : Int)) = true := beq_iff_eq.mpr c3
    have c3b1 : ((l0.length : Int) != (l1.length : Int)) = false := bne_eq_false_iff_eq.mpr c3
    have c3b2 : (l0.length == l1.length) = true := by first | simpa using c3 | (simp at c3 ⊢; omega)
    clear c3
    have H' := Aside0.mk H
    clear H
    go_enter Try.func22, Try.ntmps22
    go_wp2
    repeat (go_quiet (fail); try go_wp2)
    go_loopg [5] k (fun kq v5 w' => ∃ (x5_1 : Int), v5 = .int .i64 x5_1 ∧ Aside0 (interlockref11_SameHeld.l0 kq l0 l1 x5_1 = some r) ∧ Aside0 (kq ≤ k) ∧ Drawn0 w w')
    case atStart => exact ⟨(0), (by first | rfl | (simp; done) | (simp [*]; done)), H', ⟨Nat.le_refl _⟩, by repeat (first | exact Drawn0.refl _ | apply Drawn0.step)⟩
    case round =>
      clear H'
      try clear c1
      try clear c2
      try clear p2
      try clear c3
      try clear c3b0
      try clear c3b1
      try clear c3b2
      obtain ⟨x5_1, rfl, HA, HK1, ⟨m1, rfl⟩⟩ := hrel
      cases gk with
      | zero => exact absurd HA.out (by simp [interlockref11_SameHeld.l0])
      | succ k1 =>
        have H := HA.out
        clear HA
        simp only [interlockref11_SameHeld.l0] at H
        by_cases c4 : x5_1 < (l0.length : Int)
        · rw [if_pos c4] at H
          have c4b0 : decide (x5_1 < (l0.length : Int)) = true := decide_eq_true c4
          clear c4
          by_cases c5 : 0 ≤ x5_1
          · rw [if_pos c5] at H
            have c5b0 : decide (0 ≤ x5_1) = true := decide_eq_true c5
            clear c5
            by_cases c6 : x5_1 < (l1.length : Int)
            · rw [if_pos c6] at H
              have c6b0 : decide (x5_1 < (l1.length : Int)) = true := decide_eq_true c6
              clear c6
              by_cases c7 : (!(((rd_T37 l0 x5_1).f0) == ((rd_T37 l1 x5_1).f0)) || (!(((rd_T37 l0 x5_1).f1) == ((rd_T37 l1 x5_1).f1)) || (!(((rd_T37 l0 x5_1).f2) == ((rd_T37 l1 x5_1).f2))))) = true
              · rw [if_pos c7] at H
                have c7b0 : (!(((rd_T37 l0 x5_1).f0) == ((rd_T37 l1 x5_1).f0)) || (!(((rd_T37 l0 x5_1).f1) == ((rd_T37 l1 x5_1).f1)) || (!(((rd_T37 l0 x5_1).f2) == ((rd_T37 l1 x5_1).f2))))) = true := c7
                clear c7
                obtain rfl := Option.some.inj H
                have p370 : 0 ≤ (x5_1 : Int) := of_decide_eq_true (by first | (with_reducible assumption) | assumption)
                have q370 : x5_1 < (l0.length : Int) := of_decide_eq_true (by first | (with_reducible assumption) | assumption)
                obtain ⟨ad370, e370, hx370_0, hx370_1, hx370_2⟩ := at_T37 HR0.out x5_1 p370 q370
                cases e370
                replace p370 := eq_true p370
                replace q370 := eq_true q370
                have p371 : 0 ≤ (x5_1 : Int) := of_decide_eq_true (by first | (with_reducible assumption) | assumption)
                have q371 : x5_1 < (l1.length : Int) := of_decide_eq_true (by first | (with_reducible assumption) | assumption)
                obtain ⟨ad371, e371, hx371_0, hx371_1, hx371_2⟩ := at_T37 HR1.out x5_1 p371 q371
                cases e371
                replace p371 := eq_true p371
                replace q371 := eq_true q371
                go_wp2
                repeat (go_quiet (fail); try go_wp2)
                go_ret
                exact ⟨by first | rfl | (simp; done) | (simp [*]; done), by repeat (first | exact Drawn0.refl _ | apply Drawn0.step)⟩
              · rw [if_neg c7] at H
                have c7b0 : (!(((rd_T37 l0 x5_1).f0) == ((rd_T37 l1 x5_1).f0)) || (!(((rd_T37 l0 x5_1).f1) == ((rd_T37 l1 x5_1).f1)) || (!(((rd_T37 l0 x5_1).f2) == ((rd_T37 l1 x5_1).f2))))) = false := by simpa using c7
                clear c7
                have H' := Aside0.mk H
                clear H
                have p370 : 0 ≤ (x5_1 : Int) := of_decide_eq_true (by first | (with_reducible assumption) | assumption)
                have q370 : x5_1 < (l0.length : Int) := of_decide_eq_true (by first | (with_reducible assumption) | assumption)
                obtain ⟨ad370, e370, hx370_0, hx370_1, hx370_2⟩ := at_T37 HR0.out x5_1 p370 q370
                cases e370
                replace p370 := eq_true p370
                replace q370 := eq_true q370
                have p371 : 0 ≤ (x5_1 : Int) := of_decide_eq_true (by first | (with_reducible assumption) | assumption)
                have q371 : x5_1 < (l1.length : Int) := of_decide_eq_true (by first | (with_reducible assumption) | assumption)
                obtain ⟨ad371, e371, hx371_0, hx371_1, hx371_2⟩ := at_T37 HR1.out x5_1 p371 q371
                cases e371
                replace p371 := eq_true p371
                replace q371 := eq_true q371
                go_wp2
                repeat (go_quiet (fail); try go_wp2)
                go_roundg k1
                case measure => have := HK1.out; omega
                case rel => exact ⟨(wrap64 (x5_1 + 1)), (by first | rfl | (simp; done) | (simp [*]; done)), H', ⟨by have := HK1.out; omega⟩, by repeat (first | exact Drawn0.refl _ | apply Drawn0.step)⟩
            · rw [if_neg c6] at H
              exact absurd H (by simp)
          · rw [if_neg c5] at H
            exact absurd H (by simp)
        · rw [if_neg c4] at H
          have c4b0 : decide (x5_1 < (l0.length : Int)) = false := decide_eq_false c4
          clear c4
          obtain rfl := Option.some.inj H
          go_wp2
          repeat (go_quiet (fail); try go_wp2)
          go_ret
          exact ⟨by first | rfl | (simp; done) | (simp [*]; done), by repeat (first | exact Drawn0.refl _ | apply Drawn0.step)⟩
  · rw [if_neg c3] at H
    have c3b0 : ((l0.length : Int) == (l1.length : Int)) = false := beq_eq_false_iff_ne.mpr c3
    have c3b1 : ((l0.length : Int) != (l1.length : Int)) = true := bne_iff_ne.mpr c3
    have c3b2 : (l0.length == l1.length) = false := by first | simpa using c3 | (simp at c3 ⊢; omega)
    obtain rfl := Option.some.inj H
    go_enter Try.func22, Try.ntmps22
    go_wp2
    repeat (go_quiet (fail); try go_wp2)
    go_ret
    exact ⟨by first | rfl | (simp; done) | (simp [*]; done), by repeat (first | exact Drawn0.refl _ | apply Drawn0.step)⟩
end Go.Proofs.Ytkcjcdkmdooofaa.Q
end
section
namespace Go.Proofs.Kb
open Go Go.RowKit Go.Proofs.Ytkcjcdkmdooofaa.Q Go.Proofs.YtkcjcdkmdooofaaW.PrintWords Go.Proofs.YtkcjcdkmdooofaaW.PrintLast Go.Proofs.YtkcjcdkmdooofaaW.PrintMore
set_option linter.unusedVariables false
set_option linter.unusedSimpArgs false
set_option maxRecDepth 100000
open Go.Proofs.Lk Go.Proofs.Mp
theorem nodup_le {α : Type} : ∀ {l l' : List α}, l.Nodup → (∀ x ∈ l, x ∈ l') → l.length ≤ l'.length
  | [], l', _, _ => Nat.zero_le _
  | x :: r, l', hn, hs => by
    obtain ⟨hx, hn⟩ := List.nodup_cons.1 hn
    obtain ⟨A, B, rfl⟩ := List.append_of_mem (hs x List.mem_cons_self)
    have : r.length ≤ (A ++ B).length := nodup_le hn fun y hy => by
      have h1 := hs y (List.mem_cons_of_mem _ hy)
      rw [List.mem_append, List.mem_cons] at h1
      rw [List.mem_append]
      rcases h1 with h1 | rfl | h1
      · exact .inl h1
      · exact absurd hy hx
      · exact .inr h1
    rw [List.length_append] at this ⊢
    rw [List.length_cons, List.length_cons]
    omega
def SoH (s : LS S29) : Prop := ∀ x, Sorted (s.held x)
theorem so_noted {s : LS S29} (h : SoH s) (t : S29) (x : Int) : SoH (Lk.noted haddT t s x) := fun y => by
  show Sorted (upd s.held x (haddT (s.held x) t) y)
  by_cases hy : y = x
  · subst hy
    rw [upd_same]
    exact haddT_sorted (h y) t
  · rw [upd_other hy]
    exact h y
theorem so_fold (t : S29) : ∀ (out : List Int) {s : LS S29}, SoH s → SoH (out.foldl (Lk.noted haddT t) s)
  | [], s, h => h
  | x :: out, s, h => so_fold t out (so_noted h t x)
theorem so_sweep {s : LS S29} (h : SoH s) (t : S29) : SoH (sweepS haddT s t).1 := so_fold t _ (s := ⟨upd s.rows t (sweepR (s.rows t)).1, s.waits, s.held⟩) h
theorem so_sweeps : ∀ (l : List S29) {s : LS S29}, SoH s → SoH (sweepsS haddT l s).1
  | [], s, h => h
  | t :: l, s, h => so_sweeps l (so_sweep h t)
theorem so_release {s : LS S29} (h : SoH s) (x : Int) : SoH (releaseS haddT s x).1 := so_sweeps _ fun y => by
  show Sorted (upd s.held x [] y)
  by_cases hy : y = x
  · rw [hy, upd_same]
    exact List.Pairwise.nil
  · rw [upd_other hy]
    exact h y
theorem so_cancel {s : LS S29} (h : SoH s) (x : Int) : SoH (cancelS haddT s x).1 := by
  unfold cancelS
  split
  · exact h
  · exact so_sweep (s := ⟨upd s.rows _ _, upd s.waits x none, s.held⟩) h _
theorem so_ask {s : LS S29} (h : SoH s) (x : Int) (t : S29) (m : Int) : SoH (askS haddT fitsT s x t m).1 := by
  unfold askS
  split
  · split
    · exact h
    · unfold askR
      dsimp only
      split
      · exact h
      · split
        · exact h
        · intro y
          show Sorted (upd s.held x (haddT (s.held x) t) y)
          by_cases hy : y = x
          · subst hy
            rw [upd_same]
            exact haddT_sorted (h y) t
          · rw [upd_other hy]
            exact h y
  · exact h
theorem so_step {s : LS S29} (h : SoH s) (c : Cal S29) : SoH (stepS haddT fitsT s c) := by
  unfold stepS
  split
  · exact so_ask h _ _ _
  · split
    · exact so_cancel h _
    · split
      · exact so_release h _
      · exact h
structure Good (X : List Int) (D : List S29) (s : LS S29) : Prop where
  inv : LInv s
  am : ∀ t x, pres s t x → x ∈ X ∧ t ∈ D ∧ fitsT t = true
  so : SoH s
  xl : X.length ≤ 299
  dl : D.length ≤ 1000
  xw : ∀ x ∈ X, wfI x
  dw : ∀ t ∈ D, wfT t
section
variable {X : List Int} {D : List S29} {s : LS S29}
theorem Good.ok (h : Good X D s) : OkS D.length s := by
  refine ⟨fun t => ⟨(h.inv.row t).hn, ?_, fun o ho => h.xw _ (h.am t o.1 (.inr (has_iff.2 ⟨o, ho, rfl⟩))).1⟩, fun x => ⟨h.so x, ?_⟩, fun x t ht => h.dw t (h.am t x (.inr ((h.inv.ww x t).1 ht))).2.1, fun x t ht => h.dw t (h.am t x (.inl ((h.inv.hh x t).1 ht))).2.1⟩
  · have h1 : (s.rows t).holds.length ≤ X.length := by
      have := nodup_le (h.inv.row t).hn (l' := X) fun x hx => by
        obtain ⟨o, ho, rfl⟩ := List.mem_map.1 hx
        exact (h.am t o.1 (.inl (has_iff.2 ⟨o, ho, rfl⟩))).1
      simpa using this
    have h2 : (s.rows t).waits.length ≤ X.length := by
      have := nodup_le (h.inv.row t).wn (l' := X) fun x hx => by
        obtain ⟨o, ho, rfl⟩ := List.mem_map.1 hx
        exact (h.am t o.1 (.inr (has_iff.2 ⟨o, ho, rfl⟩))).1
      simpa using this
    have := h.xl
    omega
  · refine nodup_le ?_ fun t ht => (h.am t x (.inl ((h.inv.hh x t).1 ht))).2.1
    refine List.Pairwise.imp ?_ (h.so x)
    intro a b hab e
    rw [e] at hab
    exact ltT_irr b hab
theorem Good.step (h : Good X D s) (c : Cal S29) (hx : c.txn ∈ X) (ht : c.thing ∈ D) : Good X D (stepS haddT fitsT s c) :=
  ⟨step_inv mem_haddT h.inv c, fun t x hp => by
    rcases step_pres mem_haddT h.inv c hp with h1 | ⟨rfl, rfl, h1⟩
    · exact h.am t x h1
    · exact ⟨hx, ht, h1⟩, so_step h.so c, h.xl, h.dl, h.xw, h.dw⟩
theorem Good.ask (h : Good X D s) {x : Int} {t : S29} (m : Int) (hx : x ∈ X) (ht : t ∈ D) : Good X D (askS haddT fitsT s x t m).1 := h.step ⟨0, x, t, m⟩ hx ht
theorem Good.release (h : Good X D s) (x : Int) : Good X D (releaseS haddT s x).1 :=
  ⟨release_inv mem_haddT x h.inv, fun t y hp => h.am t y (release_pres mem_haddT h.inv hp).1, so_release h.so x, h.xl, h.dl, h.xw, h.dw⟩
theorem Good.new (hX : X.length ≤ 299) (hD : D.length ≤ 1000) (hx : ∀ x ∈ X, wfI x) (hd : ∀ t ∈ D, wfT t) : Good X D LS.new :=
  ⟨new_inv, fun t x hp => by rcases hp with h | h <;> simp [LS.new, has] at h, fun x => List.Pairwise.nil, hX, hD, hx, hd⟩
end
theorem rowX_C {α : Type} {E : EncT α} {d : Kd α} (hs : d.sz = E.sz) (hk : ∀ (w : World) x, d.K w x (E.enc x)) {w : World} {v : Value} {l : List α} (h : RowX E w v l) (hn : l.length < 100000) : ∃ A c, v = .slice A l.length c ∧ l.length ≤ c ∧ d.C w A l.length l := by
  by_cases h0 : 0 < l.length
  · obtain ⟨g, c, rfl, hc⟩ := row_slice h h0
    refine ⟨_, c, rfl, hc, rfl, by omega, fun _ => ⟨⟨g, 0, none⟩, rfl, fun j p hj => ⟨E.enc p, by rw [E.len, hs], hk w p, fun i u hu => ?_⟩⟩⟩
    have hi : i < E.sz := by have := (List.getElem?_eq_some_iff.1 hu).1; rw [E.len] at this; exact this
    have h1 := RowX.cell h hj i hi u hu
    rw [Addr.add_lit, Nat.zero_add, hs]
    exact h1
  · have hks : l = [] := List.eq_nil_of_length_eq_zero (by omega)
    subst hks
    rcases h.2.2 with ⟨rfl, _⟩ | ⟨g, c, cur, rfl, _, hc, _⟩
    · exact ⟨none, 0, rfl, Nat.le_refl _, rfl, by simp, fun h => absurd h (by simp)⟩
    · exact ⟨_, c, rfl, hc, rfl, by simp, fun h => absurd h (by simp)⟩
def calOf (c : S33) : Cal S29 := ⟨c.f0, c.f1, c.f2.f0, c.f2.f1⟩
def callV (c : S33) : Value := .agg #[.int .i64 c.f0, .int .i64 c.f1, .int .i64 c.f2.f0.f0, .string c.f2.f0.f1, .string c.f2.f0.f2, .int .i64 c.f2.f1]
section
variable {w0 w : World} {F : Nat → Prop} {R : List Chunk} {M : LM} {s : LS S29} {X : List Int} {D : List S29}
theorem ask_fr {x m : Int} {t : S29} (hs : St w0 F w (lk M ++ R)) (hr : Rep M s) (hg : Good X D s) (hx : wfI x) (ht : wfT t) (hn : M.tot < 4000000000000000000) :
    Calls Try.prog 17 #[lpV M, .int .i64 x, wantV t m] w fun E w' => ∃ M', E = AskE (askS haddT fitsT s x t m) ∧ Rep M' (askS haddT fitsT s x t m).1 ∧ M'.lp = M.lp ∧ M'.tot ≤ M.tot + 10 ∧ St w0 F w' (lk M' ++ R) :=
  (ask_calls w M s x t m _ D.length (St.sub hs) hr hg.inv hx ht hg.ok hg.dl hn).mono fun E w' ⟨M', h1, h2, h3, h4, h5⟩ => ⟨M', h1, h2, h3, h4, St.call hs h5⟩
theorem cancel_fr {x : Int} (hs : St w0 F w (lk M ++ R)) (hr : Rep M s) (hg : Good X D s) (hx : wfI x) (hn : M.tot < 4000000000000000000) :
    Calls Try.prog 26 #[lpV M, .int .i64 x] w fun E w' => ∃ M' v, E = .returned v ∧ Rep M' (cancelS haddT s x).1 ∧ M'.lp = M.lp ∧ M'.tot ≤ M.tot + 700 ∧ St w0 F w' (lk M' ++ [rowIC v (cancelS haddT s x).2] ++ R) :=
  (cancel_calls w M s x _ D.length (St.sub hs) hr hg.inv hx hg.ok (by have := hg.dl; omega) hn).mono fun E w' ⟨M', v, h1, h2, h3, h4, h5⟩ => ⟨M', v, h1, h2, h3, h4, St.call hs h5⟩
theorem release_fr {x : Int} (hs : St w0 F w (lk M ++ R)) (hr : Rep M s) (hg : Good X D s) (hx : wfI x) (hn : M.tot < 4000000000000000000) :
    Calls Try.prog 21 #[lpV M, .int .i64 x] w fun E w' => ∃ M' v, E = .returned v ∧ Rep M' (releaseS haddT s x).1 ∧ M'.lp = M.lp ∧ M'.tot ≤ M.tot + 1000000 ∧ St w0 F w' (lk M' ++ [rowIC v (releaseS haddT s x).2] ++ R) :=
  (release_calls w M s x _ D.length (St.sub hs) hr hx hg.ok hg.dl hn).mono fun E w' ⟨M', v, h1, h2, h3, h4, h5⟩ => ⟨M', v, h1, h2, h3, h4, St.call hs h5⟩
theorem blockers_fr {x : Int} (hs : St w0 F w (lk M ++ R)) (hr : Rep M s) (hg : Good X D s) (hx : wfI x) (hn : M.tot < 4000000000000000000) :
    Calls Try.prog 16 #[lpV M, .int .i64 x] w fun E w' => ∃ M' v, E = .returned v ∧ Rep M' s ∧ M'.lp = M.lp ∧ M'.tot ≤ M.tot + 10 ∧ St w0 F w' (lk M' ++ [rowIC v (blockS srtI s x)] ++ R) :=
  (lblockers_calls w M s x _ D.length (St.sub hs) hr hg.inv hx hg.ok hn).mono fun E w' ⟨M', v, h1, h2, h3, h4, h5⟩ => ⟨M', v, h1, h2, h3, h4, St.call hs h5⟩
theorem mode_fr {x : Int} {t : S29} (hs : St w0 F w (lk M ++ R)) (hr : Rep M s) (hg : Good X D s) (ht : wfT t) :
    Calls Try.prog 19 #[lpV M, .int .i64 x, thgV t] w fun E w' => E = .returned (.int .i64 (modeD s x t)) ∧ St w0 F w' (lk M ++ R) :=
  (mode_calls w M s x t _ D.length (St.sub hs) hr ht hg.ok).mono fun E w' ⟨h1, h2⟩ => ⟨h1, St.call hs h2⟩
theorem state_fr {t : S29} (hs : St w0 F w (lk M ++ R)) (hr : Rep M s) (hg : Good X D s) (ht : wfT t) :
    Calls Try.prog 14 #[lpV M, thgV t] w fun E w' => ∃ v, E = .returned v ∧ St w0 F w' (lk M ++ [rowHC v (stateL (s.rows t))] ++ R) :=
  (state_calls w M s t _ D.length (St.sub hs) hr ht hg.ok).mono fun E w' ⟨v, h1, h2⟩ => ⟨v, h1, St.call hs h2⟩
theorem new_fr (hs : St w0 F w R) : Calls Try.prog 12 #[] w fun E w' => ∃ M, E = .returned (lpV M) ∧ Rep M LS.new ∧ M.tot = 0 ∧ St w0 F w' (lk M ++ R) :=
  (new_calls w).mono fun E w' ⟨M, h1, h2, h3, h4⟩ => ⟨M, h1, h2, h3, St.call0 hs h4⟩
def Do13 (w0 : World) (F : Nat → Prop) (M : LM) (s : LS S29) (R : List Chunk) (E : Ending) (w' : World) : Prop :=
  ∃ M', E = .returned (.tuple #[]) ∧ Rep M' s ∧ M'.lp = M.lp ∧ M'.tot ≤ M.tot + 1000000 ∧ St w0 F w' (lk M' ++ R)
set_option maxHeartbeats 4000000 in
theorem do_calls (c : S33) (hs : St w0 F w (lk M ++ R)) (hr : Rep M s) (hg : Good X D s) (hx : wfI c.f1) (ht : wfT c.f2.f0) (hn : M.tot < 4000000000000000000) :
    Calls Try.prog 13 #[lpV M, callV c] w (Do13 w0 F M (stepS haddT fitsT s (calOf c)) R) := by
  obtain ⟨s', hs'⟩ : ∃ s', stepS haddT fitsT s (calOf c) = s' := ⟨_, rfl⟩
  rw [hs']
  obtain ⟨Q, hQ⟩ : ∃ Q, Do13 w0 F M s' R = Q := ⟨_, rfl⟩
  have HQ := Aside0.mk hQ
  rw [hQ]
  have hu33 := Try.underlying33
  have hu31 := Try.underlying31
  have hu29 := Try.underlying29
  obtain ⟨n3, hn3⟩ : ∃ n, w.heap.size = n := ⟨_, rfl⟩
  obtain ⟨W0, hW0⟩ : ∃ W0, w.alloc (.cells #[.int .i64 c.f0, .int .i64 c.f1, .int .i64 c.f2.f0.f0, .string c.f2.f0.f1, .string c.f2.f0.f2, .int .i64 c.f2.f1] 33) = W0 := ⟨_, rfl⟩
  have hs0 : St w0 F W0 (lk M ++ (R ++ [blkC n3 (.cells #[.int .i64 c.f0, .int .i64 c.f1, .int .i64 c.f2.f0.f0, .string c.f2.f0.f1, .string c.f2.f0.f2, .int .i64 c.f2.f1] 33 (0, 0))])) := by
    have h := hs.alloc #[.int .i64 c.f0, .int .i64 c.f1, .int .i64 c.f2.f0.f0, .string c.f2.f0.f1, .string c.f2.f0.f2, .int .i64 c.f2.f1] 33 hn3
    rw [hW0, List.append_assoc] at h
    exact h
  have hblk : W0.heap[n3]? = some (.cells #[.int .i64 c.f0, .int .i64 c.f1, .int .i64 c.f2.f0.f0, .string c.f2.f0.f1, .string c.f2.f0.f2, .int .i64 c.f2.f1] 33 (0, 0)) := by
    rw [← hW0, ← hn3]
    exact heap_alloc_new w _
  have e0 := (blk_cell hblk 0).trans rfl
  have e1 := (blk_cell hblk 1).trans rfl
  have e2 := (blk_cell hblk 2).trans rfl
  have e3 := (blk_cell hblk 3).trans rfl
  have e4 := (blk_cell hblk 4).trans rfl
  have e5 := (blk_cell hblk 5).trans rfl
  have h0 := lt_of_some hblk
  have HS0 := Aside0.mk hs0
  have A17 := Aside0.mk (ask_fr (m := c.f2.f1) hs0 hr hg hx ht hn)
  have A26 := Aside0.mk (cancel_fr hs0 hr hg hx hn)
  have A21 := Aside0.mk (release_fr hs0 hr hg hx hn)
  have HREP := Aside0.mk hr
  have HS' := Aside0.mk hs'
  unfold lpV wantV at A17
  unfold lpV at A26 A21
  clear hQ hs hr hg hx ht hn hs0 hblk hs'
  unfold lpV callV
  by_cases c0 : c.f0 = 0
  · have e : s' = (askS haddT fitsT s c.f1 c.f2.f0 c.f2.f1).1 := by rw [← HS'.out]; unfold stepS calOf; rw [if_pos c0]
    have HE := Aside0.mk e
    have d0 : (c.f0 == 0) = true := beq_iff_eq.2 c0
    clear e c0
    go_enter Try.func13, Try.ntmps13
    go_wp2_with (go_at_call 17; refine A17.out.mono ?_; rintro E w2 ⟨M2, hE, k1, k2, k3, k4⟩; unfold AskE at hE; subst hE; have K1 := Aside0.mk k1; have K2 := Aside0.mk k2; have K3 := Aside0.mk k3; have HS2 := Aside0.mk k4; clear k1 k2 k3 k4 e0 e1 e2 e3 e4 e5 h0)
    go_end0
    rw [← HQ.out, HE.out]
    refine ⟨M2, rfl, K1.out, K2.out, by have := K3.out; omega, ?_⟩
    have h1 := HS2.out
    rw [← List.append_assoc] at h1
    exact St.left h1
  · by_cases c1 : c.f0 = 1
    · have e : s' = (cancelS haddT s c.f1).1 := by rw [← HS'.out]; unfold stepS calOf; rw [if_neg c0, if_pos c1]
      have HE := Aside0.mk e
      have d0 : (c.f0 == 0) = false := beq_eq_false_iff_ne.2 c0
      have d1 : (c.f0 == 1) = true := beq_iff_eq.2 c1
      clear e c0 c1
      go_enter Try.func13, Try.ntmps13
      go_wp2_with (go_at_call 26; refine A26.out.mono ?_; rintro E w2 ⟨M2, v, rfl, k1, k2, k3, k4⟩; have K1 := Aside0.mk k1; have K2 := Aside0.mk k2; have K3 := Aside0.mk k3; have HS2 := Aside0.mk k4; clear k1 k2 k3 k4 e0 e1 e2 e3 e4 e5 h0)
      go_end0
      rw [← HQ.out, HE.out]
      refine ⟨M2, rfl, K1.out, K2.out, by have := K3.out; omega, ?_⟩
      have h1 := HS2.out
      rw [← List.append_assoc] at h1
      exact (St.drop (A := [_]) ((St.left h1).perm (B := [_] ++ (lk M2 ++ R)) (by rw [List.append_assoc]; exact List.perm_middle)))
    · by_cases c2 : c.f0 = 2
      · have e : s' = (releaseS haddT s c.f1).1 := by rw [← HS'.out]; unfold stepS calOf; rw [if_neg c0, if_neg c1, if_pos c2]
        have HE := Aside0.mk e
        have d0 : (c.f0 == 0) = false := beq_eq_false_iff_ne.2 c0
        have d1 : (c.f0 == 1) = false := beq_eq_false_iff_ne.2 c1
        have d2 : (c.f0 == 2) = true := beq_iff_eq.2 c2
        clear e c0 c1 c2
        go_enter Try.func13, Try.ntmps13
        go_wp2_with (go_at_call 21; refine A21.out.mono ?_; rintro E w2 ⟨M2, v, rfl, k1, k2, k3, k4⟩; have K1 := Aside0.mk k1; have K2 := Aside0.mk k2; have K3 := Aside0.mk k3; have HS2 := Aside0.mk k4; clear k1 k2 k3 k4 e0 e1 e2 e3 e4 e5 h0)
        go_end0
        rw [← HQ.out, HE.out]
        refine ⟨M2, rfl, K1.out, K2.out, by have := K3.out; omega, ?_⟩
        have h1 := HS2.out
        rw [← List.append_assoc] at h1
        exact (St.drop (A := [_]) ((St.left h1).perm (B := [_] ++ (lk M2 ++ R)) (by rw [List.append_assoc]; exact List.perm_middle)))
      · have e : s' = s := by rw [← HS'.out]; unfold stepS calOf; rw [if_neg c0, if_neg c1, if_neg c2]
        have HE := Aside0.mk e
        clear e
        go_enter Try.func13, Try.ntmps13
        go_wp2
        go_end0
        rw [← HQ.out, HE.out]
        refine ⟨M, rfl, HREP.out, rfl, Nat.le_add_right _ _, ?_⟩
        have h1 := HS0.out
        rw [← List.append_assoc] at h1
        exact St.left h1
end
end Go.Proofs.Kb
end
section
namespace Go.Proofs.Kb
open Go Go.RowKit Go.Proofs.Ytkcjcdkmdooofaa.Q Go.Proofs.YtkcjcdkmdooofaaW.PrintWords Go.Proofs.YtkcjcdkmdooofaaW.PrintLast Go.Proofs.YtkcjcdkmdooofaaW.PrintMore
set_option linter.unusedVariables false
set_option linter.unusedSimpArgs false
set_option maxRecDepth 100000
open Go.Proofs.Lk Go.Proofs.Mp
theorem great_l0 (l : List S33) (hn : l.length ≤ 120) : ∀ (k i : Nat), i ≤ l.length → l.length < i + k → ∃ b, interlocklaw11_great.l0 k l (i : Int) = some b
  | 0, i, h1, h2 => by omega
  | k + 1, i, h1, h2 => by
    unfold interlocklaw11_great.l0
    by_cases h : i < l.length
    · rw [if_pos (by omega), if_pos (by omega)]
      split
      · exact ⟨_, rfl⟩
      · split
        · exact ⟨_, rfl⟩
        · rw [show wrap64 ((i : Int) + 1) = ((i + 1 : Nat) : Int) by rw [IntWalk.wrap64_in _ (by omega)]; omega]
          exact great_l0 l hn k (i + 1) (by omega) (by omega)
    · rw [if_neg (by omega)]
      exact ⟨_, rfl⟩
theorem same_l0 (l m : List Int) (hlm : l.length = m.length) (hn : l.length < 100000) : ∀ (k i : Nat), i ≤ l.length → l.length < i + k → interlockref00_SameInts.l0 k l m (i : Int) = some (decide (l.drop i = m.drop i))
  | 0, i, h1, h2 => by omega
  | k + 1, i, h1, h2 => by
    unfold interlockref00_SameInts.l0
    by_cases h : i < l.length
    · have hd : l.drop i = l[i] :: l.drop (i + 1) := List.drop_eq_getElem_cons h
      have hd2 : m.drop i = m[i]'(by omega) :: m.drop (i + 1) := List.drop_eq_getElem_cons (by omega)
      have hr : rd l (i : Int) = l[i] := by simp [rd, List.getD_eq_getElem?_getD, List.getElem?_eq_getElem h]
      have hr2 : rd m (i : Int) = m[i]'(by omega) := by simp [rd, List.getD_eq_getElem?_getD, List.getElem?_eq_getElem (show i < m.length by omega)]
      rw [if_pos (by omega), if_pos (by omega), if_pos (by omega), hr, hr2]
      by_cases e : l[i] = m[i]'(by omega)
      · rw [if_pos e, show wrap64 ((i : Int) + 1) = ((i + 1 : Nat) : Int) by rw [IntWalk.wrap64_in _ (by omega)]; omega, same_l0 l m hlm hn k (i + 1) (by omega) (by omega)]
        refine congrArg some (decide_eq_decide.2 ?_)
        rw [hd, hd2, e]
        exact ⟨fun h => by rw [h], fun h => (List.cons.inj h).2⟩
      · rw [if_neg e]
        refine congrArg some (decide_eq_false ?_).symm
        rw [hd, hd2]
        exact fun h => e (List.cons.inj h).1
    · rw [if_neg (by omega), List.drop_eq_nil_of_le (by omega), List.drop_eq_nil_of_le (by omega)]
      simp
theorem same_f (l m : List Int) (hn : l.length < 100000) : interlockref00_SameInts.f 100001 l m = some (decide (l = m)) := by
  unfold interlockref00_SameInts.f
  by_cases h : l.length = m.length
  · rw [if_pos (by omega)]
    have := same_l0 l m h hn 100001 0 (Nat.zero_le _) (by omega)
    simpa using this
  · rw [if_neg (by omega)]
    have : ¬ l = m := fun e => h (by rw [e])
    simp [this]
theorem sameints_calls (w : World) (v u : Value) (l m : List Int) (hv : RowX intE w v l) (hu : RowX intE w u m) (hl : l.length < 100000) (hm : m.length < 100000) :
    Calls Try.prog 25 #[v, u] w fun E w' => E = .returned (.bool (decide (l = m))) ∧ Below w.heap.size w w' := by
  have hk : ∀ (w : World) (x : Int), (Kd.int .i64).K w x (intE.enc x) := fun w x => rfl
  obtain ⟨A, c, rfl, h1, h2⟩ := rowX_C (d := Kd.int .i64) rfl hk hv hl
  obtain ⟨A', c', rfl, h3, h4⟩ := rowX_C (d := Kd.int .i64) rfl hk hu hm
  exact (interlockref00_SameInts.calls 100001 A c l A' c' m _ w h2 h1 h4 h3 (same_f l m hl)).mono fun E w' h => ⟨h.1, h.2.below⟩
theorem lit_row {w : World} {b : Nat} {x : Int} (h : w.heap[b]? = some (.cells #[.int .i64 x] 3 (0, 0))) : RowX intE w (.slice (some ⟨b, 0, none⟩) 1 1) [x] :=
  ⟨rfl, fun u hu => (by rw [List.mem_singleton.1 hu]; rfl), .inr ⟨b, 1, _, rfl, h, Nat.le_refl _, by decide, Nat.le_refl _, rfl⟩⟩
theorem sorted_ext : ∀ {a b : List Int}, a.Pairwise (· < ·) → b.Pairwise (· < ·) → (∀ x, x ∈ a ↔ x ∈ b) → a = b
  | [], [], _, _, _ => rfl
  | [], y :: b, _, _, h => by have := (h y).2 List.mem_cons_self; cases this
  | x :: a, [], _, _, h => by have := (h x).1 List.mem_cons_self; cases this
  | x :: a, y :: b, ha, hb, h => by
    obtain ⟨ha1, ha2⟩ := List.pairwise_cons.1 ha
    obtain ⟨hb1, hb2⟩ := List.pairwise_cons.1 hb
    have e : x = y := by
      have h1 := (h x).1 List.mem_cons_self
      have h2 := (h y).2 List.mem_cons_self
      rcases List.mem_cons.1 h1 with h1 | h1
      · exact h1
      · rcases List.mem_cons.1 h2 with h2 | h2
        · exact h2.symm
        · have := hb1 x h1
          have := ha1 y h2
          omega
    subst e
    rw [sorted_ext ha2 hb2 fun z => ?_]
    constructor
    · intro hz
      rcases List.mem_cons.1 ((h z).1 (List.mem_cons_of_mem _ hz)) with h1 | h1
      · have := ha1 z hz
        omega
      · exact h1
    · intro hz
      rcases List.mem_cons.1 ((h z).2 (List.mem_cons_of_mem _ hz)) with h1 | h1
      · have := hb1 z hz
        omega
      · exact h1
def tk : S29 := ⟨4, ⟨#[116]⟩, ⟨#[107]⟩⟩
def a1 : LS S29 × Bool × Ans := askS haddT fitsT LS.new 1 tk 3
def a2 : LS S29 × Bool × Ans := askS haddT fitsT a1.1 2 tk 6
def a3 : LS S29 × Bool × Ans := askS haddT fitsT a2.1 3 tk 3
theorem a1_is : a1.2 = (true, .ok) := by kernel_rfl
theorem a2_is : a2.2 = (false, .ok) := by kernel_rfl
theorem a3_is : a3.2 = (false, .ok) := by kernel_rfl
theorem a3_blk : blockS srtI a3.1 3 = [2] := by
  have h : blockS srtI a3.1 3 = srtI [2] := by kernel_rfl
  rw [h]
  exact sorted_ext (srtI_sorted _) (List.pairwise_singleton _ _) (mem_srtI _)
theorem a3_rel : (releaseS haddT a3.1 1).2 = [2] := by kernel_rfl
theorem a3_len : (stateL ((releaseS haddT a3.1 1).1.rows tk)).length = 2 := by kernel_rfl
end Go.Proofs.Kb
end
section
namespace Go.Proofs.Kb
open Go Go.RowKit Go.Proofs.Ytkcjcdkmdooofaa.Q Go.Proofs.YtkcjcdkmdooofaaW.PrintWords Go.Proofs.YtkcjcdkmdooofaaW.PrintLast Go.Proofs.YtkcjcdkmdooofaaW.PrintMore
set_option linter.unusedVariables false
set_option linter.unusedSimpArgs false
set_option maxRecDepth 100000
open Go.Proofs.Lk Go.Proofs.Mp
def LA (w0 : World) (F : Nat → Prop) (lp : Nat) (s : LS S29) (k : Nat) (R : List Chunk) (W : World) : Prop := ∃ M : LM, M.lp = lp ∧ Rep M s ∧ M.tot ≤ k ∧ St w0 F W (lk M ++ R)
def lpP (lp : Nat) : Value := .pointer (some ⟨lp, 0, none⟩)
section
variable {w0 w w' : World} {F : Nat → Prop} {R R' : List Chunk} {lp k : Nat} {s : LS S29} {X : List Int} {D : List S29}
theorem LA.below (h : LA w0 F lp s k R w) (hb : Below w.heap.size w w') : LA w0 F lp s k R w' := by
  obtain ⟨M, h1, h2, h3, h4⟩ := h
  exact ⟨M, h1, h2, h3, h4.below hb⟩
theorem LA.rest (h : LA w0 F lp s k R w) : St w0 F w R := by
  obtain ⟨M, h1, h2, h3, h4⟩ := h
  exact h4.drop
theorem LA.perm (h : LA w0 F lp s k R w) (hp : R.Perm R') : LA w0 F lp s k R' w := by
  obtain ⟨M, h1, h2, h3, h4⟩ := h
  exact ⟨M, h1, h2, h3, h4.perm (List.Perm.append_left _ hp)⟩
theorem LA.drop (h : LA w0 F lp s k (R ++ R') w) : LA w0 F lp s k R' w := by
  obtain ⟨M, h1, h2, h3, h4⟩ := h
  have h5 : St w0 F w (R ++ (lk M ++ R')) := h4.perm (by rw [← List.append_assoc, ← List.append_assoc]; exact List.Perm.append_right _ List.perm_append_comm)
  exact ⟨M, h1, h2, h3, h5.drop⟩
theorem LA.left (h : LA w0 F lp s k (R ++ R') w) : LA w0 F lp s k R w := LA.drop (R := R') (h.perm List.perm_append_comm)
theorem LA.mono (h : LA w0 F lp s k R w) {k' : Nat} (hk : k ≤ k') : LA w0 F lp s k' R w := by
  obtain ⟨M, h1, h2, h3, h4⟩ := h
  exact ⟨M, h1, h2, Nat.le_trans h3 hk, h4⟩
theorem LA.alloc (h : LA w0 F lp s k R w) (C : Array Value) (T : TypeId) {n : Nat} (hn : w.heap.size = n) : LA w0 F lp s k (R ++ [blkC n (.cells C T (0, 0))]) (w.alloc (.cells C T)) := by
  obtain ⟨M, h1, h2, h3, h4⟩ := h
  have h5 := h4.alloc C T hn
  rw [List.append_assoc] at h5
  exact ⟨M, h1, h2, h3, h5⟩
theorem LA.sub (h : LA w0 F lp s k R w) (f : ∀ cs : List Chunk, St w0 F w (R ++ cs) → St w0 F w' (R' ++ cs)) : LA w0 F lp s k R' w' := by
  obtain ⟨M, h1, h2, h3, h4⟩ := h
  have h5 : St w0 F w (R ++ lk M) := h4.perm List.perm_append_comm
  exact ⟨M, h1, h2, h3, (f _ h5).perm List.perm_append_comm⟩
theorem LA.new (hs : St w0 F w R) : Calls Try.prog 12 #[] w fun E w' => ∃ lp, E = .returned (lpP lp) ∧ LA w0 F lp LS.new 0 R w' :=
  (new_fr hs).mono fun E w' ⟨M, h1, h2, h3, h4⟩ => ⟨M.lp, h1, M, rfl, h2, Nat.le_of_eq h3, h4⟩
theorem LA.ask (h : LA w0 F lp s k R w) (hg : Good X D s) {x : Int} {t : S29} (m : Int) (hx : x ∈ X) (ht : t ∈ D) (hk : k < 4000000000000000000) :
    Calls Try.prog 17 #[lpP lp, .int .i64 x, wantV t m] w fun E w' => E = AskE (askS haddT fitsT s x t m) ∧ LA w0 F lp (askS haddT fitsT s x t m).1 (k + 1000000) R w' := by
  obtain ⟨M, rfl, h2, h3, h4⟩ := h
  exact (ask_fr (m := m) h4 h2 hg (hg.xw x hx) (hg.dw t ht) (by omega)).mono fun E w' ⟨M', e1, e2, e3, e4, e5⟩ => ⟨e1, M', e3, e2, by omega, e5⟩
theorem LA.release (h : LA w0 F lp s k R w) (hg : Good X D s) {x : Int} (hx : x ∈ X) (hk : k < 4000000000000000000) :
    Calls Try.prog 21 #[lpP lp, .int .i64 x] w fun E w' => ∃ v, E = .returned v ∧ LA w0 F lp (releaseS haddT s x).1 (k + 1000000) (rowIC v (releaseS haddT s x).2 :: R) w' := by
  obtain ⟨M, rfl, h2, h3, h4⟩ := h
  exact (release_fr h4 h2 hg (hg.xw x hx) (by omega)).mono fun E w' ⟨M', v, e1, e2, e3, e4, e5⟩ => ⟨v, e1, M', e3, e2, by omega, by rw [List.append_assoc] at e5; exact e5⟩
theorem LA.blockers (h : LA w0 F lp s k R w) (hg : Good X D s) {x : Int} (hx : x ∈ X) (hk : k < 4000000000000000000) :
    Calls Try.prog 16 #[lpP lp, .int .i64 x] w fun E w' => ∃ v, E = .returned v ∧ LA w0 F lp s (k + 1000000) (rowIC v (blockS srtI s x) :: R) w' := by
  obtain ⟨M, rfl, h2, h3, h4⟩ := h
  exact (blockers_fr h4 h2 hg (hg.xw x hx) (by omega)).mono fun E w' ⟨M', v, e1, e2, e3, e4, e5⟩ => ⟨v, e1, M', e3, e2, by omega, by rw [List.append_assoc] at e5; exact e5⟩
theorem LA.mode (h : LA w0 F lp s k R w) (hg : Good X D s) (x : Int) {t : S29} (ht : wfT t) :
    Calls Try.prog 19 #[lpP lp, .int .i64 x, thgV t] w fun E w' => E = .returned (.int .i64 (modeD s x t)) ∧ LA w0 F lp s k R w' := by
  obtain ⟨M, rfl, h2, h3, h4⟩ := h
  exact (mode_fr h4 h2 hg ht).mono fun E w' ⟨e1, e2⟩ => ⟨e1, M, rfl, h2, h3, e2⟩
theorem LA.state (h : LA w0 F lp s k R w) (hg : Good X D s) {t : S29} (ht : wfT t) :
    Calls Try.prog 14 #[lpP lp, thgV t] w fun E w' => ∃ v, E = .returned v ∧ LA w0 F lp s k (rowHC v (stateL (s.rows t)) :: R) w' := by
  obtain ⟨M, rfl, h2, h3, h4⟩ := h
  exact (state_fr h4 h2 hg ht).mono fun E w' ⟨v, e1, e2⟩ => ⟨v, e1, M, rfl, h2, h3, by rw [List.append_assoc] at e2; exact e2⟩
theorem LA.do (h : LA w0 F lp s k R w) (hg : Good X D s) (c : S33) (hx : c.f1 ∈ X) (ht : c.f2.f0 ∈ D) (hk : k < 4000000000000000000) :
    Calls Try.prog 13 #[lpP lp, callV c] w fun E w' => E = .returned (.tuple #[]) ∧ LA w0 F lp (stepS haddT fitsT s (calOf c)) (k + 1000000) R w' := by
  obtain ⟨M, rfl, h2, h3, h4⟩ := h
  exact (do_calls c h4 h2 hg (hg.xw _ hx) (hg.dw _ ht) (by omega)).mono fun E w' ⟨M', e1, e2, e3, e4, e5⟩ => ⟨e1, M', e3, e2, by omega, e5⟩
end
theorem ask_e {q : LS S29 × Bool × Ans} {b : Bool} {a : Ans} (h : q.2 = (b, a)) : AskE q = .returned (.tuple #[.bool b, .int .i64 (errC a)]) := by
  unfold AskE
  rw [h]
theorem row24 (w : World) (k : ByteArray) : Calls Try.prog 24 #[.string k] w fun E w' => E = .returned (.agg #[.int .i64 4, .string ⟨#[116]⟩, .string k]) ∧ Below w.heap.size w w' := interlocklaw11_row.calls k 4 ⟨#[116]⟩ k w rfl
theorem good0 : Good [1, 2, 3] [tk] (LS.new : LS S29) := Good.new (by decide) (by decide) (fun x hx => by
  simp only [List.mem_cons, List.not_mem_nil, or_false] at hx
  rcases hx with rfl | rfl | rfl <;> (unfold wfI; decide)) (fun t ht => by
  rw [List.mem_singleton] at ht
  subst ht
  unfold wfT wfI
  exact ⟨by decide, by decide, by decide⟩)
set_option maxHeartbeats 4000000 in
theorem alive_calls (w : World) : Calls Try.prog 10 #[] w fun E w' => E = .returned (.bool true) ∧ Below w.heap.size w w' := by
  obtain ⟨Q, hQ⟩ : ∃ Q, (fun E w' => E = Ending.returned (.bool true) ∧ Below w.heap.size w w') = Q := ⟨_, rfl⟩
  have HQ := Aside0.mk hQ
  rw [hQ]
  have hu25 := Try.underlying25
  have hu31 := Try.underlying31
  have hu29 := Try.underlying29
  have hu39 := Try.underlying39
  have hu34 := Try.underlying34
  have g0 := good0
  have g1 : Good [1, 2, 3] [tk] a1.1 := g0.ask 3 (by simp) (by simp)
  have g2 : Good [1, 2, 3] [tk] a2.1 := g1.ask 6 (by simp) (by simp)
  have g3 : Good [1, 2, 3] [tk] a3.1 := g2.ask 3 (by simp) (by simp)
  have A17a := Aside0.mk (fun W lp (h : LA w NoF lp LS.new 0 [] W) => h.ask g0 3 (by simp) (List.mem_singleton.2 rfl) (by decide) (x := 1) (t := tk))
  have A17b := Aside0.mk (fun W lp (h : LA w NoF lp a1.1 1000000 [] W) => h.ask g1 6 (by simp) (List.mem_singleton.2 rfl) (by decide) (x := 2) (t := tk))
  have A17c := Aside0.mk (fun W lp (h : LA w NoF lp a2.1 2000000 [] W) => h.ask g2 3 (by simp) (List.mem_singleton.2 rfl) (by decide) (x := 3) (t := tk))
  have A16 := Aside0.mk (fun W lp (h : LA w NoF lp a3.1 3000000 [] W) => h.blockers g3 (by simp) (by decide) (x := 3))
  have A21 := Aside0.mk (fun W lp (h : LA w NoF lp a3.1 4000000 [] W) => h.release g3 (by simp) (by decide) (x := 1))
  have A14 := Aside0.mk (fun W lp (h : LA w NoF lp (releaseS haddT a3.1 1).1 5000000 [] W) => h.state (g3.release 1) (t := tk) (good0.dw tk (List.mem_singleton.2 rfl)))
  simp only [show askS haddT fitsT LS.new 1 tk 3 = a1 from rfl, ask_e a1_is] at A17a
  simp only [show askS haddT fitsT a1.1 2 tk 6 = a2 from rfl, ask_e a2_is] at A17b
  simp only [show askS haddT fitsT a2.1 3 tk 3 = a3 from rfl, ask_e a3_is] at A17c
  rw [a3_blk] at A16
  rw [a3_rel] at A21
  unfold lpP wantV errC at A17a A17b A17c
  unfold lpP at A16 A21
  unfold lpP thgV at A14
  clear hQ g0 g1 g2 g3
  have G1 : True := trivial
  have G2 : True := trivial
  have G3 : True := trivial
  have G4 : True := trivial
  have G5 : True := trivial
  have G6 : True := trivial
  have G7 : True := trivial
  have G8 : True := trivial
  have G9 : True := trivial
  have G10 : True := trivial
  have G11 : True := trivial
  have G12 : True := trivial
  go_enter Try.func10, Try.ntmps10
  go_wp2_with (first
    | (clear G1; go_at_call 12; refine (LA.new (R := []) (St.nil0 w NoF)).mono ?_; rintro E w1 ⟨lp, rfl, h⟩; have HS1 := Aside0.mk h; clear h; unfold lpP)
    | (clear G2; go_at_call 24; refine (row24 _ _).mono ?_; rintro E w2 ⟨rfl, hb⟩; have HS2 := Aside0.mk (HS1.out.below hb); clear hb HS1)
    | (clear G3; go_at_call 17; refine (A17a.out _ _ HS2.out).mono ?_; rintro E w3 ⟨rfl, h⟩; have HS3 := Aside0.mk h; clear h HS2)
    | (clear G4; go_at_call 24; refine (row24 _ _).mono ?_; rintro E w4 ⟨rfl, hb⟩; have HS4 := Aside0.mk (HS3.out.below hb); clear hb HS3)
    | (clear G5; go_at_call 17; refine (A17b.out _ _ HS4.out).mono ?_; rintro E w5 ⟨rfl, h⟩; have HS5 := Aside0.mk h; clear h HS4)
    | (clear G6; go_at_call 24; refine (row24 _ _).mono ?_; rintro E w6 ⟨rfl, hb⟩; have HS6 := Aside0.mk (HS5.out.below hb); clear hb HS5)
    | (clear G7; go_at_call 17; refine (A17c.out _ _ HS6.out).mono ?_; rintro E w7 ⟨rfl, h⟩; have HS7 := Aside0.mk h; clear h HS6)
    | (clear G8; go_at_call 16; refine (A16.out _ _ HS7.out).mono ?_; rintro E w8 ⟨v, rfl, h⟩; have HS8 := Aside0.mk h; clear h HS7)
    | (clear G9; go_at_call 25; have h := (HS8.out.alloc #[.int .i64 2] 3 rfl); refine (sameints_calls _ v _ [2] [2] (h.rest.rowX 0 rfl) (lit_row (h.rest.blk 1 rfl)) (by decide) (by decide)).mono ?_; rintro E w9 ⟨rfl, hb⟩; have HS9 := Aside0.mk (LA.drop (R := [_, _]) (R' := []) (h.below hb)); clear h hb HS8)
    | (clear G10; go_at_call 21; refine (A21.out _ _ HS9.out).mono ?_; rintro E w10 ⟨u, rfl, h⟩; have HS10 := Aside0.mk h; clear h HS9)
    | (clear G11; go_at_call 25; have h := (HS10.out.alloc #[.int .i64 2] 3 rfl); refine (sameints_calls _ u _ [2] [2] (h.rest.rowX 0 rfl) (lit_row (h.rest.blk 1 rfl)) (by decide) (by decide)).mono ?_; rintro E w11 ⟨rfl, hb⟩; have HS11 := Aside0.mk (LA.drop (R := [_, _]) (R' := []) (h.below hb)); clear h hb HS10)
    | (clear G12; go_at_call 24; refine (row24 _ _).mono ?_; rintro E w12 ⟨rfl, hb⟩; have HS12 := Aside0.mk (HS11.out.below hb); clear hb HS11)
    | (go_at_call 14; refine (A14.out _ _ HS12.out).mono ?_; rintro E w13 ⟨z, rfl, h⟩; obtain ⟨A, c, rfl⟩ := (h.rest.rowX 0 rfl).form; rw [a3_len] at h ⊢; have HS13 := Aside0.mk h; clear h HS12))
  rw [← HQ.out]
  exact ⟨rfl, keep_below HS13.out.rest.keep⟩
end Go.Proofs.Kb
end
section
namespace Go.Proofs.Ytkcjcdkmdooofaa.Q
open Go.RowKit Go.Proofs.YtkcjcdkmdooofaaW.PrintWords Go.Proofs.YtkcjcdkmdooofaaW.PrintLast Go.Proofs.YtkcjcdkmdooofaaW.PrintMore
attribute [local go_sem] max2_int min2_int max_two min_two max_three min_three max_four min_four
set_option linter.unusedVariables false
set_option linter.unusedSimpArgs false
set_option maxRecDepth 100000
def Rd {α : Type} (P : Program) (d : Kd α) (t : TypeId) (wf : α → Prop) : Prop :=
  ∀ {H : Type} (enc : TypeId × Value → H) (w : World) (base : Nat) (spare : Nat → Bool) (held : Bool) (fuel : Nat) (cs : List Value) (x : DataW H × List MemPlace),
    DataW.trod enc P w base spare held fuel t cs = some x → ∃ a, d.K w a cs ∧ wf a
theorem Rd.int {P : Program} {t : TypeId} {k : IntKind} (ht : P.underlying t = some (.int k)) : Rd P (Kd.int k) t (fun n => (Lit.int k n).wf = true) := by
  intro H enc w base spare held fuel cs x h
  obtain ⟨n, rfl, _, hw⟩ := DataW.trod_int ht h
  exact ⟨n, rfl, hw⟩
theorem Rd.bool {P : Program} {t : TypeId} (ht : P.underlying t = some .bool) : Rd P Kd.bool t (fun _ => True) := by
  intro H enc w base spare held fuel cs x h
  obtain ⟨n, rfl, _⟩ := DataW.trod_bool ht h
  exact ⟨n, rfl, trivial⟩
theorem Rd.string {P : Program} {t : TypeId} (ht : P.underlying t = some .string) : Rd P Kd.string t (fun s => s.size ≤ maxLen) := by
  intro H enc w base spare held fuel cs x h
  obtain ⟨n, rfl, _, hs⟩ := DataW.trod_string ht h
  exact ⟨n, rfl, hs⟩
theorem Rd.slice {α : Type} {P : Program} {d : Kd α} {t e : TypeId} {wf : α → Prop} (ht : P.underlying t = some (.slice e)) (hc : P.cellsOf e = d.sz) (hd : Rd P d e wf) :
    Rd P (Kd.slice e d) t (fun l => l.length ≤ maxLen ∧ ∀ a ∈ l, wf a) := by
  intro H enc w base spare held fuel cs x h
  rcases Go.Deep.open_slice ht h with ⟨rfl, _⟩ | ⟨a, len, cap, m, n, D, Pl, rfl, _, hl, hm, hmm, _, hi⟩
  · exact ⟨[], ⟨none, 0, rfl, Nat.le_refl _, rfl, Nat.zero_le _, fun h => absurd h (Nat.lt_irrefl _)⟩, Nat.zero_le _, fun _ h => by cases h⟩
  · have hlm : len ≤ m := by rw [hmm]; split <;> omega
    have hex : ∀ i, i < len → ∃ v, wf v ∧ ∃ c, c.length = d.sz ∧ d.K w v c ∧ ∀ j u, c[j]? = some u → w.cell? (a.add (i * d.sz + j)) = some u := by
      intro i hilt
      obtain ⟨cs', hcs, ht'⟩ := hi i (by omega)
      obtain ⟨v, hK, hw⟩ := hd enc w base spare held n cs' _ ht'
      rw [hc] at hcs
      obtain ⟨_, hlen, hat⟩ := World.cells?_some hcs
      refine ⟨v, hw, cs', hlen, hK, fun j u hj => ?_⟩
      have hjl : j < d.sz := by rw [← hlen]; exact (List.getElem?_eq_some_iff.1 hj).1
      have := hat j hjl
      rw [Go.Deep.add_add] at this
      rw [this, hj]
    have hex' : ∀ i : Fin len, ∃ v, wf v ∧ ∃ c, c.length = d.sz ∧ d.K w v c ∧ ∀ j u, c[j]? = some u → w.cell? (a.add (i.val * d.sz + j)) = some u := fun i => hex i.val i.isLt
    have hch : ∃ g : Fin len → α, ∀ i : Fin len, wf (g i) ∧ ∃ c, c.length = d.sz ∧ d.K w (g i) c ∧ ∀ j u, c[j]? = some u → w.cell? (a.add (i.val * d.sz + j)) = some u := ⟨fun i => Classical.choose (hex' i), fun i => Classical.choose_spec (hex' i)⟩
    obtain ⟨g, hg⟩ := hch
    have hlen : (List.ofFn g).length = len := List.length_ofFn
    refine ⟨List.ofFn g, ⟨some a, cap, by rw [hlen], by rw [hlen]; exact hl, rfl, by rw [hlen]; simp only [maxLen] at hm; omega, fun _ => ⟨a, rfl, fun j p hp => ?_⟩⟩, by rw [hlen]; omega, fun v hv => ?_⟩
    · obtain ⟨hj, he⟩ := List.getElem?_eq_some_iff.1 hp
      rw [List.getElem_ofFn] at he
      subst he
      exact (hg ⟨j, by omega⟩).2
    · obtain ⟨i, rfl⟩ := List.mem_ofFn.1 hv
      exact (hg i).1
theorem Rd.arg_slice {α : Type} {P : Program} {d : Kd α} {t e : TypeId} {wf : α → Prop} (hd : Rd P (Kd.slice e d) t (fun l => l.length ≤ maxLen ∧ ∀ a ∈ l, wf a)) {H : Type} {enc : TypeId × Value → H} {w : World} {base : Nat} {spare : Nat → Bool} {held : Bool} {A : Option Addr} {n c : Nat} {x : DataW H} {p : List MemPlace}
    (h : DataW.Trod enc P w base spare held t (.slice A n c) x p) : ∃ l : List α, l.length = n ∧ d.C w A l.length l ∧ l.length ≤ c ∧ l.length ≤ maxLen ∧ ∀ a ∈ l, wf a := by
  obtain ⟨fuel, hf⟩ := h
  obtain ⟨l, ⟨A', c', he, hl, hC⟩, hm, hw⟩ := hd enc w base spare held fuel _ _ hf
  have he' : [Value.slice A n c] = [.slice A' l.length c'] := he
  injection he' with he' _
  injection he' with h1 h2 h3
  subst h1; subst h3
  exact ⟨l, h2.symm, hC, hl, hm, hw⟩
theorem some_of_len {α : Type} {xs : List α} {n j : Nat} (h : xs.length = n) (hj : j < n) : ∃ y, xs[j]? = some y := ⟨_, List.getElem?_eq_getElem (by omega)⟩
def wf29 (v : S29) : Prop := (fun n => (Lit.int .i64 n).wf = true) v.f0 ∧ (fun s => s.size ≤ maxLen) v.f1 ∧ (fun s => s.size ≤ maxLen) v.f2
theorem rd29 : Rd Try.prog k29 29 wf29 := by
  intro H enc w base spare held fuel cs x h
  obtain ⟨xs, n, _, _, hlen, hl, hf⟩ := DataW.trod_struct Try.underlying29 h
  rw [show Try.prog.cellsOf 29 = 3 by kernel_rfl] at hlen
  obtain ⟨c0, c1, c2, rfl⟩ : ∃ c0 c1 c2, cs = [c0, c1, c2] := by
    match cs, hlen with
    | [c0, c1, c2], _ => exact ⟨c0, c1, c2, rfl⟩
  obtain ⟨y0, hy0⟩ := some_of_len hl (j := 0) (by decide)
  have g0 : DataW.trod enc Try.prog w base spare held n 3 ((([c0, c1, c2] : List Value).drop 0).take (Try.prog.cellsOf 3)) = some y0 := (hf 0 _ rfl).trans hy0
  rw [show Try.prog.cellsOf 3 = 1 by kernel_rfl] at g0
  obtain ⟨a0, K0, w0⟩ := (Rd.int Try.underlying3) enc w base spare held n _ _ g0
  obtain ⟨y1, hy1⟩ := some_of_len hl (j := 1) (by decide)
  have g1 : DataW.trod enc Try.prog w base spare held n 9 ((([c0, c1, c2] : List Value).drop 1).take (Try.prog.cellsOf 9)) = some y1 := (hf 1 _ rfl).trans hy1
  rw [show Try.prog.cellsOf 9 = 1 by kernel_rfl] at g1
  obtain ⟨a1, K1, w1⟩ := (Rd.string Try.underlying9) enc w base spare held n _ _ g1
  obtain ⟨y2, hy2⟩ := some_of_len hl (j := 2) (by decide)
  have g2 : DataW.trod enc Try.prog w base spare held n 9 ((([c0, c1, c2] : List Value).drop 2).take (Try.prog.cellsOf 9)) = some y2 := (hf 2 _ rfl).trans hy2
  rw [show Try.prog.cellsOf 9 = 1 by kernel_rfl] at g2
  obtain ⟨a2, K2, w2⟩ := (Rd.string Try.underlying9) enc w base spare held n _ _ g2
  exact ⟨⟨a0, a1, a2⟩, ⟨[c0], [c1, c2], rfl, K0, ⟨[c1], [c2], rfl, K1, K2⟩⟩, ⟨w0, w1, w2⟩⟩
def wf31 (v : S31) : Prop := wf29 v.f0 ∧ (fun n => (Lit.int .i64 n).wf = true) v.f1
theorem rd31 : Rd Try.prog k31 31 wf31 := by
  intro H enc w base spare held fuel cs x h
  obtain ⟨xs, n, _, _, hlen, hl, hf⟩ := DataW.trod_struct Try.underlying31 h
  rw [show Try.prog.cellsOf 31 = 4 by kernel_rfl] at hlen
  obtain ⟨c0, c1, c2, c3, rfl⟩ : ∃ c0 c1 c2 c3, cs = [c0, c1, c2, c3] := by
    match cs, hlen with
    | [c0, c1, c2, c3], _ => exact ⟨c0, c1, c2, c3, rfl⟩
  obtain ⟨y0, hy0⟩ := some_of_len hl (j := 0) (by decide)
  have g0 : DataW.trod enc Try.prog w base spare held n 29 ((([c0, c1, c2, c3] : List Value).drop 0).take (Try.prog.cellsOf 29)) = some y0 := (hf 0 _ rfl).trans hy0
  rw [show Try.prog.cellsOf 29 = 3 by kernel_rfl] at g0
  obtain ⟨a0, K0, w0⟩ := rd29 enc w base spare held n _ _ g0
  obtain ⟨y1, hy1⟩ := some_of_len hl (j := 1) (by decide)
  have g1 : DataW.trod enc Try.prog w base spare held n 3 ((([c0, c1, c2, c3] : List Value).drop 3).take (Try.prog.cellsOf 3)) = some y1 := (hf 1 _ rfl).trans hy1
  rw [show Try.prog.cellsOf 3 = 1 by kernel_rfl] at g1
  obtain ⟨a1, K1, w1⟩ := (Rd.int Try.underlying3) enc w base spare held n _ _ g1
  exact ⟨⟨a0, a1⟩, ⟨[c0, c1, c2], [c3], rfl, K0, K1⟩, ⟨w0, w1⟩⟩
def wf33 (v : S33) : Prop := (fun n => (Lit.int .i64 n).wf = true) v.f0 ∧ (fun n => (Lit.int .i64 n).wf = true) v.f1 ∧ wf31 v.f2
theorem rd33 : Rd Try.prog k33 33 wf33 := by
  intro H enc w base spare held fuel cs x h
  obtain ⟨xs, n, _, _, hlen, hl, hf⟩ := DataW.trod_struct Try.underlying33 h
  rw [show Try.prog.cellsOf 33 = 6 by kernel_rfl] at hlen
  obtain ⟨c0, c1, c2, c3, c4, c5, rfl⟩ : ∃ c0 c1 c2 c3 c4 c5, cs = [c0, c1, c2, c3, c4, c5] := by
    match cs, hlen with
    | [c0, c1, c2, c3, c4, c5], _ => exact ⟨c0, c1, c2, c3, c4, c5, rfl⟩
  obtain ⟨y0, hy0⟩ := some_of_len hl (j := 0) (by decide)
  have g0 : DataW.trod enc Try.prog w base spare held n 3 ((([c0, c1, c2, c3, c4, c5] : List Value).drop 0).take (Try.prog.cellsOf 3)) = some y0 := (hf 0 _ rfl).trans hy0
  rw [show Try.prog.cellsOf 3 = 1 by kernel_rfl] at g0
  obtain ⟨a0, K0, w0⟩ := (Rd.int Try.underlying3) enc w base spare held n _ _ g0
  obtain ⟨y1, hy1⟩ := some_of_len hl (j := 1) (by decide)
  have g1 : DataW.trod enc Try.prog w base spare held n 3 ((([c0, c1, c2, c3, c4, c5] : List Value).drop 1).take (Try.prog.cellsOf 3)) = some y1 := (hf 1 _ rfl).trans hy1
  rw [show Try.prog.cellsOf 3 = 1 by kernel_rfl] at g1
  obtain ⟨a1, K1, w1⟩ := (Rd.int Try.underlying3) enc w base spare held n _ _ g1
  obtain ⟨y2, hy2⟩ := some_of_len hl (j := 2) (by decide)
  have g2 : DataW.trod enc Try.prog w base spare held n 31 ((([c0, c1, c2, c3, c4, c5] : List Value).drop 2).take (Try.prog.cellsOf 31)) = some y2 := (hf 2 _ rfl).trans hy2
  rw [show Try.prog.cellsOf 31 = 4 by kernel_rfl] at g2
  obtain ⟨a2, K2, w2⟩ := rd31 enc w base spare held n _ _ g2
  exact ⟨⟨a0, a1, a2⟩, ⟨[c0], [c1, c2, c3, c4, c5], rfl, K0, ⟨[c1], [c2, c3, c4, c5], rfl, K1, K2⟩⟩, ⟨w0, w1, w2⟩⟩
end Go.Proofs.Ytkcjcdkmdooofaa.Q
end
section
namespace Go.Proofs.Kb
open Go Go.RowKit Go.Proofs.Ytkcjcdkmdooofaa.Q Go.Proofs.YtkcjcdkmdooofaaW.PrintWords Go.Proofs.YtkcjcdkmdooofaaW.PrintLast Go.Proofs.YtkcjcdkmdooofaaW.PrintMore
set_option linter.unusedVariables false
set_option linter.unusedSimpArgs false
set_option maxRecDepth 100000
open Go.Proofs.Lk Go.Proofs.Mp
section
variable {w0 w w' : World} {F : Nat → Prop} {R R' : List Chunk} {lp k : Nat} {s : LS S29} {X : List Int} {D : List S29}
theorem LA.drew (h : LA w0 F lp s k R w) : LA w0 F lp s k R w.drew := by
  obtain ⟨M, h1, h2, h3, h4⟩ := h
  exact ⟨M, h1, h2, h3, h4.drew⟩
end
theorem great_some (l : List S33) : ∃ b, interlocklaw11_great.f 200 l = some b ∧ (b = false → l.length ≤ 120) := by
  unfold interlocklaw11_great.f
  by_cases h : (l.length : Int) > 120
  · rw [if_pos h]
    exact ⟨true, rfl, fun h => by cases h⟩
  · rw [if_neg h]
    obtain ⟨b, hb⟩ := great_l0 l (by omega) 200 0 (Nat.zero_le _) (by omega)
    exact ⟨b, hb, fun _ => by omega⟩
theorem great_at (w : World) (A : Option Addr) (c : Nat) (l : List S33) (hC : Kd.C k33 w A l.length l) (hcap : l.length ≤ c) {b : Bool} (hb : interlocklaw11_great.f 200 l = some b) :
    Calls Try.prog 11 #[.slice A l.length c] w fun E w' => E = .returned (.bool b) ∧ Below w.heap.size w w' := (interlocklaw11_great.calls 200 A c l b w hC hcap hb).mono fun E w' h => ⟨h.1, h.2.below⟩
structure Arg (w : World) (A : Option Addr) (l : List S33) : Prop where
  row : Kd.C k33 w A l.length l
theorem Arg.cells {w : World} {A : Option Addr} {l : List S33} (h : Arg w A l) {i : Nat} {x : S33} (hx : l[i]? = some x) : ∃ ad, A = some ad ∧ ∀ W, Below w.heap.size w W →
    W.cell? (ad.add (i * 6)) = some (.int .i64 x.f0) ∧ W.cell? ⟨(ad.add (i * 6)).block, (ad.add (i * 6)).off + 1, none⟩ = some (.int .i64 x.f1) ∧ W.cell? ⟨(ad.add (i * 6)).block, (ad.add (i * 6)).off + 2, none⟩ = some (.int .i64 x.f2.f0.f0) ∧
    W.cell? ⟨(ad.add (i * 6)).block, (ad.add (i * 6)).off + 3, none⟩ = some (.string x.f2.f0.f1) ∧ W.cell? ⟨(ad.add (i * 6)).block, (ad.add (i * 6)).off + 4, none⟩ = some (.string x.f2.f0.f2) ∧ W.cell? ⟨(ad.add (i * 6)).block, (ad.add (i * 6)).off + 5, none⟩ = some (.int .i64 x.f2.f1) := by
  have hi := (List.getElem?_eq_some_iff.1 hx).1
  have hr : rd_T33 l (i : Int) = x := by simp [rd_T33, List.getD_eq_getElem?_getD, hx]
  obtain ⟨ad, hA, d0, d1, d2, d3, d4, d5⟩ := at_T33 h.row (i : Int) (by omega) (by omega)
  rw [hr, Int.toNat_natCast] at d0 d1 d2 d3 d4 d5
  exact ⟨ad, hA, fun W hb => ⟨pw_cell_below hb d0, pw_cell_below hb d1, pw_cell_below hb d2, pw_cell_below hb d3, pw_cell_below hb d4, pw_cell_below hb d5⟩⟩
theorem wf_I {c : S33} (h : wf33 c) : wfI c.f1 := h.2.1
theorem wf_T {c : S33} (h : wf33 c) : wfT c.f2.f0 := ⟨h.2.2.1.1, h.2.2.1.2.1, h.2.2.1.2.2⟩
def txnsOf (l : List S33) : List Int := l.map (·.f1)
def thgsOf (l : List S33) : List S29 := l.map (·.f2.f0)
theorem good_new {l : List S33} (hn : l.length ≤ 120) (hw : ∀ a ∈ l, wf33 a) : Good (txnsOf l) (thgsOf l) (LS.new : LS S29) :=
  Good.new (by simp only [txnsOf, List.length_map]; omega) (by simp only [thgsOf, List.length_map]; omega) (fun x hx => by
    obtain ⟨c, hc, rfl⟩ := List.mem_map.1 hx
    exact wf_I (hw c hc)) (fun t ht => by
    obtain ⟨c, hc, rfl⟩ := List.mem_map.1 ht
    exact wf_T (hw c hc))
theorem good_do {l : List S33} {s : LS S29} (h : Good (txnsOf l) (thgsOf l) s) {c : S33} (hc : c ∈ l) : Good (txnsOf l) (thgsOf l) (stepS haddT fitsT s (calOf c)) :=
  h.step (calOf c) (List.mem_map.2 ⟨c, hc, rfl⟩) (List.mem_map.2 ⟨c, hc, rfl⟩)
theorem srtI_nodup (l : List Int) : (srtI l).Nodup := List.Pairwise.imp (fun {a b} h => by omega) (srtI_sorted l)
theorem blockS_len {X : List Int} {D : List S29} {s : LS S29} (h : Good X D s) (x : Int) : (blockS srtI s x).length ≤ 299 := by
  refine Nat.le_trans (nodup_le (l' := X) ?_ fun y hy => ?_) h.xl
  · unfold blockS
    split
    · exact List.nodup_nil
    · split
      · exact List.nodup_nil
      · exact srtI_nodup _
  · obtain ⟨⟨t, ht⟩, _⟩ := block_pres (srt := srtI) mem_srtI hy
    exact (h.am t y ht).1
end Go.Proofs.Kb
end
section
namespace Go.Proofs.Lk
set_option linter.unusedVariables false
set_option linter.unusedSimpArgs false
set_option linter.unusedSectionVars false
section
variable {α : Type} [DecidableEq α]
structure AInv (x : Int) (s : LS α) : Prop where
  inv : LInv s
  one : ∀ t y, pres s t y → y = x
  nw : ∀ t, (s.rows t).waits = []
variable {hadd : List α → α → List α} {fits : α → Bool} (ha : ∀ ls x y, y ∈ hadd ls x ↔ y = x ∨ y ∈ ls)
theorem AInv.none {x : Int} {s : LS α} (h : AInv x s) : s.waits x = none := by
  cases hw : s.waits x with
  | none => rfl
  | some t =>
    have := (h.inv.ww x t).1 hw
    rw [h.nw t] at this
    cases this
include ha
end
end Go.Proofs.Lk
end
section
namespace Go.Proofs.Kb
open Go Go.RowKit Go.Proofs.Ytkcjcdkmdooofaa.Q Go.Proofs.YtkcjcdkmdooofaaW.PrintWords Go.Proofs.YtkcjcdkmdooofaaW.PrintLast Go.Proofs.YtkcjcdkmdooofaaW.PrintMore
set_option linter.unusedVariables false
set_option linter.unusedSimpArgs false
set_option maxRecDepth 100000
open Go.Proofs.Lk Go.Proofs.Mp
end Go.Proofs.Kb
end
section
namespace Go.Proofs.Lk
set_option linter.unusedVariables false
set_option linter.unusedSimpArgs false
set_option linter.unusedSectionVars false
section
variable {α : Type} [DecidableEq α]
end
end Go.Proofs.Lk
end
section
namespace Go.Proofs.Lk
set_option linter.unusedVariables false
set_option linter.unusedSimpArgs false
set_option linter.unusedSectionVars false
section
variable {α : Type} [DecidableEq α] {hadd : List α → α → List α} {fits : α → Bool}
end
end Go.Proofs.Lk
end
section
namespace Go.Proofs.Kb
open Go Go.RowKit Go.Proofs.Ytkcjcdkmdooofaa.Q Go.Proofs.YtkcjcdkmdooofaaW.PrintWords Go.Proofs.YtkcjcdkmdooofaaW.PrintLast Go.Proofs.YtkcjcdkmdooofaaW.PrintMore
set_option linter.unusedVariables false
set_option linter.unusedSimpArgs false
set_option maxRecDepth 100000
open Go.Proofs.Lk Go.Proofs.Mp
theorem eqA29 (d : Nat) (w : World) (x0 y0 : Int) (x1 y1 x2 y2 : ByteArray) :
    (Op.equalIn (d + 2) 29 (.agg #[.int .i64 x0, .string x1, .string x2]) (.agg #[.int .i64 y0, .string y1, .string y2])).run Try.prog w = .ok (x0 == y0 && (x1.toList == y1.toList && (x2.toList == y2.toList))) w := by
  refine eqA_of Try.underlying29 (by kernel_rfl) ?_
  refine eqf_cons (by rfl) (by go_simp; rfl) (by go_simp; rfl) (by go_simp) ?_
  refine eqf_cons (by rfl) (by go_simp; rfl) (by go_simp; rfl) (by go_simp) ?_
  exact eqf_last (by rfl) (by go_simp; rfl) (by go_simp; rfl) (by go_simp)
attribute [local go_sem high] eqA29
theorem take_snoc {α : Type} {l : List α} {i : Nat} {x : α} (h : l[i]? = some x) {P : α → Prop} (h1 : ∀ c ∈ l.take i, P c) (h2 : P x) : ∀ c ∈ l.take (i + 1), P c := fun c hc => by
  rw [List.take_add_one, h] at hc
  rcases List.mem_append.1 hc with hc | hc
  · exact h1 c hc
  · simp at hc
    rw [hc]
    exact h2
end Go.Proofs.Kb
end
section
namespace Go.Proofs.Kb
open Go Go.RowKit Go.Proofs.Ytkcjcdkmdooofaa.Q Go.Proofs.YtkcjcdkmdooofaaW.PrintWords Go.Proofs.YtkcjcdkmdooofaaW.PrintLast Go.Proofs.YtkcjcdkmdooofaaW.PrintMore
set_option linter.unusedVariables false
set_option linter.unusedSimpArgs false
set_option maxRecDepth 100000
open Go.Proofs.Lk Go.Proofs.Mp
theorem St.putAll {w0 w : World} {F : Nat → Prop} {cs : List Chunk} {b : Nat} {C : Array Value} {t : TypeId} (s : St w0 F w cs) (i : Nat) (hi : cs[i]? = some (blkC b (.cells C t (0, 0)))) (vs : List Value) (hl : C.size = vs.length) :
    St w0 F (puts w b 0 vs) (cs.set i (blkC b (.cells vs.toArray t (0, 0)))) := by
  obtain ⟨C', h1, h2⟩ := puts_heap vs 0 w b t C (s.blk i hi)
  have h3 : C' = vs.toArray := by
    rw [← Array.toList_inj, h2]
    have := setL_head vs C.toList [] (by simpa using hl)
    rw [List.append_nil, List.append_nil] at this
    exact this
  rw [h3] at h1
  exact s.upd i hi (blkC b (.cells vs.toArray t (0, 0))) (puts_keep vs 0 w b _ (by simp [blkC])) h1 (nd_one b) (fun x hx => .inl hx)
def modeW (r : LRow) (x : Int) : Int := ((r.waits.find? fun o => o.1 == x).map (·.2)).getD 0
def waitV (s : LS S29) (x : Int) : Value := match s.waits x with | none => .agg #[.int .i64 0, .string ⟨#[]⟩, .string ⟨#[]⟩, .int .i64 0] | some t => wantV t (modeW (s.rows t) x)
def Waiting23 (w : World) (F : Nat → Prop) (M : LM) (s : LS S29) (x : Int) (E : Ending) (w' : World) : Prop :=
  ∃ M', E = .returned (.tuple #[waitV s x, .bool (s.waits x).isSome]) ∧ Rep M' s ∧ M'.lp = M.lp ∧ M'.tot ≤ M.tot + 1 ∧ St w F w' (lk M')
set_option maxHeartbeats 4000000 in
theorem waiting_calls (w : World) (M : LM) (s : LS S29) (x : Int) (F : Nat → Prop) (N : Nat) (hs : St w F w (lk M)) (hr : Rep M s) (hI : LInv s) (hx : wfI x) (hok : OkS N s) (hn : M.tot < 4000000000000000000) :
    Calls Try.prog 23 #[lpV M, .int .i64 x] w (Waiting23 w F M s x) := by
  obtain ⟨R, hR⟩ : ∃ R, Waiting23 w F M s x = R := ⟨_, rfl⟩
  have HR := Aside0.mk hR
  rw [hR]
  have hu55 := Try.underlying55
  have hu56 := Try.underlying56
  have hu59 := Try.underlying59
  have hu64 := Try.underlying64
  have hu62 := Try.underlying62
  have hu66 := Try.underlying66
  have hu29 := Try.underlying29
  have hu31 := Try.underlying31
  have hz29 := Try.sizeOf29
  have hz31 := Try.sizeOf31
  obtain ⟨n4, hn4⟩ : ∃ n, w.heap.size = n := ⟨_, rfl⟩
  have hs4 := hs.alloc #[.int .i64 0, .string ⟨#[]⟩, .string ⟨#[]⟩, .int .i64 0] 31 hn4
  obtain ⟨W4, hW4⟩ : ∃ W, w.alloc (.cells #[.int .i64 0, .string ⟨#[]⟩, .string ⟨#[]⟩, .int .i64 0] 31) = W := ⟨_, rfl⟩
  rw [hW4] at hs4
  obtain ⟨c0, c1, c2, hlp⟩ := hs4.lpAt 0 rfl
  have hlk := lookW hs4 hr hx
  have b0 := (blk_cell (hs4.blk 6 rfl) 0).trans rfl
  have b1 := (blk_cell (hs4.blk 6 rfl) 1).trans rfl
  have b2 := (blk_cell (hs4.blk 6 rfl) 2).trans rfl
  have b3 := (blk_cell (hs4.blk 6 rfl) 3).trans rfl
  have bf : ∀ j, W4.frozen? ⟨n4, j, none⟩ = false := fun j => frozen_of_row W4 n4 j _ _ (hs4.blk 6 rfl)
  have bl4 := lt_of_some (hs4.blk 6 rfl)
  unfold lpV
  cases hw : s.waits x with
  | none =>
    rw [hw] at hlk
    simp only [Option.map, Option.getD, Option.isSome] at hlk
    have HS := Aside0.mk hs4
    have HREP := Aside0.mk hr
    have HW := Aside0.mk hw
    clear hR hs hs4 hr hI hx hok hn hw
    go_enter Try.func23, Try.ntmps23
    go_wp2
    obtain ⟨W9, hW9⟩ : ∃ W9, (puts W4 n4 0 [.int .i64 0, .string ⟨#[]⟩, .string ⟨#[]⟩, .int .i64 0]).alloc (.cells #[.int .i64 0, .string ⟨#[]⟩, .string ⟨#[]⟩] 29) = W9 := ⟨_, rfl⟩
    have h9 := (HS.out.putAll 6 rfl [.int .i64 0, .string ⟨#[]⟩, .string ⟨#[]⟩, .int .i64 0] rfl).alloc #[.int .i64 0, .string ⟨#[]⟩, .string ⟨#[]⟩] 29 rfl
    show bodyPost _ _ _ _ _ ((puts W4 n4 0 [.int .i64 0, .string ⟨#[]⟩, .string ⟨#[]⟩, .int .i64 0]).alloc (.cells #[.int .i64 0, .string ⟨#[]⟩, .string ⟨#[]⟩] 29))
    rw [hW9] at h9 ⊢
    have p0 := (blk_cell (h9.blk 6 rfl) 0).trans rfl
    have p1 := (blk_cell (h9.blk 6 rfl) 1).trans rfl
    have p2 := (blk_cell (h9.blk 6 rfl) 2).trans rfl
    have p3 := (blk_cell (h9.blk 6 rfl) 3).trans rfl
    have hfin : Waiting23 w F M s x (.returned (.tuple #[.agg #[.int .i64 0, .string ⟨#[]⟩, .string ⟨#[]⟩, .int .i64 0], .bool false])) W9 :=
      ⟨M, by unfold waitV; rw [HW.out]; rfl, HREP.out, rfl, Nat.le_succ _, St.left (A := lk M) h9⟩
    rw [HR.out] at hfin
    clear hlk c0 c1 c2 hlp b0 b1 b2 b3 bf bl4 hW9
    refine bodyPost_ret (v := .tuple #[.agg #[.int .i64 0, .string ⟨#[]⟩, .string ⟨#[]⟩, .int .i64 0], .bool false]) ?_ rfl hfin
    rw [results_cell_tmp rfl]
    go_simp
    try rfl
  | some t =>
    rw [hw] at hlk
    simp only [Option.map, Option.getD, Option.isSome, thgV] at hlk
    have htw := hok.wt x t hw
    obtain ⟨r0, hr0⟩ : ∃ r0, s.rows t = r0 := ⟨_, rfl⟩
    have hok0 : OkR r0 := hr0 ▸ hok.rows t
    have hha : has r0.waits x = true := hr0 ▸ (hI.ww x t).1 hw
    obtain ⟨i, hfi⟩ : ∃ i, r0.waits.findIdx? (isT x) = some i := by
      cases hc : r0.waits.findIdx? (isT x) with
      | some i => exact ⟨i, rfl⟩
      | none =>
        have := (idx_neg r0.waits x).1 (by unfold idxI; rw [hc]; decide)
        rw [this] at hha
        cases hha
    obtain ⟨hil, hp0, hlow⟩ := List.findIdx?_eq_some_iff_getElem.1 hfi
    have hij : idxI r0.waits (isT x) = i := by unfold idxI; rw [hfi]
    obtain ⟨⟨a, b⟩, ho⟩ : ∃ o, r0.waits[i]? = some o := ⟨_, List.getElem?_eq_getElem hil⟩
    have hmw : modeW r0 x = b := by
      have hg : r0.waits[i] = (a, b) := (List.getElem?_eq_some_iff.1 ho).2
      have : r0.waits.find? (fun o => o.1 == x) = some (a, b) := List.find?_eq_some_iff_getElem.2 ⟨by rw [← hg]; exact hp0, i, hil, hg, fun j hj => by have := hlow j hj; unfold isT at this; simpa using this⟩
      unfold modeW
      rw [this]
      rfl
    have hwv : waitV s x = wantV t b := by
      unfold waitV
      rw [hw]
      dsimp only
      rw [hr0, hmw]
    obtain ⟨nw, hnw⟩ : ∃ n, r0.waits.length = n := ⟨_, rfl⟩
    rw [hnw] at hil
    have hi0 : (0 : Int) ≤ (i : Int) := by omega
    have hi1 : (i : Int) < (nw : Int) := by omega
    obtain ⟨n0, hn0⟩ : ∃ n, W4.heap.size = n := ⟨_, rfl⟩
    have hs0 := hs4.alloc #[.int .i64 t.f0, .string t.f1, .string t.f2] 29 hn0
    obtain ⟨W0, hW0⟩ : ∃ W0, W4.alloc (.cells #[.int .i64 t.f0, .string t.f1, .string t.f2] 29) = W0 := ⟨_, rfl⟩
    rw [hW0] at hs0
    have hs0' : St w F W0 (lk M ++ [blkC n4 (.cells #[.int .i64 0, .string ⟨#[]⟩, .string ⟨#[]⟩, .int .i64 0] 31 (0, 0)), blkC n0 (.cells #[.int .i64 t.f0, .string t.f1, .string t.f2] 29 (0, 0))]) := hs0
    have g0 := (blk_cell (hs0.blk 7 rfl) 0).trans rfl
    have g1 := (blk_cell (hs0.blk 7 rfl) 1).trans rfl
    have g2 := (blk_cell (hs0.blk 7 rfl) 2).trans rfl
    have h05 := lt_of_some (hs0.blk 7 rfl)
    have A28 := Aside0.mk (row_fr (t := t) hs0' hr htw (by simp only [LM.tot] at *; simp only [maxLen]; omega))
    unfold lpV thgV at A28
    have A29 := Aside0.mk (fun W p hv wv (h : RowH W p hv wv r0) => wait_calls W p hv wv r0 x h (by have := hok0.len; omega))
    rw [hij] at A29
    unfold ptr at A29
    have HWV := Aside0.mk hwv
    have HIL := Aside0.mk hil
    have HNW := Aside0.mk hnw
    have HR0 := Aside0.mk hr0
    have HO := Aside0.mk ho
    have HW := Aside0.mk hw
    clear hR hs hs4 hr hI hx hok hok0 hr0 hnw hn hw htw hha hfi hil hij hp0 hlow ho hmw hwv hs0 hs0'
    go_enter Try.func23, Try.ntmps23
    go_wp2_with (go_at_call 28; refine A28.out.mono ?_; rintro E w2 ⟨M1, X, m, Y, rfl, k1, k2, k3, k4, k5, k6⟩; have HREP1 := Aside0.mk k3; have HLP := Aside0.mk k4; have HTOT := Aside0.mk k5; have hmr : m.r = r0 := ((k2 ▸ k3.rr m (k1 ▸ mem_mid.2 (.inl rfl)) : m.r = s.rows t).trans HR0.out); have hmm : m ∈ M1.rs := k1 ▸ mem_mid.2 (.inl rfl); have HSQ := Aside0.mk k6; clear k1 k2 k3 k4 k5 k6 c0 c1 c2 hlp b0 b1 b2 b3 bf bl4 g0 g1 g2 h05 hlk A28; unfold ptr)
    have hrow : ∀ {W : World} {L : List Chunk}, St w F W (lk M1 ++ L) → RowH W m.p m.hv m.wv r0 := fun h => hmr ▸ ((h.get 4 rfl : ∀ y ∈ M1.rs, RowH _ y.p y.hv y.wv y.r) m hmm)
    obtain ⟨g, c, hwv, _⟩ := (show RowX oneE _ m.wv r0.waits from (hrow HSQ.out).waits).fill (by have := HIL.out; rw [HNW.out]; omega)
    rw [HNW.out] at hwv
    rw [hwv] at hrow
    have HROW := Aside0.mk @hrow
    clear hmr hmm hrow hwv
    refine start_ (n := 14) (S := fun w' => w'.cell? ⟨n0, 0, none⟩ = some (.int .i64 t.f0) ∧ w'.cell? ⟨n0, 1, none⟩ = some (.string t.f1) ∧ w'.cell? ⟨n0, 2, none⟩ = some (.string t.f2) ∧ w'.cell? ⟨m.p, 1, none⟩ = some (.slice (some ⟨g, 0, none⟩) nw c) ∧ w'.cell? ⟨g, i * 2 + 1, none⟩ = some (.int .i64 b)) (ds := [12]) #[false, false, false, false, false, false, false, false, false, false, false, false, false, false] (by kernel_rfl) rfl rfl ⟨(blk_cell (HSQ.out.blk 7 rfl) 0).trans rfl, (blk_cell (HSQ.out.blk 7 rfl) 1).trans rfl, (blk_cell (HSQ.out.blk 7 rfl) 2).trans rfl, (HROW.out HSQ.out).c1, ((show RowX oneE _ (.slice (some ⟨g, 0, none⟩) nw c) r0.waits from (HROW.out HSQ.out).waits).ones HO.out).2⟩ (fun hHeld => ?_)
    have HS1 := Aside0.mk (HSQ.out.drew)
    clear HSQ
    generalize w2.drew = w3 at HS1 hHeld  ⊢
    refine pure_ (i := 1) (N := (some 25)) (v := ?_) (a' := ?_) #[false, true, false, false, false, false, false, false, false, false, false, false, false, false] rfl rfl (by kernel_rfl) (fun _ _ _ h => h) (Or.inl ⟨by rfl, ?_⟩) ?_ ?_
    rotate_left
    · intro w'
      go_simp
      with_reducible rfl
    rotate_left
    · simp only [Act.put, List.setIfInBounds_toArray, List.set_cons_zero, List.set_cons_succ, i64_w, i32_w]
      rfl
    refine pure_ (i := 2) (N := (some 26)) (v := ?_) (a' := ?_) #[false, true, true, false, false, false, false, false, false, false, false, false, false, false] rfl rfl (by kernel_rfl) (fun _ _ _ h => h) (Or.inl ⟨by rfl, ?_⟩) ?_ ?_
    rotate_left
    · intro w'
      go_simp
      with_reducible rfl
    rotate_left
    · simp only [Act.put, List.setIfInBounds_toArray, List.set_cons_zero, List.set_cons_succ, i64_w, i32_w]
      rfl
    refine pure_ (i := 3) (N := (some 27)) (v := ?_) (a' := ?_) #[false, true, true, true, false, false, false, false, false, false, false, false, false, false] rfl rfl (by kernel_rfl) (fun _ _ _ h => h) (Or.inl ⟨by rfl, ?_⟩) ?_ ?_
    rotate_left
    · intro w'
      go_simp
      with_reducible rfl
    rotate_left
    · simp only [Act.put, List.setIfInBounds_toArray, List.set_cons_zero, List.set_cons_succ, i64_w, i32_w]
      rfl
    refine pure_ (i := 5) (N := (some 29)) (v := ?_) (a' := ?_) #[false, true, true, true, false, true, false, false, false, false, false, false, false, false] rfl rfl (by kernel_rfl) (fun _ _ _ h => h) (Or.inl ⟨by rfl, ?_⟩) ?_ ?_
    rotate_left
    · intro w'
      go_simp
      with_reducible rfl
    rotate_left
    · simp only [Act.put, List.setIfInBounds_toArray, List.set_cons_zero, List.set_cons_succ, i64_w, i32_w]
      rfl
    refine pure_ (i := 6) (N := (some 30)) (v := ?_) (a' := ?_) #[false, true, true, true, false, true, true, false, false, false, false, false, false, false] rfl rfl (by kernel_rfl) (fun _ _ _ h => h) (Or.inl ⟨by rfl, ?_⟩) ?_ ?_
    rotate_left
    · intro w'
      go_simp
      with_reducible rfl
    rotate_left
    · simp only [Act.put, List.setIfInBounds_toArray, List.set_cons_zero, List.set_cons_succ, i64_w, i32_w]
      rfl
    refine take_ (i := 0) (N := (some 24)) (v := ?_) (a' := ?_) #[true, true, true, true, false, true, true, false, false, false, false, false, false, false] rfl rfl (by kernel_rfl) (fun _ _ _ h => h) (Or.inl ⟨by rfl, ?_⟩) hHeld ?_ ?_
    rotate_left
    · rintro w' ⟨s0, s1, s2, s3, s4⟩
      go_simp
      with_reducible rfl
    rotate_left
    · simp only [Act.put, List.setIfInBounds_toArray, List.set_cons_zero, List.set_cons_succ, i64_w, i32_w]
      rfl
    refine take_ (i := 4) (N := (some 28)) (v := ?_) (a' := ?_) #[true, true, true, true, true, true, true, false, false, false, false, false, false, false] rfl rfl (by kernel_rfl) (fun _ _ _ h => h) (Or.inl ⟨by rfl, ?_⟩) hHeld ?_ ?_
    rotate_left
    · rintro w' ⟨s0, s1, s2, s3, s4⟩
      go_simp
      with_reducible rfl
    rotate_left
    · simp only [Act.put, List.setIfInBounds_toArray, List.set_cons_zero, List.set_cons_succ, i64_w, i32_w]
      rfl
    refine one_ (i := 7) (N := (some 31)) #[true, true, true, true, true, true, true, true, false, false, false, false, false, false] rfl rfl (by kernel_rfl) (by decide) (fun K_ hK => ?_)
    refine goes_ Try.func29 (by kernel_rfl) rfl #[.pointer (some ⟨m.p, 0, none⟩), .int .i64 x] (by rfl) rfl rfl (by (try simp only [List.map_toArray, List.map_cons, List.map_nil]); first | done | rfl) ?_
    refine (A29.out _ _ _ _ (HROW.out HS1.out)).mono ?_
    rintro E w4 ⟨rfl, hbq⟩
    have HS2 := Aside0.mk (HS1.out.below hbq)
    clear HS1
    clear hbq
    refine ⟨_, rfl, ?_⟩
    clear hHeld
    refine hK.out _ _ ⟨(blk_cell (HS2.out.blk 7 rfl) 0).trans rfl, (blk_cell (HS2.out.blk 7 rfl) 1).trans rfl, (blk_cell (HS2.out.blk 7 rfl) 2).trans rfl, (HROW.out HS2.out).c1, ((show RowX oneE _ (.slice (some ⟨g, 0, none⟩) nw c) r0.waits from (HROW.out HS2.out).waits).ones HO.out).2⟩ (fun hHeld => ?_)
    clear hK K_
    refine norm_ (a' := ?_) ?_ ?_
    rotate_left
    · show Act.put _ (some 31) _ = _
      simp only [Act.put, List.setIfInBounds_toArray, List.set_cons_zero, List.set_cons_succ, i64_w, i32_w]
      rfl
    refine pure_ (i := 8) (N := (some 32)) (v := ?_) (a' := ?_) #[true, true, true, true, true, true, true, true, true, false, false, false, false, false] rfl rfl (by kernel_rfl) (fun _ _ _ h => h) (Or.inl ⟨by rfl, ?_⟩) ?_ ?_
    rotate_left
    · intro w'
      go_simp
      with_reducible rfl
    rotate_left
    · simp only [Act.put, List.setIfInBounds_toArray, List.set_cons_zero, List.set_cons_succ, i64_w, i32_w]
      rfl
    refine pure_ (i := 9) (N := (some 33)) (v := ?_) (a' := ?_) #[true, true, true, true, true, true, true, true, true, true, false, false, false, false] rfl rfl (by kernel_rfl) (fun _ _ _ h => h) (Or.inl ⟨by rfl, ?_⟩) ?_ ?_
    rotate_left
    · intro w'
      go_simp
      with_reducible rfl
    rotate_left
    · simp only [Act.put, List.setIfInBounds_toArray, List.set_cons_zero, List.set_cons_succ, i64_w, i32_w]
      rfl
    refine take_ (i := 10) (N := (some 34)) (v := ?_) (a' := ?_) #[true, true, true, true, true, true, true, true, true, true, true, false, false, false] rfl rfl (by kernel_rfl) (fun _ _ _ h => h) (Or.inl ⟨by rfl, ?_⟩) hHeld ?_ ?_
    rotate_left
    · rintro w' ⟨s0, s1, s2, s3, s4⟩
      go_simp
      with_reducible rfl
    rotate_left
    · simp only [Act.put, List.setIfInBounds_toArray, List.set_cons_zero, List.set_cons_succ, i64_w, i32_w]
      rfl
    refine pure_ (i := 11) (N := (some 35)) (v := ?_) (a' := ?_) #[true, true, true, true, true, true, true, true, true, true, true, true, false, false] rfl rfl (by kernel_rfl) (fun _ _ _ h => h) (Or.inl ⟨by rfl, ?_⟩) ?_ ?_
    rotate_left
    · intro w'
      go_simp
      with_reducible rfl
    rotate_left
    · simp only [Act.put, List.setIfInBounds_toArray, List.set_cons_zero, List.set_cons_succ, i64_w, i32_w]
      rfl
    refine last_ (i := 12) (N := none) #[true, true, true, true, true, true, true, true, true, true, true, true, true, false] rfl rfl (by kernel_rfl) (by decide) (fun K_ hK => ?_)
    have c_0 := (blk_cell (HS2.out.blk 6 rfl) 0).trans rfl
    have c_1 := (blk_cell (HS2.out.blk 6 rfl) 1).trans rfl
    have c_2 := (blk_cell (HS2.out.blk 6 rfl) 2).trans rfl
    have c_3 := (blk_cell (HS2.out.blk 6 rfl) 3).trans rfl
    have c_4 := (fun j => frozen_of_row _ n4 j _ _ (HS2.out.blk 6 rfl))
    refine skip_ (w1 := ?_) (by rfl) rfl ?_ ?_
    rotate_left
    · go_simp
      rfl
    refine hK.out _ _ ?_
    clear hK K_ hHeld c_0 c_1 c_2 c_3 c_4
    refine pure_ (i := 13) (N := (some 5)) (v := ?_) (a' := ?_) #[true, true, true, true, true, true, true, true, true, true, true, true, true, true] rfl rfl (by kernel_rfl) (fun _ _ _ h => h) (Or.inl ⟨by rfl, ?_⟩) ?_ ?_
    rotate_left
    · intro w'
      go_simp
      with_reducible rfl
    rotate_left
    · simp only [Act.put, List.setIfInBounds_toArray, List.set_cons_zero, List.set_cons_succ, i64_w, i32_w]
      rfl
    refine done_ (by kernel_rfl) ?_
    have HS3 := Aside0.mk (show St w F ((((w4.setCell ⟨n4, 0, none⟩ (.int .i64 t.f0)).setCell ⟨n4, 1, none⟩ (.string t.f1)).setCell ⟨n4, 2, none⟩ (.string t.f2)).setCell ⟨n4, 3, none⟩ (.int .i64 b)) (lk M1 ++ [blkC n4 (.cells #[.int .i64 t.f0, .string t.f1, .string t.f2, .int .i64 b] 31 (0, 0)), blkC n0 _]) from HS2.out.putAll 6 rfl [.int .i64 t.f0, .string t.f1, .string t.f2, .int .i64 b] rfl)
    clear HS2
    generalize hW9_ : ((((w4.setCell ⟨n4, 0, none⟩ (.int .i64 t.f0)).setCell ⟨n4, 1, none⟩ (.string t.f1)).setCell ⟨n4, 2, none⟩ (.string t.f2)).setCell ⟨n4, 3, none⟩ (.int .i64 b)) = w5 at HS3 ⊢
    clear hW9_
    go_wp2
    have p0 := (blk_cell (HS3.out.blk 6 rfl) 0).trans rfl
    have p1 := (blk_cell (HS3.out.blk 6 rfl) 1).trans rfl
    have p2 := (blk_cell (HS3.out.blk 6 rfl) 2).trans rfl
    have p3 := (blk_cell (HS3.out.blk 6 rfl) 3).trans rfl
    have hfin : Waiting23 w F M s x (.returned (.tuple #[.agg #[.int .i64 t.f0, .string t.f1, .string t.f2, .int .i64 b], .bool true])) w5 :=
      ⟨M1, by rw [HWV.out, HW.out]; rfl, HREP1.out, HLP.out, HTOT.out, St.left (A := lk M1) HS3.out⟩
    rw [HR.out] at hfin
    refine bodyPost_ret (v := .tuple #[.agg #[.int .i64 t.f0, .string t.f1, .string t.f2, .int .i64 b], .bool true]) ?_ rfl hfin
    rw [results_cell_tmp rfl]
    go_simp
    try rfl
end Go.Proofs.Kb
end
section
namespace Go.Proofs.Kb
open Go Go.RowKit Go.Proofs.Ytkcjcdkmdooofaa.Q Go.Proofs.YtkcjcdkmdooofaaW.PrintWords Go.Proofs.YtkcjcdkmdooofaaW.PrintLast Go.Proofs.YtkcjcdkmdooofaaW.PrintMore
set_option linter.unusedVariables false
set_option linter.unusedSimpArgs false
set_option maxRecDepth 100000
open Go.Proofs.Lk Go.Proofs.Mp
section
variable {w0 w w' : World} {F : Nat → Prop} {R R' : List Chunk} {lp k : Nat} {s : LS S29} {X : List Int} {D : List S29}
theorem LA.waiting (h : LA w0 F lp s k R w) (hg : Good X D s) {x : Int} (hx : x ∈ X) (hk : k < 4000000000000000000) :
    Calls Try.prog 23 #[lpP lp, .int .i64 x] w fun E w' => E = .returned (.tuple #[waitV s x, .bool (s.waits x).isSome]) ∧ LA w0 F lp s (k + 1000000) R w' := by
  obtain ⟨M, rfl, h2, h3, h4⟩ := h
  exact (waiting_calls w M s x _ D.length (St.sub h4) h2 hg.inv (hg.xw x hx) hg.ok (by omega)).mono fun E w' ⟨M', e1, e2, e3, e4, e5⟩ => ⟨e1, M', e3, e2, by omega, St.call h4 e5⟩
end
theorem waitV_none {s : LS S29} {x : Int} (h : s.waits x = none) : waitV s x = .agg #[.int .i64 0, .string ⟨#[]⟩, .string ⟨#[]⟩, .int .i64 0] := by
  unfold waitV
  rw [h]
def GoneI (w : World) (l : List S33) (lp i : Nat) (W : World) : Prop := ∃ s, Good (txnsOf l) (thgsOf l) s ∧ LA w NoF lp s (1000000 * i) [] W
end Go.Proofs.Kb
end
section
namespace Go.Proofs.Kb
open Go Go.RowKit Go.Proofs.Ytkcjcdkmdooofaa.Q Go.Proofs.YtkcjcdkmdooofaaW.PrintWords Go.Proofs.YtkcjcdkmdooofaaW.PrintLast Go.Proofs.YtkcjcdkmdooofaaW.PrintMore
set_option linter.unusedVariables false
set_option linter.unusedSimpArgs false
set_option maxRecDepth 100000
open Go.Proofs.Lk Go.Proofs.Mp
end Go.Proofs.Kb
end
section
namespace Go.Proofs.Kb
open Go Go.RowKit Go.Proofs.Ytkcjcdkmdooofaa.Q Go.Proofs.YtkcjcdkmdooofaaW.PrintWords Go.Proofs.YtkcjcdkmdooofaaW.PrintLast Go.Proofs.YtkcjcdkmdooofaaW.PrintMore
set_option linter.unusedVariables false
set_option linter.unusedSimpArgs false
set_option maxRecDepth 100000
open Go.Proofs.Lk Go.Proofs.Mp
def ringF (x : Int) (s : LS S29) (ks : List Int) : LS S29 := (ks.filter fun k => decide (x < k)).foldl (fun s k => (releaseS haddT s k).1) s
theorem ringF_skip {x : Int} {s : LS S29} {ks : List Int} {b : Nat} {y : Int} (hy : ks[b]? = some y) (h : ¬ x < y) : (ks.take (b + 1)).filter (fun k => decide (x < k)) = (ks.take b).filter fun k => decide (x < k) := by
  rw [List.take_add_one, hy, List.filter_append]
  simp [h]
theorem ringF_add {x : Int} {s : LS S29} {ks : List Int} {b : Nat} {y : Int} (hy : ks[b]? = some y) (h : x < y) : (ks.take (b + 1)).filter (fun k => decide (x < k)) = ((ks.take b).filter fun k => decide (x < k)) ++ [y] := by
  rw [List.take_add_one, hy, List.filter_append]
  simp [h]
theorem good_rels {X : List Int} {D : List S29} : ∀ (ks : List Int) {s : LS S29}, Good X D s → Good X D (ks.foldl (fun s k => (releaseS haddT s k).1) s)
  | [], s, h => h
  | k :: ks, s, h => good_rels ks (h.release k)
theorem am_of {X : List Int} {D : List S29} {s : LS S29} (h : Good X D s) : Among (fits := fitsT) X s := fun u z hp => ⟨(h.am u z hp).1, (h.am u z hp).2.2⟩
theorem ringR_cons1 (x : Int) (xs : List Int) (s : LS S29) : (ringR haddT srtI (x :: xs) s).1 = (ringR haddT srtI xs (ring1 haddT srtI s x)).1 := rfl
theorem ringR_cons2 (x : Int) (xs : List Int) (s : LS S29) : (ringR haddT srtI (x :: xs) s).2 = (quiet1 srtI s x && (ringR haddT srtI xs (ring1 haddT srtI s x)).2) := rfl
theorem ring1_is {s : LS S29} {x : Int} {ks : List Int} (h : blockS srtI s x = ks) : ring1 haddT srtI s x = ringF x s ks := by
  unfold ring1 ringF
  rw [h]
theorem quiet1_is {s : LS S29} {x : Int} {ks : List Int} (h : blockS srtI s x = ks) : quiet1 srtI s x = (ks.filter fun k => decide (x < k)).isEmpty := by
  unfold quiet1
  rw [h]
theorem ringF_snoc {x : Int} {s : LS S29} {ks : List Int} {b : Nat} {y : Int} (hy : ks[b]? = some y) (h : x < y) : ringF x s (ks.take (b + 1)) = (releaseS haddT (ringF x s (ks.take b)) y).1 := by
  unfold ringF
  rw [ringF_add (x := x) (s := s) hy h, List.foldl_append, List.foldl_cons, List.foldl_nil]
theorem ringF_same {x : Int} {s : LS S29} {ks : List Int} {b : Nat} {y : Int} (hy : ks[b]? = some y) (h : ¬ x < y) : ringF x s (ks.take (b + 1)) = ringF x s (ks.take b) := by
  unfold ringF
  rw [ringF_skip (x := x) (s := s) hy h]
def RingO (w : World) (l : List S33) (lp r : Nat) (W : World) : Prop := ∃ s, Good (txnsOf l) (thgsOf l) s ∧ r + cnt (txnsOf l) s ≤ l.length ∧ LA w NoF lp s (1000000000000 * r + 1000000000) [] W
def RingM (w : World) (l : List S33) (lp r : Nat) (s0 : LS S29) (i : Nat) (q : Bool) (W : World) : Prop :=
  ∃ s, Good (txnsOf l) (thgsOf l) s ∧ (ringR haddT srtI (txnsOf l) s0).1 = (ringR haddT srtI ((txnsOf l).drop i) s).1 ∧ (ringR haddT srtI (txnsOf l) s0).2 = (q && (ringR haddT srtI ((txnsOf l).drop i) s).2) ∧ LA w NoF lp s (1000000000000 * r + 1000000000 * (i + 1)) [] W
set_option maxHeartbeats 8000000 in
theorem ring_row (w : World) (A0 : Option Addr) (c0 : Nat) (l : List S33) (hC : Kd.C k33 w A0 l.length l) (hcap : l.length ≤ c0) (hwf : l.length ≤ maxLen ∧ ∀ a ∈ l, wf33 a) :
    Calls Try.prog 7 #[.slice A0 l.length c0] w fun E w' => E = .returned (.bool true) ∧ Below w.heap.size w w' := by
  obtain ⟨Q, hQ⟩ : ∃ Q, (fun E w' => E = Ending.returned (.bool true) ∧ Below w.heap.size w w') = Q := ⟨_, rfl⟩
  have HQ := Aside0.mk hQ
  rw [hQ]
  have hu33 := Try.underlying33
  have hu31 := Try.underlying31
  have hu29 := Try.underlying29
  have hu22 := Try.underlying22
  have hu39 := Try.underlying39
  have hz31 := Try.sizeOf31
  have HA := Aside0.mk (Arg.mk hC)
  have HW := Aside0.mk hwf.2
  obtain ⟨b, hb1, hb2⟩ := great_some l
  have A11 := Aside0.mk (fun W (hb : Below w.heap.size w W) => great_at W A0 c0 l (Kd.C_below hC hb) hcap hb1)
  obtain ⟨n, hnn⟩ : ∃ n, l.length = n := ⟨_, rfl⟩
  rw [hnn] at A11 hb2 ⊢
  have HN := Aside0.mk hnn
  clear hQ hC hcap hwf hnn hb1
  have G1 : True := trivial
  have G2 : True := trivial
  cases b with
  | true =>
    clear hb2
    go_enter Try.func7, Try.ntmps7
    go_wp2_with (first
      | (clear G1; go_at_call 10; refine (alive_calls w).mono ?_; rintro E w1 ⟨rfl, hb⟩; have HB1 := Aside0.mk hb; clear hb)
      | (clear G2; go_at_call 11; refine (A11.out _ HB1.out).mono ?_; rintro E w2 ⟨rfl, hb⟩; have HB2 := Aside0.mk (HB1.out.trans (hb.mono HB1.out.size)); clear hb))
    rw [← HQ.out]
    exact ⟨rfl, HB2.out⟩
  | false =>
    have hn120 : n ≤ 120 := hb2 rfl
    have HG0 := Aside0.mk (good_new (l := l) (by rw [HN.out]; exact hn120) HW.out)
    clear hb2
    go_enter Try.func7, Try.ntmps7
    go_wp2_with (first
      | (clear G1; go_at_call 10; refine (alive_calls w).mono ?_; rintro E w1 ⟨rfl, hb⟩; have HB1 := Aside0.mk hb; clear hb)
      | (clear G2; go_at_call 11; refine (A11.out _ HB1.out).mono ?_; rintro E w2 ⟨rfl, hb⟩; have HB2 := Aside0.mk (HB1.out.trans (hb.mono HB1.out.size)); clear hb)
      | (go_at_call 12; refine (LA.new (R := []) ((St.nil0 w NoF).below HB2.out)).mono ?_; rintro E w3 ⟨lp, rfl, h⟩; have HS3 := Aside0.mk (show GoneI w l lp 0 w3 from ⟨LS.new, HG0.out, h⟩); clear h HB1 HB2; unfold lpP))
    clear A11
    go_loopg [4] n (fun gq v4 wx => ∃ i : Nat, v4 = .int .i64 i ∧ i + gq = n ∧ Aside0 (GoneI w l lp i wx))
    case atStart => exact ⟨0, rfl, by omega, HS3⟩
    case round =>
      clear HS3
      obtain ⟨i, rfl, hi, HSI⟩ := hrel
      obtain ⟨s, hgs, hla⟩ := HSI.out
      clear HSI
      cases gk with
      | succ gq =>
        have hin : i < n := by omega
        have hin2 : (i : Int) < (n : Int) := by omega
        have hi0 : (0 : Int) ≤ (i : Int) := by omega
        have hi9 : (i : Int) ≤ 1000000 := by omega
        obtain ⟨c, hc⟩ : ∃ c, l[i]? = some c := ⟨_, List.getElem?_eq_getElem (by rw [HN.out]; exact hin)⟩
        obtain ⟨ad, rfl, hcell⟩ := HA.out.cells hc
        obtain ⟨d0, d1, d2, d3, d4, d5⟩ := hcell wr (keep_below hla.rest.keep)
        have hcm := List.mem_of_getElem? hc
        have HG := Aside0.mk (good_do hgs hcm)
        have A13 := Aside0.mk (hla.do hgs c (List.mem_map.2 ⟨c, hcm, rfl⟩) (List.mem_map.2 ⟨c, hcm, rfl⟩) (by omega))
        unfold lpP callV at A13
        clear hc hcell hcm hgs hla
        go_wp2_with (go_at_call 13; refine A13.out.mono ?_; rintro E w4 ⟨rfl, h⟩; have HS4 := Aside0.mk (show GoneI w l lp (i + 1) w4 from ⟨_, HG.out, h.mono (by omega)⟩); clear h d0 d1 d2 d3 d4 d5 A13)
        go_roundg gq
        case measure => omega
        case rel => exact ⟨i + 1, by go_num, by omega, HS4⟩
      | zero =>
        obtain rfl : i = n := by omega
        have HS5 := Aside0.mk (show RingO w l lp 0 wr from ⟨s, hgs, by have := cnt_le (txnsOf l) s; simp only [txnsOf, List.length_map] at this ⊢; omega, hla.mono (by omega)⟩)
        clear hgs hla
        go_wp2
        go_loopg [5, 6, 7, 8, 9, 10, 11, 12, 13, 14, 15] (i + 1) (fun gq v5 v6 v7 v8 v9 v10 v11 v12 v13 v14 v15 wx => ∃ r : Nat, v5 = .int .i64 r ∧ r + gq = i + 1 ∧ Aside0 (RingO w l lp r wx))
        case atStart => exact ⟨0, rfl, by omega, HS5⟩
        case round =>
          clear HS5
          obtain ⟨r, rfl, hr, HSR⟩ := hrel
          obtain ⟨s0, hg0, hcn, hla0⟩ := HSR.out
          clear HSR
          rw [HN.out] at hcn
          have hri : r ≤ i := by omega
          have hri2 : (r : Int) ≤ (i : Int) := by omega
          have hr9 : (r : Int) ≤ 1000000 := by omega
          have hr0 : (0 : Int) ≤ (r : Int) := by omega
          obtain ⟨gq, rfl⟩ : ∃ g, gk = g + 1 := ⟨gk - 1, by omega⟩
          obtain ⟨ri1, ri2, ri3, ri4⟩ := ring_good (hadd := haddT) (srt := srtI) (fits := fitsT) mem_haddT mem_srtI (X := txnsOf l) (txnsOf l) s0 hg0.inv (am_of hg0)
          have HRI := Aside0.mk ri4
          have HCN := Aside0.mk hcn
          have HG0 := Aside0.mk hg0
          have HS6 := Aside0.mk (show RingM w l lp r s0 0 true wr from ⟨s0, hg0, by rw [List.drop_zero], by rw [Bool.true_and, List.drop_zero], hla0.mono (by omega)⟩)
          clear ri1 ri2 ri3 ri4 hg0 hcn hla0
          go_wp2
          go_loopg [6, 7, 8, 9, 10] i (fun gq v6 v7 v8 v9 v10 wx => ∃ (j : Nat) (q : Bool), v7 = .int .i64 j ∧ v6 = .bool q ∧ j + gq = i ∧ Aside0 (RingM w l lp r s0 j q wx))
          case atStart => exact ⟨0, true, rfl, rfl, by omega, HS6⟩
          case round =>
            clear HS6
            obtain ⟨j, q, rfl, rfl, hj, HSM⟩ := hrel
            obtain ⟨s, hgs, hm1, hm2, hla⟩ := HSM.out
            clear HSM
            cases gk with
            | succ gq2 =>
              have hin : j < i := by omega
              have hin2 : (j : Int) < (i : Int) := by omega
              have hi0 : (0 : Int) ≤ (j : Int) := by omega
              have hi9 : (j : Int) ≤ 1000000 := by omega
              obtain ⟨c, hc⟩ : ∃ c, l[j]? = some c := ⟨_, List.getElem?_eq_getElem (by rw [HN.out]; exact hin)⟩
              obtain ⟨ad, rfl, hcell⟩ := HA.out.cells hc
              obtain ⟨d0, d1, d2, d3, d4, d5⟩ := hcell wr (keep_below hla.rest.keep)
              have hcm := List.mem_of_getElem? hc
              have hxX : c.f1 ∈ txnsOf l := List.mem_map.2 ⟨c, hcm, rfl⟩
              have hdr : (txnsOf l).drop j = c.f1 :: (txnsOf l).drop (j + 1) := by
                have hlj : j < (txnsOf l).length := by simp only [txnsOf, List.length_map]; rw [HN.out]; exact hin
                rw [List.drop_eq_getElem_cons hlj]
                congr 1
                simp only [txnsOf, List.getElem_map]
                rw [(List.getElem?_eq_some_iff.1 hc).2]
              obtain ⟨x, hx⟩ : ∃ x, c.f1 = x := ⟨_, rfl⟩
              rw [hx] at d1 hxX hdr
              rw [hdr] at hm1 hm2
              have A16 := Aside0.mk (hla.blockers hgs hxX (by omega))
              obtain ⟨ks, hks⟩ : ∃ ks, blockS srtI s x = ks := ⟨_, rfl⟩
              have hkl := blockS_len hgs x
              have hkX : ∀ y ∈ ks, y ∈ txnsOf l := fun y hy => by
                rw [← hks] at hy
                obtain ⟨⟨t, hp⟩, _⟩ := block_pres (srt := srtI) mem_srtI hy
                exact (hgs.am t y hp).1
              rw [hks] at A16 hkl
              obtain ⟨nk, hnk⟩ : ∃ nk, ks.length = nk := ⟨_, rfl⟩
              have hnk9 : nk ≤ 299 := by rw [← hnk]; exact hkl
              have HKS := Aside0.mk hks
              have HNK := Aside0.mk hnk
              have HKX := Aside0.mk hkX
              have HM1 := Aside0.mk hm1
              have HM2 := Aside0.mk hm2
              have HGS := Aside0.mk hgs
              unfold lpP at A16
              clear hc hcell hcm hxX hdr hx hks hkl hkX hnk hgs hla hm1 hm2
              go_wp2_with (go_at_call 16; refine A16.out.mono ?_; rintro E w5 ⟨v, rfl, h⟩; obtain ⟨AK, cK, rfl⟩ := (h.rest.rowX 0 rfl).form; rw [HNK.out] at h ⊢; have HS7 := Aside0.mk h; clear h d0 d1 d2 d3 d4 d5 A16)
              go_loopg [6, 10] nk (fun gq v6 v10 wx => ∃ (e : Nat) (q2 : Bool), v10 = .int .i64 e ∧ v6 = .bool q2 ∧ e + gq = nk ∧ Aside0 (q2 = (q && ((ks.take e).filter fun k => decide (x < k)).isEmpty)) ∧ Aside0 (LA w NoF lp (ringF x s (ks.take e)) (1000000000000 * r + 1000000000 * (j + 1) + 1000000 * (e + 1)) [rowIC (.slice AK nk cK) ks] wx))
              case atStart => exact ⟨0, q, rfl, rfl, by omega, Aside0.mk (by simp), Aside0.mk ((show ringF x s (ks.take 0) = s by rw [List.take_zero]; rfl) ▸ HS7.out.mono (by omega))⟩
              case round =>
                clear HS7
                obtain ⟨e, q2, rfl, rfl, he, HQ2, HS⟩ := hrel
                cases gk with
                | zero =>
                  obtain rfl : e = nk := by omega
                  have ht : ks.take e = ks := List.take_of_length_le (by rw [HNK.out]; exact Nat.le_refl _)
                  rw [ht] at HS HQ2
                  have HS8 := Aside0.mk (show RingM w l lp r s0 (j + 1) q2 wr from ⟨ringF x s ks, good_rels _ HGS.out, by rw [HM1.out, ringR_cons1, ring1_is HKS.out], by
                    rw [HM2.out, HQ2.out, ringR_cons2, ring1_is HKS.out, quiet1_is HKS.out, Bool.and_assoc],
                    (LA.drop (R := [_]) (R' := []) HS.out).mono (show 1000000000000 * r + 1000000000 * (j + 1) + 1000000 * (e + 1) ≤ 1000000000000 * r + 1000000000 * (j + 1 + 1) by omega)⟩)
                  clear HS ht
                  go_wp2
                  go_roundg gq2
                  case measure => omega
                  case rel => exact ⟨j + 1, q2, by go_num, rfl, by omega, HS8⟩
                | succ gq3 =>
                  have hen : e < nk := by omega
                  have hen2 : (e : Int) < (nk : Int) := by omega
                  have he0 : (0 : Int) ≤ (e : Int) := by omega
                  have he9 : (e : Int) ≤ 1000000 := by omega
                  obtain ⟨y, hy⟩ : ∃ y, ks[e]? = some y := ⟨_, List.getElem?_eq_getElem (by rw [HNK.out]; exact hen)⟩
                  obtain ⟨gK, cK', hv, _⟩ := row_slice (HS.out.rest.rowX 0 rfl) (by rw [HNK.out]; omega)
                  obtain ⟨rfl, rfl⟩ : AK = some ⟨gK, 0, none⟩ ∧ cK = cK' := by
                    injection hv with e1 e2 e3
                    exact ⟨e1, e3⟩
                  have d0 := (HS.out.rest.rowX 0 rfl).int hy
                  have hgl := World.block_lt_of_cell? _ _ d0
                  have HY := Aside0.mk hy
                  by_cases hxy : x < y
                  · have A21 := Aside0.mk (HS.out.release (good_rels _ HGS.out) (HKX.out y (List.mem_of_getElem? hy)) (by omega))
                    unfold lpP at A21
                    have HADD := Aside0.mk (ringF_add (x := x) (s := s) hy hxy)
                    have HSN := Aside0.mk (ringF_snoc (s := s) hy hxy)
                    clear hy hv
                    go_wp2_with (go_at_call 21; refine A21.out.mono ?_; rintro E w6 ⟨v, rfl, h⟩; have HS8 := Aside0.mk (LA.drop (R := [_]) (R' := [_]) h); clear h d0 hgl A21)
                    go_roundg gq3
                    case measure => omega
                    case rel =>
                      refine ⟨e + 1, false, by go_num, rfl, by omega, Aside0.mk (by rw [HADD.out]; simp), Aside0.mk ?_⟩
                      have h1 := HS8.out.mono (show 1000000000000 * r + 1000000000 * (j + 1) + 1000000 * (e + 1) + 1000000 ≤ 1000000000000 * r + 1000000000 * (j + 1) + 1000000 * (e + 1 + 1) by omega)
                      rw [HSN.out]
                      exact h1
                  · have HSK := Aside0.mk (ringF_skip (x := x) (s := s) hy hxy)
                    have HSN := Aside0.mk (ringF_same (s := s) hy hxy)
                    clear hy hv
                    go_wp2
                    go_roundg gq3
                    case measure => omega
                    case rel =>
                      refine ⟨e + 1, q2, by go_num, rfl, by omega, Aside0.mk (by rw [HSK.out]; exact HQ2.out), Aside0.mk ?_⟩
                      have h1 := HS.out.mono (show 1000000000000 * r + 1000000000 * (j + 1) + 1000000 * (e + 1) ≤ 1000000000000 * r + 1000000000 * (j + 1) + 1000000 * (e + 1 + 1) by omega)
                      rw [HSN.out]
                      exact h1
            | zero =>
              obtain rfl : j = i := by omega
              have hdn : (txnsOf l).drop j = [] := List.drop_eq_nil_of_le (by simp only [txnsOf, List.length_map]; rw [HN.out]; exact Nat.le_refl _)
              rw [hdn] at hm1 hm2
              simp only [ringR, Bool.and_true] at hm1 hm2
              cases q with
              | false =>
                have hlt : cnt (txnsOf l) s < cnt (txnsOf l) s0 := by
                  rcases HRI.out with ⟨a, _⟩ | ⟨_, b⟩
                  · rw [hm2] at a
                    cases a
                  · rw [hm1] at b
                    exact b
                have HS8 := Aside0.mk (show RingO w l lp (r + 1) wr from ⟨s, hgs, by rw [HN.out]; have := HCN.out; omega, hla.mono (by omega)⟩)
                clear hgs hm1 hm2 hla hlt hdn
                go_wp2
                go_roundg gq
                case measure => omega
                case rel => exact ⟨r + 1, by go_num, by omega, HS8⟩
              | true =>
                have hqq : ∀ x ∈ txnsOf l, quiet1 srtI s x = true := by
                  rcases HRI.out with ⟨_, b, c⟩ | ⟨a, _⟩
                  · rw [hm1] at b
                    rw [b]
                    exact c
                  · rw [hm2] at a
                    cases a
                have HQQ := Aside0.mk hqq
                have HGS := Aside0.mk hgs
                have HS8 := Aside0.mk hla
                clear hgs hm1 hm2 hla hqq hdn
                go_wp2
                go_loopg [11, 12, 13, 14, 15] j (fun gq v11 v12 v13 v14 v15 wx => ∃ a : Nat, v11 = .int .i64 a ∧ a + gq = j ∧ Aside0 (LA w NoF lp s (1000000000000 * r + 1000000000 * (j + 1) + 1000000 * a) [] wx))
                case atStart => exact ⟨0, rfl, by omega, Aside0.mk (HS8.out.mono (by omega))⟩
                case round =>
                  clear HS8
                  obtain ⟨a, rfl, ha, HS⟩ := hrel
                  cases gk with
                  | zero =>
                    obtain rfl : a = j := by omega
                    go_wp2
                    rw [← HQ.out]
                    exact ⟨rfl, keep_below HS.out.rest.keep⟩
                  | succ gq2 =>
                    have han : a < j := by omega
                    have han2 : (a : Int) < (j : Int) := by omega
                    have ha0 : (0 : Int) ≤ (a : Int) := by omega
                    have ha9 : (a : Int) ≤ 1000000 := by omega
                    obtain ⟨c, hc⟩ : ∃ c, l[a]? = some c := ⟨_, List.getElem?_eq_getElem (by rw [HN.out]; exact han)⟩
                    obtain ⟨ad, rfl, hcell⟩ := HA.out.cells hc
                    have HCELL := Aside0.mk hcell
                    have hxX : c.f1 ∈ txnsOf l := List.mem_map.2 ⟨c, List.mem_of_getElem? hc, rfl⟩
                    obtain ⟨x, hx⟩ : ∃ x, c.f1 = x := ⟨_, rfl⟩
                    rw [hx] at HCELL hxX
                    have HXX := Aside0.mk hxX
                    clear hc hcell hxX hx
                    go_wp2
                    go_loopg [12, 13] j (fun gq v12 v13 wx => ∃ (e : Nat) (lst : Bool), v13 = .int .i64 e ∧ v12 = .bool lst ∧ e + gq = j ∧ Aside0 (lst = true → ∀ c ∈ l.take e, x ≤ c.f1) ∧ Aside0 (LA w NoF lp s (1000000000000 * r + 1000000000 * (j + 1) + 1000000 * a) [] wx))
                    case atStart => exact ⟨0, true, rfl, rfl, by omega, Aside0.mk (fun _ c hc => by simp at hc), HS⟩
                    case round =>
                      clear HS
                      obtain ⟨e, lst, rfl, rfl, he, HLST, HS⟩ := hrel
                      cases gk with
                      | zero =>
                        obtain rfl : e = j := by omega
                        obtain ⟨d0, d1, d2, d3, d4, d5⟩ := HCELL.out wr (keep_below HS.out.rest.keep)
                        have A23 := Aside0.mk (HS.out.waiting HGS.out HXX.out (by omega))
                        unfold lpP at A23
                        cases lst with
                        | true =>
                          have hle : ∀ y ∈ txnsOf l, x ≤ y := fun y hy => by
                            obtain ⟨c', hc', rfl⟩ := List.mem_map.1 hy
                            exact HLST.out (by first | rfl | trivial) c' (by rw [List.take_of_length_le (by rw [HN.out]; exact Nat.le_refl _)]; exact hc')
                          have hwn := quiet_law (fits := fitsT) (srt := srtI) mem_srtI HGS.out.inv (am_of HGS.out) HXX.out (HQQ.out x HXX.out) hle
                          rw [waitV_none hwn, hwn] at A23
                          simp only [Option.isSome] at A23
                          clear hle hwn
                          go_wp2_with (go_at_call 23; refine A23.out.mono ?_; rintro E w6 ⟨rfl, h⟩; have HS9 := Aside0.mk (LA.drop (R := [_]) (R' := []) (h.alloc #[.int .i64 0, .string ⟨#[]⟩, .string ⟨#[]⟩, .int .i64 0] 31 rfl)); clear h d0 d1 d2 d3 d4 d5 A23)
                          go_roundg gq2
                          case measure => omega
                          case rel => exact ⟨a + 1, by go_num, by omega, Aside0.mk (HS9.out.mono (by omega))⟩
                        | false =>
                          cases hwt : s.waits x with
                          | none =>
                            rw [waitV_none hwt, hwt] at A23
                            simp only [Option.isSome] at A23
                            clear hwt
                            go_wp2_with (go_at_call 23; refine A23.out.mono ?_; rintro E w6 ⟨rfl, h⟩; have HS9 := Aside0.mk (LA.drop (R := [_]) (R' := []) (h.alloc #[.int .i64 0, .string ⟨#[]⟩, .string ⟨#[]⟩, .int .i64 0] 31 rfl)); clear h d0 d1 d2 d3 d4 d5 A23)
                            go_roundg gq2
                            case measure => omega
                            case rel => exact ⟨a + 1, by go_num, by omega, Aside0.mk (HS9.out.mono (by omega))⟩
                          | some t' =>
                            obtain ⟨mw, hmw⟩ : ∃ mw, modeW (s.rows t') x = mw := ⟨_, rfl⟩
                            have hwv : waitV s x = .agg #[.int .i64 t'.f0, .string t'.f1, .string t'.f2, .int .i64 mw] := by
                              unfold waitV
                              rw [hwt]
                              dsimp only
                              rw [hmw]
                              rfl
                            rw [hwv, hwt] at A23
                            simp only [Option.isSome] at A23
                            clear hwt hwv hmw
                            go_wp2_with (go_at_call 23; refine A23.out.mono ?_; rintro E w6 ⟨rfl, h⟩; have HS9 := Aside0.mk (LA.drop (R := [_]) (R' := []) (h.alloc #[.int .i64 t'.f0, .string t'.f1, .string t'.f2, .int .i64 mw] 31 rfl)); clear h d0 d1 d2 d3 d4 d5 A23)
                            go_roundg gq2
                            case measure => omega
                            case rel => exact ⟨a + 1, by go_num, by omega, Aside0.mk (HS9.out.mono (by omega))⟩
                      | succ gq3 =>
                        have hen : e < j := by omega
                        have hen2 : (e : Int) < (j : Int) := by omega
                        have he0 : (0 : Int) ≤ (e : Int) := by omega
                        have he9 : (e : Int) ≤ 1000000 := by omega
                        obtain ⟨c2, hc2⟩ : ∃ c, l[e]? = some c := ⟨_, List.getElem?_eq_getElem (by rw [HN.out]; exact hen)⟩
                        obtain ⟨ad2, had, hcell2⟩ := HA.out.cells hc2
                        injection had with had
                        subst had
                        have HCELL2 := Aside0.mk hcell2
                        have HC2 := Aside0.mk hc2
                        clear hc2 hcell2
                        cases lst with
                        | false =>
                          go_wp2
                          refine start_ (n := 15) (S := fun w' => w'.cell? ⟨(ad.add (a * 6)).block, (ad.add (a * 6)).off + 1, none⟩ = some (.int .i64 x)) (ds := []) #[false, false, false, false, false, false, false, false, false, false, false, false, false, false, false] (by kernel_rfl) rfl rfl (HCELL.out _ (keep_below HS.out.rest.keep)).2.1 (fun hHeld => ?_)
                          have HS1 := Aside0.mk (HS.out.drew)
                          clear HS
                          generalize wr.drew = w7 at HS1 hHeld  ⊢
                          refine pure_ (i := 0) (N := (some 85)) (v := ?_) (a' := ?_) #[true, false, false, false, false, false, false, false, false, false, false, false, false, false, false] rfl rfl (by kernel_rfl) (fun _ _ _ h => h) (Or.inl ⟨by rfl, ?_⟩) ?_ ?_
                          rotate_left
                          · intro w'
                            go_simp
                            with_reducible rfl
                          rotate_left
                          · simp only [Act.put, List.setIfInBounds_toArray, List.set_cons_zero, List.set_cons_succ, i64_w, i32_w]
                            rfl
                          refine pure_ (i := 1) (N := (some 86)) (v := ?_) (a' := ?_) #[true, true, false, false, false, false, false, false, false, false, false, false, false, false, false] rfl rfl (by kernel_rfl) (fun _ _ _ h => h) (Or.inl ⟨by rfl, ?_⟩) ?_ ?_
                          rotate_left
                          · intro w'
                            go_simp
                            with_reducible rfl
                          rotate_left
                          · simp only [Act.put, List.setIfInBounds_toArray, List.set_cons_zero, List.set_cons_succ, i64_w, i32_w]
                            rfl
                          refine pure_ (i := 2) (N := (some 87)) (v := undef) (a' := ?_) #[true, true, true, false, false, false, false, false, false, false, false, false, false, false, false] rfl rfl (by kernel_rfl) (fun _ _ _ h => h) (Or.inr ⟨by rfl, rfl⟩) ?_ ?_
                          rotate_left
                          · simp only [Act.put, List.setIfInBounds_toArray, List.set_cons_zero, List.set_cons_succ, i64_w, i32_w]
                            rfl
                          refine pure_ (i := 3) (N := (some 88)) (v := undef) (a' := ?_) #[true, true, true, true, false, false, false, false, false, false, false, false, false, false, false] rfl rfl (by kernel_rfl) (fun _ _ _ h => h) (Or.inr ⟨by rfl, rfl⟩) ?_ ?_
                          rotate_left
                          · simp only [Act.put, List.setIfInBounds_toArray, List.set_cons_zero, List.set_cons_succ, i64_w, i32_w]
                            rfl
                          refine pure_ (i := 4) (N := (some 89)) (v := undef) (a' := ?_) #[true, true, true, true, true, false, false, false, false, false, false, false, false, false, false] rfl rfl (by kernel_rfl) (fun _ _ _ h => h) (Or.inr ⟨by rfl, rfl⟩) ?_ ?_
                          rotate_left
                          · simp only [Act.put, List.setIfInBounds_toArray, List.set_cons_zero, List.set_cons_succ, i64_w, i32_w]
                            rfl
                          refine pure_ (i := 5) (N := (some 90)) (v := undef) (a' := ?_) #[true, true, true, true, true, true, false, false, false, false, false, false, false, false, false] rfl rfl (by kernel_rfl) (fun _ _ _ h => h) (Or.inr ⟨by rfl, rfl⟩) ?_ ?_
                          rotate_left
                          · simp only [Act.put, List.setIfInBounds_toArray, List.set_cons_zero, List.set_cons_succ, i64_w, i32_w]
                            rfl
                          refine pure_ (i := 6) (N := (some 91)) (v := undef) (a' := ?_) #[true, true, true, true, true, true, true, false, false, false, false, false, false, false, false] rfl rfl (by kernel_rfl) (fun _ _ _ h => h) (Or.inr ⟨by rfl, rfl⟩) ?_ ?_
                          rotate_left
                          · simp only [Act.put, List.setIfInBounds_toArray, List.set_cons_zero, List.set_cons_succ, i64_w, i32_w]
                            rfl
                          refine pure_ (i := 7) (N := (some 92)) (v := undef) (a' := ?_) #[true, true, true, true, true, true, true, true, false, false, false, false, false, false, false] rfl rfl (by kernel_rfl) (fun _ _ _ h => h) (Or.inr ⟨by rfl, rfl⟩) ?_ ?_
                          rotate_left
                          · simp only [Act.put, List.setIfInBounds_toArray, List.set_cons_zero, List.set_cons_succ, i64_w, i32_w]
                            rfl
                          refine pure_ (i := 8) (N := (some 93)) (v := undef) (a' := ?_) #[true, true, true, true, true, true, true, true, true, false, false, false, false, false, false] rfl rfl (by kernel_rfl) (fun _ _ _ h => h) (Or.inr ⟨by rfl, rfl⟩) ?_ ?_
                          rotate_left
                          · simp only [Act.put, List.setIfInBounds_toArray, List.set_cons_zero, List.set_cons_succ, i64_w, i32_w]
                            rfl
                          refine pure_ (i := 9) (N := (some 94)) (v := undef) (a' := ?_) #[true, true, true, true, true, true, true, true, true, true, false, false, false, false, false] rfl rfl (by kernel_rfl) (fun _ _ _ h => h) (Or.inr ⟨by rfl, rfl⟩) ?_ ?_
                          rotate_left
                          · simp only [Act.put, List.setIfInBounds_toArray, List.set_cons_zero, List.set_cons_succ, i64_w, i32_w]
                            rfl
                          refine pure_ (i := 10) (N := (some 95)) (v := undef) (a' := ?_) #[true, true, true, true, true, true, true, true, true, true, true, false, false, false, false] rfl rfl (by kernel_rfl) (fun _ _ _ h => h) (Or.inr ⟨by rfl, rfl⟩) ?_ ?_
                          rotate_left
                          · simp only [Act.put, List.setIfInBounds_toArray, List.set_cons_zero, List.set_cons_succ, i64_w, i32_w]
                            rfl
                          refine pure_ (i := 11) (N := (some 96)) (v := undef) (a' := ?_) #[true, true, true, true, true, true, true, true, true, true, true, true, false, false, false] rfl rfl (by kernel_rfl) (fun _ _ _ h => h) (Or.inr ⟨by rfl, rfl⟩) ?_ ?_
                          rotate_left
                          · simp only [Act.put, List.setIfInBounds_toArray, List.set_cons_zero, List.set_cons_succ, i64_w, i32_w]
                            rfl
                          refine pure_ (i := 12) (N := (some 97)) (v := undef) (a' := ?_) #[true, true, true, true, true, true, true, true, true, true, true, true, true, false, false] rfl rfl (by kernel_rfl) (fun _ _ _ h => h) (Or.inr ⟨by rfl, rfl⟩) ?_ ?_
                          rotate_left
                          · simp only [Act.put, List.setIfInBounds_toArray, List.set_cons_zero, List.set_cons_succ, i64_w, i32_w]
                            rfl
                          refine pure_ (i := 13) (N := (some 98)) (v := ?_) (a' := ?_) #[true, true, true, true, true, true, true, true, true, true, true, true, true, true, false] rfl rfl (by kernel_rfl) (fun _ _ _ h => h) (Or.inl ⟨by rfl, ?_⟩) ?_ ?_
                          rotate_left
                          · intro w'
                            go_simp
                            with_reducible rfl
                          rotate_left
                          · simp only [Act.put, List.setIfInBounds_toArray, List.set_cons_zero, List.set_cons_succ, i64_w, i32_w]
                            rfl
                          refine pure_ (i := 14) (N := (some 12)) (v := ?_) (a' := ?_) #[true, true, true, true, true, true, true, true, true, true, true, true, true, true, true] rfl rfl (by kernel_rfl) (fun _ _ _ h => h) (Or.inl ⟨by rfl, ?_⟩) ?_ ?_
                          rotate_left
                          · intro w'
                            go_simp
                            with_reducible rfl
                          rotate_left
                          · simp only [Act.put, List.setIfInBounds_toArray, List.set_cons_zero, List.set_cons_succ, i64_w, i32_w]
                            rfl
                          refine done_ (by kernel_rfl) ?_
                          clear hHeld
                          go_wp2
                          go_roundg gq3
                          case measure => omega
                          case rel => exact ⟨e + 1, false, by go_num, rfl, by omega, Aside0.mk (fun h => by cases h), HS1⟩
                        | true =>
                          obtain ⟨y, hy⟩ : ∃ y, c2.f1 = y := ⟨_, rfl⟩
                          rw [hy] at HCELL2
                          have HYE := Aside0.mk hy
                          clear hy
                          by_cases hxy : x ≤ y
                          · have hd1 : decide (x ≤ y) = true := decide_eq_true hxy
                            go_wp2
                            refine start_ (n := 15) (S := fun w' => w'.cell? ⟨(ad.add (a * 6)).block, (ad.add (a * 6)).off + 1, none⟩ = some (.int .i64 x) ∧ w'.cell? ⟨(ad.add (e * 6)).block, (ad.add (e * 6)).off + 1, none⟩ = some (.int .i64 y)) (ds := []) #[false, false, false, false, false, false, false, false, false, false, false, false, false, false, false] (by kernel_rfl) rfl rfl ⟨(HCELL.out _ (keep_below HS.out.rest.keep)).2.1, (HCELL2.out _ (keep_below HS.out.rest.keep)).2.1⟩ (fun hHeld => ?_)
                            have HS1 := Aside0.mk (HS.out.drew)
                            clear HS
                            generalize wr.drew = w7 at HS1 hHeld  ⊢
                            refine pure_ (i := 0) (N := (some 85)) (v := ?_) (a' := ?_) #[true, false, false, false, false, false, false, false, false, false, false, false, false, false, false] rfl rfl (by kernel_rfl) (fun _ _ _ h => h) (Or.inl ⟨by rfl, ?_⟩) ?_ ?_
                            rotate_left
                            · intro w'
                              go_simp
                              with_reducible rfl
                            rotate_left
                            · simp only [Act.put, List.setIfInBounds_toArray, List.set_cons_zero, List.set_cons_succ, i64_w, i32_w]
                              rfl
                            refine pure_ (i := 1) (N := (some 86)) (v := ?_) (a' := ?_) #[true, true, false, false, false, false, false, false, false, false, false, false, false, false, false] rfl rfl (by kernel_rfl) (fun _ _ _ h => h) (Or.inl ⟨by rfl, ?_⟩) ?_ ?_
                            rotate_left
                            · intro w'
                              go_simp
                              with_reducible rfl
                            rotate_left
                            · simp only [Act.put, List.setIfInBounds_toArray, List.set_cons_zero, List.set_cons_succ, i64_w, i32_w]
                              rfl
                            refine pure_ (i := 2) (N := (some 87)) (v := ?_) (a' := ?_) #[true, true, true, false, false, false, false, false, false, false, false, false, false, false, false] rfl rfl (by kernel_rfl) (fun _ _ _ h => h) (Or.inl ⟨by rfl, ?_⟩) ?_ ?_
                            rotate_left
                            · intro w'
                              go_simp
                              with_reducible rfl
                            rotate_left
                            · simp only [Act.put, List.setIfInBounds_toArray, List.set_cons_zero, List.set_cons_succ, i64_w, i32_w]
                              rfl
                            refine pure_ (i := 3) (N := (some 88)) (v := ?_) (a' := ?_) #[true, true, true, true, false, false, false, false, false, false, false, false, false, false, false] rfl rfl (by kernel_rfl) (fun _ _ _ h => h) (Or.inl ⟨by rfl, ?_⟩) ?_ ?_
                            rotate_left
                            · intro w'
                              go_simp
                              with_reducible rfl
                            rotate_left
                            · simp only [Act.put, List.setIfInBounds_toArray, List.set_cons_zero, List.set_cons_succ, i64_w, i32_w]
                              rfl
                            refine pure_ (i := 4) (N := (some 89)) (v := ?_) (a' := ?_) #[true, true, true, true, true, false, false, false, false, false, false, false, false, false, false] rfl rfl (by kernel_rfl) (fun _ _ _ h => h) (Or.inl ⟨by rfl, ?_⟩) ?_ ?_
                            rotate_left
                            · intro w'
                              go_simp
                              with_reducible rfl
                            rotate_left
                            · simp only [Act.put, List.setIfInBounds_toArray, List.set_cons_zero, List.set_cons_succ, i64_w, i32_w]
                              rfl
                            refine pure_ (i := 5) (N := (some 90)) (v := ?_) (a' := ?_) #[true, true, true, true, true, true, false, false, false, false, false, false, false, false, false] rfl rfl (by kernel_rfl) (fun _ _ _ h => h) (Or.inl ⟨by rfl, ?_⟩) ?_ ?_
                            rotate_left
                            · intro w'
                              go_simp
                              with_reducible rfl
                            rotate_left
                            · simp only [Act.put, List.setIfInBounds_toArray, List.set_cons_zero, List.set_cons_succ, i64_w, i32_w]
                              rfl
                            refine pure_ (i := 7) (N := (some 92)) (v := ?_) (a' := ?_) #[true, true, true, true, true, true, false, true, false, false, false, false, false, false, false] rfl rfl (by kernel_rfl) (fun _ _ _ h => h) (Or.inl ⟨by rfl, ?_⟩) ?_ ?_
                            rotate_left
                            · intro w'
                              go_simp
                              with_reducible rfl
                            rotate_left
                            · simp only [Act.put, List.setIfInBounds_toArray, List.set_cons_zero, List.set_cons_succ, i64_w, i32_w]
                              rfl
                            refine pure_ (i := 8) (N := (some 93)) (v := ?_) (a' := ?_) #[true, true, true, true, true, true, false, true, true, false, false, false, false, false, false] rfl rfl (by kernel_rfl) (fun _ _ _ h => h) (Or.inl ⟨by rfl, ?_⟩) ?_ ?_
                            rotate_left
                            · intro w'
                              go_simp
                              with_reducible rfl
                            rotate_left
                            · simp only [Act.put, List.setIfInBounds_toArray, List.set_cons_zero, List.set_cons_succ, i64_w, i32_w]
                              rfl
                            refine pure_ (i := 9) (N := (some 94)) (v := ?_) (a' := ?_) #[true, true, true, true, true, true, false, true, true, true, false, false, false, false, false] rfl rfl (by kernel_rfl) (fun _ _ _ h => h) (Or.inl ⟨by rfl, ?_⟩) ?_ ?_
                            rotate_left
                            · intro w'
                              go_simp
                              with_reducible rfl
                            rotate_left
                            · simp only [Act.put, List.setIfInBounds_toArray, List.set_cons_zero, List.set_cons_succ, i64_w, i32_w]
                              rfl
                            refine pure_ (i := 10) (N := (some 95)) (v := ?_) (a' := ?_) #[true, true, true, true, true, true, false, true, true, true, true, false, false, false, false] rfl rfl (by kernel_rfl) (fun _ _ _ h => h) (Or.inl ⟨by rfl, ?_⟩) ?_ ?_
                            rotate_left
                            · intro w'
                              go_simp
                              with_reducible rfl
                            rotate_left
                            · simp only [Act.put, List.setIfInBounds_toArray, List.set_cons_zero, List.set_cons_succ, i64_w, i32_w]
                              rfl
                            refine take_ (i := 6) (N := (some 91)) (v := ?_) (a' := ?_) #[true, true, true, true, true, true, true, true, true, true, true, false, false, false, false] rfl rfl (by kernel_rfl) (fun _ _ _ h => h) (Or.inl ⟨by rfl, ?_⟩) hHeld ?_ ?_
                            rotate_left
                            · rintro w' ⟨s0, s1⟩
                              go_simp
                              with_reducible rfl
                            rotate_left
                            · simp only [Act.put, List.setIfInBounds_toArray, List.set_cons_zero, List.set_cons_succ, i64_w, i32_w]
                              rfl
                            refine take_ (i := 11) (N := (some 96)) (v := ?_) (a' := ?_) #[true, true, true, true, true, true, true, true, true, true, true, true, false, false, false] rfl rfl (by kernel_rfl) (fun _ _ _ h => h) (Or.inl ⟨by rfl, ?_⟩) hHeld ?_ ?_
                            rotate_left
                            · rintro w' ⟨s0, s1⟩
                              go_simp
                              with_reducible rfl
                            rotate_left
                            · simp only [Act.put, List.setIfInBounds_toArray, List.set_cons_zero, List.set_cons_succ, i64_w, i32_w]
                              rfl
                            refine pure_ (i := 12) (N := (some 97)) (v := ?_) (a' := ?_) #[true, true, true, true, true, true, true, true, true, true, true, true, true, false, false] rfl rfl (by kernel_rfl) (fun _ _ _ h => h) (Or.inl ⟨by rfl, ?_⟩) ?_ ?_
                            rotate_left
                            · intro w'
                              go_simp
                              with_reducible rfl
                            rotate_left
                            · simp only [Act.put, List.setIfInBounds_toArray, List.set_cons_zero, List.set_cons_succ, i64_w, i32_w]
                              rfl
                            refine pure_ (i := 13) (N := (some 98)) (v := ?_) (a' := ?_) #[true, true, true, true, true, true, true, true, true, true, true, true, true, true, false] rfl rfl (by kernel_rfl) (fun _ _ _ h => h) (Or.inl ⟨by rfl, ?_⟩) ?_ ?_
                            rotate_left
                            · intro w'
                              go_simp
                              with_reducible rfl
                            rotate_left
                            · simp only [Act.put, List.setIfInBounds_toArray, List.set_cons_zero, List.set_cons_succ, i64_w, i32_w]
                              rfl
                            refine pure_ (i := 14) (N := (some 12)) (v := ?_) (a' := ?_) #[true, true, true, true, true, true, true, true, true, true, true, true, true, true, true] rfl rfl (by kernel_rfl) (fun _ _ _ h => h) (Or.inl ⟨by rfl, ?_⟩) ?_ ?_
                            rotate_left
                            · intro w'
                              go_simp
                              with_reducible rfl
                            rotate_left
                            · simp only [Act.put, List.setIfInBounds_toArray, List.set_cons_zero, List.set_cons_succ, i64_w, i32_w]
                              rfl
                            refine done_ (by kernel_rfl) ?_
                            clear hHeld
                            go_wp2
                            go_roundg gq3
                            case measure => omega
                            case rel => exact ⟨e + 1, true, by go_num, rfl, by omega, Aside0.mk (fun _ => take_snoc HC2.out (HLST.out (by first | rfl | trivial)) (by rw [HYE.out]; exact hxy)), HS1⟩
                          · have hd1 : decide (x ≤ y) = false := decide_eq_false hxy
                            go_wp2
                            refine start_ (n := 15) (S := fun w' => w'.cell? ⟨(ad.add (a * 6)).block, (ad.add (a * 6)).off + 1, none⟩ = some (.int .i64 x) ∧ w'.cell? ⟨(ad.add (e * 6)).block, (ad.add (e * 6)).off + 1, none⟩ = some (.int .i64 y)) (ds := []) #[false, false, false, false, false, false, false, false, false, false, false, false, false, false, false] (by kernel_rfl) rfl rfl ⟨(HCELL.out _ (keep_below HS.out.rest.keep)).2.1, (HCELL2.out _ (keep_below HS.out.rest.keep)).2.1⟩ (fun hHeld => ?_)
                            have HS1 := Aside0.mk (HS.out.drew)
                            clear HS
                            generalize wr.drew = w7 at HS1 hHeld  ⊢
                            refine pure_ (i := 0) (N := (some 85)) (v := ?_) (a' := ?_) #[true, false, false, false, false, false, false, false, false, false, false, false, false, false, false] rfl rfl (by kernel_rfl) (fun _ _ _ h => h) (Or.inl ⟨by rfl, ?_⟩) ?_ ?_
                            rotate_left
                            · intro w'
                              go_simp
                              with_reducible rfl
                            rotate_left
                            · simp only [Act.put, List.setIfInBounds_toArray, List.set_cons_zero, List.set_cons_succ, i64_w, i32_w]
                              rfl
                            refine pure_ (i := 1) (N := (some 86)) (v := ?_) (a' := ?_) #[true, true, false, false, false, false, false, false, false, false, false, false, false, false, false] rfl rfl (by kernel_rfl) (fun _ _ _ h => h) (Or.inl ⟨by rfl, ?_⟩) ?_ ?_
                            rotate_left
                            · intro w'
                              go_simp
                              with_reducible rfl
                            rotate_left
                            · simp only [Act.put, List.setIfInBounds_toArray, List.set_cons_zero, List.set_cons_succ, i64_w, i32_w]
                              rfl
                            refine pure_ (i := 2) (N := (some 87)) (v := ?_) (a' := ?_) #[true, true, true, false, false, false, false, false, false, false, false, false, false, false, false] rfl rfl (by kernel_rfl) (fun _ _ _ h => h) (Or.inl ⟨by rfl, ?_⟩) ?_ ?_
                            rotate_left
                            · intro w'
                              go_simp
                              with_reducible rfl
                            rotate_left
                            · simp only [Act.put, List.setIfInBounds_toArray, List.set_cons_zero, List.set_cons_succ, i64_w, i32_w]
                              rfl
                            refine pure_ (i := 3) (N := (some 88)) (v := ?_) (a' := ?_) #[true, true, true, true, false, false, false, false, false, false, false, false, false, false, false] rfl rfl (by kernel_rfl) (fun _ _ _ h => h) (Or.inl ⟨by rfl, ?_⟩) ?_ ?_
                            rotate_left
                            · intro w'
                              go_simp
                              with_reducible rfl
                            rotate_left
                            · simp only [Act.put, List.setIfInBounds_toArray, List.set_cons_zero, List.set_cons_succ, i64_w, i32_w]
                              rfl
                            refine pure_ (i := 4) (N := (some 89)) (v := ?_) (a' := ?_) #[true, true, true, true, true, false, false, false, false, false, false, false, false, false, false] rfl rfl (by kernel_rfl) (fun _ _ _ h => h) (Or.inl ⟨by rfl, ?_⟩) ?_ ?_
                            rotate_left
                            · intro w'
                              go_simp
                              with_reducible rfl
                            rotate_left
                            · simp only [Act.put, List.setIfInBounds_toArray, List.set_cons_zero, List.set_cons_succ, i64_w, i32_w]
                              rfl
                            refine pure_ (i := 5) (N := (some 90)) (v := ?_) (a' := ?_) #[true, true, true, true, true, true, false, false, false, false, false, false, false, false, false] rfl rfl (by kernel_rfl) (fun _ _ _ h => h) (Or.inl ⟨by rfl, ?_⟩) ?_ ?_
                            rotate_left
                            · intro w'
                              go_simp
                              with_reducible rfl
                            rotate_left
                            · simp only [Act.put, List.setIfInBounds_toArray, List.set_cons_zero, List.set_cons_succ, i64_w, i32_w]
                              rfl
                            refine pure_ (i := 7) (N := (some 92)) (v := ?_) (a' := ?_) #[true, true, true, true, true, true, false, true, false, false, false, false, false, false, false] rfl rfl (by kernel_rfl) (fun _ _ _ h => h) (Or.inl ⟨by rfl, ?_⟩) ?_ ?_
                            rotate_left
                            · intro w'
                              go_simp
                              with_reducible rfl
                            rotate_left
                            · simp only [Act.put, List.setIfInBounds_toArray, List.set_cons_zero, List.set_cons_succ, i64_w, i32_w]
                              rfl
                            refine pure_ (i := 8) (N := (some 93)) (v := ?_) (a' := ?_) #[true, true, true, true, true, true, false, true, true, false, false, false, false, false, false] rfl rfl (by kernel_rfl) (fun _ _ _ h => h) (Or.inl ⟨by rfl, ?_⟩) ?_ ?_
                            rotate_left
                            · intro w'
                              go_simp
                              with_reducible rfl
                            rotate_left
                            · simp only [Act.put, List.setIfInBounds_toArray, List.set_cons_zero, List.set_cons_succ, i64_w, i32_w]
                              rfl
                            refine pure_ (i := 9) (N := (some 94)) (v := ?_) (a' := ?_) #[true, true, true, true, true, true, false, true, true, true, false, false, false, false, false] rfl rfl (by kernel_rfl) (fun _ _ _ h => h) (Or.inl ⟨by rfl, ?_⟩) ?_ ?_
                            rotate_left
                            · intro w'
                              go_simp
                              with_reducible rfl
                            rotate_left
                            · simp only [Act.put, List.setIfInBounds_toArray, List.set_cons_zero, List.set_cons_succ, i64_w, i32_w]
                              rfl
                            refine pure_ (i := 10) (N := (some 95)) (v := ?_) (a' := ?_) #[true, true, true, true, true, true, false, true, true, true, true, false, false, false, false] rfl rfl (by kernel_rfl) (fun _ _ _ h => h) (Or.inl ⟨by rfl, ?_⟩) ?_ ?_
                            rotate_left
                            · intro w'
                              go_simp
                              with_reducible rfl
                            rotate_left
                            · simp only [Act.put, List.setIfInBounds_toArray, List.set_cons_zero, List.set_cons_succ, i64_w, i32_w]
                              rfl
                            refine take_ (i := 6) (N := (some 91)) (v := ?_) (a' := ?_) #[true, true, true, true, true, true, true, true, true, true, true, false, false, false, false] rfl rfl (by kernel_rfl) (fun _ _ _ h => h) (Or.inl ⟨by rfl, ?_⟩) hHeld ?_ ?_
                            rotate_left
                            · rintro w' ⟨s0, s1⟩
                              go_simp
                              with_reducible rfl
                            rotate_left
                            · simp only [Act.put, List.setIfInBounds_toArray, List.set_cons_zero, List.set_cons_succ, i64_w, i32_w]
                              rfl
                            refine take_ (i := 11) (N := (some 96)) (v := ?_) (a' := ?_) #[true, true, true, true, true, true, true, true, true, true, true, true, false, false, false] rfl rfl (by kernel_rfl) (fun _ _ _ h => h) (Or.inl ⟨by rfl, ?_⟩) hHeld ?_ ?_
                            rotate_left
                            · rintro w' ⟨s0, s1⟩
                              go_simp
                              with_reducible rfl
                            rotate_left
                            · simp only [Act.put, List.setIfInBounds_toArray, List.set_cons_zero, List.set_cons_succ, i64_w, i32_w]
                              rfl
                            refine pure_ (i := 12) (N := (some 97)) (v := ?_) (a' := ?_) #[true, true, true, true, true, true, true, true, true, true, true, true, true, false, false] rfl rfl (by kernel_rfl) (fun _ _ _ h => h) (Or.inl ⟨by rfl, ?_⟩) ?_ ?_
                            rotate_left
                            · intro w'
                              go_simp
                              with_reducible rfl
                            rotate_left
                            · simp only [Act.put, List.setIfInBounds_toArray, List.set_cons_zero, List.set_cons_succ, i64_w, i32_w]
                              rfl
                            refine pure_ (i := 13) (N := (some 98)) (v := ?_) (a' := ?_) #[true, true, true, true, true, true, true, true, true, true, true, true, true, true, false] rfl rfl (by kernel_rfl) (fun _ _ _ h => h) (Or.inl ⟨by rfl, ?_⟩) ?_ ?_
                            rotate_left
                            · intro w'
                              go_simp
                              with_reducible rfl
                            rotate_left
                            · simp only [Act.put, List.setIfInBounds_toArray, List.set_cons_zero, List.set_cons_succ, i64_w, i32_w]
                              rfl
                            refine pure_ (i := 14) (N := (some 12)) (v := ?_) (a' := ?_) #[true, true, true, true, true, true, true, true, true, true, true, true, true, true, true] rfl rfl (by kernel_rfl) (fun _ _ _ h => h) (Or.inl ⟨by rfl, ?_⟩) ?_ ?_
                            rotate_left
                            · intro w'
                              go_simp
                              with_reducible rfl
                            rotate_left
                            · simp only [Act.put, List.setIfInBounds_toArray, List.set_cons_zero, List.set_cons_succ, i64_w, i32_w]
                              rfl
                            refine done_ (by kernel_rfl) ?_
                            clear hHeld
                            go_wp2
                            go_roundg gq3
                            case measure => omega
                            case rel => exact ⟨e + 1, false, by go_num, rfl, by omega, Aside0.mk (fun h => by cases h), HS1⟩
end Go.Proofs.Kb
end
