/- Packed by shake.py: YtkcjcdkmdooofaaGreatQ53 YtkcjcdkmdooofaaGreatQ67 YtkcjcdkmdooofaaGreatQ38 YtkcjcdkmdooofaaGreatLM1 YtkcjcdkmdooofaaGreatLW2 YtkcjcdkmdooofaaGreatRX1 YtkcjcdkmdooofaaGreatLi37 YtkcjcdkmdooofaaGreatLd47 YtkcjcdkmdooofaaGreatLW3 YtkcjcdkmdooofaaGreatLW4 YtkcjcdkmdooofaaGreatLW5 YtkcjcdkmdooofaaGreatRX2 YtkcjcdkmdooofaaGreatLW6 YtkcjcdkmdooofaaGreatShelf YtkcjcdkmdooofaaGreatLW7 YtkcjcdkmdooofaaGreatLW8 YtkcjcdkmdooofaaGreatA2 YtkcjcdkmdooofaaGreatLW9 YtkcjcdkmdooofaaGreatH73 YtkcjcdkmdooofaaGreatQ71 -/
import Derived.Shelf.RegionOpenPlain
import Derived.Shelf.Spec.SlicesInsert
import Derived.Shelf.Small.Wraps
import Derived.Shelf.Sort.Plain
import Derived.Ground.Names2Prog
import Derived.Shelf.Slices.CompactI
import Derived.Shelf.Slices.SearchI
import Derived.Shelf.Slices.Cells
import Derived.Shelf.Slices.In.SortNone
import Derived.Test.YtkcjcdkmdooofaaGreatProg
import Derived.Sort.OwnSortedInts
import Derived.Lib.RowBridge
import Derived.Laws.Cover1
import Derived.Test.YtkcjcdkmdooofaaGreatV1
set_option linter.unusedVariables false
set_option linter.unusedSimpArgs false
set_option linter.unusedSectionVars false
section
namespace Go.Proofs.YtkcjcdkmdooofaaGreat.Q
open Go.RowKit Go.Proofs.YtkcjcdkmdooofaaGreatW.PrintWords Go.Proofs.YtkcjcdkmdooofaaGreatW.PrintLast Go.Proofs.YtkcjcdkmdooofaaGreatW.PrintMore
attribute [local go_sem] max2_int min2_int max_two min_two max_three min_three max_four min_four
def interlockref10_Conflict.l0 : Nat → Int → List Int → Int → Option (Bool)
 | 0, _, _, _ => none
 | k + 1, x1, x5, x6 => if x6 < (x5.length : Int) then (if 0 ≤ x6 then (if (rd x5 x6) = x1 then (some true) else (interlockref10_Conflict.l0 k x1 x5 (wrap64 (x6 + 1)))) else (none)) else (some false)
def interlockref10_Conflict.f (k : Nat) (a0 : Int) (a1 : Int) : Option (Bool) := (interlockref10_row.f a0).bind fun t371 => (interlockref10_Conflict.l0 k a1 t371 0)
theorem interlockref10_Conflict.mono_l : ∀ k, (∀ y0 y1 y2, LeO (interlockref10_Conflict.l0 k y0 y1 y2) (interlockref10_Conflict.l0 (k + 1) y0 y1 y2))
 | 0 => fun _ _ _ r h => by simp [interlockref10_Conflict.l0] at h
 | k + 1 => by
   have ih0 := interlockref10_Conflict.mono_l k
   · intro y0 y1 y2
     unfold interlockref10_Conflict.l0
     repeat' first
     | (with_reducible exact ih0 _ _ _)
     | (with_reducible exact LeO.refl _)
     | (with_reducible exact LeO.none _)
     | (with_reducible refine LeO.ite ?_ ?_)
     | (with_reducible refine LeO.bind ?_ (fun _ => ?_))
     | exact ih0 _ _ _
     | exact LeO.none _
     | refine LeO.ite ?_ ?_
     | refine LeO.bind ?_ (fun _ => ?_)
theorem interlockref10_Conflict.mono : ∀ a0 a1 k, LeO (interlockref10_Conflict.f k a0 a1) (interlockref10_Conflict.f (k + 1) a0 a1) := by
 intro a0 a1 k
 have ih0 := interlockref10_Conflict.mono_l k
 unfold interlockref10_Conflict.f
 repeat' first
     | (with_reducible exact ih0 _ _ _)
     | (with_reducible exact LeO.refl _)
     | (with_reducible exact LeO.none _)
     | (with_reducible refine LeO.ite ?_ ?_)
     | (with_reducible refine LeO.bind ?_ (fun _ => ?_))
     | exact ih0 _ _ _
     | exact LeO.none _
     | refine LeO.ite ?_ ?_
     | refine LeO.bind ?_ (fun _ => ?_)
set_option maxHeartbeats 8000000 in
set_option maxRecDepth 100000 in
theorem interlockref10_Conflict.calls (k : Nat) (a0 : Int) (a1 : Int) (r : Bool) (w : World) (h : interlockref10_Conflict.f k a0 a1 = some r) :
   Calls Tryz.prog 53 #[.int .i64 a0, .int .i64 a1] w fun e w' => e = .returned (.bool r) ∧ Below w.heap.size w w' := by
 have HB := Aside0.mk (Below.refl w.heap.size w)
 have H : ((interlockref10_row.f a0).bind fun t371 => (interlockref10_Conflict.l0 k a1 t371 0)) = some r := h
 clear h
 replace H := Option.bind_eq_some_iff.mp H
 obtain ⟨t371, A30, H⟩ := H
 replace H : (interlockref10_Conflict.l0 k a1 t371 0) = some r := H
 have A3 := Aside0.mk A30
 clear A30
 have H' := Aside0.mk H
 clear H
 go_enter Tryz.func53, Tryz.ntmps53
 go_wp2_with (first | ((with_reducible refine gate_callee (f := 68) rfl ?_); refine goesL_ (some 8) rfl rfl Tryz.func68 (by kernel_rfl) rfl #[.int .i64 a0] rfl (by (try simp only [List.map_toArray, List.map_cons, List.map_nil]); first | done | rfl | (simp only [List.length_drop, List.length_take]; rfl)) ?_; (with_reducible refine (interlockref10_row.calls a0 t371 _ A3.out).mono ?_); rintro e w4 ⟨v372, rfl, ho0, hb⟩; refine ⟨_, rfl, ?_⟩; have n0_ := Aside0.mk (Kd.R_lower ho0 (below_size (by repeat (first | (with_reducible first | exact HB.out | apply below_alloc | apply pw_below_drewN | apply below_drew1) | exact HB.out)))); have n1_ := Aside0.mk (below_step (by repeat (first | (with_reducible first | exact HB.out | apply below_alloc | apply pw_below_drewN | apply below_drew1) | exact HB.out)) hb); clear HB; have HO373 := n0_; have HB := n1_; clear n0_ n1_; (try clear hb); (try clear hb2); (try clear hk); (try clear hi); (try clear ho0)))
 go_loopg [6] k (fun kq v6 w' => ∃ (x6_1 : Int), v6 = .int .i64 x6_1 ∧ Aside0 (interlockref10_Conflict.l0 kq a1 t371 x6_1 = some r) ∧ Aside0 (kq ≤ k) ∧ Aside0 (Kd.R (Kd.int .i64) 3 w' w.heap.size (fun _ => True) v372 t371) ∧ Aside0 (Below w.heap.size w w'))
 case atStart => exact ⟨(0), (by first | rfl | (simp; done) | (simp [*]; done)), H', ⟨Nat.le_refl _⟩, ⟨by (with_reducible repeat (first | apply Kd.R_alloc | apply Kd.R_drewN | apply Kd.R_drew)); exact HO373.out⟩, ⟨by repeat (first | (with_reducible first | exact HB.out | apply below_alloc | apply pw_below_drewN | apply below_drew1) | exact HB.out)⟩⟩
 case round =>
   clear H'
   try clear p2
   obtain ⟨x6_1, rfl, HA, HK1, HO_5, HB⟩ := hrel
   cases gk with
   | zero => exact absurd HA.out (by simp [interlockref10_Conflict.l0])
   | succ k1 =>
     have H := HA.out
     clear HA
     simp only [interlockref10_Conflict.l0] at H
     by_cases c5 : x6_1 < (t371.length : Int)
     · rw [if_pos c5] at H
       have c5b0 : decide (x6_1 < (t371.length : Int)) = true := decide_eq_true c5
       clear c5
       by_cases c6 : 0 ≤ x6_1
       · rw [if_pos c6] at H
         have c6b0 : decide (0 ≤ x6_1) = true := decide_eq_true c6
         clear c6
         by_cases c7 : (rd t371 x6_1) = a1
         · rw [if_pos c7] at H
           have c7b0 : ((rd t371 x6_1) == a1) = true := beq_iff_eq.mpr c7
           have c7b1 : ((rd t371 x6_1) != a1) = false := bne_eq_false_iff_eq.mpr c7
           clear c7
           obtain rfl := Option.some.inj H
           obtain ⟨Ao8, co8, eo8⟩ := Kd.R_slice HO_5.out
           subst eo8
           have p374 : 0 ≤ (x6_1 : Int) := of_decide_eq_true (by first | (with_reducible assumption) | assumption)
           have q374 : x6_1 < (t371.length : Int) := of_decide_eq_true (by first | (with_reducible assumption) | assumption)
           obtain ⟨ad374, e374, hx374_0⟩ := Kd.at_int (Kd.R_reads' HO_5.out).2.2 x6_1 p374 q374
           cases e374
           replace p374 := eq_true p374
           replace q374 := eq_true q374
           go_wp2
           go_ret
           exact ⟨by first | rfl | (simp [errW_none, errW_some] <;> rfl) | (simp [*, errW_none, errW_some] <;> rfl), by repeat (first | (with_reducible first | exact HB.out | apply below_alloc | apply pw_below_drewN | apply below_drew1) | exact HB.out)⟩
         · rw [if_neg c7] at H
           have c7b0 : ((rd t371 x6_1) == a1) = false := beq_eq_false_iff_ne.mpr c7
           have c7b1 : ((rd t371 x6_1) != a1) = true := bne_iff_ne.mpr c7
           have H' := Aside0.mk H
           clear H
           obtain ⟨Ao9, co9, eo9⟩ := Kd.R_slice HO_5.out
           subst eo9
           have p374 : 0 ≤ (x6_1 : Int) := of_decide_eq_true (by first | (with_reducible assumption) | assumption)
           have q374 : x6_1 < (t371.length : Int) := of_decide_eq_true (by first | (with_reducible assumption) | assumption)
           obtain ⟨ad374, e374, hx374_0⟩ := Kd.at_int (Kd.R_reads' HO_5.out).2.2 x6_1 p374 q374
           cases e374
           replace p374 := eq_true p374
           replace q374 := eq_true q374
           go_wp2
           go_roundg k1
           case measure => have := HK1.out; omega
           case rel => exact ⟨(wrap64 (x6_1 + 1)), (by first | rfl | (simp; done) | (simp [*]; done)), H', ⟨by have := HK1.out; omega⟩, ⟨by (with_reducible repeat (first | apply Kd.R_alloc | apply Kd.R_drewN | apply Kd.R_drew)); exact HO_5.out⟩, ⟨by repeat (first | (with_reducible first | exact HB.out | apply below_alloc | apply pw_below_drewN | apply below_drew1) | exact HB.out)⟩⟩
       · rw [if_neg c6] at H
         exact absurd H (by simp)
     · rw [if_neg c5] at H
       have c5b0 : decide (x6_1 < (t371.length : Int)) = false := decide_eq_false c5
       clear c5
       obtain rfl := Option.some.inj H
       obtain ⟨Ao10, co10, eo10⟩ := Kd.R_slice HO_5.out
       subst eo10
       go_wp2
       go_ret
       exact ⟨by first | rfl | (simp [errW_none, errW_some] <;> rfl) | (simp [*, errW_none, errW_some] <;> rfl), by repeat (first | (with_reducible first | exact HB.out | apply below_alloc | apply pw_below_drewN | apply below_drew1) | exact HB.out)⟩
end Go.Proofs.YtkcjcdkmdooofaaGreat.Q
end
section
namespace Go.Proofs.YtkcjcdkmdooofaaGreat.Q
open Go.RowKit Go.Proofs.YtkcjcdkmdooofaaGreatW.PrintWords Go.Proofs.YtkcjcdkmdooofaaGreatW.PrintLast Go.Proofs.YtkcjcdkmdooofaaGreatW.PrintMore
attribute [local go_sem] max2_int min2_int max_two min_two max_three min_three max_four min_four
def interlockref10_right.f (a0 : Int) : Option (Bool) := if a0 ≥ 1 then (some (decide (a0 ≤ 8))) else (some false)
set_option maxHeartbeats 8000000 in
set_option maxRecDepth 100000 in
theorem interlockref10_right.calls (a0 : Int) (r : Bool) (w : World) (h : interlockref10_right.f a0 = some r) :
   Calls Tryz.prog 67 #[.int .i64 a0] w fun e w' => e = .returned (.bool r) ∧ Drawn0 w w' := by
 have H : (if a0 ≥ 1 then (some (decide (a0 ≤ 8))) else (some false)) = some r := h
 clear h
 by_cases c2 : a0 ≥ 1
 · rw [if_pos c2] at H
   have c2b0 : decide (1 ≤ a0) = true := decide_eq_true c2
   clear c2
   obtain rfl := Option.some.inj H
   go_enter Tryz.func67, Tryz.ntmps67
   go_wp2
   go_ret
   exact ⟨by first | rfl | (simp; done) | (simp [*]; done), by repeat (first | exact Drawn0.refl _ | apply Drawn0.step)⟩
 · rw [if_neg c2] at H
   have c2b0 : decide (1 ≤ a0) = false := decide_eq_false c2
   clear c2
   obtain rfl := Option.some.inj H
   go_enter Tryz.func67, Tryz.ntmps67
   go_wp2
   go_ret
   exact ⟨by first | rfl | (simp; done) | (simp [*]; done), by repeat (first | exact Drawn0.refl _ | apply Drawn0.step)⟩
end Go.Proofs.YtkcjcdkmdooofaaGreat.Q
end
section
namespace Go.Proofs.YtkcjcdkmdooofaaGreat.Q
open Go.RowKit Go.Proofs.YtkcjcdkmdooofaaGreatW.PrintWords Go.Proofs.YtkcjcdkmdooofaaGreatW.PrintLast Go.Proofs.YtkcjcdkmdooofaaGreatW.PrintMore
attribute [local go_sem] max2_int min2_int max_two min_two max_three min_three max_four min_four
mutual
def interlockref10_Covers.j0 : Nat → Int → Int → Bool → Option (Bool)
 | 0, _, _, _ => none
 | k + 1, x0, x1, x13 => if x13 = true then (some false) else (interlockref10_Covers.l0 k x0 x1 1)
def interlockref10_Covers.l0 : Nat → Int → Int → Int → Option (Bool)
 | 0, _, _, _ => none
 | k + 1, x0, x1, x5 => if x5 ≤ 8 then ((interlockref10_Conflict.f k x1 x5).bind fun t377 => (if t377 = true then ((interlockref10_Conflict.f k x0 x5).bind fun t378 => (if t378 = true then (interlockref10_Covers.l0 k x0 x1 (wrap64 (x5 + 1))) else (some false))) else (interlockref10_Covers.l0 k x0 x1 (wrap64 (x5 + 1))))) else (some true)
end
def interlockref10_Covers.f (k : Nat) (a0 : Int) (a1 : Int) : Option (Bool) := (interlockref10_right.f a0).bind fun t375 => (if t375 = true then ((interlockref10_right.f a1).bind fun t376 => (interlockref10_Covers.j0 k a0 a1 (!t376))) else (interlockref10_Covers.j0 k a0 a1 true))
theorem interlockref10_Covers.mono_l : ∀ k, (∀ y0 y1 y2, LeO (interlockref10_Covers.j0 k y0 y1 y2) (interlockref10_Covers.j0 (k + 1) y0 y1 y2)) ∧ (∀ y0 y1 y2, LeO (interlockref10_Covers.l0 k y0 y1 y2) (interlockref10_Covers.l0 (k + 1) y0 y1 y2))
 | 0 => ⟨fun _ _ _ r h => by simp [interlockref10_Covers.j0] at h, fun _ _ _ r h => by simp [interlockref10_Covers.l0] at h⟩
 | k + 1 => by
   obtain ⟨ih0, ih1⟩ := interlockref10_Covers.mono_l k
   refine ⟨?_, ?_⟩
   · intro y0 y1 y2
     unfold interlockref10_Covers.j0
     repeat' first
     | (with_reducible exact ih0 _ _ _)
     | (with_reducible exact ih1 _ _ _)
     | (with_reducible exact interlockref10_Conflict.mono _ _ _)
     | (with_reducible exact LeO.refl _)
     | (with_reducible exact LeO.none _)
     | (with_reducible refine LeO.ite ?_ ?_)
     | (with_reducible refine LeO.bind ?_ (fun _ => ?_))
     | exact ih0 _ _ _
     | exact ih1 _ _ _
     | exact interlockref10_Conflict.mono _ _ _
     | exact LeO.none _
     | refine LeO.ite ?_ ?_
     | refine LeO.bind ?_ (fun _ => ?_)
   · intro y0 y1 y2
     unfold interlockref10_Covers.l0
     repeat' first
     | (with_reducible exact ih0 _ _ _)
     | (with_reducible exact ih1 _ _ _)
     | (with_reducible exact interlockref10_Conflict.mono _ _ _)
     | (with_reducible exact LeO.refl _)
     | (with_reducible exact LeO.none _)
     | (with_reducible refine LeO.ite ?_ ?_)
     | (with_reducible refine LeO.bind ?_ (fun _ => ?_))
     | exact ih0 _ _ _
     | exact ih1 _ _ _
     | exact interlockref10_Conflict.mono _ _ _
     | exact LeO.none _
     | refine LeO.ite ?_ ?_
     | refine LeO.bind ?_ (fun _ => ?_)
theorem interlockref10_Covers.mono : ∀ a0 a1 k, LeO (interlockref10_Covers.f k a0 a1) (interlockref10_Covers.f (k + 1) a0 a1) := by
 intro a0 a1 k
 obtain ⟨ih0, ih1⟩ := interlockref10_Covers.mono_l k
 unfold interlockref10_Covers.f
 repeat' first
     | (with_reducible exact ih0 _ _ _)
     | (with_reducible exact ih1 _ _ _)
     | (with_reducible exact interlockref10_Conflict.mono _ _ _)
     | (with_reducible exact LeO.refl _)
     | (with_reducible exact LeO.none _)
     | (with_reducible refine LeO.ite ?_ ?_)
     | (with_reducible refine LeO.bind ?_ (fun _ => ?_))
     | exact ih0 _ _ _
     | exact ih1 _ _ _
     | exact interlockref10_Conflict.mono _ _ _
     | exact LeO.none _
     | refine LeO.ite ?_ ?_
     | refine LeO.bind ?_ (fun _ => ?_)
set_option maxHeartbeats 8000000 in
set_option maxRecDepth 100000 in
theorem interlockref10_Covers.calls (k : Nat) (a0 : Int) (a1 : Int) (r : Bool) (w : World) (h : interlockref10_Covers.f k a0 a1 = some r) :
   Calls Tryz.prog 38 #[.int .i64 a0, .int .i64 a1] w fun e w' => e = .returned (.bool r) ∧ Below w.heap.size w w' := by
 have HB := Aside0.mk (Below.refl w.heap.size w)
 have H : ((interlockref10_right.f a0).bind fun t375 => (if t375 = true then ((interlockref10_right.f a1).bind fun t376 => (interlockref10_Covers.j0 k a0 a1 (!t376))) else (interlockref10_Covers.j0 k a0 a1 true))) = some r := h
 clear h
 have HC3 := Aside0.mk H
 clear H
 go_enter Tryz.func38, Tryz.ntmps38
 go_upto_region 1 with (fail)
 go_cut [13] (fun v13 wc => ∃ (kq : Nat) (x13_2 : Bool), v13 = .bool x13_2 ∧ Aside0 (interlockref10_Covers.j0 kq a0 a1 x13_2 = some r) ∧ Aside0 (kq ≤ k) ∧ Aside0 (Below w.heap.size w wc))
 case first =>
   have H := HC3.out
   clear HC3
   replace H := Option.bind_eq_some_iff.mp H
   obtain ⟨t375, A40, H⟩ := H
   replace H : (if t375 = true then ((interlockref10_right.f a1).bind fun t376 => (interlockref10_Covers.j0 k a0 a1 (!t376))) else (interlockref10_Covers.j0 k a0 a1 true)) = some r := H
   have A4 := Aside0.mk A40
   clear A40
   by_cases c5 : t375 = true
   · subst c5
     have H1 : ((interlockref10_right.f a1).bind fun t376 => (interlockref10_Covers.j0 k a0 a1 (!t376))) = some r := by rw [if_pos rfl] at H; exact H
     clear H
     have H := H1
     clear H1
     replace H := Option.bind_eq_some_iff.mp H
     obtain ⟨t376, A60, H⟩ := H
     replace H : (interlockref10_Covers.j0 k a0 a1 (!t376)) = some r := H
     have A6 := Aside0.mk A60
     clear A60
     have H' := Aside0.mk H
     clear H
     go_wp2_with (first | ((with_reducible refine gate_callee (f := 67) rfl ?_); refine goesL_ (some 7) rfl rfl Tryz.func67 (by kernel_rfl) rfl #[.int .i64 a0] rfl (by (try simp only [List.map_toArray, List.map_cons, List.map_nil]); first | done | rfl | (simp only [List.length_drop, List.length_take]; rfl)) ?_; (with_reducible refine (interlockref10_right.calls a0 true _ A4.out).mono ?_); rintro e w' ⟨rfl, ⟨nd, rfl⟩⟩; refine ⟨_, rfl, ?_⟩) | (go_at_call 67; (with_reducible refine (interlockref10_right.calls a1 t376 _ A6.out).mono ?_); rintro e w' ⟨rfl, ⟨nd, rfl⟩⟩))
     go_meet
     case rel => exact ⟨_, (!t376), (by first | rfl | (simp; done) | (simp [*]; done)), H', ⟨by first | omega | exact Nat.le_refl _⟩, ⟨by repeat (first | (with_reducible first | exact HB.out | apply below_alloc | apply pw_below_drewN | apply below_drew1) | exact HB.out)⟩⟩
   · replace c5 := Bool.eq_false_iff.mpr c5
     subst c5
     have H1 : (interlockref10_Covers.j0 k a0 a1 true) = some r := by rw [if_neg (show ¬ (false = true) by decide)] at H; exact H
     clear H
     have H := H1
     clear H1
     have H' := Aside0.mk H
     clear H
     go_wp2_with (first | ((with_reducible refine gate_callee (f := 67) rfl ?_); refine goesL_ (some 7) rfl rfl Tryz.func67 (by kernel_rfl) rfl #[.int .i64 a0] rfl (by (try simp only [List.map_toArray, List.map_cons, List.map_nil]); first | done | rfl | (simp only [List.length_drop, List.length_take]; rfl)) ?_; (with_reducible refine (interlockref10_right.calls a0 false _ A4.out).mono ?_); rintro e w' ⟨rfl, ⟨nd, rfl⟩⟩; refine ⟨_, rfl, ?_⟩))
     go_meet
     case rel => exact ⟨_, (true), (by first | rfl | (simp; done) | (simp [*]; done)), H', ⟨by first | omega | exact Nat.le_refl _⟩, ⟨by repeat (first | (with_reducible first | exact HB.out | apply below_alloc | apply pw_below_drewN | apply below_drew1) | exact HB.out)⟩⟩
 case rest =>
   clear HC3
   try clear p2
   try clear c3
   try clear c5
   try clear c6
   obtain ⟨kq, x13_2, rfl, HA, HJ2, HB⟩ := hcut
   cases kq with
   | zero => exact absurd HA.out (by simp [interlockref10_Covers.j0])
   | succ kj2 =>
     have H := HA.out
     clear HA
     simp only [interlockref10_Covers.j0] at H
     by_cases c7 : x13_2 = true
     · subst c7
       have H1 : (some false) = some r := by rw [if_pos rfl] at H; exact H
       clear H
       have H := H1
       clear H1
       obtain rfl := Option.some.inj H
       go_wp2
       go_ret
       exact ⟨by first | rfl | (simp [errW_none, errW_some] <;> rfl) | (simp [*, errW_none, errW_some] <;> rfl), by repeat (first | (with_reducible first | exact HB.out | apply below_alloc | apply pw_below_drewN | apply below_drew1) | exact HB.out)⟩
     · replace c7 := Bool.eq_false_iff.mpr c7
       subst c7
       have H1 : (interlockref10_Covers.l0 kj2 a0 a1 1) = some r := by rw [if_neg (show ¬ (false = true) by decide)] at H; exact H
       clear H
       have H := H1
       clear H1
       have H' := Aside0.mk H
       clear H
       go_wp2
       go_loopg [5] kj2 (fun kq v5 w' => ∃ (x5_2 : Int), v5 = .int .i64 x5_2 ∧ Aside0 (interlockref10_Covers.l0 kq a0 a1 x5_2 = some r) ∧ Aside0 (kq ≤ kj2) ∧ Aside0 (Below w.heap.size w w'))
       case atStart => exact ⟨(1), (by first | rfl | (simp; done) | (simp [*]; done)), H', ⟨Nat.le_refl _⟩, ⟨by repeat (first | (with_reducible first | exact HB.out | apply below_alloc | apply pw_below_drewN | apply below_drew1) | exact HB.out)⟩⟩
       case round =>
         clear H'
         try clear p2
         try clear c3
         try clear c5
         try clear c6
         try clear c7
         try clear p2
         obtain ⟨x5_2, rfl, HA, HK2, HB⟩ := hrel
         cases gk with
         | zero => exact absurd HA.out (by simp [interlockref10_Covers.l0])
         | succ k2 =>
           have H := HA.out
           clear HA
           simp only [interlockref10_Covers.l0] at H
           by_cases c8 : x5_2 ≤ 8
           · rw [if_pos c8] at H
             have c8b0 : decide (x5_2 ≤ 8) = true := decide_eq_true c8
             clear c8
             replace H := Option.bind_eq_some_iff.mp H
             obtain ⟨t377, A90, H⟩ := H
             replace H : (if t377 = true then ((interlockref10_Conflict.f k2 a0 x5_2).bind fun t378 => (if t378 = true then (interlockref10_Covers.l0 k2 a0 a1 (wrap64 (x5_2 + 1))) else (some false))) else (interlockref10_Covers.l0 k2 a0 a1 (wrap64 (x5_2 + 1)))) = some r := H
             have A9 := Aside0.mk A90
             clear A90
             by_cases c10 : t377 = true
             · subst c10
               have H1 : ((interlockref10_Conflict.f k2 a0 x5_2).bind fun t378 => (if t378 = true then (interlockref10_Covers.l0 k2 a0 a1 (wrap64 (x5_2 + 1))) else (some false))) = some r := by rw [if_pos rfl] at H; exact H
               clear H
               have H := H1
               clear H1
               replace H := Option.bind_eq_some_iff.mp H
               obtain ⟨t378, A110, H⟩ := H
               replace H : (if t378 = true then (interlockref10_Covers.l0 k2 a0 a1 (wrap64 (x5_2 + 1))) else (some false)) = some r := H
               have A11 := Aside0.mk A110
               clear A110
               by_cases c12 : t378 = true
               · subst c12
                 have H1 : (interlockref10_Covers.l0 k2 a0 a1 (wrap64 (x5_2 + 1))) = some r := by rw [if_pos rfl] at H; exact H
                 clear H
                 have H := H1
                 clear H1
                 have H' := Aside0.mk H
                 clear H
                 go_wp2_with (first | ((with_reducible refine gate_callee (f := 53) rfl ?_); refine goesL_ (some 20) rfl rfl Tryz.func53 (by kernel_rfl) rfl #[.int .i64 a1, .int .i64 x5_2] rfl (by (try simp only [List.map_toArray, List.map_cons, List.map_nil]); first | done | rfl | (simp only [List.length_drop, List.length_take]; rfl)) ?_; (with_reducible refine (interlockref10_Conflict.calls k2 a1 x5_2 true _ A9.out).mono ?_); rintro e w13 ⟨rfl, hb⟩; refine ⟨_, rfl, ?_⟩; have n0_ := Aside0.mk (below_step (by repeat (first | (with_reducible first | exact HB.out | apply below_alloc | apply pw_below_drewN | apply below_drew1) | exact HB.out)) hb); clear HB; have HB := n0_; clear n0_; (try clear hb); (try clear hb2); (try clear hk); (try clear hi)) | (go_at_call 53; (with_reducible refine (interlockref10_Conflict.calls k2 a0 x5_2 true _ A11.out).mono ?_); rintro e w14 ⟨rfl, hb⟩; have n0_ := Aside0.mk (below_step (by repeat (first | (with_reducible first | exact HB.out | apply below_alloc | apply pw_below_drewN | apply below_drew1) | exact HB.out)) hb); clear HB; have HB := n0_; clear n0_; (try clear hb); (try clear hb2); (try clear hk); (try clear hi)))
                 go_roundg k2
                 case measure => have := HJ2.out; have := HK2.out; omega
                 case rel => exact ⟨(wrap64 (x5_2 + 1)), (by first | rfl | (simp; done) | (simp [*]; done)), H', ⟨by have := HJ2.out; have := HK2.out; omega⟩, ⟨by repeat (first | (with_reducible first | exact HB.out | apply below_alloc | apply pw_below_drewN | apply below_drew1) | exact HB.out)⟩⟩
               · replace c12 := Bool.eq_false_iff.mpr c12
                 subst c12
                 have H1 : (some false) = some r := by rw [if_neg (show ¬ (false = true) by decide)] at H; exact H
                 clear H
                 have H := H1
                 clear H1
                 obtain rfl := Option.some.inj H
                 go_wp2_with (first | ((with_reducible refine gate_callee (f := 53) rfl ?_); refine goesL_ (some 20) rfl rfl Tryz.func53 (by kernel_rfl) rfl #[.int .i64 a1, .int .i64 x5_2] rfl (by (try simp only [List.map_toArray, List.map_cons, List.map_nil]); first | done | rfl | (simp only [List.length_drop, List.length_take]; rfl)) ?_; (with_reducible refine (interlockref10_Conflict.calls k2 a1 x5_2 true _ A9.out).mono ?_); rintro e w15 ⟨rfl, hb⟩; refine ⟨_, rfl, ?_⟩; have n0_ := Aside0.mk (below_step (by repeat (first | (with_reducible first | exact HB.out | apply below_alloc | apply pw_below_drewN | apply below_drew1) | exact HB.out)) hb); clear HB; have HB := n0_; clear n0_; (try clear hb); (try clear hb2); (try clear hk); (try clear hi)) | (go_at_call 53; (with_reducible refine (interlockref10_Conflict.calls k2 a0 x5_2 false _ A11.out).mono ?_); rintro e w16 ⟨rfl, hb⟩; have n0_ := Aside0.mk (below_step (by repeat (first | (with_reducible first | exact HB.out | apply below_alloc | apply pw_below_drewN | apply below_drew1) | exact HB.out)) hb); clear HB; have HB := n0_; clear n0_; (try clear hb); (try clear hb2); (try clear hk); (try clear hi)))
                 go_ret
                 exact ⟨by first | rfl | (simp [errW_none, errW_some] <;> rfl) | (simp [*, errW_none, errW_some] <;> rfl), by repeat (first | (with_reducible first | exact HB.out | apply below_alloc | apply pw_below_drewN | apply below_drew1) | exact HB.out)⟩
             · replace c10 := Bool.eq_false_iff.mpr c10
               subst c10
               have H1 : (interlockref10_Covers.l0 k2 a0 a1 (wrap64 (x5_2 + 1))) = some r := by rw [if_neg (show ¬ (false = true) by decide)] at H; exact H
               clear H
               have H := H1
               clear H1
               have H' := Aside0.mk H
               clear H
               go_wp2_with (first | ((with_reducible refine gate_callee (f := 53) rfl ?_); refine goesL_ (some 20) rfl rfl Tryz.func53 (by kernel_rfl) rfl #[.int .i64 a1, .int .i64 x5_2] rfl (by (try simp only [List.map_toArray, List.map_cons, List.map_nil]); first | done | rfl | (simp only [List.length_drop, List.length_take]; rfl)) ?_; (with_reducible refine (interlockref10_Conflict.calls k2 a1 x5_2 false _ A9.out).mono ?_); rintro e w17 ⟨rfl, hb⟩; refine ⟨_, rfl, ?_⟩; have n0_ := Aside0.mk (below_step (by repeat (first | (with_reducible first | exact HB.out | apply below_alloc | apply pw_below_drewN | apply below_drew1) | exact HB.out)) hb); clear HB; have HB := n0_; clear n0_; (try clear hb); (try clear hb2); (try clear hk); (try clear hi)))
               go_roundg k2
               case measure => have := HJ2.out; have := HK2.out; omega
               case rel => exact ⟨(wrap64 (x5_2 + 1)), (by first | rfl | (simp; done) | (simp [*]; done)), H', ⟨by have := HJ2.out; have := HK2.out; omega⟩, ⟨by repeat (first | (with_reducible first | exact HB.out | apply below_alloc | apply pw_below_drewN | apply below_drew1) | exact HB.out)⟩⟩
           · rw [if_neg c8] at H
             have c8b0 : decide (x5_2 ≤ 8) = false := decide_eq_false c8
             clear c8
             obtain rfl := Option.some.inj H
             go_wp2
             go_ret
             exact ⟨by first | rfl | (simp [errW_none, errW_some] <;> rfl) | (simp [*, errW_none, errW_some] <;> rfl), by repeat (first | (with_reducible first | exact HB.out | apply below_alloc | apply pw_below_drewN | apply below_drew1) | exact HB.out)⟩
end Go.Proofs.YtkcjcdkmdooofaaGreat.Q
end
section
namespace Go.Proofs.Lk
open Go Go.RowKit Go.Proofs.YtkcjcdkmdooofaaGreat.Q Go.Proofs.YtkcjcdkmdooofaaGreatW.PrintWords
set_option maxRecDepth 100000
theorem right_f (a : Int) : modes_Right.f a = some (right a) := by
 unfold modes_Right.f right
 by_cases h1 : 1 ≤ a
 · rw [if_pos h1]
   by_cases h2 : a ≤ 8 <;> simp [h1, h2]
 · rw [if_neg h1]
   simp [h1]
theorem rright_f (a : Int) : interlockref10_right.f a = some (right a) := right_f a
theorem conf_f (a b : Int) : modes_Conflict.f 40 a b = some (conf a b) := by
 have hn : (right a = false ∨ right b = false) → conf a b = false := fun h => by
   cases hc : conf a b with
   | false => rfl
   | true =>
     obtain ⟨h1, h2⟩ := conf_right hc
     rw [h1, h2] at h
     simp at h
 by_cases ha : right a = true
 · by_cases hb : right b = true
   · rcases right_cases ha with rfl | rfl | rfl | rfl | rfl | rfl | rfl | rfl <;> rcases right_cases hb with rfl | rfl | rfl | rfl | rfl | rfl | rfl | rfl <;> decide +kernel
   · have hb : right b = false := by simpa using hb
     unfold modes_Conflict.f
     rw [right_f a, ha, right_f b, hb, hn (.inr hb)]
     rfl
 · have ha : right a = false := by simpa using ha
   unfold modes_Conflict.f
   rw [right_f a, ha, hn (.inl ha)]
   rfl
theorem cov_right {a b : Int} (h : right a = false ∨ right b = false) : cov a b = false := by
 unfold cov
 rcases h with h | h <;> rw [h] <;> simp
theorem cov_f (a b : Int) : modes_Covers.f 40 a b = some (cov a b) := by
 by_cases ha : right a = true
 · by_cases hb : right b = true
   · rcases right_cases ha with rfl | rfl | rfl | rfl | rfl | rfl | rfl | rfl <;> rcases right_cases hb with rfl | rfl | rfl | rfl | rfl | rfl | rfl | rfl <;> decide +kernel
   · have hb : right b = false := by simpa using hb
     unfold modes_Covers.f
     rw [right_f a, ha, right_f b, hb, cov_right (.inr hb)]
     rfl
 · have ha : right a = false := by simpa using ha
   unfold modes_Covers.f
   rw [right_f a, ha, cov_right (.inl ha)]
   rfl
theorem join_f {a b : Int} (ha : right a = true) (hb : right b = true) : modes_Join.f 40 a b = some (join a b) := by
 rcases right_cases ha with rfl | rfl | rfl | rfl | rfl | rfl | rfl | rfl <;> rcases right_cases hb with rfl | rfl | rfl | rfl | rfl | rfl | rfl | rfl <;> decide +kernel
theorem rcov_f (a b : Int) : interlockref10_Covers.f 40 a b = some (cov a b) := by
 by_cases ha : right a = true
 · by_cases hb : right b = true
   · rcases right_cases ha with rfl | rfl | rfl | rfl | rfl | rfl | rfl | rfl <;> rcases right_cases hb with rfl | rfl | rfl | rfl | rfl | rfl | rfl | rfl <;> decide +kernel
   · have hb : right b = false := by simpa using hb
     unfold interlockref10_Covers.f
     rw [rright_f a, ha, rright_f b, hb, cov_right (.inr hb)]
     rfl
 · have ha : right a = false := by simpa using ha
   unfold interlockref10_Covers.f
   rw [rright_f a, ha, cov_right (.inl ha)]
   rfl
theorem rconf_l0 (b : Int) (xs : List Int) (hn : xs.length < 100) : ∀ (k i : Nat), i ≤ xs.length → xs.length < i + k → interlockref10_Conflict.l0 k b xs (i : Int) = some ((xs.drop i).contains b)
 | 0, i, h1, h2 => by omega
 | k + 1, i, h1, h2 => by
   unfold interlockref10_Conflict.l0
   by_cases h : i < xs.length
   · have hd : xs.drop i = xs[i] :: xs.drop (i + 1) := List.drop_eq_getElem_cons h
     have hr : rd xs (i : Int) = xs[i] := by simp [rd, List.getD_eq_getElem?_getD, List.getElem?_eq_getElem h]
     rw [if_pos (by omega), if_pos (by omega), hr, hd]
     by_cases e : xs[i] = b
     · rw [if_pos e]
       simp [e]
     · rw [if_neg e, show wrap64 ((i : Int) + 1) = ((i + 1 : Nat) : Int) by rw [IntWalk.wrap64_in _ (by omega)]; omega, rconf_l0 b xs hn k (i + 1) (by omega) (by omega)]
       have e2 : (b == xs[i]) = false := by simpa using fun e3 : b = xs[i] => e e3.symm
       rw [List.contains_cons, e2, Bool.false_or]
   · rw [if_neg (by omega), List.drop_eq_nil_of_le (by omega)]
     rfl
theorem rrow_f (a : Int) : interlockref10_row.f a = some (confL a) := by
 unfold interlockref10_row.f confL
 repeat' split
 all_goals rfl
theorem rconf_f (a b : Int) : interlockref10_Conflict.f 40 a b = some (conf a b) := by
 have hl : (confL a).length < 40 := by
   unfold confL
   repeat' split
   all_goals decide
 unfold interlockref10_Conflict.f
 rw [rrow_f]
 exact rconf_l0 b _ (by omega) 40 0 (by omega) (by omega)
theorem rconf_calls (w : World) (a b : Int) : Calls Tryz.prog 53 #[.int .i64 a, .int .i64 b] w fun E w' => E = .returned (.bool (conf a b)) ∧ Below w.heap.size w w' := interlockref10_Conflict.calls 40 a b _ w (rconf_f a b)
theorem conf_calls (w : World) (a b : Int) : Calls Tryz.prog 62 #[.int .i64 a, .int .i64 b] w fun E w' => E = .returned (.bool (conf a b)) ∧ Below w.heap.size w w' := modes_Conflict.calls 40 a b _ w (conf_f a b)
theorem cov_calls (w : World) (a b : Int) : Calls Tryz.prog 30 #[.int .i64 a, .int .i64 b] w fun E w' => E = .returned (.bool (cov a b)) ∧ Below w.heap.size w w' := modes_Covers.calls 40 a b _ w (cov_f a b)
theorem join_calls (w : World) {a b : Int} (ha : right a = true) (hb : right b = true) : Calls Tryz.prog 31 #[.int .i64 a, .int .i64 b] w fun E w' => E = .returned (.int .i64 (join a b)) ∧ Below w.heap.size w w' := modes_Join.calls 40 a b _ w (join_f ha hb)
theorem rcov_calls (w : World) (a b : Int) : Calls Tryz.prog 38 #[.int .i64 a, .int .i64 b] w fun E w' => E = .returned (.bool (cov a b)) ∧ Below w.heap.size w w' := interlockref10_Covers.calls 40 a b _ w (rcov_f a b)
end Go.Proofs.Lk
end
section
namespace Go.Proofs.Kb
open Go Go.RowKit Go.Proofs.YtkcjcdkmdooofaaGreat.Q Go.Proofs.YtkcjcdkmdooofaaGreatW.PrintWords Go.Proofs.YtkcjcdkmdooofaaGreatW.PrintLast Go.Proofs.YtkcjcdkmdooofaaGreatW.PrintMore
set_option maxRecDepth 100000
open Go.Proofs.Lk
structure RowH (w : World) (p : Nat) (hv wv : Value) (r : LRow) : Prop where
 cells : w.heap[p]? = some (.cells #[hv, wv] 67 (0, 0))
 holds : RowO w hv r.holds
 waits : RowO w wv r.waits
theorem RowH.below {w w' : World} {p : Nat} {hv wv : Value} {r : LRow} (h : RowH w p hv wv r) (hb : Below w.heap.size w w') : RowH w' p hv wv r :=
 ⟨(hb.block p (lt_of_some h.cells)).trans h.cells, h.holds.below hb, h.waits.below hb⟩
theorem RowH.c0 {w : World} {p : Nat} {hv wv : Value} {r : LRow} (h : RowH w p hv wv r) : w.cell? ⟨p, 0, none⟩ = some hv := by
 rw [cell_of_row w p 0 _ 67 (0, 0) h.cells]
 rfl
theorem RowH.c1 {w : World} {p : Nat} {hv wv : Value} {r : LRow} (h : RowH w p hv wv r) : w.cell? ⟨p, 1, none⟩ = some wv := by
 rw [cell_of_row w p 1 _ 67 (0, 0) h.cells]
 rfl
def ptr (p : Nat) : Value := .pointer (some ⟨p, 0, none⟩)
theorem box_keeps (w : World) (T : TypeId) (v : Value) {W : World} (hb : Below (w.alloc (.cells #[v] T)).heap.size (w.alloc (.cells #[v] T)) W) : W.cell? ⟨w.heap.size, 0, none⟩ = some v := by
 have h : (w.alloc (.cells #[v] T)).heap[w.heap.size]? = some (.cells #[v] T (0, 0)) := heap_alloc_new w _
 rw [cell_of_row W w.heap.size 0 #[v] T (0, 0) ((hb.block _ (lt_of_some h)).trans h)]
 rfl
def isT (x : Int) : One → Bool := fun o => o.1 == x
theorem same54 (W : World) (a b x : Int) (c : Addr) (hc : W.cell? c = some (.int .i64 x)) :
   Calls Tryz.prog 57 #[.agg #[.int .i64 a, .int .i64 b], .pointer (some c)] W fun E w' => E = .returned (.bool (a == x)) ∧ Below W.heap.size W w' := by
 have hu66 := Tryz.underlying63
 have hlt := World.block_lt_of_cell? W _ hc
 go_enter Tryz.func57, Tryz.ntmps57
 go_wp2
 go_ret
 exact ⟨rfl, (Below.refl _ W).alloc (Nat.le_refl _) _⟩
theorem same49 (W : World) (a b x : Int) (c : Addr) (hc : W.cell? c = some (.int .i64 x)) :
   Calls Tryz.prog 69 #[.agg #[.int .i64 a, .int .i64 b], .pointer (some c)] W fun E w' => E = .returned (.bool (a == x)) ∧ Below W.heap.size W w' := by
 have hu66 := Tryz.underlying63
 have hlt := World.block_lt_of_cell? W _ hc
 go_enter Tryz.func69, Tryz.ntmps69
 go_wp2
 go_ret
 exact ⟨rfl, (Below.refl _ W).alloc (Nat.le_refl _) _⟩
theorem same65 (W : World) (a b x : Int) (c : Addr) (hc : W.cell? c = some (.int .i64 x)) :
   Calls Tryz.prog 76 #[.agg #[.int .i64 a, .int .i64 b], .pointer (some c)] W fun E w' => E = .returned (.bool (a == x)) ∧ Below W.heap.size W w' := by
 have hu66 := Tryz.underlying63
 have hlt := World.block_lt_of_cell? W _ hc
 go_enter Tryz.func76, Tryz.ntmps76
 go_wp2
 go_ret
 exact ⟨rfl, (Below.refl _ W).alloc (Nat.le_refl _) _⟩
set_option maxHeartbeats 2000000 in
theorem hold_calls (w : World) (p : Nat) (hv wv : Value) (r : LRow) (x : Int) (h : RowH w p hv wv r) (hn : r.holds.length < 1000000) :
   Calls Tryz.prog 29 #[ptr p, .int .i64 x] w fun E w' => E = .returned (.int .i64 (idxI r.holds (isT x))) ∧ Below w.heap.size w w' := by
 obtain ⟨R, hR⟩ : ∃ R, (fun E w' => E = Ending.returned (.int .i64 (idxI r.holds (isT x))) ∧ Below w.heap.size w w') = R := ⟨_, rfl⟩
 have HR := Aside0.mk hR
 rw [hR]
 have H := Aside0.mk h
 have HN := Aside0.mk hn
 have c0 := h.c0
 have hlt := lt_of_some h.cells
 clear h hR hn
 unfold ptr
 go_enter Tryz.func29, Tryz.ntmps29
 go_wp2_with (go_at_call 56; refine (idx54 _ hv r.holds _ (isT x) (H.out.holds.below ((Below.refl _ w).alloc (Nat.le_refl _) _)) HN.out (fun W o ho hb => same54 W o.1 o.2 x _ (box_keeps w 3 (.int .i64 x) hb))).mono ?_; rintro E w2 ⟨rfl, hb⟩; have HB := Aside0.mk hb; clear hb)
 rw [← HR.out]
 have hal : Below w.heap.size w (w.alloc (.cells #[.int .i64 x] 3)) := (Below.refl _ w).alloc (Nat.le_refl _) _
 exact ⟨rfl, hal.trans (HB.out.mono hal.size)⟩
set_option maxHeartbeats 2000000 in
theorem wait_calls (w : World) (p : Nat) (hv wv : Value) (r : LRow) (x : Int) (h : RowH w p hv wv r) (hn : r.waits.length < 1000000) :
   Calls Tryz.prog 43 #[ptr p, .int .i64 x] w fun E w' => E = .returned (.int .i64 (idxI r.waits (isT x))) ∧ Below w.heap.size w w' := by
 obtain ⟨R, hR⟩ : ∃ R, (fun E w' => E = Ending.returned (.int .i64 (idxI r.waits (isT x))) ∧ Below w.heap.size w w') = R := ⟨_, rfl⟩
 have HR := Aside0.mk hR
 rw [hR]
 have H := Aside0.mk h
 have HN := Aside0.mk hn
 have c0 := h.c1
 have hlt := lt_of_some h.cells
 clear h hR hn
 unfold ptr
 go_enter Tryz.func43, Tryz.ntmps43
 go_wp2_with (go_at_call 56; refine (idx49 _ wv r.waits _ (isT x) (H.out.waits.below ((Below.refl _ w).alloc (Nat.le_refl _) _)) HN.out (fun W o ho hb => same49 W o.1 o.2 x _ (box_keeps w 3 (.int .i64 x) hb))).mono ?_; rintro E w2 ⟨rfl, hb⟩; have HB := Aside0.mk hb; clear hb)
 rw [← HR.out]
 have hal : Below w.heap.size w (w.alloc (.cells #[.int .i64 x] 3)) := (Below.refl _ w).alloc (Nat.le_refl _) _
 exact ⟨rfl, hal.trans (HB.out.mono hal.size)⟩
theorem idx_neg (l : List One) (x : Int) : idxI l (isT x) < 0 ↔ has l x = false := by
 unfold idxI has
 cases h : l.findIdx? (isT x) with
 | none =>
   rw [List.findIdx?_eq_none_iff] at h
   simp only [Int.reduceNeg, Int.reduceLT, true_iff]
   rw [List.any_eq_false]
   intro o ho
   have := h o ho
   unfold isT at this
   simpa using this
 | some i =>
   rw [List.findIdx?_eq_some_iff_getElem] at h
   obtain ⟨hi, hp, _⟩ := h
   have e : l.any (fun o => o.1 == x) = true := List.any_eq_true.2 ⟨l[i], List.getElem_mem hi, hp⟩
   rw [e]
   simp
theorem idx_neg' (l : List One) (x : Int) : decide (idxI l (isT x) < 0) = !(has l x) := by
 cases h : has l x with
 | false => simpa using (idx_neg l x).2 h
 | true =>
   have : ¬ idxI l (isT x) < 0 := fun h2 => by rw [(idx_neg l x).1 h2] at h; cases h
   simpa using this
theorem idx_lead (l : List One) (f : One → Bool) : (match l.findIdx? f with | some n => (n : Int) | none => (l.length : Int)) = if idxI l f < 0 then (l.length : Int) else idxI l f := by
 unfold idxI
 cases l.findIdx? f with
 | none => simp
 | some n =>
   simp
   omega
set_option maxHeartbeats 2000000 in
theorem free57 (W : World) (p : Nat) (hv wv : Value) (r : LRow) (a b : Int) (c : Addr) (hc : W.cell? c = some (ptr p)) (h : RowH W p hv wv r) (hn : r.holds.length < 1000000) :
   Calls Tryz.prog 60 #[.agg #[.int .i64 a, .int .i64 b], .pointer (some c)] W fun E w' => E = .returned (.bool (!(has r.holds a))) ∧ Below W.heap.size W w' := by
 rw [← idx_neg']
 have hu66 := Tryz.underlying63
 have hlt := World.block_lt_of_cell? W _ hc
 have H := Aside0.mk h
 have HN := Aside0.mk hn
 have hal : Below W.heap.size W (W.alloc (.cells #[.int .i64 a, .int .i64 b] 63)) := (Below.refl _ W).alloc (Nat.le_refl _) _
 have HA := Aside0.mk hal
 clear hal h hn
 unfold ptr at hc
 go_enter Tryz.func60, Tryz.ntmps60
 go_wp2_with (go_at_call 29; refine (hold_calls _ p hv wv r a (H.out.below HA.out) HN.out).mono ?_; rintro E w2 ⟨rfl, hb⟩; have HB := Aside0.mk hb; clear hb)
 go_ret
 exact ⟨rfl, HA.out.trans (HB.out.mono HA.out.size)⟩
set_option maxHeartbeats 2000000 in
theorem place_calls (w : World) (p : Nat) (hv wv : Value) (r : LRow) (x : Int) (h : RowH w p hv wv r) (hn : r.holds.length < 1000000) (hn2 : r.waits.length < 1000000) :
   Calls Tryz.prog 32 #[ptr p, .int .i64 x] w fun E w' => E = .returned (.int .i64 (place r x)) ∧ Below w.heap.size w w' := by
 obtain ⟨R, hR⟩ : ∃ R, (fun E w' => E = Ending.returned (.int .i64 (place r x)) ∧ Below w.heap.size w w') = R := ⟨_, rfl⟩
 have HR := Aside0.mk hR
 rw [hR]
 have H := Aside0.mk h
 have HN := Aside0.mk hn
 have HN2 := Aside0.mk hn2
 have hal : Below w.heap.size w (w.alloc (.cells #[ptr p] 60)) := (Below.refl _ w).alloc (Nat.le_refl _) _
 have HA := Aside0.mk hal
 have hlw : ∃ A c, wv = .slice A r.waits.length c := by
   rcases h.waits.2.2 with ⟨rfl, h0⟩ | ⟨g, c, cur, rfl, _⟩
   · exact ⟨_, _, by rw [h0]⟩
   · exact ⟨_, _, rfl⟩
 obtain ⟨A, c, rfl⟩ := hlw
 clear h hR hn hn2 hal
 obtain ⟨P, hP⟩ : ∃ P, place r x = P := ⟨_, rfl⟩
 rw [hP] at HR
 obtain ⟨i, hi⟩ : ∃ i, idxI r.holds (isT x) = i := ⟨_, rfl⟩
 obtain ⟨j, hj⟩ : ∃ j, idxI r.waits (fun o => !(has r.holds o.1)) = j := ⟨_, rfl⟩
 have HI := Aside0.mk hi
 have HJ := Aside0.mk hj
 clear hi hj
 have arm33 : ∀ W, Below (w.alloc (.cells #[ptr p] 60)).heap.size (w.alloc (.cells #[ptr p] 60)) W → Calls Tryz.prog 29 #[ptr p, .int .i64 x] W fun E w' => E = .returned (.int .i64 i) ∧ Below W.heap.size W w' := fun W hb => by
   rw [← HI.out]
   exact hold_calls W p hv _ r x ((H.out.below HA.out).below hb) HN.out
 have arm48 : ∀ W, Below (w.alloc (.cells #[ptr p] 60)).heap.size (w.alloc (.cells #[ptr p] 60)) W → Calls Tryz.prog 56 #[.slice A r.waits.length c, .func (.func 60) #[] #[.pointer (some ⟨w.heap.size, 0, none⟩)]] W fun E w' => E = .returned (.int .i64 j) ∧ Below W.heap.size W w' := fun W hb => by
   rw [← HJ.out]
   exact idx57 W _ r.waits _ _ ((H.out.waits.below HA.out).below hb) HN2.out fun W2 o ho hb2 => free57 W2 p hv _ r o.1 o.2 _ (box_keeps w 60 (ptr p) (hb.trans (hb2.mono hb.size))) (((H.out.below HA.out).below hb).below hb2) HN.out
 have A33 := Aside0.mk arm33
 have A48 := Aside0.mk arm48
 clear arm33 arm48
 have hplace : (P : Int) = if i < 0 then (r.waits.length : Int) else if j < 0 then (r.waits.length : Int) else j := by
   rw [← hP]
   unfold place
   cases hh : has r.holds x with
   | false =>
     have : i < 0 := by rw [← HI.out]; exact (idx_neg _ _).2 hh
     rw [if_pos this]
     rfl
   | true =>
     have : ¬ i < 0 := by rw [← HI.out, idx_neg, hh]; simp
     rw [if_neg this, ← HJ.out, ← idx_lead]
     rw [if_pos rfl]
     generalize r.waits.findIdx? _ = q
     cases q <;> rfl
 have HP := Aside0.mk hplace
 clear hplace hP
 have hcell : ∀ W, Below (w.alloc (.cells #[ptr p] 60)).heap.size (w.alloc (.cells #[ptr p] 60)) W → W.cell? ⟨w.heap.size, 0, none⟩ = some (ptr p) ∧ W.cell? ⟨p, 1, none⟩ = some (.slice A r.waits.length c) := fun W hb => ⟨box_keeps w 60 (ptr p) hb, ((H.out.below HA.out).below hb).c1⟩
 have HCE := Aside0.mk hcell
 clear hcell
 unfold ptr at A33 A48 HCE HA
 unfold ptr
 obtain ⟨n, hnn⟩ : ∃ n, r.waits.length = n := ⟨_, rfl⟩
 rw [hnn] at HP HCE A48
 clear hnn
 by_cases hi0 : i < 0
 · go_enter Tryz.func32, Tryz.ntmps32
   go_wp2_with (go_at_call 29; refine (A33.out _ (Below.refl _ _)).mono ?_; rintro E w2 ⟨rfl, hb⟩; obtain ⟨q0, q1⟩ := HCE.out _ hb; have HB := Aside0.mk hb; clear hb)
   rw [← HR.out]
   exact ⟨by (rw [HP.out, if_pos hi0]; rfl), HA.out.trans (HB.out.mono HA.out.size)⟩
 · by_cases hj0 : j < 0
   · go_enter Tryz.func32, Tryz.ntmps32
     go_wp2_with (first | (go_at_call 29; refine (A33.out _ (Below.refl _ _)).mono ?_; rintro E w2 ⟨rfl, hb⟩; obtain ⟨q0, q1⟩ := HCE.out _ hb; have HB := Aside0.mk hb; clear hb) | (go_at_call 56; refine (A48.out _ HB.out).mono ?_; rintro E w3 ⟨rfl, hb⟩; have HB2 := Aside0.mk (HB.out.trans (hb.mono HB.out.size)); clear hb; obtain ⟨q2, q3⟩ := HCE.out _ HB2.out; clear q0 q1))
     rw [← HR.out]
     exact ⟨by (rw [HP.out, if_neg (by omega), if_pos hj0]; rfl), HA.out.trans (HB2.out.mono HA.out.size)⟩
   · go_enter Tryz.func32, Tryz.ntmps32
     go_wp2_with (first | (go_at_call 29; refine (A33.out _ (Below.refl _ _)).mono ?_; rintro E w2 ⟨rfl, hb⟩; obtain ⟨q0, q1⟩ := HCE.out _ hb; have HB := Aside0.mk hb; clear hb) | (go_at_call 56; refine (A48.out _ HB.out).mono ?_; rintro E w3 ⟨rfl, hb⟩; have HB2 := Aside0.mk (HB.out.trans (hb.mono HB.out.size)); clear hb; obtain ⟨q2, q3⟩ := HCE.out _ HB2.out; clear q0 q1))
     rw [← HR.out]
     exact ⟨by (rw [HP.out, if_neg (by omega), if_neg (by omega)]; rfl), HA.out.trans (HB2.out.mono HA.out.size)⟩
end Go.Proofs.Kb
end
section
namespace Go.Proofs.Kb
open Go Go.RowKit Go.Proofs.YtkcjcdkmdooofaaGreat.Q Go.Proofs.YtkcjcdkmdooofaaGreatW.PrintWords Go.Proofs.YtkcjcdkmdooofaaGreatW.PrintLast Go.Proofs.YtkcjcdkmdooofaaGreatW.PrintMore
structure EncT (α : Type) where
 ty : TypeId
 sz : Nat
 enc : α → List Value
 len : ∀ x, (enc x).length = sz
 one : ∀ x, ∀ u ∈ enc x, u.oneCell' = true
section
variable {α : Type} (E : EncT α)
def EncT.all (l : List α) : List Value := l.flatMap E.enc
theorem EncT.all_cons (x : α) (l : List α) : E.all (x :: l) = E.enc x ++ E.all l := rfl
theorem EncT.all_app (a b : List α) : E.all (a ++ b) = E.all a ++ E.all b := by simp [EncT.all]
theorem EncT.all_one' (x : α) : E.all [x] = E.enc x := by simp [EncT.all]
theorem EncT.all_len (l : List α) : (E.all l).length = l.length * E.sz := by
 induction l with
 | nil => simp [EncT.all]
 | cons x l ih => rw [E.all_cons, List.length_append, ih, E.len, List.length_cons, Nat.add_mul]; omega
theorem EncT.all_one (l : List α) : ∀ u ∈ E.all l, u.oneCell' = true := fun u hu => by
 obtain ⟨x, _, h⟩ := List.mem_flatMap.1 hu
 exact E.one x u h
theorem EncT.all_take : ∀ (l : List α) (i : Nat), (E.all l).take (i * E.sz) = E.all (l.take i)
 | [], i => by simp [EncT.all]
 | x :: l, 0 => by simp [EncT.all]
 | x :: l, i + 1 => by
   rw [E.all_cons, List.take_succ_cons, E.all_cons, Nat.add_mul, Nat.one_mul, Nat.add_comm, ← E.len x, List.take_length_add_append, E.len x, EncT.all_take l i]
theorem EncT.all_drop : ∀ (l : List α) (i : Nat), (E.all l).drop (i * E.sz) = E.all (l.drop i)
 | [], i => by simp [EncT.all]
 | x :: l, 0 => by simp [EncT.all]
 | x :: l, i + 1 => by
   rw [E.all_cons, List.drop_succ_cons, Nat.add_mul, Nat.one_mul, Nat.add_comm, ← E.len x, List.drop_length_add_append, E.len x, EncT.all_drop l i]
theorem EncT.all_get {l : List α} {i : Nat} {x : α} (h : l[i]? = some x) {j : Nat} (hj : j < E.sz) : (E.all l)[i * E.sz + j]? = (E.enc x)[j]? := by
 obtain ⟨hi, rfl⟩ := List.getElem?_eq_some_iff.1 h
 have h1 : (E.all l)[i * E.sz + j]? = ((E.all l).drop (i * E.sz))[j]? := by rw [List.getElem?_drop]
 rw [h1, E.all_drop, List.drop_eq_getElem_cons hi, E.all_cons, List.getElem?_append_left (by rw [E.len]; exact hj)]
def RowX (w : World) (v : Value) (l : List α) : Prop := Row w E.ty E.sz v l.length (E.all l)
variable {E} {w w' w0 W : World} {v v' : Value} {l l' : List α} {F : Nat → Prop} {cs : List Chunk}
theorem RowX.nil : RowX E w (.slice none 0 0) [] := Row.nil w E.ty E.sz
theorem RowX.move (h : RowX E w v l) (hm : ∀ k, v.ownBlock = some k → w'.heap[k]? = w.heap[k]?) : RowX E w' v l := Row.move h hm
theorem RowX.below (h : RowX E w v l) (hb : Below w.heap.size w w') : RowX E w' v l := Row.below h hb
theorem RowX.of {n : Nat} {xs : List Value} (h : Row w E.ty E.sz v n xs) (hn : l.length = n) (hx : xs = E.all l) : RowX E w v l := by
 subst hn
 subst hx
 exact h
theorem RowX.form (h : RowX E w v l) : ∃ A c, v = .slice A l.length c := by
 rcases h.2.2 with ⟨rfl, h0⟩ | ⟨g, c, cur, rfl, _⟩
 · exact ⟨_, _, by rw [h0]⟩
 · exact ⟨_, _, rfl⟩
theorem RowX.fill (h : RowX E w v l) (h0 : 0 < l.length) : ∃ g c, v = .slice (some ⟨g, 0, none⟩) l.length c ∧ l.length ≤ c := row_slice h h0
theorem RowX.cell {g n c : Nat} (h : RowX E w (.slice (some ⟨g, 0, none⟩) n c) l) {i : Nat} {x : α} (hx : l[i]? = some x) (j : Nat) (hj : j < E.sz) (u : Value) (hu : (E.enc x)[j]? = some u) : w.cell? ⟨g, i * E.sz + j, none⟩ = some u := by
 have hl := (List.getElem?_eq_some_iff.1 hx).1
 obtain ⟨g', c', hv, _⟩ := row_slice h (by omega)
 injection hv with h1 h2 h3
 injection h1 with h1
 injection h1 with h1
 subst h1 h2
 exact Row.cell h rfl _ _ (by rw [E.all_get hx hj]; exact hu)
theorem RowX.frozen {g n c : Nat} (h : RowX E w (.slice (some ⟨g, 0, none⟩) n c) l) (j : Nat) : w.frozen? ⟨g, j, none⟩ = false := by
 obtain ⟨_, _, h2⟩ := h
 rcases h2 with ⟨h2, _⟩ | ⟨g', cap', cur, hv, hg, _⟩
 · simp at h2
 · simp at hv
   obtain ⟨rfl, rfl, rfl⟩ := hv
   exact frozen_of_row w g j cur _ hg
variable (E) in
def rowXC (v : Value) (l : List α) : Chunk := ⟨fun w => RowX E w v l, bl v, fun h b hb => Row.lt h b (bl_mem.1 hb), fun h hm => Row.move h fun k hk => hm k (bl_mem.2 hk)⟩
theorem St.rowX (s : St w0 F w cs) (i : Nat) (hi : cs[i]? = some (rowXC E v l)) : RowX E w v l := s.get i hi
theorem St.rowTo (s : St w0 F w cs) (i : Nat) (hi : cs[i]? = some (rowXC E v l)) (hr : RowX E w' v' l') (hg : w.grownBy w' v.ownBlock) (ho : Owns w v v') : St w0 F w' (cs.set i (rowXC E v' l')) :=
 s.upd i hi (rowXC E v' l') (keep_row hg) hr (nd_bl v') (bl_sub ho)
def puts (w : World) (g : Nat) : Nat → List Value → World
 | o, [] => w
 | o, v :: vs => puts (w.setCell ⟨g, o, none⟩ v) g (o + 1) vs
def setL : Nat → List Value → List Value → List Value
 | o, [], l => l
 | o, v :: vs, l => setL (o + 1) vs (l.set o v)
theorem setL_len : ∀ (vs : List Value) (o : Nat) (l : List Value), (setL o vs l).length = l.length
 | [], o, l => rfl
 | v :: vs, o, l => by
   unfold setL
   rw [setL_len vs, List.length_set]
theorem setL_take : ∀ (vs : List Value) (o : Nat) (l : List Value) (k : Nat), (setL o vs l).take k = setL o vs (l.take k)
 | [], o, l, k => rfl
 | v :: vs, o, l, k => by
   unfold setL
   rw [setL_take vs, List.take_set]
theorem setL_app : ∀ (vs a b : List Value) (o : Nat), setL (a.length + o) vs (a ++ b) = a ++ setL o vs b
 | [], a, b, o => rfl
 | v :: vs, a, b, o => by
   unfold setL
   rw [List.set_append_right _ _ (by omega), Nat.add_assoc, show a.length + o - a.length = o by omega, setL_app vs a _ (o + 1)]
theorem setL_head : ∀ (vs a b : List Value), a.length = vs.length → setL 0 vs (a ++ b) = vs ++ b
 | [], a, b, h => by
   obtain rfl : a = [] := List.length_eq_zero_iff.1 h
   rfl
 | v :: vs, [], b, h => by simp at h
 | v :: vs, x :: a, b, h => by
   have := setL_app vs [v] (a ++ b) 0
   show setL (0 + 1) vs ((x :: (a ++ b)).set 0 v) = _
   rw [List.set_cons_zero]
   simp only [List.length_cons, List.length_nil, Nat.zero_add, Nat.add_zero, List.cons_append, List.nil_append] at this ⊢
   rw [this, setL_head vs a b (by simpa using h)]
theorem EncT.all_set (E : EncT α) : ∀ (l : List α) (i : Nat) (x : α), i < l.length → setL (i * E.sz) (E.enc x) (E.all l) = E.all (l.set i x)
 | [], i, x, h => by simp at h
 | y :: l, 0, x, h => by
   rw [Nat.zero_mul, E.all_cons, setL_head _ _ _ (by rw [E.len, E.len]), List.set_cons_zero, E.all_cons]
 | y :: l, i + 1, x, h => by
   rw [E.all_cons, List.set_cons_succ, E.all_cons, Nat.add_mul, Nat.one_mul, Nat.add_comm, ← E.len y, setL_app, E.len y, EncT.all_set E l i x (by simpa using h)]
theorem puts_heap : ∀ (vs : List Value) (o : Nat) (w : World) (g : Nat) (t : TypeId) (C : Array Value), w.heap[g]? = some (.cells C t (0, 0)) → ∃ C', (puts w g o vs).heap[g]? = some (.cells C' t (0, 0)) ∧ C'.toList = setL o vs C.toList
 | [], o, w, g, t, C, h => ⟨C, h, rfl⟩
 | v :: vs, o, w, g, t, C, h => by
   obtain ⟨C', h1, h2⟩ := puts_heap vs (o + 1) (w.setCell ⟨g, o, none⟩ v) g t _ (blk_put h o v rfl)
   refine ⟨C', h1, ?_⟩
   rw [h2, Array.toList_setIfInBounds]
   rfl
theorem puts_keep : ∀ (vs : List Value) (o : Nat) (w : World) (g : Nat) (F : Nat → Prop), F g → Keep w (puts w g o vs) F
 | [], o, w, g, F, h => Keep.of_below (Below.refl _ w) F
 | v :: vs, o, w, g, F, h => (keep_set w g o v F h).trans (puts_keep vs (o + 1) _ g F h) fun b hb => .inl hb
theorem puts_grown (vs : List Value) (o : Nat) (w : World) (g : Nat) : w.grownBy (puts w g o vs) (some g) := by
 have h := puts_keep vs o w g (fun b => b = g) rfl
 exact ⟨h.os, h.tape, h.output, h.size, fun k hk hne => h.block k hk fun e => hne (by rw [e])⟩
theorem RowX.put {g n c i : Nat} (hr : RowX E w (.slice (some ⟨g, 0, none⟩) n c) l) (hi : i < l.length) (x : α) : RowX E (puts w g (i * E.sz) (E.enc x)) (.slice (some ⟨g, 0, none⟩) n c) (l.set i x) := by
 obtain ⟨h0, h1, h2⟩ := hr
 rcases h2 with ⟨h2, _⟩ | ⟨g', cap, cur, hv, hg, hn, hm, hs, ht⟩
 · simp at h2
 · simp at hv
   obtain ⟨rfl, rfl, rfl⟩ := hv
   obtain ⟨C', h3, h4⟩ := puts_heap (E.enc x) (i * E.sz) w g _ _ hg
   have hsz : C'.size = cur.size := by
     have := congrArg List.length h4
     rw [setL_len] at this
     simpa using this
   refine ⟨E.all_len _, E.all_one _, .inr ⟨g, c, C', by rw [List.length_set], h3, by rw [List.length_set]; exact hn, hm, by rw [hsz]; exact hs, ?_⟩⟩
   rw [h4, setL_take, List.length_set, ht, E.all_set l i x hi]
theorem St.putX {g n c : Nat} (s : St w0 F w cs) (j : Nat) (hj : cs[j]? = some (rowXC E (.slice (some ⟨g, 0, Option.none⟩) n c) l)) (i : Nat) (x : α) (hi : i < l.length) :
   St w0 F (puts w g (i * E.sz) (E.enc x)) (cs.set j (rowXC E (.slice (some ⟨g, 0, Option.none⟩) n c) (l.set i x))) :=
 s.rowTo j hj ((s.rowX j hj).put hi x) (puts_grown _ _ _ _) (.inl rfl)
structure InfoX (P : Program) (E : EncT α) (t : TypeId) where
 under : P.underlying t = some (.slice E.ty)
 i : TypeInfo
 z : Value
 bytes : Nat
 info : P.info? E.ty = some i
 zero : i.zero = some z
 size : i.size = E.sz
 bt : i.bytes = bytes
 zsz : z.cells.size = E.sz
 pos : 0 < E.sz
 small : bytes ≤ 64
variable {P : Program} {t : TypeId}
theorem infoX_of {z : Value} {bytes : Nat} (hu : P.underlying t = some (.slice E.ty)) (h : (P.info? E.ty).map (fun i => (i.zero, i.size, i.bytes)) = some (some z, E.sz, bytes)) (hz : z.cells.size = E.sz) (h0 : 0 < E.sz) (hb : bytes ≤ 64) : Nonempty (InfoX P E t) := by
 cases hi : P.info? E.ty with
 | none => rw [hi] at h; simp at h
 | some i =>
   rw [hi] at h
   simp only [Option.map_some, Option.some.injEq, Prod.mk.injEq] at h
   exact ⟨⟨hu, i, z, bytes, hi, h.1, h.2.1, h.2.2, hz, h0, hb⟩⟩
theorem appendX (I : InfoX P E t) (x : α) (vb : Nat) (C : Array Value) (ty : TypeId) (hR : RowX E w v l) (hv : w.heap[vb]? = some (.cells C E.ty (0, 0))) (hC : C.toList = E.enc x) (hn : l.length < 999999) :
   ∃ g c w', (Builtin.append_ #[t, t] ty #[v, .slice (some ⟨vb, 0, none⟩) 1 1]).run P w = .ok (.slice (some ⟨g, 0, none⟩) (l.length + 1) c) w' ∧ RowX E w' (.slice (some ⟨g, 0, none⟩) (l.length + 1) c) (l ++ [x]) ∧ w.grownBy w' v.ownBlock ∧ Owns w v (.slice (some ⟨g, 0, none⟩) (l.length + 1) c) := by
 obtain ⟨v', w', h1, h2, h3, h4⟩ := run_append_R (P := P) w t ty E.ty I.i _ E.sz I.bytes I.under I.info I.zero I.size I.bt I.zsz I.pos I.small v l.length (E.all l) hR ⟨vb, 0, none⟩ 1 1 (E.enc x) (by rw [E.len]; omega) (fun j u hu => by
   rw [Addr.add_lit, Nat.zero_add, cell_of_row w vb j _ E.ty (0, 0) hv, ← hu, ← hC]
   simp) (E.one x) (by omega)
 obtain ⟨g, c, rfl, _⟩ := row_slice h2 (by omega)
 exact ⟨g, c, w', h1, RowX.of h2 (by simp) (by rw [E.all_app, E.all_one']), h3, h4⟩
end
end Go.Proofs.Kb
end
section
namespace Go.Proofs.Kb
open Go Go.RowKit Go.Lib Go.Shelf
set_option maxRecDepth 100000
theorem ins37_info : (Tryz.prog.info? 63).map (fun i => (i.zero, i.size, i.bytes)) = some (some (.agg #[.int .i64 0, .int .i64 0]), 2, 16) := by kernel_rfl
theorem ins37_over (w : World) (vb g o lb cb : Nat) (news cur : Array Value) (hne : vb ≠ g) (hv : w.heap[vb]? = some (.cells news 63 (0, 0))) (hg : w.heap[g]? = some (.cells cur 63 (0, 0))) (hc : 0 < cur.size) :
   (callFunc 65 #[.slice (some ⟨vb, 0, none⟩) 1 1, .slice (some ⟨g, o, none⟩) lb cb]).run Tryz.prog w = .ok (.value (.bool false)) w := by
 have hz : ∀ w, (Go.sizeOf 63).run Tryz.prog w = .ok 2 w := Tryz.sizeOf63
 rw [run_callFunc_extern Tryz.func65 (by kernel_rfl) (by kernel_rfl) (by kernel_rfl) (e := Extern.SlicesOverlaps.overlaps #[65, 65] #[4]) (by kernel_rfl),
   Lib.run_overlaps_apart w 65 4 63 Tryz.underlying65 2 hz ⟨vb, 0, none⟩ ⟨g, o, none⟩ 1 1 lb cb hne 63 63 news.size cur.size (by simp [World.shape?, hv]) (by simp [World.shape?, hg]) (by omega) (by simp [World.frozen?, hv]) (by simp [World.frozen?, hv])]
 rfl
set_option maxHeartbeats 4000000 in
set_option maxRecDepth 100000 in
theorem insert37 (w : World) (v : Value) (n i : Nat) (xs : List Value) (vb : Nat) (news : Array Value) (hR : Row w 63 2 v n xs) (hi : i ≤ n) (hn : n < 1000000) (hvb : w.heap[vb]? = some (.cells news 63 (0, 0))) (hns : news.size = 2)
   (h1 : ∀ u ∈ news.toList, u.oneCell' = true) (hne : v.ownBlock ≠ some vb) :
   Calls Tryz.prog 34 #[v, .int .i64 i, .slice (some ⟨vb, 0, none⟩) 1 1] w fun e w' => ∃ v', e = .returned v' ∧
     Row w' 63 2 v' (n + 1) (xs.take (i * 2) ++ news.toList ++ xs.drop (i * 2)) ∧ w.grownBy w' v.ownBlock ∧ (v'.ownBlock = v.ownBlock ∨ ∃ k, v'.ownBlock = some k ∧ w.heap.size ≤ k) ∧ v' ≠ .slice none 0 0 := by
 obtain ⟨i0, hi0, hz0, hzs, hzb⟩ := info_parts ins37_info
 have mixed : Tryz.prog.follows Departure.mixedOrders = true := by kernel_rfl
 have hRl := hR.1
 have hR1 := hR.2.1
 have hnl : news.toList.length = 2 := by simpa using hns
 have hnewc : ∀ W : World, W.heap[vb]? = w.heap[vb]? → ∀ j u, news.toList[j]? = some u → W.cell? ((⟨vb, 0, none⟩ : Addr).add j) = some u := fun W hW j u hu => by
   rw [Addr.add_lit, Nat.zero_add, cell_of_row W vb j news 63 (0, 0) (hW.trans hvb)]
   simpa using hu
 rcases hR.2.2 with ⟨rfl, rfl⟩ | ⟨g, cap, cur, rfl, hg, hnc, hcm, hcs, htake⟩
 · obtain rfl : i = 0 := by omega
   have hx : xs = [] := List.eq_nil_of_length_eq_zero (by simpa using hRl)
   subst hx
   have hrun : ∀ ty, (Builtin.append_ #[65, 65] ty #[.slice none 0 0, .slice (some ⟨vb, 0, none⟩) 1 1]).run Tryz.prog w = _ := fun ty =>
     run_append_nil w 65 ty 63 i0 _ Tryz.underlying65 hi0 hz0 ⟨vb, 0, none⟩ 1 1 news.toList (by rw [hnl, hzs]) (hnewc w rfl) (by omega) (by omega) (by rw [hzb]; omega)
   have hge := grownCap_ge w 1 0 63
   have hle := grownCap_le_maxLen w 1 0 63 (by decide)
   go_enter Tryz.func34, Tryz.ntmps34
   go_wp2_with (at_builtin; refine Lib.wpList_append_run _ rfl _ _ _ _ rfl _ _ rfl rfl _ _ (hrun _) ?_)
   go_ret
   refine ⟨_, rfl, ⟨by simp [hnl], by simpa using h1, .inr ⟨_, _, _, rfl, heap_alloc_new w.drew _, hge, hle, ?_, ?_⟩⟩, grown_alloc w _ _, .inr ⟨_, rfl, Nat.le_refl _⟩, by simp⟩
   · simp [size_zeroCells, hns, Value.cells] <;> omega
   · simp [hnl, List.take_append_of_le_length]
 · have hgv : vb ≠ g := fun e => hne (by rw [e]; rfl)
   by_cases hin : i = n
   · subst hin
     have hlast : xs.take (i * 2) ++ news.toList ++ xs.drop (i * 2) = xs ++ news.toList := by rw [List.take_of_length_le (by omega), List.drop_eq_nil_iff.2 (by omega), List.append_nil]
     rw [hlast]
     by_cases hroom : i + 1 ≤ cap
     · obtain ⟨W1, hW1⟩ : ∃ W1, w.setRow g (splice cur.toList (i * 2) news.toList).toArray = W1 := ⟨_, rfl⟩
       have hrun : ∀ ty, (Builtin.append_ #[65, 65] ty #[.slice (some ⟨g, 0, none⟩) i cap, .slice (some ⟨vb, 0, none⟩) 1 1]).run Tryz.prog w = .ok (.slice (some ⟨g, 0, none⟩) (i + 1) cap) W1 := fun ty => by
         have := run_append_room w 65 ty 63 i0 Tryz.underlying65 hi0 g i cap cur hg ⟨vb, 0, none⟩ 1 1 news.toList (by rw [hnl, hzs]) (hnewc w rfl) h1 hroom (by rw [hzs, hnl]; omega)
         rw [hzs] at this
         rw [← hW1]
         exact this
       go_enter Tryz.func34, Tryz.ntmps34
       go_wp2_with (at_builtin; refine Lib.wpList_append_run _ rfl _ _ _ _ rfl _ _ rfl rfl _ _ (hrun _) ?_)
       go_ret
       refine ⟨_, rfl, ⟨by simp [hnl, hRl] <;> omega, ?_, .inr ⟨g, cap, (splice cur.toList (i * 2) news.toList).toArray, rfl, by rw [← hW1]; exact setRow_heap w g cur _ 63 _ hg, hroom, hcm, ?_, ?_⟩⟩, by rw [← hW1]; exact grown_set w g _, .inl rfl, by simp⟩
       · intro u hu
         rcases List.mem_append.1 hu with hu | hu
         · exact hR1 u hu
         · exact h1 u hu
       · rw [List.size_toArray, splice_len (by rw [hnl]; simp <;> omega)]
         simpa using hcs
       · show (splice cur.toList (i * 2) news.toList).take ((i + 1) * 2) = _
         rw [show (i + 1) * 2 = i * 2 + news.toList.length by rw [hnl]; omega, splice_take_end (by simp <;> omega), htake]
     · have holds : ∀ j u, xs[j]? = some u → w.cell? ((⟨g, 0, none⟩ : Addr).add j) = some u := fun j u hu => by
         rw [Addr.add_lit, Nat.zero_add]
         exact hR.cell rfl j u hu
       have hrun : ∀ ty, (Builtin.append_ #[65, 65] ty #[.slice (some ⟨g, 0, none⟩) i cap, .slice (some ⟨vb, 0, none⟩) 1 1]).run Tryz.prog w = _ := fun ty =>
         run_append_grow w 65 ty 63 i0 _ Tryz.underlying65 hi0 hz0 ⟨g, 0, none⟩ i cap xs (by rw [hRl, hzs]) holds ⟨vb, 0, none⟩ 1 1 news.toList (by rw [hnl, hzs]) (hnewc w rfl) (by omega) (by omega) (by rw [hzb]; exact growslice_fits (by omega) (by omega))
       have hge := grownCap_ge w (i + 1) cap 63
       have hle := grownCap_le_maxLen w (i + 1) cap 63 (by simp only [maxLen]; omega)
       go_enter Tryz.func34, Tryz.ntmps34
       go_wp2_with (at_builtin; refine Lib.wpList_append_run _ rfl _ _ _ _ rfl _ _ rfl rfl _ _ (hrun _) ?_)
       go_ret
       refine ⟨_, rfl, ⟨by simp [hnl, hRl] <;> omega, ?_, .inr ⟨_, _, _, rfl, heap_alloc_new w.drew _, hge, hle, ?_, ?_⟩⟩, grown_alloc w _ _, .inr ⟨_, rfl, Nat.le_refl _⟩, by simp⟩
       · intro u hu
         rcases List.mem_append.1 hu with hu | hu
         · exact hR1 u hu
         · exact h1 u hu
       · simp [size_zeroCells, hns, hRl, Value.cells] <;> omega
       · simp only [Array.toList_append]
         rw [show (i + 1) * 2 = (xs ++ news.toList).length by simp [hRl, hns] <;> omega, ← List.append_assoc, List.take_left]
   · have hlt : i < n := by omega
     have hz1 : ¬ ((i : Int) = (n : Int)) := by omega
     have hw1 : IntKind.i64.wrap ((n : Int) + 1) = (n : Int) + 1 := by rw [IntKind.wrap_i64]; omega
     have hw2 : IntKind.i64.wrap ((i : Int) + 1) = (i : Int) + 1 := by rw [IntKind.wrap_i64]; omega
     have hw3 : IntKind.i64.wrap ((n : Int) + 1 - (i : Int)) = ((n + 1 - i : Nat) : Int) := by rw [IntKind.wrap_i64]; omega
     have hin2 : i ≤ n := by omega
     have hl1 : (xs.take (i * 2)).length = i * 2 := by rw [List.length_take, hRl]; omega
     have hl2 : (xs.drop (i * 2)).length = (n - i) * 2 := by rw [List.length_drop, hRl]; omega
     have hcurs : cur.toList.length = cur.size := by simp
     by_cases hroom : n + 1 ≤ cap
     · obtain ⟨cur1, hcur1⟩ : ∃ c, splice cur.toList ((i + 1) * 2) (xs.drop (i * 2)) = c := ⟨_, rfl⟩
       have hs1 : cur1.length = cur.size := by rw [← hcur1, splice_len (by rw [hl2]; simp <;> omega)]; simp
       obtain ⟨W1, hW1⟩ : ∃ W1, w.drew.setRow g cur1.toArray = W1 := ⟨_, rfl⟩
       have hH1 : W1.heap[g]? = some (.cells cur1.toArray 63 (0, 0)) := by rw [← hW1]; exact setRow_heap w.drew g cur _ 63 _ hg
       have hold1 : ∀ k, k ≠ g → W1.heap[k]? = w.heap[k]? := fun k hk => by rw [← hW1, setRow_other _ _ _ _ hk]; rfl
       obtain ⟨W2, hW2⟩ : ∃ W2, W1.setRow g (splice cur1 (i * 2) news.toList).toArray = W2 := ⟨_, rfl⟩
       have hcp1 : ∀ ty, (Builtin.copy_ #[65, 65] ty #[.slice (some ⟨g, (i + 1) * 2, none⟩) (n + 1 - (i + 1)) (cap - (i + 1)), .slice (some ⟨g, i * 2, none⟩) (n + 1 - i) (cap - i)]).run Tryz.prog w.drew = .ok (goInt (Nat.min (n + 1 - i) (n + 1 - (i + 1)))) W1 := fun ty => by
         rw [← hW1, ← hcur1]
         have := run_copy_row w.drew 65 65 ty 63 i0 Tryz.underlying65 hi0 g ((i + 1) * 2) (n + 1 - (i + 1)) (cap - (i + 1)) cur hg ⟨g, i * 2, none⟩ (n + 1 - i) (cap - i) (xs.drop (i * 2)) (by rw [hl2, hzs, show Nat.min (n + 1 - i) (n + 1 - (i + 1)) = n - i from (Nat.min_eq_right (by omega)).trans (by omega)])
           (fun j u hu => by
             rw [Addr.add_lit, cell_of_row w.drew g _ cur 63 (0, 0) hg, ← cell_of_row w g _ cur 63 (0, 0) hg]
             exact hR.cell rfl _ u (by rwa [List.getElem?_drop] at hu))
           (by rw [hl2]; omega) (fun u hu => hR1 u (List.mem_of_mem_drop hu))
         try simp only [Nat.mul_one] at this ⊢
         exact this
       have hcp2 : ∀ ty, (Builtin.copy_ #[65, 65] ty #[.slice (some ⟨g, i * 2, none⟩) (n + 1 - i) (cap - i), .slice (some ⟨vb, 0, none⟩) 1 1]).run Tryz.prog W1 = .ok (goInt (Nat.min 1 (n + 1 - i))) W2 := fun ty => by
         rw [← hW2]
         have := run_copy_row W1 65 65 ty 63 i0 Tryz.underlying65 hi0 g (i * 2) (n + 1 - i) (cap - i) cur1.toArray hH1 ⟨vb, 0, none⟩ 1 1 news.toList (by rw [hnl, hzs, nmin (by omega)]) (hnewc W1 (hold1 vb hgv)) (by rw [hnl]; simp [hs1] <;> omega) h1
         try simp only [Nat.mul_one] at this ⊢
         exact this
       have hov : ∀ lb cb, (callFunc 65 #[.slice (some ⟨vb, 0, none⟩) 1 1, .slice (some ⟨g, (i + 1) * 2, none⟩) lb cb]).run Tryz.prog w = .ok (.value (.bool false)) w := fun lb cb =>
         ins37_over w vb g _ lb cb news cur hgv hvb hg (by omega)
       have hb1 : (0 : Int) ≤ (i : Int) + 1 := by omega
       have hb2 : ¬ (cap = i + 1) := by omega
       have hb3 : (i : Int) ≤ (n : Int) := by omega
       have hb4 : ¬ (cap = i) := by omega
       have htn : ((i : Int) + 1).toNat = i + 1 := by omega
       have htn2 : ((n : Int) + 1).toNat = n + 1 := by omega
       have hb5 : (i : Int) ≤ (n : Int) + 1 := by omega
       have hb6 : (n : Int) + 1 ≤ (cap : Int) := by omega
       have hb7 : i ≤ n + 1 := by omega
       go_enter Tryz.func34, Tryz.ntmps34
       go_wp2_with (simp only [hov])
       go_region_law_o (refine step_copy_runI rfl _ _ 65 65 rfl _ _ (by simp [Act.eval, Act.put]) (by simp [Act.eval, Act.put]) (hcp1 _) ?_)
       go_wp2_with (at_builtin; refine wpList_copy_runI _ rfl _ _ 65 65 rfl _ _ rfl rfl (hcp2 _) ?_)
       go_ret
       have hl3 : (xs.take (i * 2) ++ news.toList ++ xs.drop (i * 2)).length = (n + 1) * 2 := by
         rw [List.length_append, List.length_append, hl1, hl2, hnl]
         omega
       refine ⟨_, rfl, ⟨hl3, ?_, .inr ⟨g, cap, (splice cur1 (i * 2) news.toList).toArray, rfl, ?_, hroom, hcm, ?_, ?_⟩⟩, ⟨?_, ?_, ?_, ?_, ?_⟩, .inl rfl, by simp⟩
       · intro u hu
         rcases List.mem_append.1 hu with hu | hu
         · rcases List.mem_append.1 hu with hu | hu
           · exact hR1 u (List.mem_of_mem_take hu)
           · exact h1 u hu
         · exact hR1 u (List.mem_of_mem_drop hu)
       · rw [← hW2]
         exact setRow_heap W1 g cur1.toArray _ 63 _ hH1
       · rw [List.size_toArray, splice_len (by rw [hnl, hs1]; omega), hs1]
         exact hcs
       · show (splice cur1 (i * 2) news.toList).take ((n + 1) * 2) = _
         have hsp : splice cur1 (i * 2) news.toList = cur1.take (i * 2) ++ news.toList ++ cur1.drop ((i + 1) * 2) := by
           unfold splice
           rw [hnl, show i * 2 + 2 = (i + 1) * 2 by omega]
         have hd : cur1.drop ((i + 1) * 2) = xs.drop (i * 2) ++ cur.toList.drop ((n + 1) * 2) := by
           rw [← hcur1]
           unfold splice
           rw [List.append_assoc, List.drop_append_of_le_length (by rw [List.length_take]; omega), List.drop_eq_nil_iff.2 (by rw [List.length_take]; omega), List.nil_append, hl2, show (i + 1) * 2 + (n - i) * 2 = (n + 1) * 2 by omega]
         have ht : cur1.take (i * 2) = xs.take (i * 2) := by
           rw [← hcur1, splice_take _ (by omega) (by omega), ← htake, List.take_take, Nat.min_eq_left (by omega)]
         rw [hsp, hd, ht, ← List.append_assoc, ← hl3, List.take_left]
       · rw [← hW2, ← hW1]; rfl
       · rw [← hW2, ← hW1]; rfl
       · rw [← hW2, ← hW1]; rfl
       · rw [← hW2, ← hW1]; simp
       · intro k hk hkg
         have hk2 : k ≠ g := fun e => hkg (by rw [e]; rfl)
         rw [← hW2, setRow_other _ _ _ _ hk2]
         exact hold1 k hk2
     · obtain ⟨C, hC⟩ : ∃ C, grownCap w (n + 1) cap 63 = C := ⟨_, rfl⟩
       have hge := grownCap_ge w (n + 1) cap 63
       have hle := grownCap_le_maxLen w (n + 1) cap 63 (by simp only [maxLen]; omega)
       rw [hC] at hge hle
       have hsum : i + (n + 1 - i) = n + 1 := by omega
       have holds : ∀ j u, (xs.take (i * 2))[j]? = some u → w.cell? ((⟨g, 0, none⟩ : Addr).add j) = some u := fun j u hu => by
         rw [Addr.add_lit, Nat.zero_add]
         refine hR.cell rfl j u ?_
         rw [List.getElem?_take] at hu
         split at hu
         · exact hu
         · cases hu
       obtain ⟨cur1, hcur1⟩ : ∃ c : Array Value, ((xs.take (i * 2)).toArray ++ Builtin.zeroCells (.agg #[.int .i64 0, .int .i64 0] : Value).cells (n + 1 - i) ++ Builtin.zeroCells (.agg #[.int .i64 0, .int .i64 0] : Value).cells (C - (n + 1))) = c := ⟨_, rfl⟩
       have hs1 : cur1.size = C * 2 := by
         rw [← hcur1]
         simp [size_zeroCells, Value.cells, hl1, hRl] <;> omega
       have ht1 : cur1.toList.take (i * 2) = xs.take (i * 2) := by
         rw [← hcur1]
         simp only [Array.toList_append, List.append_assoc]
         rw [List.take_append_of_le_length (by omega), List.take_of_length_le (by omega)]
       obtain ⟨W1, hW1⟩ : ∃ W1, w.drew.alloc (.cells cur1 63) = W1 := ⟨_, rfl⟩
       have hrun : ∀ ty, (Builtin.append_ #[65, 3] ty #[.slice (some ⟨g, 0, none⟩) i cap, .int .i64 ((n + 1 - i : Nat) : Int)]).run Tryz.prog w = .ok (.slice (some ⟨w.heap.size, 0, none⟩) (n + 1) C) W1 := fun ty => by
         have := run_append_grow_zeros w 65 3 ty 63 i0 _ .i64 Tryz.underlying65 Tryz.underlying3 hi0 hz0 ⟨g, 0, none⟩ i cap (n + 1 - i) (xs.take (i * 2)) (by rw [hl1, hzs]) holds (by omega) (by omega) (by omega) (by omega) (by rw [hzb]; omega) (by rw [hzb, hsum]; exact growslice_fits (by omega) (by omega))
         rw [hsum, hC, hcur1, hW1] at this
         exact this
       have hH : W1.heap[w.heap.size]? = some (.cells cur1 63 (0, 0)) := by rw [← hW1]; exact heap_alloc_new w.drew _
       have hold : ∀ k, k < w.heap.size → W1.heap[k]? = w.heap[k]? := fun k hk => by rw [← hW1]; exact heap_alloc_old w.drew _ hk
       have hgl := (Array.getElem?_eq_some_iff.1 hg).1
       have hvl := (Array.getElem?_eq_some_iff.1 hvb).1
       obtain ⟨W2, hW2⟩ : ∃ W2, W1.setRow w.heap.size (splice cur1.toList (i * 2) news.toList).toArray = W2 := ⟨_, rfl⟩
       have hcp1 : ∀ ty, (Builtin.copy_ #[65, 65] ty #[.slice (some ⟨w.heap.size, i * 2, none⟩) (n + 1 - i) (C - i), .slice (some ⟨vb, 0, none⟩) 1 1]).run Tryz.prog W1 = .ok (goInt (Nat.min 1 (n + 1 - i))) W2 := fun ty => by
         rw [← hW2]
         have := run_copy_row W1 65 65 ty 63 i0 Tryz.underlying65 hi0 w.heap.size (i * 2) (n + 1 - i) (C - i) cur1 hH ⟨vb, 0, none⟩ 1 1 news.toList (by rw [hnl, hzs, nmin (by omega)]) (hnewc W1 (hold vb hvl)) (by rw [hnl, hs1]; omega) h1
         try simp only [Nat.mul_one] at this ⊢
         exact this
       have hH2 : W2.heap[w.heap.size]? = some (.cells (splice cur1.toList (i * 2) news.toList).toArray 63 (0, 0)) := by rw [← hW2]; exact setRow_heap W1 _ cur1 _ 63 _ hH
       have hold2 : ∀ k, k < w.heap.size → W2.heap[k]? = w.heap[k]? := fun k hk => by rw [← hW2, setRow_other _ _ _ _ (by omega)]; exact hold k hk
       obtain ⟨cur2, hcur2⟩ : ∃ c, (splice cur1.toList (i * 2) news.toList) = c := ⟨_, rfl⟩
       rw [hcur2] at hH2
       have hs2 : cur2.length = C * 2 := by rw [← hcur2, splice_len (by rw [hnl]; simp [hs1] <;> omega)]; simp [hs1]
       obtain ⟨W3, hW3⟩ : ∃ W3, W2.drew.setRow w.heap.size (splice cur2 ((i + 1) * 2) (xs.drop (i * 2))).toArray = W3 := ⟨_, rfl⟩
       have hcp2 : ∀ ty, (Builtin.copy_ #[65, 65] ty #[.slice (some ⟨w.heap.size, (i + 1) * 2, none⟩) (n + 1 - (i + 1)) (C - (i + 1)), .slice (some ⟨g, i * 2, none⟩) (n - i) (cap - i)]).run Tryz.prog W2.drew = .ok (goInt (Nat.min (n - i) (n + 1 - (i + 1)))) W3 := fun ty => by
         have := run_copy_row W2.drew 65 65 ty 63 i0 Tryz.underlying65 hi0 w.heap.size ((i + 1) * 2) (n + 1 - (i + 1)) (C - (i + 1)) cur2.toArray hH2 ⟨g, i * 2, none⟩ (n - i) (cap - i) (xs.drop (i * 2)) (by rw [hl2, hzs, nmin (by omega)])
           (fun j u hu => by
             rw [Addr.add_lit, cell_of_row W2.drew g _ cur 63 (0, 0) ((hold2 g hgl).trans hg), ← cell_of_row w g _ cur 63 (0, 0) hg]
             exact hR.cell rfl _ u (by rwa [List.getElem?_drop] at hu))
           (by rw [hl2]; simp [hs2] <;> omega) (fun u hu => hR1 u (List.mem_of_mem_drop hu))
         rw [← hW3]
         try simp only [Nat.mul_one] at this ⊢
         exact this
       have hnr : ¬ (n + 1 ≤ cap) := hroom
       go_enter Tryz.func34, Tryz.ntmps34
       go_wp2_with (first | (at_builtin; refine Lib.wpList_append_run _ rfl _ _ _ _ rfl _ _ rfl rfl _ _ (hrun _) ?_) | (at_builtin; refine wpList_copy_runI _ rfl _ _ 65 65 rfl _ _ rfl rfl (hcp1 _) ?_))
       have hb1 : (0 : Int) ≤ (i : Int) + 1 := by omega
       have hb2 : ¬ (C = i + 1) := by omega
       have hb3 : (i : Int) ≤ (n : Int) := by omega
       have hb4 : ¬ (cap = i) := by omega
       have htn : ((i : Int) + 1).toNat = i + 1 := by omega
       go_region_law_o (refine step_copy_runI rfl _ _ 65 65 rfl _ _ (by simp [Act.eval, Act.put]) (by simp [Act.eval, Act.put]) (hcp2 _) ?_)
       go_wp2
       go_ret
       have hl3 : (xs.take (i * 2) ++ news.toList ++ xs.drop (i * 2)).length = (n + 1) * 2 := by
         rw [List.length_append, List.length_append, hl1, hl2, hnl]
         omega
       refine ⟨_, rfl, ⟨hl3, ?_, .inr ⟨_, C, (splice cur2 ((i + 1) * 2) (xs.drop (i * 2))).toArray, rfl, ?_, hge, hle, ?_, ?_⟩⟩, ⟨?_, ?_, ?_, ?_, ?_⟩, .inr ⟨_, rfl, Nat.le_refl _⟩, by simp⟩
       · intro u hu
         rcases List.mem_append.1 hu with hu | hu
         · rcases List.mem_append.1 hu with hu | hu
           · exact hR1 u (List.mem_of_mem_take hu)
           · exact h1 u hu
         · exact hR1 u (List.mem_of_mem_drop hu)
       · rw [← hW3]
         exact setRow_heap W2.drew _ cur2.toArray _ 63 _ hH2
       · rw [List.size_toArray, splice_len (by rw [hl2, hs2]; omega), hs2]
         exact Nat.le_refl _
       · show (splice cur2 ((i + 1) * 2) (xs.drop (i * 2))).take ((n + 1) * 2) = _
         rw [show (n + 1) * 2 = (i + 1) * 2 + (xs.drop (i * 2)).length by rw [hl2]; omega, splice_take_end (by rw [hs2]; omega), ← hcur2,
           show (i + 1) * 2 = i * 2 + news.toList.length by rw [hnl]; omega, splice_take_end (by simp [hs1] <;> omega), ht1]
       · rw [← hW3, ← hW2, ← hW1]; rfl
       · rw [← hW3, ← hW2, ← hW1]; rfl
       · rw [← hW3, ← hW2, ← hW1]; rfl
       · rw [← hW3, ← hW2, ← hW1]; simp
       · intro k hk _
         rw [← hW3, setRow_other _ _ _ _ (by omega)]
         exact hold2 k hk
end Go.Proofs.Kb
end
section
namespace Go.Proofs.Kb
open Go Go.RowKit Go.Lib Go.Shelf
set_option maxRecDepth 100000
set_option maxHeartbeats 4000000 in
theorem delete47 (w : World) (g n cap i : Nat) (xs : List Value) (hR : Row w 63 2 (.slice (some ⟨g, 0, none⟩) n cap) n xs) (hi : i < n) (hn : n < 1000000) :
   Calls Tryz.prog 44 #[.slice (some ⟨g, 0, none⟩) n cap, .int .i64 i, .int .i64 ((i + 1 : Nat) : Int)] w fun e w' => e = .returned (.slice (some ⟨g, 0, none⟩) (n - 1) cap) ∧
     Row w' 63 2 (.slice (some ⟨g, 0, none⟩) (n - 1) cap) (n - 1) (xs.take (i * 2) ++ xs.drop ((i + 1) * 2)) ∧ w.grownBy w' (some g) := by
 have mixed : Tryz.prog.follows Departure.mixedOrders = true := by kernel_rfl
 obtain ⟨i0, hi0, hz0, hzs, hzb⟩ := info_parts ins37_info
 have hRl := hR.1
 have hR1 := hR.2.1
 rcases hR.2.2 with ⟨hv, _⟩ | ⟨g', cap', cur, hv, hg, hnc, hcm, hcs, htake⟩
 · simp at hv
 · simp at hv
   obtain ⟨rfl, rfl⟩ := hv
   have hcurs : cur.toList.length = cur.size := by simp
   have hl1 : (xs.take (i * 2)).length = i * 2 := by rw [List.length_take, hRl]; omega
   have hl2 : (xs.drop ((i + 1) * 2)).length = (n - (i + 1)) * 2 := by rw [List.length_drop, hRl]; omega
   obtain ⟨cur1, hcur1⟩ : ∃ c, splice cur.toList (i * 2) (xs.drop ((i + 1) * 2)) = c := ⟨_, rfl⟩
   have hs1 : cur1.length = cur.size := by rw [← hcur1, splice_len (by rw [hl2]; simp <;> omega)]; simp
   obtain ⟨W1, hW1⟩ : ∃ W1, w.drew.setRow g cur1.toArray = W1 := ⟨_, rfl⟩
   have hH1 : W1.heap[g]? = some (.cells cur1.toArray 63 (0, 0)) := by rw [← hW1]; exact setRow_heap w.drew g cur _ 63 _ hg
   obtain ⟨a, ha, hacell⟩ : ∃ a : Addr, (a = if cap = i + 1 then ⟨g, 0, none⟩ else ⟨g, (i + 1) * 2, none⟩) ∧ ∀ j u, (xs.drop ((i + 1) * 2))[j]? = some u → w.drew.cell? (a.add j) = some u := by
     refine ⟨_, rfl, fun j u hu => ?_⟩
     rw [List.getElem?_drop] at hu
     by_cases hce : cap = i + 1
     · have := (List.getElem?_eq_some_iff.1 hu).1
       omega
     · rw [if_neg hce]
       have := hR.cell rfl _ u hu
       try simp only [Nat.mul_one] at this ⊢
       rw [Addr.add_lit, cell_of_row w.drew g _ cur 63 (0, 0) hg, ← cell_of_row w g _ cur 63 (0, 0) hg]
       exact this
   have hrun : ∀ ty, (Builtin.append_ #[65, 65] ty #[.slice (some ⟨g, 0, none⟩) i cap, .slice (some a) (n - (i + 1)) (cap - (i + 1))]).run Tryz.prog w.drew = .ok (.slice (some ⟨g, 0, none⟩) (n - 1) cap) W1 := fun ty => by
     have := run_append_room w.drew 65 ty 63 i0 Tryz.underlying65 hi0 g i cap cur hg a (n - (i + 1)) (cap - (i + 1)) (xs.drop ((i + 1) * 2)) (by rw [hl2, hzs]) hacell (fun u hu => hR1 u (List.mem_of_mem_drop hu)) (by omega) (by rw [hzs, hl2]; omega)
     rw [hzs, show i + (n - (i + 1)) = n - 1 by omega] at this
     rw [← hW1, ← hcur1]
     exact this
   obtain ⟨zs, hzs2⟩ : ∃ zs, (Builtin.zeroCells (.agg #[.int .i64 0, .int .i64 0] : Value).cells 1).toList = zs := ⟨_, rfl⟩
   have hzl : zs.length = 2 := by rw [← hzs2]; simp [size_zeroCells, Value.cells]
   obtain ⟨W2, hW2⟩ : ∃ W2, W1.setRow g (splice cur1 ((n - 1) * 2) zs).toArray = W2 := ⟨_, rfl⟩
   have hcl : ∀ ty, (Builtin.clear_ #[65] ty #[.slice (some ⟨g, (n - 1) * 2, none⟩) 1 (cap - (n - 1))]).run Tryz.prog W1 = .ok (.tuple #[]) W2 := fun ty => by
     have := run_clear_row W1 65 ty 63 i0 _ Tryz.underlying65 hi0 hz0 (by simp [Value.cells, Value.oneCell']) g ((n - 1) * 2) 1 (cap - (n - 1)) (by omega) cur1.toArray hH1 (by simp [Value.cells, hs1] <;> omega)
     rw [hzs2] at this
     rw [← hW2]
     try simp only [Nat.mul_one] at this ⊢
     exact this
   have hb0 : ¬ ((i : Int) = (i : Int) + 1) := by omega
   have hb1 : (0 : Int) ≤ (i : Int) + 1 := by omega
   have hb3 : (i : Int) ≤ (n : Int) := by omega
   have hb3b : (i : Int) + 1 ≤ (n : Int) := by omega
   have hb4 : (n : Int) ≤ (cap : Int) := by omega
   have htn : ((i : Int) + 1).toNat = i + 1 := by omega
   have hb5 : (0 : Int) ≤ ((n - 1 : Nat) : Int) := by omega
   have hb6 : ((n - 1 : Nat) : Int) ≤ (n : Int) := by omega
   have hb7 : ¬ (cap = n - 1) := by omega
   have hb8 : n - (n - 1) = 1 := by omega
   have hb9 : i ≤ n := by omega
   have hb10 : i + 1 ≤ n := by omega
   have hb11 : i ≤ cap := by omega
   have hb12 : (i : Int) ≤ (i : Int) + 1 := by omega
   have hfin : Row W2 63 2 (.slice (some ⟨g, 0, none⟩) (n - 1) cap) (n - 1) (xs.take (i * 2) ++ xs.drop ((i + 1) * 2)) ∧ w.grownBy W2 (some g) := by
     refine ⟨⟨by rw [List.length_append, hl1, hl2]; omega, ?_, .inr ⟨g, cap, (splice cur1 ((n - 1) * 2) zs).toArray, rfl, ?_, by omega, hcm, ?_, ?_⟩⟩, ⟨?_, ?_, ?_, ?_, ?_⟩⟩
     · intro u hu
       rcases List.mem_append.1 hu with hu | hu
       · exact hR1 u (List.mem_of_mem_take hu)
       · exact hR1 u (List.mem_of_mem_drop hu)
     · rw [← hW2]
       exact setRow_heap W1 g cur1.toArray _ 63 _ hH1
     · rw [List.size_toArray, splice_len (by rw [hzl, hs1]; omega), hs1]
       exact hcs
     · show (splice cur1 ((n - 1) * 2) zs).take ((n - 1) * 2) = _
       rw [splice_take _ (Nat.le_refl _) (by omega), ← hcur1, show (n - 1) * 2 = i * 2 + (xs.drop ((i + 1) * 2)).length by rw [hl2]; omega, splice_take_end (by omega), ← htake, List.take_take, Nat.min_eq_left (by omega)]
     · rw [← hW2, ← hW1]; rfl
     · rw [← hW2, ← hW1]; rfl
     · rw [← hW2, ← hW1]; rfl
     · rw [← hW2, ← hW1]; simp
     · intro k hk hkg
       have hk2 : k ≠ g := fun e => hkg (by rw [e])
       rw [← hW2, setRow_other _ _ _ _ hk2, ← hW1, setRow_other _ _ _ _ hk2]
       rfl
   by_cases hce : cap = i + 1
   · rw [if_pos hce] at ha
     subst ha
     subst hce
     obtain rfl : n = i + 1 := by omega
     simp only [Nat.add_sub_cancel, Nat.add_sub_cancel_left] at hcl
     go_enter Tryz.func44, Tryz.ntmps44
     go_wp2
     go_region_law_o (refine step_append_runI rfl _ _ 65 65 rfl _ _ (by simp [Act.eval, Act.put]) (by simp [Act.eval, Act.put]) (hrun _) ?_)
     go_wp2_with (at_builtin; refine wpList_clear_run _ rfl _ 65 rfl _ rfl (hcl _) ?_)
     go_ret
     exact ⟨rfl, hfin⟩
   · rw [if_neg hce] at ha
     subst ha
     go_enter Tryz.func44, Tryz.ntmps44
     go_wp2
     go_region_law_o (refine step_append_runI rfl _ _ 65 65 rfl _ _ (by simp [Act.eval, Act.put]) (by simp [Act.eval, Act.put]) (hrun _) ?_)
     go_wp2_with (at_builtin; refine wpList_clear_run _ rfl _ 65 rfl _ rfl (hcl _) ?_)
     go_ret
     exact ⟨rfl, hfin⟩
end Go.Proofs.Kb
end
section
namespace Go.Proofs.Kb
open Go Go.RowKit Go.Proofs.YtkcjcdkmdooofaaGreat.Q Go.Proofs.YtkcjcdkmdooofaaGreatW.PrintWords Go.Proofs.YtkcjcdkmdooofaaGreatW.PrintLast Go.Proofs.YtkcjcdkmdooofaaGreatW.PrintMore
set_option maxRecDepth 100000
open Go.Proofs.Lk
def oneE : EncT One := ⟨63, 2, fun o => [.int .i64 o.1, .int .i64 o.2], fun o => rfl, fun o u hu => by
 rcases List.mem_cons.1 hu with rfl | hu
 · rfl
 · rcases List.mem_cons.1 hu with rfl | hu
   · rfl
   · cases hu⟩
noncomputable def oneI : InfoX Tryz.prog oneE 65 := Classical.choice (infoX_of Tryz.underlying65 ins37_info (by simp [Value.cells, oneE]) (by decide) (by decide))
abbrev rowOC := rowXC oneE
theorem RowX.ones {w : World} {g n c : Nat} {l : List One} (h : RowX oneE w (.slice (some ⟨g, 0, none⟩) n c) l) {i : Nat} {o : One} (ho : l[i]? = some o) :
   w.cell? ⟨g, i * 2, none⟩ = some (.int .i64 o.1) ∧ w.cell? ⟨g, i * 2 + 1, none⟩ = some (.int .i64 o.2) :=
 ⟨h.cell ho 0 (by decide) _ rfl, h.cell ho 1 (by decide) _ rfl⟩
theorem deleteO (w : World) (g n cap i : Nat) (l : List One) (a b : Int) (hR : RowX oneE w (.slice (some ⟨g, 0, none⟩) n cap) l) (hl : l.length = n) (hi : i < n) (hn : n < 1000000) (ha : a = i) (hb : b = i + 1) :
   Calls Tryz.prog 44 #[.slice (some ⟨g, 0, none⟩) n cap, .int .i64 a, .int .i64 b] w fun e w' => e = .returned (.slice (some ⟨g, 0, none⟩) (n - 1) cap) ∧ RowX oneE w' (.slice (some ⟨g, 0, none⟩) (n - 1) cap) (l.eraseIdx i) ∧ w.grownBy w' (some g) := by
 subst hl
 subst ha
 subst hb
 have hc := delete47 w g l.length cap i (oneE.all l) hR hi hn
 rw [Int.natCast_add, Int.natCast_one] at hc
 refine hc.mono ?_
 rintro E w' ⟨rfl, h1, h2⟩
 have e1 := oneE.all_take l i
 have e2 := oneE.all_drop l (i + 1)
 rw [show oneE.sz = 2 from rfl] at e1 e2
 rw [e1, e2, ← oneE.all_app] at h1
 exact ⟨rfl, RowX.of h1 (by rw [List.length_eraseIdx_of_lt hi]) (by rw [List.eraseIdx_eq_take_drop_succ]), h2⟩
theorem insertO (w : World) (v : Value) (l : List One) (i : Nat) (x : One) (vb : Nat) (a : Int) (hR : RowX oneE w v l) (hi : i ≤ l.length) (hn : l.length < 1000000) (hvb : w.heap[vb]? = some (.cells #[.int .i64 x.1, .int .i64 x.2] 63 (0, 0))) (hne : vb ∉ bl v) (ha : a = i) :
   Calls Tryz.prog 34 #[v, .int .i64 a, .slice (some ⟨vb, 0, none⟩) 1 1] w fun e w' => ∃ g c, e = .returned (.slice (some ⟨g, 0, none⟩) (l.length + 1) c) ∧ RowX oneE w' (.slice (some ⟨g, 0, none⟩) (l.length + 1) c) (l.take i ++ x :: l.drop i) ∧ w.grownBy w' v.ownBlock ∧ Owns w v (.slice (some ⟨g, 0, none⟩) (l.length + 1) c) := by
 subst ha
 refine (insert37 w v l.length i (oneE.all l) vb _ hR hi hn hvb rfl (oneE.one x) (fun h => hne (bl_mem.2 h))).mono ?_
 rintro E w' ⟨v', rfl, h1, h2, h3, h4⟩
 obtain ⟨g, c, rfl, _⟩ := row_slice h1 (by omega)
 have e1 := oneE.all_take l i
 have e2 := oneE.all_drop l i
 rw [show oneE.sz = 2 from rfl] at e1 e2
 have e3 : (#[.int .i64 x.1, .int .i64 x.2] : Array Value).toList = oneE.all [x] := rfl
 rw [e1, e2, e3, ← oneE.all_app, ← oneE.all_app] at h1
 have e4 : l.take i ++ [x] ++ l.drop i = l.take i ++ x :: l.drop i := by simp
 rw [e4] at h1
 exact ⟨g, c, rfl, RowX.of h1 (by simp; omega) rfl, h2, h3⟩
structure Kept (l cur : List One) (q : One → Bool) (i k : Nat) : Prop where
 len : cur.length = l.length
 kept : cur.take k = (l.take i).filter q
 k : k = ((l.take i).filter q).length
 rest : ∀ j, i ≤ j → cur[j]? = l[j]?
theorem Kept.lt {l cur : List One} {q : One → Bool} {i k : Nat} (h : Kept l cur q i k) (hi : i ≤ l.length) : k ≤ i := by
 rw [h.k]
 refine Nat.le_trans (List.length_filter_le _ _) ?_
 rw [List.length_take]
 omega
theorem Kept.skip {l cur : List One} {q : One → Bool} {i k : Nat} (h : Kept l cur q i k) {o : One} (ho : l[i]? = some o) (hq : q o = false) : Kept l cur q (i + 1) k := by
 have e : (l.take (i + 1)).filter q = (l.take i).filter q := by
   rw [List.take_add_one, ho, List.filter_append]
   simp [hq]
 exact ⟨h.len, by rw [e]; exact h.kept, by rw [e]; exact h.k, fun j hj => h.rest j (by omega)⟩
theorem Kept.keep {l cur : List One} {q : One → Bool} {i k : Nat} (h : Kept l cur q i k) {o : One} (ho : l[i]? = some o) (hq : q o = true) : Kept l (cur.set k o) q (i + 1) (k + 1) := by
 have hi := (List.getElem?_eq_some_iff.1 ho).1
 have hk := h.lt (by omega)
 have e : (l.take (i + 1)).filter q = (l.take i).filter q ++ [o] := by
   rw [List.take_add_one, ho, List.filter_append]
   simp [hq]
 refine ⟨by rw [List.length_set]; exact h.len, ?_, ?_, fun j hj => ?_⟩
 · have hkl : k < cur.length := by rw [h.len]; omega
   have h4 : (cur.set k o)[k]? = some o := by
     rw [List.getElem?_set_self hkl]
   rw [e, ← h.kept, List.take_add_one, h4, List.take_set_of_le (Nat.le_refl _)]
   rfl
 · rw [e, List.length_append, ← h.k]
   rfl
 · rw [List.getElem?_set_ne (by omega)]
   exact h.rest j (by omega)
set_option maxHeartbeats 4000000 in
theorem delf66 (w : World) (v : Value) (l : List One) (x : Int) (b : Nat) (hr : RowX oneE w v l) (hn : l.length < 1000000) (hc : Boxed w b 3 (.int .i64 x)) (hb : b ∉ bl v) :
   Calls Tryz.prog 77 #[v, .func (.func 76) #[] #[.pointer (some ⟨b, 0, none⟩)]] w fun E w' => ∃ v', E = .returned v' ∧ RowX oneE w' v' (l.filter fun o => o.1 != x) ∧ w.grownBy w' v.ownBlock ∧ v'.ownBlock = v.ownBlock := by
 obtain ⟨R, hR⟩ : ∃ R, (fun E w' => ∃ v', E = Ending.returned v' ∧ RowX oneE w' v' (l.filter fun o => o.1 != x) ∧ w.grownBy w' v.ownBlock ∧ v'.ownBlock = v.ownBlock) = R := ⟨_, rfl⟩
 have HR := Aside0.mk hR
 rw [hR]
 have hu66 := Tryz.underlying63
 have HX := Aside0.mk hr
 have HN := Aside0.mk hn
 have HC := Aside0.mk hc
 have hcall : Calls Tryz.prog 56 #[v, .func (.func 76) #[] #[.pointer (some ⟨b, 0, none⟩)]] w fun E w' => E = .returned (.int .i64 (idxI l (isT x))) ∧ Below w.heap.size w w' :=
   idx65 w v l _ (isT x) hr hn fun W o ho hbw => same65 W o.1 o.2 x _ (Boxed.cell (show Boxed W b 3 _ from (hbw.block _ hc.lt).trans hc))
 have HCALL := Aside0.mk hcall
 clear hR hr hn hc hcall
 cases hf : l.findIdx? (isT x) with
 | none =>
   have hj : idxI l (isT x) = -1 := by
     unfold idxI
     rw [hf]
   rw [hj] at HCALL
   have hfl : (l.filter fun o => o.1 != x) = l := by
     rw [List.filter_eq_self]
     intro o ho
     have := (List.findIdx?_eq_none_iff.1 hf) o ho
     unfold isT at this
     simpa using this
   have HFL := Aside0.mk hfl
   clear hj hfl hf
   go_enter Tryz.func77, Tryz.ntmps77
   go_wp2_with (go_at_call 56; refine HCALL.out.mono ?_; rintro E w2 ⟨rfl, hb2⟩; have HB := Aside0.mk hb2; clear hb2)
   rw [← HR.out]
   exact ⟨v, rfl, by rw [HFL.out]; exact HX.out.below HB.out, ⟨HB.out.os, HB.out.tape, HB.out.output, HB.out.size, fun k hk _ => HB.out.block k hk⟩, rfl⟩
 | some i0 =>
   obtain ⟨hi0, hp0, hlow⟩ := List.findIdx?_eq_some_iff_getElem.1 hf
   have hj : idxI l (isT x) = i0 := by
     unfold idxI
     rw [hf]
   rw [hj] at HCALL
   obtain ⟨n, hnn⟩ : ∃ n, l.length = n := ⟨_, rfl⟩
   obtain ⟨g, c, rfl, hnc⟩ := HX.out.fill (by omega)
   have hk0 : Kept l l (fun o => o.1 != x) (i0 + 1) i0 := by
     have e : (l.take i0).filter (fun o => o.1 != x) = l.take i0 := by
       rw [List.filter_eq_self]
       intro o ho
       obtain ⟨j, hj, rfl⟩ := List.getElem_of_mem ho
       have hj2 : j < i0 := by rw [List.length_take] at hj; omega
       have := hlow j hj2
       unfold isT at this
       rw [List.getElem_take]
       simpa using this
     have e1 : Kept l l (fun o => o.1 != x) i0 i0 := ⟨rfl, e.symm, by rw [e, List.length_take]; omega, fun j hj => rfl⟩
     refine e1.skip (List.getElem?_eq_getElem hi0) ?_
     unfold isT at hp0
     simpa using hp0
   have hst : St w (fun y => y ∈ fpc [rowOC (.slice (some ⟨g, 0, none⟩) l.length c) l, boxC b 3 (.int .i64 x)]) w [rowOC (.slice (some ⟨g, 0, none⟩) l.length c) l, boxC b 3 (.int .i64 x)] := by
     refine St.start (fun ch hch => ?_) (show ND (bl (.slice (some ⟨g, 0, none⟩) l.length c) ++ [b]) from nd_app.2 ⟨nd_bl _, nd_one b, fun y hy hy2 => ?_⟩)
     · rcases List.mem_cons.1 hch with rfl | hch
       · exact HX.out
       · rw [List.mem_singleton] at hch
         subst hch
         exact HC.out
     · rw [List.mem_singleton] at hy2
       subst hy2
       exact hb hy
   obtain ⟨F, hF⟩ : ∃ F, (fun y => y ∈ fpc [rowOC (.slice (some ⟨g, 0, none⟩) l.length c) l, boxC b 3 (.int .i64 x)]) = F := ⟨_, rfl⟩
   have HF := Aside0.mk hF
   rw [hF] at hst
   clear hF
   have HS := Aside0.mk hst
   have HK0 := Aside0.mk hk0
   have HI0 := Aside0.mk hi0
   have HB2 := Aside0.mk hb
   have hgb : g ≠ b := fun e => hb (by rw [bl_slice]; simp [e])
   have HGB := Aside0.mk hgb
   clear hst hk0 hf hp0 hlow hj hb hgb
   rw [hnn] at HF HS HX HR HCALL HI0 hnc ⊢
   have hi9 : i0 < n := HI0.out
   have hn9 : n < 1000000 := by rw [← hnn]; exact HN.out
   have HNN := Aside0.mk hnn
   clear hnn hi0
   go_enter Tryz.func77, Tryz.ntmps77
   go_wp2_with (go_at_call 56; refine HCALL.out.mono ?_; rintro E w2 ⟨rfl, hb2⟩; have HS2 := Aside0.mk (HS.out.below hb2); clear hb2 HS)
   go_loopg [5, 6] (n - (i0 + 1)) (fun gq v5 v6 wx => ∃ (i k : Nat) (cur : List One), v6 = .int .i64 i ∧ v5 = .int .i64 k ∧ i + gq = n ∧ k < i ∧ Aside0 (Kept l cur (fun o => o.1 != x) i k) ∧ Aside0 (St w F wx [rowOC (.slice (some ⟨g, 0, none⟩) n c) cur, boxC b 3 (.int .i64 x)]))
   case atStart => exact ⟨i0 + 1, i0, l, by go_num, rfl, by omega, by omega, HK0, HS2⟩
   case round =>
     obtain ⟨i, k, cur, rfl, rfl, hi, hki, HK, HSX⟩ := hrel
     cases gk with
     | zero =>
       obtain rfl : i = n := by omega
       have hrow := HSX.out.rowX 0 rfl
       have hcl0 : cur.length = i := HK.out.len.trans HNN.out
       have hfl : (l.filter fun o => o.1 != x) = cur.take k := by
         rw [HK.out.kept, List.take_of_length_le (by rw [HNN.out]; exact Nat.le_refl _)]
       have hFk := HK.out.k
       obtain ⟨i1, hi1, hz0, hzs, hzb⟩ := info_parts ins37_info
       have hR1 := hrow.2.1
       have hR0 := hrow.1
       rcases hrow.2.2 with ⟨hv, _⟩ | ⟨g', cap', C, hv, hg, hnc', hcm, hcs, htake⟩
       · simp at hv
       · simp at hv
         obtain ⟨rfl, hcl, rfl⟩ := hv
         rw [hcl0] at htake hnc'
         have hg66 : wr.heap[g]? = some (.cells C 63 (0, 0)) := hg
         have hcs2 : c * 2 ≤ C.size := hcs
         have htk : C.toList.take (i * 2) = oneE.all cur := htake
         obtain ⟨zs, hzs2⟩ : ∃ zs, (Builtin.zeroCells (.agg #[.int .i64 0, .int .i64 0] : Value).cells (i - k)).toList = zs := ⟨_, rfl⟩
         have hzl : zs.length = (i - k) * 2 := by rw [← hzs2]; simp [size_zeroCells, Value.cells]
         obtain ⟨W2, hW2⟩ : ∃ W2, wr.setRow g (splice C.toList (k * 2) zs).toArray = W2 := ⟨_, rfl⟩
         have hclr : ∀ ty, (Builtin.clear_ #[65] ty #[.slice (some ⟨g, k * 2, none⟩) (i - k) (c - k)]).run Tryz.prog wr = .ok (.tuple #[]) W2 := fun ty => by
           have := run_clear_row wr 65 ty 63 i1 _ Tryz.underlying65 hi1 hz0 (by simp [Value.cells, Value.oneCell']) g (k * 2) (i - k) (c - k) (by omega) C hg66 (by simp [Value.cells]; omega)
           rw [hzs2] at this
           rw [← hW2]
           exact this
         have hfin : RowX oneE W2 (.slice (some ⟨g, 0, none⟩) k c) (cur.take k) ∧ w.grownBy W2 (some g) := by
           have hl : (cur.take k).length = k := by rw [List.length_take, hcl0]; omega
           refine ⟨RowX.of (n := k) (xs := oneE.all (cur.take k)) ⟨by rw [oneE.all_len, hl], oneE.all_one _, .inr ⟨g, c, (splice C.toList (k * 2) zs).toArray, rfl, ?_, by omega, hcm, ?_, ?_⟩⟩ hl rfl, ?_⟩
           · rw [← hW2]
             exact setRow_heap wr g C _ 63 _ hg66
           · rw [List.size_toArray, splice_len (by rw [hzl]; simp; omega)]
             simpa using hcs
           · show (splice C.toList (k * 2) zs).take (k * 2) = _
             rw [splice_take _ (Nat.le_refl _) (by simp; omega), ← oneE.all_take cur k, ← htk, List.take_take, show oneE.sz = 2 from rfl, Nat.min_eq_left (by omega)]
           · have hkp := HSX.out.keep
             have hFg : ∀ y, F y → y = g ∨ y = b := fun y hy => by
               rw [← HF.out] at hy
               simpa [fpc, rowXC, boxC, bl_slice] using hy
             refine ⟨by rw [← hW2]; exact hkp.os, by rw [← hW2]; exact hkp.tape, by rw [← hW2]; exact hkp.output, by rw [← hW2]; simpa using hkp.size, fun y hy hne => ?_⟩
             have hyg : y ≠ g := fun e => hne (by rw [e])
             rw [← hW2, setRow_other _ _ _ _ hyg]
             by_cases hyb : y = b
             · subst hyb
               exact (HSX.out.box 1 rfl).trans HC.out.symm
             · exact hkp.block y hy fun hFy => by
                 rcases hFg y hFy with h | h
                 · exact hyg h
                 · exact hyb h
         have HFIN := Aside0.mk hfin
         have HFL := Aside0.mk hfl
         have hk0' : (0 : Int) ≤ (k : Int) := by omega
         have hkn : (k : Int) ≤ (i : Int) := by omega
         have hkc : ¬ (c = k) := by omega
         have hnk : k ≤ i := by omega
         have hkc2 : k ≤ c := by omega
         clear hfin hfl hcl hcl0 hzl hrow hR1 hR0 hg hg66 htake htk hcs hcs2 hFk hW2 hzs2
         go_wp2
         go_wp2_with (at_builtin; refine wpList_clear_run _ rfl _ 65 rfl _ rfl (hclr _) ?_)
         rw [← HR.out]
         exact ⟨_, rfl, by rw [HFL.out]; exact HFIN.out.1, HFIN.out.2, rfl⟩
     | succ gq =>
       have hin : i < n := by omega
       have hin2 : (i : Int) < (n : Int) := by omega
       have hii : (0 : Int) ≤ (i : Int) := by omega
       have hi99 : (i : Int) ≤ 1000000 := by omega
       have hk0' : (0 : Int) ≤ (k : Int) := by omega
       have hkn : (k : Int) < (n : Int) := by omega
       obtain ⟨o, ho⟩ : ∃ o, l[i]? = some o := ⟨_, List.getElem?_eq_getElem (by rw [HNN.out]; exact hin)⟩
       obtain ⟨o2, ho2⟩ : ∃ o, cur[k]? = some o := ⟨_, List.getElem?_eq_getElem (by rw [HK.out.len, HNN.out]; omega)⟩
       obtain ⟨d0, d1⟩ := (HSX.out.rowX 0 rfl).ones ((HK.out.rest i (Nat.le_refl _)).trans ho)
       have hgl : g < wr.heap.size := World.block_lt_of_cell? _ _ d0
       have HO := Aside0.mk ho
       have HO2 := Aside0.mk ho2
       clear ho ho2
       cases hpo : (o.1 == x) with
       | true =>
         have HPO := Aside0.mk hpo
         clear hpo
         go_wp2_with (go_at_call 76; refine (same65 _ o.1 o.2 x _ (Boxed.cell ((HSX.out.alloc #[.int .i64 o.1, .int .i64 o.2] 63 rfl).box 1 rfl))).mono ?_; rw [HPO.out]; rintro E w3 ⟨rfl, hb3⟩; have HS3 := Aside0.mk ((HSX.out.alloc #[.int .i64 o.1, .int .i64 o.2] 63 rfl).below hb3); clear hb3 d0 d1 hgl)
         go_roundg gq
         case measure => omega
         case rel => exact ⟨i + 1, k, cur, by go_num, rfl, by omega, by omega, Aside0.mk (HK.out.skip HO.out (by simp only [bne, HPO.out]; rfl)), Aside0.mk (St.left (A := [_, _]) HS3.out)⟩
       | false =>
         have HPO := Aside0.mk hpo
         clear hpo
         go_wp2_with (go_at_call 76; refine (same65 _ o.1 o.2 x _ (Boxed.cell ((HSX.out.alloc #[.int .i64 o.1, .int .i64 o.2] 63 rfl).box 1 rfl))).mono ?_; rw [HPO.out]; rintro E w3 ⟨rfl, hb3⟩; have hs3 := (HSX.out.alloc #[.int .i64 o.1, .int .i64 o.2] 63 rfl).below hb3; clear hb3 d0 d1 hgl; have t7 := hs3.blk 2 rfl; have t0 := cell_of_row w3 wr.heap.size 0 _ 63 (0, 0) t7; have t1 := cell_of_row w3 wr.heap.size 1 _ 63 (0, 0) t7; obtain ⟨d0, d1⟩ := (hs3.rowX 0 rfl).ones HO2.out; have hf0 := (hs3.rowX 0 rfl).frozen; have HS3 := Aside0.mk hs3; clear hs3 t7)
         go_roundg gq
         case measure => omega
         case rel => exact ⟨i + 1, k + 1, cur.set k o, by go_num, by go_num, by omega, by omega, Aside0.mk (HK.out.keep HO.out (by simp only [bne, HPO.out]; rfl)), Aside0.mk (St.left (A := [_, _]) (HS3.out.putX 0 rfl k o (by rw [HK.out.len, HNN.out]; omega)))⟩
end Go.Proofs.Kb
end
section
namespace Go.Proofs.Kb
open Go Go.RowKit Go.Proofs.YtkcjcdkmdooofaaGreat.Q Go.Proofs.YtkcjcdkmdooofaaGreatW.PrintWords Go.Proofs.YtkcjcdkmdooofaaGreatW.PrintLast Go.Proofs.YtkcjcdkmdooofaaGreatW.PrintMore
set_option maxRecDepth 100000
open Go.Proofs.Lk
section
variable {w0 w w' : World} {F : Nat → Prop} {cs R : List Chunk}
def cellC (p : Nat) (a b : Value) : Chunk := blkC p (.cells #[a, b] 67 (0, 0))
theorem St.cell64 {p : Nat} {a b : Value} (s : St w0 F w cs) (i : Nat) (hi : cs[i]? = some (cellC p a b)) : w.heap[p]? = some (.cells #[a, b] 67 (0, 0)) := s.get i hi
theorem St.cells64 {p : Nat} {a b : Value} (s : St w0 F w cs) (i : Nat) (hi : cs[i]? = some (cellC p a b)) : w.cell? ⟨p, 0, none⟩ = some a ∧ w.cell? ⟨p, 1, none⟩ = some b ∧ ∀ j, w.frozen? ⟨p, j, none⟩ = false := by
 have h := s.cell64 i hi
 exact ⟨by rw [cell_of_row w p 0 _ 67 (0, 0) h]; rfl, by rw [cell_of_row w p 1 _ 67 (0, 0) h]; rfl, fun j => frozen_of_row w p j _ _ h⟩
theorem St.put64a {p : Nat} {a b : Value} (s : St w0 F w cs) (i : Nat) (hi : cs[i]? = some (cellC p a b)) (v : Value) : St w0 F (w.setCell ⟨p, 0, none⟩ v) (cs.set i (cellC p v b)) :=
 s.upd i hi (cellC p v b) (keep_set w p 0 _ _ (by simp [cellC, blkC])) (blk_put (s.cell64 i hi) 0 v rfl) (nd_one p) (fun b hb => .inl hb)
theorem St.put64b {p : Nat} {a b : Value} (s : St w0 F w cs) (i : Nat) (hi : cs[i]? = some (cellC p a b)) (v : Value) : St w0 F (w.setCell ⟨p, 1, none⟩ v) (cs.set i (cellC p a v)) :=
 s.upd i hi (cellC p a v) (keep_set w p 1 _ _ (by simp [cellC, blkC])) (blk_put (s.cell64 i hi) 1 v rfl) (nd_one p) (fun b hb => .inl hb)
def row3 (p : Nat) (hv wv : Value) (r : LRow) : List Chunk := [cellC p hv wv, rowOC hv r.holds, rowOC wv r.waits]
theorem St.rowH {p : Nat} {hv wv : Value} {r : LRow} (s : St w0 F w (row3 p hv wv r ++ R)) : RowH w p hv wv r := ⟨s.get 0 rfl, s.get 1 rfl, s.get 2 rfl⟩
end
def RowPost (w : World) (F : Nat → Prop) (p : Nat) (r : LRow) (E0 E : Ending) (w' : World) : Prop := E = E0 ∧ ∃ hv wv, St w F w' (row3 p hv wv r)
theorem bl_not {w0 w : World} {F : Nat → Prop} {cs : List Chunk} (s : St w0 F w cs) (i j : Nat) {v : Value} {l : List One} {b : Nat} {t : TypeId} {u : Value} (hij : j ≠ i) (hi : cs[i]? = some (rowOC v l)) (hj : cs[j]? = some (boxC b t u)) : b ∉ bl v :=
 s.apart j i hij hj hi b (by simp [boxC])
set_option maxHeartbeats 4000000 in
theorem drop_calls (w : World) (p : Nat) (hv wv : Value) (r : LRow) (x : Int) (F : Nat → Prop) (s : St w F w (row3 p hv wv r)) (hn : r.holds.length < 1000000) (hn2 : r.waits.length < 1000000) :
   Calls Tryz.prog 51 #[ptr p, .int .i64 x] w (RowPost w F p (dropR r x) (.returned (.tuple #[]))) := by
 obtain ⟨R, hR⟩ : ∃ R, RowPost w F p (dropR r x) (.returned (.tuple #[])) = R := ⟨_, rfl⟩
 have HR := Aside0.mk hR
 rw [hR]
 have hu64 := Tryz.underlying67
 obtain ⟨Ah, ch, rfl⟩ := (s.rowX 1 rfl).form
 obtain ⟨Aw, cw, rfl⟩ := (s.rowX 2 rfl).form
 obtain ⟨nh, hnh⟩ : ∃ n, r.holds.length = n := ⟨_, rfl⟩
 obtain ⟨nw, hnw⟩ : ∃ n, r.waits.length = n := ⟨_, rfl⟩
 obtain ⟨c0, c1, cf⟩ := s.cells64 0 rfl
 have hlt := World.block_lt_of_cell? w _ c0
 have HN := Aside0.mk hn
 have HN2 := Aside0.mk hn2
 have HS := Aside0.mk s
 rw [hnh, hnw] at HS
 rw [hnh] at c0
 rw [hnw] at c1
 have HNH := Aside0.mk hnh
 have HNW := Aside0.mk hnw
 clear hR s hn hn2 hnh hnw
 obtain ⟨n0, hn0⟩ : ∃ n, w.heap.size = n := ⟨_, rfl⟩
 have hs1 : St w F (w.alloc (.cells #[.int .i64 x] 3)) (row3 p (.slice Ah nh ch) (.slice Aw nw cw) r ++ [boxC n0 3 (.int .i64 x)]) := HS.out.boxed 3 (.int .i64 x) hn0
 have HS1 := Aside0.mk hs1
 have HN0 := Aside0.mk hn0
 clear hs1 hn0
 have arm1 : Calls Tryz.prog 77 #[.slice Ah nh ch, .func (.func 76) #[] #[.pointer (some ⟨w.heap.size, 0, none⟩)]] (w.alloc (.cells #[.int .i64 x] 3)) fun E w' => ∃ A n c, E = .returned (.slice A n c) ∧ St w F w' [cellC p (.slice Ah nh ch) (.slice Aw nw cw), rowOC (.slice A n c) (r.holds.filter fun o => o.1 != x), rowOC (.slice Aw nw cw) r.waits, boxC n0 3 (.int .i64 x)] := by
   rw [HN0.out]
   refine (delf66 _ _ r.holds x n0 (HS1.out.rowX 1 rfl) HN.out (HS1.out.box 3 rfl) (bl_not HS1.out 1 3 (by decide) rfl rfl)).mono ?_
   rintro E w' ⟨v', rfl, h1, h2, h3⟩
   obtain ⟨A, c, rfl⟩ := h1.form
   exact ⟨A, _, c, rfl, HS1.out.rowTo 1 rfl h1 h2 (.inl h3)⟩
 have arm2 : ∀ W A n c, St w F W [cellC p (.slice A n c) (.slice Aw nw cw), rowOC (.slice A n c) (r.holds.filter fun o => o.1 != x), rowOC (.slice Aw nw cw) r.waits, boxC n0 3 (.int .i64 x)] → Calls Tryz.prog 77 #[.slice Aw nw cw, .func (.func 76) #[] #[.pointer (some ⟨w.heap.size, 0, none⟩)]] W fun E w' => ∃ A2 n2 c2, E = .returned (.slice A2 n2 c2) ∧ St w F w' [cellC p (.slice A n c) (.slice Aw nw cw), rowOC (.slice A n c) (r.holds.filter fun o => o.1 != x), rowOC (.slice A2 n2 c2) (r.waits.filter fun o => o.1 != x), boxC n0 3 (.int .i64 x)] := fun W A n c s => by
   rw [HN0.out]
   refine (delf66 _ _ r.waits x n0 (s.rowX 2 rfl) HN2.out (s.box 3 rfl) (bl_not s 2 3 (by decide) rfl rfl)).mono ?_
   rintro E w' ⟨v', rfl, h1, h2, h3⟩
   obtain ⟨A, c, rfl⟩ := h1.form
   exact ⟨A, _, c, rfl, s.rowTo 2 rfl h1 h2 (.inl h3)⟩
 have G1 : True := trivial
 have A1 := Aside0.mk arm1
 have A2 := Aside0.mk arm2
 clear arm1 arm2
 unfold ptr
 go_enter Tryz.func51, Tryz.ntmps51
 go_wp2_with (first | (clear G1; go_at_call 77; refine A1.out.mono ?_; rintro E w2 ⟨A, n, c, rfl, s2⟩; have HS2 := Aside0.mk s2; obtain ⟨d0, d1, df⟩ := s2.cells64 0 rfl; clear s2 c0 c1 cf) | (go_at_call 77; have s3 := HS2.out.put64a 0 rfl (.slice A n c); refine (A2.out _ A n c s3).mono ?_; rintro E w4 ⟨Aa, na, ca, rfl, s4⟩; have HS4 := Aside0.mk s4; obtain ⟨e0, e1, ef⟩ := s4.cells64 0 rfl; clear s3 s4 d0 d1 df))
 go_end0
 rw [← HR.out]
 exact ⟨rfl, _, _, St.left (A := [_, _, _]) (HS4.out.put64b 0 rfl _)⟩
end Go.Proofs.Kb
end
section
namespace Go.Proofs.Kb
open Go Go.RowKit Go.Proofs.YtkcjcdkmdooofaaGreat.Q Go.Proofs.YtkcjcdkmdooofaaGreatW.PrintWords Go.Proofs.YtkcjcdkmdooofaaGreatW.PrintLast Go.Proofs.YtkcjcdkmdooofaaGreatW.PrintMore
set_option maxRecDepth 100000
open Go.Proofs.Lk
theorem give_set {l : List One} {o : One} {i : Nat} (hn : (l.map (·.1)).Nodup) (h : l.findIdx? (isT o.1) = some i) : Lk.give l o = l.set i o := by
 obtain ⟨hi, hp, hlow⟩ := List.findIdx?_eq_some_iff_getElem.1 h
 have hh : has l o.1 = true := List.any_eq_true.2 ⟨l[i], List.getElem_mem hi, hp⟩
 unfold Lk.give
 rw [if_pos hh]
 apply List.ext_getElem
 · simp
 · intro j h1 h2
   simp only [List.length_map] at h1
   rw [List.getElem_map, List.getElem_set]
   by_cases e : i = j
   · subst e
     rw [if_pos rfl]
     have : (l[i].1 == o.1) = true := hp
     rw [if_pos this]
   · rw [if_neg e]
     have : ¬ (l[j].1 == o.1) = true := fun h3 => by
       have e1 : l[j].1 = l[i].1 := by
         rw [eq_of_beq h3, eq_of_beq (show (l[i].1 == o.1) = true from hp)]
       have e2 : (l.map (·.1))[j]'(by simpa using h1) = (l.map (·.1))[i]'(by simpa using hi) := by simpa using e1
       rcases Nat.lt_or_ge i j with h4 | h4
       · exact List.pairwise_iff_getElem.1 hn i j (by simpa using hi) (by simpa using h1) h4 e2.symm
       · exact List.pairwise_iff_getElem.1 hn j i (by simpa using h1) (by simpa using hi) (by omega) e2
     rw [if_neg this]
theorem give_app {l : List One} {o : One} (h : l.findIdx? (isT o.1) = none) : Lk.give l o = l ++ [o] := by
 have hh : has l o.1 = false := by
   rw [List.findIdx?_eq_none_iff] at h
   unfold has
   rw [List.any_eq_false]
   intro x hx
   have := h x hx
   unfold isT at this
   simpa using this
 unfold Lk.give
 rw [if_neg (by rw [hh]; simp)]
set_option maxHeartbeats 4000000 in
theorem give_calls (w : World) (p : Nat) (hv wv : Value) (r : LRow) (o : One) (F : Nat → Prop) (s : St w F w (row3 p hv wv r)) (hn : r.holds.length < 999999) (hnd : (r.holds.map (·.1)).Nodup) :
   Calls Tryz.prog 35 #[ptr p, oneV o] w (RowPost w F p ⟨Lk.give r.holds o, r.waits⟩ (.returned (.tuple #[]))) := by
 obtain ⟨R, hR⟩ : ∃ R, RowPost w F p ⟨Lk.give r.holds o, r.waits⟩ (.returned (.tuple #[])) = R := ⟨_, rfl⟩
 have HR := Aside0.mk hR
 rw [hR]
 have hu64 := Tryz.underlying67
 have hu66 := Tryz.underlying63
 have hz66 := Tryz.sizeOf63
 have hu62 := Tryz.underlying65
 obtain ⟨n0, hn0⟩ : ∃ n, w.heap.size = n := ⟨_, rfl⟩
 obtain ⟨x, m⟩ := o
 have hs0 := s.alloc #[.int .i64 x, .int .i64 m] 63 hn0
 obtain ⟨W0, hW0⟩ : ∃ W0, w.alloc (.cells #[.int .i64 x, .int .i64 m] 63) = W0 := ⟨_, rfl⟩
 rw [hW0] at hs0
 have HS0 := Aside0.mk hs0
 have HN := Aside0.mk hn
 have HND := Aside0.mk hnd
 clear hR s hn hnd hs0
 cases hf : r.holds.findIdx? (isT x) with
 | some i =>
   obtain ⟨hi, hp, hlow⟩ := List.findIdx?_eq_some_iff_getElem.1 hf
   have hj : idxI r.holds (isT x) = i := by unfold idxI; rw [hf]
   obtain ⟨g, c, rfl, hnc⟩ := (HS0.out.rowX 1 rfl).fill (by omega)
   obtain ⟨n, hnn⟩ : ∃ n, r.holds.length = n := ⟨_, rfl⟩
   rw [hnn] at HS0 hnc hi
   have HNN := Aside0.mk hnn
   have A33 := Aside0.mk (fun W (h : RowH W p (.slice (some ⟨g, 0, none⟩) n c) wv r) => hold_calls W p _ wv r x h (by have := HN.out; omega))
   rw [hj] at A33
   have HG := Aside0.mk (give_set (o := (x, m)) HND.out hf)
   have hi0 : (0 : Int) ≤ (i : Int) := by omega
   have hi1 : (i : Int) < (n : Int) := by omega
   clear hf hp hlow hj hnn
   unfold ptr oneV
   show Calls Tryz.prog 35 #[.pointer (some ⟨p, 0, none⟩), .agg #[.int .i64 x, .int .i64 m]] w R
   unfold ptr at A33
   go_enter Tryz.func35, Tryz.ntmps35
   have c0 := HS0.out.blk 3 rfl
   have c1 := blk_cell c0 0
   have c2 := blk_cell c0 1
   clear c0
   go_wp2_with (go_at_call 29; refine (A33.out _ (St.rowH HS0.out)).mono ?_; rintro E w2 ⟨rfl, hb⟩; have HS := Aside0.mk (HS0.out.below hb); clear hb HS0 c1 c2)
   refine start_ (n := 8) (S := fun w' => w'.cell? ⟨p, 0, none⟩ = some (.slice (some ⟨g, 0, none⟩) n c) ∧ w'.cell? ⟨n0, 0, none⟩ = some (.int .i64 x) ∧ w'.cell? ⟨n0, 1, none⟩ = some (.int .i64 m)) (ds := [7]) #[false, false, false, false, false, false, false, false] (by kernel_rfl) rfl rfl ⟨(HS.out.cells64 0 rfl).1, (blk_cell (HS.out.blk 3 rfl) 0).trans rfl, (blk_cell (HS.out.blk 3 rfl) 1).trans rfl⟩ (fun hHeld => ?_)
   have HS1 := Aside0.mk (HS.out.drew)
   clear HS
   generalize w2.drew = w3 at HS1 hHeld  ⊢
   refine pu_ 0 11 (bs_ 8 1) ?_; refine pu_ 1 12 (bs_ 8 3) ?_; refine pu_ 2 13 (bs_ 8 7) ?_; refine pu_ 4 15 (bs_ 8 23) ?_; refine ta_ 3 14 (bs_ 8 31) hHeld ?_; refine ta_ 5 16 (bs_ 8 63) hHeld ?_; refine pu_ 6 17 (bs_ 8 127) ?_
   refine last_ (i := 7) (N := none) (bs_ 8 255) rfl rfl (by kernel_rfl) (by decide) (fun K_ hK => ?_)
   have c_0 := (HS1.out.rowX 1 rfl).ones (List.getElem?_eq_getElem (show i < r.holds.length by rw [HNN.out]; exact hi))
   obtain ⟨d_0, d_1⟩ := c_0
   have c_1 := (HS1.out.rowX 1 rfl).frozen (i * 2)
   have c_2 := (HS1.out.rowX 1 rfl).frozen (i * 2 + 1)
   refine skip_ (w1 := ?_) (by rfl) rfl ?_ ?_
   rotate_left
   · go_simp
     rfl
   refine hK.out _ _ ?_
   clear hK K_ hHeld d_0 d_1 c_1 c_2
   refine done_ (by kernel_rfl) ?_
   have HS2 := Aside0.mk (show St w F ((w3.setCell ⟨g, i * 2, none⟩ (.int .i64 x)).setCell ⟨g, i * 2 + 1, none⟩ (.int .i64 m)) [cellC p (.slice (some ⟨g, 0, none⟩) n c) wv, rowOC (.slice (some ⟨g, 0, none⟩) n c) (r.holds.set i (x, m)), rowOC wv r.waits, blkC n0 _] from HS1.out.putX 1 rfl i (x, m) (by rw [HNN.out]; exact hi))
   clear HS1
   generalize ((w3.setCell ⟨g, i * 2, none⟩ (.int .i64 x)).setCell ⟨g, i * 2 + 1, none⟩ (.int .i64 m)) = w4 at HS2 ⊢
   go_end0
   rw [← HR.out]
   rw [show (Lk.give r.holds (x, m)) = r.holds.set i (x, m) from HG.out]
   refine ⟨rfl, .slice (some ⟨g, 0, none⟩) n c, wv, ?_⟩
   exact St.left (A := [_, _, _]) HS2.out
 | none =>
   have hj : idxI r.holds (isT x) = -1 := by unfold idxI; rw [hf]
   obtain ⟨A, c, rfl⟩ := (HS0.out.rowX 1 rfl).form
   obtain ⟨n, hnn⟩ : ∃ n, r.holds.length = n := ⟨_, rfl⟩
   rw [hnn] at HS0
   have HNN := Aside0.mk hnn
   have A33 := Aside0.mk (fun W (h : RowH W p (.slice A n c) wv r) => hold_calls W p _ wv r x h (by have := HN.out; omega))
   rw [hj] at A33
   have HG := Aside0.mk (give_app (o := (x, m)) hf)
   clear hf hj hnn
   unfold ptr oneV
   show Calls Tryz.prog 35 #[.pointer (some ⟨p, 0, none⟩), .agg #[.int .i64 x, .int .i64 m]] w R
   unfold ptr at A33
   go_enter Tryz.func35, Tryz.ntmps35
   have c0 := HS0.out.blk 3 rfl
   have c1 := blk_cell c0 0
   have c2 := blk_cell c0 1
   clear c0
   go_wp2_with (go_at_call 29; refine (A33.out _ (St.rowH HS0.out)).mono ?_; rintro E w2 ⟨rfl, hb⟩; have HS := Aside0.mk (HS0.out.below hb); clear hb HS0 c1 c2)
   refine start_ (n := 11) (S := fun w' => w'.cell? ⟨p, 0, none⟩ = some (.slice A n c) ∧ w'.cell? ⟨n0, 0, none⟩ = some (.int .i64 x) ∧ w'.cell? ⟨n0, 1, none⟩ = some (.int .i64 m)) (ds := [10]) #[false, false, false, false, false, false, false, false, false, false, false] (by kernel_rfl) rfl rfl ⟨(HS.out.cells64 0 rfl).1, (blk_cell (HS.out.blk 3 rfl) 0).trans rfl, (blk_cell (HS.out.blk 3 rfl) 1).trans rfl⟩ (fun hHeld => ?_)
   have HS1 := Aside0.mk (HS.out.drew)
   clear HS
   generalize w2.drew = w3 at HS1 hHeld  ⊢
   refine pu_ 0 18 (bs_ 11 1) ?_; refine pu_ 1 19 (bs_ 11 3) ?_; refine pu_ 2 20 (bs_ 11 7) ?_; refine pu_ 3 21 (bs_ 11 15) ?_; refine ta_ 4 22 (bs_ 11 31) hHeld ?_; refine ta_ 5 23 (bs_ 11 63) hHeld ?_
   refine one_ (i := 6) (N := (some 24)) (bs_ 11 127) rfl rfl (by kernel_rfl) (by decide) (fun K_ hK => ?_)
   obtain ⟨vb, hvb⟩ : ∃ v : Nat, w3.heap.size = v := ⟨_, rfl⟩
   refine made_ (v := .slice (some ⟨w3.heap.size, 0, none⟩) 1 1) (w1 := w3.alloc (.cells #[.int .i64 x, .int .i64 m] 63)) (by rfl) rfl (by go_simp) ?_
   have HS2 := Aside0.mk (HS1.out.alloc #[.int .i64 x, .int .i64 m] 63 hvb)
   clear HS1
   rw [hvb]
   clear hvb
   clear hHeld
   refine hK.out _ _ ⟨(HS2.out.cells64 0 rfl).1, (blk_cell (HS2.out.blk 3 rfl) 0).trans rfl, (blk_cell (HS2.out.blk 3 rfl) 1).trans rfl⟩ (fun hHeld => ?_)
   clear hK K_
   generalize w3.alloc (.cells #[.int .i64 x, .int .i64 m] 63) = w4 at HS2 hHeld  ⊢
   refine norm_ (a' := ?_) ?_ ?_
   rotate_left
   · show Act.put _ (some 24) _ = _
     simp only [Act.put, List.setIfInBounds_toArray, List.set_cons_zero, List.set_cons_succ, i64_w, i32_w]
     rfl
   refine one_ (i := 7) (N := (some 25)) (bs_ 11 255) rfl rfl (by kernel_rfl) (by decide) (fun K_ hK => ?_)
   obtain ⟨g_, c_, w5, hrun, hrow, hgrow, hown⟩ := appendX oneI (l := r.holds) (v := .slice A n c) (x, m) vb _ _ (HS2.out.rowX 1 rfl) (HS2.out.blk 4 rfl) rfl HN.out
   refine appended_ (.tmp 22) (.tmp 24) 65 65 (by rfl) rfl rfl (.slice A n c) (.slice (some ⟨vb, 0, none⟩) 1 1) (by rfl) (by rfl) hrun ?_
   clear hrun
   have HS3 := Aside0.mk (HS2.out.rowTo 1 rfl hrow hgrow hown)
   clear HS2
   clear hrow hgrow hown
   clear hHeld
   refine hK.out _ _ ⟨(HS3.out.cells64 0 rfl).1, (blk_cell (HS3.out.blk 3 rfl) 0).trans rfl, (blk_cell (HS3.out.blk 3 rfl) 1).trans rfl⟩ (fun hHeld => ?_)
   clear hK K_
   refine norm_ (a' := ?_) ?_ ?_
   rotate_left
   · show Act.put _ (some 25) _ = _
     simp only [Act.put, List.setIfInBounds_toArray, List.set_cons_zero, List.set_cons_succ, i64_w, i32_w]
     rfl
   refine pu_ 8 26 (bs_ 11 511) ?_; refine pu_ 9 27 (bs_ 11 1023) ?_
   refine last_ (i := 10) (N := none) (bs_ 11 2047) rfl rfl (by kernel_rfl) (by decide) (fun K_ hK => ?_)
   have c_0 := (HS3.out.cells64 0 rfl).1
   have c_1 := (HS3.out.cells64 0 rfl).2.2
   refine skip_ (w1 := ?_) (by rfl) rfl ?_ ?_
   rotate_left
   · go_simp
     rfl
   refine hK.out _ _ ?_
   clear hK K_ hHeld c_0 c_1
   refine done_ (by kernel_rfl) ?_
   have HS4 := Aside0.mk (HS3.out.put64a 0 rfl (.slice (some ⟨g_, 0, none⟩) (r.holds.length + 1) c_))
   clear HS3
   generalize w5.setCell ⟨p, 0, none⟩ (.slice (some ⟨g_, 0, none⟩) (r.holds.length + 1) c_) = w6 at HS4 ⊢
   go_end0
   rw [← HR.out]
   rw [show (Lk.give r.holds (x, m)) = r.holds ++ [(x, m)] from HG.out]
   refine ⟨rfl, .slice (some ⟨g_, 0, none⟩) (r.holds.length + 1) c_, wv, ?_⟩
   exact St.left (A := [_, _, _]) HS4.out
end Go.Proofs.Kb
end
section
namespace Go.Proofs.Kb
open Go Go.RowKit Go.Proofs.YtkcjcdkmdooofaaGreat.Q Go.Proofs.YtkcjcdkmdooofaaGreatW.PrintWords Go.Proofs.YtkcjcdkmdooofaaGreatW.PrintLast Go.Proofs.YtkcjcdkmdooofaaGreatW.PrintMore
theorem run_append_zeros_nil {P : Program} (w : World) (t tn ty e : TypeId) (i : TypeInfo) (z : Value) (k : IntKind) (ht : P.underlying t = some (.slice e)) (htn : P.underlying tn = some (.int k)) (hi : P.info? e = some i) (hz : i.zero = some z)
   (n : Nat) (hs : 0 < i.size) (h0 : 0 < n) (h63 : n ≤ 9223372036854775807) (h48 : n * i.bytes ≤ 281474976710656) (hfit : Builtin.nextslicecap n 0 * i.bytes ≤ 281474976710656) :
   (Builtin.append_ #[t, tn] ty #[.slice none 0 0, .int k n]).run P w =
     .ok (.slice (some ⟨w.heap.size, 0, none⟩) n (grownCap w n 0 e))
       (w.drew.alloc (.cells (Builtin.zeroCells z.cells n ++ Builtin.zeroCells z.cells (grownCap w n 0 e - n)) e)) := by
 have hw : IntKind.i64.wrap (n : Int) = n := by rw [IntKind.wrap_i64]; omega
 have h63' : ¬ (9223372036854775807 < ((n : Int))) := by omega
 have h48' : ¬ (281474976710656 < Builtin.nextslicecap n 0 * i.bytes) := by omega
 have h48i : ¬ (281474976710656 < (n : Int) * (i.bytes : Int)) := by
   rw [← Int.natCast_mul]
   omega
 have hneg : ¬ ((n : Int) < 0) := by omega
 have hn0 : n ≠ 0 := by omega
 have hns : ¬ (n * i.size = 0) := Nat.mul_ne_zero hn0 (by omega)
 simp [Builtin.append_, run_underlying ht, run_underlying htn, sizeOf, typeInfo, zeroValue, hi, hz, asInt, asIntOf, hw, hn0, hneg, hns, h63', h48', h48i, Question.forced, Builtin.firstCells, loadCells, loadCellsFrom, newRow, grownCap]
theorem wpList_append_run {P : Program} {ops : Array Oper} {rest : List Oper} {o : Oper} {a : Act} {w : World} {Q : Exit → Act → World → Prop} (hgd : o.guard = none) (d x : Operand) (dT sT : TypeId)
   (hop : o.op = Op.call { callee := Callee.builtin Builtin.append, args := #[d, x], argTypes := #[dT, sT] }) (v u : Value) (hd : a.eval d = v) (hx : a.eval x = u) {v' : Value} {w' : World} (hr : (Builtin.append_ #[dT, sT] o.type #[v, u]).run P w = .ok v' w')
   (h : wpList P ops Q rest (a.put o.dst v') w') : wpList P ops Q (o :: rest) a w :=
 wpList_plain hgd fun _ hK => by
   unfold Oper.wp
   simp [execOp, hop, resolve, invoke, builtin, hd, hx, hr, Result.andThen]
   exact hK _ _ h
theorem update_ {P : Program} {ops : Array Oper} {Q : Exit → Act → World → Prop} {oi : Oper} {a : Act} {w w' : World} {K : Act → World → Prop} (m x v : Operand) (t : TypeId) (hw : Region.wanted oi (yielded ops a.tmps) = true) (hN : oi.dst = none)
   (hop : oi.op = Op.mapUpdate t m x v) (mv key val : Value) (hm : a.eval m = mv) (hx : a.eval x = key) (hv : a.eval v = val) (hrun : (Instr.mapUpdate t mv key val).run P w = .ok () w')
   (h : K a w') : if Region.wanted oi (yielded ops a.tmps) = true then Oper.wp P oi a w K Q else K (a.put none undef) w := by
 rw [if_pos hw]
 unfold Oper.wp
 simp [execOp, hop, hm, hx, hv, hrun, Result.andThen]
 show K (a.put oi.dst undef) w'
 rw [hN]
 exact h
theorem delete_ {P : Program} {ops : Array Oper} {Q : Exit → Act → World → Prop} {oi : Oper} {a : Act} {w w' : World} {K : Act → World → Prop} {N : Option Tmp} (d x : Operand) (dT sT : TypeId) (hw : Region.wanted oi (yielded ops a.tmps) = true) (hN : oi.dst = N)
   (hop : oi.op = Op.call { callee := Callee.builtin Builtin.delete, args := #[d, x], argTypes := #[dT, sT] }) (v u : Value) (hd : a.eval d = v) (hx : a.eval x = u) {v' : Value} (hr : (Builtin.delete_ #[dT, sT] oi.type #[v, u]).run P w = .ok v' w')
   (h : K (a.put N v') w') : if Region.wanted oi (yielded ops a.tmps) = true then Oper.wp P oi a w K Q else K (a.put N undef) w := by
 rw [if_pos hw]
 subst hN
 unfold Oper.wp
 simp [execOp, hop, resolve, invoke, builtin, hd, hx, hr, Result.andThen]
 exact h
section
variable {α : Type} {E : EncT α} {P : Program} {t : TypeId} {w w' w0 : World} {v u : Value} {l l' : List α} {F : Nat → Prop} {cs : List Chunk}
theorem appendX_none (I : InfoX P E t) (ty : TypeId) (hR : RowX E w v l) : (Builtin.append_ #[t, t] ty #[v, .slice none 0 0]).run P w = .ok v w := by
 have hi := I.info
 rcases hR.2.2 with ⟨rfl, h0⟩ | ⟨g, cap, cur, rfl, hg, hnc, hcm, hcs, htake⟩
 · simp [Builtin.append_, run_underlying I.under, sizeOf, typeInfo, hi, Builtin.lenOf, Builtin.firstCells, loadCells, loadCellsFrom]
 · simp [Builtin.append_, run_underlying I.under, sizeOf, typeInfo, hi, Builtin.lenOf, Builtin.firstCells, loadCells, loadCellsFrom, hnc, storeCells]
theorem appendsXX (I : InfoX P E t) (ty : TypeId) (hR : RowX E w v l) (hu : RowX E w u l') (hn : l.length + l'.length < 1000000) :
   ∃ v' w', (Builtin.append_ #[t, t] ty #[v, u]).run P w = .ok v' w' ∧ RowX E w' v' (l ++ l') ∧ w.grownBy w' v.ownBlock ∧ Owns w v v' := by
 rcases hu.2.2 with ⟨rfl, h0⟩ | ⟨g, c, cur, rfl, _⟩
 · have : l' = [] := List.length_eq_zero_iff.1 h0
   subst this
   exact ⟨v, w, appendX_none I ty hR, by rw [List.append_nil]; exact hR, ⟨rfl, rfl, rfl, Nat.le_refl _, fun _ _ _ => rfl⟩, .inl rfl⟩
 · obtain ⟨v', w', h1, h2, h3, h4⟩ := run_append_R (P := P) w t ty E.ty I.i _ E.sz I.bytes I.under I.info I.zero I.size I.bt I.zsz I.pos I.small v l.length (E.all l) hR ⟨g, 0, none⟩ l'.length c (E.all l') (E.all_len l') (row_cells hu) (E.all_one l') (by omega)
   exact ⟨v', w', h1, RowX.of h2 (by simp) (by rw [E.all_app]), h3, h4⟩
theorem RowX.cut {g n cap : Nat} (h : RowX E w (.slice (some ⟨g, 0, none⟩) n cap) l) (k c : Nat) (hk : k ≤ l.length) (hkc : k ≤ c) (hc : c ≤ cap) : RowX E w (.slice (some ⟨g, 0, none⟩) k c) (l.take k) := by
 have hn : n = l.length := by
   rcases h.2.2 with ⟨hv, _⟩ | ⟨g', cap', cur, hv, _⟩
   · simp at hv
   · simp at hv
     exact hv.2.1
 subst hn
 exact RowX.of (Row.cut h k c hk hkc hc) (by rw [List.length_take]; omega) (E.all_take l k)
theorem grow_nil (I : InfoX P E t) (tn ty : TypeId) (k : IntKind) (htn : P.underlying tn = some (.int k)) (w : World) (n : Nat) (h0 : 0 < n) (hn : n < 1000000) :
   ∃ c w', (Builtin.append_ #[t, tn] ty #[.slice none 0 0, .int k n]).run P w = .ok (.slice (some ⟨w.heap.size, 0, none⟩) n c) w' ∧ Below w.heap.size w w' ∧ RowX E w' (.slice (some ⟨w.heap.size, 0, none⟩) 0 c) [] ∧ n ≤ c := by
 have hz := I.zsz
 have hs := I.size
 have hb := I.bt
 have hsm := I.small
 have hfit : Builtin.nextslicecap n 0 * I.i.bytes ≤ 281474976710656 := growslice_fits (by omega) (by
   have : n * I.i.bytes ≤ 1000000 * 64 := Nat.mul_le_mul (by omega) (by omega)
   omega)
 have hrun := run_append_zeros_nil (P := P) w t tn ty E.ty I.i I.z k I.under htn I.info I.zero n (by rw [hs]; exact I.pos) h0 (by omega) (by
   have : n * I.i.bytes ≤ 1000000 * 64 := Nat.mul_le_mul (by omega) (by omega)
   omega) hfit
 obtain ⟨c, hc⟩ : ∃ c, grownCap w n 0 E.ty = c := ⟨_, rfl⟩
 have hnc : n ≤ c := hc ▸ grownCap_ge w n 0 E.ty
 have hcm : c ≤ maxLen := hc ▸ grownCap_le_maxLen w n 0 E.ty (by simp only [maxLen]; omega)
 rw [hc] at hrun
 refine ⟨c, _, hrun, ⟨rfl, rfl, rfl, by simp, fun k hk => heap_alloc_old w.drew _ hk⟩, ⟨by simp [EncT.all], by simp [EncT.all], .inr ⟨_, c, _, rfl, heap_alloc_new w.drew _, Nat.zero_le _, hcm, ?_, by simp [EncT.all]⟩⟩, hnc⟩
 rw [Array.size_append, size_zeroCells, size_zeroCells, hz, ← Nat.add_mul]
 exact Nat.mul_le_mul (by omega) (Nat.le_refl _)
end
end Go.Proofs.Kb
end
section
namespace Go.Proofs.Kb
open Go Go.RowKit Go.Proofs.YtkcjcdkmdooofaaGreat.Q Go.Proofs.YtkcjcdkmdooofaaGreatW.PrintWords Go.Proofs.YtkcjcdkmdooofaaGreatW.PrintLast Go.Proofs.YtkcjcdkmdooofaaGreatW.PrintMore
set_option maxRecDepth 100000
open Go.Proofs.Lk
set_option maxHeartbeats 2000000 in
theorem grow_calls (w : World) (n : Nat) (hn : n < 1000000) (m : Int) (hm : m = n) : Calls Tryz.prog 81 #[.slice none 0 0, .int .i64 m] w fun E w' => ∃ A c, E = .returned (.slice A 0 c) ∧ St w NoF w' [rowOC (.slice A 0 c) []] := by
 obtain ⟨R, hR⟩ : ∃ R, (fun E w' => ∃ A c, E = Ending.returned (.slice A 0 c) ∧ St w NoF w' [rowOC (.slice A 0 c) []]) = R := ⟨_, rfl⟩
 subst hm
 have HR := Aside0.mk hR
 rw [hR]
 have hu62 := Tryz.underlying65
 have hn0 : ¬ (n : Int) < 0 := by omega
 have hw : IntKind.i64.wrap (n : Int) = (n : Int) := by rw [IntKind.wrap_i64]; omega
 clear hR
 by_cases h0 : n = 0
 · subst h0
   go_enter Tryz.func81, Tryz.ntmps81
   go_wp2
   rw [← HR.out]
   exact ⟨none, 0, rfl, (St.nil0 w NoF).fresh (Below.refl _ w) (rowOC (.slice none 0 0) []) (RowX.nil) (nd_bl (.slice none 0 0)) (fun b hb => by simp [rowXC, bl] at hb; cases hb)⟩
 · have hpos : (0 : Int) < (n : Int) := by omega
   obtain ⟨c, w2, hrun, hb, hrow, hnc⟩ := grow_nil oneI 3 65 .i64 Tryz.underlying3 w n (by omega) hn
   have HRUN := Aside0.mk hrun
   have HB := Aside0.mk hb
   have HROW := Aside0.mk hrow
   have hnc2 : ¬ c < 0 := by omega
   clear hrun hb hrow
   go_enter Tryz.func81, Tryz.ntmps81
   go_wp2_with (at_builtin; refine wpList_append_run rfl (.tmp 20) (.tmp 21) 65 3 rfl _ _ rfl rfl HRUN.out ?_)
   rw [← HR.out]
   refine ⟨_, c, rfl, (St.nil0 w NoF).fresh HB.out (rowOC (.slice (some ⟨w.heap.size, 0, none⟩) 0 c) []) HROW.out (nd_bl (.slice (some ⟨w.heap.size, 0, none⟩) 0 c)) (fun b hb => ?_)⟩
   simp [rowXC, bl_slice] at hb
   omega
theorem St.call0 {w0 w w' : World} {F : Nat → Prop} {B R : List Chunk} (s : St w0 F w R) (k : St w NoF w' B) : St w0 F w' (B ++ R) :=
 St.frame (A := []) s ⟨k.keep.os, k.keep.tape, k.keep.output, k.keep.size, fun b hb _ => k.keep.block b hb fun h => h⟩ k.h k.nd fun b hb => (k.own b hb).elim (fun h => h.elim) .inr
def part2 (la lb : List One) : Nat → List One
 | 0 => []
 | 1 => la
 | _ => la ++ lb
def ConPost (w : World) (l : List One) (E : Ending) (w' : World) : Prop := ∃ v, E = .returned v ∧ St w NoF w' [rowOC v l]
set_option maxHeartbeats 2000000 in
theorem concat_calls (w : World) (g0 : Nat) (va vb : Value) (la lb : List One) (h0 : w.heap[g0]? = some (.cells #[va, vb] 65 (0, 0))) (ha : RowX oneE w va la) (hb : RowX oneE w vb lb) (hn : la.length + lb.length < 1000000) :
   Calls Tryz.prog 61 #[.slice (some ⟨g0, 0, none⟩) 2 2] w (ConPost w (la ++ lb)) := by
 obtain ⟨R, hR⟩ : ∃ R, ConPost w (la ++ lb) = R := ⟨_, rfl⟩
 have HR := Aside0.mk hR
 rw [hR]
 have hu62 := Tryz.underlying65
 have hu102 := Tryz.underlying112
 obtain ⟨Aa, ca, rfl⟩ := ha.form
 obtain ⟨Ab, cb, rfl⟩ := hb.form
 obtain ⟨na, hna⟩ : ∃ n, la.length = n := ⟨_, rfl⟩
 obtain ⟨nb, hnb⟩ : ∃ n, lb.length = n := ⟨_, rfl⟩
 rw [hna] at h0 ha hn
 rw [hnb] at h0 hb hn
 have HA := Aside0.mk ha
 have HB := Aside0.mk hb
 have HNA := Aside0.mk hna
 have HNB := Aside0.mk hnb
 have H0 := Aside0.mk h0
 have d0 := blk_cell h0 0
 have d1 := blk_cell h0 1
 have hgl := lt_of_some h0
 have hw1 : IntKind.i64.wrap (na : Int) = (na : Int) := by rw [IntKind.wrap_i64]; omega
 have hw2 : IntKind.i64.wrap ((na : Int) + (nb : Int)) = (na : Int) + (nb : Int) := by rw [IntKind.wrap_i64]; omega
 have hp1 : ¬ (na : Int) < 0 := by omega
 have hp2 : ¬ (na : Int) + (nb : Int) < 0 := by omega
 clear hR ha hb hna hnb h0
 go_enter Tryz.func61, Tryz.ntmps61
 go_wp2
 go_loopg [3, 5, 11] 2 (fun gq v3 v5 v11 wx => ∃ i : Nat, v11 = .int .i64 i ∧ i + gq = 2 ∧ Aside0 (Below w.heap.size w wx) ∧ v3 = .int .i64 (if i = 0 then 0 else if i = 1 then (na : Int) else (na : Int) + (nb : Int)))
 case atStart => exact ⟨0, rfl, rfl, Aside0.mk (Below.refl _ w), rfl⟩
 case round =>
   obtain ⟨i, rfl, hi, HBW, rfl⟩ := hrel
   have hgw : g0 < wr.heap.size := Nat.lt_of_lt_of_le hgl HBW.out.size
   have e0 := pw_cell_below HBW.out d0
   have e1 := pw_cell_below HBW.out d1
   cases gk with
   | zero =>
     obtain rfl : i = 2 := by omega
     have HS0 := Aside0.mk ((St.nil0 w NoF).below HBW.out)
     have H0B := Aside0.mk ((HBW.out.block _ hgl).trans H0.out)
     have HGR := Aside0.mk (grow_calls wr (na + nb) hn ((na : Int) + (nb : Int)) (by omega))
     clear HBW
     go_wp2_with (go_at_call 81; refine HGR.out.mono ?_; rintro E w2 ⟨A0, c0, rfl, k⟩; have HS := Aside0.mk (St.call0 HS0.out k); clear k HS0 e0 e1)
     go_loopg [6, 8, 27] 2 (fun gq v6 v8 v27 wx => ∃ (i : Nat) (A : Option Addr) (n c : Nat), v27 = .int .i64 i ∧ i + gq = 2 ∧ v6 = .slice A n c ∧ Aside0 (St w NoF wx [rowOC (.slice A n c) (part2 la lb i)]))
     case atStart => exact ⟨0, A0, 0, c0, rfl, rfl, rfl, HS⟩
     case round =>
       clear HS
       obtain ⟨i, A, n, c, rfl, hi, rfl, HS⟩ := hrel
       have hbw := keep_below HS.out.keep
       have e0 := pw_cell_below hbw d0
       have e1 := pw_cell_below hbw d1
       have HBW := Aside0.mk hbw
       clear hbw
       cases gk with
       | zero =>
         obtain rfl : i = 2 := by omega
         go_wp2
         rw [← HR.out]
         exact ⟨_, rfl, HS.out⟩
       | succ gq =>
         rcases (show i = 0 ∨ i = 1 by omega) with rfl | rfl
         · obtain ⟨v', w3, hrun, hrow, hgrow, hown⟩ := appendsXX oneI 65 (HS.out.rowX 0 rfl) (HA.out.below HBW.out) (by have := HNA.out; simp only [part2, List.length_nil]; omega)
           have HS2 := Aside0.mk (HS.out.rowTo 0 rfl hrow hgrow hown)
           obtain ⟨A2, c2, rfl⟩ := hrow.form
           have HRUN := Aside0.mk hrun
           clear hrun hrow hgrow hown HS
           obtain ⟨n2, hn2⟩ : ∃ n2, (part2 la lb 0 ++ la).length = n2 := ⟨_, rfl⟩
           rw [hn2] at HS2 HRUN
           clear hn2
           go_wp2_with (at_builtin; refine wpList_append_run rfl (.tmp 31) (.tmp 32) 65 65 rfl _ _ rfl rfl HRUN.out ?_)
           go_roundg gq
           case measure => omega
           case rel => exact ⟨1, A2, n2, c2, by go_num, by omega, rfl, HS2⟩
         · obtain ⟨v', w3, hrun, hrow, hgrow, hown⟩ := appendsXX oneI 65 (HS.out.rowX 0 rfl) (HB.out.below HBW.out) (by have := HNA.out; have := HNB.out; simp only [part2]; omega)
           have HS2 := Aside0.mk (HS.out.rowTo 0 rfl hrow hgrow hown)
           obtain ⟨A2, c2, rfl⟩ := hrow.form
           have HRUN := Aside0.mk hrun
           clear hrun hrow hgrow hown HS
           obtain ⟨n2, hn2⟩ : ∃ n2, (part2 la lb 1 ++ lb).length = n2 := ⟨_, rfl⟩
           rw [hn2] at HS2 HRUN
           clear hn2
           go_wp2_with (at_builtin; refine wpList_append_run rfl (.tmp 31) (.tmp 32) 65 65 rfl _ _ rfl rfl HRUN.out ?_)
           go_roundg gq
           case measure => omega
           case rel => exact ⟨2, A2, n2, c2, by go_num, by omega, rfl, HS2⟩
   | succ gq =>
     rcases (show i = 0 ∨ i = 1 by omega) with rfl | rfl
     · go_wp2
       go_roundg gq
       case measure => omega
       case rel => exact ⟨1, by go_num, by omega, HBW, by go_num⟩
     · go_wp2
       go_roundg gq
       case measure => omega
       case rel => exact ⟨2, by go_num, by omega, HBW, by go_num⟩
end Go.Proofs.Kb
end
section
namespace Go.Proofs
open Go.Shelf
def Tryz.lays215_ren : Go.Shelf.Ren := ⟨fun | 215 => 85 | n => n, fun | 3 => 3 | 4 => 4 | n => n, fun | n => n⟩
theorem Tryz.lays215 : Go.Proofs.Lays.n215 Tryz.prog Tryz.lays215_ren := {
 mixed := by kernel_rfl
 f215 := Tryz.func85.trans (congrArg some (by kernel_rfl))
 t3 := Tryz.underlying3
 a3 := Tryz.isAgg3
 z3 := Tryz.sizeOf3
 v3 := Tryz.zeroValue3
 t4 := Tryz.underlying4
 a4 := Tryz.isAgg4
 z4 := Tryz.sizeOf4
 v4 := Tryz.zeroValue4 }
open Go.RowKit in
theorem Tryz.cmp_isNaN_int (x : Int) (w : World) :
   Calls Tryz.prog 85 #[.int .i64 x] w fun e w' => e = .returned (.bool false) ∧ w' = w := Any.cmp_isNaN_int Tryz.lays215 x w
def Tryz.lays122_ren : Go.Shelf.Ren := ⟨fun | 122 => 72 | 215 => 85 | n => n, fun | 3 => 3 | 4 => 4 | n => n, fun | n => n⟩
theorem Tryz.lays122 : Go.Proofs.Lays.n122 Tryz.prog Tryz.lays122_ren := {
 mixed := by kernel_rfl
 f122 := Tryz.func72.trans (congrArg some (by kernel_rfl))
 f215 := Tryz.func85.trans (congrArg some (by kernel_rfl))
 t3 := Tryz.underlying3
 a3 := Tryz.isAgg3
 z3 := Tryz.sizeOf3
 v3 := Tryz.zeroValue3
 t4 := Tryz.underlying4
 a4 := Tryz.isAgg4
 z4 := Tryz.sizeOf4
 v4 := Tryz.zeroValue4 }
open Go.RowKit in
theorem Tryz.cmp_Compare_int (x y : Int) (w : World) :
   Calls Tryz.prog 72 #[.int .i64 x, .int .i64 y] w fun e w' => e = .returned (.int .i64 (Lib.compareInt x y)) ∧ w' = w := Any.cmp_Compare_int Tryz.lays122 x y w
def Tryz.lays189_ren : Go.Shelf.Ren := ⟨fun | 189 => 63 | 125 => 83 | 257 => 82 | 128 => 98 | 129 => 99 | 294 => 89 | 295 => 90 | 296 => 91 | 297 => 92 | 298 => 93 | 299 => 94 | 216 => 95 | 300 => 96 | 301 => 97 | 328 => 103 | 329 => 104 | 330 => 105 | 331 => 106 | 332 => 107 | 215 => 85 | 343 => 108 | n => n, fun | 28 => 41 | 3 => 3 | 46 => 103 | 0 => 0 | 51 => 125 | 53 => 127 | 4 => 4 | 183 => 119 | 182 => 118 | 131 => 84 | 5 => 5 | 9 => 9 | 218 => 130 | 222 => 134 | 228 => 136 | 229 => 137 | n => n, fun | n => n⟩
theorem Tryz.lays189 : Go.Proofs.Lays.n189 Tryz.prog Tryz.lays189_ren := {
 mixed := by kernel_rfl
 f125 := Tryz.func83.trans (congrArg some (by kernel_rfl))
 f128 := Tryz.func98.trans (congrArg some (by kernel_rfl))
 f129 := Tryz.func99.trans (congrArg some (by kernel_rfl))
 f189 := Tryz.func63.trans (congrArg some (by kernel_rfl))
 f215 := Tryz.func85.trans (congrArg some (by kernel_rfl))
 f216 := Tryz.func95.trans (congrArg some (by kernel_rfl))
 f257 := Tryz.func82.trans (congrArg some (by kernel_rfl))
 f294 := Tryz.func89.trans (congrArg some (by kernel_rfl))
 f295 := Tryz.func90.trans (congrArg some (by kernel_rfl))
 f296 := Tryz.func91.trans (congrArg some (by kernel_rfl))
 f297 := Tryz.func92.trans (congrArg some (by kernel_rfl))
 f298 := Tryz.func93.trans (congrArg some (by kernel_rfl))
 f299 := Tryz.func94.trans (congrArg some (by kernel_rfl))
 f300 := Tryz.func96.trans (congrArg some (by kernel_rfl))
 f301 := Tryz.func97.trans (congrArg some (by kernel_rfl))
 f328 := Tryz.func103.trans (congrArg some (by kernel_rfl))
 f329 := Tryz.func104.trans (congrArg some (by kernel_rfl))
 f330 := Tryz.func105.trans (congrArg some (by kernel_rfl))
 f331 := Tryz.func106.trans (congrArg some (by kernel_rfl))
 f332 := Tryz.func107.trans (congrArg some (by kernel_rfl))
 f343 := Tryz.func108.trans (congrArg some (by kernel_rfl))
 t0 := Tryz.underlying0
 a0 := Tryz.isAgg0
 z0 := Tryz.sizeOf0
 v0 := Tryz.zeroValue0
 t3 := Tryz.underlying3
 a3 := Tryz.isAgg3
 z3 := Tryz.sizeOf3
 v3 := Tryz.zeroValue3
 t4 := Tryz.underlying4
 a4 := Tryz.isAgg4
 z4 := Tryz.sizeOf4
 v4 := Tryz.zeroValue4
 t5 := Tryz.underlying5
 a5 := Tryz.isAgg5
 z5 := Tryz.sizeOf5
 v5 := Tryz.zeroValue5
 t9 := Tryz.underlying9
 a9 := Tryz.isAgg9
 z9 := Tryz.sizeOf9
 v9 := Tryz.zeroValue9
 t28 := Tryz.underlying41
 a28 := Tryz.isAgg41
 z28 := Tryz.sizeOf41
 v28 := Tryz.zeroValue41
 t46 := Tryz.underlying103
 a46 := Tryz.isAgg103
 z46 := Tryz.sizeOf103
 v46 := Tryz.zeroValue103
 t51 := Tryz.underlying125
 a51 := Tryz.isAgg125
 z51 := Tryz.sizeOf125
 v51 := Tryz.zeroValue125
 t53 := Tryz.underlying127
 a53 := Tryz.isAgg127
 z53 := Tryz.sizeOf127
 v53 := Tryz.zeroValue127
 t131 := Tryz.underlying84
 a131 := Tryz.isAgg84
 z131 := Tryz.sizeOf84
 v131 := Tryz.zeroValue84
 t182 := Tryz.underlying118
 a182 := Tryz.isAgg118
 z182 := Tryz.sizeOf118
 v182 := Tryz.zeroValue118
 t183 := Tryz.underlying119
 a183 := Tryz.isAgg119
 z183 := Tryz.sizeOf119
 v183 := Tryz.zeroValue119
 t218 := Tryz.underlying130
 a218 := Tryz.isAgg130
 z218 := Tryz.sizeOf130
 v218 := Tryz.zeroValue130
 t222 := Tryz.underlying134
 a222 := Tryz.isAgg134
 z222 := Tryz.sizeOf134
 v222 := Tryz.zeroValue134
 t228 := Tryz.underlying136
 a228 := Tryz.isAgg136
 z228 := Tryz.sizeOf136
 v228 := Tryz.zeroValue136
 t229 := Tryz.underlying137
 a229 := Tryz.isAgg137
 z229 := Tryz.sizeOf137
 v229 := Tryz.zeroValue137 }
open Go.Sort Go.RowKit in
theorem Tryz.slices_Sort_int (blk off cap : Nat) (zs : List Int) (w : World) (hH : Holds (Value.int .i64) w blk off zs.toArray) (hblk : blk < w.heap.size) (hsz : zs.length < 4611686018427387904) :
   Calls Tryz.prog 63 #[.slice (some ⟨blk, off, none⟩) zs.length cap] w fun e w' =>
     e = .returned (.tuple #[]) ∧ ∃ n os, w' = grow (putRow (Value.int .i64) (Sort.ahead w n) blk off (zs.mergeSort fun x y => decide (x ≤ y)).toArray) os := Any.slices_Sort_int Tryz.lays189 blk off cap zs w hH hblk hsz
def Tryz.laysNm220_ren : Go.Shelf.Ren := ⟨fun | 20 => 64 | n => n, fun | 22 => 41 | 3 => 3 | 4 => 4 | 0 => 0 | n => n, fun | n => n⟩
theorem Tryz.laysNm220 : Go.Proofs.Lays2.n20 Tryz.prog Tryz.laysNm220_ren := {
 mixed := by kernel_rfl
 f20 := Tryz.func64.trans (congrArg some (by kernel_rfl))
 t0 := Tryz.underlying0
 a0 := Tryz.isAgg0
 z0 := Tryz.sizeOf0
 v0 := Tryz.zeroValue0
 t3 := Tryz.underlying3
 a3 := Tryz.isAgg3
 z3 := Tryz.sizeOf3
 v3 := Tryz.zeroValue3
 t4 := Tryz.underlying4
 a4 := Tryz.isAgg4
 z4 := Tryz.sizeOf4
 v4 := Tryz.zeroValue4
 t22 := Tryz.underlying41
 a22 := Tryz.isAgg41
 z22 := Tryz.sizeOf41
 v22 := Tryz.zeroValue41
 i3 := by kernel_rfl }
open Go.RowKit Go.Lib Go.Sort in
theorem Tryz.slices_Compact_int (blk off cap : Nat) (zs : List Int) (w : World) (hH : Holds (Value.int .i64) w blk off zs.toArray) (hsz : zs.length ≤ 9223372036854775807) (hcap : zs.length ≤ cap) :
   Calls Tryz.prog 64 #[.slice (some ⟨blk, off, none⟩) zs.length cap] w fun e w' => e = .returned (.slice (some ⟨blk, off, none⟩) (Lib.compact zs).length cap) ∧ ∃ q, w' = putRow (Value.int .i64) (Sort.ahead w q) blk off (Lib.compact zs ++ List.replicate (zs.length - (Lib.compact zs).length) 0).toArray := Any.slices_Compact_int Tryz.laysNm220 blk off cap zs w hH hsz hcap
open Go.RowKit Go.Lib Go.Sort in
theorem Tryz.slices_Compact_int_empty (a : Option Addr) (cap : Nat) (w : World) :
   Calls Tryz.prog 64 #[.slice a 0 cap] w fun e w' => e = .returned (.slice a 0 cap) ∧ w' = w := Any.slices_Compact_int_empty Tryz.laysNm220 a cap w
open Go.RowKit Go.Sort in
theorem Tryz.slices_Sort_int_none (p : Option Addr) (cap : Nat) (w : World) :
   Calls Tryz.prog 63 #[.slice p 0 cap] w fun e w' => e = .returned (.tuple #[]) ∧ w' = w := Any.slices_Sort_int_none Tryz.lays189 p cap w
end Go.Proofs
end
section
namespace Go.Proofs.Kb
open Go Go.RowKit Go.Proofs.YtkcjcdkmdooofaaGreat.Q Go.Proofs.YtkcjcdkmdooofaaGreatW.PrintWords Go.Proofs.YtkcjcdkmdooofaaGreatW.PrintLast Go.Proofs.YtkcjcdkmdooofaaGreatW.PrintMore
set_option maxRecDepth 100000
open Go.Proofs.Lk Go.Sort Go.Lib
def intE : EncT Int := ⟨3, 1, fun x => [.int .i64 x], fun x => rfl, fun x u hu => by
 rcases List.mem_cons.1 hu with rfl | hu
 · rfl
 · cases hu⟩
theorem intE_all (l : List Int) : intE.all l = l.map (Value.int .i64) := by
 induction l with
 | nil => rfl
 | cons x l ih => rw [intE.all_cons, ih]; rfl
theorem int39_info : (Tryz.prog.info? 3).map (fun i => (i.zero, i.size, i.bytes)) = some (some (.int .i64 0), 1, 8) := by kernel_rfl
noncomputable def intI : InfoX Tryz.prog intE 41 := Classical.choice (infoX_of Tryz.underlying41 int39_info (by simp [Value.cells, intE]) (by decide) (by decide))
abbrev rowIC := rowXC intE
theorem RowX.int {w : World} {g n c : Nat} {l : List Int} (h : RowX intE w (.slice (some ⟨g, 0, none⟩) n c) l) {i : Nat} {x : Int} (hx : l[i]? = some x) : w.cell? ⟨g, i, none⟩ = some (.int .i64 x) := by
 have := h.cell hx 0 (by decide) (.int .i64 x) rfl
 rw [show i * intE.sz + 0 = i by show i * 1 + 0 = i; omega] at this
 exact this
theorem put_ints {w : World} {g n c k q : Nat} {l ys : List Int} {os : Array Obj} (h : RowX intE w (.slice (some ⟨g, 0, none⟩) n c) l) (hy : ys.length = l.length) (hk : k ≤ l.length) :
   RowX intE (grow (putRow (Value.int .i64) (Sort.ahead w q) g 0 ys.toArray) os) (.slice (some ⟨g, 0, none⟩) k c) (ys.take k) ∧ w.grownBy (grow (putRow (Value.int .i64) (Sort.ahead w q) g 0 ys.toArray) os) (some g) := by
 refine ⟨?_, grownBy_sortedI _⟩
 obtain ⟨h0, h1, h2⟩ := h
 rcases h2 with ⟨h2, _⟩ | ⟨g', cap, cur, hv, hg, hn, hm, hs, ht⟩
 · simp at h2
 · simp at hv
   obtain ⟨rfl, rfl, rfl⟩ := hv
   have hlen : (ys.take k).length = k := by rw [List.length_take]; omega
   have hsz : c * 1 ≤ cur.size := hs
   refine RowX.of (n := k) (xs := intE.all (ys.take k)) ⟨by rw [intE.all_len, hlen], intE.all_one _, .inr ⟨g, c, _, rfl, heap_sortedI _ hg, by omega, hm, by simpa [putCells] using hs, ?_⟩⟩ hlen rfl
   have h3 := take_putCellsI cur ys (by omega)
   have h4 : (putCells (Value.int .i64) 0 ys.toArray cur).toList.take k = ((putCells (Value.int .i64) 0 ys.toArray cur).toList.take ys.length).take k := by
     rw [List.take_take, Nat.min_eq_left (by omega)]
   rw [show k * intE.sz = k by show k * 1 = k; omega, intE_all, h4, h3, List.map_take]
theorem holds_ints {w : World} {g n c : Nat} {l : List Int} (h : RowX intE w (.slice (some ⟨g, 0, none⟩) n c) l) : Holds (Value.int .i64) w g 0 l.toArray := by
 obtain ⟨h0, h1, h2⟩ := h
 rcases h2 with ⟨h2, _⟩ | ⟨g', cap, cur, hv, hg, hn, hm, hs, ht⟩
 · simp at h2
 · simp at hv
   obtain ⟨rfl, rfl, rfl⟩ := hv
   refine holds_of_blockI hg ?_
   rw [show l.length * intE.sz = l.length by show l.length * 1 = _; omega, intE_all] at ht
   exact ht
def srt0 (l : List Int) : List Int := l.mergeSort fun x y => decide (x ≤ y)
theorem sort_calls (w : World) (v : Value) (l : List Int) (h : RowX intE w v l) (hn : l.length < 1000000) :
   Calls Tryz.prog 63 #[v] w fun E w' => E = .returned (.tuple #[]) ∧ RowX intE w' v (srt0 l) ∧ w.grownBy w' v.ownBlock := by
 by_cases h0 : l = []
 · subst h0
   obtain ⟨A, c, rfl⟩ := h.form
   refine (Tryz.slices_Sort_int_none A c w).mono ?_
   rintro E w' ⟨rfl, rfl⟩
   exact ⟨rfl, by rw [show srt0 [] = [] from List.mergeSort_nil]; exact h, ⟨rfl, rfl, rfl, Nat.le_refl _, fun _ _ _ => rfl⟩⟩
 · have hp : 0 < l.length := List.length_pos_iff.2 h0
   obtain ⟨g, c, rfl, hc⟩ := h.fill hp
   have hgl : g < w.heap.size := Row.lt h g rfl
   refine (Tryz.slices_Sort_int g 0 c l w (holds_ints h) hgl (by omega)).mono ?_
   rintro E w' ⟨rfl, q, os, rfl⟩
   have hl : (srt0 l).length = l.length := List.length_mergeSort _
   obtain ⟨h1, h2⟩ := put_ints (k := l.length) (q := q) (os := os) (ys := srt0 l) h hl (Nat.le_refl _)
   rw [List.take_of_length_le (by omega)] at h1
   exact ⟨rfl, h1, h2⟩
theorem compact_calls (w : World) (v : Value) (l : List Int) (h : RowX intE w v l) (hn : l.length < 1000000) :
   Calls Tryz.prog 64 #[v] w fun E w' => ∃ v', E = .returned v' ∧ RowX intE w' v' (Lib.compact l) ∧ w.grownBy w' v.ownBlock ∧ v'.ownBlock = v.ownBlock := by
 by_cases h0 : l = []
 · subst h0
   obtain ⟨A, c, rfl⟩ := h.form
   refine (Tryz.slices_Compact_int_empty A c w).mono ?_
   rintro E w' ⟨rfl, rfl⟩
   exact ⟨_, rfl, h, ⟨rfl, rfl, rfl, Nat.le_refl _, fun _ _ _ => rfl⟩, rfl⟩
 · have hp : 0 < l.length := List.length_pos_iff.2 h0
   obtain ⟨g, c, rfl, hc⟩ := h.fill hp
   refine (Tryz.slices_Compact_int g 0 c l w (holds_ints h) (by omega) hc).mono ?_
   rintro E w' ⟨rfl, q, rfl⟩
   have hle := Lib.compact_length_le l
   obtain ⟨h1, h2⟩ := put_ints (k := (Lib.compact l).length) (q := q) (os := #[]) (ys := Lib.compact l ++ List.replicate (l.length - (Lib.compact l).length) 0) h (by simp; omega) hle
   rw [grow_empty] at h1 h2
   rw [List.take_left] at h1
   exact ⟨_, rfl, h1, h2, rfl⟩
theorem keeps_iff (d : Array Int) (j : Nat) : keeps d (j + 1) = true ↔ d[j + 1]! ≠ d[j]! := by
 constructor
 · intro h e
   rw [keeps_neg (by omega) (by simpa using e)] at h
   cases h
 · intro h
   exact keeps_pos (by simpa using h)
theorem mem_upTo (d : Array Int) : ∀ (m : Nat) (x : Int), x ∈ compactUpTo d m ↔ ∃ j, j < m ∧ d[j]! = x
 | 0, x => by simp [compactUpTo]
 | m + 1, x => by
   rw [compactUpTo_succ, List.mem_append, mem_upTo d m x]
   constructor
   · rintro (⟨j, hj, e⟩ | h)
     · exact ⟨j, by omega, e⟩
     · by_cases hk : keeps d m = true
       · rw [if_pos hk, List.mem_singleton] at h
         exact ⟨m, by omega, h.symm⟩
       · rw [if_neg hk] at h
         cases h
   · rintro ⟨j, hj, e⟩
     by_cases hjm : j = m
     · subst hjm
       by_cases hk : keeps d j = true
       · right
         rw [if_pos hk, e]
         exact List.mem_singleton.2 rfl
       · cases j with
         | zero => exact absurd (keeps_lt_one d 0 (by omega)) hk
         | succ i =>
           refine .inl ⟨i, by omega, ?_⟩
           rw [keeps_iff] at hk
           rw [← e]
           exact (Classical.not_not.1 hk).symm
     · exact .inl ⟨j, by omega, e⟩
def srtI (l : List Int) : List Int := Lib.compact (srt0 l)
theorem mem_compact (l : List Int) (x : Int) : x ∈ Lib.compact l ↔ x ∈ l := by
 unfold Lib.compact
 rw [mem_upTo, List.mem_iff_getElem]
 constructor
 · rintro ⟨j, hj, e⟩
   exact ⟨j, hj, by simpa [hj] using e⟩
 · rintro ⟨j, hj, e⟩
   exact ⟨j, hj, by simpa [hj] using e⟩
theorem mem_srtI (l : List Int) (x : Int) : x ∈ srtI l ↔ x ∈ l := by
 unfold srtI srt0
 rw [mem_compact, List.mem_mergeSort]
theorem upTo_sorted (d : Array Int) (hd : ∀ i, i + 1 < d.size → d[i]! ≤ d[i + 1]!) : ∀ m, m ≤ d.size → (compactUpTo d m).Pairwise (· < ·) ∧ ∀ x ∈ compactUpTo d m, ∀ j, j + 1 = m → x ≤ d[j]!
 | 0, _ => by simp [compactUpTo]
 | m + 1, hm => by
   obtain ⟨h1, h2⟩ := upTo_sorted d hd m (by omega)
   rw [compactUpTo_succ]
   by_cases hk : keeps d m = true
   · rw [if_pos hk]
     have hlt : ∀ x ∈ compactUpTo d m, x < d[m]! := fun x hx => by
       cases m with
       | zero => simp [compactUpTo] at hx
       | succ j =>
         have := h2 x hx j rfl
         have := hd j (by omega)
         have := (keeps_iff d j).1 hk
         omega
     refine ⟨List.pairwise_append.2 ⟨h1, List.pairwise_singleton _ _, fun x hx y hy => ?_⟩, fun x hx j hj => ?_⟩
     · rw [List.mem_singleton] at hy
       subst hy
       exact hlt x hx
     · obtain rfl : j = m := by omega
       rcases List.mem_append.1 hx with hx | hx
       · have := hlt x hx
         omega
       · rw [List.mem_singleton] at hx
         subst hx
         exact Int.le_refl _
   · rw [if_neg hk, List.append_nil]
     refine ⟨h1, fun x hx j hj => ?_⟩
     obtain rfl : j = m := by omega
     cases j with
     | zero => exact absurd (keeps_lt_one d 0 (by omega)) hk
     | succ i =>
       have := h2 x hx i rfl
       have := hd i (by omega)
       omega
theorem srtI_sorted (l : List Int) : (srtI l).Pairwise (· < ·) := by
 unfold srtI Lib.compact
 have hs : (srt0 l).Pairwise (fun x y => decide (x ≤ y) = true) := List.pairwise_mergeSort (fun a b c h1 h2 => by simp at *; omega) (fun a b => by simp; omega) l
 refine (upTo_sorted (srt0 l).toArray (fun i hi => ?_) _ (by simp)).1
 have hi2 : i + 1 < (srt0 l).length := by simpa using hi
 have := List.pairwise_iff_getElem.1 hs i (i + 1) (by omega) hi2 (by omega)
 have h3 : i < (srt0 l).length := by omega
 simpa [hi2, h3] using this
end Go.Proofs.Kb
end
section
namespace Go.Proofs.Kb
open Go Go.RowKit Go.Proofs.YtkcjcdkmdooofaaGreat.Q Go.Proofs.YtkcjcdkmdooofaaGreatW.PrintWords Go.Proofs.YtkcjcdkmdooofaaGreatW.PrintLast Go.Proofs.YtkcjcdkmdooofaaGreatW.PrintMore
set_option maxRecDepth 100000
open Go.Proofs.Lk
def IntsPost (w : World) (l : List Int) (E : Ending) (w' : World) : Prop := ∃ v, E = .returned v ∧ St w NoF w' [rowIC v l]
def rawL (l : List One) (o : One) : List Int := (l.filter fun h => h.1 != o.1 && conf h.2 o.2).map (·.1)
theorem rawL_skip {l : List One} {o h : One} {i : Nat} (hh : l[i]? = some h) (hq : (h.1 != o.1 && conf h.2 o.2) = false) : rawL (l.take (i + 1)) o = rawL (l.take i) o := by
 unfold rawL
 rw [List.take_add_one, hh, List.filter_append]
 simp [hq]
theorem rawL_add {l : List One} {o h : One} {i : Nat} (hh : l[i]? = some h) (hq : (h.1 != o.1 && conf h.2 o.2) = true) : rawL (l.take (i + 1)) o = rawL (l.take i) o ++ [h.1] := by
 unfold rawL
 rw [List.take_add_one, hh, List.filter_append]
 simp [hq]
theorem rawL_len (l : List One) (o : One) : (rawL l o).length ≤ l.length := by
 unfold rawL
 rw [List.length_map]
 exact List.length_filter_le _ _
set_option maxHeartbeats 4000000 in
theorem blockers_calls (w : World) (p : Nat) (hv wv : Value) (r : LRow) (o : One) (place : Nat) (h : RowH w p hv wv r) (hpl : place ≤ r.waits.length) (hn : r.holds.length + r.waits.length < 1000000) :
   Calls Tryz.prog 33 #[ptr p, oneV o, .int .i64 place] w (IntsPost w (srtI (rawB r o place))) := by
 obtain ⟨R, hR⟩ : ∃ R, IntsPost w (srtI (rawB r o place)) = R := ⟨_, rfl⟩
 have HR := Aside0.mk hR
 rw [hR]
 have hu64 := Tryz.underlying67
 have hu66 := Tryz.underlying63
 have hz66 := Tryz.sizeOf63
 have hu62 := Tryz.underlying65
 have hu102 := Tryz.underlying112
 have hu39 := Tryz.underlying41
 obtain ⟨n0, hn0⟩ : ∃ n, w.heap.size = n := ⟨_, rfl⟩
 obtain ⟨x, m⟩ := o
 have HS0 := Aside0.mk ((St.nil0 w NoF).alloc #[.int .i64 x, .int .i64 m] 63 hn0)
 obtain ⟨W0, hW0⟩ : ∃ W0, w.alloc (.cells #[.int .i64 x, .int .i64 m] 63) = W0 := ⟨_, rfl⟩
 rw [hW0] at HS0
 have hrx : RowX oneE w hv r.holds := h.holds
 have hwx : RowX oneE w wv r.waits := h.waits
 obtain ⟨Ah, ch, rfl⟩ := hrx.form
 obtain ⟨Aw, cw, rfl⟩ := hwx.form
 obtain ⟨nh, hnh⟩ : ∃ n, r.holds.length = n := ⟨_, rfl⟩
 obtain ⟨nw, hnw⟩ : ∃ n, r.waits.length = n := ⟨_, rfl⟩
 have HNH := Aside0.mk hnh
 have HNW := Aside0.mk hnw
 rw [hnh, hnw] at h hn
 rw [hnh] at hrx
 rw [hnw] at hwx hpl
 have HROW := Aside0.mk h
 have HRX := Aside0.mk hrx
 have hp0 : (0 : Int) ≤ (place : Int) := by omega
 obtain ⟨L, hL⟩ : ∃ L, r.holds ++ r.waits.take place = L := ⟨_, rfl⟩
 have HL := Aside0.mk hL
 have hLn : L.length < 1000000 := by
   rw [← hL, List.length_append, List.length_take, HNW.out, hnh]
   omega
 have HLN := Aside0.mk hLn
 obtain ⟨PW, hPW, hPX⟩ : ∃ PW, (∃ A c, Aw = A ∧ (PW = .slice A place c) ∧ place ≤ cw ∧ (A = none → cw = 0 ∧ place = 0 ∧ nw = 0 ∧ c = 0) ∧ (A ≠ none → c = cw ∧ ∃ g, A = some ⟨g, 0, none⟩)) ∧ RowX oneE w PW (r.waits.take place) := by
   rcases hwx.2.2 with ⟨hv, h0⟩ | ⟨g, c, cur, hv, hg, hnc, hcm, hcs, htk⟩
   · injection hv with e1 e2 e3
     subst e1 e3
     have e0 : nw = 0 := by rw [← hnw]; exact h0
     obtain rfl : place = 0 := by omega
     exact ⟨.slice none 0 0, ⟨none, 0, rfl, rfl, Nat.le_refl _, fun _ => ⟨rfl, rfl, e0, rfl⟩, fun hh => absurd rfl hh⟩, by rw [List.take_zero]; exact RowX.nil⟩
   · injection hv with e1 e2 e3
     subst e1 e3
     exact ⟨.slice (some ⟨g, 0, none⟩) place cw, ⟨_, cw, rfl, rfl, by omega, fun hh => (by cases hh), fun _ => ⟨rfl, g, rfl⟩⟩, RowX.cut hwx place cw (by omega) (by omega) (Nat.le_refl _)⟩
 have HPX := Aside0.mk hPX
 obtain ⟨A', c', rfl, rfl, hpc, hnone, hsome⟩ := hPW
 clear hR h hL hLn hnh hnw hrx hwx hPX
 unfold ptr oneV
 show Calls Tryz.prog 33 #[.pointer (some ⟨p, 0, none⟩), .agg #[.int .i64 x, .int .i64 m], .int .i64 place] w R
 have hpc2 : (place : Int) ≤ (cw : Int) := by omega
 go_enter Tryz.func33, Tryz.ntmps33
 go_wp2
 cases Aw with
 | none =>
   obtain ⟨rfl, rfl, rfl, rfl⟩ := hnone rfl
   clear hnone hsome
   refine start_ (n := 14) (S := fun w' => w'.cell? ⟨p, 0, none⟩ = some (.slice Ah nh ch) ∧ w'.cell? ⟨p, 1, none⟩ = some (.slice none 0 0)) (ds := []) #[false, false, false, false, false, false, false, false, false, false, false, false, false, false] (by kernel_rfl) rfl rfl ⟨(RowH.below HROW.out (keep_below HS0.out.keep)).c0, (RowH.below HROW.out (keep_below HS0.out.keep)).c1⟩ (fun hHeld => ?_)
   have HS1 := Aside0.mk (HS0.out.drew)
   clear HS0
   generalize W0.drew = W1 at HS1 hHeld  ⊢
   refine pu_ 0 10 (bs_ 14 1) ?_; refine pu_ 1 11 (bs_ 14 3) ?_; refine pu_ 2 12 (bs_ 14 7) ?_; refine pu_ 4 14 (bs_ 14 23) ?_; refine pu_ 5 15 (bs_ 14 55) ?_; refine pu_ 6 16 (bs_ 14 119) ?_; refine pu_ 8 18 (bs_ 14 375) ?_; refine pu_ 13 23 (bs_ 14 8567) ?_; refine ta_ 3 13 (bs_ 14 8575) hHeld ?_; refine ta_ 7 17 (bs_ 14 8703) hHeld ?_; refine pu_ 9 19 (bs_ 14 9215) ?_
   refine one_ (i := 10) (N := (some 20)) (bs_ 14 10239) rfl rfl (by kernel_rfl) (by decide) (fun K_ hK => ?_)
   obtain ⟨vb, hvb⟩ : ∃ v : Nat, W1.heap.size = v := ⟨_, rfl⟩
   refine made_ (v := .slice (some ⟨W1.heap.size, 0, none⟩) 2 2) (w1 := W1.alloc (.cells #[.slice Ah nh ch, (.slice none 0 0)] 65)) (by rfl) rfl (by go_simp) ?_
   have HS2 := Aside0.mk (HS1.out.alloc #[.slice Ah nh ch, (.slice none 0 0)] 65 hvb)
   clear HS1
   rw [hvb]
   clear hvb
   clear hHeld
   refine hK.out _ _ ⟨(RowH.below HROW.out (keep_below HS2.out.keep)).c0, (RowH.below HROW.out (keep_below HS2.out.keep)).c1⟩ (fun hHeld => ?_)
   clear hK K_
   generalize W1.alloc (.cells #[.slice Ah nh ch, (.slice none 0 0)] 65) = w3 at HS2 hHeld  ⊢
   refine norm_ (a' := ?_) ?_ ?_
   rotate_left
   · show Act.put _ (some 20) _ = _
     simp only [Act.put, List.setIfInBounds_toArray, List.set_cons_zero, List.set_cons_succ, i64_w, i32_w]
     rfl
   refine one_ (i := 11) (N := (some 21)) (bs_ 14 12287) rfl rfl (by kernel_rfl) (by decide) (fun K_ hK => ?_)
   refine goes_ Tryz.func61 (by kernel_rfl) rfl #[.slice (some ⟨vb, 0, none⟩) 2 2] (by rfl) rfl rfl (by (try simp only [List.map_toArray, List.map_cons, List.map_nil]); first | done | rfl) ?_
   refine (concat_calls _ vb (.slice Ah nh ch) (.slice none 0 0) r.holds (r.waits.take 0) (HS2.out.blk 1 rfl) (HRX.out.below (keep_below HS2.out.keep)) (HPX.out.below (keep_below HS2.out.keep)) (by have := HLN.out; rw [← HL.out, List.length_append] at this; exact this)).mono ?_
   rintro E w4 ⟨vc, rfl, k⟩
   obtain ⟨Ac, cc, rfl⟩ := (k.rowX 0 rfl).form
   have HS3 := Aside0.mk (St.call0 HS2.out k)
   clear HS2
   clear k
   rw [HL.out] at HS3 ⊢
   obtain ⟨n, hnn⟩ : ∃ n, L.length = n := ⟨_, rfl⟩
   rw [hnn] at HS3 ⊢
   refine ⟨_, rfl, ?_⟩
   clear hHeld
   refine hK.out _ _ ⟨(RowH.below HROW.out (keep_below HS3.out.keep)).c0, (RowH.below HROW.out (keep_below HS3.out.keep)).c1⟩ (fun hHeld => ?_)
   clear hK K_
   refine norm_ (a' := ?_) ?_ ?_
   rotate_left
   · show Act.put _ (some 21) _ = _
     simp only [Act.put, List.setIfInBounds_toArray, List.set_cons_zero, List.set_cons_succ, i64_w, i32_w]
     rfl
   refine pu_ 12 22 (bs_ 14 16383) ?_
   refine done_ (by kernel_rfl) ?_
   have hSa : St w NoF w4 [rowOC (.slice Ac n cc) L, blkC n0 (.cells #[.int .i64 x, .int .i64 m] 63 (0, 0))] := St.left (A := [_, _]) HS3.out
   have HSa := Aside0.mk (hSa.fresh (Below.refl _ _) (rowIC (.slice none 0 0) []) RowX.nil (nd_bl (.slice none 0 0)) (fun b hb => by simp [rowXC, bl] at hb; cases hb))
   have HNN := Aside0.mk hnn
   clear hSa hnn hHeld HS3
   go_wp2
   go_loopg [7, 9, 23] n (fun gq v7 v9 v23 wx => ∃ (i : Nat) (A : Option Addr) (na c : Nat), v23 = .int .i64 i ∧ v7 = .slice A na c ∧ i + gq = n ∧ Aside0 ((rawL (L.take i) (x, m)).length = na) ∧ Aside0 (St w NoF wx [rowIC (.slice A na c) (rawL (L.take i) (x, m)), rowOC (.slice Ac n cc) L, blkC n0 (.cells #[.int .i64 x, .int .i64 m] 63 (0, 0))]))
   case atStart => exact ⟨0, none, 0, 0, rfl, rfl, by omega, Aside0.mk rfl, HSa⟩
   case round =>
     clear HSa
     obtain ⟨i, A, na, c, rfl, rfl, hi, HNA, HS⟩ := hrel
     cases gk with
     | zero =>
       obtain rfl : i = n := by omega
       have ht : L.take i = L := List.take_of_length_le (by rw [HNN.out]; exact Nat.le_refl _)
       rw [ht] at HS HNA
       have HBD := Aside0.mk (show (rawL L (x, m)).length < 1000000 from Nat.lt_of_le_of_lt (rawL_len L (x, m)) HLN.out)
       clear ht
       go_wp2_with (first
         | (go_at_call 63; refine (sort_calls _ _ _ (HS.out.rowX 0 rfl) HBD.out).mono ?_; rintro E w5 ⟨rfl, hrow, hg⟩; have HS2 := Aside0.mk (HS.out.rowTo 0 rfl hrow hg (.inl rfl)); clear hrow hg)
         | (go_at_call 64; refine (compact_calls _ _ _ (HS2.out.rowX 0 rfl) (by rw [srt0, List.length_mergeSort]; exact HBD.out)).mono ?_; rintro E w6 ⟨v', rfl, hrow, hg, ho⟩; have HS3 := Aside0.mk (HS2.out.rowTo 0 rfl hrow hg (.inl ho)); clear hrow hg ho))
       rw [← HR.out]
       exact ⟨_, rfl, by rw [show rawB r (x, m) 0 = rawL L (x, m) by unfold rawB; rw [HL.out]; rfl]; exact St.left (A := [_]) HS3.out⟩
     | succ gq =>
       have hin : i < n := by omega
       have hin2 : (i : Int) < (n : Int) := by omega
       have hi0 : (0 : Int) ≤ (i : Int) := by omega
       have hi9 : (i : Int) ≤ 1000000 := by have := HLN.out; rw [HNN.out] at this; omega
       obtain ⟨⟨a, b⟩, ho⟩ : ∃ o, L[i]? = some o := ⟨_, List.getElem?_eq_getElem (by rw [HNN.out]; exact hin)⟩
       have hrl : RowX oneE wr (.slice Ac n cc) L := HS.out.rowX 1 rfl
       obtain ⟨g1, c1, hv, _⟩ := row_slice hrl (by rw [HNN.out]; omega)
       obtain ⟨rfl, rfl⟩ : Ac = some ⟨g1, 0, none⟩ ∧ cc = c1 := by
         injection hv with e1 e2 e3
         exact ⟨e1, e3⟩
       obtain ⟨d0, d1⟩ := hrl.ones ho
       have e0 := (blk_cell (HS.out.blk 2 rfl) 0).trans rfl
       have e1 := (blk_cell (HS.out.blk 2 rfl) 1).trans rfl
       have hg1 : g1 < wr.heap.size := World.block_lt_of_cell? _ _ d0
       have hg0 : n0 < wr.heap.size := World.block_lt_of_cell? _ _ e0
       have HO := Aside0.mk ho
       clear ho hv hrl
       by_cases hax : a = x
       · subst hax
         go_wp2
         go_roundg gq
         case measure => omega
         case rel => exact ⟨i + 1, A, na, c, by go_num, rfl, by omega, Aside0.mk (by rw [rawL_skip HO.out (by simp)]; exact HNA.out), Aside0.mk (by rw [rawL_skip HO.out (by simp)]; exact St.left (A := [_, _, _]) (HS.out.alloc #[.int .i64 a, .int .i64 b] 63 rfl))⟩
       · cases hc : conf b m with
         | false =>
           have HC := Aside0.mk hc
           clear hc
           go_wp2_with (go_at_call 62; refine (conf_calls _ b m).mono ?_; rw [HC.out]; rintro E w5 ⟨rfl, hb5⟩; have HS2 := Aside0.mk ((HS.out.alloc #[.int .i64 a, .int .i64 b] 63 rfl).below hb5); clear hb5 d0 d1 e0 e1 hg1 hg0)
           go_roundg gq
           case measure => omega
           case rel => exact ⟨i + 1, A, na, c, by go_num, rfl, by omega, Aside0.mk (by rw [rawL_skip HO.out (by simp [HC.out])]; exact HNA.out), Aside0.mk (by rw [rawL_skip HO.out (by simp [HC.out])]; exact St.left (A := [_, _, _]) HS2.out)⟩
         | true =>
           have HC := Aside0.mk hc
           have HADD := Aside0.mk (rawL_add (o := (x, m)) HO.out (show ((a, b).1 != (x, m).1 && conf (a, b).2 (x, m).2) = true by simp [hax, hc]))
           have HBD := Aside0.mk (show (rawL (L.take i) (x, m)).length < 999999 by have := rawL_len (L.take i) (x, m); rw [List.length_take, HNN.out] at this; have := HLN.out; rw [HNN.out] at this; omega)
           have G1 : True := trivial
           clear hc
           go_wp2_with (first
             | (clear G1; go_at_call 62; refine (conf_calls _ b m).mono ?_; rw [HC.out]; rintro E w5 ⟨rfl, hb5⟩; have hs2 := (HS.out.alloc #[.int .i64 a, .int .i64 b] 63 rfl).below hb5; have f0 := (blk_cell (hs2.blk 3 rfl) 0).trans rfl; have f1 := lt_of_some (hs2.blk 3 rfl); have HS2 := Aside0.mk hs2; clear hs2 hb5 d0 d1 e0 e1 hg1 hg0)
             | (at_builtin; obtain ⟨g2, c2, w6, hrun, hrow, hgrow, hown⟩ := appendX intI (l := rawL (L.take i) (x, m)) (v := .slice A na c) a w5.heap.size #[.int .i64 a] 41 ((HS2.out.alloc #[.int .i64 a] 3 rfl).rowX 0 rfl) ((HS2.out.alloc #[.int .i64 a] 3 rfl).blk 4 rfl) rfl HBD.out; have HS3 := Aside0.mk ((HS2.out.alloc #[.int .i64 a] 3 rfl).rowTo 0 rfl hrow hgrow hown); refine wpList_append_run rfl (.tmp 39) (.tmp 42) 41 41 rfl _ _ rfl rfl hrun ?_; rw [HNA.out] at HS3 ⊢; clear hrun hrow hgrow hown f0 f1))
           go_roundg gq
           case measure => omega
           case rel => exact ⟨i + 1, some ⟨g2, 0, none⟩, na + 1, c2, by go_num, rfl, by omega, Aside0.mk (by rw [HADD.out, List.length_append, HNA.out]; rfl), Aside0.mk (by rw [HADD.out]; exact St.left (A := [_, _, _]) HS3.out)⟩
 | some A1 =>
   obtain ⟨rfl, g, hg⟩ := hsome (by simp)
   injection hg with hg
   subst hg
   clear hnone hsome
   refine start_ (n := 14) (S := fun w' => w'.cell? ⟨p, 0, none⟩ = some (.slice Ah nh ch) ∧ w'.cell? ⟨p, 1, none⟩ = some (.slice (some ⟨g, 0, none⟩) nw c')) (ds := []) #[false, false, false, false, false, false, false, false, false, false, false, false, false, false] (by kernel_rfl) rfl rfl ⟨(RowH.below HROW.out (keep_below HS0.out.keep)).c0, (RowH.below HROW.out (keep_below HS0.out.keep)).c1⟩ (fun hHeld => ?_)
   have HS1 := Aside0.mk (HS0.out.drew)
   clear HS0
   generalize W0.drew = W1 at HS1 hHeld  ⊢
   refine pu_ 0 10 (bs_ 14 1) ?_; refine pu_ 1 11 (bs_ 14 3) ?_; refine pu_ 2 12 (bs_ 14 7) ?_; refine pu_ 4 14 (bs_ 14 23) ?_; refine pu_ 5 15 (bs_ 14 55) ?_; refine pu_ 6 16 (bs_ 14 119) ?_; refine pu_ 8 18 (bs_ 14 375) ?_; refine pu_ 13 23 (bs_ 14 8567) ?_; refine ta_ 3 13 (bs_ 14 8575) hHeld ?_; refine ta_ 7 17 (bs_ 14 8703) hHeld ?_; refine pu_ 9 19 (bs_ 14 9215) ?_
   refine one_ (i := 10) (N := (some 20)) (bs_ 14 10239) rfl rfl (by kernel_rfl) (by decide) (fun K_ hK => ?_)
   obtain ⟨vb, hvb⟩ : ∃ v : Nat, W1.heap.size = v := ⟨_, rfl⟩
   refine made_ (v := .slice (some ⟨W1.heap.size, 0, none⟩) 2 2) (w1 := W1.alloc (.cells #[.slice Ah nh ch, (.slice (some ⟨g, 0, none⟩) place c')] 65)) (by rfl) rfl (by go_simp) ?_
   have HS2 := Aside0.mk (HS1.out.alloc #[.slice Ah nh ch, (.slice (some ⟨g, 0, none⟩) place c')] 65 hvb)
   clear HS1
   rw [hvb]
   clear hvb
   clear hHeld
   refine hK.out _ _ ⟨(RowH.below HROW.out (keep_below HS2.out.keep)).c0, (RowH.below HROW.out (keep_below HS2.out.keep)).c1⟩ (fun hHeld => ?_)
   clear hK K_
   generalize W1.alloc (.cells #[.slice Ah nh ch, (.slice (some ⟨g, 0, none⟩) place c')] 65) = w3 at HS2 hHeld  ⊢
   refine norm_ (a' := ?_) ?_ ?_
   rotate_left
   · show Act.put _ (some 20) _ = _
     simp only [Act.put, List.setIfInBounds_toArray, List.set_cons_zero, List.set_cons_succ, i64_w, i32_w]
     rfl
   refine one_ (i := 11) (N := (some 21)) (bs_ 14 12287) rfl rfl (by kernel_rfl) (by decide) (fun K_ hK => ?_)
   refine goes_ Tryz.func61 (by kernel_rfl) rfl #[.slice (some ⟨vb, 0, none⟩) 2 2] (by rfl) rfl rfl (by (try simp only [List.map_toArray, List.map_cons, List.map_nil]); first | done | rfl) ?_
   refine (concat_calls _ vb (.slice Ah nh ch) (.slice (some ⟨g, 0, none⟩) place c') r.holds (r.waits.take place) (HS2.out.blk 1 rfl) (HRX.out.below (keep_below HS2.out.keep)) (HPX.out.below (keep_below HS2.out.keep)) (by have := HLN.out; rw [← HL.out, List.length_append] at this; exact this)).mono ?_
   rintro E w4 ⟨vc, rfl, k⟩
   obtain ⟨Ac, cc, rfl⟩ := (k.rowX 0 rfl).form
   have HS3 := Aside0.mk (St.call0 HS2.out k)
   clear HS2
   clear k
   rw [HL.out] at HS3 ⊢
   obtain ⟨n, hnn⟩ : ∃ n, L.length = n := ⟨_, rfl⟩
   rw [hnn] at HS3 ⊢
   refine ⟨_, rfl, ?_⟩
   clear hHeld
   refine hK.out _ _ ⟨(RowH.below HROW.out (keep_below HS3.out.keep)).c0, (RowH.below HROW.out (keep_below HS3.out.keep)).c1⟩ (fun hHeld => ?_)
   clear hK K_
   refine norm_ (a' := ?_) ?_ ?_
   rotate_left
   · show Act.put _ (some 21) _ = _
     simp only [Act.put, List.setIfInBounds_toArray, List.set_cons_zero, List.set_cons_succ, i64_w, i32_w]
     rfl
   refine pu_ 12 22 (bs_ 14 16383) ?_
   refine done_ (by kernel_rfl) ?_
   have hSa : St w NoF w4 [rowOC (.slice Ac n cc) L, blkC n0 (.cells #[.int .i64 x, .int .i64 m] 63 (0, 0))] := St.left (A := [_, _]) HS3.out
   have HSa := Aside0.mk (hSa.fresh (Below.refl _ _) (rowIC (.slice none 0 0) []) RowX.nil (nd_bl (.slice none 0 0)) (fun b hb => by simp [rowXC, bl] at hb; cases hb))
   have HNN := Aside0.mk hnn
   clear hSa hnn hHeld HS3
   go_wp2
   go_loopg [7, 9, 23] n (fun gq v7 v9 v23 wx => ∃ (i : Nat) (A : Option Addr) (na c : Nat), v23 = .int .i64 i ∧ v7 = .slice A na c ∧ i + gq = n ∧ Aside0 ((rawL (L.take i) (x, m)).length = na) ∧ Aside0 (St w NoF wx [rowIC (.slice A na c) (rawL (L.take i) (x, m)), rowOC (.slice Ac n cc) L, blkC n0 (.cells #[.int .i64 x, .int .i64 m] 63 (0, 0))]))
   case atStart => exact ⟨0, none, 0, 0, rfl, rfl, by omega, Aside0.mk rfl, HSa⟩
   case round =>
     clear HSa
     obtain ⟨i, A, na, c, rfl, rfl, hi, HNA, HS⟩ := hrel
     cases gk with
     | zero =>
       obtain rfl : i = n := by omega
       have ht : L.take i = L := List.take_of_length_le (by rw [HNN.out]; exact Nat.le_refl _)
       rw [ht] at HS HNA
       have HBD := Aside0.mk (show (rawL L (x, m)).length < 1000000 from Nat.lt_of_le_of_lt (rawL_len L (x, m)) HLN.out)
       clear ht
       go_wp2_with (first
         | (go_at_call 63; refine (sort_calls _ _ _ (HS.out.rowX 0 rfl) HBD.out).mono ?_; rintro E w5 ⟨rfl, hrow, hg⟩; have HS2 := Aside0.mk (HS.out.rowTo 0 rfl hrow hg (.inl rfl)); clear hrow hg)
         | (go_at_call 64; refine (compact_calls _ _ _ (HS2.out.rowX 0 rfl) (by rw [srt0, List.length_mergeSort]; exact HBD.out)).mono ?_; rintro E w6 ⟨v', rfl, hrow, hg, ho⟩; have HS3 := Aside0.mk (HS2.out.rowTo 0 rfl hrow hg (.inl ho)); clear hrow hg ho))
       rw [← HR.out]
       exact ⟨_, rfl, by rw [show rawB r (x, m) place = rawL L (x, m) by unfold rawB; rw [HL.out]; rfl]; exact St.left (A := [_]) HS3.out⟩
     | succ gq =>
       have hin : i < n := by omega
       have hin2 : (i : Int) < (n : Int) := by omega
       have hi0 : (0 : Int) ≤ (i : Int) := by omega
       have hi9 : (i : Int) ≤ 1000000 := by have := HLN.out; rw [HNN.out] at this; omega
       obtain ⟨⟨a, b⟩, ho⟩ : ∃ o, L[i]? = some o := ⟨_, List.getElem?_eq_getElem (by rw [HNN.out]; exact hin)⟩
       have hrl : RowX oneE wr (.slice Ac n cc) L := HS.out.rowX 1 rfl
       obtain ⟨g1, c1, hv, _⟩ := row_slice hrl (by rw [HNN.out]; omega)
       obtain ⟨rfl, rfl⟩ : Ac = some ⟨g1, 0, none⟩ ∧ cc = c1 := by
         injection hv with e1 e2 e3
         exact ⟨e1, e3⟩
       obtain ⟨d0, d1⟩ := hrl.ones ho
       have e0 := (blk_cell (HS.out.blk 2 rfl) 0).trans rfl
       have e1 := (blk_cell (HS.out.blk 2 rfl) 1).trans rfl
       have hg1 : g1 < wr.heap.size := World.block_lt_of_cell? _ _ d0
       have hg0 : n0 < wr.heap.size := World.block_lt_of_cell? _ _ e0
       have HO := Aside0.mk ho
       clear ho hv hrl
       by_cases hax : a = x
       · subst hax
         go_wp2
         go_roundg gq
         case measure => omega
         case rel => exact ⟨i + 1, A, na, c, by go_num, rfl, by omega, Aside0.mk (by rw [rawL_skip HO.out (by simp)]; exact HNA.out), Aside0.mk (by rw [rawL_skip HO.out (by simp)]; exact St.left (A := [_, _, _]) (HS.out.alloc #[.int .i64 a, .int .i64 b] 63 rfl))⟩
       · cases hc : conf b m with
         | false =>
           have HC := Aside0.mk hc
           clear hc
           go_wp2_with (go_at_call 62; refine (conf_calls _ b m).mono ?_; rw [HC.out]; rintro E w5 ⟨rfl, hb5⟩; have HS2 := Aside0.mk ((HS.out.alloc #[.int .i64 a, .int .i64 b] 63 rfl).below hb5); clear hb5 d0 d1 e0 e1 hg1 hg0)
           go_roundg gq
           case measure => omega
           case rel => exact ⟨i + 1, A, na, c, by go_num, rfl, by omega, Aside0.mk (by rw [rawL_skip HO.out (by simp [HC.out])]; exact HNA.out), Aside0.mk (by rw [rawL_skip HO.out (by simp [HC.out])]; exact St.left (A := [_, _, _]) HS2.out)⟩
         | true =>
           have HC := Aside0.mk hc
           have HADD := Aside0.mk (rawL_add (o := (x, m)) HO.out (show ((a, b).1 != (x, m).1 && conf (a, b).2 (x, m).2) = true by simp [hax, hc]))
           have HBD := Aside0.mk (show (rawL (L.take i) (x, m)).length < 999999 by have := rawL_len (L.take i) (x, m); rw [List.length_take, HNN.out] at this; have := HLN.out; rw [HNN.out] at this; omega)
           have G1 : True := trivial
           clear hc
           go_wp2_with (first
             | (clear G1; go_at_call 62; refine (conf_calls _ b m).mono ?_; rw [HC.out]; rintro E w5 ⟨rfl, hb5⟩; have hs2 := (HS.out.alloc #[.int .i64 a, .int .i64 b] 63 rfl).below hb5; have f0 := (blk_cell (hs2.blk 3 rfl) 0).trans rfl; have f1 := lt_of_some (hs2.blk 3 rfl); have HS2 := Aside0.mk hs2; clear hs2 hb5 d0 d1 e0 e1 hg1 hg0)
             | (at_builtin; obtain ⟨g2, c2, w6, hrun, hrow, hgrow, hown⟩ := appendX intI (l := rawL (L.take i) (x, m)) (v := .slice A na c) a w5.heap.size #[.int .i64 a] 41 ((HS2.out.alloc #[.int .i64 a] 3 rfl).rowX 0 rfl) ((HS2.out.alloc #[.int .i64 a] 3 rfl).blk 4 rfl) rfl HBD.out; have HS3 := Aside0.mk ((HS2.out.alloc #[.int .i64 a] 3 rfl).rowTo 0 rfl hrow hgrow hown); refine wpList_append_run rfl (.tmp 39) (.tmp 42) 41 41 rfl _ _ rfl rfl hrun ?_; rw [HNA.out] at HS3 ⊢; clear hrun hrow hgrow hown f0 f1))
           go_roundg gq
           case measure => omega
           case rel => exact ⟨i + 1, some ⟨g2, 0, none⟩, na + 1, c2, by go_num, rfl, by omega, Aside0.mk (by rw [HADD.out, List.length_append, HNA.out]; rfl), Aside0.mk (by rw [HADD.out]; exact St.left (A := [_, _, _]) HS3.out)⟩
end Go.Proofs.Kb
end
section
namespace Go.Proofs.Lk
theorem has_iff {l : List One} {t : Int} : has l t = true ↔ ∃ o ∈ l, o.1 = t := by
 unfold has
 rw [List.any_eq_true]
 constructor
 · rintro ⟨o, h1, h2⟩
   exact ⟨o, h1, by simpa using h2⟩
 · rintro ⟨o, h1, h2⟩
   exact ⟨o, h1, by simpa using h2⟩
theorem mem_rawB {r : LRow} {o : One} {p : Nat} {x : Int} : x ∈ rawB r o p ↔ ∃ h ∈ r.holds ++ r.waits.take p, h.1 = x ∧ h.1 ≠ o.1 ∧ conf h.2 o.2 = true := by
 unfold rawB
 rw [List.mem_map]
 constructor
 · rintro ⟨h, hh, rfl⟩
   obtain ⟨h1, h2⟩ := List.mem_filter.1 hh
   rw [Bool.and_eq_true] at h2
   exact ⟨h, h1, rfl, by simpa using h2.1, h2.2⟩
 · rintro ⟨h, h1, rfl, h2, h3⟩
   exact ⟨h, List.mem_filter.2 ⟨h1, by rw [h3]; simpa using h2⟩, rfl⟩
theorem raw_ne {r : LRow} {o : One} {p : Nat} : rawB r o p ≠ [] ↔ ∃ h ∈ r.holds ++ r.waits.take p, h.1 ≠ o.1 ∧ conf h.2 o.2 = true := by
 constructor
 · intro h
   obtain ⟨x, hx⟩ := List.exists_mem_of_ne_nil _ h
   obtain ⟨h, h1, _, h2, h3⟩ := mem_rawB.1 hx
   exact ⟨h, h1, h2, h3⟩
 · rintro ⟨h, h1, h2, h3⟩
   exact List.ne_nil_of_mem (mem_rawB.2 ⟨h, h1, rfl, h2, h3⟩)
structure RInv (r : LRow) : Prop where
 hn : (r.holds.map (·.1)).Nodup
 wn : (r.waits.map (·.1)).Nodup
 hm : ∀ h ∈ r.holds, right h.2 = true
 wm : ∀ h ∈ r.waits, right h.2 = true
 safe : ∀ a ∈ r.holds, ∀ b ∈ r.holds, a.1 ≠ b.1 → conf a.2 b.2 = false
 up : ∀ w ∈ r.waits, ∀ h ∈ r.holds, h.1 = w.1 → cov w.2 h.2 = true
def Blk (r : LRow) (n : Nat) : Prop := ∀ j, j < n → ∀ o, r.waits[j]? = some o → rawB r o j ≠ []
theorem mem_give {l : List One} {o x : One} (hx : x ∈ give l o) : x = o ∨ (x ∈ l ∧ x.1 ≠ o.1) := by
 unfold give at hx
 split at hx
 · obtain ⟨h, hh, rfl⟩ := List.mem_map.1 hx
   by_cases e : h.1 = o.1
   · simp [e]
   · simp [e, hh]
 · rename_i hn
   rcases List.mem_append.1 hx with h | h
   · refine .inr ⟨h, fun e => hn (has_iff.2 ⟨x, h, e⟩)⟩
   · simp at h
     exact .inl h
theorem give_self (l : List One) (o : One) : o ∈ give l o := by
 unfold give
 split
 · rename_i h
   obtain ⟨x, hx, e⟩ := has_iff.1 h
   exact List.mem_map.2 ⟨x, hx, by simp [e]⟩
 · simp
theorem give_other {l : List One} {o x : One} (hx : x ∈ l) (hne : x.1 ≠ o.1) : x ∈ give l o := by
 unfold give
 split
 · exact List.mem_map.2 ⟨x, hx, by simp [hne]⟩
 · exact List.mem_append_left _ hx
theorem give_nodup {l : List One} {o : One} (h : (l.map (·.1)).Nodup) : ((give l o).map (·.1)).Nodup := by
 unfold give
 split
 · rw [List.map_map]
   have : ((fun x : One => x.1) ∘ fun h : One => if (h.1 == o.1) = true then o else h) = fun x : One => x.1 := by
     funext x
     by_cases e : x.1 = o.1 <;> simp [e]
   rw [this]
   exact h
 · rename_i hn
   rw [List.map_append, List.nodup_append]
   refine ⟨h, by simp, fun a ha b hb e => ?_⟩
   simp at hb
   subst hb
   subst e
   obtain ⟨x, hx, e⟩ := List.mem_map.1 ha
   exact hn (has_iff.2 ⟨x, hx, e⟩)
theorem give_safe {l : List One} {o : One} (hm : ∀ h ∈ l, right h.2 = true) (ho : right o.2 = true) (hs : ∀ a ∈ l, ∀ b ∈ l, a.1 ≠ b.1 → conf a.2 b.2 = false) (hb : ∀ h ∈ l, h.1 ≠ o.1 → conf h.2 o.2 = false) :
   ∀ a ∈ give l o, ∀ b ∈ give l o, a.1 ≠ b.1 → conf a.2 b.2 = false := by
 intro a ha b hb2 hne
 rcases mem_give ha with e1 | ⟨ha1, ha2⟩
 · rcases mem_give hb2 with e2 | ⟨hb1, hb3⟩
   · exact absurd (by rw [e1, e2]) hne
   · rw [e1, conf_symm ho (hm b hb1)]
     exact hb b hb1 hb3
 · rcases mem_give hb2 with e2 | ⟨hb1, hb3⟩
   · rw [e2]
     exact hb a ha1 (by rw [e2] at hne; exact hne)
   · exact hs a ha1 b hb1 hne
theorem no_raw {r : LRow} {o : One} {p : Nat} (h : rawB r o p = []) : ∀ x ∈ r.holds, x.1 ≠ o.1 → conf x.2 o.2 = false := by
 intro x hx hne
 cases hc : conf x.2 o.2 with
 | false => rfl
 | true =>
   have : x.1 ∈ rawB r o p := mem_rawB.2 ⟨x, List.mem_append_left _ hx, rfl, hne, hc⟩
   rw [h] at this
   cases this
theorem nodup_ne {l : List One} (h : (l.map (·.1)).Nodup) {i : Nat} {o w : One} (hi : l[i]? = some o) (hw : w ∈ l.eraseIdx i) : w.1 ≠ o.1 := by
 induction l generalizing i with
 | nil => simp at hi
 | cons x l ih =>
   rw [List.map_cons, List.nodup_cons] at h
   cases i with
   | zero =>
     simp at hi hw
     subst hi
     exact fun e => h.1 (List.mem_map.2 ⟨w, hw, e⟩)
   | succ i =>
     simp at hi hw
     rcases hw with rfl | hw
     · exact fun e => h.1 (List.mem_map.2 ⟨o, List.mem_of_getElem? hi, e.symm⟩)
     · exact ih h.2 hi hw
theorem erase_nodup {l : List One} (h : (l.map (·.1)).Nodup) (i : Nat) : ((l.eraseIdx i).map (·.1)).Nodup := h.sublist ((List.eraseIdx_sublist l i).map _)
theorem give_inv {r : LRow} {i : Nat} {o : One} (h : RInv r) (ho : r.waits[i]? = some o) (hr : rawB r o i = []) : RInv ⟨give r.holds o, r.waits.eraseIdx i⟩ := by
 have hom := h.wm o (List.mem_of_getElem? ho)
 have hsub : ∀ w ∈ r.waits.eraseIdx i, w ∈ r.waits := fun w hw => (List.eraseIdx_sublist _ _).subset hw
 refine ⟨give_nodup h.hn, erase_nodup h.wn i, fun x hx => ?_, fun x hx => h.wm x (hsub x hx), give_safe h.hm hom h.safe (no_raw hr), fun w hw x hx e => ?_⟩
 · rcases mem_give hx with rfl | ⟨hx, _⟩
   · exact hom
   · exact h.hm x hx
 · have hwo := nodup_ne h.wn ho hw
   rcases mem_give hx with rfl | ⟨hx, _⟩
   · exact absurd e.symm hwo
   · exact h.up w (hsub w hw) x hx e
theorem give_blk {r : LRow} {i : Nat} {o : One} (h : RInv r) (ho : r.waits[i]? = some o) (hb : Blk r i) : Blk ⟨give r.holds o, r.waits.eraseIdx i⟩ i := by
 intro j hj w hw
 have hw2 : r.waits[j]? = some w := by
   change (r.waits.eraseIdx i)[j]? = some w at hw
   rw [List.getElem?_eraseIdx_of_lt hj] at hw
   exact hw
 have hwo : w.1 ≠ o.1 := by
   refine nodup_ne h.wn ho ?_
   have : (r.waits.eraseIdx i)[j]? = some w := hw
   exact List.mem_of_getElem? this
 obtain ⟨x, hx, h1, h2⟩ := raw_ne.1 (hb j hj w hw2)
 rw [raw_ne]
 have htake : (r.waits.eraseIdx i).take j = r.waits.take j := by
   rw [List.eraseIdx_eq_take_drop_succ, List.take_append_of_le_length (by
     have := (List.getElem?_eq_some_iff.1 ho).1
     rw [List.length_take]; omega), List.take_take, Nat.min_eq_left (by omega)]
 show ∃ x ∈ give r.holds o ++ (r.waits.eraseIdx i).take j, _
 rw [htake]
 rcases List.mem_append.1 hx with hx | hx
 · by_cases e : x.1 = o.1
   · exact ⟨o, List.mem_append_left _ (give_self _ _), fun e2 => hwo e2.symm, cov_conf (h.up o (List.mem_of_getElem? ho) x hx e) h2⟩
   · exact ⟨x, List.mem_append_left _ (give_other hx e), h1, h2⟩
 · exact ⟨x, List.mem_append_right _ hx, h1, h2⟩
theorem sweepA_good : ∀ (k : Nat) (r : LRow) (i : Nat), RInv r → Blk r i → r.waits.length < i + k → RInv (sweepA k r i).1 ∧ Blk (sweepA k r i).1 (sweepA k r i).1.waits.length
 | 0, r, i, h, hb, hk => ⟨h, fun j hj => hb j (by show j < i; have : j < r.waits.length := hj; omega)⟩
 | k + 1, r, i, h, hb, hk => by
   unfold sweepA
   cases ho : r.waits[i]? with
   | none =>
     rw [List.getElem?_eq_none_iff] at ho
     exact ⟨h, fun j hj => hb j (by have : j < r.waits.length := hj; omega)⟩
   | some o =>
     have hi := (List.getElem?_eq_some_iff.1 ho).1
     by_cases hr : rawB r o i = []
     · simp only [hr, if_true]
       exact sweepA_good k _ i (give_inv h ho hr) (give_blk h ho hb) (by
         show (r.waits.eraseIdx i).length < i + k
         rw [List.length_eraseIdx_of_lt hi]
         omega)
     · simp only [hr, if_false]
       refine sweepA_good k r (i + 1) h (fun j hj w hw => ?_) (by omega)
       by_cases e : j = i
       · subst e
         rw [ho] at hw
         obtain rfl := Option.some.inj hw
         exact hr
       · exact hb j (by omega) w hw
theorem sweepR_good {r : LRow} (h : RInv r) : RInv (sweepR r).1 ∧ Blk (sweepR r).1 (sweepR r).1.waits.length := sweepA_good _ r 0 h (fun j hj => absurd hj (Nat.not_lt_zero _)) (by omega)
theorem dropR_inv {r : LRow} (h : RInv r) (t : Int) : RInv (dropR r t) :=
 ⟨h.hn.sublist (List.filter_sublist.map _), h.wn.sublist (List.filter_sublist.map _), fun x hx => h.hm x (List.mem_filter.1 hx).1, fun x hx => h.wm x (List.mem_filter.1 hx).1,
   fun a ha b hb => h.safe a (List.mem_filter.1 ha).1 b (List.mem_filter.1 hb).1, fun w hw x hx => h.up w (List.mem_filter.1 hw).1 x (List.mem_filter.1 hx).1⟩
end Go.Proofs.Lk
end
section
namespace Go.Proofs.Kb
open Go Go.RowKit Go.Proofs.YtkcjcdkmdooofaaGreat.Q Go.Proofs.YtkcjcdkmdooofaaGreatW.PrintWords Go.Proofs.YtkcjcdkmdooofaaGreatW.PrintLast Go.Proofs.YtkcjcdkmdooofaaGreatW.PrintMore
set_option maxRecDepth 100000
open Go.Proofs.Lk
theorem sweepA_end : ∀ (k : Nat) (r : LRow) (i : Nat), r.waits.length ≤ i → sweepA k r i = (r, [])
 | 0, r, i, h => rfl
 | k + 1, r, i, h => by
   unfold sweepA
   rw [List.getElem?_eq_none h]
theorem sweepA_skip {k : Nat} {r : LRow} {i : Nat} {o : One} (ho : r.waits[i]? = some o) (h : rawB r o i ≠ []) : sweepA (k + 1) r i = sweepA k r (i + 1) := by
 conv => lhs; unfold sweepA
 rw [ho]
 simp [h]
theorem sweepA_give {k : Nat} {r : LRow} {i : Nat} {o : One} (ho : r.waits[i]? = some o) (h : rawB r o i = []) : sweepA (k + 1) r i = ((sweepA k ⟨Lk.give r.holds o, r.waits.eraseIdx i⟩ i).1, o.1 :: (sweepA k ⟨Lk.give r.holds o, r.waits.eraseIdx i⟩ i).2) := by
 conv => lhs; unfold sweepA
 rw [ho]
 simp [h]
theorem give_len (l : List One) (o : One) : (Lk.give l o).length ≤ l.length + 1 := by
 unfold Lk.give
 split <;> simp
theorem srtI_nil {l : List Int} : srtI l = [] ↔ l = [] := by
 constructor
 · intro h
   cases l with
   | nil => rfl
   | cons x l =>
     have := (mem_srtI (x :: l) x).2 List.mem_cons_self
     rw [h] at this
     cases this
 · rintro rfl
   cases h : srtI [] with
   | nil => rfl
   | cons y l =>
     have := (mem_srtI [] y).1 (by rw [h]; exact List.mem_cons_self)
     cases this
theorem blockers_some (W : World) (p : Nat) (hv wv : Value) (r : LRow) (o : One) (place : Nat) (h : RowH W p hv wv r) (hpl : place ≤ r.waits.length) (hn : r.holds.length + r.waits.length < 1000000) :
   Calls Tryz.prog 33 #[ptr p, oneV o, .int .i64 place] W fun E w' => ∃ A n c, E = .returned (.slice A n c) ∧ (rawB r o place = [] ↔ n = 0) ∧ Below W.heap.size W w' := by
 refine (blockers_calls W p hv wv r o place h hpl hn).mono ?_
 rintro E w' ⟨v, rfl, k⟩
 obtain ⟨A, c, rfl⟩ := (k.rowX 0 rfl).form
 exact ⟨A, _, c, rfl, by rw [List.length_eq_zero_iff, srtI_nil], keep_below k.keep⟩
def SweepPost (w : World) (F : Nat → Prop) (p : Nat) (r : LRow) (E : Ending) (w' : World) : Prop :=
 ∃ v hv wv, E = .returned v ∧ St w F w' (row3 p hv wv (sweepR r).1 ++ [rowIC v (sweepR r).2])
set_option maxHeartbeats 4000000 in
theorem rsweep_calls (w : World) (p : Nat) (hv wv : Value) (r : LRow) (F : Nat → Prop) (s : St w F w (row3 p hv wv r)) (hn : r.holds.length + r.waits.length < 999999) (hnd : (r.holds.map (·.1)).Nodup) :
   Calls Tryz.prog 70 #[ptr p] w (SweepPost w F p r) := by
 obtain ⟨R, hR⟩ : ∃ R, SweepPost w F p r = R := ⟨_, rfl⟩
 have HR := Aside0.mk hR
 rw [hR]
 have hu64 := Tryz.underlying67
 have hu66 := Tryz.underlying63
 have hz66 := Tryz.sizeOf63
 have hu62 := Tryz.underlying65
 have hu39 := Tryz.underlying41
 have HN := Aside0.mk hn
 have HND := Aside0.mk hnd
 have hs0 : St w F w (row3 p hv wv r ++ [rowIC (.slice none 0 0) []]) := by
   have h1 := s.fresh (Below.refl _ _) (rowIC (.slice none 0 0) []) RowX.nil (nd_bl (.slice none 0 0)) (fun b hb => by simp [rowXC, bl] at hb; cases hb)
   exact h1.perm (perm_ix _ [1, 2, 3, 0] 4 rfl (by decide))
 have HS0 := Aside0.mk hs0
 obtain ⟨Ah, ch, rfl⟩ := (s.rowX 1 rfl).form
 obtain ⟨Aw, cw, rfl⟩ := (s.rowX 2 rfl).form
 clear hR hn hnd hs0 s
 have HS0' := Aside0.mk (show ∃ hv wv, St w F w (row3 p hv wv r ++ [rowIC (.slice none 0 0) []]) from ⟨_, _, HS0.out⟩)
 clear HS0
 unfold ptr
 go_enter Tryz.func70, Tryz.ntmps70
 go_wp2
 go_loopg [3, 4, 5] r.waits.length (fun gq v3 v4 v5 wx => ∃ (rk : LRow) (i k na : Nat) (acc : List Int) (A : Option Addr) (c : Nat), v4 = .int .i64 i ∧ v3 = .slice A na c ∧ i + gq = rk.waits.length ∧
   Aside0 (acc.length = na) ∧ Aside0 ((sweepR r).1 = (sweepA k rk i).1 ∧ (sweepR r).2 = acc ++ (sweepA k rk i).2 ∧ rk.waits.length < i + k) ∧ Aside0 (rk.holds.length + rk.waits.length ≤ r.holds.length + r.waits.length ∧ na + rk.waits.length ≤ r.waits.length) ∧ Aside0 (rk.holds.map (·.1)).Nodup ∧
   Aside0 (∃ hv wv, St w F wx (row3 p hv wv rk ++ [rowIC (.slice A na c) acc])))
 case atStart => exact ⟨r, 0, r.waits.length + 1, 0, [], none, 0, rfl, rfl, by omega, Aside0.mk rfl, Aside0.mk ⟨rfl, rfl, by omega⟩, Aside0.mk ⟨Nat.le_refl _, by omega⟩, HND, HS0'⟩
 case round =>
   clear HS0'
   obtain ⟨rk, i, k, na, acc, A, c, rfl, rfl, hi, HNA, HSW, HLE, HNDK, HS'⟩ := hrel
   obtain ⟨hv, wv, hs⟩ := HS'.out
   clear HS'
   obtain ⟨Ah, ch, rfl⟩ := (hs.rowX 1 rfl).form
   obtain ⟨Aw, cw, rfl⟩ := (hs.rowX 2 rfl).form
   obtain ⟨c0, c1, cf⟩ := hs.cells64 0 rfl
   have hlt := World.block_lt_of_cell? wr _ c0
   obtain ⟨nh, hnh⟩ : ∃ n, rk.holds.length = n := ⟨_, rfl⟩
   obtain ⟨nw, hnw⟩ : ∃ n, rk.waits.length = n := ⟨_, rfl⟩
   rw [hnh, hnw] at hs HLE
   rw [hnh] at c0
   rw [hnw] at c1 hi HSW
   have HNH := Aside0.mk hnh
   have HNW := Aside0.mk hnw
   have HS := Aside0.mk hs
   clear hs hnh hnw
   cases gk with
   | zero =>
     obtain rfl : i = nw := by omega
     go_wp2
     rw [← HR.out]
     obtain ⟨e1, e2, _⟩ := HSW.out
     rw [sweepA_end k rk i (by rw [HNW.out]; exact Nat.le_refl _)] at e1 e2
     refine ⟨_, .slice Ah nh ch, .slice Aw i cw, rfl, ?_⟩
     rw [e1, e2, List.append_nil]
     exact HS.out
   | succ gq =>
     have hin : i < nw := by omega
     have hin2 : (i : Int) < (nw : Int) := by omega
     have hi0 : (0 : Int) ≤ (i : Int) := by omega
     have hi9 : (i : Int) ≤ 1000000 := by have := HLE.out; have := HN.out; omega
     obtain ⟨⟨a, b⟩, ho⟩ : ∃ o, rk.waits[i]? = some o := ⟨_, List.getElem?_eq_getElem (by rw [HNW.out]; exact hin)⟩
     have hrl : RowX oneE wr (.slice Aw nw cw) rk.waits := HS.out.rowX 2 rfl
     obtain ⟨g1, c1', hv, hcw⟩ := row_slice hrl (by rw [HNW.out]; omega)
     obtain ⟨rfl, rfl⟩ : Aw = some ⟨g1, 0, none⟩ ∧ cw = c1' := by
       injection hv with e1 e2 e3
       exact ⟨e1, e3⟩
     obtain ⟨d0, d1⟩ := hrl.ones ho
     have hg1 : g1 < wr.heap.size := World.block_lt_of_cell? _ _ d0
     have HO := Aside0.mk ho
     have HSA := Aside0.mk (HS.out.alloc #[.int .i64 a, .int .i64 b] 63 rfl)
     obtain ⟨n5, hn5⟩ : ∃ n, wr.heap.size = n := ⟨_, rfl⟩
     rw [hn5] at HSA
     have hpn : p ≠ n5 := by (have := hlt; simp only at this; omega)
     have hpn2 : n5 ≠ p := fun e => hpn e.symm
     have hbnd : rk.holds.length + rk.waits.length < 1000000 := by have := HLE.out; have := HN.out; rw [HNH.out, HNW.out]; omega
     have HBND := Aside0.mk hbnd
     have A30 := Aside0.mk (fun W (h : RowH W p (.slice Ah nh ch) (.slice (some ⟨g1, 0, none⟩) nw cw) rk) => blockers_some W p _ _ rk (a, b) i h (by rw [HNW.out]; omega) HBND.out)
     unfold ptr oneV at A30
     clear ho hv hrl HS hbnd
     have hk : ∃ k', k = k' + 1 := ⟨k - 1, by have := HSW.out.2.2; omega⟩
     obtain ⟨k', rfl⟩ := hk
     by_cases hb : rawB rk (a, b) i = []
     · have HB := Aside0.mk hb
       have hn1 : nw - 1 < 1000000 := by have := HLE.out; have := HN.out; omega
       have A47 := Aside0.mk (fun W (h : RowX oneE W (.slice (some ⟨g1, 0, none⟩) nw cw) rk.waits) => deleteO W g1 nw cw i rk.waits (i : Int) ((i : Int) + 1) h HNW.out hin (by have := HLE.out; have := HN.out; omega) rfl rfl)
       have A38 := Aside0.mk (fun W hv' wv' (h : St W (fun b => b ∈ fpc (row3 p hv' wv' ⟨rk.holds, rk.waits.eraseIdx i⟩)) W (row3 p hv' wv' ⟨rk.holds, rk.waits.eraseIdx i⟩)) => give_calls W p hv' wv' ⟨rk.holds, rk.waits.eraseIdx i⟩ (a, b) _ h (by have := HLE.out; have := HN.out; rw [HNH.out]; omega) HNDK.out)
       unfold ptr oneV at A38
       have HAB := Aside0.mk (show acc.length < 999999 by have := HLE.out; have := HN.out; rw [HNA.out]; omega)
       have G1 : True := trivial
       have G2 : True := trivial
       have G3 : True := trivial
       clear hb
       go_wp2_with (first
         | (clear G1; go_at_call 33; refine (A30.out _ (St.rowH HSA.out)).mono ?_; rintro E w5 ⟨Ab, nb, cb, rfl, hb0, hb5⟩; obtain rfl := hb0.1 HB.out; have hs5 := HSA.out.below hb5; obtain ⟨c0', c1', cf'⟩ := hs5.cells64 0 rfl; have f0 := (blk_cell (hs5.blk 4 rfl) 0).trans rfl; have f1 := (blk_cell (hs5.blk 4 rfl) 1).trans rfl; have hl5 := lt_of_some (hs5.blk 4 rfl); have hlp := World.block_lt_of_cell? _ _ c0'; have HS5 := Aside0.mk hs5; clear hs5 hb5 hb0 c0 c1 cf d0 d1 hg1 hlt)
         | (clear G2; go_at_call 44; refine (A47.out _ (HS5.out.rowX 2 rfl)).mono ?_; rintro E w6 ⟨rfl, hrow, hgr⟩; have hs6 := (HS5.out.rowTo 2 rfl hrow hgr (.inl rfl)); clear c0' c1' cf' f0 f1 hl5 hlp hrow hgr; obtain ⟨c0', c1', cf'⟩ := hs6.cells64 0 rfl; have hlp := World.block_lt_of_cell? _ _ c0'; have HS6 := Aside0.mk (hs6.put64b 0 rfl (.slice (some ⟨g1, 0, none⟩) (nw - 1) cw)); have f0 := (blk_cell (hs6.blk 4 rfl) 0).trans rfl; have f1 := (blk_cell (hs6.blk 4 rfl) 1).trans rfl; have hl5 := lt_of_some (hs6.blk 4 rfl); clear hs6)
         | (clear G3; go_at_call 35; have hs7 := HS6.out; refine (A38.out _ (.slice Ah nh ch) (.slice (some ⟨g1, 0, none⟩) (nw - 1) cw) (St.sub (A := row3 p _ _ ⟨rk.holds, rk.waits.eraseIdx i⟩) hs7)).mono ?_; rintro E w7 ⟨rfl, hv7, wv7, k7⟩; have hs8 := St.call (A := row3 p _ _ ⟨rk.holds, rk.waits.eraseIdx i⟩) hs7 k7; clear c0' c1' cf' f0 f1 hl5 hlp; have f0 := (blk_cell (hs8.blk 4 rfl) 0).trans rfl; have hl5 := lt_of_some (hs8.blk 4 rfl); have HS8 := Aside0.mk hs8; clear hs7 hs8 k7)
         | (at_builtin; obtain ⟨g2, c2, w9, hrun, hrow, hgrow, hown⟩ := appendX intI (l := acc) (v := .slice A na c) a w7.heap.size #[.int .i64 a] 41 ((HS8.out.alloc #[.int .i64 a] 3 rfl).rowX 3 rfl) ((HS8.out.alloc #[.int .i64 a] 3 rfl).blk 5 rfl) rfl HAB.out; have HS9 := Aside0.mk ((HS8.out.alloc #[.int .i64 a] 3 rfl).rowTo 3 rfl hrow hgrow hown); refine wpList_append_run rfl (.tmp 42) (.tmp 45) 41 41 rfl _ _ rfl rfl hrun ?_; rw [HNA.out] at HS9 ⊢; clear hrun hrow hgrow hown f0))
       go_roundg gq
       case measure => omega
       case rel =>
         refine ⟨⟨Lk.give rk.holds (a, b), rk.waits.eraseIdx i⟩, i, k', na + 1, acc ++ [a], some ⟨g2, 0, none⟩, c2, rfl, rfl, ?_, Aside0.mk ?_, Aside0.mk ?_, Aside0.mk ?_, Aside0.mk (give_nodup HNDK.out), Aside0.mk ⟨hv7, wv7, St.left (A := [_, _, _, _]) HS9.out⟩⟩
         · show i + gq = (rk.waits.eraseIdx i).length
           rw [List.length_eraseIdx_of_lt (by rw [HNW.out]; exact hin), HNW.out]
           omega
         · rw [List.length_append, HNA.out]; rfl
         · obtain ⟨e1, e2, e3⟩ := HSW.out
           rw [sweepA_give HO.out HB.out] at e1 e2
           refine ⟨e1, by rw [e2]; simp, ?_⟩
           show (rk.waits.eraseIdx i).length < _
           rw [List.length_eraseIdx_of_lt (by rw [HNW.out]; exact hin), HNW.out]
           omega
         · have h1 := give_len rk.holds (a, b)
           have h2 : (rk.waits.eraseIdx i).length = nw - 1 := by rw [List.length_eraseIdx_of_lt (by rw [HNW.out]; exact hin), HNW.out]
           have h3 := HLE.out
           rw [HNH.out] at h1
           show (Lk.give rk.holds (a, b)).length + (rk.waits.eraseIdx i).length ≤ _ ∧ na + 1 + (rk.waits.eraseIdx i).length ≤ _
           omega
     · have HB := Aside0.mk hb
       have G1 : True := trivial
       clear hb
       go_wp2_with (clear G1; go_at_call 33; refine (A30.out _ (St.rowH HSA.out)).mono ?_; rintro E w5 ⟨Ab, nb, cb, rfl, hb0, hb5⟩; have hnb : (0 : Int) < (nb : Int) := (by have : nb ≠ 0 := fun e => HB.out (hb0.2 e); omega); have HS5 := Aside0.mk (HSA.out.below hb5); clear hb5 hb0 c0 c1 cf d0 d1 hg1 hlt)
       go_roundg gq
       case measure => omega
       case rel =>
         refine ⟨rk, i + 1, k', na, acc, A, c, by go_num, rfl, by rw [HNW.out]; omega, HNA, Aside0.mk ?_, Aside0.mk (by rw [HNH.out, HNW.out]; exact HLE.out), HNDK, Aside0.mk ⟨_, _, St.left (A := [_, _, _, _]) HS5.out⟩⟩
         obtain ⟨e1, e2, e3⟩ := HSW.out
         rw [sweepA_skip HO.out HB.out] at e1 e2
         exact ⟨e1, e2, by rw [HNW.out]; omega⟩
end Go.Proofs.Kb
end
section
namespace Go.Proofs.YtkcjcdkmdooofaaGreat.Q
open Go.RowKit Go.Proofs.YtkcjcdkmdooofaaGreatW.PrintWords Go.Proofs.YtkcjcdkmdooofaaGreatW.PrintLast Go.Proofs.YtkcjcdkmdooofaaGreatW.PrintMore
set_option maxRecDepth 100000
def cmpB (a b : ByteArray) : Int := if Op.bytesLess a.toList b.toList = true then -1 else if (a.toList == b.toList) = true then 0 else 1
def cmp_Compare_string.f (a0 : ByteArray) (a1 : ByteArray) : Option (Int) := some (cmpB a0 a1)
set_option maxHeartbeats 1000000 in
theorem cmp_Compare_string.calls (a0 : ByteArray) (a1 : ByteArray) (r : Int) (w : World) (h : cmp_Compare_string.f a0 a1 = some r) :
   Calls Tryz.prog 73 #[.string a0, .string a1] w fun e w' => e = .returned (.int .i64 r) ∧ Drawn0 w w' := by
 unfold cmp_Compare_string.f cmpB at h
 simp only [Option.some.injEq] at h
 subst h
 by_cases h1 : Op.bytesLess a0.toList a1.toList = true
 · rw [if_pos h1]
   go_enter Tryz.func73, Tryz.ntmps73
   go_wp2
   go_ret
   exact ⟨rfl, Drawn0.refl _⟩
 · have h1' : Op.bytesLess a0.toList a1.toList = false := by simpa using h1
   rw [if_neg h1]
   by_cases h2 : (a0.toList == a1.toList) = true
   · rw [if_pos h2]
     go_enter Tryz.func73, Tryz.ntmps73
     go_wp2
     go_ret
     exact ⟨rfl, Drawn0.refl _⟩
   · have h2' : (a0.toList == a1.toList) = false := by simpa using h2
     rw [if_neg h2]
     go_enter Tryz.func73, Tryz.ntmps73
     go_wp2
     go_ret
     exact ⟨rfl, Drawn0.refl _⟩
end Go.Proofs.YtkcjcdkmdooofaaGreat.Q
end
section
namespace Go.Proofs.YtkcjcdkmdooofaaGreat.Q
open Go.RowKit Go.Proofs.YtkcjcdkmdooofaaGreatW.PrintWords Go.Proofs.YtkcjcdkmdooofaaGreatW.PrintLast Go.Proofs.YtkcjcdkmdooofaaGreatW.PrintMore
attribute [local go_sem] max2_int min2_int max_two min_two max_three min_three max_four min_four
def cmp_Or_int.l0 : Nat → Int → List Int → Int → Int → Option (Int)
 | 0, _, _, _, _ => none
 | k + 1, x3, x6, x7, x8 => if x8 < x7 then (if 0 ≤ x8 then (if x8 < (x6.length : Int) then (if (rd x6 x8) = x3 then (cmp_Or_int.l0 k x3 x6 x7 (wrap64 (x8 + 1))) else (some (rd x6 x8))) else (none)) else (none)) else (some x3)
def cmp_Or_int.f (k : Nat) (l0 : List Int) : Option (Int) := cmp_Or_int.l0 k 0 l0 (l0.length : Int) 0
theorem cmp_Or_int.mono_l : ∀ k, (∀ y0 y1 y2 y3, LeO (cmp_Or_int.l0 k y0 y1 y2 y3) (cmp_Or_int.l0 (k + 1) y0 y1 y2 y3))
 | 0 => fun _ _ _ _ r h => by simp [cmp_Or_int.l0] at h
 | k + 1 => by
   have ih0 := cmp_Or_int.mono_l k
   · intro y0 y1 y2 y3
     unfold cmp_Or_int.l0
     repeat' first
     | (with_reducible exact ih0 _ _ _ _)
     | (with_reducible exact LeO.refl _)
     | (with_reducible exact LeO.none _)
     | (with_reducible refine LeO.ite ?_ ?_)
     | (with_reducible refine LeO.bind ?_ (fun _ => ?_))
     | exact ih0 _ _ _ _
     | exact LeO.none _
     | refine LeO.ite ?_ ?_
     | refine LeO.bind ?_ (fun _ => ?_)
theorem cmp_Or_int.mono : ∀ a0 k, LeO (cmp_Or_int.f k a0) (cmp_Or_int.f (k + 1) a0) := by
 intro a0 k
 have ih0 := cmp_Or_int.mono_l k
 unfold cmp_Or_int.f
 repeat' first
     | (with_reducible exact ih0 _ _ _ _)
     | (with_reducible exact LeO.refl _)
     | (with_reducible exact LeO.none _)
     | (with_reducible refine LeO.ite ?_ ?_)
     | (with_reducible refine LeO.bind ?_ (fun _ => ?_))
     | exact ih0 _ _ _ _
     | exact LeO.none _
     | refine LeO.ite ?_ ?_
     | refine LeO.bind ?_ (fun _ => ?_)
set_option maxHeartbeats 8000000 in
set_option maxRecDepth 100000 in
theorem cmp_Or_int.calls (k : Nat) (A0 : Option Addr) (c0 : Nat) (l0 : List Int) (r : Int) (w : World) (hr0 : Kd.C (Kd.int .i64) w A0 l0.length l0) (hc0 : l0.length ≤ c0) (h : cmp_Or_int.f k l0 = some r) :
   Calls Tryz.prog 71 #[.slice A0 l0.length c0] w fun e w' => e = .returned (.int .i64 r) ∧ Drawn0 w w' := by
 have HR0 := Aside0.mk hr0
 have HC0 := Aside0.mk hc0
 clear hr0 hc0
 have H : (cmp_Or_int.l0 k 0 l0 (l0.length : Int) 0) = some r := h
 clear h
 have H' := Aside0.mk H
 clear H
 go_enter Tryz.func71, Tryz.ntmps71
 go_wp2
 go_loopg [8] k (fun kq v8 w' => ∃ (x8_1 : Int), v8 = .int .i64 x8_1 ∧ Aside0 (cmp_Or_int.l0 kq 0 l0 (l0.length : Int) x8_1 = some r) ∧ Aside0 (kq ≤ k) ∧ Drawn0 w w')
 case atStart => exact ⟨(0), (by first | rfl | (simp; done) | (simp [*]; done)), H', ⟨Nat.le_refl _⟩, by repeat (first | exact Drawn0.refl _ | apply Drawn0.step)⟩
 case round =>
   clear H'
   obtain ⟨x8_1, rfl, HA, HK1, ⟨m1, rfl⟩⟩ := hrel
   cases gk with
   | zero => exact absurd HA.out (by simp [cmp_Or_int.l0])
   | succ k1 =>
     have H := HA.out
     clear HA
     simp only [cmp_Or_int.l0] at H
     by_cases c2 : x8_1 < (l0.length : Int)
     · rw [if_pos c2] at H
       have c2b0 : decide (x8_1 < (l0.length : Int)) = true := decide_eq_true c2
       clear c2
       by_cases c3 : 0 ≤ x8_1
       · rw [if_pos c3] at H
         have c3b0 : decide (0 ≤ x8_1) = true := decide_eq_true c3
         clear c3
         by_cases c4 : x8_1 < (l0.length : Int)
         · rw [if_pos c4] at H
           have c4b0 : decide (x8_1 < (l0.length : Int)) = true := decide_eq_true c4
           clear c4
           by_cases c5 : (rd l0 x8_1) = 0
           · rw [if_pos c5] at H
             have c5b0 : ((rd l0 x8_1) == 0) = true := beq_iff_eq.mpr c5
             have c5b1 : ((rd l0 x8_1) != 0) = false := bne_eq_false_iff_eq.mpr c5
             clear c5
             have H' := Aside0.mk H
             clear H
             have p304 : 0 ≤ (x8_1 : Int) := of_decide_eq_true (by first | (with_reducible assumption) | assumption)
             have q304 : x8_1 < (l0.length : Int) := of_decide_eq_true (by first | (with_reducible assumption) | assumption)
             obtain ⟨ad304, e304, hx304_0⟩ := Kd.at_int HR0.out x8_1 p304 q304
             cases e304
             replace p304 := eq_true p304
             replace q304 := eq_true q304
             go_wp2
             go_roundg k1
             case measure => have := HK1.out; omega
             case rel => exact ⟨(wrap64 (x8_1 + 1)), (by first | rfl | (simp; done) | (simp [*]; done)), H', ⟨by have := HK1.out; omega⟩, by repeat (first | exact Drawn0.refl _ | apply Drawn0.step)⟩
           · rw [if_neg c5] at H
             have c5b0 : ((rd l0 x8_1) == 0) = false := beq_eq_false_iff_ne.mpr c5
             have c5b1 : ((rd l0 x8_1) != 0) = true := bne_iff_ne.mpr c5
             obtain rfl := Option.some.inj H
             have p304 : 0 ≤ (x8_1 : Int) := of_decide_eq_true (by first | (with_reducible assumption) | assumption)
             have q304 : x8_1 < (l0.length : Int) := of_decide_eq_true (by first | (with_reducible assumption) | assumption)
             obtain ⟨ad304, e304, hx304_0⟩ := Kd.at_int HR0.out x8_1 p304 q304
             cases e304
             replace p304 := eq_true p304
             replace q304 := eq_true q304
             go_wp2
             go_ret
             exact ⟨by first | rfl | (simp; done) | (simp [*]; done), by repeat (first | exact Drawn0.refl _ | apply Drawn0.step)⟩
         · rw [if_neg c4] at H
           exact absurd H (by simp)
       · rw [if_neg c3] at H
         exact absurd H (by simp)
     · rw [if_neg c2] at H
       have c2b0 : decide (x8_1 < (l0.length : Int)) = false := decide_eq_false c2
       clear c2
       obtain rfl := Option.some.inj H
       go_wp2
       go_ret
       exact ⟨by first | rfl | (simp; done) | (simp [*]; done), by repeat (first | exact Drawn0.refl _ | apply Drawn0.step)⟩
end Go.Proofs.YtkcjcdkmdooofaaGreat.Q
end
