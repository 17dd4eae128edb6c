/- Packed by shake.py: YtkcjcdkmdooofaaQ56 YtkcjcdkmdooofaaQ35 YtkcjcdkmdooofaaQ27 YtkcjcdkmdooofaaQ15 YtkcjcdkmdooofaaQ40 YtkcjcdkmdooofaaQ18 YtkcjcdkmdooofaaLM1 YtkcjcdkmdooofaaLW2 YtkcjcdkmdooofaaRX1 YtkcjcdkmdooofaaLi37 YtkcjcdkmdooofaaLd47 -/
import Derived.Shelf.RegionOpenPlain
import Derived.Shelf.Spec.SlicesInsert
import Derived.Test.YtkcjcdkmdooofaaV1
set_option linter.unusedSectionVars false
section
namespace Go.Proofs.Ytkcjcdkmdooofaa.Q
open Go.RowKit Go.Proofs.YtkcjcdkmdooofaaW.PrintWords Go.Proofs.YtkcjcdkmdooofaaW.PrintLast Go.Proofs.YtkcjcdkmdooofaaW.PrintMore
attribute [local go_sem] max2_int min2_int max_two min_two max_three min_three max_four min_four
set_option linter.unusedVariables false
set_option linter.unusedSimpArgs false
def modes_size.f (k : Nat) (a0 : Int) : Option (Int) := (modes_conflicts.f k a0).bind fun t282 => ((bits_OnesCount16.f t282).bind fun t283 => (some t283))
theorem modes_size.mono : ∀ a0 k, LeO (modes_size.f k a0) (modes_size.f (k + 1) a0) := by
  intro a0 k
  unfold modes_size.f
  repeat' first
      | (with_reducible exact modes_conflicts.mono _ _)
      | (with_reducible exact LeO.refl _)
      | (with_reducible exact LeO.none _)
      | (with_reducible refine LeO.ite ?_ ?_)
      | (with_reducible refine LeO.bind ?_ (fun _ => ?_))
      | exact modes_conflicts.mono _ _
      | exact LeO.none _
      | refine LeO.ite ?_ ?_
      | refine LeO.bind ?_ (fun _ => ?_)
set_option maxHeartbeats 8000000 in
set_option maxRecDepth 100000 in
theorem modes_size.calls (k : Nat) (a0 : Int) (r : Int) (w : World) (h : modes_size.f k a0 = some r) :
    Calls Try.prog 56 #[.int .i64 a0] w fun e w' => e = .returned (.int .i64 r) ∧ Below w.heap.size w w' := by
  have HB := Aside0.mk (Below.refl w.heap.size w)
  have H : ((modes_conflicts.f k a0).bind fun t282 => ((bits_OnesCount16.f t282).bind fun t283 => (some t283))) = some r := h
  clear h
  replace H := Option.bind_eq_some_iff.mp H
  obtain ⟨t282, A20, H⟩ := H
  replace H : ((bits_OnesCount16.f t282).bind fun t283 => (some t283)) = some r := H
  have A2 := Aside0.mk A20
  clear A20
  replace H := Option.bind_eq_some_iff.mp H
  obtain ⟨t283, A30, H⟩ := H
  replace H : (some t283) = some r := H
  have A3 := Aside0.mk A30
  clear A30
  obtain rfl := Option.some.inj H
  go_enter Try.func56, Try.ntmps56
  go_wp2_with (first | ((with_reducible refine gate_callee (f := 55) rfl ?_); refine goesL_ (some 4) rfl rfl Try.func55 (by kernel_rfl) rfl #[.int .i64 a0] rfl (by (try simp only [List.map_toArray, List.map_cons, List.map_nil]); first | done | rfl | (simp only [List.length_drop, List.length_take]; rfl)) ?_; (with_reducible refine (modes_conflicts.calls k a0 t282 _ A2.out).mono ?_); rintro e w4 ⟨rfl, hb⟩; refine ⟨_, rfl, ?_⟩; have n0_ := Aside0.mk (below_step (by repeat (first | (with_reducible first | exact HB.out | apply below_alloc | apply pw_below_drewN | apply below_drew1) | exact HB.out)) hb); clear HB; have HB := n0_; clear n0_; (try clear hb); (try clear hb2); (try clear hk); (try clear hi)) | ((with_reducible refine gate_callee (f := 72) rfl ?_); refine goesL_ (some 5) rfl rfl Try.func72 (by kernel_rfl) rfl #[.int .u16 t282] rfl (by (try simp only [List.map_toArray, List.map_cons, List.map_nil]); first | done | rfl | (simp only [List.length_drop, List.length_take]; rfl)) ?_; (with_reducible refine (bits_OnesCount16.calls t282 t283 _ A3.out).mono ?_); rintro e w' ⟨rfl, ⟨nd, rfl⟩⟩; refine ⟨_, rfl, ?_⟩))
  go_ret
  exact ⟨by first | rfl | (simp [errW_none, errW_some] <;> rfl) | (simp [*, errW_none, errW_some] <;> rfl), by repeat (first | (with_reducible first | exact HB.out | apply below_alloc | apply pw_below_drewN | apply below_drew1) | exact HB.out)⟩
end Go.Proofs.Ytkcjcdkmdooofaa.Q
end
section
namespace Go.Proofs.Ytkcjcdkmdooofaa.Q
open Go.RowKit Go.Proofs.YtkcjcdkmdooofaaW.PrintWords Go.Proofs.YtkcjcdkmdooofaaW.PrintLast Go.Proofs.YtkcjcdkmdooofaaW.PrintMore
attribute [local go_sem] max2_int min2_int max_two min_two max_three min_three max_four min_four
set_option linter.unusedVariables false
set_option linter.unusedSimpArgs false
def modes_Join.l0 : Nat → Int → Int → Int → Int → Option (Int)
  | 0, _, _, _, _ => none
  | k + 1, x0, x1, x5, x7 => if x7 < 9 then ((modes_Covers.f k x7 x0).bind fun t284 => (if t284 = true then ((modes_Covers.f k x7 x1).bind fun t285 => (if t285 = true then (if x5 = 0 then (modes_Join.l0 k x0 x1 x7 (wrap64 (x7 + 1))) else ((modes_size.f k x7).bind fun t286 => ((modes_size.f k x5).bind fun t287 => (if t286 < t287 then (modes_Join.l0 k x0 x1 x7 (wrap64 (x7 + 1))) else (modes_Join.l0 k x0 x1 x5 (wrap64 (x7 + 1))))))) else (modes_Join.l0 k x0 x1 x5 (wrap64 (x7 + 1))))) else (modes_Join.l0 k x0 x1 x5 (wrap64 (x7 + 1))))) else (some x5)
def modes_Join.f (k : Nat) (a0 : Int) (a1 : Int) : Option (Int) := modes_Join.l0 k a0 a1 0 0
theorem modes_Join.mono_l : ∀ k, (∀ y0 y1 y2 y3, LeO (modes_Join.l0 k y0 y1 y2 y3) (modes_Join.l0 (k + 1) y0 y1 y2 y3))
  | 0 => fun _ _ _ _ r h => by simp [modes_Join.l0] at h
  | k + 1 => by
    have ih0 := modes_Join.mono_l k
    · intro y0 y1 y2 y3
      unfold modes_Join.l0
      repeat' first
      | (with_reducible exact ih0 _ _ _ _)
      | (with_reducible exact modes_Covers.mono _ _ _)
      | (with_reducible exact modes_size.mono _ _)
      | (with_reducible exact LeO.refl _)
      | (with_reducible exact LeO.none _)
      | (with_reducible refine LeO.ite ?_ ?_)
      | (with_reducible refine LeO.bind ?_ (fun _ => ?_))
      | exact ih0 _ _ _ _
      | exact modes_Covers.mono _ _ _
      | exact modes_size.mono _ _
      | exact LeO.none _
      | refine LeO.ite ?_ ?_
      | refine LeO.bind ?_ (fun _ => ?_)
theorem modes_Join.mono : ∀ a0 a1 k, LeO (modes_Join.f k a0 a1) (modes_Join.f (k + 1) a0 a1) := by
  intro a0 a1 k
  have ih0 := modes_Join.mono_l k
  unfold modes_Join.f
  repeat' first
      | (with_reducible exact ih0 _ _ _ _)
      | (with_reducible exact modes_Covers.mono _ _ _)
      | (with_reducible exact modes_size.mono _ _)
      | (with_reducible exact LeO.refl _)
      | (with_reducible exact LeO.none _)
      | (with_reducible refine LeO.ite ?_ ?_)
      | (with_reducible refine LeO.bind ?_ (fun _ => ?_))
      | exact ih0 _ _ _ _
      | exact modes_Covers.mono _ _ _
      | exact modes_size.mono _ _
      | exact LeO.none _
      | refine LeO.ite ?_ ?_
      | refine LeO.bind ?_ (fun _ => ?_)
set_option maxHeartbeats 8000000 in
set_option maxRecDepth 100000 in
theorem modes_Join.calls (k : Nat) (a0 : Int) (a1 : Int) (r : Int) (w : World) (h : modes_Join.f k a0 a1 = some r) :
    Calls Try.prog 35 #[.int .i64 a0, .int .i64 a1] w fun e w' => e = .returned (.int .i64 r) ∧ Below w.heap.size w w' := by
  have HB := Aside0.mk (Below.refl w.heap.size w)
  have H : (modes_Join.l0 k a0 a1 0 0) = some r := h
  clear h
  have H' := Aside0.mk H
  clear H
  go_enter Try.func35, Try.ntmps35
  go_wp2
  go_loopg [5, 7] k (fun kq v5 v7 w' => ∃ (x5_1 : Int) (x7_1 : Int), v5 = .int .i64 x5_1 ∧ v7 = .int .i64 x7_1 ∧ Aside0 (modes_Join.l0 kq a0 a1 x5_1 x7_1 = some r) ∧ Aside0 (kq ≤ k) ∧ Aside0 (Below w.heap.size w w'))
  case atStart => exact ⟨(0), (0), (by first | rfl | (simp; done) | (simp [*]; done)), (by first | rfl | (simp; done) | (simp [*]; done)), H', ⟨Nat.le_refl _⟩, ⟨by repeat (first | (with_reducible first | exact HB.out | apply below_alloc | apply pw_below_drewN | apply below_drew1) | exact HB.out)⟩⟩
  case round =>
    clear H'
    try clear p2
    obtain ⟨x5_1, x7_1, rfl, rfl, HA, HK1, HB⟩ := hrel
    cases gk with
    | zero => exact absurd HA.out (by simp [modes_Join.l0])
    | succ k1 =>
      have H := HA.out
      clear HA
      simp only [modes_Join.l0] at H
      by_cases c3 : x7_1 < 9
      · rw [if_pos c3] at H
        have c3b0 : decide (x7_1 < 9) = true := decide_eq_true c3
        clear c3
        replace H := Option.bind_eq_some_iff.mp H
        obtain ⟨t284, A40, H⟩ := H
        replace H : (if t284 = true then ((modes_Covers.f k1 x7_1 a1).bind fun t285 => (if t285 = true then (if x5_1 = 0 then (modes_Join.l0 k1 a0 a1 x7_1 (wrap64 (x7_1 + 1))) else ((modes_size.f k1 x7_1).bind fun t286 => ((modes_size.f k1 x5_1).bind fun t287 => (if t286 < t287 then (modes_Join.l0 k1 a0 a1 x7_1 (wrap64 (x7_1 + 1))) else (modes_Join.l0 k1 a0 a1 x5_1 (wrap64 (x7_1 + 1))))))) else (modes_Join.l0 k1 a0 a1 x5_1 (wrap64 (x7_1 + 1))))) else (modes_Join.l0 k1 a0 a1 x5_1 (wrap64 (x7_1 + 1)))) = some r := H
        have A4 := Aside0.mk A40
        clear A40
        by_cases c5 : t284 = true
        · subst c5
          have H1 : ((modes_Covers.f k1 x7_1 a1).bind fun t285 => (if t285 = true then (if x5_1 = 0 then (modes_Join.l0 k1 a0 a1 x7_1 (wrap64 (x7_1 + 1))) else ((modes_size.f k1 x7_1).bind fun t286 => ((modes_size.f k1 x5_1).bind fun t287 => (if t286 < t287 then (modes_Join.l0 k1 a0 a1 x7_1 (wrap64 (x7_1 + 1))) else (modes_Join.l0 k1 a0 a1 x5_1 (wrap64 (x7_1 + 1))))))) else (modes_Join.l0 k1 a0 a1 x5_1 (wrap64 (x7_1 + 1))))) = some r := by rw [if_pos rfl] at H; exact H
          clear H
          have H := H1
          clear H1
          replace H := Option.bind_eq_some_iff.mp H
          obtain ⟨t285, A60, H⟩ := H
          replace H : (if t285 = true then (if x5_1 = 0 then (modes_Join.l0 k1 a0 a1 x7_1 (wrap64 (x7_1 + 1))) else ((modes_size.f k1 x7_1).bind fun t286 => ((modes_size.f k1 x5_1).bind fun t287 => (if t286 < t287 then (modes_Join.l0 k1 a0 a1 x7_1 (wrap64 (x7_1 + 1))) else (modes_Join.l0 k1 a0 a1 x5_1 (wrap64 (x7_1 + 1))))))) else (modes_Join.l0 k1 a0 a1 x5_1 (wrap64 (x7_1 + 1)))) = some r := H
          have A6 := Aside0.mk A60
          clear A60
          by_cases c7 : t285 = true
          · subst c7
            have H1 : (if x5_1 = 0 then (modes_Join.l0 k1 a0 a1 x7_1 (wrap64 (x7_1 + 1))) else ((modes_size.f k1 x7_1).bind fun t286 => ((modes_size.f k1 x5_1).bind fun t287 => (if t286 < t287 then (modes_Join.l0 k1 a0 a1 x7_1 (wrap64 (x7_1 + 1))) else (modes_Join.l0 k1 a0 a1 x5_1 (wrap64 (x7_1 + 1))))))) = some r := by rw [if_pos rfl] at H; exact H
            clear H
            have H := H1
            clear H1
            by_cases c8 : x5_1 = 0
            · rw [if_pos c8] at H
              have c8b0 : (x5_1 == 0) = true := beq_iff_eq.mpr c8
              have c8b1 : (x5_1 != 0) = false := bne_eq_false_iff_eq.mpr c8
              clear c8
              have H' := Aside0.mk H
              clear H
              go_wp2_with (first | ((with_reducible refine gate_callee (f := 34) rfl ?_); refine goesL_ (some 12) rfl rfl Try.func34 (by kernel_rfl) rfl #[.int .i64 x7_1, .int .i64 a0] rfl (by (try simp only [List.map_toArray, List.map_cons, List.map_nil]); first | done | rfl | (simp only [List.length_drop, List.length_take]; rfl)) ?_; (with_reducible refine (modes_Covers.calls k1 x7_1 a0 true _ A4.out).mono ?_); rintro e w9 ⟨rfl, hb⟩; refine ⟨_, rfl, ?_⟩; have n0_ := Aside0.mk (below_step (by repeat (first | (with_reducible first | exact HB.out | apply below_alloc | apply pw_below_drewN | apply below_drew1) | exact HB.out)) hb); clear HB; have HB := n0_; clear n0_; (try clear hb); (try clear hb2); (try clear hk); (try clear hi)) | (go_at_call 34; (with_reducible refine (modes_Covers.calls k1 x7_1 a1 true _ A6.out).mono ?_); rintro e w10 ⟨rfl, hb⟩; have n0_ := Aside0.mk (below_step (by repeat (first | (with_reducible first | exact HB.out | apply below_alloc | apply pw_below_drewN | apply below_drew1) | exact HB.out)) hb); clear HB; have HB := n0_; clear n0_; (try clear hb); (try clear hb2); (try clear hk); (try clear hi)))
              go_roundg k1
              case measure => have := HK1.out; omega
              case rel => exact ⟨(x7_1), (wrap64 (x7_1 + 1)), (by first | rfl | (simp; done) | (simp [*]; done)), (by first | rfl | (simp; done) | (simp [*]; done)), H', ⟨by have := HK1.out; omega⟩, ⟨by repeat (first | (with_reducible first | exact HB.out | apply below_alloc | apply pw_below_drewN | apply below_drew1) | exact HB.out)⟩⟩
            · rw [if_neg c8] at H
              have c8b0 : (x5_1 == 0) = false := beq_eq_false_iff_ne.mpr c8
              have c8b1 : (x5_1 != 0) = true := bne_iff_ne.mpr c8
              replace H := Option.bind_eq_some_iff.mp H
              obtain ⟨t286, A110, H⟩ := H
              replace H : ((modes_size.f k1 x5_1).bind fun t287 => (if t286 < t287 then (modes_Join.l0 k1 a0 a1 x7_1 (wrap64 (x7_1 + 1))) else (modes_Join.l0 k1 a0 a1 x5_1 (wrap64 (x7_1 + 1))))) = some r := H
              have A11 := Aside0.mk A110
              clear A110
              replace H := Option.bind_eq_some_iff.mp H
              obtain ⟨t287, A120, H⟩ := H
              replace H : (if t286 < t287 then (modes_Join.l0 k1 a0 a1 x7_1 (wrap64 (x7_1 + 1))) else (modes_Join.l0 k1 a0 a1 x5_1 (wrap64 (x7_1 + 1)))) = some r := H
              have A12 := Aside0.mk A120
              clear A120
              by_cases c13 : t286 < t287
              · rw [if_pos c13] at H
                have c13b0 : decide (t286 < t287) = true := decide_eq_true c13
                clear c13
                have H' := Aside0.mk H
                clear H
                go_wp2_with (first | ((with_reducible refine gate_callee (f := 34) rfl ?_); refine goesL_ (some 12) rfl rfl Try.func34 (by kernel_rfl) rfl #[.int .i64 x7_1, .int .i64 a0] rfl (by (try simp only [List.map_toArray, List.map_cons, List.map_nil]); first | done | rfl | (simp only [List.length_drop, List.length_take]; rfl)) ?_; (with_reducible refine (modes_Covers.calls k1 x7_1 a0 true _ A4.out).mono ?_); rintro e w14 ⟨rfl, hb⟩; refine ⟨_, rfl, ?_⟩; have n0_ := Aside0.mk (below_step (by repeat (first | (with_reducible first | exact HB.out | apply below_alloc | apply pw_below_drewN | apply below_drew1) | exact HB.out)) hb); clear HB; have HB := n0_; clear n0_; (try clear hb); (try clear hb2); (try clear hk); (try clear hi)) | (go_at_call 34; (with_reducible refine (modes_Covers.calls k1 x7_1 a1 true _ A6.out).mono ?_); rintro e w15 ⟨rfl, hb⟩; have n0_ := Aside0.mk (below_step (by repeat (first | (with_reducible first | exact HB.out | apply below_alloc | apply pw_below_drewN | apply below_drew1) | exact HB.out)) hb); clear HB; have HB := n0_; clear n0_; (try clear hb); (try clear hb2); (try clear hk); (try clear hi)) | (go_at_call 56; (with_reducible refine (modes_size.calls k1 x7_1 t286 _ A11.out).mono ?_); rintro e w16 ⟨rfl, hb⟩; have n0_ := Aside0.mk (below_step (by repeat (first | (with_reducible first | exact HB.out | apply below_alloc | apply pw_below_drewN | apply below_drew1) | exact HB.out)) hb); clear HB; have HB := n0_; clear n0_; (try clear hb); (try clear hb2); (try clear hk); (try clear hi)) | (go_at_call 56; (with_reducible refine (modes_size.calls k1 x5_1 t287 _ A12.out).mono ?_); rintro e w17 ⟨rfl, hb⟩; have n0_ := Aside0.mk (below_step (by repeat (first | (with_reducible first | exact HB.out | apply below_alloc | apply pw_below_drewN | apply below_drew1) | exact HB.out)) hb); clear HB; have HB := n0_; clear n0_; (try clear hb); (try clear hb2); (try clear hk); (try clear hi)))
                go_roundg k1
                case measure => have := HK1.out; omega
                case rel => exact ⟨(x7_1), (wrap64 (x7_1 + 1)), (by first | rfl | (simp; done) | (simp [*]; done)), (by first | rfl | (simp; done) | (simp [*]; done)), H', ⟨by have := HK1.out; omega⟩, ⟨by repeat (first | (with_reducible first | exact HB.out | apply below_alloc | apply pw_below_drewN | apply below_drew1) | exact HB.out)⟩⟩
              · rw [if_neg c13] at H
                have c13b0 : decide (t286 < t287) = false := decide_eq_false c13
                clear c13
                have H' := Aside0.mk H
                clear H
                go_wp2_with (first | ((with_reducible refine gate_callee (f := 34) rfl ?_); refine goesL_ (some 12) rfl rfl Try.func34 (by kernel_rfl) rfl #[.int .i64 x7_1, .int .i64 a0] rfl (by (try simp only [List.map_toArray, List.map_cons, List.map_nil]); first | done | rfl | (simp only [List.length_drop, List.length_take]; rfl)) ?_; (with_reducible refine (modes_Covers.calls k1 x7_1 a0 true _ A4.out).mono ?_); rintro e w18 ⟨rfl, hb⟩; refine ⟨_, rfl, ?_⟩; have n0_ := Aside0.mk (below_step (by repeat (first | (with_reducible first | exact HB.out | apply below_alloc | apply pw_below_drewN | apply below_drew1) | exact HB.out)) hb); clear HB; have HB := n0_; clear n0_; (try clear hb); (try clear hb2); (try clear hk); (try clear hi)) | (go_at_call 34; (with_reducible refine (modes_Covers.calls k1 x7_1 a1 true _ A6.out).mono ?_); rintro e w19 ⟨rfl, hb⟩; have n0_ := Aside0.mk (below_step (by repeat (first | (with_reducible first | exact HB.out | apply below_alloc | apply pw_below_drewN | apply below_drew1) | exact HB.out)) hb); clear HB; have HB := n0_; clear n0_; (try clear hb); (try clear hb2); (try clear hk); (try clear hi)) | (go_at_call 56; (with_reducible refine (modes_size.calls k1 x7_1 t286 _ A11.out).mono ?_); rintro e w20 ⟨rfl, hb⟩; have n0_ := Aside0.mk (below_step (by repeat (first | (with_reducible first | exact HB.out | apply below_alloc | apply pw_below_drewN | apply below_drew1) | exact HB.out)) hb); clear HB; have HB := n0_; clear n0_; (try clear hb); (try clear hb2); (try clear hk); (try clear hi)) | (go_at_call 56; (with_reducible refine (modes_size.calls k1 x5_1 t287 _ A12.out).mono ?_); rintro e w21 ⟨rfl, hb⟩; have n0_ := Aside0.mk (below_step (by repeat (first | (with_reducible first | exact HB.out | apply below_alloc | apply pw_below_drewN | apply below_drew1) | exact HB.out)) hb); clear HB; have HB := n0_; clear n0_; (try clear hb); (try clear hb2); (try clear hk); (try clear hi)))
                go_roundg k1
                case measure => have := HK1.out; omega
                case rel => exact ⟨(x5_1), (wrap64 (x7_1 + 1)), (by first | rfl | (simp; done) | (simp [*]; done)), (by first | rfl | (simp; done) | (simp [*]; done)), H', ⟨by have := HK1.out; omega⟩, ⟨by repeat (first | (with_reducible first | exact HB.out | apply below_alloc | apply pw_below_drewN | apply below_drew1) | exact HB.out)⟩⟩
          · replace c7 := Bool.eq_false_iff.mpr c7
            subst c7
            have H1 : (modes_Join.l0 k1 a0 a1 x5_1 (wrap64 (x7_1 + 1))) = some r := by rw [if_neg (show ¬ (false = true) by decide)] at H; exact H
            clear H
            have H := H1
            clear H1
            have H' := Aside0.mk H
            clear H
            go_wp2_with (first | ((with_reducible refine gate_callee (f := 34) rfl ?_); refine goesL_ (some 12) rfl rfl Try.func34 (by kernel_rfl) rfl #[.int .i64 x7_1, .int .i64 a0] rfl (by (try simp only [List.map_toArray, List.map_cons, List.map_nil]); first | done | rfl | (simp only [List.length_drop, List.length_take]; rfl)) ?_; (with_reducible refine (modes_Covers.calls k1 x7_1 a0 true _ A4.out).mono ?_); rintro e w22 ⟨rfl, hb⟩; refine ⟨_, rfl, ?_⟩; have n0_ := Aside0.mk (below_step (by repeat (first | (with_reducible first | exact HB.out | apply below_alloc | apply pw_below_drewN | apply below_drew1) | exact HB.out)) hb); clear HB; have HB := n0_; clear n0_; (try clear hb); (try clear hb2); (try clear hk); (try clear hi)) | (go_at_call 34; (with_reducible refine (modes_Covers.calls k1 x7_1 a1 false _ A6.out).mono ?_); rintro e w23 ⟨rfl, hb⟩; have n0_ := Aside0.mk (below_step (by repeat (first | (with_reducible first | exact HB.out | apply below_alloc | apply pw_below_drewN | apply below_drew1) | exact HB.out)) hb); clear HB; have HB := n0_; clear n0_; (try clear hb); (try clear hb2); (try clear hk); (try clear hi)))
            go_roundg k1
            case measure => have := HK1.out; omega
            case rel => exact ⟨(x5_1), (wrap64 (x7_1 + 1)), (by first | rfl | (simp; done) | (simp [*]; done)), (by first | rfl | (simp; done) | (simp [*]; done)), H', ⟨by have := HK1.out; omega⟩, ⟨by repeat (first | (with_reducible first | exact HB.out | apply below_alloc | apply pw_below_drewN | apply below_drew1) | exact HB.out)⟩⟩
        · replace c5 := Bool.eq_false_iff.mpr c5
          subst c5
          have H1 : (modes_Join.l0 k1 a0 a1 x5_1 (wrap64 (x7_1 + 1))) = some r := by rw [if_neg (show ¬ (false = true) by decide)] at H; exact H
          clear H
          have H := H1
          clear H1
          have H' := Aside0.mk H
          clear H
          go_wp2_with (first | ((with_reducible refine gate_callee (f := 34) rfl ?_); refine goesL_ (some 12) rfl rfl Try.func34 (by kernel_rfl) rfl #[.int .i64 x7_1, .int .i64 a0] rfl (by (try simp only [List.map_toArray, List.map_cons, List.map_nil]); first | done | rfl | (simp only [List.length_drop, List.length_take]; rfl)) ?_; (with_reducible refine (modes_Covers.calls k1 x7_1 a0 false _ A4.out).mono ?_); rintro e w24 ⟨rfl, hb⟩; refine ⟨_, rfl, ?_⟩; have n0_ := Aside0.mk (below_step (by repeat (first | (with_reducible first | exact HB.out | apply below_alloc | apply pw_below_drewN | apply below_drew1) | exact HB.out)) hb); clear HB; have HB := n0_; clear n0_; (try clear hb); (try clear hb2); (try clear hk); (try clear hi)))
          go_roundg k1
          case measure => have := HK1.out; omega
          case rel => exact ⟨(x5_1), (wrap64 (x7_1 + 1)), (by first | rfl | (simp; done) | (simp [*]; done)), (by first | rfl | (simp; done) | (simp [*]; done)), H', ⟨by have := HK1.out; omega⟩, ⟨by repeat (first | (with_reducible first | exact HB.out | apply below_alloc | apply pw_below_drewN | apply below_drew1) | exact HB.out)⟩⟩
      · rw [if_neg c3] at H
        have c3b0 : decide (x7_1 < 9) = false := decide_eq_false c3
        clear c3
        obtain rfl := Option.some.inj H
        go_wp2
        go_ret
        exact ⟨by first | rfl | (simp [errW_none, errW_some] <;> rfl) | (simp [*, errW_none, errW_some] <;> rfl), by repeat (first | (with_reducible first | exact HB.out | apply below_alloc | apply pw_below_drewN | apply below_drew1) | exact HB.out)⟩
end Go.Proofs.Ytkcjcdkmdooofaa.Q
end
section
namespace Go.Proofs.Ytkcjcdkmdooofaa.Q
open Go.RowKit Go.Proofs.YtkcjcdkmdooofaaW.PrintWords Go.Proofs.YtkcjcdkmdooofaaW.PrintLast Go.Proofs.YtkcjcdkmdooofaaW.PrintMore
attribute [local go_sem] max2_int min2_int max_two min_two max_three min_three max_four min_four
set_option linter.unusedVariables false
set_option linter.unusedSimpArgs false
def interlockref10_row.f (a0 : Int) : Option (List Int) := if a0 = 1 then (some (([6, 8] : List Int))) else (if a0 = 2 then (some (([3, 5, 6, 8] : List Int))) else (if a0 = 3 then (some (([2, 5, 6, 8] : List Int))) else (if a0 = 4 then (some (([4, 6, 8] : List Int))) else (if a0 = 5 then (some (([2, 3, 5, 6, 8] : List Int))) else (if a0 = 6 then (some (([1, 2, 3, 4, 5, 6, 8] : List Int))) else (if a0 = 7 then (some (([8] : List Int))) else (if a0 = 8 then (some (([1, 2, 3, 4, 5, 6, 7, 8] : List Int))) else (some ([] : List Int)))))))))
set_option maxHeartbeats 8000000 in
set_option maxRecDepth 100000 in
theorem interlockref10_row.calls (a0 : Int) (r : List Int) (w : World) (h : interlockref10_row.f a0 = some r) :
    Calls Try.prog 27 #[.int .i64 a0] w fun e w' => ∃ v0_ : Value, e = .returned (v0_) ∧ Kd.R (Kd.int .i64) 3 w' w.heap.size (fun _ => True) v0_ r ∧ Below w.heap.size w w' := by
  have HB := Aside0.mk (Below.refl w.heap.size w)
  have H : (if a0 = 1 then (some (([6, 8] : List Int))) else (if a0 = 2 then (some (([3, 5, 6, 8] : List Int))) else (if a0 = 3 then (some (([2, 5, 6, 8] : List Int))) else (if a0 = 4 then (some (([4, 6, 8] : List Int))) else (if a0 = 5 then (some (([2, 3, 5, 6, 8] : List Int))) else (if a0 = 6 then (some (([1, 2, 3, 4, 5, 6, 8] : List Int))) else (if a0 = 7 then (some (([8] : List Int))) else (if a0 = 8 then (some (([1, 2, 3, 4, 5, 6, 7, 8] : List Int))) else (some ([] : List Int)))))))))) = some r := h
  clear h
  by_cases c2 : a0 = 1
  · rw [if_pos c2] at H
    have c2b0 : (a0 == 1) = true := beq_iff_eq.mpr c2
    have c2b1 : (a0 != 1) = false := bne_eq_false_iff_eq.mpr c2
    clear c2
    obtain ⟨y338, hy338⟩ : ∃ y_ : List Int, y_ = (([6, 8] : List Int)) := ⟨_, rfl⟩
    replace H : (some y338) = some r := by first | (rw [hy338]; with_reducible exact H) | (have H2_ := (Option.bind_some _ _).symm.trans H; rw [hy338]; with_reducible exact H2_) | (have H2_ := (Option.bind_some _ _).symm.trans H; with_reducible exact H2_) | with_reducible exact H | (rw [hy338]; exact H) | exact H
    have Ny338 := Aside0.mk hy338
    clear hy338
    obtain rfl := Option.some.inj H
    go_enter Try.func27, Try.ntmps27
    go_wp2_with (first | ((with_reducible refine gate_dst (N := 6) rfl ?_); refine Kd.R_lit (Kd.int .i64) _ 3 ?hg (N := 6) ?hd (xs := ([6, 8] : List Int)) (inner := [.int .i64 6, .int .i64 8]) (ok := fun _ => True) (okp := fun _ => True) ?hr ?hp (fun _ hk => hk) trivial (Below.refl _ _) (Nat.le_refl _) (by simp) ?_; (case hd => rfl); (case hg => rfl); (case hr => first | (go_simp; done) | (go_simp; rfl)); (case hp => exact (Reps.one (show Kd.M (Kd.int .i64) _ _ _ 6 [.int .i64 6] from rfl) (Reps.one (show Kd.M (Kd.int .i64) _ _ _ 8 [.int .i64 8] from rfl) (Reps.none _ _)))); intro v339 w3 ho4 hb hg_ hnew_; clear hg_ hnew_; (first | rw [← Ny338.out] at ho4 | (simp only [Int.reduceToNat] at ho4; rw [← Ny338.out] at ho4)); have n0_ := Aside0.mk (Kd.R_lower ho4 (below_size (by repeat (first | (with_reducible first | exact HB.out | apply below_alloc | apply pw_below_drewN | apply below_drew1) | exact HB.out)))); have n1_ := Aside0.mk (below_step (by repeat (first | (with_reducible first | exact HB.out | apply below_alloc | apply pw_below_drewN | apply below_drew1) | exact HB.out)) hb); clear HB; have HO340 := n0_; have HB := n1_; clear n0_ n1_; clear hb ho4))
    go_ret
    exact ⟨_, by first | rfl | (simp [errW_none, errW_some] <;> rfl) | (simp [*, errW_none, errW_some] <;> rfl), by (with_reducible repeat (first | apply Kd.R_alloc | apply Kd.R_drewN | apply Kd.R_drew)); exact HO340.out, by repeat (first | (with_reducible first | exact HB.out | apply below_alloc | apply pw_below_drewN | apply below_drew1) | exact HB.out)⟩
  · rw [if_neg c2] at H
    have c2b0 : (a0 == 1) = false := beq_eq_false_iff_ne.mpr c2
    have c2b1 : (a0 != 1) = true := bne_iff_ne.mpr c2
    by_cases c5 : a0 = 2
    · rw [if_pos c5] at H
      have c5b0 : (a0 == 2) = true := beq_iff_eq.mpr c5
      have c5b1 : (a0 != 2) = false := bne_eq_false_iff_eq.mpr c5
      clear c5
      obtain ⟨y341, hy341⟩ : ∃ y_ : List Int, y_ = (([3, 5, 6, 8] : List Int)) := ⟨_, rfl⟩
      replace H : (some y341) = some r := by first | (rw [hy341]; with_reducible exact H) | (have H2_ := (Option.bind_some _ _).symm.trans H; rw [hy341]; with_reducible exact H2_) | (have H2_ := (Option.bind_some _ _).symm.trans H; with_reducible exact H2_) | with_reducible exact H | (rw [hy341]; exact H) | exact H
      have Ny341 := Aside0.mk hy341
      clear hy341
      obtain rfl := Option.some.inj H
      go_enter Try.func27, Try.ntmps27
      go_wp2_with (first | ((with_reducible refine gate_dst (N := 9) rfl ?_); refine Kd.R_lit (Kd.int .i64) _ 3 ?hg (N := 9) ?hd (xs := ([3, 5, 6, 8] : List Int)) (inner := [.int .i64 3, .int .i64 5, .int .i64 6, .int .i64 8]) (ok := fun _ => True) (okp := fun _ => True) ?hr ?hp (fun _ hk => hk) trivial (Below.refl _ _) (Nat.le_refl _) (by simp) ?_; (case hd => rfl); (case hg => rfl); (case hr => first | (go_simp; done) | (go_simp; rfl)); (case hp => exact (Reps.one (show Kd.M (Kd.int .i64) _ _ _ 3 [.int .i64 3] from rfl) (Reps.one (show Kd.M (Kd.int .i64) _ _ _ 5 [.int .i64 5] from rfl) (Reps.one (show Kd.M (Kd.int .i64) _ _ _ 6 [.int .i64 6] from rfl) (Reps.one (show Kd.M (Kd.int .i64) _ _ _ 8 [.int .i64 8] from rfl) (Reps.none _ _)))))); intro v342 w6 ho7 hb hg_ hnew_; clear hg_ hnew_; (first | rw [← Ny341.out] at ho7 | (simp only [Int.reduceToNat] at ho7; rw [← Ny341.out] at ho7)); have n0_ := Aside0.mk (Kd.R_lower ho7 (below_size (by repeat (first | (with_reducible first | exact HB.out | apply below_alloc | apply pw_below_drewN | apply below_drew1) | exact HB.out)))); have n1_ := Aside0.mk (below_step (by repeat (first | (with_reducible first | exact HB.out | apply below_alloc | apply pw_below_drewN | apply below_drew1) | exact HB.out)) hb); clear HB; have HO343 := n0_; have HB := n1_; clear n0_ n1_; clear hb ho7))
      go_ret
      exact ⟨_, by first | rfl | (simp [errW_none, errW_some] <;> rfl) | (simp [*, errW_none, errW_some] <;> rfl), by (with_reducible repeat (first | apply Kd.R_alloc | apply Kd.R_drewN | apply Kd.R_drew)); exact HO343.out, by repeat (first | (with_reducible first | exact HB.out | apply below_alloc | apply pw_below_drewN | apply below_drew1) | exact HB.out)⟩
    · rw [if_neg c5] at H
      have c5b0 : (a0 == 2) = false := beq_eq_false_iff_ne.mpr c5
      have c5b1 : (a0 != 2) = true := bne_iff_ne.mpr c5
      by_cases c8 : a0 = 3
      · rw [if_pos c8] at H
        have c8b0 : (a0 == 3) = true := beq_iff_eq.mpr c8
        have c8b1 : (a0 != 3) = false := bne_eq_false_iff_eq.mpr c8
        clear c8
        obtain ⟨y344, hy344⟩ : ∃ y_ : List Int, y_ = (([2, 5, 6, 8] : List Int)) := ⟨_, rfl⟩
        replace H : (some y344) = some r := by first | (rw [hy344]; with_reducible exact H) | (have H2_ := (Option.bind_some _ _).symm.trans H; rw [hy344]; with_reducible exact H2_) | (have H2_ := (Option.bind_some _ _).symm.trans H; with_reducible exact H2_) | with_reducible exact H | (rw [hy344]; exact H) | exact H
        have Ny344 := Aside0.mk hy344
        clear hy344
        obtain rfl := Option.some.inj H
        go_enter Try.func27, Try.ntmps27
        go_wp2_with (first | ((with_reducible refine gate_dst (N := 12) rfl ?_); refine Kd.R_lit (Kd.int .i64) _ 3 ?hg (N := 12) ?hd (xs := ([2, 5, 6, 8] : List Int)) (inner := [.int .i64 2, .int .i64 5, .int .i64 6, .int .i64 8]) (ok := fun _ => True) (okp := fun _ => True) ?hr ?hp (fun _ hk => hk) trivial (Below.refl _ _) (Nat.le_refl _) (by simp) ?_; (case hd => rfl); (case hg => rfl); (case hr => first | (go_simp; done) | (go_simp; rfl)); (case hp => exact (Reps.one (show Kd.M (Kd.int .i64) _ _ _ 2 [.int .i64 2] from rfl) (Reps.one (show Kd.M (Kd.int .i64) _ _ _ 5 [.int .i64 5] from rfl) (Reps.one (show Kd.M (Kd.int .i64) _ _ _ 6 [.int .i64 6] from rfl) (Reps.one (show Kd.M (Kd.int .i64) _ _ _ 8 [.int .i64 8] from rfl) (Reps.none _ _)))))); intro v345 w9 ho10 hb hg_ hnew_; clear hg_ hnew_; (first | rw [← Ny344.out] at ho10 | (simp only [Int.reduceToNat] at ho10; rw [← Ny344.out] at ho10)); have n0_ := Aside0.mk (Kd.R_lower ho10 (below_size (by repeat (first | (with_reducible first | exact HB.out | apply below_alloc | apply pw_below_drewN | apply below_drew1) | exact HB.out)))); have n1_ := Aside0.mk (below_step (by repeat (first | (with_reducible first | exact HB.out | apply below_alloc | apply pw_below_drewN | apply below_drew1) | exact HB.out)) hb); clear HB; have HO346 := n0_; have HB := n1_; clear n0_ n1_; clear hb ho10))
        go_ret
        exact ⟨_, by first | rfl | (simp [errW_none, errW_some] <;> rfl) | (simp [*, errW_none, errW_some] <;> rfl), by (with_reducible repeat (first | apply Kd.R_alloc | apply Kd.R_drewN | apply Kd.R_drew)); exact HO346.out, by repeat (first | (with_reducible first | exact HB.out | apply below_alloc | apply pw_below_drewN | apply below_drew1) | exact HB.out)⟩
      · rw [if_neg c8] at H
        have c8b0 : (a0 == 3) = false := beq_eq_false_iff_ne.mpr c8
        have c8b1 : (a0 != 3) = true := bne_iff_ne.mpr c8
        by_cases c11 : a0 = 4
        · rw [if_pos c11] at H
          have c11b0 : (a0 == 4) = true := beq_iff_eq.mpr c11
          have c11b1 : (a0 != 4) = false := bne_eq_false_iff_eq.mpr c11
          clear c11
          obtain ⟨y347, hy347⟩ : ∃ y_ : List Int, y_ = (([4, 6, 8] : List Int)) := ⟨_, rfl⟩
          replace H : (some y347) = some r := by first | (rw [hy347]; with_reducible exact H) | (have H2_ := (Option.bind_some _ _).symm.trans H; rw [hy347]; with_reducible exact H2_) | (have H2_ := (Option.bind_some _ _).symm.trans H; with_reducible exact H2_) | with_reducible exact H | (rw [hy347]; exact H) | exact H
          have Ny347 := Aside0.mk hy347
          clear hy347
          obtain rfl := Option.some.inj H
          go_enter Try.func27, Try.ntmps27
          go_wp2_with (first | ((with_reducible refine gate_dst (N := 15) rfl ?_); refine Kd.R_lit (Kd.int .i64) _ 3 ?hg (N := 15) ?hd (xs := ([4, 6, 8] : List Int)) (inner := [.int .i64 4, .int .i64 6, .int .i64 8]) (ok := fun _ => True) (okp := fun _ => True) ?hr ?hp (fun _ hk => hk) trivial (Below.refl _ _) (Nat.le_refl _) (by simp) ?_; (case hd => rfl); (case hg => rfl); (case hr => first | (go_simp; done) | (go_simp; rfl)); (case hp => exact (Reps.one (show Kd.M (Kd.int .i64) _ _ _ 4 [.int .i64 4] from rfl) (Reps.one (show Kd.M (Kd.int .i64) _ _ _ 6 [.int .i64 6] from rfl) (Reps.one (show Kd.M (Kd.int .i64) _ _ _ 8 [.int .i64 8] from rfl) (Reps.none _ _))))); intro v348 w12 ho13 hb hg_ hnew_; clear hg_ hnew_; (first | rw [← Ny347.out] at ho13 | (simp only [Int.reduceToNat] at ho13; rw [← Ny347.out] at ho13)); have n0_ := Aside0.mk (Kd.R_lower ho13 (below_size (by repeat (first | (with_reducible first | exact HB.out | apply below_alloc | apply pw_below_drewN | apply below_drew1) | exact HB.out)))); have n1_ := Aside0.mk (below_step (by repeat (first | (with_reducible first | exact HB.out | apply below_alloc | apply pw_below_drewN | apply below_drew1) | exact HB.out)) hb); clear HB; have HO349 := n0_; have HB := n1_; clear n0_ n1_; clear hb ho13))
          go_ret
          exact ⟨_, by first | rfl | (simp [errW_none, errW_some] <;> rfl) | (simp [*, errW_none, errW_some] <;> rfl), by (with_reducible repeat (first | apply Kd.R_alloc | apply Kd.R_drewN | apply Kd.R_drew)); exact HO349.out, by repeat (first | (with_reducible first | exact HB.out | apply below_alloc | apply pw_below_drewN | apply below_drew1) | exact HB.out)⟩
        · rw [if_neg c11] at H
          have c11b0 : (a0 == 4) = false := beq_eq_false_iff_ne.mpr c11
          have c11b1 : (a0 != 4) = true := bne_iff_ne.mpr c11
          by_cases c14 : a0 = 5
          · rw [if_pos c14] at H
            have c14b0 : (a0 == 5) = true := beq_iff_eq.mpr c14
            have c14b1 : (a0 != 5) = false := bne_eq_false_iff_eq.mpr c14
            clear c14
            obtain ⟨y350, hy350⟩ : ∃ y_ : List Int, y_ = (([2, 3, 5, 6, 8] : List Int)) := ⟨_, rfl⟩
            replace H : (some y350) = some r := by first | (rw [hy350]; with_reducible exact H) | (have H2_ := (Option.bind_some _ _).symm.trans H; rw [hy350]; with_reducible exact H2_) | (have H2_ := (Option.bind_some _ _).symm.trans H; with_reducible exact H2_) | with_reducible exact H | (rw [hy350]; exact H) | exact H
            have Ny350 := Aside0.mk hy350
            clear hy350
            obtain rfl := Option.some.inj H
            go_enter Try.func27, Try.ntmps27
            go_wp2_with (first | ((with_reducible refine gate_dst (N := 18) rfl ?_); refine Kd.R_lit (Kd.int .i64) _ 3 ?hg (N := 18) ?hd (xs := ([2, 3, 5, 6, 8] : List Int)) (inner := [.int .i64 2, .int .i64 3, .int .i64 5, .int .i64 6, .int .i64 8]) (ok := fun _ => True) (okp := fun _ => True) ?hr ?hp (fun _ hk => hk) trivial (Below.refl _ _) (Nat.le_refl _) (by simp) ?_; (case hd => rfl); (case hg => rfl); (case hr => first | (go_simp; done) | (go_simp; rfl)); (case hp => exact (Reps.one (show Kd.M (Kd.int .i64) _ _ _ 2 [.int .i64 2] from rfl) (Reps.one (show Kd.M (Kd.int .i64) _ _ _ 3 [.int .i64 3] from rfl) (Reps.one (show Kd.M (Kd.int .i64) _ _ _ 5 [.int .i64 5] from rfl) (Reps.one (show Kd.M (Kd.int .i64) _ _ _ 6 [.int .i64 6] from rfl) (Reps.one (show Kd.M (Kd.int .i64) _ _ _ 8 [.int .i64 8] from rfl) (Reps.none _ _))))))); intro v351 w15 ho16 hb hg_ hnew_; clear hg_ hnew_; (first | rw [← Ny350.out] at ho16 | (simp only [Int.reduceToNat] at ho16; rw [← Ny350.out] at ho16)); have n0_ := Aside0.mk (Kd.R_lower ho16 (below_size (by repeat (first | (with_reducible first | exact HB.out | apply below_alloc | apply pw_below_drewN | apply below_drew1) | exact HB.out)))); have n1_ := Aside0.mk (below_step (by repeat (first | (with_reducible first | exact HB.out | apply below_alloc | apply pw_below_drewN | apply below_drew1) | exact HB.out)) hb); clear HB; have HO352 := n0_; have HB := n1_; clear n0_ n1_; clear hb ho16))
            go_ret
            exact ⟨_, by first | rfl | (simp [errW_none, errW_some] <;> rfl) | (simp [*, errW_none, errW_some] <;> rfl), by (with_reducible repeat (first | apply Kd.R_alloc | apply Kd.R_drewN | apply Kd.R_drew)); exact HO352.out, by repeat (first | (with_reducible first | exact HB.out | apply below_alloc | apply pw_below_drewN | apply below_drew1) | exact HB.out)⟩
          · rw [if_neg c14] at H
            have c14b0 : (a0 == 5) = false := beq_eq_false_iff_ne.mpr c14
            have c14b1 : (a0 != 5) = true := bne_iff_ne.mpr c14
            by_cases c17 : a0 = 6
            · rw [if_pos c17] at H
              have c17b0 : (a0 == 6) = true := beq_iff_eq.mpr c17
              have c17b1 : (a0 != 6) = false := bne_eq_false_iff_eq.mpr c17
              clear c17
              obtain ⟨y353, hy353⟩ : ∃ y_ : List Int, y_ = (([1, 2, 3, 4, 5, 6, 8] : List Int)) := ⟨_, rfl⟩
              replace H : (some y353) = some r := by first | (rw [hy353]; with_reducible exact H) | (have H2_ := (Option.bind_some _ _).symm.trans H; rw [hy353]; with_reducible exact H2_) | (have H2_ := (Option.bind_some _ _).symm.trans H; with_reducible exact H2_) | with_reducible exact H | (rw [hy353]; exact H) | exact H
              have Ny353 := Aside0.mk hy353
              clear hy353
              obtain rfl := Option.some.inj H
              go_enter Try.func27, Try.ntmps27
              go_wp2_with (first | ((with_reducible refine gate_dst (N := 21) rfl ?_); refine Kd.R_lit (Kd.int .i64) _ 3 ?hg (N := 21) ?hd (xs := ([1, 2, 3, 4, 5, 6, 8] : List Int)) (inner := [.int .i64 1, .int .i64 2, .int .i64 3, .int .i64 4, .int .i64 5, .int .i64 6, .int .i64 8]) (ok := fun _ => True) (okp := fun _ => True) ?hr ?hp (fun _ hk => hk) trivial (Below.refl _ _) (Nat.le_refl _) (by simp) ?_; (case hd => rfl); (case hg => rfl); (case hr => first | (go_simp; done) | (go_simp; rfl)); (case hp => exact (Reps.one (show Kd.M (Kd.int .i64) _ _ _ 1 [.int .i64 1] from rfl) (Reps.one (show Kd.M (Kd.int .i64) _ _ _ 2 [.int .i64 2] from rfl) (Reps.one (show Kd.M (Kd.int .i64) _ _ _ 3 [.int .i64 3] from rfl) (Reps.one (show Kd.M (Kd.int .i64) _ _ _ 4 [.int .i64 4] from rfl) (Reps.one (show Kd.M (Kd.int .i64) _ _ _ 5 [.int .i64 5] from rfl) (Reps.one (show Kd.M (Kd.int .i64) _ _ _ 6 [.int .i64 6] from rfl) (Reps.one (show Kd.M (Kd.int .i64) _ _ _ 8 [.int .i64 8] from rfl) (Reps.none _ _))))))))); intro v354 w18 ho19 hb hg_ hnew_; clear hg_ hnew_; (first | rw [← Ny353.out] at ho19 | (simp only [Int.reduceToNat] at ho19; rw [← Ny353.out] at ho19)); have n0_ := Aside0.mk (Kd.R_lower ho19 (below_size (by repeat (first | (with_reducible first | exact HB.out | apply below_alloc | apply pw_below_drewN | apply below_drew1) | exact HB.out)))); have n1_ := Aside0.mk (below_step (by repeat (first | (with_reducible first | exact HB.out | apply below_alloc | apply pw_below_drewN | apply below_drew1) | exact HB.out)) hb); clear HB; have HO355 := n0_; have HB := n1_; clear n0_ n1_; clear hb ho19))
              go_ret
              exact ⟨_, by first | rfl | (simp [errW_none, errW_some] <;> rfl) | (simp [*, errW_none, errW_some] <;> rfl), by (with_reducible repeat (first | apply Kd.R_alloc | apply Kd.R_drewN | apply Kd.R_drew)); exact HO355.out, by repeat (first | (with_reducible first | exact HB.out | apply below_alloc | apply pw_below_drewN | apply below_drew1) | exact HB.out)⟩
            · rw [if_neg c17] at H
              have c17b0 : (a0 == 6) = false := beq_eq_false_iff_ne.mpr c17
              have c17b1 : (a0 != 6) = true := bne_iff_ne.mpr c17
              by_cases c20 : a0 = 7
              · rw [if_pos c20] at H
                have c20b0 : (a0 == 7) = true := beq_iff_eq.mpr c20
                have c20b1 : (a0 != 7) = false := bne_eq_false_iff_eq.mpr c20
                clear c20
                obtain ⟨y356, hy356⟩ : ∃ y_ : List Int, y_ = (([8] : List Int)) := ⟨_, rfl⟩
                replace H : (some y356) = some r := by first | (rw [hy356]; with_reducible exact H) | (have H2_ := (Option.bind_some _ _).symm.trans H; rw [hy356]; with_reducible exact H2_) | (have H2_ := (Option.bind_some _ _).symm.trans H; with_reducible exact H2_) | with_reducible exact H | (rw [hy356]; exact H) | exact H
                have Ny356 := Aside0.mk hy356
                clear hy356
                obtain rfl := Option.some.inj H
                go_enter Try.func27, Try.ntmps27
                go_wp2_with (first | ((with_reducible refine gate_dst (N := 24) rfl ?_); refine Kd.R_lit (Kd.int .i64) _ 3 ?hg (N := 24) ?hd (xs := ([8] : List Int)) (inner := [.int .i64 8]) (ok := fun _ => True) (okp := fun _ => True) ?hr ?hp (fun _ hk => hk) trivial (Below.refl _ _) (Nat.le_refl _) (by simp) ?_; (case hd => rfl); (case hg => rfl); (case hr => first | (go_simp; done) | (go_simp; rfl)); (case hp => exact (Reps.one (show Kd.M (Kd.int .i64) _ _ _ 8 [.int .i64 8] from rfl) (Reps.none _ _))); intro v357 w21 ho22 hb hg_ hnew_; clear hg_ hnew_; (first | rw [← Ny356.out] at ho22 | (simp only [Int.reduceToNat] at ho22; rw [← Ny356.out] at ho22)); have n0_ := Aside0.mk (Kd.R_lower ho22 (below_size (by repeat (first | (with_reducible first | exact HB.out | apply below_alloc | apply pw_below_drewN | apply below_drew1) | exact HB.out)))); have n1_ := Aside0.mk (below_step (by repeat (first | (with_reducible first | exact HB.out | apply below_alloc | apply pw_below_drewN | apply below_drew1) | exact HB.out)) hb); clear HB; have HO358 := n0_; have HB := n1_; clear n0_ n1_; clear hb ho22))
                go_ret
                exact ⟨_, by first | rfl | (simp [errW_none, errW_some] <;> rfl) | (simp [*, errW_none, errW_some] <;> rfl), by (with_reducible repeat (first | apply Kd.R_alloc | apply Kd.R_drewN | apply Kd.R_drew)); exact HO358.out, by repeat (first | (with_reducible first | exact HB.out | apply below_alloc | apply pw_below_drewN | apply below_drew1) | exact HB.out)⟩
              · rw [if_neg c20] at H
                have c20b0 : (a0 == 7) = false := beq_eq_false_iff_ne.mpr c20
                have c20b1 : (a0 != 7) = true := bne_iff_ne.mpr c20
                by_cases c23 : a0 = 8
                · rw [if_pos c23] at H
                  have c23b0 : (a0 == 8) = true := beq_iff_eq.mpr c23
                  have c23b1 : (a0 != 8) = false := bne_eq_false_iff_eq.mpr c23
                  clear c23
                  obtain ⟨y359, hy359⟩ : ∃ y_ : List Int, y_ = (([1, 2, 3, 4, 5, 6, 7, 8] : List Int)) := ⟨_, rfl⟩
                  replace H : (some y359) = some r := by first | (rw [hy359]; with_reducible exact H) | (have H2_ := (Option.bind_some _ _).symm.trans H; rw [hy359]; with_reducible exact H2_) | (have H2_ := (Option.bind_some _ _).symm.trans H; with_reducible exact H2_) | with_reducible exact H | (rw [hy359]; exact H) | exact H
                  have Ny359 := Aside0.mk hy359
                  clear hy359
                  obtain rfl := Option.some.inj H
                  go_enter Try.func27, Try.ntmps27
                  go_wp2_with (first | ((with_reducible refine gate_dst (N := 27) rfl ?_); refine Kd.R_lit (Kd.int .i64) _ 3 ?hg (N := 27) ?hd (xs := ([1, 2, 3, 4, 5, 6, 7, 8] : List Int)) (inner := [.int .i64 1, .int .i64 2, .int .i64 3, .int .i64 4, .int .i64 5, .int .i64 6, .int .i64 7, .int .i64 8]) (ok := fun _ => True) (okp := fun _ => True) ?hr ?hp (fun _ hk => hk) trivial (Below.refl _ _) (Nat.le_refl _) (by simp) ?_; (case hd => rfl); (case hg => rfl); (case hr => first | (go_simp; done) | (go_simp; rfl)); (case hp => exact (Reps.one (show Kd.M (Kd.int .i64) _ _ _ 1 [.int .i64 1] from rfl) (Reps.one (show Kd.M (Kd.int .i64) _ _ _ 2 [.int .i64 2] from rfl) (Reps.one (show Kd.M (Kd.int .i64) _ _ _ 3 [.int .i64 3] from rfl) (Reps.one (show Kd.M (Kd.int .i64) _ _ _ 4 [.int .i64 4] from rfl) (Reps.one (show Kd.M (Kd.int .i64) _ _ _ 5 [.int .i64 5] from rfl) (Reps.one (show Kd.M (Kd.int .i64) _ _ _ 6 [.int .i64 6] from rfl) (Reps.one (show Kd.M (Kd.int .i64) _ _ _ 7 [.int .i64 7] from rfl) (Reps.one (show Kd.M (Kd.int .i64) _ _ _ 8 [.int .i64 8] from rfl) (Reps.none _ _)))))))))); intro v360 w24 ho25 hb hg_ hnew_; clear hg_ hnew_; (first | rw [← Ny359.out] at ho25 | (simp only [Int.reduceToNat] at ho25; rw [← Ny359.out] at ho25)); have n0_ := Aside0.mk (Kd.R_lower ho25 (below_size (by repeat (first | (with_reducible first | exact HB.out | apply below_alloc | apply pw_below_drewN | apply below_drew1) | exact HB.out)))); have n1_ := Aside0.mk (below_step (by repeat (first | (with_reducible first | exact HB.out | apply below_alloc | apply pw_below_drewN | apply below_drew1) | exact HB.out)) hb); clear HB; have HO361 := n0_; have HB := n1_; clear n0_ n1_; clear hb ho25))
                  go_ret
                  exact ⟨_, by first | rfl | (simp [errW_none, errW_some] <;> rfl) | (simp [*, errW_none, errW_some] <;> rfl), by (with_reducible repeat (first | apply Kd.R_alloc | apply Kd.R_drewN | apply Kd.R_drew)); exact HO361.out, by repeat (first | (with_reducible first | exact HB.out | apply below_alloc | apply pw_below_drewN | apply below_drew1) | exact HB.out)⟩
                · rw [if_neg c23] at H
                  have c23b0 : (a0 == 8) = false := beq_eq_false_iff_ne.mpr c23
                  have c23b1 : (a0 != 8) = true := bne_iff_ne.mpr c23
                  obtain rfl := Option.some.inj H
                  go_enter Try.func27, Try.ntmps27
                  go_wp2
                  go_ret
                  exact ⟨_, by first | rfl | (simp [errW_none, errW_some] <;> rfl) | (simp [*, errW_none, errW_some] <;> rfl), by first | exact Kd.R_nil _ _ _ _ _ | exact Kd.N_nil _ _ _ _ _ | exact Kd.V_nil _ _ _ _ _ | exact Kd.Q_nil _ _ _ _ _ | exact Kd.S_nil _ _ _ _ _, by repeat (first | (with_reducible first | exact HB.out | apply below_alloc | apply pw_below_drewN | apply below_drew1) | exact HB.out)⟩
end Go.Proofs.Ytkcjcdkmdooofaa.Q
end
section
namespace Go.Proofs.Ytkcjcdkmdooofaa.Q
open Go.RowKit Go.Proofs.YtkcjcdkmdooofaaW.PrintWords Go.Proofs.YtkcjcdkmdooofaaW.PrintLast Go.Proofs.YtkcjcdkmdooofaaW.PrintMore
attribute [local go_sem] max2_int min2_int max_two min_two max_three min_three max_four min_four
set_option linter.unusedVariables false
set_option linter.unusedSimpArgs false
def interlockref10_Conflict.l0 : Nat → Int → List Int → Int → Option (Bool)
  | 0, _, _, _ => none
  | k + 1, x1, x5, x6 => if x6 < (x5.length : Int) then (if 0 ≤ x6 then (if (rd x5 x6) = x1 then (some true) else (interlockref10_Conflict.l0 k x1 x5 (wrap64 (x6 + 1)))) else (none)) else (some false)
def interlockref10_Conflict.f (k : Nat) (a0 : Int) (a1 : Int) : Option (Bool) := (interlockref10_row.f a0).bind fun t362 => (interlockref10_Conflict.l0 k a1 t362 0)
theorem interlockref10_Conflict.mono_l : ∀ k, (∀ y0 y1 y2, LeO (interlockref10_Conflict.l0 k y0 y1 y2) (interlockref10_Conflict.l0 (k + 1) y0 y1 y2))
  | 0 => fun _ _ _ r h => by simp [interlockref10_Conflict.l0] at h
  | k + 1 => by
    have ih0 := interlockref10_Conflict.mono_l k
    · intro y0 y1 y2
      unfold interlockref10_Conflict.l0
      repeat' first
      | (with_reducible exact ih0 _ _ _)
      | (with_reducible exact LeO.refl _)
      | (with_reducible exact LeO.none _)
      | (with_reducible refine LeO.ite ?_ ?_)
      | (with_reducible refine LeO.bind ?_ (fun _ => ?_))
      | exact ih0 _ _ _
      | exact LeO.none _
      | refine LeO.ite ?_ ?_
      | refine LeO.bind ?_ (fun _ => ?_)
theorem interlockref10_Conflict.mono : ∀ a0 a1 k, LeO (interlockref10_Conflict.f k a0 a1) (interlockref10_Conflict.f (k + 1) a0 a1) := by
  intro a0 a1 k
  have ih0 := interlockref10_Conflict.mono_l k
  unfold interlockref10_Conflict.f
  repeat' first
      | (with_reducible exact ih0 _ _ _)
      | (with_reducible exact LeO.refl _)
      | (with_reducible exact LeO.none _)
      | (with_reducible refine LeO.ite ?_ ?_)
      | (with_reducible refine LeO.bind ?_ (fun _ => ?_))
      | exact ih0 _ _ _
      | exact LeO.none _
      | refine LeO.ite ?_ ?_
      | refine LeO.bind ?_ (fun _ => ?_)
set_option maxHeartbeats 8000000 in
set_option maxRecDepth 100000 in
theorem interlockref10_Conflict.calls (k : Nat) (a0 : Int) (a1 : Int) (r : Bool) (w : World) (h : interlockref10_Conflict.f k a0 a1 = some r) :
    Calls Try.prog 15 #[.int .i64 a0, .int .i64 a1] w fun e w' => e = .returned (.bool r) ∧ Below w.heap.size w w' := by
  have HB := Aside0.mk (Below.refl w.heap.size w)
  have H : ((interlockref10_row.f a0).bind fun t362 => (interlockref10_Conflict.l0 k a1 t362 0)) = some r := h
  clear h
  replace H := Option.bind_eq_some_iff.mp H
  obtain ⟨t362, A30, H⟩ := H
  replace H : (interlockref10_Conflict.l0 k a1 t362 0) = some r := H
  have A3 := Aside0.mk A30
  clear A30
  have H' := Aside0.mk H
  clear H
  go_enter Try.func15, Try.ntmps15
  go_wp2_with (first | ((with_reducible refine gate_callee (f := 27) rfl ?_); refine goesL_ (some 8) rfl rfl Try.func27 (by kernel_rfl) rfl #[.int .i64 a0] rfl (by (try simp only [List.map_toArray, List.map_cons, List.map_nil]); first | done | rfl | (simp only [List.length_drop, List.length_take]; rfl)) ?_; (with_reducible refine (interlockref10_row.calls a0 t362 _ A3.out).mono ?_); rintro e w4 ⟨v363, rfl, ho0, hb⟩; refine ⟨_, rfl, ?_⟩; have n0_ := Aside0.mk (Kd.R_lower ho0 (below_size (by repeat (first | (with_reducible first | exact HB.out | apply below_alloc | apply pw_below_drewN | apply below_drew1) | exact HB.out)))); have n1_ := Aside0.mk (below_step (by repeat (first | (with_reducible first | exact HB.out | apply below_alloc | apply pw_below_drewN | apply below_drew1) | exact HB.out)) hb); clear HB; have HO364 := n0_; have HB := n1_; clear n0_ n1_; (try clear hb); (try clear hb2); (try clear hk); (try clear hi); (try clear ho0)))
  go_loopg [6] k (fun kq v6 w' => ∃ (x6_1 : Int), v6 = .int .i64 x6_1 ∧ Aside0 (interlockref10_Conflict.l0 kq a1 t362 x6_1 = some r) ∧ Aside0 (kq ≤ k) ∧ Aside0 (Kd.R (Kd.int .i64) 3 w' w.heap.size (fun _ => True) v363 t362) ∧ Aside0 (Below w.heap.size w w'))
  case atStart => exact ⟨(0), (by first | rfl | (simp; done) | (simp [*]; done)), H', ⟨Nat.le_refl _⟩, ⟨by (with_reducible repeat (first | apply Kd.R_alloc | apply Kd.R_drewN | apply Kd.R_drew)); exact HO364.out⟩, ⟨by repeat (first | (with_reducible first | exact HB.out | apply below_alloc | apply pw_below_drewN | apply below_drew1) | exact HB.out)⟩⟩
  case round =>
    clear H'
    try clear c1
    try clear c2
    try clear p2
    obtain ⟨x6_1, rfl, HA, HK1, HO_5, HB⟩ := hrel
    cases gk with
    | zero => exact absurd HA.out (by simp [interlockref10_Conflict.l0])
    | succ k1 =>
      have H := HA.out
      clear HA
      simp only [interlockref10_Conflict.l0] at H
      by_cases c5 : x6_1 < (t362.length : Int)
      · rw [if_pos c5] at H
        have c5b0 : decide (x6_1 < (t362.length : Int)) = true := decide_eq_true c5
        clear c5
        by_cases c6 : 0 ≤ x6_1
        · rw [if_pos c6] at H
          have c6b0 : decide (0 ≤ x6_1) = true := decide_eq_true c6
          clear c6
          by_cases c7 : (rd t362 x6_1) = a1
          · rw [if_pos c7] at H
            have c7b0 : ((rd t362 x6_1) == a1) = true := beq_iff_eq.mpr c7
            have c7b1 : ((rd t362 x6_1) != a1) = false := bne_eq_false_iff_eq.mpr c7
            clear c7
            obtain rfl := Option.some.inj H
            obtain ⟨Ao8, co8, eo8⟩ := Kd.R_slice HO_5.out
            subst eo8
            have p365 : 0 ≤ (x6_1 : Int) := of_decide_eq_true (by first | (with_reducible assumption) | assumption)
            have q365 : x6_1 < (t362.length : Int) := of_decide_eq_true (by first | (with_reducible assumption) | assumption)
            obtain ⟨ad365, e365, hx365_0⟩ := Kd.at_int (Kd.R_reads' HO_5.out).2.2 x6_1 p365 q365
            cases e365
            replace p365 := eq_true p365
            replace q365 := eq_true q365
            go_wp2
            go_ret
            exact ⟨by first | rfl | (simp [errW_none, errW_some] <;> rfl) | (simp [*, errW_none, errW_some] <;> rfl), by repeat (first | (with_reducible first | exact HB.out | apply below_alloc | apply pw_below_drewN | apply below_drew1) | exact HB.out)⟩
          · rw [if_neg c7] at H
            have c7b0 : ((rd t362 x6_1) == a1) = false := beq_eq_false_iff_ne.mpr c7
            have c7b1 : ((rd t362 x6_1) != a1) = true := bne_iff_ne.mpr c7
            have H' := Aside0.mk H
            clear H
            obtain ⟨Ao9, co9, eo9⟩ := Kd.R_slice HO_5.out
            subst eo9
            have p365 : 0 ≤ (x6_1 : Int) := of_decide_eq_true (by first | (with_reducible assumption) | assumption)
            have q365 : x6_1 < (t362.length : Int) := of_decide_eq_true (by first | (with_reducible assumption) | assumption)
            obtain ⟨ad365, e365, hx365_0⟩ := Kd.at_int (Kd.R_reads' HO_5.out).2.2 x6_1 p365 q365
            cases e365
            replace p365 := eq_true p365
            replace q365 := eq_true q365
            go_wp2
            go_roundg k1
            case measure => have := HK1.out; omega
            case rel => exact ⟨(wrap64 (x6_1 + 1)), (by first | rfl | (simp; done) | (simp [*]; done)), H', ⟨by have := HK1.out; omega⟩, ⟨by (with_reducible repeat (first | apply Kd.R_alloc | apply Kd.R_drewN | apply Kd.R_drew)); exact HO_5.out⟩, ⟨by repeat (first | (with_reducible first | exact HB.out | apply below_alloc | apply pw_below_drewN | apply below_drew1) | exact HB.out)⟩⟩
        · rw [if_neg c6] at H
          exact absurd H (by simp)
      · rw [if_neg c5] at H
        have c5b0 : decide (x6_1 < (t362.length : Int)) = false := decide_eq_false c5
        clear c5
        obtain rfl := Option.some.inj H
        obtain ⟨Ao10, co10, eo10⟩ := Kd.R_slice HO_5.out
        subst eo10
        go_wp2
        go_ret
        exact ⟨by first | rfl | (simp [errW_none, errW_some] <;> rfl) | (simp [*, errW_none, errW_some] <;> rfl), by repeat (first | (with_reducible first | exact HB.out | apply below_alloc | apply pw_below_drewN | apply below_drew1) | exact HB.out)⟩
end Go.Proofs.Ytkcjcdkmdooofaa.Q
end
section
namespace Go.Proofs.Ytkcjcdkmdooofaa.Q
open Go.RowKit Go.Proofs.YtkcjcdkmdooofaaW.PrintWords Go.Proofs.YtkcjcdkmdooofaaW.PrintLast Go.Proofs.YtkcjcdkmdooofaaW.PrintMore
attribute [local go_sem] max2_int min2_int max_two min_two max_three min_three max_four min_four
set_option linter.unusedVariables false
set_option linter.unusedSimpArgs false
def interlockref10_right.f (a0 : Int) : Option (Bool) := if a0 ≥ 1 then (some (decide (a0 ≤ 8))) else (some false)
set_option maxHeartbeats 8000000 in
set_option maxRecDepth 100000 in
theorem interlockref10_right.calls (a0 : Int) (r : Bool) (w : World) (h : interlockref10_right.f a0 = some r) :
    Calls Try.prog 40 #[.int .i64 a0] w fun e w' => e = .returned (.bool r) ∧ Drawn0 w w' := by
  have H : (if a0 ≥ 1 then (some (decide (a0 ≤ 8))) else (some false)) = some r := h
  clear h
  by_cases c2 : a0 ≥ 1
  · rw [if_pos c2] at H
    have c2b0 : decide (1 ≤ a0) = true := decide_eq_true c2
    clear c2
    obtain rfl := Option.some.inj H
    go_enter Try.func40, Try.ntmps40
    go_wp2
    go_ret
    exact ⟨by first | rfl | (simp; done) | (simp [*]; done), by repeat (first | exact Drawn0.refl _ | apply Drawn0.step)⟩
  · rw [if_neg c2] at H
    have c2b0 : decide (1 ≤ a0) = false := decide_eq_false c2
    clear c2
    obtain rfl := Option.some.inj H
    go_enter Try.func40, Try.ntmps40
    go_wp2
    go_ret
    exact ⟨by first | rfl | (simp; done) | (simp [*]; done), by repeat (first | exact Drawn0.refl _ | apply Drawn0.step)⟩
end Go.Proofs.Ytkcjcdkmdooofaa.Q
end
section
namespace Go.Proofs.Ytkcjcdkmdooofaa.Q
open Go.RowKit Go.Proofs.YtkcjcdkmdooofaaW.PrintWords Go.Proofs.YtkcjcdkmdooofaaW.PrintLast Go.Proofs.YtkcjcdkmdooofaaW.PrintMore
attribute [local go_sem] max2_int min2_int max_two min_two max_three min_three max_four min_four
set_option linter.unusedVariables false
set_option linter.unusedSimpArgs false
mutual
def interlockref10_Covers.j0 : Nat → Int → Int → Bool → Option (Bool)
  | 0, _, _, _ => none
  | k + 1, x0, x1, x13 => if x13 = true then (some false) else (interlockref10_Covers.l0 k x0 x1 1)
def interlockref10_Covers.l0 : Nat → Int → Int → Int → Option (Bool)
  | 0, _, _, _ => none
  | k + 1, x0, x1, x5 => if x5 ≤ 8 then ((interlockref10_Conflict.f k x1 x5).bind fun t368 => (if t368 = true then ((interlockref10_Conflict.f k x0 x5).bind fun t369 => (if t369 = true then (interlockref10_Covers.l0 k x0 x1 (wrap64 (x5 + 1))) else (some false))) else (interlockref10_Covers.l0 k x0 x1 (wrap64 (x5 + 1))))) else (some true)
end
def interlockref10_Covers.f (k : Nat) (a0 : Int) (a1 : Int) : Option (Bool) := (interlockref10_right.f a0).bind fun t366 => (if t366 = true then ((interlockref10_right.f a1).bind fun t367 => (interlockref10_Covers.j0 k a0 a1 (!t367))) else (interlockref10_Covers.j0 k a0 a1 true))
theorem interlockref10_Covers.mono_l : ∀ k, (∀ y0 y1 y2, LeO (interlockref10_Covers.j0 k y0 y1 y2) (interlockref10_Covers.j0 (k + 1) y0 y1 y2)) ∧ (∀ y0 y1 y2, LeO (interlockref10_Covers.l0 k y0 y1 y2) (interlockref10_Covers.l0 (k + 1) y0 y1 y2))
  | 0 => ⟨fun _ _ _ r h => by simp [interlockref10_Covers.j0] at h, fun _ _ _ r h => by simp [interlockref10_Covers.l0] at h⟩
  | k + 1 => by
    obtain ⟨ih0, ih1⟩ := interlockref10_Covers.mono_l k
    refine ⟨?_, ?_⟩
    · intro y0 y1 y2
      unfold interlockref10_Covers.j0
      repeat' first
      | (with_reducible exact ih0 _ _ _)
      | (with_reducible exact ih1 _ _ _)
      | (with_reducible exact interlockref10_Conflict.mono _ _ _)
      | (with_reducible exact LeO.refl _)
      | (with_reducible exact LeO.none _)
      | (with_reducible refine LeO.ite ?_ ?_)
      | (with_reducible refine LeO.bind ?_ (fun _ => ?_))
      | exact ih0 _ _ _
      | exact ih1 _ _ _
      | exact interlockref10_Conflict.mono _ _ _
      | exact LeO.none _
      | refine LeO.ite ?_ ?_
      | refine LeO.bind ?_ (fun _ => ?_)
    · intro y0 y1 y2
      unfold interlockref10_Covers.l0
      repeat' first
      | (with_reducible exact ih0 _ _ _)
      | (with_reducible exact ih1 _ _ _)
      | (with_reducible exact interlockref10_Conflict.mono _ _ _)
      | (with_reducible exact LeO.refl _)
      | (with_reducible exact LeO.none _)
      | (with_reducible refine LeO.ite ?_ ?_)
      | (with_reducible refine LeO.bind ?_ (fun _ => ?_))
      | exact ih0 _ _ _
      | exact ih1 _ _ _
      | exact interlockref10_Conflict.mono _ _ _
      | exact LeO.none _
      | refine LeO.ite ?_ ?_
      | refine LeO.bind ?_ (fun _ => ?_)
theorem interlockref10_Covers.mono : ∀ a0 a1 k, LeO (interlockref10_Covers.f k a0 a1) (interlockref10_Covers.f (k + 1) a0 a1) := by
  intro a0 a1 k
  obtain ⟨ih0, ih1⟩ := interlockref10_Covers.mono_l k
  unfold interlockref10_Covers.f
  repeat' first
      | (with_reducible exact ih0 _ _ _)
      | (with_reducible exact ih1 _ _ _)
      | (with_reducible exact interlockref10_Conflict.mono _ _ _)
      | (with_reducible exact LeO.refl _)
      | (with_reducible exact LeO.none _)
      | (with_reducible refine LeO.ite ?_ ?_)
      | (with_reducible refine LeO.bind ?_ (fun _ => ?_))
      | exact ih0 _ _ _
      | exact ih1 _ _ _
      | exact interlockref10_Conflict.mono _ _ _
      | exact LeO.none _
      | refine LeO.ite ?_ ?_
      | refine LeO.bind ?_ (fun _ => ?_)
set_option maxHeartbeats 8000000 in
set_option maxRecDepth 100000 in
theorem interlockref10_Covers.calls (k : Nat) (a0 : Int) (a1 : Int) (r : Bool) (w : World) (h : interlockref10_Covers.f k a0 a1 = some r) :
    Calls Try.prog 18 #[.int .i64 a0, .int .i64 a1] w fun e w' => e = .returned (.bool r) ∧ Below w.heap.size w w' := by
  have HB := Aside0.mk (Below.refl w.heap.size w)
  have H : ((interlockref10_right.f a0).bind fun t366 => (if t366 = true then ((interlockref10_right.f a1).bind fun t367 => (interlockref10_Covers.j0 k a0 a1 (!t367))) else (interlockref10_Covers.j0 k a0 a1 true))) = some r := h
  clear h
  have HC3 := Aside0.mk H
  clear H
  go_enter Try.func18, Try.ntmps18
  go_upto_region 1 with (fail)
  go_cut [13] (fun v13 wc => ∃ (kq : Nat) (x13_2 : Bool), v13 = .bool x13_2 ∧ Aside0 (interlockref10_Covers.j0 kq a0 a1 x13_2 = some r) ∧ Aside0 (kq ≤ k) ∧ Aside0 (Below w.heap.size w wc))
  case first =>
    have H := HC3.out
    clear HC3
    replace H := Option.bind_eq_some_iff.mp H
    obtain ⟨t366, A40, H⟩ := H
    replace H : (if t366 = true then ((interlockref10_right.f a1).bind fun t367 => (interlockref10_Covers.j0 k a0 a1 (!t367))) else (interlockref10_Covers.j0 k a0 a1 true)) = some r := H
    have A4 := Aside0.mk A40
    clear A40
    by_cases c5 : t366 = true
    · subst c5
      have H1 : ((interlockref10_right.f a1).bind fun t367 => (interlockref10_Covers.j0 k a0 a1 (!t367))) = some r := by rw [if_pos rfl] at H; exact H
      clear H
      have H := H1
      clear H1
      replace H := Option.bind_eq_some_iff.mp H
      obtain ⟨t367, A60, H⟩ := H
      replace H : (interlockref10_Covers.j0 k a0 a1 (!t367)) = some r := H
      have A6 := Aside0.mk A60
      clear A60
      have H' := Aside0.mk H
      clear H
      go_wp2_with (first | ((with_reducible refine gate_callee (f := 40) rfl ?_); refine goesL_ (some 7) rfl rfl Try.func40 (by kernel_rfl) rfl #[.int .i64 a0] rfl (by (try simp only [List.map_toArray, List.map_cons, List.map_nil]); first | done | rfl | (simp only [List.length_drop, List.length_take]; rfl)) ?_; (with_reducible refine (interlockref10_right.calls a0 true _ A4.out).mono ?_); rintro e w' ⟨rfl, ⟨nd, rfl⟩⟩; refine ⟨_, rfl, ?_⟩) | (go_at_call 40; (with_reducible refine (interlockref10_right.calls a1 t367 _ A6.out).mono ?_); rintro e w' ⟨rfl, ⟨nd, rfl⟩⟩))
      go_meet
      case rel => exact ⟨_, (!t367), (by first | rfl | (simp; done) | (simp [*]; done)), H', ⟨by first | omega | exact Nat.le_refl _⟩, ⟨by repeat (first | (with_reducible first | exact HB.out | apply below_alloc | apply pw_below_drewN | apply below_drew1) | exact HB.out)⟩⟩
    · replace c5 := Bool.eq_false_iff.mpr c5
      subst c5
      have H1 : (interlockref10_Covers.j0 k a0 a1 true) = some r := by rw [if_neg (show ¬ (false = true) by decide)] at H; exact H
      clear H
      have H := H1
      clear H1
      have H' := Aside0.mk H
      clear H
      go_wp2_with (first | ((with_reducible refine gate_callee (f := 40) rfl ?_); refine goesL_ (some 7) rfl rfl Try.func40 (by kernel_rfl) rfl #[.int .i64 a0] rfl (by (try simp only [List.map_toArray, List.map_cons, List.map_nil]); first | done | rfl | (simp only [List.length_drop, List.length_take]; rfl)) ?_; (with_reducible refine (interlockref10_right.calls a0 false _ A4.out).mono ?_); rintro e w' ⟨rfl, ⟨nd, rfl⟩⟩; refine ⟨_, rfl, ?_⟩))
      go_meet
      case rel => exact ⟨_, (true), (by first | rfl | (simp; done) | (simp [*]; done)), H', ⟨by first | omega | exact Nat.le_refl _⟩, ⟨by repeat (first | (with_reducible first | exact HB.out | apply below_alloc | apply pw_below_drewN | apply below_drew1) | exact HB.out)⟩⟩
  case rest =>
    clear HC3
    try clear c1
    try clear p2
    try clear c4
    try clear c5
    obtain ⟨kq, x13_2, rfl, HA, HJ2, HB⟩ := hcut
    cases kq with
    | zero => exact absurd HA.out (by simp [interlockref10_Covers.j0])
    | succ kj2 =>
      have H := HA.out
      clear HA
      simp only [interlockref10_Covers.j0] at H
      by_cases c7 : x13_2 = true
      · subst c7
        have H1 : (some false) = some r := by rw [if_pos rfl] at H; exact H
        clear H
        have H := H1
        clear H1
        obtain rfl := Option.some.inj H
        go_wp2
        go_ret
        exact ⟨by first | rfl | (simp [errW_none, errW_some] <;> rfl) | (simp [*, errW_none, errW_some] <;> rfl), by repeat (first | (with_reducible first | exact HB.out | apply below_alloc | apply pw_below_drewN | apply below_drew1) | exact HB.out)⟩
      · replace c7 := Bool.eq_false_iff.mpr c7
        subst c7
        have H1 : (interlockref10_Covers.l0 kj2 a0 a1 1) = some r := by rw [if_neg (show ¬ (false = true) by decide)] at H; exact H
        clear H
        have H := H1
        clear H1
        have H' := Aside0.mk H
        clear H
        go_wp2
        go_loopg [5] kj2 (fun kq v5 w' => ∃ (x5_2 : Int), v5 = .int .i64 x5_2 ∧ Aside0 (interlockref10_Covers.l0 kq a0 a1 x5_2 = some r) ∧ Aside0 (kq ≤ kj2) ∧ Aside0 (Below w.heap.size w w'))
        case atStart => exact ⟨(1), (by first | rfl | (simp; done) | (simp [*]; done)), H', ⟨Nat.le_refl _⟩, ⟨by repeat (first | (with_reducible first | exact HB.out | apply below_alloc | apply pw_below_drewN | apply below_drew1) | exact HB.out)⟩⟩
        case round =>
          clear H'
          try clear c1
          try clear p2
          try clear c4
          try clear c5
          try clear c7
          try clear p2
          obtain ⟨x5_2, rfl, HA, HK2, HB⟩ := hrel
          cases gk with
          | zero => exact absurd HA.out (by simp [interlockref10_Covers.l0])
          | succ k2 =>
            have H := HA.out
            clear HA
            simp only [interlockref10_Covers.l0] at H
            by_cases c8 : x5_2 ≤ 8
            · rw [if_pos c8] at H
              have c8b0 : decide (x5_2 ≤ 8) = true := decide_eq_true c8
              clear c8
              replace H := Option.bind_eq_some_iff.mp H
              obtain ⟨t368, A90, H⟩ := H
              replace H : (if t368 = true then ((interlockref10_Conflict.f k2 a0 x5_2).bind fun t369 => (if t369 = true then (interlockref10_Covers.l0 k2 a0 a1 (wrap64 (x5_2 + 1))) else (some false))) else (interlockref10_Covers.l0 k2 a0 a1 (wrap64 (x5_2 + 1)))) = some r := H
              have A9 := Aside0.mk A90
              clear A90
              by_cases c10 : t368 = true
              · subst c10
                have H1 : ((interlockref10_Conflict.f k2 a0 x5_2).bind fun t369 => (if t369 = true then (interlockref10_Covers.l0 k2 a0 a1 (wrap64 (x5_2 + 1))) else (some false))) = some r := by rw [if_pos rfl] at H; exact H
                clear H
                have H := H1
                clear H1
                replace H := Option.bind_eq_some_iff.mp H
                obtain ⟨t369, A110, H⟩ := H
                replace H : (if t369 = true then (interlockref10_Covers.l0 k2 a0 a1 (wrap64 (x5_2 + 1))) else (some false)) = some r := H
                have A11 := Aside0.mk A110
                clear A110
                by_cases c12 : t369 = true
                · subst c12
                  have H1 : (interlockref10_Covers.l0 k2 a0 a1 (wrap64 (x5_2 + 1))) = some r := by rw [if_pos rfl] at H; exact H
                  clear H
                  have H := H1
                  clear H1
                  have H' := Aside0.mk H
                  clear H
                  go_wp2_with (first | ((with_reducible refine gate_callee (f := 15) rfl ?_); refine goesL_ (some 20) rfl rfl Try.func15 (by kernel_rfl) rfl #[.int .i64 a1, .int .i64 x5_2] rfl (by (try simp only [List.map_toArray, List.map_cons, List.map_nil]); first | done | rfl | (simp only [List.length_drop, List.length_take]; rfl)) ?_; (with_reducible refine (interlockref10_Conflict.calls k2 a1 x5_2 true _ A9.out).mono ?_); rintro e w13 ⟨rfl, hb⟩; refine ⟨_, rfl, ?_⟩; have n0_ := Aside0.mk (below_step (by repeat (first | (with_reducible first | exact HB.out | apply below_alloc | apply pw_below_drewN | apply below_drew1) | exact HB.out)) hb); clear HB; have HB := n0_; clear n0_; (try clear hb); (try clear hb2); (try clear hk); (try clear hi)) | (go_at_call 15; (with_reducible refine (interlockref10_Conflict.calls k2 a0 x5_2 true _ A11.out).mono ?_); rintro e w14 ⟨rfl, hb⟩; have n0_ := Aside0.mk (below_step (by repeat (first | (with_reducible first | exact HB.out | apply below_alloc | apply pw_below_drewN | apply below_drew1) | exact HB.out)) hb); clear HB; have HB := n0_; clear n0_; (try clear hb); (try clear hb2); (try clear hk); (try clear hi)))
                  go_roundg k2
                  case measure => have := HJ2.out; have := HK2.out; omega
                  case rel => exact ⟨(wrap64 (x5_2 + 1)), (by first | rfl | (simp; done) | (simp [*]; done)), H', ⟨by have := HJ2.out; have := HK2.out; omega⟩, ⟨by repeat (first | (with_reducible first | exact HB.out | apply below_alloc | apply pw_below_drewN | apply below_drew1) | exact HB.out)⟩⟩
                · replace c12 := Bool.eq_false_iff.mpr c12
                  subst c12
                  have H1 : (some false) = some r := by rw [if_neg (show ¬ (false = true) by decide)] at H; exact H
                  clear H
                  have H := H1
                  clear H1
                  obtain rfl := Option.some.inj H
                  go_wp2_with (first | ((with_reducible refine gate_callee (f := 15) rfl ?_); refine goesL_ (some 20) rfl rfl Try.func15 (by kernel_rfl) rfl #[.int .i64 a1, .int .i64 x5_2] rfl (by (try simp only [List.map_toArray, List.map_cons, List.map_nil]); first | done | rfl | (simp only [List.length_drop, List.length_take]; rfl)) ?_; (with_reducible refine (interlockref10_Conflict.calls k2 a1 x5_2 true _ A9.out).mono ?_); rintro e w15 ⟨rfl, hb⟩; refine ⟨_, rfl, ?_⟩; have n0_ := Aside0.mk (below_step (by repeat (first | (with_reducible first | exact HB.out | apply below_alloc | apply pw_below_drewN | apply below_drew1) | exact HB.out)) hb); clear HB; have HB := n0_; clear n0_; (try clear hb); (try clear hb2); (try clear hk); (try clear hi)) | (go_at_call 15; (with_reducible refine (interlockref10_Conflict.calls k2 a0 x5_2 false _ A11.out).mono ?_); rintro e w16 ⟨rfl, hb⟩; have n0_ := Aside0.mk (below_step (by repeat (first | (with_reducible first | exact HB.out | apply below_alloc | apply pw_below_drewN | apply below_drew1) | exact HB.out)) hb); clear HB; have HB := n0_; clear n0_; (try clear hb); (try clear hb2); (try clear hk); (try clear hi)))
                  go_ret
                  exact ⟨by first | rfl | (simp [errW_none, errW_some] <;> rfl) | (simp [*, errW_none, errW_some] <;> rfl), by repeat (first | (with_reducible first | exact HB.out | apply below_alloc | apply pw_below_drewN | apply below_drew1) | exact HB.out)⟩
              · replace c10 := Bool.eq_false_iff.mpr c10
                subst c10
                have H1 : (interlockref10_Covers.l0 k2 a0 a1 (wrap64 (x5_2 + 1))) = some r := by rw [if_neg (show ¬ (false = true) by decide)] at H; exact H
                clear H
                have H := H1
                clear H1
                have H' := Aside0.mk H
                clear H
                go_wp2_with (first | ((with_reducible refine gate_callee (f := 15) rfl ?_); refine goesL_ (some 20) rfl rfl Try.func15 (by kernel_rfl) rfl #[.int .i64 a1, .int .i64 x5_2] rfl (by (try simp only [List.map_toArray, List.map_cons, List.map_nil]); first | done | rfl | (simp only [List.length_drop, List.length_take]; rfl)) ?_; (with_reducible refine (interlockref10_Conflict.calls k2 a1 x5_2 false _ A9.out).mono ?_); rintro e w17 ⟨rfl, hb⟩; refine ⟨_, rfl, ?_⟩; have n0_ := Aside0.mk (below_step (by repeat (first | (with_reducible first | exact HB.out | apply below_alloc | apply pw_below_drewN | apply below_drew1) | exact HB.out)) hb); clear HB; have HB := n0_; clear n0_; (try clear hb); (try clear hb2); (try clear hk); (try clear hi)))
                go_roundg k2
                case measure => have := HJ2.out; have := HK2.out; omega
                case rel => exact ⟨(wrap64 (x5_2 + 1)), (by first | rfl | (simp; done) | (simp [*]; done)), H', ⟨by have := HJ2.out; have := HK2.out; omega⟩, ⟨by repeat (first | (with_reducible first | exact HB.out | apply below_alloc | apply pw_below_drewN | apply below_drew1) | exact HB.out)⟩⟩
            · rw [if_neg c8] at H
              have c8b0 : decide (x5_2 ≤ 8) = false := decide_eq_false c8
              clear c8
              obtain rfl := Option.some.inj H
              go_wp2
              go_ret
              exact ⟨by first | rfl | (simp [errW_none, errW_some] <;> rfl) | (simp [*, errW_none, errW_some] <;> rfl), by repeat (first | (with_reducible first | exact HB.out | apply below_alloc | apply pw_below_drewN | apply below_drew1) | exact HB.out)⟩
end Go.Proofs.Ytkcjcdkmdooofaa.Q
end
section
namespace Go.Proofs.Lk
open Go Go.RowKit Go.Proofs.Ytkcjcdkmdooofaa.Q Go.Proofs.YtkcjcdkmdooofaaW.PrintWords
set_option linter.unusedVariables false
set_option linter.unusedSimpArgs false
set_option maxRecDepth 100000
theorem right_f (a : Int) : modes_Right.f a = some (right a) := by
  unfold modes_Right.f right
  by_cases h1 : 1 ≤ a
  · rw [if_pos h1]
    by_cases h2 : a ≤ 8 <;> simp [h1, h2]
  · rw [if_neg h1]
    simp [h1]
theorem conf_f (a b : Int) : modes_Conflict.f 40 a b = some (conf a b) := by
  have hn : (right a = false ∨ right b = false) → conf a b = false := fun h => by
    cases hc : conf a b with
    | false => rfl
    | true =>
      obtain ⟨h1, h2⟩ := conf_right hc
      rw [h1, h2] at h
      simp at h
  by_cases ha : right a = true
  · by_cases hb : right b = true
    · rcases right_cases ha with rfl | rfl | rfl | rfl | rfl | rfl | rfl | rfl <;> rcases right_cases hb with rfl | rfl | rfl | rfl | rfl | rfl | rfl | rfl <;> decide +kernel
    · have hb : right b = false := by simpa using hb
      unfold modes_Conflict.f
      rw [right_f a, ha, right_f b, hb, hn (.inr hb)]
      rfl
  · have ha : right a = false := by simpa using ha
    unfold modes_Conflict.f
    rw [right_f a, ha, hn (.inl ha)]
    rfl
theorem cov_right {a b : Int} (h : right a = false ∨ right b = false) : cov a b = false := by
  unfold cov
  rcases h with h | h <;> rw [h] <;> simp
theorem cov_f (a b : Int) : modes_Covers.f 40 a b = some (cov a b) := by
  by_cases ha : right a = true
  · by_cases hb : right b = true
    · rcases right_cases ha with rfl | rfl | rfl | rfl | rfl | rfl | rfl | rfl <;> rcases right_cases hb with rfl | rfl | rfl | rfl | rfl | rfl | rfl | rfl <;> decide +kernel
    · have hb : right b = false := by simpa using hb
      unfold modes_Covers.f
      rw [right_f a, ha, right_f b, hb, cov_right (.inr hb)]
      rfl
  · have ha : right a = false := by simpa using ha
    unfold modes_Covers.f
    rw [right_f a, ha, cov_right (.inl ha)]
    rfl
theorem join_f {a b : Int} (ha : right a = true) (hb : right b = true) : modes_Join.f 40 a b = some (join a b) := by
  rcases right_cases ha with rfl | rfl | rfl | rfl | rfl | rfl | rfl | rfl <;> rcases right_cases hb with rfl | rfl | rfl | rfl | rfl | rfl | rfl | rfl <;> decide +kernel
theorem conf_calls (w : World) (a b : Int) : Calls Try.prog 51 #[.int .i64 a, .int .i64 b] w fun E w' => E = .returned (.bool (conf a b)) ∧ Below w.heap.size w w' := modes_Conflict.calls 40 a b _ w (conf_f a b)
theorem cov_calls (w : World) (a b : Int) : Calls Try.prog 34 #[.int .i64 a, .int .i64 b] w fun E w' => E = .returned (.bool (cov a b)) ∧ Below w.heap.size w w' := modes_Covers.calls 40 a b _ w (cov_f a b)
theorem join_calls (w : World) {a b : Int} (ha : right a = true) (hb : right b = true) : Calls Try.prog 35 #[.int .i64 a, .int .i64 b] w fun E w' => E = .returned (.int .i64 (join a b)) ∧ Below w.heap.size w w' := modes_Join.calls 40 a b _ w (join_f ha hb)
end Go.Proofs.Lk
end
section
namespace Go.Proofs.Kb
open Go Go.RowKit Go.Proofs.Ytkcjcdkmdooofaa.Q Go.Proofs.YtkcjcdkmdooofaaW.PrintWords Go.Proofs.YtkcjcdkmdooofaaW.PrintLast Go.Proofs.YtkcjcdkmdooofaaW.PrintMore
set_option linter.unusedVariables false
set_option linter.unusedSimpArgs false
set_option maxRecDepth 100000
open Go.Proofs.Lk
structure RowH (w : World) (p : Nat) (hv wv : Value) (r : LRow) : Prop where
  cells : w.heap[p]? = some (.cells #[hv, wv] 64 (0, 0))
  holds : RowO w hv r.holds
  waits : RowO w wv r.waits
theorem RowH.below {w w' : World} {p : Nat} {hv wv : Value} {r : LRow} (h : RowH w p hv wv r) (hb : Below w.heap.size w w') : RowH w' p hv wv r :=
  ⟨(hb.block p (lt_of_some h.cells)).trans h.cells, h.holds.below hb, h.waits.below hb⟩
theorem RowH.c0 {w : World} {p : Nat} {hv wv : Value} {r : LRow} (h : RowH w p hv wv r) : w.cell? ⟨p, 0, none⟩ = some hv := by
  rw [cell_of_row w p 0 _ 64 (0, 0) h.cells]
  rfl
theorem RowH.c1 {w : World} {p : Nat} {hv wv : Value} {r : LRow} (h : RowH w p hv wv r) : w.cell? ⟨p, 1, none⟩ = some wv := by
  rw [cell_of_row w p 1 _ 64 (0, 0) h.cells]
  rfl
def ptr (p : Nat) : Value := .pointer (some ⟨p, 0, none⟩)
theorem box_keeps (w : World) (T : TypeId) (v : Value) {W : World} (hb : Below (w.alloc (.cells #[v] T)).heap.size (w.alloc (.cells #[v] T)) W) : W.cell? ⟨w.heap.size, 0, none⟩ = some v := by
  have h : (w.alloc (.cells #[v] T)).heap[w.heap.size]? = some (.cells #[v] T (0, 0)) := heap_alloc_new w _
  rw [cell_of_row W w.heap.size 0 #[v] T (0, 0) ((hb.block _ (lt_of_some h)).trans h)]
  rfl
def isT (x : Int) : One → Bool := fun o => o.1 == x
theorem same54 (W : World) (a b x : Int) (c : Addr) (hc : W.cell? c = some (.int .i64 x)) :
    Calls Try.prog 54 #[.agg #[.int .i64 a, .int .i64 b], .pointer (some c)] W fun E w' => E = .returned (.bool (a == x)) ∧ Below W.heap.size W w' := by
  have hu66 := Try.underlying66
  have hlt := World.block_lt_of_cell? W _ hc
  go_enter Try.func54, Try.ntmps54
  go_wp2
  go_ret
  exact ⟨rfl, (Below.refl _ W).alloc (Nat.le_refl _) _⟩
theorem same49 (W : World) (a b x : Int) (c : Addr) (hc : W.cell? c = some (.int .i64 x)) :
    Calls Try.prog 49 #[.agg #[.int .i64 a, .int .i64 b], .pointer (some c)] W fun E w' => E = .returned (.bool (a == x)) ∧ Below W.heap.size W w' := by
  have hu66 := Try.underlying66
  have hlt := World.block_lt_of_cell? W _ hc
  go_enter Try.func49, Try.ntmps49
  go_wp2
  go_ret
  exact ⟨rfl, (Below.refl _ W).alloc (Nat.le_refl _) _⟩
theorem same65 (W : World) (a b x : Int) (c : Addr) (hc : W.cell? c = some (.int .i64 x)) :
    Calls Try.prog 65 #[.agg #[.int .i64 a, .int .i64 b], .pointer (some c)] W fun E w' => E = .returned (.bool (a == x)) ∧ Below W.heap.size W w' := by
  have hu66 := Try.underlying66
  have hlt := World.block_lt_of_cell? W _ hc
  go_enter Try.func65, Try.ntmps65
  go_wp2
  go_ret
  exact ⟨rfl, (Below.refl _ W).alloc (Nat.le_refl _) _⟩
set_option maxHeartbeats 2000000 in
theorem hold_calls (w : World) (p : Nat) (hv wv : Value) (r : LRow) (x : Int) (h : RowH w p hv wv r) (hn : r.holds.length < 1000000) :
    Calls Try.prog 33 #[ptr p, .int .i64 x] w fun E w' => E = .returned (.int .i64 (idxI r.holds (isT x))) ∧ Below w.heap.size w w' := by
  obtain ⟨R, hR⟩ : ∃ R, (fun E w' => E = Ending.returned (.int .i64 (idxI r.holds (isT x))) ∧ Below w.heap.size w w') = R := ⟨_, rfl⟩
  have HR := Aside0.mk hR
  rw [hR]
  have H := Aside0.mk h
  have HN := Aside0.mk hn
  have c0 := h.c0
  have hlt := lt_of_some h.cells
  clear h hR hn
  unfold ptr
  go_enter Try.func33, Try.ntmps33
  go_wp2_with (go_at_call 48; refine (idx54 _ hv r.holds _ (isT x) (H.out.holds.below ((Below.refl _ w).alloc (Nat.le_refl _) _)) HN.out (fun W o ho hb => same54 W o.1 o.2 x _ (box_keeps w 3 (.int .i64 x) hb))).mono ?_; rintro E w2 ⟨rfl, hb⟩; have HB := Aside0.mk hb; clear hb)
  rw [← HR.out]
  have hal : Below w.heap.size w (w.alloc (.cells #[.int .i64 x] 3)) := (Below.refl _ w).alloc (Nat.le_refl _) _
  exact ⟨rfl, hal.trans (HB.out.mono hal.size)⟩
set_option maxHeartbeats 2000000 in
theorem wait_calls (w : World) (p : Nat) (hv wv : Value) (r : LRow) (x : Int) (h : RowH w p hv wv r) (hn : r.waits.length < 1000000) :
    Calls Try.prog 29 #[ptr p, .int .i64 x] w fun E w' => E = .returned (.int .i64 (idxI r.waits (isT x))) ∧ Below w.heap.size w w' := by
  obtain ⟨R, hR⟩ : ∃ R, (fun E w' => E = Ending.returned (.int .i64 (idxI r.waits (isT x))) ∧ Below w.heap.size w w') = R := ⟨_, rfl⟩
  have HR := Aside0.mk hR
  rw [hR]
  have H := Aside0.mk h
  have HN := Aside0.mk hn
  have c0 := h.c1
  have hlt := lt_of_some h.cells
  clear h hR hn
  unfold ptr
  go_enter Try.func29, Try.ntmps29
  go_wp2_with (go_at_call 48; refine (idx49 _ wv r.waits _ (isT x) (H.out.waits.below ((Below.refl _ w).alloc (Nat.le_refl _) _)) HN.out (fun W o ho hb => same49 W o.1 o.2 x _ (box_keeps w 3 (.int .i64 x) hb))).mono ?_; rintro E w2 ⟨rfl, hb⟩; have HB := Aside0.mk hb; clear hb)
  rw [← HR.out]
  have hal : Below w.heap.size w (w.alloc (.cells #[.int .i64 x] 3)) := (Below.refl _ w).alloc (Nat.le_refl _) _
  exact ⟨rfl, hal.trans (HB.out.mono hal.size)⟩
theorem idx_neg (l : List One) (x : Int) : idxI l (isT x) < 0 ↔ has l x = false := by
  unfold idxI has
  cases h : l.findIdx? (isT x) with
  | none =>
    rw [List.findIdx?_eq_none_iff] at h
    simp only [Int.reduceNeg, Int.reduceLT, true_iff]
    rw [List.any_eq_false]
    intro o ho
    have := h o ho
    unfold isT at this
    simpa using this
  | some i =>
    rw [List.findIdx?_eq_some_iff_getElem] at h
    obtain ⟨hi, hp, _⟩ := h
    have e : l.any (fun o => o.1 == x) = true := List.any_eq_true.2 ⟨l[i], List.getElem_mem hi, hp⟩
    rw [e]
    simp
theorem idx_neg' (l : List One) (x : Int) : decide (idxI l (isT x) < 0) = !(has l x) := by
  cases h : has l x with
  | false => simpa using (idx_neg l x).2 h
  | true =>
    have : ¬ idxI l (isT x) < 0 := fun h2 => by rw [(idx_neg l x).1 h2] at h; cases h
    simpa using this
theorem idx_lead (l : List One) (f : One → Bool) : (match l.findIdx? f with | some n => (n : Int) | none => (l.length : Int)) = if idxI l f < 0 then (l.length : Int) else idxI l f := by
  unfold idxI
  cases l.findIdx? f with
  | none => simp
  | some n =>
    simp
    omega
set_option maxHeartbeats 2000000 in
theorem free57 (W : World) (p : Nat) (hv wv : Value) (r : LRow) (a b : Int) (c : Addr) (hc : W.cell? c = some (ptr p)) (h : RowH W p hv wv r) (hn : r.holds.length < 1000000) :
    Calls Try.prog 57 #[.agg #[.int .i64 a, .int .i64 b], .pointer (some c)] W fun E w' => E = .returned (.bool (!(has r.holds a))) ∧ Below W.heap.size W w' := by
  rw [← idx_neg']
  have hu66 := Try.underlying66
  have hlt := World.block_lt_of_cell? W _ hc
  have H := Aside0.mk h
  have HN := Aside0.mk hn
  have hal : Below W.heap.size W (W.alloc (.cells #[.int .i64 a, .int .i64 b] 66)) := (Below.refl _ W).alloc (Nat.le_refl _) _
  have HA := Aside0.mk hal
  clear hal h hn
  unfold ptr at hc
  go_enter Try.func57, Try.ntmps57
  go_wp2_with (go_at_call 33; refine (hold_calls _ p hv wv r a (H.out.below HA.out) HN.out).mono ?_; rintro E w2 ⟨rfl, hb⟩; have HB := Aside0.mk hb; clear hb)
  go_ret
  exact ⟨rfl, HA.out.trans (HB.out.mono HA.out.size)⟩
set_option maxHeartbeats 2000000 in
theorem place_calls (w : World) (p : Nat) (hv wv : Value) (r : LRow) (x : Int) (h : RowH w p hv wv r) (hn : r.holds.length < 1000000) (hn2 : r.waits.length < 1000000) :
    Calls Try.prog 36 #[ptr p, .int .i64 x] w fun E w' => E = .returned (.int .i64 (place r x)) ∧ Below w.heap.size w w' := by
  obtain ⟨R, hR⟩ : ∃ R, (fun E w' => E = Ending.returned (.int .i64 (place r x)) ∧ Below w.heap.size w w') = R := ⟨_, rfl⟩
  have HR := Aside0.mk hR
  rw [hR]
  have H := Aside0.mk h
  have HN := Aside0.mk hn
  have HN2 := Aside0.mk hn2
  have hal : Below w.heap.size w (w.alloc (.cells #[ptr p] 60)) := (Below.refl _ w).alloc (Nat.le_refl _) _
  have HA := Aside0.mk hal
  have hlw : ∃ A c, wv = .slice A r.waits.length c := by
    rcases h.waits.2.2 with ⟨rfl, h0⟩ | ⟨g, c, cur, rfl, _⟩
    · exact ⟨_, _, by rw [h0]⟩
    · exact ⟨_, _, rfl⟩
  obtain ⟨A, c, rfl⟩ := hlw
  clear h hR hn hn2 hal
  obtain ⟨P, hP⟩ : ∃ P, place r x = P := ⟨_, rfl⟩
  rw [hP] at HR
  obtain ⟨i, hi⟩ : ∃ i, idxI r.holds (isT x) = i := ⟨_, rfl⟩
  obtain ⟨j, hj⟩ : ∃ j, idxI r.waits (fun o => !(has r.holds o.1)) = j := ⟨_, rfl⟩
  have HI := Aside0.mk hi
  have HJ := Aside0.mk hj
  clear hi hj
  have arm33 : ∀ W, Below (w.alloc (.cells #[ptr p] 60)).heap.size (w.alloc (.cells #[ptr p] 60)) W → Calls Try.prog 33 #[ptr p, .int .i64 x] W fun E w' => E = .returned (.int .i64 i) ∧ Below W.heap.size W w' := fun W hb => by
    rw [← HI.out]
    exact hold_calls W p hv _ r x ((H.out.below HA.out).below hb) HN.out
  have arm48 : ∀ W, Below (w.alloc (.cells #[ptr p] 60)).heap.size (w.alloc (.cells #[ptr p] 60)) W → Calls Try.prog 48 #[.slice A r.waits.length c, .func (.func 57) #[] #[.pointer (some ⟨w.heap.size, 0, none⟩)]] W fun E w' => E = .returned (.int .i64 j) ∧ Below W.heap.size W w' := fun W hb => by
    rw [← HJ.out]
    exact idx57 W _ r.waits _ _ ((H.out.waits.below HA.out).below hb) HN2.out fun W2 o ho hb2 => free57 W2 p hv _ r o.1 o.2 _ (box_keeps w 60 (ptr p) (hb.trans (hb2.mono hb.size))) (((H.out.below HA.out).below hb).below hb2) HN.out
  have A33 := Aside0.mk arm33
  have A48 := Aside0.mk arm48
  clear arm33 arm48
  have hplace : (P : Int) = if i < 0 then (r.waits.length : Int) else if j < 0 then (r.waits.length : Int) else j := by
    rw [← hP]
    unfold place
    cases hh : has r.holds x with
    | false =>
      have : i < 0 := by rw [← HI.out]; exact (idx_neg _ _).2 hh
      rw [if_pos this]
      rfl
    | true =>
      have : ¬ i < 0 := by rw [← HI.out, idx_neg, hh]; simp
      rw [if_neg this, ← HJ.out, ← idx_lead]
      rw [if_pos rfl]
      generalize r.waits.findIdx? _ = q
      cases q <;> rfl
  have HP := Aside0.mk hplace
  clear hplace hP
  have hcell : ∀ W, Below (w.alloc (.cells #[ptr p] 60)).heap.size (w.alloc (.cells #[ptr p] 60)) W → W.cell? ⟨w.heap.size, 0, none⟩ = some (ptr p) ∧ W.cell? ⟨p, 1, none⟩ = some (.slice A r.waits.length c) := fun W hb => ⟨box_keeps w 60 (ptr p) hb, ((H.out.below HA.out).below hb).c1⟩
  have HCE := Aside0.mk hcell
  clear hcell
  unfold ptr at A33 A48 HCE HA
  unfold ptr
  obtain ⟨n, hnn⟩ : ∃ n, r.waits.length = n := ⟨_, rfl⟩
  rw [hnn] at HP HCE A48
  clear hnn
  by_cases hi0 : i < 0
  · go_enter Try.func36, Try.ntmps36
    go_wp2_with (go_at_call 33; refine (A33.out _ (Below.refl _ _)).mono ?_; rintro E w2 ⟨rfl, hb⟩; obtain ⟨q0, q1⟩ := HCE.out _ hb; have HB := Aside0.mk hb; clear hb)
    rw [← HR.out]
    exact ⟨by (rw [HP.out, if_pos hi0]; rfl), HA.out.trans (HB.out.mono HA.out.size)⟩
  · by_cases hj0 : j < 0
    · go_enter Try.func36, Try.ntmps36
      go_wp2_with (first | (go_at_call 33; refine (A33.out _ (Below.refl _ _)).mono ?_; rintro E w2 ⟨rfl, hb⟩; obtain ⟨q0, q1⟩ := HCE.out _ hb; have HB := Aside0.mk hb; clear hb) | (go_at_call 48; refine (A48.out _ HB.out).mono ?_; rintro E w3 ⟨rfl, hb⟩; have HB2 := Aside0.mk (HB.out.trans (hb.mono HB.out.size)); clear hb; obtain ⟨q2, q3⟩ := HCE.out _ HB2.out; clear q0 q1))
      rw [← HR.out]
      exact ⟨by (rw [HP.out, if_neg (by omega), if_pos hj0]; rfl), HA.out.trans (HB2.out.mono HA.out.size)⟩
    · go_enter Try.func36, Try.ntmps36
      go_wp2_with (first | (go_at_call 33; refine (A33.out _ (Below.refl _ _)).mono ?_; rintro E w2 ⟨rfl, hb⟩; obtain ⟨q0, q1⟩ := HCE.out _ hb; have HB := Aside0.mk hb; clear hb) | (go_at_call 48; refine (A48.out _ HB.out).mono ?_; rintro E w3 ⟨rfl, hb⟩; have HB2 := Aside0.mk (HB.out.trans (hb.mono HB.out.size)); clear hb; obtain ⟨q2, q3⟩ := HCE.out _ HB2.out; clear q0 q1))
      rw [← HR.out]
      exact ⟨by (rw [HP.out, if_neg (by omega), if_neg (by omega)]; rfl), HA.out.trans (HB2.out.mono HA.out.size)⟩
end Go.Proofs.Kb
end
section
namespace Go.Proofs.Kb
open Go Go.RowKit Go.Proofs.Ytkcjcdkmdooofaa.Q Go.Proofs.YtkcjcdkmdooofaaW.PrintWords Go.Proofs.YtkcjcdkmdooofaaW.PrintLast Go.Proofs.YtkcjcdkmdooofaaW.PrintMore
set_option linter.unusedVariables false
set_option linter.unusedSimpArgs false
structure EncT (α : Type) where
  ty : TypeId
  sz : Nat
  enc : α → List Value
  len : ∀ x, (enc x).length = sz
  one : ∀ x, ∀ u ∈ enc x, u.oneCell' = true
section
variable {α : Type} (E : EncT α)
def EncT.all (l : List α) : List Value := l.flatMap E.enc
theorem EncT.all_cons (x : α) (l : List α) : E.all (x :: l) = E.enc x ++ E.all l := rfl
theorem EncT.all_app (a b : List α) : E.all (a ++ b) = E.all a ++ E.all b := by simp [EncT.all]
theorem EncT.all_one' (x : α) : E.all [x] = E.enc x := by simp [EncT.all]
theorem EncT.all_len (l : List α) : (E.all l).length = l.length * E.sz := by
  induction l with
  | nil => simp [EncT.all]
  | cons x l ih => rw [E.all_cons, List.length_append, ih, E.len, List.length_cons, Nat.add_mul]; omega
theorem EncT.all_one (l : List α) : ∀ u ∈ E.all l, u.oneCell' = true := fun u hu => by
  obtain ⟨x, _, h⟩ := List.mem_flatMap.1 hu
  exact E.one x u h
theorem EncT.all_take : ∀ (l : List α) (i : Nat), (E.all l).take (i * E.sz) = E.all (l.take i)
  | [], i => by simp [EncT.all]
  | x :: l, 0 => by simp [EncT.all]
  | x :: l, i + 1 => by
    rw [E.all_cons, List.take_succ_cons, E.all_cons, Nat.add_mul, Nat.one_mul, Nat.add_comm, ← E.len x, List.take_length_add_append, E.len x, EncT.all_take l i]
theorem EncT.all_drop : ∀ (l : List α) (i : Nat), (E.all l).drop (i * E.sz) = E.all (l.drop i)
  | [], i => by simp [EncT.all]
  | x :: l, 0 => by simp [EncT.all]
  | x :: l, i + 1 => by
    rw [E.all_cons, List.drop_succ_cons, Nat.add_mul, Nat.one_mul, Nat.add_comm, ← E.len x, List.drop_length_add_append, E.len x, EncT.all_drop l i]
theorem EncT.all_get {l : List α} {i : Nat} {x : α} (h : l[i]? = some x) {j : Nat} (hj : j < E.sz) : (E.all l)[i * E.sz + j]? = (E.enc x)[j]? := by
  obtain ⟨hi, rfl⟩ := List.getElem?_eq_some_iff.1 h
  have h1 : (E.all l)[i * E.sz + j]? = ((E.all l).drop (i * E.sz))[j]? := by rw [List.getElem?_drop]
  rw [h1, E.all_drop, List.drop_eq_getElem_cons hi, E.all_cons, List.getElem?_append_left (by rw [E.len]; exact hj)]
def RowX (w : World) (v : Value) (l : List α) : Prop := Row w E.ty E.sz v l.length (E.all l)
variable {E} {w w' w0 W : World} {v v' : Value} {l l' : List α} {F : Nat → Prop} {cs : List Chunk}
theorem RowX.nil : RowX E w (.slice none 0 0) [] := Row.nil w E.ty E.sz
theorem RowX.move (h : RowX E w v l) (hm : ∀ k, v.ownBlock = some k → w'.heap[k]? = w.heap[k]?) : RowX E w' v l := Row.move h hm
theorem RowX.below (h : RowX E w v l) (hb : Below w.heap.size w w') : RowX E w' v l := Row.below h hb
theorem RowX.of {n : Nat} {xs : List Value} (h : Row w E.ty E.sz v n xs) (hn : l.length = n) (hx : xs = E.all l) : RowX E w v l := by
  subst hn
  subst hx
  exact h
theorem RowX.form (h : RowX E w v l) : ∃ A c, v = .slice A l.length c := by
  rcases h.2.2 with ⟨rfl, h0⟩ | ⟨g, c, cur, rfl, _⟩
  · exact ⟨_, _, by rw [h0]⟩
  · exact ⟨_, _, rfl⟩
theorem RowX.fill (h : RowX E w v l) (h0 : 0 < l.length) : ∃ g c, v = .slice (some ⟨g, 0, none⟩) l.length c ∧ l.length ≤ c := row_slice h h0
theorem RowX.cell {g n c : Nat} (h : RowX E w (.slice (some ⟨g, 0, none⟩) n c) l) {i : Nat} {x : α} (hx : l[i]? = some x) (j : Nat) (hj : j < E.sz) (u : Value) (hu : (E.enc x)[j]? = some u) : w.cell? ⟨g, i * E.sz + j, none⟩ = some u := by
  have hl := (List.getElem?_eq_some_iff.1 hx).1
  obtain ⟨g', c', hv, _⟩ := row_slice h (by omega)
  injection hv with h1 h2 h3
  injection h1 with h1
  injection h1 with h1
  subst h1 h2
  exact Row.cell h rfl _ _ (by rw [E.all_get hx hj]; exact hu)
theorem RowX.frozen {g n c : Nat} (h : RowX E w (.slice (some ⟨g, 0, none⟩) n c) l) (j : Nat) : w.frozen? ⟨g, j, none⟩ = false := by
  obtain ⟨_, _, h2⟩ := h
  rcases h2 with ⟨h2, _⟩ | ⟨g', cap', cur, hv, hg, _⟩
  · simp at h2
  · simp at hv
    obtain ⟨rfl, rfl, rfl⟩ := hv
    exact frozen_of_row w g j cur _ hg
variable (E) in
def rowXC (v : Value) (l : List α) : Chunk := ⟨fun w => RowX E w v l, bl v, fun h b hb => Row.lt h b (bl_mem.1 hb), fun h hm => Row.move h fun k hk => hm k (bl_mem.2 hk)⟩
theorem St.rowX (s : St w0 F w cs) (i : Nat) (hi : cs[i]? = some (rowXC E v l)) : RowX E w v l := s.get i hi
theorem St.rowTo (s : St w0 F w cs) (i : Nat) (hi : cs[i]? = some (rowXC E v l)) (hr : RowX E w' v' l') (hg : w.grownBy w' v.ownBlock) (ho : Owns w v v') : St w0 F w' (cs.set i (rowXC E v' l')) :=
  s.upd i hi (rowXC E v' l') (keep_row hg) hr (nd_bl v') (bl_sub ho)
def puts (w : World) (g : Nat) : Nat → List Value → World
  | o, [] => w
  | o, v :: vs => puts (w.setCell ⟨g, o, none⟩ v) g (o + 1) vs
def setL : Nat → List Value → List Value → List Value
  | o, [], l => l
  | o, v :: vs, l => setL (o + 1) vs (l.set o v)
theorem setL_len : ∀ (vs : List Value) (o : Nat) (l : List Value), (setL o vs l).length = l.length
  | [], o, l => rfl
  | v :: vs, o, l => by
    unfold setL
    rw [setL_len vs, List.length_set]
theorem setL_take : ∀ (vs : List Value) (o : Nat) (l : List Value) (k : Nat), (setL o vs l).take k = setL o vs (l.take k)
  | [], o, l, k => rfl
  | v :: vs, o, l, k => by
    unfold setL
    rw [setL_take vs, List.take_set]
theorem setL_app : ∀ (vs a b : List Value) (o : Nat), setL (a.length + o) vs (a ++ b) = a ++ setL o vs b
  | [], a, b, o => rfl
  | v :: vs, a, b, o => by
    unfold setL
    rw [List.set_append_right _ _ (by omega), Nat.add_assoc, show a.length + o - a.length = o by omega, setL_app vs a _ (o + 1)]
theorem setL_head : ∀ (vs a b : List Value), a.length = vs.length → setL 0 vs (a ++ b) = vs ++ b
  | [], a, b, h => by
    obtain rfl : a = [] := List.length_eq_zero_iff.1 h
    rfl
  | v :: vs, [], b, h => by simp at h
  | v :: vs, x :: a, b, h => by
    have := setL_app vs [v] (a ++ b) 0
    show setL (0 + 1) vs ((x :: (a ++ b)).set 0 v) = _
    rw [List.set_cons_zero]
    simp only [List.length_cons, List.length_nil, Nat.zero_add, Nat.add_zero, List.cons_append, List.nil_append] at this ⊢
    rw [this, setL_head vs a b (by simpa using h)]
theorem EncT.all_set (E : EncT α) : ∀ (l : List α) (i : Nat) (x : α), i < l.length → setL (i * E.sz) (E.enc x) (E.all l) = E.all (l.set i x)
  | [], i, x, h => by simp at h
  | y :: l, 0, x, h => by
    rw [Nat.zero_mul, E.all_cons, setL_head _ _ _ (by rw [E.len, E.len]), List.set_cons_zero, E.all_cons]
  | y :: l, i + 1, x, h => by
    rw [E.all_cons, List.set_cons_succ, E.all_cons, Nat.add_mul, Nat.one_mul, Nat.add_comm, ← E.len y, setL_app, E.len y, EncT.all_set E l i x (by simpa using h)]
theorem puts_heap : ∀ (vs : List Value) (o : Nat) (w : World) (g : Nat) (t : TypeId) (C : Array Value), w.heap[g]? = some (.cells C t (0, 0)) → ∃ C', (puts w g o vs).heap[g]? = some (.cells C' t (0, 0)) ∧ C'.toList = setL o vs C.toList
  | [], o, w, g, t, C, h => ⟨C, h, rfl⟩
  | v :: vs, o, w, g, t, C, h => by
    obtain ⟨C', h1, h2⟩ := puts_heap vs (o + 1) (w.setCell ⟨g, o, none⟩ v) g t _ (blk_put h o v rfl)
    refine ⟨C', h1, ?_⟩
    rw [h2, Array.toList_setIfInBounds]
    rfl
theorem puts_keep : ∀ (vs : List Value) (o : Nat) (w : World) (g : Nat) (F : Nat → Prop), F g → Keep w (puts w g o vs) F
  | [], o, w, g, F, h => Keep.of_below (Below.refl _ w) F
  | v :: vs, o, w, g, F, h => (keep_set w g o v F h).trans (puts_keep vs (o + 1) _ g F h) fun b hb => .inl hb
theorem puts_grown (vs : List Value) (o : Nat) (w : World) (g : Nat) : w.grownBy (puts w g o vs) (some g) := by
  have h := puts_keep vs o w g (fun b => b = g) rfl
  exact ⟨h.os, h.tape, h.output, h.size, fun k hk hne => h.block k hk fun e => hne (by rw [e])⟩
theorem RowX.put {g n c i : Nat} (hr : RowX E w (.slice (some ⟨g, 0, none⟩) n c) l) (hi : i < l.length) (x : α) : RowX E (puts w g (i * E.sz) (E.enc x)) (.slice (some ⟨g, 0, none⟩) n c) (l.set i x) := by
  obtain ⟨h0, h1, h2⟩ := hr
  rcases h2 with ⟨h2, _⟩ | ⟨g', cap, cur, hv, hg, hn, hm, hs, ht⟩
  · simp at h2
  · simp at hv
    obtain ⟨rfl, rfl, rfl⟩ := hv
    obtain ⟨C', h3, h4⟩ := puts_heap (E.enc x) (i * E.sz) w g _ _ hg
    have hsz : C'.size = cur.size := by
      have := congrArg List.length h4
      rw [setL_len] at this
      simpa using this
    refine ⟨E.all_len _, E.all_one _, .inr ⟨g, c, C', by rw [List.length_set], h3, by rw [List.length_set]; exact hn, hm, by rw [hsz]; exact hs, ?_⟩⟩
    rw [h4, setL_take, List.length_set, ht, E.all_set l i x hi]
theorem St.putX {g n c : Nat} (s : St w0 F w cs) (j : Nat) (hj : cs[j]? = some (rowXC E (.slice (some ⟨g, 0, Option.none⟩) n c) l)) (i : Nat) (x : α) (hi : i < l.length) :
    St w0 F (puts w g (i * E.sz) (E.enc x)) (cs.set j (rowXC E (.slice (some ⟨g, 0, Option.none⟩) n c) (l.set i x))) :=
  s.rowTo j hj ((s.rowX j hj).put hi x) (puts_grown _ _ _ _) (.inl rfl)
structure InfoX (P : Program) (E : EncT α) (t : TypeId) where
  under : P.underlying t = some (.slice E.ty)
  i : TypeInfo
  z : Value
  bytes : Nat
  info : P.info? E.ty = some i
  zero : i.zero = some z
  size : i.size = E.sz
  bt : i.bytes = bytes
  zsz : z.cells.size = E.sz
  pos : 0 < E.sz
  small : bytes ≤ 64
variable {P : Program} {t : TypeId}
theorem infoX_of {z : Value} {bytes : Nat} (hu : P.underlying t = some (.slice E.ty)) (h : (P.info? E.ty).map (fun i => (i.zero, i.size, i.bytes)) = some (some z, E.sz, bytes)) (hz : z.cells.size = E.sz) (h0 : 0 < E.sz) (hb : bytes ≤ 64) : Nonempty (InfoX P E t) := by
  cases hi : P.info? E.ty with
  | none => rw [hi] at h; simp at h
  | some i =>
    rw [hi] at h
    simp only [Option.map_some, Option.some.injEq, Prod.mk.injEq] at h
    exact ⟨⟨hu, i, z, bytes, hi, h.1, h.2.1, h.2.2, hz, h0, hb⟩⟩
theorem appendX (I : InfoX P E t) (x : α) (vb : Nat) (C : Array Value) (ty : TypeId) (hR : RowX E w v l) (hv : w.heap[vb]? = some (.cells C E.ty (0, 0))) (hC : C.toList = E.enc x) (hn : l.length < 999999) :
    ∃ g c w', (Builtin.append_ #[t, t] ty #[v, .slice (some ⟨vb, 0, none⟩) 1 1]).run P w = .ok (.slice (some ⟨g, 0, none⟩) (l.length + 1) c) w' ∧ RowX E w' (.slice (some ⟨g, 0, none⟩) (l.length + 1) c) (l ++ [x]) ∧ w.grownBy w' v.ownBlock ∧ Owns w v (.slice (some ⟨g, 0, none⟩) (l.length + 1) c) := by
  obtain ⟨v', w', h1, h2, h3, h4⟩ := run_append_R (P := P) w t ty E.ty I.i _ E.sz I.bytes I.under I.info I.zero I.size I.bt I.zsz I.pos I.small v l.length (E.all l) hR ⟨vb, 0, none⟩ 1 1 (E.enc x) (by rw [E.len]; omega) (fun j u hu => by
    rw [Addr.add_lit, Nat.zero_add, cell_of_row w vb j _ E.ty (0, 0) hv, ← hu, ← hC]
    simp) (E.one x) (by omega)
  obtain ⟨g, c, rfl, _⟩ := row_slice h2 (by omega)
  exact ⟨g, c, w', h1, RowX.of h2 (by simp) (by rw [E.all_app, E.all_one']), h3, h4⟩
end
end Go.Proofs.Kb
end
section
namespace Go.Proofs.Kb
open Go Go.RowKit Go.Lib Go.Shelf
set_option linter.unusedVariables false
set_option linter.unusedSimpArgs false
set_option maxRecDepth 100000
theorem ins37_info : (Try.prog.info? 66).map (fun i => (i.zero, i.size, i.bytes)) = some (some (.agg #[.int .i64 0, .int .i64 0]), 2, 16) := by kernel_rfl
theorem ins37_over (w : World) (vb g o lb cb : Nat) (news cur : Array Value) (hne : vb ≠ g) (hv : w.heap[vb]? = some (.cells news 66 (0, 0))) (hg : w.heap[g]? = some (.cells cur 66 (0, 0))) (hc : 0 < cur.size) :
    (callFunc 58 #[.slice (some ⟨vb, 0, none⟩) 1 1, .slice (some ⟨g, o, none⟩) lb cb]).run Try.prog w = .ok (.value (.bool false)) w := by
  have hz : ∀ w, (Go.sizeOf 66).run Try.prog w = .ok 2 w := Try.sizeOf66
  rw [run_callFunc_extern Try.func58 (by kernel_rfl) (by kernel_rfl) (by kernel_rfl) (e := Extern.SlicesOverlaps.overlaps #[62, 62] #[4]) (by kernel_rfl),
    Lib.run_overlaps_apart w 62 4 66 Try.underlying62 2 hz ⟨vb, 0, none⟩ ⟨g, o, none⟩ 1 1 lb cb hne 66 66 news.size cur.size (by simp [World.shape?, hv]) (by simp [World.shape?, hg]) (by omega) (by simp [World.frozen?, hv]) (by simp [World.frozen?, hv])]
  rfl
set_option maxHeartbeats 4000000 in
set_option maxRecDepth 100000 in
theorem insert37 (w : World) (v : Value) (n i : Nat) (xs : List Value) (vb : Nat) (news : Array Value) (hR : Row w 66 2 v n xs) (hi : i ≤ n) (hn : n < 1000000) (hvb : w.heap[vb]? = some (.cells news 66 (0, 0))) (hns : news.size = 2)
    (h1 : ∀ u ∈ news.toList, u.oneCell' = true) (hne : v.ownBlock ≠ some vb) :
    Calls Try.prog 37 #[v, .int .i64 i, .slice (some ⟨vb, 0, none⟩) 1 1] w fun e w' => ∃ v', e = .returned v' ∧
      Row w' 66 2 v' (n + 1) (xs.take (i * 2) ++ news.toList ++ xs.drop (i * 2)) ∧ w.grownBy w' v.ownBlock ∧ (v'.ownBlock = v.ownBlock ∨ ∃ k, v'.ownBlock = some k ∧ w.heap.size ≤ k) ∧ v' ≠ .slice none 0 0 := by
  obtain ⟨i0, hi0, hz0, hzs, hzb⟩ := info_parts ins37_info
  have mixed : Try.prog.follows Departure.mixedOrders = true := by kernel_rfl
  have hRl := hR.1
  have hR1 := hR.2.1
  have hnl : news.toList.length = 2 := by simpa using hns
  have hnewc : ∀ W : World, W.heap[vb]? = w.heap[vb]? → ∀ j u, news.toList[j]? = some u → W.cell? ((⟨vb, 0, none⟩ : Addr).add j) = some u := fun W hW j u hu => by
    rw [Addr.add_lit, Nat.zero_add, cell_of_row W vb j news 66 (0, 0) (hW.trans hvb)]
    simpa using hu
  rcases hR.2.2 with ⟨rfl, rfl⟩ | ⟨g, cap, cur, rfl, hg, hnc, hcm, hcs, htake⟩
  · obtain rfl : i = 0 := by omega
    have hx : xs = [] := List.eq_nil_of_length_eq_zero (by simpa using hRl)
    subst hx
    have hrun : ∀ ty, (Builtin.append_ #[62, 62] ty #[.slice none 0 0, .slice (some ⟨vb, 0, none⟩) 1 1]).run Try.prog w = _ := fun ty =>
      run_append_nil w 62 ty 66 i0 _ Try.underlying62 hi0 hz0 ⟨vb, 0, none⟩ 1 1 news.toList (by rw [hnl, hzs]) (hnewc w rfl) (by omega) (by omega) (by rw [hzb]; omega)
    have hge := grownCap_ge w 1 0 66
    have hle := grownCap_le_maxLen w 1 0 66 (by decide)
    go_enter Try.func37, Try.ntmps37
    go_wp2_with (at_builtin; refine Lib.wpList_append_run _ rfl _ _ _ _ rfl _ _ rfl rfl _ _ (hrun _) ?_)
    go_ret
    refine ⟨_, rfl, ⟨by simp [hnl], by simpa using h1, .inr ⟨_, _, _, rfl, heap_alloc_new w.drew _, hge, hle, ?_, ?_⟩⟩, grown_alloc w _ _, .inr ⟨_, rfl, Nat.le_refl _⟩, by simp⟩
    · simp [size_zeroCells, hns, Value.cells] <;> omega
    · simp [hnl, List.take_append_of_le_length]
  · have hgv : vb ≠ g := fun e => hne (by rw [e]; rfl)
    by_cases hin : i = n
    · subst hin
      have hlast : xs.take (i * 2) ++ news.toList ++ xs.drop (i * 2) = xs ++ news.toList := by rw [List.take_of_length_le (by omega), List.drop_eq_nil_iff.2 (by omega), List.append_nil]
      rw [hlast]
      by_cases hroom : i + 1 ≤ cap
      · obtain ⟨W1, hW1⟩ : ∃ W1, w.setRow g (splice cur.toList (i * 2) news.toList).toArray = W1 := ⟨_, rfl⟩
        have hrun : ∀ ty, (Builtin.append_ #[62, 62] ty #[.slice (some ⟨g, 0, none⟩) i cap, .slice (some ⟨vb, 0, none⟩) 1 1]).run Try.prog w = .ok (.slice (some ⟨g, 0, none⟩) (i + 1) cap) W1 := fun ty => by
          have := run_append_room w 62 ty 66 i0 Try.underlying62 hi0 g i cap cur hg ⟨vb, 0, none⟩ 1 1 news.toList (by rw [hnl, hzs]) (hnewc w rfl) h1 hroom (by rw [hzs, hnl]; omega)
          rw [hzs] at this
          rw [← hW1]
          exact this
        go_enter Try.func37, Try.ntmps37
        go_wp2_with (at_builtin; refine Lib.wpList_append_run _ rfl _ _ _ _ rfl _ _ rfl rfl _ _ (hrun _) ?_)
        go_ret
        refine ⟨_, rfl, ⟨by simp [hnl, hRl] <;> omega, ?_, .inr ⟨g, cap, (splice cur.toList (i * 2) news.toList).toArray, rfl, by rw [← hW1]; exact setRow_heap w g cur _ 66 _ hg, hroom, hcm, ?_, ?_⟩⟩, by rw [← hW1]; exact grown_set w g _, .inl rfl, by simp⟩
        · intro u hu
          rcases List.mem_append.1 hu with hu | hu
          · exact hR1 u hu
          · exact h1 u hu
        · rw [List.size_toArray, splice_len (by rw [hnl]; simp <;> omega)]
          simpa using hcs
        · show (splice cur.toList (i * 2) news.toList).take ((i + 1) * 2) = _
          rw [show (i + 1) * 2 = i * 2 + news.toList.length by rw [hnl]; omega, splice_take_end (by simp <;> omega), htake]
      · have holds : ∀ j u, xs[j]? = some u → w.cell? ((⟨g, 0, none⟩ : Addr).add j) = some u := fun j u hu => by
          rw [Addr.add_lit, Nat.zero_add]
          exact hR.cell rfl j u hu
        have hrun : ∀ ty, (Builtin.append_ #[62, 62] ty #[.slice (some ⟨g, 0, none⟩) i cap, .slice (some ⟨vb, 0, none⟩) 1 1]).run Try.prog w = _ := fun ty =>
          run_append_grow w 62 ty 66 i0 _ Try.underlying62 hi0 hz0 ⟨g, 0, none⟩ i cap xs (by rw [hRl, hzs]) holds ⟨vb, 0, none⟩ 1 1 news.toList (by rw [hnl, hzs]) (hnewc w rfl) (by omega) (by omega) (by rw [hzb]; exact growslice_fits (by omega) (by omega))
        have hge := grownCap_ge w (i + 1) cap 66
        have hle := grownCap_le_maxLen w (i + 1) cap 66 (by simp only [maxLen]; omega)
        go_enter Try.func37, Try.ntmps37
        go_wp2_with (at_builtin; refine Lib.wpList_append_run _ rfl _ _ _ _ rfl _ _ rfl rfl _ _ (hrun _) ?_)
        go_ret
        refine ⟨_, rfl, ⟨by simp [hnl, hRl] <;> omega, ?_, .inr ⟨_, _, _, rfl, heap_alloc_new w.drew _, hge, hle, ?_, ?_⟩⟩, grown_alloc w _ _, .inr ⟨_, rfl, Nat.le_refl _⟩, by simp⟩
        · intro u hu
          rcases List.mem_append.1 hu with hu | hu
          · exact hR1 u hu
          · exact h1 u hu
        · simp [size_zeroCells, hns, hRl, Value.cells] <;> omega
        · simp only [Array.toList_append]
          rw [show (i + 1) * 2 = (xs ++ news.toList).length by simp [hRl, hns] <;> omega, ← List.append_assoc, List.take_left]
    · have hlt : i < n := by omega
      have hz1 : ¬ ((i : Int) = (n : Int)) := by omega
      have hw1 : IntKind.i64.wrap ((n : Int) + 1) = (n : Int) + 1 := by rw [IntKind.wrap_i64]; omega
      have hw2 : IntKind.i64.wrap ((i : Int) + 1) = (i : Int) + 1 := by rw [IntKind.wrap_i64]; omega
      have hw3 : IntKind.i64.wrap ((n : Int) + 1 - (i : Int)) = ((n + 1 - i : Nat) : Int) := by rw [IntKind.wrap_i64]; omega
      have hin2 : i ≤ n := by omega
      have hl1 : (xs.take (i * 2)).length = i * 2 := by rw [List.length_take, hRl]; omega
      have hl2 : (xs.drop (i * 2)).length = (n - i) * 2 := by rw [List.length_drop, hRl]; omega
      have hcurs : cur.toList.length = cur.size := by simp
      by_cases hroom : n + 1 ≤ cap
      · obtain ⟨cur1, hcur1⟩ : ∃ c, splice cur.toList ((i + 1) * 2) (xs.drop (i * 2)) = c := ⟨_, rfl⟩
        have hs1 : cur1.length = cur.size := by rw [← hcur1, splice_len (by rw [hl2]; simp <;> omega)]; simp
        obtain ⟨W1, hW1⟩ : ∃ W1, w.drew.setRow g cur1.toArray = W1 := ⟨_, rfl⟩
        have hH1 : W1.heap[g]? = some (.cells cur1.toArray 66 (0, 0)) := by rw [← hW1]; exact setRow_heap w.drew g cur _ 66 _ hg
        have hold1 : ∀ k, k ≠ g → W1.heap[k]? = w.heap[k]? := fun k hk => by rw [← hW1, setRow_other _ _ _ _ hk]; rfl
        obtain ⟨W2, hW2⟩ : ∃ W2, W1.setRow g (splice cur1 (i * 2) news.toList).toArray = W2 := ⟨_, rfl⟩
        have hcp1 : ∀ ty, (Builtin.copy_ #[62, 62] ty #[.slice (some ⟨g, (i + 1) * 2, none⟩) (n + 1 - (i + 1)) (cap - (i + 1)), .slice (some ⟨g, i * 2, none⟩) (n + 1 - i) (cap - i)]).run Try.prog w.drew = .ok (goInt (Nat.min (n + 1 - i) (n + 1 - (i + 1)))) W1 := fun ty => by
          rw [← hW1, ← hcur1]
          have := run_copy_row w.drew 62 62 ty 66 i0 Try.underlying62 hi0 g ((i + 1) * 2) (n + 1 - (i + 1)) (cap - (i + 1)) cur hg ⟨g, i * 2, none⟩ (n + 1 - i) (cap - i) (xs.drop (i * 2)) (by rw [hl2, hzs, show Nat.min (n + 1 - i) (n + 1 - (i + 1)) = n - i from (Nat.min_eq_right (by omega)).trans (by omega)])
            (fun j u hu => by
              rw [Addr.add_lit, cell_of_row w.drew g _ cur 66 (0, 0) hg, ← cell_of_row w g _ cur 66 (0, 0) hg]
              exact hR.cell rfl _ u (by rwa [List.getElem?_drop] at hu))
            (by rw [hl2]; omega) (fun u hu => hR1 u (List.mem_of_mem_drop hu))
          try simp only [Nat.mul_one] at this ⊢
          exact this
        have hcp2 : ∀ ty, (Builtin.copy_ #[62, 62] ty #[.slice (some ⟨g, i * 2, none⟩) (n + 1 - i) (cap - i), .slice (some ⟨vb, 0, none⟩) 1 1]).run Try.prog W1 = .ok (goInt (Nat.min 1 (n + 1 - i))) W2 := fun ty => by
          rw [← hW2]
          have := run_copy_row W1 62 62 ty 66 i0 Try.underlying62 hi0 g (i * 2) (n + 1 - i) (cap - i) cur1.toArray hH1 ⟨vb, 0, none⟩ 1 1 news.toList (by rw [hnl, hzs, nmin (by omega)]) (hnewc W1 (hold1 vb hgv)) (by rw [hnl]; simp [hs1] <;> omega) h1
          try simp only [Nat.mul_one] at this ⊢
          exact this
        have hov : ∀ lb cb, (callFunc 58 #[.slice (some ⟨vb, 0, none⟩) 1 1, .slice (some ⟨g, (i + 1) * 2, none⟩) lb cb]).run Try.prog w = .ok (.value (.bool false)) w := fun lb cb =>
          ins37_over w vb g _ lb cb news cur hgv hvb hg (by omega)
        have hb1 : (0 : Int) ≤ (i : Int) + 1 := by omega
        have hb2 : ¬ (cap = i + 1) := by omega
        have hb3 : (i : Int) ≤ (n : Int) := by omega
        have hb4 : ¬ (cap = i) := by omega
        have htn : ((i : Int) + 1).toNat = i + 1 := by omega
        have htn2 : ((n : Int) + 1).toNat = n + 1 := by omega
        have hb5 : (i : Int) ≤ (n : Int) + 1 := by omega
        have hb6 : (n : Int) + 1 ≤ (cap : Int) := by omega
        have hb7 : i ≤ n + 1 := by omega
        go_enter Try.func37, Try.ntmps37
        go_wp2_with (simp only [hov])
        go_region_law_o (refine step_copy_runI rfl _ _ 62 62 rfl _ _ (by simp [Act.eval, Act.put]) (by simp [Act.eval, Act.put]) (hcp1 _) ?_)
        go_wp2_with (at_builtin; refine wpList_copy_runI _ rfl _ _ 62 62 rfl _ _ rfl rfl (hcp2 _) ?_)
        go_ret
        have hl3 : (xs.take (i * 2) ++ news.toList ++ xs.drop (i * 2)).length = (n + 1) * 2 := by
          rw [List.length_append, List.length_append, hl1, hl2, hnl]
          omega
        refine ⟨_, rfl, ⟨hl3, ?_, .inr ⟨g, cap, (splice cur1 (i * 2) news.toList).toArray, rfl, ?_, hroom, hcm, ?_, ?_⟩⟩, ⟨?_, ?_, ?_, ?_, ?_⟩, .inl rfl, by simp⟩
        · intro u hu
          rcases List.mem_append.1 hu with hu | hu
          · rcases List.mem_append.1 hu with hu | hu
            · exact hR1 u (List.mem_of_mem_take hu)
            · exact h1 u hu
          · exact hR1 u (List.mem_of_mem_drop hu)
        · rw [← hW2]
          exact setRow_heap W1 g cur1.toArray _ 66 _ hH1
        · rw [List.size_toArray, splice_len (by rw [hnl, hs1]; omega), hs1]
          exact hcs
        · show (splice cur1 (i * 2) news.toList).take ((n + 1) * 2) = _
          have hsp : splice cur1 (i * 2) news.toList = cur1.take (i * 2) ++ news.toList ++ cur1.drop ((i + 1) * 2) := by
            unfold splice
            rw [hnl, show i * 2 + 2 = (i + 1) * 2 by omega]
          have hd : cur1.drop ((i + 1) * 2) = xs.drop (i * 2) ++ cur.toList.drop ((n + 1) * 2) := by
            rw [← hcur1]
            unfold splice
            rw [List.append_assoc, List.drop_append_of_le_length (by rw [List.length_take]; omega), List.drop_eq_nil_iff.2 (by rw [List.length_take]; omega), List.nil_append, hl2, show (i + 1) * 2 + (n - i) * 2 = (n + 1) * 2 by omega]
          have ht : cur1.take (i * 2) = xs.take (i * 2) := by
            rw [← hcur1, splice_take _ (by omega) (by omega), ← htake, List.take_take, Nat.min_eq_left (by omega)]
          rw [hsp, hd, ht, ← List.append_assoc, ← hl3, List.take_left]
        · rw [← hW2, ← hW1]; rfl
        · rw [← hW2, ← hW1]; rfl
        · rw [← hW2, ← hW1]; rfl
        · rw [← hW2, ← hW1]; simp
        · intro k hk hkg
          have hk2 : k ≠ g := fun e => hkg (by rw [e]; rfl)
          rw [← hW2, setRow_other _ _ _ _ hk2]
          exact hold1 k hk2
      · obtain ⟨C, hC⟩ : ∃ C, grownCap w (n + 1) cap 66 = C := ⟨_, rfl⟩
        have hge := grownCap_ge w (n + 1) cap 66
        have hle := grownCap_le_maxLen w (n + 1) cap 66 (by simp only [maxLen]; omega)
        rw [hC] at hge hle
        have hsum : i + (n + 1 - i) = n + 1 := by omega
        have holds : ∀ j u, (xs.take (i * 2))[j]? = some u → w.cell? ((⟨g, 0, none⟩ : Addr).add j) = some u := fun j u hu => by
          rw [Addr.add_lit, Nat.zero_add]
          refine hR.cell rfl j u ?_
          rw [List.getElem?_take] at hu
          split at hu
          · exact hu
          · cases hu
        obtain ⟨cur1, hcur1⟩ : ∃ c : Array Value, ((xs.take (i * 2)).toArray ++ Builtin.zeroCells (.agg #[.int .i64 0, .int .i64 0] : Value).cells (n + 1 - i) ++ Builtin.zeroCells (.agg #[.int .i64 0, .int .i64 0] : Value).cells (C - (n + 1))) = c := ⟨_, rfl⟩
        have hs1 : cur1.size = C * 2 := by
          rw [← hcur1]
          simp [size_zeroCells, Value.cells, hl1, hRl] <;> omega
        have ht1 : cur1.toList.take (i * 2) = xs.take (i * 2) := by
          rw [← hcur1]
          simp only [Array.toList_append, List.append_assoc]
          rw [List.take_append_of_le_length (by omega), List.take_of_length_le (by omega)]
        obtain ⟨W1, hW1⟩ : ∃ W1, w.drew.alloc (.cells cur1 66) = W1 := ⟨_, rfl⟩
        have hrun : ∀ ty, (Builtin.append_ #[62, 3] ty #[.slice (some ⟨g, 0, none⟩) i cap, .int .i64 ((n + 1 - i : Nat) : Int)]).run Try.prog w = .ok (.slice (some ⟨w.heap.size, 0, none⟩) (n + 1) C) W1 := fun ty => by
          have := run_append_grow_zeros w 62 3 ty 66 i0 _ .i64 Try.underlying62 Try.underlying3 hi0 hz0 ⟨g, 0, none⟩ i cap (n + 1 - i) (xs.take (i * 2)) (by rw [hl1, hzs]) holds (by omega) (by omega) (by omega) (by omega) (by rw [hzb]; omega) (by rw [hzb, hsum]; exact growslice_fits (by omega) (by omega))
          rw [hsum, hC, hcur1, hW1] at this
          exact this
        have hH : W1.heap[w.heap.size]? = some (.cells cur1 66 (0, 0)) := by rw [← hW1]; exact heap_alloc_new w.drew _
        have hold : ∀ k, k < w.heap.size → W1.heap[k]? = w.heap[k]? := fun k hk => by rw [← hW1]; exact heap_alloc_old w.drew _ hk
        have hgl := (Array.getElem?_eq_some_iff.1 hg).1
        have hvl := (Array.getElem?_eq_some_iff.1 hvb).1
        obtain ⟨W2, hW2⟩ : ∃ W2, W1.setRow w.heap.size (splice cur1.toList (i * 2) news.toList).toArray = W2 := ⟨_, rfl⟩
        have hcp1 : ∀ ty, (Builtin.copy_ #[62, 62] ty #[.slice (some ⟨w.heap.size, i * 2, none⟩) (n + 1 - i) (C - i), .slice (some ⟨vb, 0, none⟩) 1 1]).run Try.prog W1 = .ok (goInt (Nat.min 1 (n + 1 - i))) W2 := fun ty => by
          rw [← hW2]
          have := run_copy_row W1 62 62 ty 66 i0 Try.underlying62 hi0 w.heap.size (i * 2) (n + 1 - i) (C - i) cur1 hH ⟨vb, 0, none⟩ 1 1 news.toList (by rw [hnl, hzs, nmin (by omega)]) (hnewc W1 (hold vb hvl)) (by rw [hnl, hs1]; omega) h1
          try simp only [Nat.mul_one] at this ⊢
          exact this
        have hH2 : W2.heap[w.heap.size]? = some (.cells (splice cur1.toList (i * 2) news.toList).toArray 66 (0, 0)) := by rw [← hW2]; exact setRow_heap W1 _ cur1 _ 66 _ hH
        have hold2 : ∀ k, k < w.heap.size → W2.heap[k]? = w.heap[k]? := fun k hk => by rw [← hW2, setRow_other _ _ _ _ (by omega)]; exact hold k hk
        obtain ⟨cur2, hcur2⟩ : ∃ c, (splice cur1.toList (i * 2) news.toList) = c := ⟨_, rfl⟩
        rw [hcur2] at hH2
        have hs2 : cur2.length = C * 2 := by rw [← hcur2, splice_len (by rw [hnl]; simp [hs1] <;> omega)]; simp [hs1]
        obtain ⟨W3, hW3⟩ : ∃ W3, W2.drew.setRow w.heap.size (splice cur2 ((i + 1) * 2) (xs.drop (i * 2))).toArray = W3 := ⟨_, rfl⟩
        have hcp2 : ∀ ty, (Builtin.copy_ #[62, 62] ty #[.slice (some ⟨w.heap.size, (i + 1) * 2, none⟩) (n + 1 - (i + 1)) (C - (i + 1)), .slice (some ⟨g, i * 2, none⟩) (n - i) (cap - i)]).run Try.prog W2.drew = .ok (goInt (Nat.min (n - i) (n + 1 - (i + 1)))) W3 := fun ty => by
          have := run_copy_row W2.drew 62 62 ty 66 i0 Try.underlying62 hi0 w.heap.size ((i + 1) * 2) (n + 1 - (i + 1)) (C - (i + 1)) cur2.toArray hH2 ⟨g, i * 2, none⟩ (n - i) (cap - i) (xs.drop (i * 2)) (by rw [hl2, hzs, nmin (by omega)])
            (fun j u hu => by
              rw [Addr.add_lit, cell_of_row W2.drew g _ cur 66 (0, 0) ((hold2 g hgl).trans hg), ← cell_of_row w g _ cur 66 (0, 0) hg]
              exact hR.cell rfl _ u (by rwa [List.getElem?_drop] at hu))
            (by rw [hl2]; simp [hs2] <;> omega) (fun u hu => hR1 u (List.mem_of_mem_drop hu))
          rw [← hW3]
          try simp only [Nat.mul_one] at this ⊢
          exact this
        have hnr : ¬ (n + 1 ≤ cap) := hroom
        go_enter Try.func37, Try.ntmps37
        go_wp2_with (first | (at_builtin; refine Lib.wpList_append_run _ rfl _ _ _ _ rfl _ _ rfl rfl _ _ (hrun _) ?_) | (at_builtin; refine wpList_copy_runI _ rfl _ _ 62 62 rfl _ _ rfl rfl (hcp1 _) ?_))
        have hb1 : (0 : Int) ≤ (i : Int) + 1 := by omega
        have hb2 : ¬ (C = i + 1) := by omega
        have hb3 : (i : Int) ≤ (n : Int) := by omega
        have hb4 : ¬ (cap = i) := by omega
        have htn : ((i : Int) + 1).toNat = i + 1 := by omega
        go_region_law_o (refine step_copy_runI rfl _ _ 62 62 rfl _ _ (by simp [Act.eval, Act.put]) (by simp [Act.eval, Act.put]) (hcp2 _) ?_)
        go_wp2
        go_ret
        have hl3 : (xs.take (i * 2) ++ news.toList ++ xs.drop (i * 2)).length = (n + 1) * 2 := by
          rw [List.length_append, List.length_append, hl1, hl2, hnl]
          omega
        refine ⟨_, rfl, ⟨hl3, ?_, .inr ⟨_, C, (splice cur2 ((i + 1) * 2) (xs.drop (i * 2))).toArray, rfl, ?_, hge, hle, ?_, ?_⟩⟩, ⟨?_, ?_, ?_, ?_, ?_⟩, .inr ⟨_, rfl, Nat.le_refl _⟩, by simp⟩
        · intro u hu
          rcases List.mem_append.1 hu with hu | hu
          · rcases List.mem_append.1 hu with hu | hu
            · exact hR1 u (List.mem_of_mem_take hu)
            · exact h1 u hu
          · exact hR1 u (List.mem_of_mem_drop hu)
        · rw [← hW3]
          exact setRow_heap W2.drew _ cur2.toArray _ 66 _ hH2
        · rw [List.size_toArray, splice_len (by rw [hl2, hs2]; omega), hs2]
          exact Nat.le_refl _
        · show (splice cur2 ((i + 1) * 2) (xs.drop (i * 2))).take ((n + 1) * 2) = _
          rw [show (n + 1) * 2 = (i + 1) * 2 + (xs.drop (i * 2)).length by rw [hl2]; omega, splice_take_end (by rw [hs2]; omega), ← hcur2,
            show (i + 1) * 2 = i * 2 + news.toList.length by rw [hnl]; omega, splice_take_end (by simp [hs1] <;> omega), ht1]
        · rw [← hW3, ← hW2, ← hW1]; rfl
        · rw [← hW3, ← hW2, ← hW1]; rfl
        · rw [← hW3, ← hW2, ← hW1]; rfl
        · rw [← hW3, ← hW2, ← hW1]; simp
        · intro k hk _
          rw [← hW3, setRow_other _ _ _ _ (by omega)]
          exact hold2 k hk
end Go.Proofs.Kb
end
section
namespace Go.Proofs.Kb
open Go Go.RowKit Go.Lib Go.Shelf
set_option linter.unusedVariables false
set_option linter.unusedSimpArgs false
set_option maxRecDepth 100000
set_option maxHeartbeats 4000000 in
theorem delete47 (w : World) (g n cap i : Nat) (xs : List Value) (hR : Row w 66 2 (.slice (some ⟨g, 0, none⟩) n cap) n xs) (hi : i < n) (hn : n < 1000000) :
    Calls Try.prog 47 #[.slice (some ⟨g, 0, none⟩) n cap, .int .i64 i, .int .i64 ((i + 1 : Nat) : Int)] w fun e w' => e = .returned (.slice (some ⟨g, 0, none⟩) (n - 1) cap) ∧
      Row w' 66 2 (.slice (some ⟨g, 0, none⟩) (n - 1) cap) (n - 1) (xs.take (i * 2) ++ xs.drop ((i + 1) * 2)) ∧ w.grownBy w' (some g) := by
  have mixed : Try.prog.follows Departure.mixedOrders = true := by kernel_rfl
  obtain ⟨i0, hi0, hz0, hzs, hzb⟩ := info_parts ins37_info
  have hRl := hR.1
  have hR1 := hR.2.1
  rcases hR.2.2 with ⟨hv, _⟩ | ⟨g', cap', cur, hv, hg, hnc, hcm, hcs, htake⟩
  · simp at hv
  · simp at hv
    obtain ⟨rfl, rfl⟩ := hv
    have hcurs : cur.toList.length = cur.size := by simp
    have hl1 : (xs.take (i * 2)).length = i * 2 := by rw [List.length_take, hRl]; omega
    have hl2 : (xs.drop ((i + 1) * 2)).length = (n - (i + 1)) * 2 := by rw [List.length_drop, hRl]; omega
    obtain ⟨cur1, hcur1⟩ : ∃ c, splice cur.toList (i * 2) (xs.drop ((i + 1) * 2)) = c := ⟨_, rfl⟩
    have hs1 : cur1.length = cur.size := by rw [← hcur1, splice_len (by rw [hl2]; simp <;> omega)]; simp
    obtain ⟨W1, hW1⟩ : ∃ W1, w.drew.setRow g cur1.toArray = W1 := ⟨_, rfl⟩
    have hH1 : W1.heap[g]? = some (.cells cur1.toArray 66 (0, 0)) := by rw [← hW1]; exact setRow_heap w.drew g cur _ 66 _ hg
    obtain ⟨a, ha, hacell⟩ : ∃ a : Addr, (a = if cap = i + 1 then ⟨g, 0, none⟩ else ⟨g, (i + 1) * 2, none⟩) ∧ ∀ j u, (xs.drop ((i + 1) * 2))[j]? = some u → w.drew.cell? (a.add j) = some u := by
      refine ⟨_, rfl, fun j u hu => ?_⟩
      rw [List.getElem?_drop] at hu
      by_cases hce : cap = i + 1
      · have := (List.getElem?_eq_some_iff.1 hu).1
        omega
      · rw [if_neg hce]
        have := hR.cell rfl _ u hu
        try simp only [Nat.mul_one] at this ⊢
        rw [Addr.add_lit, cell_of_row w.drew g _ cur 66 (0, 0) hg, ← cell_of_row w g _ cur 66 (0, 0) hg]
        exact this
    have hrun : ∀ ty, (Builtin.append_ #[62, 62] ty #[.slice (some ⟨g, 0, none⟩) i cap, .slice (some a) (n - (i + 1)) (cap - (i + 1))]).run Try.prog w.drew = .ok (.slice (some ⟨g, 0, none⟩) (n - 1) cap) W1 := fun ty => by
      have := run_append_room w.drew 62 ty 66 i0 Try.underlying62 hi0 g i cap cur hg a (n - (i + 1)) (cap - (i + 1)) (xs.drop ((i + 1) * 2)) (by rw [hl2, hzs]) hacell (fun u hu => hR1 u (List.mem_of_mem_drop hu)) (by omega) (by rw [hzs, hl2]; omega)
      rw [hzs, show i + (n - (i + 1)) = n - 1 by omega] at this
      rw [← hW1, ← hcur1]
      exact this
    obtain ⟨zs, hzs2⟩ : ∃ zs, (Builtin.zeroCells (.agg #[.int .i64 0, .int .i64 0] : Value).cells 1).toList = zs := ⟨_, rfl⟩
    have hzl : zs.length = 2 := by rw [← hzs2]; simp [size_zeroCells, Value.cells]
    obtain ⟨W2, hW2⟩ : ∃ W2, W1.setRow g (splice cur1 ((n - 1) * 2) zs).toArray = W2 := ⟨_, rfl⟩
    have hcl : ∀ ty, (Builtin.clear_ #[62] ty #[.slice (some ⟨g, (n - 1) * 2, none⟩) 1 (cap - (n - 1))]).run Try.prog W1 = .ok (.tuple #[]) W2 := fun ty => by
      have := run_clear_row W1 62 ty 66 i0 _ Try.underlying62 hi0 hz0 (by simp [Value.cells, Value.oneCell']) g ((n - 1) * 2) 1 (cap - (n - 1)) (by omega) cur1.toArray hH1 (by simp [Value.cells, hs1] <;> omega)
      rw [hzs2] at this
      rw [← hW2]
      try simp only [Nat.mul_one] at this ⊢
      exact this
    have hb0 : ¬ ((i : Int) = (i : Int) + 1) := by omega
    have hb1 : (0 : Int) ≤ (i : Int) + 1 := by omega
    have hb3 : (i : Int) ≤ (n : Int) := by omega
    have hb3b : (i : Int) + 1 ≤ (n : Int) := by omega
    have hb4 : (n : Int) ≤ (cap : Int) := by omega
    have htn : ((i : Int) + 1).toNat = i + 1 := by omega
    have hb5 : (0 : Int) ≤ ((n - 1 : Nat) : Int) := by omega
    have hb6 : ((n - 1 : Nat) : Int) ≤ (n : Int) := by omega
    have hb7 : ¬ (cap = n - 1) := by omega
    have hb8 : n - (n - 1) = 1 := by omega
    have hb9 : i ≤ n := by omega
    have hb10 : i + 1 ≤ n := by omega
    have hb11 : i ≤ cap := by omega
    have hb12 : (i : Int) ≤ (i : Int) + 1 := by omega
    have hfin : Row W2 66 2 (.slice (some ⟨g, 0, none⟩) (n - 1) cap) (n - 1) (xs.take (i * 2) ++ xs.drop ((i + 1) * 2)) ∧ w.grownBy W2 (some g) := by
      refine ⟨⟨by rw [List.length_append, hl1, hl2]; omega, ?_, .inr ⟨g, cap, (splice cur1 ((n - 1) * 2) zs).toArray, rfl, ?_, by omega, hcm, ?_, ?_⟩⟩, ⟨?_, ?_, ?_, ?_, ?_⟩⟩
      · intro u hu
        rcases List.mem_append.1 hu with hu | hu
        · exact hR1 u (List.mem_of_mem_take hu)
        · exact hR1 u (List.mem_of_mem_drop hu)
      · rw [← hW2]
        exact setRow_heap W1 g cur1.toArray _ 66 _ hH1
      · rw [List.size_toArray, splice_len (by rw [hzl, hs1]; omega), hs1]
        exact hcs
      · show (splice cur1 ((n - 1) * 2) zs).take ((n - 1) * 2) = _
        rw [splice_take _ (Nat.le_refl _) (by omega), ← hcur1, show (n - 1) * 2 = i * 2 + (xs.drop ((i + 1) * 2)).length by rw [hl2]; omega, splice_take_end (by omega), ← htake, List.take_take, Nat.min_eq_left (by omega)]
      · rw [← hW2, ← hW1]; rfl
      · rw [← hW2, ← hW1]; rfl
      · rw [← hW2, ← hW1]; rfl
      · rw [← hW2, ← hW1]; simp
      · intro k hk hkg
        have hk2 : k ≠ g := fun e => hkg (by rw [e])
        rw [← hW2, setRow_other _ _ _ _ hk2, ← hW1, setRow_other _ _ _ _ hk2]
        rfl
    by_cases hce : cap = i + 1
    · rw [if_pos hce] at ha
      subst ha
      subst hce
      obtain rfl : n = i + 1 := by omega
      simp only [Nat.add_sub_cancel, Nat.add_sub_cancel_left] at hcl
      go_enter Try.func47, Try.ntmps47
      go_wp2
      go_region_law_o (refine step_append_runI rfl _ _ 62 62 rfl _ _ (by simp [Act.eval, Act.put]) (by simp [Act.eval, Act.put]) (hrun _) ?_)
      go_wp2_with (at_builtin; refine wpList_clear_run _ rfl _ 62 rfl _ rfl (hcl _) ?_)
      go_ret
      exact ⟨rfl, hfin⟩
    · rw [if_neg hce] at ha
      subst ha
      go_enter Try.func47, Try.ntmps47
      go_wp2
      go_region_law_o (refine step_append_runI rfl _ _ 62 62 rfl _ _ (by simp [Act.eval, Act.put]) (by simp [Act.eval, Act.put]) (hrun _) ?_)
      go_wp2_with (at_builtin; refine wpList_clear_run _ rfl _ 62 rfl _ rfl (hcl _) ?_)
      go_ret
      exact ⟨rfl, hfin⟩
end Go.Proofs.Kb
end
