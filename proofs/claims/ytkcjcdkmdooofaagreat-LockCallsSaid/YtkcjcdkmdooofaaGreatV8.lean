/- Packed by shake.py: YtkcjcdkmdooofaaGreatQ78 YtkcjcdkmdooofaaGreatRP2 YtkcjcdkmdooofaaGreatRC9 YtkcjcdkmdooofaaGreatRC10 YtkcjcdkmdooofaaGreatRC12 -/
import Derived.Test.YtkcjcdkmdooofaaGreatV7
set_option linter.unusedVariables false
set_option linter.unusedSimpArgs false
set_option linter.unusedSectionVars false
section
namespace Go.Proofs.YtkcjcdkmdooofaaGreat.Q
open Go.RowKit Go.Proofs.YtkcjcdkmdooofaaGreatW.PrintWords Go.Proofs.YtkcjcdkmdooofaaGreatW.PrintLast Go.Proofs.YtkcjcdkmdooofaaGreatW.PrintMore
attribute [local go_sem] max2_int min2_int max_two min_two max_three min_three max_four min_four
def interlockref11_below.f (k : Nat) (a0_0 : Int) (a0_1 : ByteArray) (a0_2 : ByteArray) (a1_0 : Int) (a1_1 : ByteArray) (a1_2 : ByteArray) : Option (Bool) := if a0_0 = a1_0 then ((interlockref04_Texts.f k a0_1 a1_1).bind fun t422 => (if t422 = 0 then ((interlockref04_Texts.f k a0_2 a1_2).bind fun t423 => (some (decide (t423 < 0)))) else (some (decide (t422 < 0))))) else (some (decide (a0_0 < a1_0)))
theorem interlockref11_below.mono : ∀ a0 a1 a2 a3 a4 a5 k, LeO (interlockref11_below.f k a0 a1 a2 a3 a4 a5) (interlockref11_below.f (k + 1) a0 a1 a2 a3 a4 a5) := by
 intro a0 a1 a2 a3 a4 a5 k
 unfold interlockref11_below.f
 repeat' first
     | (with_reducible exact interlockref04_Texts.mono _ _ _)
     | (with_reducible exact LeO.refl _)
     | (with_reducible exact LeO.none _)
     | (with_reducible refine LeO.ite ?_ ?_)
     | (with_reducible refine LeO.bind ?_ (fun _ => ?_))
     | exact interlockref04_Texts.mono _ _ _
     | exact LeO.none _
     | refine LeO.ite ?_ ?_
     | refine LeO.bind ?_ (fun _ => ?_)
set_option maxHeartbeats 8000000 in
set_option maxRecDepth 100000 in
theorem interlockref11_below.calls (k : Nat) (a0_0 : Int) (a0_1 : ByteArray) (a0_2 : ByteArray) (a1_0 : Int) (a1_1 : ByteArray) (a1_2 : ByteArray) (r : Bool) (w : World) (h : interlockref11_below.f k a0_0 a0_1 a0_2 a1_0 a1_1 a1_2 = some r) :
   Calls Tryz.prog 78 #[.agg #[.int .i64 a0_0, .string a0_1, .string a0_2], .agg #[.int .i64 a1_0, .string a1_1, .string a1_2]] w fun e w' => e = .returned (.bool r) ∧ Below w.heap.size w w' := by
 have hu32 := Tryz.underlying32
 have HB := Aside0.mk (Below.refl w.heap.size w)
 have H : (if a0_0 = a1_0 then ((interlockref04_Texts.f k a0_1 a1_1).bind fun t422 => (if t422 = 0 then ((interlockref04_Texts.f k a0_2 a1_2).bind fun t423 => (some (decide (t423 < 0)))) else (some (decide (t422 < 0))))) else (some (decide (a0_0 < a1_0)))) = some r := h
 clear h
 by_cases c3 : a0_0 = a1_0
 · rw [if_pos c3] at H
   have c3b0 : (a0_0 == a1_0) = true := beq_iff_eq.mpr c3
   have c3b1 : (a0_0 != a1_0) = false := bne_eq_false_iff_eq.mpr c3
   clear c3
   replace H := Option.bind_eq_some_iff.mp H
   obtain ⟨t422, A40, H⟩ := H
   replace H : (if t422 = 0 then ((interlockref04_Texts.f k a0_2 a1_2).bind fun t423 => (some (decide (t423 < 0)))) else (some (decide (t422 < 0)))) = some r := H
   have A4 := Aside0.mk A40
   clear A40
   by_cases c5 : t422 = 0
   · rw [if_pos c5] at H
     have c5b0 : (t422 == 0) = true := beq_iff_eq.mpr c5
     have c5b1 : (t422 != 0) = false := bne_eq_false_iff_eq.mpr c5
     clear c5
     replace H := Option.bind_eq_some_iff.mp H
     obtain ⟨t423, A60, H⟩ := H
     replace H : (some (decide (t423 < 0))) = some r := H
     have A6 := Aside0.mk A60
     clear A60
     obtain rfl := Option.some.inj H
     go_enter Tryz.func78, Tryz.ntmps78
     go_wp2_with (first | ((with_reducible refine gate_dst (N := 2) rfl ?_); refine box_event ?hg (N := 2) ?hd (cs := #[.int .i64 a0_0, .string a0_1, .string a0_2]) (t := 32) ?hr ?_; (case hd => rfl); (case hg => rfl); (case hr => first | (go_simp; done) | (go_simp; rfl)); intro gb420 hg w7 hbox hb; have n0_ := Aside0.mk (below_step (by repeat (first | (with_reducible first | exact HB.out | apply below_alloc | apply pw_below_drewN | apply below_drew1) | exact HB.out)) hb); have n1_ := Aside0.mk (hbox); have n2_ := Aside0.mk ((by rw [hg]; exact (below_size (by repeat (first | (with_reducible first | exact HB.out | apply below_alloc | apply pw_below_drewN | apply below_drew1) | exact HB.out))) : w.heap.size ≤ gb420)); have n3_ := Aside0.mk ((by rw [hg]; exact (below_size (by repeat (first | (with_reducible first | exact HB.out | apply below_alloc | apply pw_below_drewN | apply below_drew1) | exact HB.out))) : w.heap.size ≤ gb420)); clear HB; have HB := n0_; have BK420 := n1_; have GW420 := n2_; have GE420 := n3_; clear n0_ n1_ n2_ n3_; clear hb hbox hg) | ((with_reducible refine gate_dst (N := 3) rfl ?_); refine box_event ?hg (N := 3) ?hd (cs := #[.int .i64 a1_0, .string a1_1, .string a1_2]) (t := 32) ?hr ?_; (case hd => rfl); (case hg => rfl); (case hr => first | (go_simp; done) | (go_simp; rfl)); intro gb421 hg w8 hbox hb; have n0_ := Aside0.mk (blk_below (g := gb420) (o := .cells #[.int .i64 a0_0, .string a0_1, .string a0_2] 32 (0, 0)) (by (with_reducible repeat (first | refine blk_drewN ?_ _ | refine blk_drew ?_ | refine blk_alloc ?_ _)); exact BK420.out) hb); have n1_ := Aside0.mk (below_step (by repeat (first | (with_reducible first | exact HB.out | apply below_alloc | apply pw_below_drewN | apply below_drew1 | refine below_set ?_ GE420.out) | exact HB.out)) hb); have n2_ := Aside0.mk (hbox); have n3_ := Aside0.mk ((by rw [hg]; exact (below_size (by repeat (first | (with_reducible first | exact HB.out | apply below_alloc | apply pw_below_drewN | apply below_drew1 | refine below_set ?_ GE420.out) | exact HB.out))) : w.heap.size ≤ gb421)); have n4_ := Aside0.mk ((by rw [hg]; exact (below_size (by repeat (first | (with_reducible first | exact HB.out | apply below_alloc | apply pw_below_drewN | apply below_drew1 | refine below_set ?_ GE420.out) | exact HB.out))) : w.heap.size ≤ gb421)); have n5_ := Aside0.mk ((by rw [hg]; exact Nat.ne_of_lt (blk_lt (g := gb420) (o := .cells #[.int .i64 a0_0, .string a0_1, .string a0_2] 32 (0, 0)) (by (with_reducible repeat (first | refine blk_drewN ?_ _ | refine blk_drew ?_ | refine blk_alloc ?_ _)); exact BK420.out)) : gb420 ≠ gb421)); have n6_ := Aside0.mk ((by rw [hg]; exact Nat.ne_of_gt (blk_lt (g := gb420) (o := .cells #[.int .i64 a0_0, .string a0_1, .string a0_2] 32 (0, 0)) (by (with_reducible repeat (first | refine blk_drewN ?_ _ | refine blk_drew ?_ | refine blk_alloc ?_ _)); exact BK420.out)) : gb421 ≠ gb420)); clear BK420; clear HB; have BK420 := n0_; have HB := n1_; have BK421 := n2_; have GW421 := n3_; have GE421 := n4_; have NB420_421 := n5_; have NB421_420 := n6_; clear n0_ n1_ n2_ n3_ n4_ n5_ n6_; clear hb hbox hg; have hnb9 := NB420_421.out; have hnc9 := NB421_420.out; have hcz10_0 : w8.cell? ⟨gb420, 0, none⟩ = some (.int .i64 a0_0) := (blk_cell BK420.out 0).trans rfl; have hcz10_1 : w8.cell? ⟨gb420, 1, none⟩ = some (.string a0_1) := (blk_cell BK420.out 1).trans rfl; have hcz10_2 : w8.cell? ⟨gb420, 2, none⟩ = some (.string a0_2) := (blk_cell BK420.out 2).trans rfl; have hfz10_0 := blk_frozen BK420.out 0; have hfz10_1 := blk_frozen BK420.out 1; have hfz10_2 := blk_frozen BK420.out 2; have hcz11_0 : w8.cell? ⟨gb421, 0, none⟩ = some (.int .i64 a1_0) := (blk_cell BK421.out 0).trans rfl; have hcz11_1 : w8.cell? ⟨gb421, 1, none⟩ = some (.string a1_1) := (blk_cell BK421.out 1).trans rfl; have hcz11_2 : w8.cell? ⟨gb421, 2, none⟩ = some (.string a1_2) := (blk_cell BK421.out 2).trans rfl; have hfz11_0 := blk_frozen BK421.out 0; have hfz11_1 := blk_frozen BK421.out 1; have hfz11_2 := blk_frozen BK421.out 2) | ((with_reducible refine gate_callee (f := 88) rfl ?_); refine goesL_ (some 20) rfl rfl Tryz.func88 (by kernel_rfl) rfl #[.string a0_1, .string a1_1] rfl (by (try simp only [List.map_toArray, List.map_cons, List.map_nil]); first | done | rfl | (simp only [List.length_drop, List.length_take]; rfl)) ?_; (with_reducible refine (interlockref04_Texts.calls k a0_1 a1_1 t422 _ A4.out).mono ?_); rintro e w' ⟨rfl, ⟨nd, rfl⟩⟩; refine ⟨_, rfl, ?_⟩) | ((with_reducible refine gate_callee (f := 88) rfl ?_); refine goesL_ (some 29) rfl rfl Tryz.func88 (by kernel_rfl) rfl #[.string a0_2, .string a1_2] rfl (by (try simp only [List.map_toArray, List.map_cons, List.map_nil]); first | done | rfl | (simp only [List.length_drop, List.length_take]; rfl)) ?_; (with_reducible refine (interlockref04_Texts.calls k a0_2 a1_2 t423 _ A6.out).mono ?_); rintro e w' ⟨rfl, ⟨nd, rfl⟩⟩; refine ⟨_, rfl, ?_⟩))
     go_ret
     exact ⟨by first | rfl | (simp [errW_none, errW_some] <;> rfl) | (simp [*, errW_none, errW_some] <;> rfl), by repeat (first | (with_reducible first | exact HB.out | apply below_alloc | apply pw_below_drewN | apply below_drew1 | refine below_set ?_ GE420.out | refine below_set ?_ GE421.out) | exact HB.out)⟩
   · rw [if_neg c5] at H
     have c5b0 : (t422 == 0) = false := beq_eq_false_iff_ne.mpr c5
     have c5b1 : (t422 != 0) = true := bne_iff_ne.mpr c5
     obtain rfl := Option.some.inj H
     go_enter Tryz.func78, Tryz.ntmps78
     go_wp2_with (first | ((with_reducible refine gate_dst (N := 2) rfl ?_); refine box_event ?hg (N := 2) ?hd (cs := #[.int .i64 a0_0, .string a0_1, .string a0_2]) (t := 32) ?hr ?_; (case hd => rfl); (case hg => rfl); (case hr => first | (go_simp; done) | (go_simp; rfl)); intro gb420 hg w12 hbox hb; have n0_ := Aside0.mk (below_step (by repeat (first | (with_reducible first | exact HB.out | apply below_alloc | apply pw_below_drewN | apply below_drew1) | exact HB.out)) hb); have n1_ := Aside0.mk (hbox); have n2_ := Aside0.mk ((by rw [hg]; exact (below_size (by repeat (first | (with_reducible first | exact HB.out | apply below_alloc | apply pw_below_drewN | apply below_drew1) | exact HB.out))) : w.heap.size ≤ gb420)); have n3_ := Aside0.mk ((by rw [hg]; exact (below_size (by repeat (first | (with_reducible first | exact HB.out | apply below_alloc | apply pw_below_drewN | apply below_drew1) | exact HB.out))) : w.heap.size ≤ gb420)); clear HB; have HB := n0_; have BK420 := n1_; have GW420 := n2_; have GE420 := n3_; clear n0_ n1_ n2_ n3_; clear hb hbox hg) | ((with_reducible refine gate_dst (N := 3) rfl ?_); refine box_event ?hg (N := 3) ?hd (cs := #[.int .i64 a1_0, .string a1_1, .string a1_2]) (t := 32) ?hr ?_; (case hd => rfl); (case hg => rfl); (case hr => first | (go_simp; done) | (go_simp; rfl)); intro gb421 hg w13 hbox hb; have n0_ := Aside0.mk (blk_below (g := gb420) (o := .cells #[.int .i64 a0_0, .string a0_1, .string a0_2] 32 (0, 0)) (by (with_reducible repeat (first | refine blk_drewN ?_ _ | refine blk_drew ?_ | refine blk_alloc ?_ _)); exact BK420.out) hb); have n1_ := Aside0.mk (below_step (by repeat (first | (with_reducible first | exact HB.out | apply below_alloc | apply pw_below_drewN | apply below_drew1 | refine below_set ?_ GE420.out) | exact HB.out)) hb); have n2_ := Aside0.mk (hbox); have n3_ := Aside0.mk ((by rw [hg]; exact (below_size (by repeat (first | (with_reducible first | exact HB.out | apply below_alloc | apply pw_below_drewN | apply below_drew1 | refine below_set ?_ GE420.out) | exact HB.out))) : w.heap.size ≤ gb421)); have n4_ := Aside0.mk ((by rw [hg]; exact (below_size (by repeat (first | (with_reducible first | exact HB.out | apply below_alloc | apply pw_below_drewN | apply below_drew1 | refine below_set ?_ GE420.out) | exact HB.out))) : w.heap.size ≤ gb421)); have n5_ := Aside0.mk ((by rw [hg]; exact Nat.ne_of_lt (blk_lt (g := gb420) (o := .cells #[.int .i64 a0_0, .string a0_1, .string a0_2] 32 (0, 0)) (by (with_reducible repeat (first | refine blk_drewN ?_ _ | refine blk_drew ?_ | refine blk_alloc ?_ _)); exact BK420.out)) : gb420 ≠ gb421)); have n6_ := Aside0.mk ((by rw [hg]; exact Nat.ne_of_gt (blk_lt (g := gb420) (o := .cells #[.int .i64 a0_0, .string a0_1, .string a0_2] 32 (0, 0)) (by (with_reducible repeat (first | refine blk_drewN ?_ _ | refine blk_drew ?_ | refine blk_alloc ?_ _)); exact BK420.out)) : gb421 ≠ gb420)); clear BK420; clear HB; have BK420 := n0_; have HB := n1_; have BK421 := n2_; have GW421 := n3_; have GE421 := n4_; have NB420_421 := n5_; have NB421_420 := n6_; clear n0_ n1_ n2_ n3_ n4_ n5_ n6_; clear hb hbox hg; have hnb14 := NB420_421.out; have hnc14 := NB421_420.out; have hcz15_0 : w13.cell? ⟨gb420, 0, none⟩ = some (.int .i64 a0_0) := (blk_cell BK420.out 0).trans rfl; have hcz15_1 : w13.cell? ⟨gb420, 1, none⟩ = some (.string a0_1) := (blk_cell BK420.out 1).trans rfl; have hcz15_2 : w13.cell? ⟨gb420, 2, none⟩ = some (.string a0_2) := (blk_cell BK420.out 2).trans rfl; have hfz15_0 := blk_frozen BK420.out 0; have hfz15_1 := blk_frozen BK420.out 1; have hfz15_2 := blk_frozen BK420.out 2; have hcz16_0 : w13.cell? ⟨gb421, 0, none⟩ = some (.int .i64 a1_0) := (blk_cell BK421.out 0).trans rfl; have hcz16_1 : w13.cell? ⟨gb421, 1, none⟩ = some (.string a1_1) := (blk_cell BK421.out 1).trans rfl; have hcz16_2 : w13.cell? ⟨gb421, 2, none⟩ = some (.string a1_2) := (blk_cell BK421.out 2).trans rfl; have hfz16_0 := blk_frozen BK421.out 0; have hfz16_1 := blk_frozen BK421.out 1; have hfz16_2 := blk_frozen BK421.out 2) | ((with_reducible refine gate_callee (f := 88) rfl ?_); refine goesL_ (some 20) rfl rfl Tryz.func88 (by kernel_rfl) rfl #[.string a0_1, .string a1_1] rfl (by (try simp only [List.map_toArray, List.map_cons, List.map_nil]); first | done | rfl | (simp only [List.length_drop, List.length_take]; rfl)) ?_; (with_reducible refine (interlockref04_Texts.calls k a0_1 a1_1 t422 _ A4.out).mono ?_); rintro e w' ⟨rfl, ⟨nd, rfl⟩⟩; refine ⟨_, rfl, ?_⟩))
     go_ret
     exact ⟨by first | rfl | (simp [errW_none, errW_some] <;> rfl) | (simp [*, errW_none, errW_some] <;> rfl), by repeat (first | (with_reducible first | exact HB.out | apply below_alloc | apply pw_below_drewN | apply below_drew1 | refine below_set ?_ GE420.out | refine below_set ?_ GE421.out) | exact HB.out)⟩
 · rw [if_neg c3] at H
   have c3b0 : (a0_0 == a1_0) = false := beq_eq_false_iff_ne.mpr c3
   have c3b1 : (a0_0 != a1_0) = true := bne_iff_ne.mpr c3
   obtain rfl := Option.some.inj H
   go_enter Tryz.func78, Tryz.ntmps78
   go_wp2_with (first | ((with_reducible refine gate_dst (N := 2) rfl ?_); refine box_event ?hg (N := 2) ?hd (cs := #[.int .i64 a0_0, .string a0_1, .string a0_2]) (t := 32) ?hr ?_; (case hd => rfl); (case hg => rfl); (case hr => first | (go_simp; done) | (go_simp; rfl)); intro gb420 hg w17 hbox hb; have n0_ := Aside0.mk (below_step (by repeat (first | (with_reducible first | exact HB.out | apply below_alloc | apply pw_below_drewN | apply below_drew1) | exact HB.out)) hb); have n1_ := Aside0.mk (hbox); have n2_ := Aside0.mk ((by rw [hg]; exact (below_size (by repeat (first | (with_reducible first | exact HB.out | apply below_alloc | apply pw_below_drewN | apply below_drew1) | exact HB.out))) : w.heap.size ≤ gb420)); have n3_ := Aside0.mk ((by rw [hg]; exact (below_size (by repeat (first | (with_reducible first | exact HB.out | apply below_alloc | apply pw_below_drewN | apply below_drew1) | exact HB.out))) : w.heap.size ≤ gb420)); clear HB; have HB := n0_; have BK420 := n1_; have GW420 := n2_; have GE420 := n3_; clear n0_ n1_ n2_ n3_; clear hb hbox hg) | ((with_reducible refine gate_dst (N := 3) rfl ?_); refine box_event ?hg (N := 3) ?hd (cs := #[.int .i64 a1_0, .string a1_1, .string a1_2]) (t := 32) ?hr ?_; (case hd => rfl); (case hg => rfl); (case hr => first | (go_simp; done) | (go_simp; rfl)); intro gb421 hg w18 hbox hb; have n0_ := Aside0.mk (blk_below (g := gb420) (o := .cells #[.int .i64 a0_0, .string a0_1, .string a0_2] 32 (0, 0)) (by (with_reducible repeat (first | refine blk_drewN ?_ _ | refine blk_drew ?_ | refine blk_alloc ?_ _)); exact BK420.out) hb); have n1_ := Aside0.mk (below_step (by repeat (first | (with_reducible first | exact HB.out | apply below_alloc | apply pw_below_drewN | apply below_drew1 | refine below_set ?_ GE420.out) | exact HB.out)) hb); have n2_ := Aside0.mk (hbox); have n3_ := Aside0.mk ((by rw [hg]; exact (below_size (by repeat (first | (with_reducible first | exact HB.out | apply below_alloc | apply pw_below_drewN | apply below_drew1 | refine below_set ?_ GE420.out) | exact HB.out))) : w.heap.size ≤ gb421)); have n4_ := Aside0.mk ((by rw [hg]; exact (below_size (by repeat (first | (with_reducible first | exact HB.out | apply below_alloc | apply pw_below_drewN | apply below_drew1 | refine below_set ?_ GE420.out) | exact HB.out))) : w.heap.size ≤ gb421)); have n5_ := Aside0.mk ((by rw [hg]; exact Nat.ne_of_lt (blk_lt (g := gb420) (o := .cells #[.int .i64 a0_0, .string a0_1, .string a0_2] 32 (0, 0)) (by (with_reducible repeat (first | refine blk_drewN ?_ _ | refine blk_drew ?_ | refine blk_alloc ?_ _)); exact BK420.out)) : gb420 ≠ gb421)); have n6_ := Aside0.mk ((by rw [hg]; exact Nat.ne_of_gt (blk_lt (g := gb420) (o := .cells #[.int .i64 a0_0, .string a0_1, .string a0_2] 32 (0, 0)) (by (with_reducible repeat (first | refine blk_drewN ?_ _ | refine blk_drew ?_ | refine blk_alloc ?_ _)); exact BK420.out)) : gb421 ≠ gb420)); clear BK420; clear HB; have BK420 := n0_; have HB := n1_; have BK421 := n2_; have GW421 := n3_; have GE421 := n4_; have NB420_421 := n5_; have NB421_420 := n6_; clear n0_ n1_ n2_ n3_ n4_ n5_ n6_; clear hb hbox hg; have hnb19 := NB420_421.out; have hnc19 := NB421_420.out; have hcz20_0 : w18.cell? ⟨gb420, 0, none⟩ = some (.int .i64 a0_0) := (blk_cell BK420.out 0).trans rfl; have hcz20_1 : w18.cell? ⟨gb420, 1, none⟩ = some (.string a0_1) := (blk_cell BK420.out 1).trans rfl; have hcz20_2 : w18.cell? ⟨gb420, 2, none⟩ = some (.string a0_2) := (blk_cell BK420.out 2).trans rfl; have hfz20_0 := blk_frozen BK420.out 0; have hfz20_1 := blk_frozen BK420.out 1; have hfz20_2 := blk_frozen BK420.out 2; have hcz21_0 : w18.cell? ⟨gb421, 0, none⟩ = some (.int .i64 a1_0) := (blk_cell BK421.out 0).trans rfl; have hcz21_1 : w18.cell? ⟨gb421, 1, none⟩ = some (.string a1_1) := (blk_cell BK421.out 1).trans rfl; have hcz21_2 : w18.cell? ⟨gb421, 2, none⟩ = some (.string a1_2) := (blk_cell BK421.out 2).trans rfl; have hfz21_0 := blk_frozen BK421.out 0; have hfz21_1 := blk_frozen BK421.out 1; have hfz21_2 := blk_frozen BK421.out 2))
   go_ret
   exact ⟨by first | rfl | (simp [errW_none, errW_some] <;> rfl) | (simp [*, errW_none, errW_some] <;> rfl), by repeat (first | (with_reducible first | exact HB.out | apply below_alloc | apply pw_below_drewN | apply below_drew1 | refine below_set ?_ GE420.out | refine below_set ?_ GE421.out) | exact HB.out)⟩
end Go.Proofs.YtkcjcdkmdooofaaGreat.Q
end
section
namespace Go.Proofs.Kb
open Go Go.RowKit Go.Proofs.YtkcjcdkmdooofaaGreat.Q Go.Proofs.YtkcjcdkmdooofaaGreatW.PrintWords Go.Proofs.YtkcjcdkmdooofaaGreatW.PrintLast Go.Proofs.YtkcjcdkmdooofaaGreatW.PrintMore
set_option maxRecDepth 100000
open Go.Proofs.Lk Go.Proofs.Mp
def cmpL (a b : List UInt8) : Int := if Op.bytesLess a b = true then -1 else if (a == b) = true then 0 else 1
theorem cmpL_nil : cmpL [] [] = 0 := by simp [cmpL, Op.bytesLess]
theorem cmpL_l (y : UInt8) (b : List UInt8) : cmpL [] (y :: b) = -1 := by simp [cmpL, Op.bytesLess]
theorem cmpL_r (x : UInt8) (a : List UInt8) : cmpL (x :: a) [] = 1 := by simp [cmpL, Op.bytesLess]
theorem cmpL_eq (x : UInt8) (a b : List UInt8) : cmpL (x :: a) (x :: b) = cmpL a b := by simp [cmpL, Op.bytesLess]
theorem cmpL_lt {x y : UInt8} (a b : List UInt8) (h : x.toNat < y.toNat) : cmpL (x :: a) (y :: b) = -1 := by
 have : x < y := h
 simp [cmpL, Op.bytesLess, this]
theorem cmpL_gt {x y : UInt8} (a b : List UInt8) (h : y.toNat < x.toNat) : cmpL (x :: a) (y :: b) = 1 := by
 have h1 : ¬ x < y := fun h2 => by have : x.toNat < y.toNat := h2; omega
 have h2 : x ≠ y := fun e => by rw [e] at h; omega
 simp [cmpL, Op.bytesLess, h1, h2]
theorem len_size (x : ByteArray) : x.toList.length = x.size := by
 rw [ByteArray.toList_eq]
 rfl
theorem drop_byte (x : ByteArray) (i : Nat) (h : i < x.size) : ∃ u : UInt8, x.toList.drop i = u :: x.toList.drop (i + 1) ∧ bt x (i : Int) = (u.toNat : Int) := by
 have hl : i < x.toList.length := by rw [len_size]; exact h
 refine ⟨x.toList[i], List.drop_eq_getElem_cons hl, ?_⟩
 have h1 := bt_at x (i : Int) (by simpa using h)
 rw [← h1]
 congr 1
 have e : x.toList[i] = x.data.toList[i]'(by simpa using h) := by
   congr 1
   exact ByteArray.toList_eq x
 rw [e]
 rfl
theorem cmp_f (a b : Int) : interlockref04_cmp.f a b = some (if a < b then -1 else if a > b then 1 else 0) := by
 unfold interlockref04_cmp.f
 split
 · rfl
 · split <;> rfl
theorem texts_l0 (x y : ByteArray) (hx : x.size < 1000000) (hy : y.size < 1000000) : ∀ (k i : Nat), x.size < i + k → i ≤ x.size → i ≤ y.size → interlockref04_Texts.l0 (2 * k) x y (i : Int) = some (cmpL (x.toList.drop i) (y.toList.drop i))
 | 0, i, h1, h2, h3 => by omega
 | k + 1, i, h1, h2, h3 => by
   rw [show 2 * (k + 1) = 2 * k + 1 + 1 by omega]
   unfold interlockref04_Texts.l0
   by_cases hix : i < x.size
   · obtain ⟨u, hu, hbu⟩ := drop_byte x i hix
     rw [if_pos (by omega)]
     unfold interlockref04_Texts.j1
     by_cases hiy : i < y.size
     · obtain ⟨v, hv, hbv⟩ := drop_byte y i hiy
       rw [if_pos (decide_eq_true (by omega)), if_pos (by omega), if_pos (by omega), if_pos (by omega), hbu, hbv, hu, hv]
       by_cases he : (u.toNat : Int) = (v.toNat : Int)
       · have : u = v := UInt8.toNat_inj.1 (by omega)
         subst this
         rw [if_pos rfl, IntWalk.wrap64_in _ (by omega), cmpL_eq]
         exact texts_l0 x y hx hy k (i + 1) (by omega) (by omega) (by omega)
       · have hu2 := u.toNat_lt
         have hv2 := v.toNat_lt
         rw [if_neg he, IntWalk.wrap64_in _ (by omega), IntWalk.wrap64_in _ (by omega), cmp_f]
         show some _ = some _
         by_cases hlt : u.toNat < v.toNat
         · rw [if_pos (by omega), cmpL_lt _ _ hlt]
         · rw [if_neg (by omega), if_pos (by omega), cmpL_gt _ _ (by omega)]
     · have hiy2 : i = y.size := by omega
       have hd : y.toList.drop i = [] := List.drop_eq_nil_iff.2 (by rw [len_size]; omega)
       rw [if_neg (by simp; omega), cmp_f, hu, hd, cmpL_r]
       show some _ = some _
       rw [if_neg (by omega), if_pos (by omega)]
   · have hd : x.toList.drop i = [] := List.drop_eq_nil_iff.2 (by rw [len_size]; omega)
     rw [if_neg (by omega)]
     unfold interlockref04_Texts.j1
     rw [if_neg (by simp), cmp_f, hd]
     show some _ = some _
     by_cases hiy : i < y.size
     · obtain ⟨v, hv, hbv⟩ := drop_byte y i hiy
       rw [hv, cmpL_l, if_pos (by omega)]
     · have hd2 : y.toList.drop i = [] := List.drop_eq_nil_iff.2 (by rw [len_size]; omega)
       rw [hd2, cmpL_nil, if_neg (by omega), if_neg (by omega)]
theorem texts_f (x y : ByteArray) (hx : x.size < 1000000) (hy : y.size < 1000000) : interlockref04_Texts.f (2 * (x.size + 1)) x y = some (cmpB x y) := by
 unfold interlockref04_Texts.f
 exact texts_l0 x y hx hy (x.size + 1) 0 (by omega) (by omega) (by omega)
theorem below_f (a b : S32) (ha : a.f1.size < 1000 ∧ a.f2.size < 1000) (hb : b.f1.size < 1000 ∧ b.f2.size < 1000) : interlockref11_below.f 3000 a.f0 a.f1 a.f2 b.f0 b.f1 b.f2 = some (decide (ltT a b)) := by
 have t1 := at_rounds (g := fun k => interlockref04_Texts.f k a.f1 b.f1) (fun k => interlockref04_Texts.mono a.f1 b.f1 k) (show 2 * (a.f1.size + 1) ≤ 3000 by omega) (texts_f a.f1 b.f1 (by omega) (by omega))
 have t2 := at_rounds (g := fun k => interlockref04_Texts.f k a.f2 b.f2) (fun k => interlockref04_Texts.mono a.f2 b.f2 k) (show 2 * (a.f2.size + 1) ≤ 3000 by omega) (texts_f a.f2 b.f2 (by omega) (by omega))
 have t1 : interlockref04_Texts.f 3000 a.f1 b.f1 = some (cmpB a.f1 b.f1) := t1
 have t2 : interlockref04_Texts.f 3000 a.f2 b.f2 = some (cmpB a.f2 b.f2) := t2
 unfold interlockref11_below.f
 rw [t1, t2]
 simp only [Option.bind_some]
 by_cases h0 : a.f0 = b.f0
 · rw [if_pos h0]
   by_cases h1 : cmpB a.f1 b.f1 = 0
   · rw [if_pos h1]
     refine congrArg some (decide_eq_decide.2 ?_)
     unfold ltT ord
     rw [if_pos ((cmpI_zero _ _).2 h0), if_pos h1]
   · rw [if_neg h1]
     refine congrArg some (decide_eq_decide.2 ?_)
     unfold ltT ord
     rw [if_pos ((cmpI_zero _ _).2 h0), if_neg h1]
 · rw [if_neg h0]
   refine congrArg some (decide_eq_decide.2 ?_)
   unfold ltT ord
   rw [if_neg (fun e => h0 ((cmpI_zero _ _).1 e)), cmpI_lt0]
theorem below_calls (w : World) (a b : S32) (ha : a.f1.size < 1000 ∧ a.f2.size < 1000) (hb : b.f1.size < 1000 ∧ b.f2.size < 1000) :
   Calls Tryz.prog 78 #[thgV a, thgV b] w fun E w' => E = .returned (.bool (ltTB a b)) ∧ Below w.heap.size w w' := interlockref11_below.calls 3000 _ _ _ _ _ _ _ w (below_f a b ha hb)
end Go.Proofs.Kb
end
section
namespace Go.Proofs.Kb
open Go Go.RowKit Go.Proofs.YtkcjcdkmdooofaaGreat.Q Go.Proofs.YtkcjcdkmdooofaaGreatW.PrintWords Go.Proofs.YtkcjcdkmdooofaaGreatW.PrintLast Go.Proofs.YtkcjcdkmdooofaaGreatW.PrintMore
set_option maxRecDepth 100000
open Go.Proofs.Lk Go.Proofs.Mp
attribute [local go_sem high] eqT
section
variable {α : Type} {lt : α → α → Bool} {t y : α} {l acc P : List α} {i : Nat}
theorem drop_at (h : l[i]? = some y) : l.drop i = y :: l.drop (i + 1) := by
 obtain ⟨hi, rfl⟩ := List.getElem?_eq_some_iff.1 h
 exact List.drop_eq_getElem_cons hi
theorem put_done (h : l[i]? = some y) (hp : acc ++ putL lt t true (l.drop i) = P) : acc ++ [y] ++ putL lt t true (l.drop (i + 1)) = P := by
 rw [drop_at h, putL, if_neg (by simp)] at hp
 rw [← hp]
 simp
theorem put_here (h : l[i]? = some y) (hl : lt t y = true) (hp : acc ++ putL lt t false (l.drop i) = P) : acc ++ [t] ++ [y] ++ putL lt t true (l.drop (i + 1)) = P := by
 rw [drop_at h, putL, if_pos (by rw [hl]; rfl)] at hp
 rw [← hp]
 simp
theorem put_on (h : l[i]? = some y) (hl : lt t y = false) (hp : acc ++ putL lt t false (l.drop i) = P) : acc ++ [y] ++ putL lt t false (l.drop (i + 1)) = P := by
 rw [drop_at h, putL, if_neg (by rw [hl]; simp)] at hp
 rw [← hp]
 simp
theorem put_end1 (h : l.length ≤ i) (hp : acc ++ putL lt t true (l.drop i) = P) : acc = P := by
 rw [List.drop_eq_nil_of_le h, putL, if_pos rfl, List.append_nil] at hp
 exact hp
theorem put_end0 (h : l.length ≤ i) (hp : acc ++ putL lt t false (l.drop i) = P) : acc ++ [t] = P := by
 rw [List.drop_eq_nil_of_le h, putL, if_neg (by simp)] at hp
 exact hp
theorem put_le {b : Bool} (hp : acc ++ putL lt t b (l.drop i) = putL lt t false l) : acc.length ≤ l.length + 1 := by
 have h1 := congrArg List.length hp
 have h2 := putL_len lt t false l
 rw [List.length_append] at h1
 omega
theorem not_snoc (h : l[i]? = some y) (hn : t ∉ l.take i) (he : y ≠ t) : t ∉ l.take (i + 1) := by
 rw [List.take_add_one, h]
 simp only [Option.toList_some, List.mem_append, List.mem_singleton]
 rintro (h1 | h1)
 · exact hn h1
 · exact he h1.symm
end
section
variable {w0 w : World} {F : Nat → Prop} {R : List Chunk} {a b c : Chunk}
theorem St.only0 (h : St w0 F w (a :: b :: c :: R)) : St w0 F w (a :: R) :=
 St.drop (A := [_, _]) ((show St w0 F w ([a, b, c] ++ R) from h).perm (B := [b, c, a] ++ R) ((perm_ix _ [1, 2, 0] 3 rfl (by decide)).append_right R))
theorem St.only1 (h : St w0 F w (a :: b :: c :: R)) : St w0 F w (b :: R) :=
 St.drop (A := [_, _]) ((show St w0 F w ([a, b, c] ++ R) from h).perm (B := [a, c, b] ++ R) ((perm_ix _ [0, 2, 1] 3 rfl (by decide)).append_right R))
theorem St.first (h : St w0 F w (a :: b :: R)) : St w0 F w (a :: R) :=
 St.drop (A := [_]) (h.perm (List.Perm.swap _ _ _))
end
def SmallT (t : S32) : Prop := t.f1.size < 1000 ∧ t.f2.size < 1000
set_option maxHeartbeats 16000000 in
theorem qput_calls {w0 w : World} {F : Nat → Prop} {R : List Chunk} {A : Option Addr} {n c : Nat} {l : List S32} (h : St w0 F w (rowTC (.slice A n c) l :: R)) (hln : l.length = n) (t : S32) (ht : SmallT t) (hl : ∀ y ∈ l, SmallT y) (hn : n < 100000) :
   Calls Tryz.prog 52 #[.slice A n c, thgV t] w fun E w' => ∃ A' c', E = .returned (.slice A' (putT ltTB l t).length c') ∧ St w0 F w' (rowTC (.slice A' (putT ltTB l t).length c') (putT ltTB l t) :: R) := by
 obtain ⟨Q, hQ⟩ : ∃ Q, (fun E w' => ∃ A' c', E = Ending.returned (.slice A' (putT ltTB l t).length c') ∧ St w0 F w' (rowTC (.slice A' (putT ltTB l t).length c') (putT ltTB l t) :: R)) = Q := ⟨_, rfl⟩
 have HQ := Aside0.mk hQ
 rw [hQ]
 clear hQ
 have hu49 := Tryz.underlying49
 have hu41 := Tryz.underlying41
 have hu32 := Tryz.underlying32
 have hz32 := Tryz.sizeOf32
 have HLN := Aside0.mk hln
 have HT := Aside0.mk ht
 have HL := Aside0.mk hl
 obtain ⟨n3, hn3⟩ : ∃ n, w.heap.size = n := ⟨_, rfl⟩
 have h1 := h.alloc #[.int .i64 t.f0, .string t.f1, .string t.f2] 32 hn3
 obtain ⟨W8, hW8⟩ : ∃ W, w.alloc (.cells #[.int .i64 t.f0, .string t.f1, .string t.f2] 32) = W := ⟨_, rfl⟩
 rw [hW8] at h1
 have h2 := h1.perm (B := rowTC (.slice A n c) l :: blkC n3 (.cells #[.int .i64 t.f0, .string t.f1, .string t.f2] 32 (0, 0)) :: R) (List.Perm.cons _ (List.perm_append_comm (l₂ := [_])))
 have HS := Aside0.mk (st_emptyX thgE h2)
 clear h h1 h2 hln ht hl
 unfold thgV
 go_enter Tryz.func52, Tryz.ntmps52
 go_wp2
 go_loopg [5, 6, 7] n (fun gq v5 v6 v7 wx => ∃ (i na c2 : Nat) (A2 : Option Addr) (acc : List S32) (b : Bool), v7 = .int .i64 i ∧ v6 = .bool b ∧ v5 = .slice A2 na c2 ∧ i + gq = n ∧ Aside0 (acc.length = na) ∧ Aside0 (t ∉ l.take i) ∧ Aside0 (acc ++ putL ltTB t b (l.drop i) = putL ltTB t false l) ∧ Aside0 (St w0 F wx (rowTC (.slice A2 na c2) acc :: rowTC (.slice A n c) l :: blkC n3 (.cells #[.int .i64 t.f0, .string t.f1, .string t.f2] 32 (0, 0)) :: R)))
 case atStart => exact ⟨0, 0, 0, _, [], false, rfl, rfl, rfl, by omega, Aside0.mk rfl, Aside0.mk (by simp), Aside0.mk (by simp), HS⟩
 case round =>
   clear HS hW8
   obtain ⟨i, na, c2, A2, acc, b, rfl, rfl, rfl, hi, HNA, HNI, HP, HS⟩ := hrel
   have HAB : Aside0 (acc.length < 999999) := Aside0.mk (by have := put_le HP.out; have := HLN.out; omega)
   cases gk with
   | zero =>
     obtain rfl : i = n := by omega
     have hin : ¬ (i : Int) < (i : Int) := by omega
     have hpt : putT ltTB l t = putL ltTB t false l := by
       have h := HNI.out
       rw [List.take_of_length_le (by rw [HLN.out]; exact Nat.le_refl _)] at h
       exact if_neg h
     have HPT := Aside0.mk hpt
     clear hpt
     cases b with
     | true =>
       go_wp2
       rw [← HQ.out]
       refine ⟨A2, c2, ?_, ?_⟩
       · rw [HPT.out, ← put_end1 (by rw [HLN.out]; exact Nat.le_refl _) HP.out, HNA.out]
       · rw [HPT.out, ← put_end1 (by rw [HLN.out]; exact Nat.le_refl _) HP.out, HNA.out]
         exact St.only0 HS.out
     | false =>
       have b0 : wr.cell? ⟨n3, 0, none⟩ = some (.int .i64 t.f0) := (blk_cell (HS.out.blk 2 rfl) 0).trans rfl; have b1 : wr.cell? ⟨n3, 1, none⟩ = some (.string t.f1) := (blk_cell (HS.out.blk 2 rfl) 1).trans rfl; have b2 : wr.cell? ⟨n3, 2, none⟩ = some (.string t.f2) := (blk_cell (HS.out.blk 2 rfl) 2).trans rfl
       go_wp2_with ( at_builtin; have HSE := Aside0.mk (HS.out.below ((Below.refl _ wr).alloc (Nat.le_refl _) (.cells #[.int .i64 t.f0, .string t.f1, .string t.f2] 32))); obtain ⟨g9, d9, w9, hrun, hrow, hgrow, hown⟩ := appendX thgI (l := acc) (v := .slice A2 na c2) t wr.heap.size #[.int .i64 t.f0, .string t.f1, .string t.f2] 49 (HSE.out.rowX 0 rfl) (heap_alloc_new wr _) rfl HAB.out; have HSF := Aside0.mk (HSE.out.rowTo 0 rfl hrow hgrow hown); refine wpList_append_run rfl (.tmp 45) (.tmp 47) 49 49 rfl _ _ rfl rfl hrun ?_; rw [HNA.out] at HSF ⊢; clear hrun hrow hgrow hown HSE HS; )
       rw [← HQ.out]
       have hl9 : (acc ++ [t]).length = na + 1 := by rw [List.length_append, HNA.out]; rfl
       refine ⟨some ⟨g9, 0, none⟩, d9, ?_, ?_⟩
       · rw [HPT.out, ← put_end0 (by rw [HLN.out]; exact Nat.le_refl _) HP.out, hl9]
       · rw [HPT.out, ← put_end0 (by rw [HLN.out]; exact Nat.le_refl _) HP.out, hl9]
         exact St.only0 HSF.out
   | succ gq =>
     have hin : (i : Int) < (n : Int) := by omega
     have hi0 : (0 : Int) ≤ (i : Int) := by omega
     have hi9 : (i : Int) ≤ 1000000 := by omega
     obtain ⟨y, hy⟩ : ∃ y, l[i]? = some y := ⟨_, List.getElem?_eq_getElem (by rw [HLN.out]; omega)⟩
     obtain ⟨g, c1, hv, _⟩ := row_slice (n := l.length) (HS.out.rowX 1 rfl) (by rw [HLN.out]; omega)
     obtain ⟨rfl, rfl⟩ : A = some ⟨g, 0, none⟩ ∧ c = c1 := by
       injection hv with e1 e2 e3
       exact ⟨e1, e3⟩
     have HO := Aside0.mk hy
     clear hv hy
     go_wp2
     cases he : eqD ⟨y.f0, y.f1, y.f2⟩ ⟨t.f0, t.f1, t.f2⟩ with
     | true =>
       refine start_ (n := 6) (S := fun w' => w'.cell? ⟨g, i * 3, none⟩ = some (.int .i64 y.f0) ∧ w'.cell? ⟨g, i * 3 + 1, none⟩ = some (.string y.f1) ∧ w'.cell? ⟨g, i * 3 + 2, none⟩ = some (.string y.f2) ∧ w'.cell? ⟨n3, 0, none⟩ = some (.int .i64 t.f0) ∧ w'.cell? ⟨n3, 1, none⟩ = some (.string t.f1) ∧ w'.cell? ⟨n3, 2, none⟩ = some (.string t.f2)) (ds := []) #[false, false, false, false, false, false] (by kernel_rfl) rfl rfl ⟨((HS.out.rowX 1 rfl).thg HO.out).1, ((HS.out.rowX 1 rfl).thg HO.out).2.1, ((HS.out.rowX 1 rfl).thg HO.out).2.2, (blk_cell (HS.out.blk 2 rfl) 0).trans rfl, (blk_cell (HS.out.blk 2 rfl) 1).trans rfl, (blk_cell (HS.out.blk 2 rfl) 2).trans rfl⟩ (fun hHeld => ?_)
       have HS11 := Aside0.mk (HS.out.drew)
       clear HS
       generalize wr.drew = wd0 at HS11 hHeld  ⊢
       refine pu_ 0 15 (bs_ 6 1) ?_; refine pu_ 1 16 (bs_ 6 3) ?_; refine pu_ 2 17 (bs_ 6 7) ?_; refine ta_ 3 18 (bs_ 6 15) hHeld ?_; refine ta_ 4 19 (bs_ 6 31) hHeld ?_; refine pu_ 5 20 (bs_ 6 63) ?_
       refine done_ (by kernel_rfl) ?_
       clear hHeld
       go_wp2
       rw [← HQ.out]
       have hm : putT ltTB l t = l := if_pos (by
         have := eqD_true he
         have h2 : y = t := this
         rw [← h2]
         exact List.mem_of_getElem? HO.out)
       refine ⟨some ⟨g, 0, none⟩, c, ?_, ?_⟩
       · rw [hm, HLN.out]; rfl
       · rw [hm, HLN.out]
         exact St.only1 HS11.out
     | false =>
       have hne : y ≠ t := by
         rw [eqD_dec] at he
         exact of_decide_eq_false he
       have HNE := Aside0.mk hne
       clear hne
       refine start_ (n := 6) (S := fun w' => w'.cell? ⟨g, i * 3, none⟩ = some (.int .i64 y.f0) ∧ w'.cell? ⟨g, i * 3 + 1, none⟩ = some (.string y.f1) ∧ w'.cell? ⟨g, i * 3 + 2, none⟩ = some (.string y.f2) ∧ w'.cell? ⟨n3, 0, none⟩ = some (.int .i64 t.f0) ∧ w'.cell? ⟨n3, 1, none⟩ = some (.string t.f1) ∧ w'.cell? ⟨n3, 2, none⟩ = some (.string t.f2)) (ds := []) #[false, false, false, false, false, false] (by kernel_rfl) rfl rfl ⟨((HS.out.rowX 1 rfl).thg HO.out).1, ((HS.out.rowX 1 rfl).thg HO.out).2.1, ((HS.out.rowX 1 rfl).thg HO.out).2.2, (blk_cell (HS.out.blk 2 rfl) 0).trans rfl, (blk_cell (HS.out.blk 2 rfl) 1).trans rfl, (blk_cell (HS.out.blk 2 rfl) 2).trans rfl⟩ (fun hHeld => ?_)
       have HS21 := Aside0.mk (HS.out.drew)
       clear HS
       generalize wr.drew = wd1 at HS21 hHeld  ⊢
       refine pu_ 0 15 (bs_ 6 1) ?_; refine pu_ 1 16 (bs_ 6 3) ?_; refine pu_ 2 17 (bs_ 6 7) ?_; refine ta_ 3 18 (bs_ 6 15) hHeld ?_; refine ta_ 4 19 (bs_ 6 31) hHeld ?_; refine pu_ 5 20 (bs_ 6 63) ?_
       refine done_ (by kernel_rfl) ?_
       clear hHeld
       go_wp2
       cases b with
       | true =>
         refine start_ (n := 10) (S := fun w' => w'.cell? ⟨g, i * 3, none⟩ = some (.int .i64 y.f0) ∧ w'.cell? ⟨g, i * 3 + 1, none⟩ = some (.string y.f1) ∧ w'.cell? ⟨g, i * 3 + 2, none⟩ = some (.string y.f2) ∧ w'.cell? ⟨n3, 0, none⟩ = some (.int .i64 t.f0) ∧ w'.cell? ⟨n3, 1, none⟩ = some (.string t.f1) ∧ w'.cell? ⟨n3, 2, none⟩ = some (.string t.f2)) (ds := []) #[false, false, false, false, false, false, false, false, false, false] (by kernel_rfl) rfl rfl ⟨((HS21.out.rowX 1 rfl).thg HO.out).1, ((HS21.out.rowX 1 rfl).thg HO.out).2.1, ((HS21.out.rowX 1 rfl).thg HO.out).2.2, (blk_cell (HS21.out.blk 2 rfl) 0).trans rfl, (blk_cell (HS21.out.blk 2 rfl) 1).trans rfl, (blk_cell (HS21.out.blk 2 rfl) 2).trans rfl⟩ (fun hHeld => ?_)
         have HS31 := Aside0.mk (HS21.out.drew)
         clear HS21
         generalize wd1.drew = wd2 at HS31 hHeld  ⊢
         refine pu_ 0 22 (bs_ 10 1) ?_; refine pu_ 1 23 (bs_ 10 3) ?_; refine pu_ 2 24 (bs_ 10 7) ?_; refine pn_ 3 25 (bs_ 10 15) ?_; refine pn_ 4 26 (bs_ 10 31) ?_; refine pn_ 5 27 (bs_ 10 63) ?_; refine pn_ 6 28 (bs_ 10 127) ?_; refine pn_ 7 29 (bs_ 10 255) ?_
         refine one_ (i := 8) (N := (some 30)) (bs_ 10 511) rfl rfl (by kernel_rfl) (by decide) (fun K_ hK => ?_)
         refine no_ (by rfl) ?_
         refine hK.out _ _ hHeld (fun hHeld => ?_)
         clear hK K_
         refine norm_ (a' := ?_) ?_ ?_
         rotate_left
         · show Act.put _ (some 30) _ = _
           simp only [Act.put, List.setIfInBounds_toArray, List.set_cons_zero, List.set_cons_succ, i64_w, i32_w]
           rfl
         refine pu_ 9 31 (bs_ 10 1023) ?_
         refine done_ (by kernel_rfl) ?_
         clear hHeld
         have wd20 : wd2.cell? ⟨g, i * 3, none⟩ = some (.int .i64 y.f0) := ((HS31.out.rowX 1 rfl).thg HO.out).1; have wd21 : wd2.cell? ⟨g, i * 3 + 1, none⟩ = some (.string y.f1) := ((HS31.out.rowX 1 rfl).thg HO.out).2.1; have wd22 : wd2.cell? ⟨g, i * 3 + 2, none⟩ = some (.string y.f2) := ((HS31.out.rowX 1 rfl).thg HO.out).2.2
         go_wp2_with ( at_builtin; have HSE := Aside0.mk (HS31.out.below ((Below.refl _ wd2).alloc (Nat.le_refl _) (.cells #[.int .i64 y.f0, .string y.f1, .string y.f2] 32))); obtain ⟨g9, d9, w9, hrun, hrow, hgrow, hown⟩ := appendX thgI (l := acc) (v := .slice A2 na c2) y wd2.heap.size #[.int .i64 y.f0, .string y.f1, .string y.f2] 49 (HSE.out.rowX 0 rfl) (heap_alloc_new wd2 _) rfl HAB.out; have HSF := Aside0.mk (HSE.out.rowTo 0 rfl hrow hgrow hown); refine wpList_append_run rfl (.tmp 36) (.tmp 41) 49 49 rfl _ _ rfl rfl hrun ?_; rw [HNA.out] at HSF ⊢; clear hrun hrow hgrow hown HSE HS31; )
         go_roundg gq
         case measure => omega
         case rel => exact ⟨i + 1, na + 1, d9, some ⟨g9, 0, none⟩, acc ++ [y], true, by go_num, rfl, rfl, by omega, Aside0.mk (by rw [List.length_append, HNA.out]; rfl), Aside0.mk (not_snoc HO.out HNI.out HNE.out), Aside0.mk (put_done HO.out HP.out), HSF⟩
       | false =>
         have CF := Aside0.mk (fun W => below_calls W t y HT.out (HL.out y (List.mem_of_getElem? HO.out)))
         unfold thgV at CF
         cases hlt : ltTB t y with
         | true =>
           rw [hlt] at CF
           refine start_ (n := 10) (S := fun w' => w'.cell? ⟨g, i * 3, none⟩ = some (.int .i64 y.f0) ∧ w'.cell? ⟨g, i * 3 + 1, none⟩ = some (.string y.f1) ∧ w'.cell? ⟨g, i * 3 + 2, none⟩ = some (.string y.f2) ∧ w'.cell? ⟨n3, 0, none⟩ = some (.int .i64 t.f0) ∧ w'.cell? ⟨n3, 1, none⟩ = some (.string t.f1) ∧ w'.cell? ⟨n3, 2, none⟩ = some (.string t.f2)) (ds := []) #[false, false, false, false, false, false, false, false, false, false] (by kernel_rfl) rfl rfl ⟨((HS21.out.rowX 1 rfl).thg HO.out).1, ((HS21.out.rowX 1 rfl).thg HO.out).2.1, ((HS21.out.rowX 1 rfl).thg HO.out).2.2, (blk_cell (HS21.out.blk 2 rfl) 0).trans rfl, (blk_cell (HS21.out.blk 2 rfl) 1).trans rfl, (blk_cell (HS21.out.blk 2 rfl) 2).trans rfl⟩ (fun hHeld => ?_)
           have HS41 := Aside0.mk (HS21.out.drew)
           clear HS21
           generalize wd1.drew = wd3 at HS41 hHeld  ⊢
           refine pu_ 0 22 (bs_ 10 1) ?_; refine pu_ 1 23 (bs_ 10 3) ?_; refine pu_ 2 24 (bs_ 10 7) ?_; refine pu_ 4 26 (bs_ 10 23) ?_; refine pu_ 5 27 (bs_ 10 55) ?_; refine pu_ 6 28 (bs_ 10 119) ?_; refine ta_ 3 25 (bs_ 10 127) hHeld ?_; refine ta_ 7 29 (bs_ 10 255) hHeld ?_
           refine one_ (i := 8) (N := (some 30)) (bs_ 10 511) rfl rfl (by kernel_rfl) (by decide) (fun K_ hK => ?_)
           refine goes_ Tryz.func78 (by kernel_rfl) rfl #[.agg #[.int .i64 t.f0, .string t.f1, .string t.f2], .agg #[.int .i64 y.f0, .string y.f1, .string y.f2]] (by rfl) rfl rfl (by (try simp only [List.map_toArray, List.map_cons, List.map_nil]); first | done | rfl) ?_
           refine (CF.out _).mono ?_
           rintro E wc ⟨rfl, hb⟩
           have HS42 := Aside0.mk (HS41.out.below hb)
           clear HS41
           clear hb
           refine ⟨_, rfl, ?_⟩
           clear hHeld
           refine hK.out _ _ ⟨((HS42.out.rowX 1 rfl).thg HO.out).1, ((HS42.out.rowX 1 rfl).thg HO.out).2.1, ((HS42.out.rowX 1 rfl).thg HO.out).2.2, (blk_cell (HS42.out.blk 2 rfl) 0).trans rfl, (blk_cell (HS42.out.blk 2 rfl) 1).trans rfl, (blk_cell (HS42.out.blk 2 rfl) 2).trans rfl⟩ (fun hHeld => ?_)
           clear hK K_
           refine norm_ (a' := ?_) ?_ ?_
           rotate_left
           · show Act.put _ (some 30) _ = _
             simp only [Act.put, List.setIfInBounds_toArray, List.set_cons_zero, List.set_cons_succ, i64_w, i32_w]
             rfl
           refine pu_ 9 31 (bs_ 10 1023) ?_
           refine done_ (by kernel_rfl) ?_
           clear hHeld
           have HNB : Aside0 ((acc ++ [t]).length = na + 1) := Aside0.mk (by rw [List.length_append, HNA.out]; rfl)
           have HBB : Aside0 ((acc ++ [t]).length < 999999) := Aside0.mk (by have := put_le HP.out; have := HLN.out; rw [List.length_append, List.length_singleton]; omega)
           have G1 := Aside0.mk trivial
           have b0 : wc.cell? ⟨n3, 0, none⟩ = some (.int .i64 t.f0) := (blk_cell (HS42.out.blk 2 rfl) 0).trans rfl; have b1 : wc.cell? ⟨n3, 1, none⟩ = some (.string t.f1) := (blk_cell (HS42.out.blk 2 rfl) 1).trans rfl; have b2 : wc.cell? ⟨n3, 2, none⟩ = some (.string t.f2) := (blk_cell (HS42.out.blk 2 rfl) 2).trans rfl
           go_wp2_with (first
             | (clear G1; at_builtin; have HSE := Aside0.mk (HS42.out.below ((Below.refl _ wc).alloc (Nat.le_refl _) (.cells #[.int .i64 t.f0, .string t.f1, .string t.f2] 32))); obtain ⟨g8, d8, w8, hrun, hrow, hgrow, hown⟩ := appendX thgI (l := acc) (v := .slice A2 na c2) t wc.heap.size #[.int .i64 t.f0, .string t.f1, .string t.f2] 49 (HSE.out.rowX 0 rfl) (heap_alloc_new wc _) rfl HAB.out; have HSG := Aside0.mk (HSE.out.rowTo 0 rfl hrow hgrow hown); refine wpList_append_run rfl (.tmp 32) (.tmp 34) 49 49 rfl _ _ rfl rfl hrun ?_; rw [HNA.out] at HSG ⊢; clear hrun hrow hgrow hown HSE HS42; have w80 : w8.cell? ⟨g, i * 3, none⟩ = some (.int .i64 y.f0) := ((HSG.out.rowX 1 rfl).thg HO.out).1; have w81 : w8.cell? ⟨g, i * 3 + 1, none⟩ = some (.string y.f1) := ((HSG.out.rowX 1 rfl).thg HO.out).2.1; have w82 : w8.cell? ⟨g, i * 3 + 2, none⟩ = some (.string y.f2) := ((HSG.out.rowX 1 rfl).thg HO.out).2.2)
             | ( at_builtin; have HSE := Aside0.mk (HSG.out.below ((Below.refl _ w8).alloc (Nat.le_refl _) (.cells #[.int .i64 y.f0, .string y.f1, .string y.f2] 32))); obtain ⟨g9, d9, w9, hrun, hrow, hgrow, hown⟩ := appendX thgI (l := acc ++ [t]) (v := .slice (some ⟨g8, 0, none⟩) (na + 1) d8) y w8.heap.size #[.int .i64 y.f0, .string y.f1, .string y.f2] 49 (HSE.out.rowX 0 rfl) (heap_alloc_new w8 _) rfl HBB.out; have HSF := Aside0.mk (HSE.out.rowTo 0 rfl hrow hgrow hown); refine wpList_append_run rfl (.tmp 36) (.tmp 41) 49 49 rfl _ _ rfl rfl hrun ?_; rw [HNB.out] at HSF ⊢; clear hrun hrow hgrow hown HSE HSG; ))
           go_roundg gq
           case measure => omega
           case rel => exact ⟨i + 1, na + 1 + 1, d9, some ⟨g9, 0, none⟩, acc ++ [t] ++ [y], true, by go_num, rfl, rfl, by omega, Aside0.mk (by rw [List.length_append, HNB.out]; rfl), Aside0.mk (not_snoc HO.out HNI.out HNE.out), Aside0.mk (put_here HO.out hlt HP.out), HSF⟩
         | false =>
           rw [hlt] at CF
           refine start_ (n := 10) (S := fun w' => w'.cell? ⟨g, i * 3, none⟩ = some (.int .i64 y.f0) ∧ w'.cell? ⟨g, i * 3 + 1, none⟩ = some (.string y.f1) ∧ w'.cell? ⟨g, i * 3 + 2, none⟩ = some (.string y.f2) ∧ w'.cell? ⟨n3, 0, none⟩ = some (.int .i64 t.f0) ∧ w'.cell? ⟨n3, 1, none⟩ = some (.string t.f1) ∧ w'.cell? ⟨n3, 2, none⟩ = some (.string t.f2)) (ds := []) #[false, false, false, false, false, false, false, false, false, false] (by kernel_rfl) rfl rfl ⟨((HS21.out.rowX 1 rfl).thg HO.out).1, ((HS21.out.rowX 1 rfl).thg HO.out).2.1, ((HS21.out.rowX 1 rfl).thg HO.out).2.2, (blk_cell (HS21.out.blk 2 rfl) 0).trans rfl, (blk_cell (HS21.out.blk 2 rfl) 1).trans rfl, (blk_cell (HS21.out.blk 2 rfl) 2).trans rfl⟩ (fun hHeld => ?_)
           have HS51 := Aside0.mk (HS21.out.drew)
           clear HS21
           generalize wd1.drew = wd4 at HS51 hHeld  ⊢
           refine pu_ 0 22 (bs_ 10 1) ?_; refine pu_ 1 23 (bs_ 10 3) ?_; refine pu_ 2 24 (bs_ 10 7) ?_; refine pu_ 4 26 (bs_ 10 23) ?_; refine pu_ 5 27 (bs_ 10 55) ?_; refine pu_ 6 28 (bs_ 10 119) ?_; refine ta_ 3 25 (bs_ 10 127) hHeld ?_; refine ta_ 7 29 (bs_ 10 255) hHeld ?_
           refine one_ (i := 8) (N := (some 30)) (bs_ 10 511) rfl rfl (by kernel_rfl) (by decide) (fun K_ hK => ?_)
           refine goes_ Tryz.func78 (by kernel_rfl) rfl #[.agg #[.int .i64 t.f0, .string t.f1, .string t.f2], .agg #[.int .i64 y.f0, .string y.f1, .string y.f2]] (by rfl) rfl rfl (by (try simp only [List.map_toArray, List.map_cons, List.map_nil]); first | done | rfl) ?_
           refine (CF.out _).mono ?_
           rintro E wc ⟨rfl, hb⟩
           have HS52 := Aside0.mk (HS51.out.below hb)
           clear HS51
           clear hb
           refine ⟨_, rfl, ?_⟩
           clear hHeld
           refine hK.out _ _ ⟨((HS52.out.rowX 1 rfl).thg HO.out).1, ((HS52.out.rowX 1 rfl).thg HO.out).2.1, ((HS52.out.rowX 1 rfl).thg HO.out).2.2, (blk_cell (HS52.out.blk 2 rfl) 0).trans rfl, (blk_cell (HS52.out.blk 2 rfl) 1).trans rfl, (blk_cell (HS52.out.blk 2 rfl) 2).trans rfl⟩ (fun hHeld => ?_)
           clear hK K_
           refine norm_ (a' := ?_) ?_ ?_
           rotate_left
           · show Act.put _ (some 30) _ = _
             simp only [Act.put, List.setIfInBounds_toArray, List.set_cons_zero, List.set_cons_succ, i64_w, i32_w]
             rfl
           refine pu_ 9 31 (bs_ 10 1023) ?_
           refine done_ (by kernel_rfl) ?_
           clear hHeld
           have wc0 : wc.cell? ⟨g, i * 3, none⟩ = some (.int .i64 y.f0) := ((HS52.out.rowX 1 rfl).thg HO.out).1; have wc1 : wc.cell? ⟨g, i * 3 + 1, none⟩ = some (.string y.f1) := ((HS52.out.rowX 1 rfl).thg HO.out).2.1; have wc2 : wc.cell? ⟨g, i * 3 + 2, none⟩ = some (.string y.f2) := ((HS52.out.rowX 1 rfl).thg HO.out).2.2
           go_wp2_with ( at_builtin; have HSE := Aside0.mk (HS52.out.below ((Below.refl _ wc).alloc (Nat.le_refl _) (.cells #[.int .i64 y.f0, .string y.f1, .string y.f2] 32))); obtain ⟨g9, d9, w9, hrun, hrow, hgrow, hown⟩ := appendX thgI (l := acc) (v := .slice A2 na c2) y wc.heap.size #[.int .i64 y.f0, .string y.f1, .string y.f2] 49 (HSE.out.rowX 0 rfl) (heap_alloc_new wc _) rfl HAB.out; have HSF := Aside0.mk (HSE.out.rowTo 0 rfl hrow hgrow hown); refine wpList_append_run rfl (.tmp 36) (.tmp 41) 49 49 rfl _ _ rfl rfl hrun ?_; rw [HNA.out] at HSF ⊢; clear hrun hrow hgrow hown HSE HS52; )
           go_roundg gq
           case measure => omega
           case rel => exact ⟨i + 1, na + 1, d9, some ⟨g9, 0, none⟩, acc ++ [y], false, by go_num, rfl, rfl, by omega, Aside0.mk (by rw [List.length_append, HNA.out]; rfl), Aside0.mk (not_snoc HO.out HNI.out HNE.out), Aside0.mk (put_on HO.out hlt HP.out), HSF⟩
set_option maxHeartbeats 16000000 in
theorem qnumber_calls {w0 w : World} {F : Nat → Prop} {R : List Chunk} {A : Option Addr} {n c : Nat} {l : List Int} (h : St w0 F w (rowIC (.slice A n c) l :: R)) (hln : l.length = n) (t : Int) (hn : n < 100000) :
   Calls Tryz.prog 54 #[.slice A n c, .int .i64 t] w fun E w' => ∃ A' c', E = .returned (.slice A' (putT ltIB l t).length c') ∧ St w0 F w' (rowIC (.slice A' (putT ltIB l t).length c') (putT ltIB l t) :: R) := by
 obtain ⟨Q, hQ⟩ : ∃ Q, (fun E w' => ∃ A' c', E = Ending.returned (.slice A' (putT ltIB l t).length c') ∧ St w0 F w' (rowIC (.slice A' (putT ltIB l t).length c') (putT ltIB l t) :: R)) = Q := ⟨_, rfl⟩
 have HQ := Aside0.mk hQ
 rw [hQ]
 clear hQ
 have hu49 := Tryz.underlying49
 have hu41 := Tryz.underlying41
 have hu32 := Tryz.underlying32
 have hz32 := Tryz.sizeOf32
 have HLN := Aside0.mk hln
 have HS := Aside0.mk (st_emptyX intE h)
 clear h hln
 go_enter Tryz.func54, Tryz.ntmps54
 go_wp2
 go_loopg [5, 6, 7] n (fun gq v5 v6 v7 wx => ∃ (i na c2 : Nat) (A2 : Option Addr) (acc : List Int) (b : Bool), v7 = .int .i64 i ∧ v6 = .bool b ∧ v5 = .slice A2 na c2 ∧ i + gq = n ∧ Aside0 (acc.length = na) ∧ Aside0 (t ∉ l.take i) ∧ Aside0 (acc ++ putL ltIB t b (l.drop i) = putL ltIB t false l) ∧ Aside0 (St w0 F wx (rowIC (.slice A2 na c2) acc :: rowIC (.slice A n c) l :: R)))
 case atStart => exact ⟨0, 0, 0, _, [], false, rfl, rfl, rfl, by omega, Aside0.mk rfl, Aside0.mk (by simp), Aside0.mk (by simp), HS⟩
 case round =>
   clear HS
   obtain ⟨i, na, c2, A2, acc, b, rfl, rfl, rfl, hi, HNA, HNI, HP, HS⟩ := hrel
   have HAB : Aside0 (acc.length < 999999) := Aside0.mk (by have := put_le HP.out; have := HLN.out; omega)
   cases gk with
   | zero =>
     obtain rfl : i = n := by omega
     have hin : ¬ (i : Int) < (i : Int) := by omega
     have hpt : putT ltIB l t = putL ltIB t false l := by
       have h := HNI.out
       rw [List.take_of_length_le (by rw [HLN.out]; exact Nat.le_refl _)] at h
       exact if_neg h
     have HPT := Aside0.mk hpt
     clear hpt
     cases b with
     | true =>
       go_wp2
       rw [← HQ.out]
       refine ⟨A2, c2, ?_, ?_⟩
       · rw [HPT.out, ← put_end1 (by rw [HLN.out]; exact Nat.le_refl _) HP.out, HNA.out]
       · rw [HPT.out, ← put_end1 (by rw [HLN.out]; exact Nat.le_refl _) HP.out, HNA.out]
         exact St.first HS.out
     | false =>
       skip
       go_wp2_with ( at_builtin; have HSE := Aside0.mk (HS.out.below ((Below.refl _ wr).alloc (Nat.le_refl _) (.cells #[.int .i64 t] 3))); obtain ⟨g9, d9, w9, hrun, hrow, hgrow, hown⟩ := appendX intI (l := acc) (v := .slice A2 na c2) t wr.heap.size #[.int .i64 t] 41 (HSE.out.rowX 0 rfl) (heap_alloc_new wr _) rfl HAB.out; have HSF := Aside0.mk (HSE.out.rowTo 0 rfl hrow hgrow hown); refine wpList_append_run rfl (.tmp 45) (.tmp 47) 41 41 rfl _ _ rfl rfl hrun ?_; rw [HNA.out] at HSF ⊢; clear hrun hrow hgrow hown HSE HS; )
       rw [← HQ.out]
       have hl9 : (acc ++ [t]).length = na + 1 := by rw [List.length_append, HNA.out]; rfl
       refine ⟨some ⟨g9, 0, none⟩, d9, ?_, ?_⟩
       · rw [HPT.out, ← put_end0 (by rw [HLN.out]; exact Nat.le_refl _) HP.out, hl9]
       · rw [HPT.out, ← put_end0 (by rw [HLN.out]; exact Nat.le_refl _) HP.out, hl9]
         exact St.first HSF.out
   | succ gq =>
     have hin : (i : Int) < (n : Int) := by omega
     have hi0 : (0 : Int) ≤ (i : Int) := by omega
     have hi9 : (i : Int) ≤ 1000000 := by omega
     obtain ⟨y, hy⟩ : ∃ y, l[i]? = some y := ⟨_, List.getElem?_eq_getElem (by rw [HLN.out]; omega)⟩
     obtain ⟨g, c1, hv, _⟩ := row_slice (n := l.length) (HS.out.rowX 1 rfl) (by rw [HLN.out]; omega)
     obtain ⟨rfl, rfl⟩ : A = some ⟨g, 0, none⟩ ∧ c = c1 := by
       injection hv with e1 e2 e3
       exact ⟨e1, e3⟩
     have HO := Aside0.mk hy
     clear hv hy
     have wr0 : wr.cell? ⟨g, i, none⟩ = some (.int .i64 y) := (HS.out.rowX 1 rfl).int HO.out
     by_cases he : y = t
     · have hm : putT ltIB l t = l := if_pos (by
         rw [← he]
         exact List.mem_of_getElem? HO.out)
       have HM := Aside0.mk hm
       clear hm
       subst he
       go_wp2
       rw [← HQ.out]
       refine ⟨some ⟨g, 0, none⟩, c, ?_, ?_⟩
       · rw [HM.out, HLN.out]; rfl
       · rw [HM.out, HLN.out]
         exact St.drop (A := [_]) HS.out
     · have HNE := Aside0.mk he
       cases b with
       | true =>
         go_wp2_with ( at_builtin; have HSE := Aside0.mk (HS.out.below ((Below.refl _ wr).alloc (Nat.le_refl _) (.cells #[.int .i64 y] 3))); obtain ⟨g9, d9, w9, hrun, hrow, hgrow, hown⟩ := appendX intI (l := acc) (v := .slice A2 na c2) y wr.heap.size #[.int .i64 y] 41 (HSE.out.rowX 0 rfl) (heap_alloc_new wr _) rfl HAB.out; have HSF := Aside0.mk (HSE.out.rowTo 0 rfl hrow hgrow hown); refine wpList_append_run rfl (.tmp 36) (.tmp 41) 41 41 rfl _ _ rfl rfl hrun ?_; rw [HNA.out] at HSF ⊢; clear hrun hrow hgrow hown HSE HS; )
         go_roundg gq
         case measure => omega
         case rel => exact ⟨i + 1, na + 1, d9, some ⟨g9, 0, none⟩, acc ++ [y], true, by go_num, rfl, rfl, by omega, Aside0.mk (by rw [List.length_append, HNA.out]; rfl), Aside0.mk (not_snoc HO.out HNI.out HNE.out), Aside0.mk (put_done HO.out HP.out), HSF⟩
       | false =>
         by_cases hlt : t < y
         · have HLT := Aside0.mk (show ltIB t y = true from decide_eq_true hlt)
           have HNB : Aside0 ((acc ++ [t]).length = na + 1) := Aside0.mk (by rw [List.length_append, HNA.out]; rfl)
           have HBB : Aside0 ((acc ++ [t]).length < 999999) := Aside0.mk (by have := put_le HP.out; have := HLN.out; rw [List.length_append, List.length_singleton]; omega)
           have G1 := Aside0.mk trivial
           go_wp2_with (first
             | (clear G1; at_builtin; have HSE := Aside0.mk (HS.out.below ((Below.refl _ wr).alloc (Nat.le_refl _) (.cells #[.int .i64 t] 3))); obtain ⟨g8, d8, w8, hrun, hrow, hgrow, hown⟩ := appendX intI (l := acc) (v := .slice A2 na c2) t wr.heap.size #[.int .i64 t] 41 (HSE.out.rowX 0 rfl) (heap_alloc_new wr _) rfl HAB.out; have HSG := Aside0.mk (HSE.out.rowTo 0 rfl hrow hgrow hown); refine wpList_append_run rfl (.tmp 32) (.tmp 34) 41 41 rfl _ _ rfl rfl hrun ?_; rw [HNA.out] at HSG ⊢; clear hrun hrow hgrow hown HSE HS; have w80 : w8.cell? ⟨g, i, none⟩ = some (.int .i64 y) := (HSG.out.rowX 1 rfl).int HO.out)
             | ( at_builtin; have HSE := Aside0.mk (HSG.out.below ((Below.refl _ w8).alloc (Nat.le_refl _) (.cells #[.int .i64 y] 3))); obtain ⟨g9, d9, w9, hrun, hrow, hgrow, hown⟩ := appendX intI (l := acc ++ [t]) (v := .slice (some ⟨g8, 0, none⟩) (na + 1) d8) y w8.heap.size #[.int .i64 y] 41 (HSE.out.rowX 0 rfl) (heap_alloc_new w8 _) rfl HBB.out; have HSF := Aside0.mk (HSE.out.rowTo 0 rfl hrow hgrow hown); refine wpList_append_run rfl (.tmp 36) (.tmp 41) 41 41 rfl _ _ rfl rfl hrun ?_; rw [HNB.out] at HSF ⊢; clear hrun hrow hgrow hown HSE HSG; ))
           go_roundg gq
           case measure => omega
           case rel => exact ⟨i + 1, na + 1 + 1, d9, some ⟨g9, 0, none⟩, acc ++ [t] ++ [y], true, by go_num, rfl, rfl, by omega, Aside0.mk (by rw [List.length_append, HNB.out]; rfl), Aside0.mk (not_snoc HO.out HNI.out HNE.out), Aside0.mk (put_here HO.out HLT.out HP.out), HSF⟩
         · have HLT := Aside0.mk (show ltIB t y = false from decide_eq_false hlt)
           go_wp2_with ( at_builtin; have HSE := Aside0.mk (HS.out.below ((Below.refl _ wr).alloc (Nat.le_refl _) (.cells #[.int .i64 y] 3))); obtain ⟨g9, d9, w9, hrun, hrow, hgrow, hown⟩ := appendX intI (l := acc) (v := .slice A2 na c2) y wr.heap.size #[.int .i64 y] 41 (HSE.out.rowX 0 rfl) (heap_alloc_new wr _) rfl HAB.out; have HSF := Aside0.mk (HSE.out.rowTo 0 rfl hrow hgrow hown); refine wpList_append_run rfl (.tmp 36) (.tmp 41) 41 41 rfl _ _ rfl rfl hrun ?_; rw [HNA.out] at HSF ⊢; clear hrun hrow hgrow hown HSE HS; )
           go_roundg gq
           case measure => omega
           case rel => exact ⟨i + 1, na + 1, d9, some ⟨g9, 0, none⟩, acc ++ [y], false, by go_num, rfl, rfl, by omega, Aside0.mk (by rw [List.length_append, HNA.out]; rfl), Aside0.mk (not_snoc HO.out HNI.out HNE.out), Aside0.mk (put_on HO.out HLT.out HP.out), HSF⟩
end Go.Proofs.Kb
end
section
namespace Go.Proofs.Kb
open Go Go.RowKit Go.Proofs.YtkcjcdkmdooofaaGreat.Q Go.Proofs.YtkcjcdkmdooofaaGreatW.PrintWords Go.Proofs.YtkcjcdkmdooofaaGreatW.PrintLast Go.Proofs.YtkcjcdkmdooofaaGreatW.PrintMore
set_option maxRecDepth 100000
open Go.Proofs.Lk Go.Proofs.Mp
theorem putL_memG {α : Type} (lt : α → α → Bool) (t : α) : ∀ (l : List α) (x : α), x ∈ putL lt t false l ↔ x = t ∨ x ∈ l
 | [], x => by simp [putL]
 | y :: l, x => by
   rw [putL]
   split
   · rw [putL_true]; simp
   · rw [List.mem_cons, putL_memG lt t l x, List.mem_cons]
     constructor
     · rintro (h | h | h) <;> simp [h]
     · rintro (h | h | h) <;> simp [h]
theorem putT_memG {α : Type} [DecidableEq α] (lt : α → α → Bool) (l : List α) (t x : α) : x ∈ putT lt l t ↔ x = t ∨ x ∈ l := by
 unfold putT
 split
 · rename_i h
   constructor
   · exact .inr
   · rintro (rfl | h2)
     · exact h
     · exact h2
 · exact putL_memG lt t l x
theorem fold_mem {α : Type} [DecidableEq α] (lt : α → α → Bool) (L : List α) : ∀ (acc : List α) (x : α), x ∈ L.foldl (putT lt) acc → x ∈ acc ∨ x ∈ L := by
 induction L with
 | nil => intro acc x h; exact .inl h
 | cons t L ih =>
   intro acc x h
   rcases ih _ x h with h | h
   · rcases (putT_memG lt acc t x).1 h with h | h
     · exact .inr (by simp [h])
     · exact .inl h
   · exact .inr (List.mem_cons_of_mem _ h)
theorem fold_len {α : Type} [DecidableEq α] (lt : α → α → Bool) (L : List α) : ∀ (acc : List α), (L.foldl (putT lt) acc).length ≤ acc.length + L.length := by
 induction L with
 | nil => intro acc; exact Nat.le_refl _
 | cons t L ih =>
   intro acc
   have h1 := ih (putT lt acc t)
   have h2 := putT_len lt acc t
   simp only [List.foldl_cons, List.length_cons]
   omega
def SmallR (r : RS S32) : Prop := (∀ o ∈ r.holds, SmallT o.1) ∧ ∀ o ∈ r.waits, SmallT o.1
def thAt (r : RS S32) (x : Int) (i : Nat) : List S32 := (((r.holds.take i).filter fun o => o.2.1 == x).map (·.1)).foldl (putT ltTB) []
section
variable {r : RS S32} {x : Int} {i : Nat} {o : S32 × One}
theorem thAt_end (h : r.holds.length ≤ i) : thAt r x i = rthings r x := by
 unfold thAt rthings
 rw [List.take_of_length_le h]
theorem thAt_on (h : r.holds[i]? = some o) (hx : (o.2.1 == x) = true) : thAt r x (i + 1) = putT ltTB (thAt r x i) o.1 := by
 unfold thAt
 rw [List.take_add_one, h, Option.toList_some, List.filter_append, List.map_append, List.foldl_append, List.filter_cons, if_pos hx]
 rfl
theorem thAt_off (h : r.holds[i]? = some o) (hx : (o.2.1 == x) = false) : thAt r x (i + 1) = thAt r x i := by
 unfold thAt
 rw [List.take_add_one, h, Option.toList_some, List.filter_append, List.map_append, List.foldl_append, List.filter_cons, if_neg (by rw [hx]; simp)]
 rfl
theorem thAt_len : (thAt r x i).length ≤ r.holds.length := by
 unfold thAt
 refine Nat.le_trans (fold_len _ _ _) ?_
 rw [List.length_nil, Nat.zero_add, List.length_map]
 exact Nat.le_trans (List.length_filter_le _ _) (List.length_take_le' _ _)
theorem thAt_small (h : SmallR r) : ∀ y ∈ thAt r x i, SmallT y := by
 intro y hy
 unfold thAt at hy
 rcases fold_mem _ _ _ _ hy with hy | hy
 · cases hy
 · obtain ⟨o, ho, rfl⟩ := List.mem_map.1 hy
   exact h.1 o (List.mem_of_mem_take (List.mem_filter.1 ho).1)
theorem rthings_len : (rthings r x).length ≤ r.holds.length := by
 have h := thAt_len (r := r) (x := x) (i := r.holds.length)
 rwa [thAt_end (Nat.le_refl _)] at h
theorem rthings_small (h : SmallR r) : ∀ y ∈ rthings r x, SmallT y := by
 have h := thAt_small (x := x) (i := r.holds.length) h
 rwa [thAt_end (Nat.le_refl _)] at h
end
section
variable {w0 w w' : World} {F : Nat → Prop} {rp : Nat} {r : RS S32} {R R' : List Chunk}
theorem RQ.put {A : Option Addr} {n c : Nat} {l : List S32} (h : RQ w0 F rp r (rowTC (.slice A n c) l :: R) w) (hln : l.length = n) (t : S32) (ht : SmallT t) (hl : ∀ y ∈ l, SmallT y) (hn : n < 100000) :
   Calls Tryz.prog 52 #[.slice A n c, thgV t] w fun E w' => ∃ A' c', E = .returned (.slice A' (putT ltTB l t).length c') ∧ RQ w0 F rp r (rowTC (.slice A' (putT ltTB l t).length c') (putT ltTB l t) :: R) w' := by
 obtain ⟨Ah, ch, Aw, cw, h⟩ := h
 refine (qput_calls ((show St w0 F w ([_, _, _] ++ _ :: R) from h).perm List.perm_middle) hln t ht hl hn).mono ?_
 rintro E w' ⟨A', c', rfl, h'⟩
 exact ⟨A', c', rfl, Ah, ch, Aw, cw, (show St w0 F w' (_ :: ([_, _, _] ++ R)) from h').perm List.perm_middle.symm⟩
theorem RQ.rowT (h : RQ w0 F rp r R w) : RQ w0 F rp r (rowTC (.slice (some ⟨w.heap.size, 0, none⟩) 0 0) [] :: R) (w.alloc (.cells #[] 32)) :=
 h.more (c := rowTC (.slice (some ⟨w.heap.size, 0, none⟩) 0 0) []) ((Below.refl _ w).alloc (Nat.le_refl _) (.cells #[] 32)) (RowX.empty w) (nd_bl (.slice (some ⟨w.heap.size, 0, none⟩) 0 0)) (fun b hb => by
   have hb : b ∈ bl (.slice (some ⟨w.heap.size, 0, none⟩) 0 0) := hb
   rw [bl_slice] at hb
   simp at hb
   omega)
theorem RQ.rowI (h : RQ w0 F rp r R w) : RQ w0 F rp r (rowIC (.slice (some ⟨w.heap.size, 0, none⟩) 0 0) [] :: R) (w.alloc (.cells #[] 3)) :=
 h.more (c := rowIC (.slice (some ⟨w.heap.size, 0, none⟩) 0 0) []) ((Below.refl _ w).alloc (Nat.le_refl _) (.cells #[] 3)) (RowX.empty w) (nd_bl (.slice (some ⟨w.heap.size, 0, none⟩) 0 0)) (fun b hb => by
   have hb : b ∈ bl (.slice (some ⟨w.heap.size, 0, none⟩) 0 0) := hb
   rw [bl_slice] at hb
   simp at hb
   omega)
set_option maxHeartbeats 8000000 in
theorem qthings_calls (h : RQ w0 F rp r R w) (x : Int) (hn : r.holds.length < 90000) (hs : SmallR r) :
   Calls Tryz.prog 24 #[.pointer (some ⟨rp, 0, none⟩), .int .i64 x] w fun E w' => ∃ A c, E = .returned (.slice A (rthings r x).length c) ∧ RQ w0 F rp r (rowTC (.slice A (rthings r x).length c) (rthings r x) :: R) w' := by
 obtain ⟨Q, hQ⟩ : ∃ Q, (fun E w' => ∃ A c, E = Ending.returned (.slice A (rthings r x).length c) ∧ RQ w0 F rp r (rowTC (.slice A (rthings r x).length c) (rthings r x) :: R) w') = Q := ⟨_, rfl⟩
 have HQ := Aside0.mk hQ
 rw [hQ]
 clear hQ
 have hu30 := Tryz.underlying30
 have hu28 := Tryz.underlying28
 have hu77 := Tryz.underlying77
 have hu75 := Tryz.underlying75
 have hu32 := Tryz.underlying32
 have hu49 := Tryz.underlying49
 have hz77 := Tryz.sizeOf77
 have hz32 := Tryz.sizeOf32
 obtain ⟨n, hnn⟩ : ∃ n, r.holds.length = n := ⟨_, rfl⟩
 have HNN := Aside0.mk hnn
 have HN := Aside0.mk hn
 have HSM := Aside0.mk hs
 have HS := Aside0.mk h.rowT
 clear h hn hnn hs
 go_enter Tryz.func24, Tryz.ntmps24
 go_wp2
 go_loopg [5, 6] n (fun gq v5 v6 wx => ∃ (i na c : Nat) (A : Option Addr), v6 = .int .i64 i ∧ v5 = .slice A na c ∧ i + gq = n ∧ Aside0 ((thAt r x i).length = na) ∧ Aside0 (RQ w0 F rp r (rowTC (.slice A na c) (thAt r x i) :: R) wx))
 case atStart => exact ⟨0, 0, 0, _, rfl, rfl, by omega, Aside0.mk rfl, HS⟩
 case round =>
   clear HS
   obtain ⟨i, na, c, A, rfl, rfl, hi, HNA, HS⟩ := hrel
   cases gk with
   | zero =>
     obtain ⟨Ah, ch, c0, pl⟩ := HS.out.openy HNN.out
     obtain rfl : i = n := by omega
     have hin : ¬ (i : Int) < (i : Int) := by omega
     go_wp2
     rw [← HQ.out]
     have e := thAt_end (r := r) (x := x) (i := i) (by rw [HNN.out]; exact Nat.le_refl _)
     rw [e] at HNA HS
     refine ⟨A, c, ?_, ?_⟩
     · rw [HNA.out]
     · rw [HNA.out]
       exact HS.out
   | succ gq =>
     have hin : (i : Int) < (n : Int) := by omega
     have hi0 : (0 : Int) ≤ (i : Int) := by omega
     have hi9 : (i : Int) ≤ 1000000 := by have := HN.out; have := HNN.out; omega
     obtain ⟨o, ho⟩ : ∃ o, r.holds[i]? = some o := ⟨_, List.getElem?_eq_getElem (by rw [HNN.out]; omega)⟩
     obtain ⟨g, cw, c0, pl, gl, d0, d1, d2, d3, d4, d5⟩ := HS.out.openh HNN.out ho
     have HO := Aside0.mk ho
     clear ho
     cases hx : (o.2.1 == x) with
     | false =>
       go_wp2
       go_roundg gq
       case measure => omega
       case rel => exact ⟨i + 1, na, c, A, by go_num, rfl, by omega, Aside0.mk (by rw [thAt_off HO.out hx]; exact HNA.out), Aside0.mk (by rw [thAt_off HO.out hx]; exact HS.out)⟩
     | true =>
       have PUT := Aside0.mk (fun W (h : RQ w0 F rp r (rowTC (.slice A na c) (thAt r x i) :: R) W) => h.put HNA.out o.1 (HSM.out.1 o (List.mem_of_getElem? HO.out)) (thAt_small HSM.out) (by have h1 := thAt_len (r := r) (x := x) (i := i); have h2 := HN.out; have h3 := HNA.out; omega))
       unfold thgV at PUT
       go_wp2_with (go_at_call 52; refine (PUT.out _ HS.out).mono ?_; rintro E w5 ⟨A5, c5, rfl, hs5⟩; have HS5 := Aside0.mk hs5; clear hs5 HS c0 pl gl d0 d1 d2 d3 d4 d5)
       go_roundg gq
       case measure => omega
       case rel => exact ⟨i + 1, _, c5, A5, by go_num, rfl, by omega, Aside0.mk (by rw [thAt_on HO.out hx]), Aside0.mk (by rw [thAt_on HO.out hx]; exact HS5.out)⟩
end
end Go.Proofs.Kb
end
section
namespace Go.Proofs.Kb
open Go Go.RowKit Go.Proofs.YtkcjcdkmdooofaaGreat.Q Go.Proofs.YtkcjcdkmdooofaaGreatW.PrintWords Go.Proofs.YtkcjcdkmdooofaaGreatW.PrintLast Go.Proofs.YtkcjcdkmdooofaaGreatW.PrintMore
set_option maxRecDepth 100000
open Go.Proofs.Lk Go.Proofs.Mp
attribute [local go_sem high] eqT
def blH (r : RS S32) (x : Int) (q : S32 × One) (i : Nat) : List Int := (((r.holds.take i).filter (canH x q.1 q.2.2)).map (·.2.1)).foldl (putT ltIB) []
def blW (r : RS S32) (x : Int) (q : S32 × One) (j : Nat) : List Int := (((r.waits.take j).filter (canW q.1 q.2.2)).map (·.2.1)).foldl (putT ltIB) (blH r x q r.holds.length)
section
variable {r : RS S32} {x : Int} {q o : S32 × One} {i j : Nat}
theorem blH_on (h : r.holds[i]? = some o) (hc : canH x q.1 q.2.2 o = true) : blH r x q (i + 1) = putT ltIB (blH r x q i) o.2.1 := by
 unfold blH
 rw [List.take_add_one, h, Option.toList_some, List.filter_append, List.map_append, List.foldl_append, List.filter_cons, if_pos hc]
 rfl
theorem blH_off (h : r.holds[i]? = some o) (hc : canH x q.1 q.2.2 o = false) : blH r x q (i + 1) = blH r x q i := by
 unfold blH
 rw [List.take_add_one, h, Option.toList_some, List.filter_append, List.map_append, List.foldl_append, List.filter_cons, if_neg (by rw [hc]; simp)]
 rfl
theorem blW_zero : blW r x q 0 = blH r x q r.holds.length := rfl
theorem blW_on (h : r.waits[j]? = some o) (hc : canW q.1 q.2.2 o = true) : blW r x q (j + 1) = putT ltIB (blW r x q j) o.2.1 := by
 unfold blW
 rw [List.take_add_one, h, Option.toList_some, List.filter_append, List.map_append, List.foldl_append, List.filter_cons, if_pos hc]
 rfl
theorem blW_off (h : r.waits[j]? = some o) (hc : canW q.1 q.2.2 o = false) : blW r x q (j + 1) = blW r x q j := by
 unfold blW
 rw [List.take_add_one, h, Option.toList_some, List.filter_append, List.map_append, List.foldl_append, List.filter_cons, if_neg (by rw [hc]; simp)]
 rfl
theorem blH_len : (blH r x q i).length ≤ r.holds.length := by
 unfold blH
 refine Nat.le_trans (fold_len _ _ _) ?_
 rw [List.length_nil, Nat.zero_add, List.length_map]
 exact Nat.le_trans (List.length_filter_le _ _) (List.length_take_le' _ _)
theorem blW_len : (blW r x q j).length ≤ r.holds.length + r.waits.length := by
 unfold blW
 refine Nat.le_trans (fold_len _ _ _) ?_
 have h1 := blH_len (r := r) (x := x) (q := q) (i := r.holds.length)
 have h2 := Nat.le_trans (List.length_filter_le (canW q.1 q.2.2) (r.waits.take j)) (List.length_take_le' _ _)
 rw [List.length_map]
 omega
theorem takeWhile_take {β : Type} {p : β → Bool} : ∀ {l : List β} {j : Nat}, (∀ o ∈ l.take j, p o = true) → (∀ o, l[j]? = some o → p o = false) → l.takeWhile p = l.take j
 | [], j, _, _ => by simp
 | y :: l, 0, _, h => by
   rw [List.takeWhile_cons, if_neg (by rw [h y rfl]; simp)]
   rfl
 | y :: l, j + 1, h1, h2 => by
   rw [List.take_succ_cons] at h1 ⊢
   rw [List.takeWhile_cons, if_pos (h1 y List.mem_cons_self), takeWhile_take (fun o ho => h1 o (List.mem_cons_of_mem _ ho)) (fun o ho => h2 o (by simpa using ho))]
theorem blW_end (hw : rwait r x = some q) (h1 : ∀ o ∈ r.waits.take j, (o.2.1 != x) = true) (h2 : ∀ o, r.waits[j]? = some o → (o.2.1 != x) = false) : rblock r x = blW r x q j := by
 unfold rblock blW blH
 rw [hw, List.take_length]
 dsimp only
 rw [takeWhile_take h1 h2, List.map_append, List.foldl_append]
 rfl
theorem wait_snoc (h : r.waits[j]? = some o) (h1 : ∀ o ∈ r.waits.take j, (o.2.1 != x) = true) (ho : (o.2.1 != x) = true) : ∀ o ∈ r.waits.take (j + 1), (o.2.1 != x) = true := by
 intro y hy
 rw [List.take_add_one, h] at hy
 simp only [Option.toList_some, List.mem_append, List.mem_singleton] at hy
 rcases hy with hy | rfl
 · exact h1 y hy
 · exact ho
end
section
variable {w0 w w' : World} {F : Nat → Prop} {rp : Nat} {r : RS S32} {R R' : List Chunk}
theorem St.wrap5 {a b c d e : Chunk} (h : St w0 F w (a :: b :: c :: d :: e :: R)) : St w0 F w (c :: d :: e :: a :: R) :=
 St.drop (A := [_]) ((show St w0 F w ([a, b, c, d, e] ++ R) from h).perm (B := [b, c, d, e, a] ++ R) ((perm_ix _ [1, 2, 3, 4, 0] 5 rfl (by decide)).append_right R))
theorem St.unwrap5 {a b c d e : Chunk} (h : St w0 F w (c :: d :: e :: b :: a :: R)) : St w0 F w (a :: b :: c :: d :: e :: R) :=
 (show St w0 F w ([c, d, e, b, a] ++ R) from h).perm (B := [a, b, c, d, e] ++ R) ((perm_ix _ [4, 3, 0, 1, 2] 5 rfl (by decide)).append_right R)
set_option maxHeartbeats 32000000 in
theorem qblockers_calls (h : RQ w0 F rp r R w) (x : Int) (hn : r.holds.length + r.waits.length < 90000) :
   Calls Tryz.prog 20 #[.pointer (some ⟨rp, 0, none⟩), .int .i64 x] w fun E w' => ∃ A n c, E = .returned (.slice A n c) ∧ RQ w0 F rp r (rowIC (.slice A n c) (rblock r x) :: R) w' := by
 obtain ⟨Q, hQ⟩ : ∃ Q, (fun E w' => ∃ A n c, E = Ending.returned (.slice A n c) ∧ RQ w0 F rp r (rowIC (.slice A n c) (rblock r x) :: R) w') = Q := ⟨_, rfl⟩
 have HQ := Aside0.mk hQ
 rw [hQ]
 clear hQ
 have hu30 := Tryz.underlying30
 have hu28 := Tryz.underlying28
 have hu77 := Tryz.underlying77
 have hu75 := Tryz.underlying75
 have hu32 := Tryz.underlying32
 have hu34 := Tryz.underlying34
 have hu41 := Tryz.underlying41
 have hu43 := Tryz.underlying43
 have hz77 := Tryz.sizeOf77
 have hz32 := Tryz.sizeOf32
 have hz34 := Tryz.sizeOf34
 have hz75 := Tryz.sizeOf75
 have HN := Aside0.mk hn
 have HS0 := Aside0.mk h.rowI
 obtain ⟨b0, hb0⟩ : ∃ b, w.heap.size = b := ⟨_, rfl⟩
 rw [hb0] at HS0
 have WAIT := Aside0.mk (fun W (h : RQ w0 F rp r (rowIC (.slice (some ⟨b0, 0, none⟩) 0 0) [] :: R) W) => qwaiting_calls h x (by have := HN.out; omega))
 unfold rwaitV at WAIT
 cases hw : rwait r x with
 | none =>
   rw [hw] at WAIT
   simp only [Option.isSome_none] at WAIT
   have HB : Aside0 (rblock r x = []) := Aside0.mk (by unfold rblock; rw [hw])
   clear h hn hw
   go_enter Tryz.func20, Tryz.ntmps20
   go_wp2_with (go_at_call 15; refine (WAIT.out _ HS0.out).mono ?_; rintro E w2 ⟨rfl, hs2⟩; have HS2 := Aside0.mk (RQ.drop1 (hs2.alloc #[.int .i64 0, .string ⟨#[]⟩, .string ⟨#[]⟩, .int .i64 0] 34 rfl)); clear hs2 HS0)
   rw [← HQ.out]
   refine ⟨_, _, _, rfl, ?_⟩
   rw [HB.out]
   exact HS2.out
 | some q =>
   rw [hw] at WAIT
   simp only [Option.isSome_some] at WAIT
   unfold wantV at WAIT
   have HW := Aside0.mk hw
   clear h hn hw
   obtain ⟨nh, hnh⟩ : ∃ n, r.holds.length = n := ⟨_, rfl⟩
   obtain ⟨nw, hnw⟩ : ∃ n, r.waits.length = n := ⟨_, rfl⟩
   have HNH := Aside0.mk hnh
   have HNW := Aside0.mk hnw
   clear hnh hnw
   go_enter Tryz.func20, Tryz.ntmps20
   go_wp2_with (go_at_call 15; refine (WAIT.out _ HS0.out).mono ?_; rintro E w2 ⟨rfl, hs2⟩; have hs3 := hs2.alloc #[.int .i64 q.1.f0, .string q.1.f1, .string q.1.f2, .int .i64 q.2.2] 34 rfl; obtain ⟨A9, c9, c0, pl⟩ := hs3.openy HNH.out; have HS2 := Aside0.mk hs3; clear hs2 hs3 HS0)
   clear c0 pl
   obtain ⟨n6, hn6⟩ : ∃ n, w2.heap.size = n := ⟨_, rfl⟩
   rw [hn6] at HS2 ⊢
   obtain ⟨Ah, ch, Aw, cw, hs_⟩ := HS2.out
   rw [HNH.out, HNW.out] at hs_
   have HSA := Aside0.mk (St.unwrap5 hs_)
   clear HS2 hs_
   go_loopg [5, 8] nh (fun gq v5 v8 wx => ∃ (i na c : Nat) (A : Option Addr), v8 = .int .i64 i ∧ v5 = .slice A na c ∧ i + gq = nh ∧ Aside0 ((blH r x q i).length = na) ∧ Aside0 (St w0 F wx (rowIC (.slice A na c) (blH r x q i) :: blkC n6 (.cells #[.int .i64 q.1.f0, .string q.1.f1, .string q.1.f2, .int .i64 q.2.2] 34 (0, 0)) :: blkC rp (.cells #[.slice Ah nh ch, .slice Aw nw cw] 30 (0, 0)) :: rowXC qE (.slice Ah nh ch) (r.holds.map (qv false)) :: rowXC qE (.slice Aw nw cw) (r.waits.map (qv true)) :: R)))
   case atStart => exact ⟨0, 0, 0, _, rfl, rfl, by omega, Aside0.mk rfl, HSA⟩
   case round =>
     clear HSA hn6
     obtain ⟨i, na, c, A, rfl, rfl, hi, HNA, HS⟩ := hrel
     have c0 : wr.cell? ⟨rp, 0, none⟩ = some (.slice Ah nh ch) := (blk_cell (HS.out.blk 2 rfl) 0).trans rfl
     have pl := lt_of_some (HS.out.blk 2 rfl)
     cases gk with
     | zero =>
       obtain rfl : i = nh := by omega
       have hin : ¬ (i : Int) < (i : Int) := by omega
       have e : blH r x q i = blW r x q 0 := by rw [blW_zero, HNH.out]
       rw [e] at HS HNA
       have HSB := HS
       have HNB := HNA
       clear HS HNA e
       go_wp2
       clear c0 pl
       go_loopg [5, 9] nw (fun gq v5 v9 wx => ∃ (j na c : Nat) (A : Option Addr), v9 = .int .i64 j ∧ v5 = .slice A na c ∧ j + gq = nw ∧ Aside0 ((blW r x q j).length = na) ∧ Aside0 (∀ o ∈ r.waits.take j, (o.2.1 != x) = true) ∧ Aside0 (St w0 F wx (rowIC (.slice A na c) (blW r x q j) :: blkC n6 (.cells #[.int .i64 q.1.f0, .string q.1.f1, .string q.1.f2, .int .i64 q.2.2] 34 (0, 0)) :: blkC rp (.cells #[.slice Ah i ch, .slice Aw nw cw] 30 (0, 0)) :: rowXC qE (.slice Ah i ch) (r.holds.map (qv false)) :: rowXC qE (.slice Aw nw cw) (r.waits.map (qv true)) :: R)))
       case atStart => exact ⟨0, na, c, A, rfl, rfl, by omega, HNB, Aside0.mk (by simp), HSB⟩
       case round =>
         clear HSB HNB
         obtain ⟨j, na, c, A, rfl, rfl, hj, HNA, HF, HS⟩ := hrel
         have c0 : wr.cell? ⟨rp, 1, none⟩ = some (.slice Aw nw cw) := (blk_cell (HS.out.blk 2 rfl) 1).trans rfl
         have pl := lt_of_some (HS.out.blk 2 rfl)
         cases gk with
         | zero =>
           obtain rfl : j = nw := by omega
           have hjn : ¬ (j : Int) < (j : Int) := by omega
           go_wp2
           rw [← HQ.out]
           refine ⟨A, na, c, rfl, ?_⟩
           rw [blW_end HW.out HF.out (fun o ho => by rw [List.getElem?_eq_none (by rw [HNW.out]; exact Nat.le_refl _)] at ho; cases ho)]
           exact RQ.mk' (r := r) (Ah := Ah) (nh := i) (ch := ch) (Aw := Aw) (nw := j) (cw := cw) (St.wrap5 HS.out)
         | succ gq =>
           have hjn : (j : Int) < (nw : Int) := by omega
           have hj0 : (0 : Int) ≤ (j : Int) := by omega
           have hj9 : (j : Int) ≤ 1000000 := by have := HN.out; have := HNW.out; omega
           obtain ⟨o, ho⟩ : ∃ o, r.waits[j]? = some o := ⟨_, List.getElem?_eq_getElem (by rw [HNW.out]; omega)⟩
           obtain ⟨g1, c1, hv, _⟩ := row_slice (n := (r.waits.map (qv true)).length) (HS.out.rowX 4 rfl) (by rw [List.length_map, HNW.out]; omega)
           obtain ⟨rfl, rfl⟩ : Aw = some ⟨g1, 0, none⟩ ∧ cw = c1 := by
             injection hv with e1 e2 e3
             exact ⟨e1, e3⟩
           have HO := Aside0.mk ho
           clear hv ho
           obtain ⟨d0, d1, d2, d3, d4, d5⟩ := (HS.out.rowX 4 rfl).q HO.out
           cases hx : (o.2.1 == x) with
           | true =>
             have hx2 : (o.2.1 != x) = false := by unfold bne; rw [hx]; rfl
             go_wp2
             rw [← HQ.out]
             refine ⟨A, na, c, rfl, ?_⟩
             rw [blW_end HW.out HF.out (fun o' ho => by rw [HO.out] at ho; injection ho with ho; rw [← ho]; exact hx2)]
             exact RQ.mk' (r := r) (Ah := Ah) (nh := i) (ch := ch) (Aw := some ⟨g1, 0, none⟩) (nw := nw) (cw := cw) (St.wrap5 HS.out)
           | false =>
             have hx2 : (o.2.1 != x) = true := by unfold bne; rw [hx]; rfl
             go_wp2
             clear d0 d1 d2 d3 d4 d5
             have HF2 := Aside0.mk (wait_snoc HO.out HF.out hx2)
             cases he : eqD ⟨o.1.f0, o.1.f1, o.1.f2⟩ ⟨q.1.f0, q.1.f1, q.1.f2⟩ with
             | false =>
               refine start_ (n := 25) (S := fun w' => w'.cell? ⟨rp, 1, none⟩ = some (.slice (some ⟨g1, 0, none⟩) nw cw) ∧ w'.cell? ⟨g1, j * 6, none⟩ = some (.int .i64 o.1.f0) ∧ w'.cell? ⟨g1, j * 6 + 1, none⟩ = some (.string o.1.f1) ∧ w'.cell? ⟨g1, j * 6 + 2, none⟩ = some (.string o.1.f2) ∧ w'.cell? ⟨g1, j * 6 + 3, none⟩ = some (.int .i64 o.2.1) ∧ w'.cell? ⟨g1, j * 6 + 4, none⟩ = some (.int .i64 o.2.2) ∧ w'.cell? ⟨n6, 0, none⟩ = some (.int .i64 q.1.f0) ∧ w'.cell? ⟨n6, 1, none⟩ = some (.string q.1.f1) ∧ w'.cell? ⟨n6, 2, none⟩ = some (.string q.1.f2) ∧ w'.cell? ⟨n6, 3, none⟩ = some (.int .i64 q.2.2)) (ds := []) #[false, false, false, false, false, false, false, false, false, false, false, false, false, false, false, false, false, false, false, false, false, false, false, false, false] (by kernel_rfl) rfl rfl ⟨(blk_cell (HS.out.blk 2 rfl) 1).trans rfl, ((HS.out.rowX 4 rfl).q HO.out).1, ((HS.out.rowX 4 rfl).q HO.out).2.1, ((HS.out.rowX 4 rfl).q HO.out).2.2.1, ((HS.out.rowX 4 rfl).q HO.out).2.2.2.1, ((HS.out.rowX 4 rfl).q HO.out).2.2.2.2.1, (blk_cell (HS.out.blk 1 rfl) 0).trans rfl, (blk_cell (HS.out.blk 1 rfl) 1).trans rfl, (blk_cell (HS.out.blk 1 rfl) 2).trans rfl, (blk_cell (HS.out.blk 1 rfl) 3).trans rfl⟩ (fun hHeld => ?_)
               have HS51 := Aside0.mk (HS.out.drew)
               clear HS
               generalize wr.drew = wdW0 at HS51 hHeld  ⊢
               refine pu_ 0 100 (bs_ 25 1) ?_; refine pu_ 1 101 (bs_ 25 3) ?_; refine pu_ 2 102 (bs_ 25 7) ?_; refine pu_ 4 104 (bs_ 25 23) ?_; refine pu_ 8 108 (bs_ 25 279) ?_; refine ta_ 3 103 (bs_ 25 287) hHeld ?_; refine pu_ 5 105 (bs_ 25 319) ?_; refine pu_ 6 106 (bs_ 25 383) ?_; refine ta_ 7 107 (bs_ 25 511) hHeld ?_; refine ta_ 9 109 (bs_ 25 1023) hHeld ?_; refine pu_ 10 110 (bs_ 25 2047) ?_; refine pu_ 11 111 (bs_ 25 4095) ?_; refine pn_ 12 112 (bs_ 25 8191) ?_; refine pn_ 13 113 (bs_ 25 16383) ?_; refine pn_ 14 114 (bs_ 25 32767) ?_; refine pn_ 15 115 (bs_ 25 65535) ?_; refine pn_ 16 116 (bs_ 25 131071) ?_
               refine pn_ 17 117 (bs_ 25 262143) ?_; refine pn_ 18 118 (bs_ 25 524287) ?_; refine pn_ 19 119 (bs_ 25 1048575) ?_; refine pn_ 20 120 (bs_ 25 2097151) ?_; refine pn_ 21 121 (bs_ 25 4194303) ?_; refine pn_ 22 122 (bs_ 25 8388607) ?_
               refine one_ (i := 23) (N := (some 123)) (bs_ 25 16777215) rfl rfl (by kernel_rfl) (by decide) (fun K_ hK => ?_)
               refine no_ (by rfl) ?_
               refine hK.out _ _ hHeld (fun hHeld => ?_)
               clear hK K_
               refine norm_ (a' := ?_) ?_ ?_
               rotate_left
               · show Act.put _ (some 123) _ = _
                 simp only [Act.put, List.setIfInBounds_toArray, List.set_cons_zero, List.set_cons_succ, i64_w, i32_w]
                 rfl
               refine pu_ 24 124 (bs_ 25 33554431) ?_
               refine done_ (by kernel_rfl) ?_
               clear hHeld c0 pl
               go_wp2
               go_roundg gq
               case measure => omega
               case rel =>
                 have e := blW_off (x := x) (q := q) HO.out (by unfold canW; rw [eqD_dec] at he; rw [show decide (o.1 = q.1) = false from he]; rfl)
                 exact ⟨j + 1, na, c, A, by go_num, rfl, by omega, Aside0.mk (by rw [e]; exact HNA.out), HF2, Aside0.mk (by rw [e]; exact HS51.out)⟩
             | true =>
               have CF := Aside0.mk (fun W => rconf_calls W o.2.2 q.2.2)
               cases hc : conf o.2.2 q.2.2 with
               | false =>
                 rw [hc] at CF
                 refine start_ (n := 25) (S := fun w' => w'.cell? ⟨rp, 1, none⟩ = some (.slice (some ⟨g1, 0, none⟩) nw cw) ∧ w'.cell? ⟨g1, j * 6, none⟩ = some (.int .i64 o.1.f0) ∧ w'.cell? ⟨g1, j * 6 + 1, none⟩ = some (.string o.1.f1) ∧ w'.cell? ⟨g1, j * 6 + 2, none⟩ = some (.string o.1.f2) ∧ w'.cell? ⟨g1, j * 6 + 3, none⟩ = some (.int .i64 o.2.1) ∧ w'.cell? ⟨g1, j * 6 + 4, none⟩ = some (.int .i64 o.2.2) ∧ w'.cell? ⟨n6, 0, none⟩ = some (.int .i64 q.1.f0) ∧ w'.cell? ⟨n6, 1, none⟩ = some (.string q.1.f1) ∧ w'.cell? ⟨n6, 2, none⟩ = some (.string q.1.f2) ∧ w'.cell? ⟨n6, 3, none⟩ = some (.int .i64 q.2.2)) (ds := []) #[false, false, false, false, false, false, false, false, false, false, false, false, false, false, false, false, false, false, false, false, false, false, false, false, false] (by kernel_rfl) rfl rfl ⟨(blk_cell (HS.out.blk 2 rfl) 1).trans rfl, ((HS.out.rowX 4 rfl).q HO.out).1, ((HS.out.rowX 4 rfl).q HO.out).2.1, ((HS.out.rowX 4 rfl).q HO.out).2.2.1, ((HS.out.rowX 4 rfl).q HO.out).2.2.2.1, ((HS.out.rowX 4 rfl).q HO.out).2.2.2.2.1, (blk_cell (HS.out.blk 1 rfl) 0).trans rfl, (blk_cell (HS.out.blk 1 rfl) 1).trans rfl, (blk_cell (HS.out.blk 1 rfl) 2).trans rfl, (blk_cell (HS.out.blk 1 rfl) 3).trans rfl⟩ (fun hHeld => ?_)
                 have HS61 := Aside0.mk (HS.out.drew)
                 clear HS
                 generalize wr.drew = wdW1 at HS61 hHeld  ⊢
                 refine pu_ 0 100 (bs_ 25 1) ?_; refine pu_ 1 101 (bs_ 25 3) ?_; refine pu_ 2 102 (bs_ 25 7) ?_; refine pu_ 4 104 (bs_ 25 23) ?_; refine pu_ 8 108 (bs_ 25 279) ?_; refine ta_ 3 103 (bs_ 25 287) hHeld ?_; refine pu_ 5 105 (bs_ 25 319) ?_; refine pu_ 6 106 (bs_ 25 383) ?_; refine ta_ 7 107 (bs_ 25 511) hHeld ?_; refine ta_ 9 109 (bs_ 25 1023) hHeld ?_; refine pu_ 10 110 (bs_ 25 2047) ?_; refine pu_ 11 111 (bs_ 25 4095) ?_; refine pu_ 12 112 (bs_ 25 8191) ?_; refine pu_ 13 113 (bs_ 25 16383) ?_; refine pu_ 14 114 (bs_ 25 32767) ?_; refine pu_ 16 116 (bs_ 25 98303) ?_; refine pu_ 21 121 (bs_ 25 2195455) ?_
                 refine ta_ 15 115 (bs_ 25 2228223) hHeld ?_; refine pu_ 17 117 (bs_ 25 2359295) ?_; refine pu_ 18 118 (bs_ 25 2621439) ?_; refine pu_ 19 119 (bs_ 25 3145727) ?_; refine ta_ 20 120 (bs_ 25 4194303) hHeld ?_; refine ta_ 22 122 (bs_ 25 8388607) hHeld ?_
                 refine one_ (i := 23) (N := (some 123)) (bs_ 25 16777215) rfl rfl (by kernel_rfl) (by decide) (fun K_ hK => ?_)
                 refine goes_ Tryz.func53 (by kernel_rfl) rfl #[.int .i64 o.2.2, .int .i64 q.2.2] (by rfl) rfl rfl (by (try simp only [List.map_toArray, List.map_cons, List.map_nil]); first | done | rfl) ?_
                 refine (CF.out _).mono ?_
                 rintro E wc ⟨rfl, hb⟩
                 have HS62 := Aside0.mk (HS61.out.below hb)
                 clear HS61
                 clear hb
                 refine ⟨_, rfl, ?_⟩
                 clear hHeld
                 refine hK.out _ _ ⟨(blk_cell (HS62.out.blk 2 rfl) 1).trans rfl, ((HS62.out.rowX 4 rfl).q HO.out).1, ((HS62.out.rowX 4 rfl).q HO.out).2.1, ((HS62.out.rowX 4 rfl).q HO.out).2.2.1, ((HS62.out.rowX 4 rfl).q HO.out).2.2.2.1, ((HS62.out.rowX 4 rfl).q HO.out).2.2.2.2.1, (blk_cell (HS62.out.blk 1 rfl) 0).trans rfl, (blk_cell (HS62.out.blk 1 rfl) 1).trans rfl, (blk_cell (HS62.out.blk 1 rfl) 2).trans rfl, (blk_cell (HS62.out.blk 1 rfl) 3).trans rfl⟩ (fun hHeld => ?_)
                 clear hK K_
                 refine norm_ (a' := ?_) ?_ ?_
                 rotate_left
                 · show Act.put _ (some 123) _ = _
                   simp only [Act.put, List.setIfInBounds_toArray, List.set_cons_zero, List.set_cons_succ, i64_w, i32_w]
                   rfl
                 refine pu_ 24 124 (bs_ 25 33554431) ?_
                 refine done_ (by kernel_rfl) ?_
                 clear hHeld c0 pl
                 go_wp2
                 go_roundg gq
                 case measure => omega
                 case rel =>
                   have e := blW_off (x := x) (q := q) HO.out (by unfold canW; rw [hc, Bool.and_false])
                   exact ⟨j + 1, na, c, A, by go_num, rfl, by omega, Aside0.mk (by rw [e]; exact HNA.out), HF2, Aside0.mk (by rw [e]; exact HS62.out)⟩
               | true =>
                 rw [hc] at CF
                 refine start_ (n := 25) (S := fun w' => w'.cell? ⟨rp, 1, none⟩ = some (.slice (some ⟨g1, 0, none⟩) nw cw) ∧ w'.cell? ⟨g1, j * 6, none⟩ = some (.int .i64 o.1.f0) ∧ w'.cell? ⟨g1, j * 6 + 1, none⟩ = some (.string o.1.f1) ∧ w'.cell? ⟨g1, j * 6 + 2, none⟩ = some (.string o.1.f2) ∧ w'.cell? ⟨g1, j * 6 + 3, none⟩ = some (.int .i64 o.2.1) ∧ w'.cell? ⟨g1, j * 6 + 4, none⟩ = some (.int .i64 o.2.2) ∧ w'.cell? ⟨n6, 0, none⟩ = some (.int .i64 q.1.f0) ∧ w'.cell? ⟨n6, 1, none⟩ = some (.string q.1.f1) ∧ w'.cell? ⟨n6, 2, none⟩ = some (.string q.1.f2) ∧ w'.cell? ⟨n6, 3, none⟩ = some (.int .i64 q.2.2)) (ds := []) #[false, false, false, false, false, false, false, false, false, false, false, false, false, false, false, false, false, false, false, false, false, false, false, false, false] (by kernel_rfl) rfl rfl ⟨(blk_cell (HS.out.blk 2 rfl) 1).trans rfl, ((HS.out.rowX 4 rfl).q HO.out).1, ((HS.out.rowX 4 rfl).q HO.out).2.1, ((HS.out.rowX 4 rfl).q HO.out).2.2.1, ((HS.out.rowX 4 rfl).q HO.out).2.2.2.1, ((HS.out.rowX 4 rfl).q HO.out).2.2.2.2.1, (blk_cell (HS.out.blk 1 rfl) 0).trans rfl, (blk_cell (HS.out.blk 1 rfl) 1).trans rfl, (blk_cell (HS.out.blk 1 rfl) 2).trans rfl, (blk_cell (HS.out.blk 1 rfl) 3).trans rfl⟩ (fun hHeld => ?_)
                 have HS71 := Aside0.mk (HS.out.drew)
                 clear HS
                 generalize wr.drew = wdW2 at HS71 hHeld  ⊢
                 refine pu_ 0 100 (bs_ 25 1) ?_; refine pu_ 1 101 (bs_ 25 3) ?_; refine pu_ 2 102 (bs_ 25 7) ?_; refine pu_ 4 104 (bs_ 25 23) ?_; refine pu_ 8 108 (bs_ 25 279) ?_; refine ta_ 3 103 (bs_ 25 287) hHeld ?_; refine pu_ 5 105 (bs_ 25 319) ?_; refine pu_ 6 106 (bs_ 25 383) ?_; refine ta_ 7 107 (bs_ 25 511) hHeld ?_; refine ta_ 9 109 (bs_ 25 1023) hHeld ?_; refine pu_ 10 110 (bs_ 25 2047) ?_; refine pu_ 11 111 (bs_ 25 4095) ?_; refine pu_ 12 112 (bs_ 25 8191) ?_; refine pu_ 13 113 (bs_ 25 16383) ?_; refine pu_ 14 114 (bs_ 25 32767) ?_; refine pu_ 16 116 (bs_ 25 98303) ?_; refine pu_ 21 121 (bs_ 25 2195455) ?_
                 refine ta_ 15 115 (bs_ 25 2228223) hHeld ?_; refine pu_ 17 117 (bs_ 25 2359295) ?_; refine pu_ 18 118 (bs_ 25 2621439) ?_; refine pu_ 19 119 (bs_ 25 3145727) ?_; refine ta_ 20 120 (bs_ 25 4194303) hHeld ?_; refine ta_ 22 122 (bs_ 25 8388607) hHeld ?_
                 refine one_ (i := 23) (N := (some 123)) (bs_ 25 16777215) rfl rfl (by kernel_rfl) (by decide) (fun K_ hK => ?_)
                 refine goes_ Tryz.func53 (by kernel_rfl) rfl #[.int .i64 o.2.2, .int .i64 q.2.2] (by rfl) rfl rfl (by (try simp only [List.map_toArray, List.map_cons, List.map_nil]); first | done | rfl) ?_
                 refine (CF.out _).mono ?_
                 rintro E wc ⟨rfl, hb⟩
                 have HS72 := Aside0.mk (HS71.out.below hb)
                 clear HS71
                 clear hb
                 refine ⟨_, rfl, ?_⟩
                 clear hHeld
                 refine hK.out _ _ ⟨(blk_cell (HS72.out.blk 2 rfl) 1).trans rfl, ((HS72.out.rowX 4 rfl).q HO.out).1, ((HS72.out.rowX 4 rfl).q HO.out).2.1, ((HS72.out.rowX 4 rfl).q HO.out).2.2.1, ((HS72.out.rowX 4 rfl).q HO.out).2.2.2.1, ((HS72.out.rowX 4 rfl).q HO.out).2.2.2.2.1, (blk_cell (HS72.out.blk 1 rfl) 0).trans rfl, (blk_cell (HS72.out.blk 1 rfl) 1).trans rfl, (blk_cell (HS72.out.blk 1 rfl) 2).trans rfl, (blk_cell (HS72.out.blk 1 rfl) 3).trans rfl⟩ (fun hHeld => ?_)
                 clear hK K_
                 refine norm_ (a' := ?_) ?_ ?_
                 rotate_left
                 · show Act.put _ (some 123) _ = _
                   simp only [Act.put, List.setIfInBounds_toArray, List.set_cons_zero, List.set_cons_succ, i64_w, i32_w]
                   rfl
                 refine pu_ 24 124 (bs_ 25 33554431) ?_
                 refine done_ (by kernel_rfl) ?_
                 clear hHeld c0 pl
                 have c0 : wc.cell? ⟨rp, 1, none⟩ = some (.slice (some ⟨g1, 0, none⟩) nw cw) := (blk_cell (HS72.out.blk 2 rfl) 1).trans rfl
                 have pl := lt_of_some (HS72.out.blk 2 rfl)
                 obtain ⟨d0, d1, d2, d3, d4, d5⟩ := (HS72.out.rowX 4 rfl).q HO.out
                 have NUM := Aside0.mk (fun W (h : St w0 F W (rowIC (.slice A na c) (blW r x q j) :: blkC n6 (.cells #[.int .i64 q.1.f0, .string q.1.f1, .string q.1.f2, .int .i64 q.2.2] 34 (0, 0)) :: blkC rp (.cells #[.slice Ah i ch, .slice (some ⟨g1, 0, none⟩) nw cw] 30 (0, 0)) :: rowXC qE (.slice Ah i ch) (r.holds.map (qv false)) :: rowXC qE (.slice (some ⟨g1, 0, none⟩) nw cw) (r.waits.map (qv true)) :: R)) => qnumber_calls h HNA.out o.2.1 (by have h1 := blW_len (r := r) (x := x) (q := q) (j := j); have h2 := HN.out; have h3 := HNA.out; omega))
                 go_wp2_with (go_at_call 54; refine (NUM.out _ HS72.out).mono ?_; rintro E w5 ⟨A5, c5, rfl, hs5⟩; have HS5 := Aside0.mk hs5; clear hs5 HS72 c0 pl d0 d1 d2 d3 d4 d5)
                 go_roundg gq
                 case measure => omega
                 case rel =>
                   have e := blW_on (x := x) (q := q) HO.out (by unfold canW; rw [hc, Bool.and_true]; rw [eqD_dec] at he; exact he)
                   exact ⟨j + 1, _, c5, A5, by go_num, rfl, by omega, Aside0.mk (by rw [e]), HF2, Aside0.mk (by rw [e]; exact HS5.out)⟩
     | succ gq =>
       have hin : (i : Int) < (nh : Int) := by omega
       have hi0 : (0 : Int) ≤ (i : Int) := by omega
       have hi9 : (i : Int) ≤ 1000000 := by have := HN.out; have := HNH.out; omega
       obtain ⟨o, ho⟩ : ∃ o, r.holds[i]? = some o := ⟨_, List.getElem?_eq_getElem (by rw [HNH.out]; omega)⟩
       obtain ⟨g1, c1, hv, _⟩ := row_slice (n := (r.holds.map (qv false)).length) (HS.out.rowX 3 rfl) (by rw [List.length_map, HNH.out]; omega)
       obtain ⟨rfl, rfl⟩ : Ah = some ⟨g1, 0, none⟩ ∧ ch = c1 := by
         injection hv with e1 e2 e3
         exact ⟨e1, e3⟩
       have HO := Aside0.mk ho
       clear hv ho
       go_wp2
       cases he : eqD ⟨o.1.f0, o.1.f1, o.1.f2⟩ ⟨q.1.f0, q.1.f1, q.1.f2⟩ with
       | false =>
         refine start_ (n := 38) (S := fun w' => w'.cell? ⟨rp, 0, none⟩ = some (.slice (some ⟨g1, 0, none⟩) nh ch) ∧ w'.cell? ⟨g1, i * 6, none⟩ = some (.int .i64 o.1.f0) ∧ w'.cell? ⟨g1, i * 6 + 1, none⟩ = some (.string o.1.f1) ∧ w'.cell? ⟨g1, i * 6 + 2, none⟩ = some (.string o.1.f2) ∧ w'.cell? ⟨g1, i * 6 + 3, none⟩ = some (.int .i64 o.2.1) ∧ w'.cell? ⟨g1, i * 6 + 4, none⟩ = some (.int .i64 o.2.2) ∧ w'.cell? ⟨n6, 0, none⟩ = some (.int .i64 q.1.f0) ∧ w'.cell? ⟨n6, 1, none⟩ = some (.string q.1.f1) ∧ w'.cell? ⟨n6, 2, none⟩ = some (.string q.1.f2) ∧ w'.cell? ⟨n6, 3, none⟩ = some (.int .i64 q.2.2)) (ds := []) #[false, false, false, false, false, false, false, false, false, false, false, false, false, false, false, false, false, false, false, false, false, false, false, false, false, false, false, false, false, false, false, false, false, false, false, false, false, false] (by kernel_rfl) rfl rfl ⟨(blk_cell (HS.out.blk 2 rfl) 0).trans rfl, ((HS.out.rowX 3 rfl).q HO.out).1, ((HS.out.rowX 3 rfl).q HO.out).2.1, ((HS.out.rowX 3 rfl).q HO.out).2.2.1, ((HS.out.rowX 3 rfl).q HO.out).2.2.2.1, ((HS.out.rowX 3 rfl).q HO.out).2.2.2.2.1, (blk_cell (HS.out.blk 1 rfl) 0).trans rfl, (blk_cell (HS.out.blk 1 rfl) 1).trans rfl, (blk_cell (HS.out.blk 1 rfl) 2).trans rfl, (blk_cell (HS.out.blk 1 rfl) 3).trans rfl⟩ (fun hHeld => ?_)
         have HS11 := Aside0.mk (HS.out.drew)
         clear HS
         generalize wr.drew = wd0 at HS11 hHeld  ⊢
         refine pu_ 0 29 (bs_ 38 1) ?_; refine pu_ 1 30 (bs_ 38 3) ?_; refine pu_ 2 31 (bs_ 38 7) ?_; refine pu_ 4 33 (bs_ 38 23) ?_; refine pu_ 8 37 (bs_ 38 279) ?_; refine ta_ 3 32 (bs_ 38 287) hHeld ?_; refine pu_ 5 34 (bs_ 38 319) ?_; refine pu_ 6 35 (bs_ 38 383) ?_; refine ta_ 7 36 (bs_ 38 511) hHeld ?_; refine ta_ 9 38 (bs_ 38 1023) hHeld ?_; refine pu_ 10 39 (bs_ 38 2047) ?_; refine pu_ 11 40 (bs_ 38 4095) ?_; refine pn_ 12 41 (bs_ 38 8191) ?_; refine pn_ 13 42 (bs_ 38 16383) ?_; refine pn_ 14 43 (bs_ 38 32767) ?_; refine pn_ 15 44 (bs_ 38 65535) ?_; refine pn_ 16 45 (bs_ 38 131071) ?_
         refine pn_ 17 46 (bs_ 38 262143) ?_; refine pn_ 18 47 (bs_ 38 524287) ?_; refine pn_ 19 48 (bs_ 38 1048575) ?_; refine pn_ 20 49 (bs_ 38 2097151) ?_; refine pn_ 21 50 (bs_ 38 4194303) ?_; refine pn_ 22 51 (bs_ 38 8388607) ?_; refine pu_ 23 52 (bs_ 38 16777215) ?_; refine pu_ 24 53 (bs_ 38 33554431) ?_; refine pn_ 25 54 (bs_ 38 67108863) ?_; refine pn_ 26 55 (bs_ 38 134217727) ?_; refine pn_ 27 56 (bs_ 38 268435455) ?_; refine pn_ 28 57 (bs_ 38 536870911) ?_; refine pn_ 29 58 (bs_ 38 1073741823) ?_; refine pn_ 30 59 (bs_ 38 2147483647) ?_; refine pn_ 31 60 (bs_ 38 4294967295) ?_; refine pn_ 32 61 (bs_ 38 8589934591) ?_
         refine pn_ 33 62 (bs_ 38 17179869183) ?_; refine pn_ 34 63 (bs_ 38 34359738367) ?_; refine pn_ 35 64 (bs_ 38 68719476735) ?_
         refine one_ (i := 36) (N := (some 65)) (bs_ 38 137438953471) rfl rfl (by kernel_rfl) (by decide) (fun K_ hK => ?_)
         refine no_ (by rfl) ?_
         refine hK.out _ _ hHeld (fun hHeld => ?_)
         clear hK K_
         refine norm_ (a' := ?_) ?_ ?_
         rotate_left
         · show Act.put _ (some 65) _ = _
           simp only [Act.put, List.setIfInBounds_toArray, List.set_cons_zero, List.set_cons_succ, i64_w, i32_w]
           rfl
         refine pu_ 37 66 (bs_ 38 274877906943) ?_
         refine done_ (by kernel_rfl) ?_
         clear hHeld c0 pl
         go_wp2
         go_roundg gq
         case measure => omega
         case rel =>
           have e := blH_off (x := x) (q := q) HO.out (by unfold canH; rw [eqD_dec] at he; rw [show decide (o.1 = q.1) = false from he]; rfl)
           exact ⟨i + 1, na, c, A, by go_num, rfl, by omega, Aside0.mk (by rw [e]; exact HNA.out), Aside0.mk (by rw [e]; exact HS11.out)⟩
       | true =>
         cases hx : (o.2.1 == x) with
         | true =>
           have hx2 : (o.2.1 != x) = false := by unfold bne; rw [hx]; rfl
           refine start_ (n := 38) (S := fun w' => w'.cell? ⟨rp, 0, none⟩ = some (.slice (some ⟨g1, 0, none⟩) nh ch) ∧ w'.cell? ⟨g1, i * 6, none⟩ = some (.int .i64 o.1.f0) ∧ w'.cell? ⟨g1, i * 6 + 1, none⟩ = some (.string o.1.f1) ∧ w'.cell? ⟨g1, i * 6 + 2, none⟩ = some (.string o.1.f2) ∧ w'.cell? ⟨g1, i * 6 + 3, none⟩ = some (.int .i64 o.2.1) ∧ w'.cell? ⟨g1, i * 6 + 4, none⟩ = some (.int .i64 o.2.2) ∧ w'.cell? ⟨n6, 0, none⟩ = some (.int .i64 q.1.f0) ∧ w'.cell? ⟨n6, 1, none⟩ = some (.string q.1.f1) ∧ w'.cell? ⟨n6, 2, none⟩ = some (.string q.1.f2) ∧ w'.cell? ⟨n6, 3, none⟩ = some (.int .i64 q.2.2)) (ds := []) #[false, false, false, false, false, false, false, false, false, false, false, false, false, false, false, false, false, false, false, false, false, false, false, false, false, false, false, false, false, false, false, false, false, false, false, false, false, false] (by kernel_rfl) rfl rfl ⟨(blk_cell (HS.out.blk 2 rfl) 0).trans rfl, ((HS.out.rowX 3 rfl).q HO.out).1, ((HS.out.rowX 3 rfl).q HO.out).2.1, ((HS.out.rowX 3 rfl).q HO.out).2.2.1, ((HS.out.rowX 3 rfl).q HO.out).2.2.2.1, ((HS.out.rowX 3 rfl).q HO.out).2.2.2.2.1, (blk_cell (HS.out.blk 1 rfl) 0).trans rfl, (blk_cell (HS.out.blk 1 rfl) 1).trans rfl, (blk_cell (HS.out.blk 1 rfl) 2).trans rfl, (blk_cell (HS.out.blk 1 rfl) 3).trans rfl⟩ (fun hHeld => ?_)
           have HS21 := Aside0.mk (HS.out.drew)
           clear HS
           generalize wr.drew = wd1 at HS21 hHeld  ⊢
           refine pu_ 0 29 (bs_ 38 1) ?_; refine pu_ 1 30 (bs_ 38 3) ?_; refine pu_ 2 31 (bs_ 38 7) ?_; refine pu_ 4 33 (bs_ 38 23) ?_; refine pu_ 8 37 (bs_ 38 279) ?_; refine ta_ 3 32 (bs_ 38 287) hHeld ?_; refine pu_ 5 34 (bs_ 38 319) ?_; refine pu_ 6 35 (bs_ 38 383) ?_; refine ta_ 7 36 (bs_ 38 511) hHeld ?_; refine ta_ 9 38 (bs_ 38 1023) hHeld ?_; refine pu_ 10 39 (bs_ 38 2047) ?_; refine pu_ 11 40 (bs_ 38 4095) ?_; refine pu_ 12 41 (bs_ 38 8191) ?_; refine pu_ 13 42 (bs_ 38 16383) ?_; refine pu_ 14 43 (bs_ 38 32767) ?_; refine pu_ 16 45 (bs_ 38 98303) ?_; refine pu_ 21 50 (bs_ 38 2195455) ?_
           refine ta_ 15 44 (bs_ 38 2228223) hHeld ?_; refine pu_ 17 46 (bs_ 38 2359295) ?_; refine pu_ 18 47 (bs_ 38 2621439) ?_; refine pu_ 19 48 (bs_ 38 3145727) ?_; refine ta_ 20 49 (bs_ 38 4194303) hHeld ?_; refine pu_ 22 51 (bs_ 38 8388607) ?_; refine pu_ 23 52 (bs_ 38 16777215) ?_; refine pu_ 24 53 (bs_ 38 33554431) ?_; refine pn_ 25 54 (bs_ 38 67108863) ?_; refine pn_ 26 55 (bs_ 38 134217727) ?_; refine pn_ 27 56 (bs_ 38 268435455) ?_; refine pn_ 28 57 (bs_ 38 536870911) ?_; refine pn_ 29 58 (bs_ 38 1073741823) ?_; refine pn_ 30 59 (bs_ 38 2147483647) ?_; refine pn_ 31 60 (bs_ 38 4294967295) ?_
           refine pn_ 32 61 (bs_ 38 8589934591) ?_; refine pn_ 33 62 (bs_ 38 17179869183) ?_; refine pn_ 34 63 (bs_ 38 34359738367) ?_; refine pn_ 35 64 (bs_ 38 68719476735) ?_
           refine one_ (i := 36) (N := (some 65)) (bs_ 38 137438953471) rfl rfl (by kernel_rfl) (by decide) (fun K_ hK => ?_)
           refine no_ (by rfl) ?_
           refine hK.out _ _ hHeld (fun hHeld => ?_)
           clear hK K_
           refine norm_ (a' := ?_) ?_ ?_
           rotate_left
           · show Act.put _ (some 65) _ = _
             simp only [Act.put, List.setIfInBounds_toArray, List.set_cons_zero, List.set_cons_succ, i64_w, i32_w]
             rfl
           refine pu_ 37 66 (bs_ 38 274877906943) ?_
           refine done_ (by kernel_rfl) ?_
           clear hHeld c0 pl
           go_wp2
           go_roundg gq
           case measure => omega
           case rel =>
             have e := blH_off (x := x) (q := q) HO.out (by unfold canH bne; rw [hx, Bool.not_true, Bool.false_and, Bool.and_false])
             exact ⟨i + 1, na, c, A, by go_num, rfl, by omega, Aside0.mk (by rw [e]; exact HNA.out), Aside0.mk (by rw [e]; exact HS21.out)⟩
         | false =>
           have hx2 : (o.2.1 != x) = true := by unfold bne; rw [hx]; rfl
           have CF := Aside0.mk (fun W => rconf_calls W o.2.2 q.2.2)
           cases hc : conf o.2.2 q.2.2 with
           | false =>
             rw [hc] at CF
             refine start_ (n := 38) (S := fun w' => w'.cell? ⟨rp, 0, none⟩ = some (.slice (some ⟨g1, 0, none⟩) nh ch) ∧ w'.cell? ⟨g1, i * 6, none⟩ = some (.int .i64 o.1.f0) ∧ w'.cell? ⟨g1, i * 6 + 1, none⟩ = some (.string o.1.f1) ∧ w'.cell? ⟨g1, i * 6 + 2, none⟩ = some (.string o.1.f2) ∧ w'.cell? ⟨g1, i * 6 + 3, none⟩ = some (.int .i64 o.2.1) ∧ w'.cell? ⟨g1, i * 6 + 4, none⟩ = some (.int .i64 o.2.2) ∧ w'.cell? ⟨n6, 0, none⟩ = some (.int .i64 q.1.f0) ∧ w'.cell? ⟨n6, 1, none⟩ = some (.string q.1.f1) ∧ w'.cell? ⟨n6, 2, none⟩ = some (.string q.1.f2) ∧ w'.cell? ⟨n6, 3, none⟩ = some (.int .i64 q.2.2)) (ds := []) #[false, false, false, false, false, false, false, false, false, false, false, false, false, false, false, false, false, false, false, false, false, false, false, false, false, false, false, false, false, false, false, false, false, false, false, false, false, false] (by kernel_rfl) rfl rfl ⟨(blk_cell (HS.out.blk 2 rfl) 0).trans rfl, ((HS.out.rowX 3 rfl).q HO.out).1, ((HS.out.rowX 3 rfl).q HO.out).2.1, ((HS.out.rowX 3 rfl).q HO.out).2.2.1, ((HS.out.rowX 3 rfl).q HO.out).2.2.2.1, ((HS.out.rowX 3 rfl).q HO.out).2.2.2.2.1, (blk_cell (HS.out.blk 1 rfl) 0).trans rfl, (blk_cell (HS.out.blk 1 rfl) 1).trans rfl, (blk_cell (HS.out.blk 1 rfl) 2).trans rfl, (blk_cell (HS.out.blk 1 rfl) 3).trans rfl⟩ (fun hHeld => ?_)
             have HS31 := Aside0.mk (HS.out.drew)
             clear HS
             generalize wr.drew = wd2 at HS31 hHeld  ⊢
             refine pu_ 0 29 (bs_ 38 1) ?_; refine pu_ 1 30 (bs_ 38 3) ?_; refine pu_ 2 31 (bs_ 38 7) ?_; refine pu_ 4 33 (bs_ 38 23) ?_; refine pu_ 8 37 (bs_ 38 279) ?_; refine ta_ 3 32 (bs_ 38 287) hHeld ?_; refine pu_ 5 34 (bs_ 38 319) ?_; refine pu_ 6 35 (bs_ 38 383) ?_; refine ta_ 7 36 (bs_ 38 511) hHeld ?_; refine ta_ 9 38 (bs_ 38 1023) hHeld ?_; refine pu_ 10 39 (bs_ 38 2047) ?_; refine pu_ 11 40 (bs_ 38 4095) ?_; refine pu_ 12 41 (bs_ 38 8191) ?_; refine pu_ 13 42 (bs_ 38 16383) ?_; refine pu_ 14 43 (bs_ 38 32767) ?_; refine pu_ 16 45 (bs_ 38 98303) ?_; refine pu_ 21 50 (bs_ 38 2195455) ?_
             refine ta_ 15 44 (bs_ 38 2228223) hHeld ?_; refine pu_ 17 46 (bs_ 38 2359295) ?_; refine pu_ 18 47 (bs_ 38 2621439) ?_; refine pu_ 19 48 (bs_ 38 3145727) ?_; refine ta_ 20 49 (bs_ 38 4194303) hHeld ?_; refine pu_ 22 51 (bs_ 38 8388607) ?_; refine pu_ 23 52 (bs_ 38 16777215) ?_; refine pu_ 24 53 (bs_ 38 33554431) ?_; refine pu_ 25 54 (bs_ 38 67108863) ?_; refine pu_ 26 55 (bs_ 38 134217727) ?_; refine pu_ 27 56 (bs_ 38 268435455) ?_; refine pu_ 29 58 (bs_ 38 805306367) ?_; refine pu_ 34 63 (bs_ 38 17985175551) ?_; refine ta_ 28 57 (bs_ 38 18253611007) hHeld ?_; refine pu_ 30 59 (bs_ 38 19327352831) ?_
             refine pu_ 31 60 (bs_ 38 21474836479) ?_; refine pu_ 32 61 (bs_ 38 25769803775) ?_; refine ta_ 33 62 (bs_ 38 34359738367) hHeld ?_; refine ta_ 35 64 (bs_ 38 68719476735) hHeld ?_
             refine one_ (i := 36) (N := (some 65)) (bs_ 38 137438953471) rfl rfl (by kernel_rfl) (by decide) (fun K_ hK => ?_)
             refine goes_ Tryz.func53 (by kernel_rfl) rfl #[.int .i64 o.2.2, .int .i64 q.2.2] (by rfl) rfl rfl (by (try simp only [List.map_toArray, List.map_cons, List.map_nil]); first | done | rfl) ?_
             refine (CF.out _).mono ?_
             rintro E wc ⟨rfl, hb⟩
             have HS32 := Aside0.mk (HS31.out.below hb)
             clear HS31
             clear hb
             refine ⟨_, rfl, ?_⟩
             clear hHeld
             refine hK.out _ _ ⟨(blk_cell (HS32.out.blk 2 rfl) 0).trans rfl, ((HS32.out.rowX 3 rfl).q HO.out).1, ((HS32.out.rowX 3 rfl).q HO.out).2.1, ((HS32.out.rowX 3 rfl).q HO.out).2.2.1, ((HS32.out.rowX 3 rfl).q HO.out).2.2.2.1, ((HS32.out.rowX 3 rfl).q HO.out).2.2.2.2.1, (blk_cell (HS32.out.blk 1 rfl) 0).trans rfl, (blk_cell (HS32.out.blk 1 rfl) 1).trans rfl, (blk_cell (HS32.out.blk 1 rfl) 2).trans rfl, (blk_cell (HS32.out.blk 1 rfl) 3).trans rfl⟩ (fun hHeld => ?_)
             clear hK K_
             refine norm_ (a' := ?_) ?_ ?_
             rotate_left
             · show Act.put _ (some 65) _ = _
               simp only [Act.put, List.setIfInBounds_toArray, List.set_cons_zero, List.set_cons_succ, i64_w, i32_w]
               rfl
             refine pu_ 37 66 (bs_ 38 274877906943) ?_
             refine done_ (by kernel_rfl) ?_
             clear hHeld c0 pl
             go_wp2
             go_roundg gq
             case measure => omega
             case rel =>
               have e := blH_off (x := x) (q := q) HO.out (by unfold canH; rw [hc, Bool.and_false, Bool.and_false])
               exact ⟨i + 1, na, c, A, by go_num, rfl, by omega, Aside0.mk (by rw [e]; exact HNA.out), Aside0.mk (by rw [e]; exact HS32.out)⟩
           | true =>
             rw [hc] at CF
             refine start_ (n := 38) (S := fun w' => w'.cell? ⟨rp, 0, none⟩ = some (.slice (some ⟨g1, 0, none⟩) nh ch) ∧ w'.cell? ⟨g1, i * 6, none⟩ = some (.int .i64 o.1.f0) ∧ w'.cell? ⟨g1, i * 6 + 1, none⟩ = some (.string o.1.f1) ∧ w'.cell? ⟨g1, i * 6 + 2, none⟩ = some (.string o.1.f2) ∧ w'.cell? ⟨g1, i * 6 + 3, none⟩ = some (.int .i64 o.2.1) ∧ w'.cell? ⟨g1, i * 6 + 4, none⟩ = some (.int .i64 o.2.2) ∧ w'.cell? ⟨n6, 0, none⟩ = some (.int .i64 q.1.f0) ∧ w'.cell? ⟨n6, 1, none⟩ = some (.string q.1.f1) ∧ w'.cell? ⟨n6, 2, none⟩ = some (.string q.1.f2) ∧ w'.cell? ⟨n6, 3, none⟩ = some (.int .i64 q.2.2)) (ds := []) #[false, false, false, false, false, false, false, false, false, false, false, false, false, false, false, false, false, false, false, false, false, false, false, false, false, false, false, false, false, false, false, false, false, false, false, false, false, false] (by kernel_rfl) rfl rfl ⟨(blk_cell (HS.out.blk 2 rfl) 0).trans rfl, ((HS.out.rowX 3 rfl).q HO.out).1, ((HS.out.rowX 3 rfl).q HO.out).2.1, ((HS.out.rowX 3 rfl).q HO.out).2.2.1, ((HS.out.rowX 3 rfl).q HO.out).2.2.2.1, ((HS.out.rowX 3 rfl).q HO.out).2.2.2.2.1, (blk_cell (HS.out.blk 1 rfl) 0).trans rfl, (blk_cell (HS.out.blk 1 rfl) 1).trans rfl, (blk_cell (HS.out.blk 1 rfl) 2).trans rfl, (blk_cell (HS.out.blk 1 rfl) 3).trans rfl⟩ (fun hHeld => ?_)
             have HS41 := Aside0.mk (HS.out.drew)
             clear HS
             generalize wr.drew = wd3 at HS41 hHeld  ⊢
             refine pu_ 0 29 (bs_ 38 1) ?_; refine pu_ 1 30 (bs_ 38 3) ?_; refine pu_ 2 31 (bs_ 38 7) ?_; refine pu_ 4 33 (bs_ 38 23) ?_; refine pu_ 8 37 (bs_ 38 279) ?_; refine ta_ 3 32 (bs_ 38 287) hHeld ?_; refine pu_ 5 34 (bs_ 38 319) ?_; refine pu_ 6 35 (bs_ 38 383) ?_; refine ta_ 7 36 (bs_ 38 511) hHeld ?_; refine ta_ 9 38 (bs_ 38 1023) hHeld ?_; refine pu_ 10 39 (bs_ 38 2047) ?_; refine pu_ 11 40 (bs_ 38 4095) ?_; refine pu_ 12 41 (bs_ 38 8191) ?_; refine pu_ 13 42 (bs_ 38 16383) ?_; refine pu_ 14 43 (bs_ 38 32767) ?_; refine pu_ 16 45 (bs_ 38 98303) ?_; refine pu_ 21 50 (bs_ 38 2195455) ?_
             refine ta_ 15 44 (bs_ 38 2228223) hHeld ?_; refine pu_ 17 46 (bs_ 38 2359295) ?_; refine pu_ 18 47 (bs_ 38 2621439) ?_; refine pu_ 19 48 (bs_ 38 3145727) ?_; refine ta_ 20 49 (bs_ 38 4194303) hHeld ?_; refine pu_ 22 51 (bs_ 38 8388607) ?_; refine pu_ 23 52 (bs_ 38 16777215) ?_; refine pu_ 24 53 (bs_ 38 33554431) ?_; refine pu_ 25 54 (bs_ 38 67108863) ?_; refine pu_ 26 55 (bs_ 38 134217727) ?_; refine pu_ 27 56 (bs_ 38 268435455) ?_; refine pu_ 29 58 (bs_ 38 805306367) ?_; refine pu_ 34 63 (bs_ 38 17985175551) ?_; refine ta_ 28 57 (bs_ 38 18253611007) hHeld ?_; refine pu_ 30 59 (bs_ 38 19327352831) ?_
             refine pu_ 31 60 (bs_ 38 21474836479) ?_; refine pu_ 32 61 (bs_ 38 25769803775) ?_; refine ta_ 33 62 (bs_ 38 34359738367) hHeld ?_; refine ta_ 35 64 (bs_ 38 68719476735) hHeld ?_
             refine one_ (i := 36) (N := (some 65)) (bs_ 38 137438953471) rfl rfl (by kernel_rfl) (by decide) (fun K_ hK => ?_)
             refine goes_ Tryz.func53 (by kernel_rfl) rfl #[.int .i64 o.2.2, .int .i64 q.2.2] (by rfl) rfl rfl (by (try simp only [List.map_toArray, List.map_cons, List.map_nil]); first | done | rfl) ?_
             refine (CF.out _).mono ?_
             rintro E wc ⟨rfl, hb⟩
             have HS42 := Aside0.mk (HS41.out.below hb)
             clear HS41
             clear hb
             refine ⟨_, rfl, ?_⟩
             clear hHeld
             refine hK.out _ _ ⟨(blk_cell (HS42.out.blk 2 rfl) 0).trans rfl, ((HS42.out.rowX 3 rfl).q HO.out).1, ((HS42.out.rowX 3 rfl).q HO.out).2.1, ((HS42.out.rowX 3 rfl).q HO.out).2.2.1, ((HS42.out.rowX 3 rfl).q HO.out).2.2.2.1, ((HS42.out.rowX 3 rfl).q HO.out).2.2.2.2.1, (blk_cell (HS42.out.blk 1 rfl) 0).trans rfl, (blk_cell (HS42.out.blk 1 rfl) 1).trans rfl, (blk_cell (HS42.out.blk 1 rfl) 2).trans rfl, (blk_cell (HS42.out.blk 1 rfl) 3).trans rfl⟩ (fun hHeld => ?_)
             clear hK K_
             refine norm_ (a' := ?_) ?_ ?_
             rotate_left
             · show Act.put _ (some 65) _ = _
               simp only [Act.put, List.setIfInBounds_toArray, List.set_cons_zero, List.set_cons_succ, i64_w, i32_w]
               rfl
             refine pu_ 37 66 (bs_ 38 274877906943) ?_
             refine done_ (by kernel_rfl) ?_
             clear hHeld c0 pl
             have c0 : wc.cell? ⟨rp, 0, none⟩ = some (.slice (some ⟨g1, 0, none⟩) nh ch) := (blk_cell (HS42.out.blk 2 rfl) 0).trans rfl
             have pl := lt_of_some (HS42.out.blk 2 rfl)
             obtain ⟨d0, d1, d2, d3, d4, d5⟩ := (HS42.out.rowX 3 rfl).q HO.out
             have NUM := Aside0.mk (fun W (h : St w0 F W (rowIC (.slice A na c) (blH r x q i) :: blkC n6 (.cells #[.int .i64 q.1.f0, .string q.1.f1, .string q.1.f2, .int .i64 q.2.2] 34 (0, 0)) :: blkC rp (.cells #[.slice (some ⟨g1, 0, none⟩) nh ch, .slice Aw nw cw] 30 (0, 0)) :: rowXC qE (.slice (some ⟨g1, 0, none⟩) nh ch) (r.holds.map (qv false)) :: rowXC qE (.slice Aw nw cw) (r.waits.map (qv true)) :: R)) => qnumber_calls h HNA.out o.2.1 (by have h1 := blH_len (r := r) (x := x) (q := q) (i := i); have h2 := HN.out; have h3 := HNA.out; omega))
             go_wp2_with (go_at_call 54; refine (NUM.out _ HS42.out).mono ?_; rintro E w5 ⟨A5, c5, rfl, hs5⟩; have HS5 := Aside0.mk hs5; clear hs5 HS42 c0 pl d0 d1 d2 d3 d4 d5)
             go_roundg gq
             case measure => omega
             case rel =>
               have e := blH_on (x := x) (q := q) HO.out (by unfold canH bne; rw [hx, hc, Bool.not_false, Bool.and_true, Bool.and_true]; rw [eqD_dec] at he; exact he)
               exact ⟨i + 1, _, c5, A5, by go_num, rfl, by omega, Aside0.mk (by rw [e]), Aside0.mk (by rw [e]; exact HS5.out)⟩
end
end Go.Proofs.Kb
end
