/- Packed by shake.py: YtkcjcdkmdooofaaGreatQ85 YtkcjcdkmdooofaaGreatQ72 YtkcjcdkmdooofaaGreatQ49 YtkcjcdkmdooofaaGreatLi44 YtkcjcdkmdooofaaGreatLc41 YtkcjcdkmdooofaaGreatLT1 YtkcjcdkmdooofaaGreatMP1 YtkcjcdkmdooofaaGreatA3 YtkcjcdkmdooofaaGreatLK1 YtkcjcdkmdooofaaGreatLK2 YtkcjcdkmdooofaaGreatLK3 YtkcjcdkmdooofaaGreatLK4 YtkcjcdkmdooofaaGreatLK5 YtkcjcdkmdooofaaGreatLK6 -/
import Derived.Shelf.RegionOpenPlain
import Derived.Shelf.Spec.SlicesInsert
import Derived.Lib.Strings
import Derived.Maps.RangeWalk
import Derived.Maps.OwnSet
import Derived.Carry
import Derived.DeepKeys4
import Derived.Test.YtkcjcdkmdooofaaGreatV2
set_option linter.unusedVariables false
set_option linter.unusedSimpArgs false
set_option linter.unusedSectionVars false
section
namespace Go.Proofs.YtkcjcdkmdooofaaGreat.Q
open Go.RowKit Go.Proofs.YtkcjcdkmdooofaaGreatW.PrintWords Go.Proofs.YtkcjcdkmdooofaaGreatW.PrintLast Go.Proofs.YtkcjcdkmdooofaaGreatW.PrintMore
attribute [local go_sem] max2_int min2_int max_two min_two max_three min_three max_four min_four
def cmp_isNaN_int.f (a0 : Int) : Option (Bool) := some (a0 != a0)
set_option maxHeartbeats 8000000 in
set_option maxRecDepth 100000 in
theorem cmp_isNaN_int.calls (a0 : Int) (r : Bool) (w : World) (h : cmp_isNaN_int.f a0 = some r) :
   Calls Tryz.prog 85 #[.int .i64 a0] w fun e w' => e = .returned (.bool r) ∧ Drawn0 w w' := by
 have H : (some (a0 != a0)) = some r := h
 clear h
 obtain rfl := Option.some.inj H
 go_enter Tryz.func85, Tryz.ntmps85
 go_wp2
 go_ret
 exact ⟨by first | rfl | (simp; done) | (simp [*]; done), by repeat (first | exact Drawn0.refl _ | apply Drawn0.step)⟩
end Go.Proofs.YtkcjcdkmdooofaaGreat.Q
end
section
namespace Go.Proofs.YtkcjcdkmdooofaaGreat.Q
open Go.RowKit Go.Proofs.YtkcjcdkmdooofaaGreatW.PrintWords Go.Proofs.YtkcjcdkmdooofaaGreatW.PrintLast Go.Proofs.YtkcjcdkmdooofaaGreatW.PrintMore
attribute [local go_sem] max2_int min2_int max_two min_two max_three min_three max_four min_four
def cmp_Compare_int.f (a0 : Int) (a1 : Int) : Option (Int) := (cmp_isNaN_int.f a0).bind fun t305 => ((cmp_isNaN_int.f a1).bind fun t306 => (if t305 = true then (if t306 = true then (some 0) else (some (-1))) else (if t306 = true then (some 1) else (if a0 < a1 then (some (-1)) else (if a0 > a1 then (some 1) else (some 0))))))
set_option maxHeartbeats 8000000 in
set_option maxRecDepth 100000 in
theorem cmp_Compare_int.calls (a0 : Int) (a1 : Int) (r : Int) (w : World) (h : cmp_Compare_int.f a0 a1 = some r) :
   Calls Tryz.prog 72 #[.int .i64 a0, .int .i64 a1] w fun e w' => e = .returned (.int .i64 r) ∧ Drawn0 w w' := by
 have H : ((cmp_isNaN_int.f a0).bind fun t305 => ((cmp_isNaN_int.f a1).bind fun t306 => (if t305 = true then (if t306 = true then (some 0) else (some (-1))) else (if t306 = true then (some 1) else (if a0 < a1 then (some (-1)) else (if a0 > a1 then (some 1) else (some 0))))))) = some r := h
 clear h
 replace H := Option.bind_eq_some_iff.mp H
 obtain ⟨t305, A30, H⟩ := H
 replace H : ((cmp_isNaN_int.f a1).bind fun t306 => (if t305 = true then (if t306 = true then (some 0) else (some (-1))) else (if t306 = true then (some 1) else (if a0 < a1 then (some (-1)) else (if a0 > a1 then (some 1) else (some 0)))))) = some r := H
 have A3 := Aside0.mk A30
 clear A30
 replace H := Option.bind_eq_some_iff.mp H
 obtain ⟨t306, A40, H⟩ := H
 replace H : (if t305 = true then (if t306 = true then (some 0) else (some (-1))) else (if t306 = true then (some 1) else (if a0 < a1 then (some (-1)) else (if a0 > a1 then (some 1) else (some 0))))) = some r := H
 have A4 := Aside0.mk A40
 clear A40
 by_cases c5 : t305 = true
 · subst c5
   have H1 : (if t306 = true then (some 0) else (some (-1))) = some r := by rw [if_pos rfl] at H; exact H
   clear H
   have H := H1
   clear H1
   by_cases c6 : t306 = true
   · subst c6
     have H1 : (some 0) = some r := by rw [if_pos rfl] at H; exact H
     clear H
     have H := H1
     clear H1
     obtain rfl := Option.some.inj H
     go_enter Tryz.func72, Tryz.ntmps72
     go_wp2_with (first | ((with_reducible refine gate_callee (f := 85) rfl ?_); refine goesL_ (some 8) rfl rfl Tryz.func85 (by kernel_rfl) rfl #[.int .i64 a0] rfl (by (try simp only [List.map_toArray, List.map_cons, List.map_nil]); first | done | rfl | (simp only [List.length_drop, List.length_take]; rfl)) ?_; (with_reducible refine (cmp_isNaN_int.calls a0 true _ A3.out).mono ?_); rintro e w' ⟨rfl, ⟨nd, rfl⟩⟩; refine ⟨_, rfl, ?_⟩) | ((with_reducible refine gate_callee (f := 85) rfl ?_); refine goesL_ (some 10) rfl rfl Tryz.func85 (by kernel_rfl) rfl #[.int .i64 a1] rfl (by (try simp only [List.map_toArray, List.map_cons, List.map_nil]); first | done | rfl | (simp only [List.length_drop, List.length_take]; rfl)) ?_; (with_reducible refine (cmp_isNaN_int.calls a1 true _ A4.out).mono ?_); rintro e w' ⟨rfl, ⟨nd, rfl⟩⟩; refine ⟨_, rfl, ?_⟩))
     go_ret
     exact ⟨by first | rfl | (simp; done) | (simp [*]; done), by repeat (first | exact Drawn0.refl _ | apply Drawn0.step)⟩
   · replace c6 := Bool.eq_false_iff.mpr c6
     subst c6
     have H1 : (some (-1)) = some r := by rw [if_neg (show ¬ (false = true) by decide)] at H; exact H
     clear H
     have H := H1
     clear H1
     obtain rfl := Option.some.inj H
     go_enter Tryz.func72, Tryz.ntmps72
     go_wp2_with (first | ((with_reducible refine gate_callee (f := 85) rfl ?_); refine goesL_ (some 8) rfl rfl Tryz.func85 (by kernel_rfl) rfl #[.int .i64 a0] rfl (by (try simp only [List.map_toArray, List.map_cons, List.map_nil]); first | done | rfl | (simp only [List.length_drop, List.length_take]; rfl)) ?_; (with_reducible refine (cmp_isNaN_int.calls a0 true _ A3.out).mono ?_); rintro e w' ⟨rfl, ⟨nd, rfl⟩⟩; refine ⟨_, rfl, ?_⟩) | ((with_reducible refine gate_callee (f := 85) rfl ?_); refine goesL_ (some 10) rfl rfl Tryz.func85 (by kernel_rfl) rfl #[.int .i64 a1] rfl (by (try simp only [List.map_toArray, List.map_cons, List.map_nil]); first | done | rfl | (simp only [List.length_drop, List.length_take]; rfl)) ?_; (with_reducible refine (cmp_isNaN_int.calls a1 false _ A4.out).mono ?_); rintro e w' ⟨rfl, ⟨nd, rfl⟩⟩; refine ⟨_, rfl, ?_⟩))
     go_ret
     exact ⟨by first | rfl | (simp; done) | (simp [*]; done), by repeat (first | exact Drawn0.refl _ | apply Drawn0.step)⟩
 · replace c5 := Bool.eq_false_iff.mpr c5
   subst c5
   have H1 : (if t306 = true then (some 1) else (if a0 < a1 then (some (-1)) else (if a0 > a1 then (some 1) else (some 0)))) = some r := by rw [if_neg (show ¬ (false = true) by decide)] at H; exact H
   clear H
   have H := H1
   clear H1
   by_cases c7 : t306 = true
   · subst c7
     have H1 : (some 1) = some r := by rw [if_pos rfl] at H; exact H
     clear H
     have H := H1
     clear H1
     obtain rfl := Option.some.inj H
     go_enter Tryz.func72, Tryz.ntmps72
     go_wp2_with (first | ((with_reducible refine gate_callee (f := 85) rfl ?_); refine goesL_ (some 8) rfl rfl Tryz.func85 (by kernel_rfl) rfl #[.int .i64 a0] rfl (by (try simp only [List.map_toArray, List.map_cons, List.map_nil]); first | done | rfl | (simp only [List.length_drop, List.length_take]; rfl)) ?_; (with_reducible refine (cmp_isNaN_int.calls a0 false _ A3.out).mono ?_); rintro e w' ⟨rfl, ⟨nd, rfl⟩⟩; refine ⟨_, rfl, ?_⟩) | ((with_reducible refine gate_callee (f := 85) rfl ?_); refine goesL_ (some 10) rfl rfl Tryz.func85 (by kernel_rfl) rfl #[.int .i64 a1] rfl (by (try simp only [List.map_toArray, List.map_cons, List.map_nil]); first | done | rfl | (simp only [List.length_drop, List.length_take]; rfl)) ?_; (with_reducible refine (cmp_isNaN_int.calls a1 true _ A4.out).mono ?_); rintro e w' ⟨rfl, ⟨nd, rfl⟩⟩; refine ⟨_, rfl, ?_⟩))
     go_ret
     exact ⟨by first | rfl | (simp; done) | (simp [*]; done), by repeat (first | exact Drawn0.refl _ | apply Drawn0.step)⟩
   · replace c7 := Bool.eq_false_iff.mpr c7
     subst c7
     have H1 : (if a0 < a1 then (some (-1)) else (if a0 > a1 then (some 1) else (some 0))) = some r := by rw [if_neg (show ¬ (false = true) by decide)] at H; exact H
     clear H
     have H := H1
     clear H1
     by_cases c8 : a0 < a1
     · rw [if_pos c8] at H
       have c8b0 : decide (a0 < a1) = true := decide_eq_true c8
       clear c8
       obtain rfl := Option.some.inj H
       go_enter Tryz.func72, Tryz.ntmps72
       go_wp2_with (first | ((with_reducible refine gate_callee (f := 85) rfl ?_); refine goesL_ (some 8) rfl rfl Tryz.func85 (by kernel_rfl) rfl #[.int .i64 a0] rfl (by (try simp only [List.map_toArray, List.map_cons, List.map_nil]); first | done | rfl | (simp only [List.length_drop, List.length_take]; rfl)) ?_; (with_reducible refine (cmp_isNaN_int.calls a0 false _ A3.out).mono ?_); rintro e w' ⟨rfl, ⟨nd, rfl⟩⟩; refine ⟨_, rfl, ?_⟩) | ((with_reducible refine gate_callee (f := 85) rfl ?_); refine goesL_ (some 10) rfl rfl Tryz.func85 (by kernel_rfl) rfl #[.int .i64 a1] rfl (by (try simp only [List.map_toArray, List.map_cons, List.map_nil]); first | done | rfl | (simp only [List.length_drop, List.length_take]; rfl)) ?_; (with_reducible refine (cmp_isNaN_int.calls a1 false _ A4.out).mono ?_); rintro e w' ⟨rfl, ⟨nd, rfl⟩⟩; refine ⟨_, rfl, ?_⟩))
       go_ret
       exact ⟨by first | rfl | (simp; done) | (simp [*]; done), by repeat (first | exact Drawn0.refl _ | apply Drawn0.step)⟩
     · rw [if_neg c8] at H
       have c8b0 : decide (a0 < a1) = false := decide_eq_false c8
       clear c8
       by_cases c9 : a0 > a1
       · rw [if_pos c9] at H
         have c9b0 : decide (a1 < a0) = true := decide_eq_true c9
         clear c9
         obtain rfl := Option.some.inj H
         go_enter Tryz.func72, Tryz.ntmps72
         go_wp2_with (first | ((with_reducible refine gate_callee (f := 85) rfl ?_); refine goesL_ (some 8) rfl rfl Tryz.func85 (by kernel_rfl) rfl #[.int .i64 a0] rfl (by (try simp only [List.map_toArray, List.map_cons, List.map_nil]); first | done | rfl | (simp only [List.length_drop, List.length_take]; rfl)) ?_; (with_reducible refine (cmp_isNaN_int.calls a0 false _ A3.out).mono ?_); rintro e w' ⟨rfl, ⟨nd, rfl⟩⟩; refine ⟨_, rfl, ?_⟩) | ((with_reducible refine gate_callee (f := 85) rfl ?_); refine goesL_ (some 10) rfl rfl Tryz.func85 (by kernel_rfl) rfl #[.int .i64 a1] rfl (by (try simp only [List.map_toArray, List.map_cons, List.map_nil]); first | done | rfl | (simp only [List.length_drop, List.length_take]; rfl)) ?_; (with_reducible refine (cmp_isNaN_int.calls a1 false _ A4.out).mono ?_); rintro e w' ⟨rfl, ⟨nd, rfl⟩⟩; refine ⟨_, rfl, ?_⟩))
         go_ret
         exact ⟨by first | rfl | (simp; done) | (simp [*]; done), by repeat (first | exact Drawn0.refl _ | apply Drawn0.step)⟩
       · rw [if_neg c9] at H
         have c9b0 : decide (a1 < a0) = false := decide_eq_false c9
         clear c9
         obtain rfl := Option.some.inj H
         go_enter Tryz.func72, Tryz.ntmps72
         go_wp2_with (first | ((with_reducible refine gate_callee (f := 85) rfl ?_); refine goesL_ (some 8) rfl rfl Tryz.func85 (by kernel_rfl) rfl #[.int .i64 a0] rfl (by (try simp only [List.map_toArray, List.map_cons, List.map_nil]); first | done | rfl | (simp only [List.length_drop, List.length_take]; rfl)) ?_; (with_reducible refine (cmp_isNaN_int.calls a0 false _ A3.out).mono ?_); rintro e w' ⟨rfl, ⟨nd, rfl⟩⟩; refine ⟨_, rfl, ?_⟩) | ((with_reducible refine gate_callee (f := 85) rfl ?_); refine goesL_ (some 10) rfl rfl Tryz.func85 (by kernel_rfl) rfl #[.int .i64 a1] rfl (by (try simp only [List.map_toArray, List.map_cons, List.map_nil]); first | done | rfl | (simp only [List.length_drop, List.length_take]; rfl)) ?_; (with_reducible refine (cmp_isNaN_int.calls a1 false _ A4.out).mono ?_); rintro e w' ⟨rfl, ⟨nd, rfl⟩⟩; refine ⟨_, rfl, ?_⟩))
         go_ret
         exact ⟨by first | rfl | (simp; done) | (simp [*]; done), by repeat (first | exact Drawn0.refl _ | apply Drawn0.step)⟩
end Go.Proofs.YtkcjcdkmdooofaaGreat.Q
end
section
namespace Go.Proofs.YtkcjcdkmdooofaaGreat.Q
open Go.RowKit Go.Proofs.YtkcjcdkmdooofaaGreatW.PrintWords Go.Proofs.YtkcjcdkmdooofaaGreatW.PrintLast Go.Proofs.YtkcjcdkmdooofaaGreatW.PrintMore
attribute [local go_sem] max2_int min2_int max_two min_two max_three min_three max_four min_four
def lock_order.f (k : Nat) (a0_0 : Int) (a0_1 : ByteArray) (a0_2 : ByteArray) (a1_0 : Int) (a1_1 : ByteArray) (a1_2 : ByteArray) : Option (Int) := (cmp_Compare_int.f a0_0 a1_0).bind fun t309 => ((cmp_Compare_string.f a0_1 a1_1).bind fun t310 => ((cmp_Compare_string.f a0_2 a1_2).bind fun t311 => ((cmp_Or_int.f k (([t309, t310, t311] : List Int))).bind fun t315 => (some t315))))
theorem lock_order.mono : ∀ a0 a1 a2 a3 a4 a5 k, LeO (lock_order.f k a0 a1 a2 a3 a4 a5) (lock_order.f (k + 1) a0 a1 a2 a3 a4 a5) := by
 intro a0 a1 a2 a3 a4 a5 k
 unfold lock_order.f
 repeat' first
     | (with_reducible exact cmp_Or_int.mono _ _)
     | (with_reducible exact LeO.refl _)
     | (with_reducible exact LeO.none _)
     | (with_reducible refine LeO.ite ?_ ?_)
     | (with_reducible refine LeO.bind ?_ (fun _ => ?_))
     | exact cmp_Or_int.mono _ _
     | exact LeO.none _
     | refine LeO.ite ?_ ?_
     | refine LeO.bind ?_ (fun _ => ?_)
def lock_order.T1 : Bool × List (List Nat × List Nat) := (true, [([], []), ([0], [0]), ([], []), ([2], [2]), ([1, 3], [1, 3]), ([], []), ([5], [5]), ([], []), ([7], [7]), ([6, 8, 4], [6, 8]), ([], []), ([10], [10]), ([], []), ([12], [12]), ([11, 13, 9], [11, 13]), ([4, 9, 14], [4, 9, 14]), ([15, 14], [15]), ([16, 16, 0, 1, 2, 3, 4, 5, 6, 7, 8, 9, 10, 11, 12, 13, 14, 15, 16], [16])])
def lock_order.B1 : List Nat := [0, 1, 0, 4, 15, 0, 32, 0, 128, 511, 0, 1024, 0, 4096, 16383, 32767, 65535, 131071]
theorem lock_order.tab1 : rtab .any (opsOf Tryz.f49 1) = lock_order.T1 := by kernel_rfl
theorem lock_order.bits1 : waitsOk lock_order.T1.2 lock_order.B1 = true := by kernel_rfl
set_option maxHeartbeats 8000000 in
set_option maxRecDepth 100000 in
theorem lock_order.calls (k : Nat) (a0_0 : Int) (a0_1 : ByteArray) (a0_2 : ByteArray) (a1_0 : Int) (a1_1 : ByteArray) (a1_2 : ByteArray) (r : Int) (w : World) (h : lock_order.f k a0_0 a0_1 a0_2 a1_0 a1_1 a1_2 = some r) :
   Calls Tryz.prog 49 #[.agg #[.int .i64 a0_0, .string a0_1, .string a0_2], .agg #[.int .i64 a1_0, .string a1_1, .string a1_2]] w fun e w' => e = .returned (.int .i64 r) ∧ Below w.heap.size w w' := by
 have hu32 := Tryz.underlying32
 have HB := Aside0.mk (Below.refl w.heap.size w)
 have H : ((cmp_Compare_int.f a0_0 a1_0).bind fun t309 => ((cmp_Compare_string.f a0_1 a1_1).bind fun t310 => ((cmp_Compare_string.f a0_2 a1_2).bind fun t311 => ((cmp_Or_int.f k (([t309, t310, t311] : List Int))).bind fun t315 => (some t315))))) = some r := h
 clear h
 replace H := Option.bind_eq_some_iff.mp H
 obtain ⟨t309, A30, H⟩ := H
 replace H : ((cmp_Compare_string.f a0_1 a1_1).bind fun t310 => ((cmp_Compare_string.f a0_2 a1_2).bind fun t311 => ((cmp_Or_int.f k (([t309, t310, t311] : List Int))).bind fun t315 => (some t315)))) = some r := H
 have A3 := Aside0.mk A30
 clear A30
 replace H := Option.bind_eq_some_iff.mp H
 obtain ⟨t310, A40, H⟩ := H
 replace H : ((cmp_Compare_string.f a0_2 a1_2).bind fun t311 => ((cmp_Or_int.f k (([t309, t310, t311] : List Int))).bind fun t315 => (some t315))) = some r := H
 have A4 := Aside0.mk A40
 clear A40
 replace H := Option.bind_eq_some_iff.mp H
 obtain ⟨t311, A50, H⟩ := H
 replace H : ((cmp_Or_int.f k (([t309, t310, t311] : List Int))).bind fun t315 => (some t315)) = some r := H
 have A5 := Aside0.mk A50
 clear A50
 obtain ⟨y312, hy312⟩ : ∃ y_ : List Int, y_ = (([t309, t310, t311] : List Int)) := ⟨_, rfl⟩
 replace H : ((cmp_Or_int.f k y312).bind fun t315 => (some t315)) = some r := by first | (rw [hy312]; with_reducible exact H) | (have H2_ := (Option.bind_some _ _).symm.trans H; rw [hy312]; with_reducible exact H2_) | (have H2_ := (Option.bind_some _ _).symm.trans H; with_reducible exact H2_) | with_reducible exact H | (rw [hy312]; exact H) | exact H
 have Ny312 := Aside0.mk hy312
 clear hy312
 replace H := Option.bind_eq_some_iff.mp H
 obtain ⟨t315, A60, H⟩ := H
 replace H : (some t315) = some r := H
 have A6 := Aside0.mk A60
 clear A60
 obtain rfl := Option.some.inj H
 go_enter Tryz.func49, Tryz.ntmps49
 try go_wp2_with (first | ((with_reducible refine gate_dst (N := 2) rfl ?_); refine box_event ?hg (N := 2) ?hd (cs := #[.int .i64 a0_0, .string a0_1, .string a0_2]) (t := 32) ?hr ?_; (case hd => rfl); (case hg => rfl); (case hr => first | (go_simp; done) | (go_simp; rfl)); intro gb307 hg w7 hbox hb; have n0_ := Aside0.mk (below_step (by repeat (first | (with_reducible first | exact HB.out | apply below_alloc | apply pw_below_drewN | apply below_drew1) | exact HB.out)) hb); have n1_ := Aside0.mk (hbox); have n2_ := Aside0.mk ((by rw [hg]; exact (below_size (by repeat (first | (with_reducible first | exact HB.out | apply below_alloc | apply pw_below_drewN | apply below_drew1) | exact HB.out))) : w.heap.size ≤ gb307)); have n3_ := Aside0.mk ((by rw [hg]; exact (below_size (by repeat (first | (with_reducible first | exact HB.out | apply below_alloc | apply pw_below_drewN | apply below_drew1) | exact HB.out))) : w.heap.size ≤ gb307)); clear HB; have HB := n0_; have BK307 := n1_; have GW307 := n2_; have GE307 := n3_; clear n0_ n1_ n2_ n3_; clear hb hbox hg) | ((with_reducible refine gate_dst (N := 3) rfl ?_); refine box_event ?hg (N := 3) ?hd (cs := #[.int .i64 a1_0, .string a1_1, .string a1_2]) (t := 32) ?hr ?_; (case hd => rfl); (case hg => rfl); (case hr => first | (go_simp; done) | (go_simp; rfl)); intro gb308 hg w8 hbox hb; have n0_ := Aside0.mk (blk_below (g := gb307) (o := .cells #[.int .i64 a0_0, .string a0_1, .string a0_2] 32 (0, 0)) (by (with_reducible repeat (first | refine blk_drewN ?_ _ | refine blk_drew ?_ | refine blk_alloc ?_ _)); exact BK307.out) hb); have n1_ := Aside0.mk (below_step (by repeat (first | (with_reducible first | exact HB.out | apply below_alloc | apply pw_below_drewN | apply below_drew1 | refine below_set ?_ GE307.out) | exact HB.out)) hb); have n2_ := Aside0.mk (hbox); have n3_ := Aside0.mk ((by rw [hg]; exact (below_size (by repeat (first | (with_reducible first | exact HB.out | apply below_alloc | apply pw_below_drewN | apply below_drew1 | refine below_set ?_ GE307.out) | exact HB.out))) : w.heap.size ≤ gb308)); have n4_ := Aside0.mk ((by rw [hg]; exact (below_size (by repeat (first | (with_reducible first | exact HB.out | apply below_alloc | apply pw_below_drewN | apply below_drew1 | refine below_set ?_ GE307.out) | exact HB.out))) : w.heap.size ≤ gb308)); have n5_ := Aside0.mk ((by rw [hg]; exact Nat.ne_of_lt (blk_lt (g := gb307) (o := .cells #[.int .i64 a0_0, .string a0_1, .string a0_2] 32 (0, 0)) (by (with_reducible repeat (first | refine blk_drewN ?_ _ | refine blk_drew ?_ | refine blk_alloc ?_ _)); exact BK307.out)) : gb307 ≠ gb308)); have n6_ := Aside0.mk ((by rw [hg]; exact Nat.ne_of_gt (blk_lt (g := gb307) (o := .cells #[.int .i64 a0_0, .string a0_1, .string a0_2] 32 (0, 0)) (by (with_reducible repeat (first | refine blk_drewN ?_ _ | refine blk_drew ?_ | refine blk_alloc ?_ _)); exact BK307.out)) : gb308 ≠ gb307)); clear BK307; clear HB; have BK307 := n0_; have HB := n1_; have BK308 := n2_; have GW308 := n3_; have GE308 := n4_; have NB307_308 := n5_; have NB308_307 := n6_; clear n0_ n1_ n2_ n3_ n4_ n5_ n6_; clear hb hbox hg))
 have n0_ := Aside0.mk (blk_drew BK307.out)
 have n1_ := Aside0.mk (blk_drew BK308.out)
 have n2_ := Aside0.mk (below_drew1 HB.out)
 clear BK307
 clear BK308
 clear HB
 have BK307 := n0_
 have BK308 := n1_
 have HB := n2_
 clear n0_ n1_ n2_
 refine start_ (n := 18) (S := fun w' => w'.cell? ⟨gb307, 0, none⟩ = some (.int .i64 a0_0) ∧ w'.cell? ⟨gb307, 1, none⟩ = some (.string a0_1) ∧ w'.cell? ⟨gb307, 2, none⟩ = some (.string a0_2) ∧ w'.cell? ⟨gb308, 0, none⟩ = some (.int .i64 a1_0) ∧ w'.cell? ⟨gb308, 1, none⟩ = some (.string a1_1) ∧ w'.cell? ⟨gb308, 2, none⟩ = some (.string a1_2)) (ds := []) #[false, false, false, false, false, false, false, false, false, false, false, false, false, false, false, false, false, false] (by kernel_rfl) rfl rfl ⟨(blk_cell BK307.out 0).trans rfl, (blk_cell BK307.out 1).trans rfl, (blk_cell BK307.out 2).trans rfl, (blk_cell BK308.out 0).trans rfl, (blk_cell BK308.out 1).trans rfl, (blk_cell BK308.out 2).trans rfl⟩ (fun hHeld => ?_); refine with_tabW lock_order.tab1 lock_order.bits1 (fun HT_ HW_ => ?_)
 generalize w8.drew = w9 at BK307 BK308 HB hHeld ⊢
 refine pure_ (i := 0) (N := some 5) (v := ?_) (a' := ?_) (bs_ 18 1) rfl rfl (any_of HT_.out (by kernel_rfl)) (fun _ _ _ h => h) (Or.inl ⟨by rfl, ?_⟩) ?_ ?_
 rotate_left
 · intro w'
   go_simp
   with_reducible rfl
 rotate_left
 · simp only [Act.put, List.setIfInBounds_toArray, List.set_cons_zero, List.set_cons_succ, i64_w, i32_w]
   rfl
 refine pure_ (i := 2) (N := some 7) (v := ?_) (a' := ?_) (bs_ 18 5) rfl rfl (any_of HT_.out (by kernel_rfl)) (fun _ _ _ h => h) (Or.inl ⟨by rfl, ?_⟩) ?_ ?_
 rotate_left
 · intro w'
   go_simp
   with_reducible rfl
 rotate_left
 · simp only [Act.put, List.setIfInBounds_toArray, List.set_cons_zero, List.set_cons_succ, i64_w, i32_w]
   rfl
 refine pure_ (i := 5) (N := some 10) (v := ?_) (a' := ?_) (bs_ 18 37) rfl rfl (any_of HT_.out (by kernel_rfl)) (fun _ _ _ h => h) (Or.inl ⟨by rfl, ?_⟩) ?_ ?_
 rotate_left
 · intro w'
   go_simp
   with_reducible rfl
 rotate_left
 · simp only [Act.put, List.setIfInBounds_toArray, List.set_cons_zero, List.set_cons_succ, i64_w, i32_w]
   rfl
 refine pure_ (i := 7) (N := some 12) (v := ?_) (a' := ?_) (bs_ 18 165) rfl rfl (any_of HT_.out (by kernel_rfl)) (fun _ _ _ h => h) (Or.inl ⟨by rfl, ?_⟩) ?_ ?_
 rotate_left
 · intro w'
   go_simp
   with_reducible rfl
 rotate_left
 · simp only [Act.put, List.setIfInBounds_toArray, List.set_cons_zero, List.set_cons_succ, i64_w, i32_w]
   rfl
 refine pure_ (i := 10) (N := some 15) (v := ?_) (a' := ?_) (bs_ 18 1189) rfl rfl (any_of HT_.out (by kernel_rfl)) (fun _ _ _ h => h) (Or.inl ⟨by rfl, ?_⟩) ?_ ?_
 rotate_left
 · intro w'
   go_simp
   with_reducible rfl
 rotate_left
 · simp only [Act.put, List.setIfInBounds_toArray, List.set_cons_zero, List.set_cons_succ, i64_w, i32_w]
   rfl
 refine pure_ (i := 12) (N := some 17) (v := ?_) (a' := ?_) (bs_ 18 5285) rfl rfl (any_of HT_.out (by kernel_rfl)) (fun _ _ _ h => h) (Or.inl ⟨by rfl, ?_⟩) ?_ ?_
 rotate_left
 · intro w'
   go_simp
   with_reducible rfl
 rotate_left
 · simp only [Act.put, List.setIfInBounds_toArray, List.set_cons_zero, List.set_cons_succ, i64_w, i32_w]
   rfl
 refine take_ (i := 1) (N := some 6) (v := ?_) (a' := ?_) (bs_ 18 5287) rfl rfl (take_ofW HT_.out HW_.out (by kernel_rfl)) (fun _ _ _ h => h) (Or.inl ⟨by rfl, ?_⟩) hHeld ?_ ?_
 rotate_left
 · rintro w' ⟨s0, s1, s2, s3, s4, s5⟩
   go_simp
   with_reducible rfl
 rotate_left
 · simp only [Act.put, List.setIfInBounds_toArray, List.set_cons_zero, List.set_cons_succ, i64_w, i32_w]
   rfl
 refine take_ (i := 3) (N := some 8) (v := ?_) (a' := ?_) (bs_ 18 5295) rfl rfl (take_ofW HT_.out HW_.out (by kernel_rfl)) (fun _ _ _ h => h) (Or.inl ⟨by rfl, ?_⟩) hHeld ?_ ?_
 rotate_left
 · rintro w' ⟨s0, s1, s2, s3, s4, s5⟩
   go_simp
   with_reducible rfl
 rotate_left
 · simp only [Act.put, List.setIfInBounds_toArray, List.set_cons_zero, List.set_cons_succ, i64_w, i32_w]
   rfl
 refine take_ (i := 6) (N := some 11) (v := ?_) (a' := ?_) (bs_ 18 5359) rfl rfl (take_ofW HT_.out HW_.out (by kernel_rfl)) (fun _ _ _ h => h) (Or.inl ⟨by rfl, ?_⟩) hHeld ?_ ?_
 rotate_left
 · rintro w' ⟨s0, s1, s2, s3, s4, s5⟩
   go_simp
   with_reducible rfl
 rotate_left
 · simp only [Act.put, List.setIfInBounds_toArray, List.set_cons_zero, List.set_cons_succ, i64_w, i32_w]
   rfl
 refine take_ (i := 8) (N := some 13) (v := ?_) (a' := ?_) (bs_ 18 5615) rfl rfl (take_ofW HT_.out HW_.out (by kernel_rfl)) (fun _ _ _ h => h) (Or.inl ⟨by rfl, ?_⟩) hHeld ?_ ?_
 rotate_left
 · rintro w' ⟨s0, s1, s2, s3, s4, s5⟩
   go_simp
   with_reducible rfl
 rotate_left
 · simp only [Act.put, List.setIfInBounds_toArray, List.set_cons_zero, List.set_cons_succ, i64_w, i32_w]
   rfl
 refine take_ (i := 11) (N := some 16) (v := ?_) (a' := ?_) (bs_ 18 7663) rfl rfl (take_ofW HT_.out HW_.out (by kernel_rfl)) (fun _ _ _ h => h) (Or.inl ⟨by rfl, ?_⟩) hHeld ?_ ?_
 rotate_left
 · rintro w' ⟨s0, s1, s2, s3, s4, s5⟩
   go_simp
   with_reducible rfl
 rotate_left
 · simp only [Act.put, List.setIfInBounds_toArray, List.set_cons_zero, List.set_cons_succ, i64_w, i32_w]
   rfl
 refine take_ (i := 13) (N := some 18) (v := ?_) (a' := ?_) (bs_ 18 15855) rfl rfl (take_ofW HT_.out HW_.out (by kernel_rfl)) (fun _ _ _ h => h) (Or.inl ⟨by rfl, ?_⟩) hHeld ?_ ?_
 rotate_left
 · rintro w' ⟨s0, s1, s2, s3, s4, s5⟩
   go_simp
   with_reducible rfl
 rotate_left
 · simp only [Act.put, List.setIfInBounds_toArray, List.set_cons_zero, List.set_cons_succ, i64_w, i32_w]
   rfl
 refine one_ (i := 4) (N := some 9) (bs_ 18 15871) rfl rfl (one_of HT_.out (by kernel_rfl)) (by decide) (fun K hK => ?_)
 refine goes_ Tryz.func72 (by kernel_rfl) rfl #[.int .i64 a0_0, .int .i64 a1_0] (by rfl) rfl rfl (by (try simp only [List.map_toArray, List.map_cons, List.map_nil]); first | done | rfl | (simp only [List.length_drop, List.length_take]; rfl)) ?_
 with_reducible refine (cmp_Compare_int.calls a0_0 a1_0 t309 _ A3.out).mono ?_
 rintro e w' ⟨rfl, ⟨nd, rfl⟩⟩
 refine ⟨_, rfl, ?_⟩
 refine hK.out _ _ ⟨(blk_cell BK307.out 0).trans rfl, (blk_cell BK307.out 1).trans rfl, (blk_cell BK307.out 2).trans rfl, (blk_cell BK308.out 0).trans rfl, (blk_cell BK308.out 1).trans rfl, (blk_cell BK308.out 2).trans rfl⟩ (fun hHeld => ?_)
 clear hK K
 refine norm_ (a' := ?_) ?_ ?_
 rotate_left
 · show Act.put _ (some 9) _ = _
   simp only [Act.put, List.setIfInBounds_toArray, List.set_cons_zero, List.set_cons_succ, i64_w, i32_w]
   rfl
 refine one_ (i := 9) (N := some 14) (bs_ 18 16383) rfl rfl (one_of HT_.out (by kernel_rfl)) (by decide) (fun K hK => ?_)
 refine goes_ Tryz.func73 (by kernel_rfl) rfl #[.string a0_1, .string a1_1] (by rfl) rfl rfl (by (try simp only [List.map_toArray, List.map_cons, List.map_nil]); first | done | rfl | (simp only [List.length_drop, List.length_take]; rfl)) ?_
 with_reducible refine (cmp_Compare_string.calls a0_1 a1_1 t310 _ A4.out).mono ?_
 rintro e w' ⟨rfl, ⟨nd, rfl⟩⟩
 refine ⟨_, rfl, ?_⟩
 refine hK.out _ _ ⟨(blk_cell BK307.out 0).trans rfl, (blk_cell BK307.out 1).trans rfl, (blk_cell BK307.out 2).trans rfl, (blk_cell BK308.out 0).trans rfl, (blk_cell BK308.out 1).trans rfl, (blk_cell BK308.out 2).trans rfl⟩ (fun hHeld => ?_)
 clear hK K
 refine norm_ (a' := ?_) ?_ ?_
 rotate_left
 · show Act.put _ (some 14) _ = _
   simp only [Act.put, List.setIfInBounds_toArray, List.set_cons_zero, List.set_cons_succ, i64_w, i32_w]
   rfl
 refine one_ (i := 14) (N := some 19) (bs_ 18 32767) rfl rfl (one_of HT_.out (by kernel_rfl)) (by decide) (fun K hK => ?_)
 refine goes_ Tryz.func73 (by kernel_rfl) rfl #[.string a0_2, .string a1_2] (by rfl) rfl rfl (by (try simp only [List.map_toArray, List.map_cons, List.map_nil]); first | done | rfl | (simp only [List.length_drop, List.length_take]; rfl)) ?_
 with_reducible refine (cmp_Compare_string.calls a0_2 a1_2 t311 _ A5.out).mono ?_
 rintro e w' ⟨rfl, ⟨nd, rfl⟩⟩
 refine ⟨_, rfl, ?_⟩
 refine hK.out _ _ ⟨(blk_cell BK307.out 0).trans rfl, (blk_cell BK307.out 1).trans rfl, (blk_cell BK307.out 2).trans rfl, (blk_cell BK308.out 0).trans rfl, (blk_cell BK308.out 1).trans rfl, (blk_cell BK308.out 2).trans rfl⟩ (fun hHeld => ?_)
 clear hK K
 refine norm_ (a' := ?_) ?_ ?_
 rotate_left
 · show Act.put _ (some 19) _ = _
   simp only [Act.put, List.setIfInBounds_toArray, List.set_cons_zero, List.set_cons_succ, i64_w, i32_w]
   rfl
 refine one_ (i := 15) (N := some 20) (bs_ 18 65535) rfl rfl (one_of HT_.out (by kernel_rfl)) (by decide) (fun K hK => ?_)
 refine Kd.R_lit_step (Kd.int .i64) _ 3 ?hg (N := 20) ?hd (xs := ([t309, t310, t311] : List Int)) (inner := [.int .i64 t309, .int .i64 t310, .int .i64 t311]) (ok := fun _ => True) (okp := fun _ => True) ?hr ?hp (fun _ hk => hk) trivial (Below.refl _ _) (Nat.le_refl _) (by simp) ?_; (case hd => rfl); (case hg => rfl); (case hr => first | (go_simp; done) | (go_simp; rfl)); (case hp => exact (Reps.one (show Kd.M (Kd.int .i64) _ _ _ t309 [.int .i64 t309] from rfl) (Reps.one (show Kd.M (Kd.int .i64) _ _ _ t310 [.int .i64 t310] from rfl) (Reps.one (show Kd.M (Kd.int .i64) _ _ _ t311 [.int .i64 t311] from rfl) (Reps.none _ _)))))
 intro v313 w10 ho11 hb hg_ hnew_
 clear hg_ hnew_
 (first | rw [← Ny312.out] at ho11 | (simp only [Int.reduceToNat] at ho11; rw [← Ny312.out] at ho11))
 have n0_ := Aside0.mk (Kd.R_lower ho11 (below_size (by repeat (first | (with_reducible first | exact HB.out | apply below_alloc | apply pw_below_drewN | apply below_drew1 | refine below_set ?_ GE307.out | refine below_set ?_ GE308.out) | exact HB.out))))
 have n1_ := Aside0.mk (blk_below (g := gb307) (o := .cells #[.int .i64 a0_0, .string a0_1, .string a0_2] 32 (0, 0)) (by (with_reducible repeat (first | refine blk_drewN ?_ _ | refine blk_drew ?_ | refine blk_alloc ?_ _)); exact BK307.out) hb)
 have n2_ := Aside0.mk (blk_below (g := gb308) (o := .cells #[.int .i64 a1_0, .string a1_1, .string a1_2] 32 (0, 0)) (by (with_reducible repeat (first | refine blk_drewN ?_ _ | refine blk_drew ?_ | refine blk_alloc ?_ _)); exact BK308.out) hb)
 have n3_ := Aside0.mk (below_step (by repeat (first | (with_reducible first | exact HB.out | apply below_alloc | apply pw_below_drewN | apply below_drew1 | refine below_set ?_ GE307.out | refine below_set ?_ GE308.out) | exact HB.out)) hb)
 clear BK307
 clear BK308
 clear HB
 have HO314 := n0_
 have BK307 := n1_
 have BK308 := n2_
 have HB := n3_
 clear n0_ n1_ n2_ n3_
 clear hb ho11
 obtain ⟨Ao12, co12, eo12⟩ := Kd.R_slice HO314.out
 (first | subst eo12 | (injection eo12 with f1_ f2_ f3_; have f4_ := f1_.symm; have f5_ := f3_.symm; clear f1_ f2_ f3_; subst f4_; subst f5_))
 refine hK.out _ _ ⟨(blk_cell BK307.out 0).trans rfl, (blk_cell BK307.out 1).trans rfl, (blk_cell BK307.out 2).trans rfl, (blk_cell BK308.out 0).trans rfl, (blk_cell BK308.out 1).trans rfl, (blk_cell BK308.out 2).trans rfl⟩ (fun hHeld => ?_)
 clear hK K
 refine norm_ (a' := ?_) ?_ ?_
 rotate_left
 · show Act.put _ (some 20) _ = _
   simp only [Act.put, List.setIfInBounds_toArray, List.set_cons_zero, List.set_cons_succ, i64_w, i32_w]
   rfl
 refine one_ (i := 16) (N := some 21) (bs_ 18 131071) rfl rfl (one_of HT_.out (by kernel_rfl)) (by decide) (fun K hK => ?_)
 refine goes_ Tryz.func71 (by kernel_rfl) rfl #[.slice Ao12 y312.length co12] (by rfl) rfl rfl (by (try simp only [List.map_toArray, List.map_cons, List.map_nil]); first | done | rfl | (simp only [List.length_drop, List.length_take]; rfl)) ?_
 with_reducible refine (cmp_Or_int.calls k _ _ y312 t315 _ ?side1 ?side2 A6.out).mono ?_
 (case side1 => repeat (first | exact (Kd.R_reads' HO314.out).2.2 | (with_reducible refine Kd.C_alloc ?_ _) | (with_reducible refine Kd.C_drewN ?_ _) | (with_reducible refine Kd.C_drew ?_)))
 (case side2 => exact (Kd.R_reads' HO314.out).2.1)
 rintro e w' ⟨rfl, ⟨nd, rfl⟩⟩
 refine ⟨_, rfl, ?_⟩
 refine hK.out _ _ ⟨(blk_cell BK307.out 0).trans rfl, (blk_cell BK307.out 1).trans rfl, (blk_cell BK307.out 2).trans rfl, (blk_cell BK308.out 0).trans rfl, (blk_cell BK308.out 1).trans rfl, (blk_cell BK308.out 2).trans rfl⟩ (fun hHeld => ?_)
 clear hK K
 refine norm_ (a' := ?_) ?_ ?_
 rotate_left
 · show Act.put _ (some 21) _ = _
   simp only [Act.put, List.setIfInBounds_toArray, List.set_cons_zero, List.set_cons_succ, i64_w, i32_w]
   rfl
 refine pure_ (i := 17) (N := some 4) (v := ?_) (a' := ?_) (bs_ 18 262143) rfl rfl (any_of HT_.out (by kernel_rfl)) (fun _ _ _ h => h) (Or.inl ⟨by rfl, ?_⟩) ?_ ?_
 rotate_left
 · intro w'
   go_simp
   with_reducible rfl
 rotate_left
 · simp only [Act.put, List.setIfInBounds_toArray, List.set_cons_zero, List.set_cons_succ, i64_w, i32_w]
   rfl
 refine done_ (done_of HT_.out (by kernel_rfl)) ?_
 try go_wp2
 go_ret
 exact ⟨by first | rfl | (simp [errW_none, errW_some] <;> rfl) | (simp [*, errW_none, errW_some] <;> rfl), by repeat (first | (with_reducible first | exact HB.out | apply below_alloc | apply pw_below_drewN | apply below_drew1 | refine below_set ?_ GE307.out | refine below_set ?_ GE308.out) | exact HB.out)⟩
end Go.Proofs.YtkcjcdkmdooofaaGreat.Q
end
section
namespace Go.Proofs.Kb
open Go Go.RowKit Go.Lib Go.Shelf
set_option maxRecDepth 100000
theorem ins44_info : (Tryz.prog.info? 32).map (fun i => (i.zero, i.size, i.bytes)) = some (some (.agg #[.int .i64 0, .string ⟨#[]⟩, .string ⟨#[]⟩]), 3, 40) := by kernel_rfl
theorem ins44_over (w : World) (vb g o lb cb : Nat) (news cur : Array Value) (hne : vb ≠ g) (hv : w.heap[vb]? = some (.cells news 32 (0, 0))) (hg : w.heap[g]? = some (.cells cur 32 (0, 0))) (hc : 0 < cur.size) :
   (callFunc 74 #[.slice (some ⟨vb, 0, none⟩) 1 1, .slice (some ⟨g, o, none⟩) lb cb]).run Tryz.prog w = .ok (.value (.bool false)) w := by
 have hz : ∀ w, (Go.sizeOf 32).run Tryz.prog w = .ok 3 w := Tryz.sizeOf32
 rw [run_callFunc_extern Tryz.func74 (by kernel_rfl) (by kernel_rfl) (by kernel_rfl) (e := Extern.SlicesOverlaps.overlaps #[49, 49] #[4]) (by kernel_rfl),
   Lib.run_overlaps_apart w 49 4 32 Tryz.underlying49 3 hz ⟨vb, 0, none⟩ ⟨g, o, none⟩ 1 1 lb cb hne 32 32 news.size cur.size (by simp [World.shape?, hv]) (by simp [World.shape?, hg]) (by omega) (by simp [World.frozen?, hv]) (by simp [World.frozen?, hv])]
 rfl
set_option maxHeartbeats 4000000 in
set_option maxRecDepth 100000 in
theorem insert44 (w : World) (v : Value) (n i : Nat) (xs : List Value) (vb : Nat) (news : Array Value) (hR : Row w 32 3 v n xs) (hi : i ≤ n) (hn : n < 1000000) (hvb : w.heap[vb]? = some (.cells news 32 (0, 0))) (hns : news.size = 3)
   (h1 : ∀ u ∈ news.toList, u.oneCell' = true) (hne : v.ownBlock ≠ some vb) :
   Calls Tryz.prog 50 #[v, .int .i64 i, .slice (some ⟨vb, 0, none⟩) 1 1] w fun e w' => ∃ v', e = .returned v' ∧
     Row w' 32 3 v' (n + 1) (xs.take (i * 3) ++ news.toList ++ xs.drop (i * 3)) ∧ w.grownBy w' v.ownBlock ∧ (v'.ownBlock = v.ownBlock ∨ ∃ k, v'.ownBlock = some k ∧ w.heap.size ≤ k) ∧ v' ≠ .slice none 0 0 := by
 obtain ⟨i0, hi0, hz0, hzs, hzb⟩ := info_parts ins44_info
 have mixed : Tryz.prog.follows Departure.mixedOrders = true := by kernel_rfl
 have hRl := hR.1
 have hR1 := hR.2.1
 have hnl : news.toList.length = 3 := by simpa using hns
 have hnewc : ∀ W : World, W.heap[vb]? = w.heap[vb]? → ∀ j u, news.toList[j]? = some u → W.cell? ((⟨vb, 0, none⟩ : Addr).add j) = some u := fun W hW j u hu => by
   rw [Addr.add_lit, Nat.zero_add, cell_of_row W vb j news 32 (0, 0) (hW.trans hvb)]
   simpa using hu
 rcases hR.2.2 with ⟨rfl, rfl⟩ | ⟨g, cap, cur, rfl, hg, hnc, hcm, hcs, htake⟩
 · obtain rfl : i = 0 := by omega
   have hx : xs = [] := List.eq_nil_of_length_eq_zero (by simpa using hRl)
   subst hx
   have hrun : ∀ ty, (Builtin.append_ #[49, 49] ty #[.slice none 0 0, .slice (some ⟨vb, 0, none⟩) 1 1]).run Tryz.prog w = _ := fun ty =>
     run_append_nil w 49 ty 32 i0 _ Tryz.underlying49 hi0 hz0 ⟨vb, 0, none⟩ 1 1 news.toList (by rw [hnl, hzs]) (hnewc w rfl) (by omega) (by omega) (by rw [hzb]; omega)
   have hge := grownCap_ge w 1 0 32
   have hle := grownCap_le_maxLen w 1 0 32 (by decide)
   go_enter Tryz.func50, Tryz.ntmps50
   go_wp2_with (at_builtin; refine Lib.wpList_append_run _ rfl _ _ _ _ rfl _ _ rfl rfl _ _ (hrun _) ?_)
   go_ret
   refine ⟨_, rfl, ⟨by simp [hnl], by simpa using h1, .inr ⟨_, _, _, rfl, heap_alloc_new w.drew _, hge, hle, ?_, ?_⟩⟩, grown_alloc w _ _, .inr ⟨_, rfl, Nat.le_refl _⟩, by simp⟩
   · simp [size_zeroCells, hns, Value.cells] <;> omega
   · simp [hnl, List.take_append_of_le_length]
 · have hgv : vb ≠ g := fun e => hne (by rw [e]; rfl)
   by_cases hin : i = n
   · subst hin
     have hlast : xs.take (i * 3) ++ news.toList ++ xs.drop (i * 3) = xs ++ news.toList := by rw [List.take_of_length_le (by omega), List.drop_eq_nil_iff.2 (by omega), List.append_nil]
     rw [hlast]
     by_cases hroom : i + 1 ≤ cap
     · obtain ⟨W1, hW1⟩ : ∃ W1, w.setRow g (splice cur.toList (i * 3) news.toList).toArray = W1 := ⟨_, rfl⟩
       have hrun : ∀ ty, (Builtin.append_ #[49, 49] ty #[.slice (some ⟨g, 0, none⟩) i cap, .slice (some ⟨vb, 0, none⟩) 1 1]).run Tryz.prog w = .ok (.slice (some ⟨g, 0, none⟩) (i + 1) cap) W1 := fun ty => by
         have := run_append_room w 49 ty 32 i0 Tryz.underlying49 hi0 g i cap cur hg ⟨vb, 0, none⟩ 1 1 news.toList (by rw [hnl, hzs]) (hnewc w rfl) h1 hroom (by rw [hzs, hnl]; omega)
         rw [hzs] at this
         rw [← hW1]
         exact this
       go_enter Tryz.func50, Tryz.ntmps50
       go_wp2_with (at_builtin; refine Lib.wpList_append_run _ rfl _ _ _ _ rfl _ _ rfl rfl _ _ (hrun _) ?_)
       go_ret
       refine ⟨_, rfl, ⟨by simp [hnl, hRl] <;> omega, ?_, .inr ⟨g, cap, (splice cur.toList (i * 3) news.toList).toArray, rfl, by rw [← hW1]; exact setRow_heap w g cur _ 32 _ hg, hroom, hcm, ?_, ?_⟩⟩, by rw [← hW1]; exact grown_set w g _, .inl rfl, by simp⟩
       · intro u hu
         rcases List.mem_append.1 hu with hu | hu
         · exact hR1 u hu
         · exact h1 u hu
       · rw [List.size_toArray, splice_len (by rw [hnl]; simp <;> omega)]
         simpa using hcs
       · show (splice cur.toList (i * 3) news.toList).take ((i + 1) * 3) = _
         rw [show (i + 1) * 3 = i * 3 + news.toList.length by rw [hnl]; omega, splice_take_end (by simp <;> omega), htake]
     · have holds : ∀ j u, xs[j]? = some u → w.cell? ((⟨g, 0, none⟩ : Addr).add j) = some u := fun j u hu => by
         rw [Addr.add_lit, Nat.zero_add]
         exact hR.cell rfl j u hu
       have hrun : ∀ ty, (Builtin.append_ #[49, 49] ty #[.slice (some ⟨g, 0, none⟩) i cap, .slice (some ⟨vb, 0, none⟩) 1 1]).run Tryz.prog w = _ := fun ty =>
         run_append_grow w 49 ty 32 i0 _ Tryz.underlying49 hi0 hz0 ⟨g, 0, none⟩ i cap xs (by rw [hRl, hzs]) holds ⟨vb, 0, none⟩ 1 1 news.toList (by rw [hnl, hzs]) (hnewc w rfl) (by omega) (by omega) (by rw [hzb]; exact growslice_fits (by omega) (by omega))
       have hge := grownCap_ge w (i + 1) cap 32
       have hle := grownCap_le_maxLen w (i + 1) cap 32 (by simp only [maxLen]; omega)
       go_enter Tryz.func50, Tryz.ntmps50
       go_wp2_with (at_builtin; refine Lib.wpList_append_run _ rfl _ _ _ _ rfl _ _ rfl rfl _ _ (hrun _) ?_)
       go_ret
       refine ⟨_, rfl, ⟨by simp [hnl, hRl] <;> omega, ?_, .inr ⟨_, _, _, rfl, heap_alloc_new w.drew _, hge, hle, ?_, ?_⟩⟩, grown_alloc w _ _, .inr ⟨_, rfl, Nat.le_refl _⟩, by simp⟩
       · intro u hu
         rcases List.mem_append.1 hu with hu | hu
         · exact hR1 u hu
         · exact h1 u hu
       · simp [size_zeroCells, hns, hRl, Value.cells] <;> omega
       · simp only [Array.toList_append]
         rw [show (i + 1) * 3 = (xs ++ news.toList).length by simp [hRl, hns] <;> omega, ← List.append_assoc, List.take_left]
   · have hlt : i < n := by omega
     have hz1 : ¬ ((i : Int) = (n : Int)) := by omega
     have hw1 : IntKind.i64.wrap ((n : Int) + 1) = (n : Int) + 1 := by rw [IntKind.wrap_i64]; omega
     have hw2 : IntKind.i64.wrap ((i : Int) + 1) = (i : Int) + 1 := by rw [IntKind.wrap_i64]; omega
     have hw3 : IntKind.i64.wrap ((n : Int) + 1 - (i : Int)) = ((n + 1 - i : Nat) : Int) := by rw [IntKind.wrap_i64]; omega
     have hin2 : i ≤ n := by omega
     have hl1 : (xs.take (i * 3)).length = i * 3 := by rw [List.length_take, hRl]; omega
     have hl2 : (xs.drop (i * 3)).length = (n - i) * 3 := by rw [List.length_drop, hRl]; omega
     have hcurs : cur.toList.length = cur.size := by simp
     by_cases hroom : n + 1 ≤ cap
     · obtain ⟨cur1, hcur1⟩ : ∃ c, splice cur.toList ((i + 1) * 3) (xs.drop (i * 3)) = c := ⟨_, rfl⟩
       have hs1 : cur1.length = cur.size := by rw [← hcur1, splice_len (by rw [hl2]; simp <;> omega)]; simp
       obtain ⟨W1, hW1⟩ : ∃ W1, w.drew.setRow g cur1.toArray = W1 := ⟨_, rfl⟩
       have hH1 : W1.heap[g]? = some (.cells cur1.toArray 32 (0, 0)) := by rw [← hW1]; exact setRow_heap w.drew g cur _ 32 _ hg
       have hold1 : ∀ k, k ≠ g → W1.heap[k]? = w.heap[k]? := fun k hk => by rw [← hW1, setRow_other _ _ _ _ hk]; rfl
       obtain ⟨W2, hW2⟩ : ∃ W2, W1.setRow g (splice cur1 (i * 3) news.toList).toArray = W2 := ⟨_, rfl⟩
       have hcp1 : ∀ ty, (Builtin.copy_ #[49, 49] ty #[.slice (some ⟨g, (i + 1) * 3, none⟩) (n + 1 - (i + 1)) (cap - (i + 1)), .slice (some ⟨g, i * 3, none⟩) (n + 1 - i) (cap - i)]).run Tryz.prog w.drew = .ok (goInt (Nat.min (n + 1 - i) (n + 1 - (i + 1)))) W1 := fun ty => by
         rw [← hW1, ← hcur1]
         have := run_copy_row w.drew 49 49 ty 32 i0 Tryz.underlying49 hi0 g ((i + 1) * 3) (n + 1 - (i + 1)) (cap - (i + 1)) cur hg ⟨g, i * 3, none⟩ (n + 1 - i) (cap - i) (xs.drop (i * 3)) (by rw [hl2, hzs, show Nat.min (n + 1 - i) (n + 1 - (i + 1)) = n - i from (Nat.min_eq_right (by omega)).trans (by omega)])
           (fun j u hu => by
             rw [Addr.add_lit, cell_of_row w.drew g _ cur 32 (0, 0) hg, ← cell_of_row w g _ cur 32 (0, 0) hg]
             exact hR.cell rfl _ u (by rwa [List.getElem?_drop] at hu))
           (by rw [hl2]; omega) (fun u hu => hR1 u (List.mem_of_mem_drop hu))
         try simp only [Nat.mul_one] at this ⊢
         exact this
       have hcp2 : ∀ ty, (Builtin.copy_ #[49, 49] ty #[.slice (some ⟨g, i * 3, none⟩) (n + 1 - i) (cap - i), .slice (some ⟨vb, 0, none⟩) 1 1]).run Tryz.prog W1 = .ok (goInt (Nat.min 1 (n + 1 - i))) W2 := fun ty => by
         rw [← hW2]
         have := run_copy_row W1 49 49 ty 32 i0 Tryz.underlying49 hi0 g (i * 3) (n + 1 - i) (cap - i) cur1.toArray hH1 ⟨vb, 0, none⟩ 1 1 news.toList (by rw [hnl, hzs, nmin (by omega)]) (hnewc W1 (hold1 vb hgv)) (by rw [hnl]; simp [hs1] <;> omega) h1
         try simp only [Nat.mul_one] at this ⊢
         exact this
       have hov : ∀ lb cb, (callFunc 74 #[.slice (some ⟨vb, 0, none⟩) 1 1, .slice (some ⟨g, (i + 1) * 3, none⟩) lb cb]).run Tryz.prog w = .ok (.value (.bool false)) w := fun lb cb =>
         ins44_over w vb g _ lb cb news cur hgv hvb hg (by omega)
       have hb1 : (0 : Int) ≤ (i : Int) + 1 := by omega
       have hb2 : ¬ (cap = i + 1) := by omega
       have hb3 : (i : Int) ≤ (n : Int) := by omega
       have hb4 : ¬ (cap = i) := by omega
       have htn : ((i : Int) + 1).toNat = i + 1 := by omega
       have htn2 : ((n : Int) + 1).toNat = n + 1 := by omega
       have hb5 : (i : Int) ≤ (n : Int) + 1 := by omega
       have hb6 : (n : Int) + 1 ≤ (cap : Int) := by omega
       have hb7 : i ≤ n + 1 := by omega
       go_enter Tryz.func50, Tryz.ntmps50
       go_wp2_with (simp only [hov])
       go_region_law_o (refine step_copy_runI rfl _ _ 49 49 rfl _ _ (by simp [Act.eval, Act.put]) (by simp [Act.eval, Act.put]) (hcp1 _) ?_)
       go_wp2_with (at_builtin; refine wpList_copy_runI _ rfl _ _ 49 49 rfl _ _ rfl rfl (hcp2 _) ?_)
       go_ret
       have hl3 : (xs.take (i * 3) ++ news.toList ++ xs.drop (i * 3)).length = (n + 1) * 3 := by
         rw [List.length_append, List.length_append, hl1, hl2, hnl]
         omega
       refine ⟨_, rfl, ⟨hl3, ?_, .inr ⟨g, cap, (splice cur1 (i * 3) news.toList).toArray, rfl, ?_, hroom, hcm, ?_, ?_⟩⟩, ⟨?_, ?_, ?_, ?_, ?_⟩, .inl rfl, by simp⟩
       · intro u hu
         rcases List.mem_append.1 hu with hu | hu
         · rcases List.mem_append.1 hu with hu | hu
           · exact hR1 u (List.mem_of_mem_take hu)
           · exact h1 u hu
         · exact hR1 u (List.mem_of_mem_drop hu)
       · rw [← hW2]
         exact setRow_heap W1 g cur1.toArray _ 32 _ hH1
       · rw [List.size_toArray, splice_len (by rw [hnl, hs1]; omega), hs1]
         exact hcs
       · show (splice cur1 (i * 3) news.toList).take ((n + 1) * 3) = _
         have hsp : splice cur1 (i * 3) news.toList = cur1.take (i * 3) ++ news.toList ++ cur1.drop ((i + 1) * 3) := by
           unfold splice
           rw [hnl, show i * 3 + 3 = (i + 1) * 3 by omega]
         have hd : cur1.drop ((i + 1) * 3) = xs.drop (i * 3) ++ cur.toList.drop ((n + 1) * 3) := by
           rw [← hcur1]
           unfold splice
           rw [List.append_assoc, List.drop_append_of_le_length (by rw [List.length_take]; omega), List.drop_eq_nil_iff.2 (by rw [List.length_take]; omega), List.nil_append, hl2, show (i + 1) * 3 + (n - i) * 3 = (n + 1) * 3 by omega]
         have ht : cur1.take (i * 3) = xs.take (i * 3) := by
           rw [← hcur1, splice_take _ (by omega) (by omega), ← htake, List.take_take, Nat.min_eq_left (by omega)]
         rw [hsp, hd, ht, ← List.append_assoc, ← hl3, List.take_left]
       · rw [← hW2, ← hW1]; rfl
       · rw [← hW2, ← hW1]; rfl
       · rw [← hW2, ← hW1]; rfl
       · rw [← hW2, ← hW1]; simp
       · intro k hk hkg
         have hk2 : k ≠ g := fun e => hkg (by rw [e]; rfl)
         rw [← hW2, setRow_other _ _ _ _ hk2]
         exact hold1 k hk2
     · obtain ⟨C, hC⟩ : ∃ C, grownCap w (n + 1) cap 32 = C := ⟨_, rfl⟩
       have hge := grownCap_ge w (n + 1) cap 32
       have hle := grownCap_le_maxLen w (n + 1) cap 32 (by simp only [maxLen]; omega)
       rw [hC] at hge hle
       have hsum : i + (n + 1 - i) = n + 1 := by omega
       have holds : ∀ j u, (xs.take (i * 3))[j]? = some u → w.cell? ((⟨g, 0, none⟩ : Addr).add j) = some u := fun j u hu => by
         rw [Addr.add_lit, Nat.zero_add]
         refine hR.cell rfl j u ?_
         rw [List.getElem?_take] at hu
         split at hu
         · exact hu
         · cases hu
       obtain ⟨cur1, hcur1⟩ : ∃ c : Array Value, ((xs.take (i * 3)).toArray ++ Builtin.zeroCells (.agg #[.int .i64 0, .string ⟨#[]⟩, .string ⟨#[]⟩] : Value).cells (n + 1 - i) ++ Builtin.zeroCells (.agg #[.int .i64 0, .string ⟨#[]⟩, .string ⟨#[]⟩] : Value).cells (C - (n + 1))) = c := ⟨_, rfl⟩
       have hs1 : cur1.size = C * 3 := by
         rw [← hcur1]
         simp [size_zeroCells, Value.cells, hl1, hRl] <;> omega
       have ht1 : cur1.toList.take (i * 3) = xs.take (i * 3) := by
         rw [← hcur1]
         simp only [Array.toList_append, List.append_assoc]
         rw [List.take_append_of_le_length (by omega), List.take_of_length_le (by omega)]
       obtain ⟨W1, hW1⟩ : ∃ W1, w.drew.alloc (.cells cur1 32) = W1 := ⟨_, rfl⟩
       have hrun : ∀ ty, (Builtin.append_ #[49, 3] ty #[.slice (some ⟨g, 0, none⟩) i cap, .int .i64 ((n + 1 - i : Nat) : Int)]).run Tryz.prog w = .ok (.slice (some ⟨w.heap.size, 0, none⟩) (n + 1) C) W1 := fun ty => by
         have := run_append_grow_zeros w 49 3 ty 32 i0 _ .i64 Tryz.underlying49 Tryz.underlying3 hi0 hz0 ⟨g, 0, none⟩ i cap (n + 1 - i) (xs.take (i * 3)) (by rw [hl1, hzs]) holds (by omega) (by omega) (by omega) (by omega) (by rw [hzb]; omega) (by rw [hzb, hsum]; exact growslice_fits (by omega) (by omega))
         rw [hsum, hC, hcur1, hW1] at this
         exact this
       have hH : W1.heap[w.heap.size]? = some (.cells cur1 32 (0, 0)) := by rw [← hW1]; exact heap_alloc_new w.drew _
       have hold : ∀ k, k < w.heap.size → W1.heap[k]? = w.heap[k]? := fun k hk => by rw [← hW1]; exact heap_alloc_old w.drew _ hk
       have hgl := (Array.getElem?_eq_some_iff.1 hg).1
       have hvl := (Array.getElem?_eq_some_iff.1 hvb).1
       obtain ⟨W2, hW2⟩ : ∃ W2, W1.setRow w.heap.size (splice cur1.toList (i * 3) news.toList).toArray = W2 := ⟨_, rfl⟩
       have hcp1 : ∀ ty, (Builtin.copy_ #[49, 49] ty #[.slice (some ⟨w.heap.size, i * 3, none⟩) (n + 1 - i) (C - i), .slice (some ⟨vb, 0, none⟩) 1 1]).run Tryz.prog W1 = .ok (goInt (Nat.min 1 (n + 1 - i))) W2 := fun ty => by
         rw [← hW2]
         have := run_copy_row W1 49 49 ty 32 i0 Tryz.underlying49 hi0 w.heap.size (i * 3) (n + 1 - i) (C - i) cur1 hH ⟨vb, 0, none⟩ 1 1 news.toList (by rw [hnl, hzs, nmin (by omega)]) (hnewc W1 (hold vb hvl)) (by rw [hnl, hs1]; omega) h1
         try simp only [Nat.mul_one] at this ⊢
         exact this
       have hH2 : W2.heap[w.heap.size]? = some (.cells (splice cur1.toList (i * 3) news.toList).toArray 32 (0, 0)) := by rw [← hW2]; exact setRow_heap W1 _ cur1 _ 32 _ hH
       have hold2 : ∀ k, k < w.heap.size → W2.heap[k]? = w.heap[k]? := fun k hk => by rw [← hW2, setRow_other _ _ _ _ (by omega)]; exact hold k hk
       obtain ⟨cur2, hcur2⟩ : ∃ c, (splice cur1.toList (i * 3) news.toList) = c := ⟨_, rfl⟩
       rw [hcur2] at hH2
       have hs2 : cur2.length = C * 3 := by rw [← hcur2, splice_len (by rw [hnl]; simp [hs1] <;> omega)]; simp [hs1]
       obtain ⟨W3, hW3⟩ : ∃ W3, W2.drew.setRow w.heap.size (splice cur2 ((i + 1) * 3) (xs.drop (i * 3))).toArray = W3 := ⟨_, rfl⟩
       have hcp2 : ∀ ty, (Builtin.copy_ #[49, 49] ty #[.slice (some ⟨w.heap.size, (i + 1) * 3, none⟩) (n + 1 - (i + 1)) (C - (i + 1)), .slice (some ⟨g, i * 3, none⟩) (n - i) (cap - i)]).run Tryz.prog W2.drew = .ok (goInt (Nat.min (n - i) (n + 1 - (i + 1)))) W3 := fun ty => by
         have := run_copy_row W2.drew 49 49 ty 32 i0 Tryz.underlying49 hi0 w.heap.size ((i + 1) * 3) (n + 1 - (i + 1)) (C - (i + 1)) cur2.toArray hH2 ⟨g, i * 3, none⟩ (n - i) (cap - i) (xs.drop (i * 3)) (by rw [hl2, hzs, nmin (by omega)])
           (fun j u hu => by
             rw [Addr.add_lit, cell_of_row W2.drew g _ cur 32 (0, 0) ((hold2 g hgl).trans hg), ← cell_of_row w g _ cur 32 (0, 0) hg]
             exact hR.cell rfl _ u (by rwa [List.getElem?_drop] at hu))
           (by rw [hl2]; simp [hs2] <;> omega) (fun u hu => hR1 u (List.mem_of_mem_drop hu))
         rw [← hW3]
         try simp only [Nat.mul_one] at this ⊢
         exact this
       have hnr : ¬ (n + 1 ≤ cap) := hroom
       go_enter Tryz.func50, Tryz.ntmps50
       go_wp2_with (first | (at_builtin; refine Lib.wpList_append_run _ rfl _ _ _ _ rfl _ _ rfl rfl _ _ (hrun _) ?_) | (at_builtin; refine wpList_copy_runI _ rfl _ _ 49 49 rfl _ _ rfl rfl (hcp1 _) ?_))
       have hb1 : (0 : Int) ≤ (i : Int) + 1 := by omega
       have hb2 : ¬ (C = i + 1) := by omega
       have hb3 : (i : Int) ≤ (n : Int) := by omega
       have hb4 : ¬ (cap = i) := by omega
       have htn : ((i : Int) + 1).toNat = i + 1 := by omega
       go_region_law_o (refine step_copy_runI rfl _ _ 49 49 rfl _ _ (by simp [Act.eval, Act.put]) (by simp [Act.eval, Act.put]) (hcp2 _) ?_)
       go_wp2
       go_ret
       have hl3 : (xs.take (i * 3) ++ news.toList ++ xs.drop (i * 3)).length = (n + 1) * 3 := by
         rw [List.length_append, List.length_append, hl1, hl2, hnl]
         omega
       refine ⟨_, rfl, ⟨hl3, ?_, .inr ⟨_, C, (splice cur2 ((i + 1) * 3) (xs.drop (i * 3))).toArray, rfl, ?_, hge, hle, ?_, ?_⟩⟩, ⟨?_, ?_, ?_, ?_, ?_⟩, .inr ⟨_, rfl, Nat.le_refl _⟩, by simp⟩
       · intro u hu
         rcases List.mem_append.1 hu with hu | hu
         · rcases List.mem_append.1 hu with hu | hu
           · exact hR1 u (List.mem_of_mem_take hu)
           · exact h1 u hu
         · exact hR1 u (List.mem_of_mem_drop hu)
       · rw [← hW3]
         exact setRow_heap W2.drew _ cur2.toArray _ 32 _ hH2
       · rw [List.size_toArray, splice_len (by rw [hl2, hs2]; omega), hs2]
         exact Nat.le_refl _
       · show (splice cur2 ((i + 1) * 3) (xs.drop (i * 3))).take ((n + 1) * 3) = _
         rw [show (n + 1) * 3 = (i + 1) * 3 + (xs.drop (i * 3)).length by rw [hl2]; omega, splice_take_end (by rw [hs2]; omega), ← hcur2,
           show (i + 1) * 3 = i * 3 + news.toList.length by rw [hnl]; omega, splice_take_end (by simp [hs1] <;> omega), ht1]
       · rw [← hW3, ← hW2, ← hW1]; rfl
       · rw [← hW3, ← hW2, ← hW1]; rfl
       · rw [← hW3, ← hW2, ← hW1]; rfl
       · rw [← hW3, ← hW2, ← hW1]; simp
       · intro k hk _
         rw [← hW3, setRow_other _ _ _ _ (by omega)]
         exact hold2 k hk
end Go.Proofs.Kb
end
section
namespace Go.Proofs.Kb
open Go Go.RowKit Go.Lib Go.Shelf
set_option maxRecDepth 100000
set_option maxHeartbeats 2000000 in
theorem clone41 (w : World) (a : Addr) (n c : Nat) (xs : List Value) (hx : xs.length = n * 3) (hcell : ∀ j u, xs[j]? = some u → w.cell? (a.add j) = some u) (h1 : ∀ u ∈ xs, u.oneCell' = true) (hn : n < 1000000) :
   Calls Tryz.prog 55 #[.slice (some a) n c] w fun e w' => ∃ k cap, e = .returned (.slice (some ⟨k, 0, none⟩) n cap) ∧ w.heap.size ≤ k ∧ Row w' 32 3 (.slice (some ⟨k, 0, none⟩) n cap) n xs ∧ Below w.heap.size w w' := by
 have mixed : Tryz.prog.follows Departure.mixedOrders = true := by kernel_rfl
 have q22 : ∀ (w : World) (a : Option Addr) (n c n' c' : Nat), (binOp .eql 49 (.slice a n c) (.slice none n' c')).run Tryz.prog w = .ok (.bool a.isNone) w := fun w a n c n' c' => Lib.run_eql_slice_nil w _ _ a n c n' c' Tryz.underlying49
 obtain ⟨i0, hi0, hz0, hzs, hzb⟩ := info_parts ins44_info
 obtain ⟨W0, hW0⟩ : ∃ W0, w.alloc (.cells #[] 32) = W0 := ⟨_, rfl⟩
 have hb0 : Below w.heap.size w W0 := by rw [← hW0]; exact (Below.refl _ _).alloc (Nat.le_refl _) _
 have hs0 : W0.heap.size = w.heap.size + 1 := by rw [← hW0]; simp
 have hH0 : W0.heap[w.heap.size]? = some (.cells #[] 32 (0, 0)) := by rw [← hW0]; exact heap_alloc_new w _
 have hcell0 : ∀ j u, xs[j]? = some u → W0.cell? (a.add j) = some u := fun j u hu => by
   have h := hcell j u hu
   exact (hb0.cell (World.block_lt_of_cell? w _ h)).trans h
 by_cases h0 : n = 0
 · subst h0
   have hx0 : xs = [] := List.eq_nil_of_length_eq_zero (by simpa using hx)
   subst hx0
   have hrun : ∀ ty, (Builtin.append_ #[49, 49] ty #[.slice (some ⟨w.heap.size, 0, none⟩) 0 0, .slice (some a) 0 c]).run Tryz.prog W0 = _ := fun ty =>
     run_append_room W0 49 ty 32 i0 Tryz.underlying49 hi0 w.heap.size 0 0 #[] hH0 a 0 c [] (by simp) (by simp) (by simp) (by simp) (by simp)
   go_enter Tryz.func55, Tryz.ntmps55
   go_wp2_with (first | (at_builtin; refine Lib.wpList_append_run _ rfl _ _ _ _ rfl _ _ rfl rfl _ _ (hrun _) ?_))
   go_ret
   refine ⟨_, _, rfl, Nat.le_refl _, ⟨by simp, by simp, .inr ⟨_, _, #[], rfl, ?_, Nat.le_refl _, by simp [maxLen], by simp, by simp⟩⟩, ?_⟩
   · exact setRow_heap W0 _ #[] _ 32 _ hH0
   · exact hb0.trans (Below.grown (Below.refl _ _) (grown_set W0 _ _) (by omega) (fun k e => by simp at e; omega))
 · have hrun : ∀ ty, (Builtin.append_ #[49, 49] ty #[.slice (some ⟨w.heap.size, 0, none⟩) 0 0, .slice (some a) n c]).run Tryz.prog W0 = _ := fun ty =>
     run_append_grow W0 49 ty 32 i0 _ Tryz.underlying49 hi0 hz0 ⟨w.heap.size, 0, none⟩ 0 0 [] (by simp) (by simp) a n c xs (by rw [hx, hzs]) hcell0 (by omega) (by omega) (by rw [hzb]; exact growslice_fits (by omega) (by omega))
   have hge := grownCap_ge W0 (0 + n) 0 32
   have hle := grownCap_le_maxLen W0 (0 + n) 0 32 (by simp only [maxLen]; omega)
   obtain ⟨C, hC⟩ : ∃ C, grownCap W0 (0 + n) 0 32 = C := ⟨_, rfl⟩
   rw [hC] at hge hle hrun
   obtain ⟨W1, hW1⟩ : ∃ W1, W0.drew.alloc (.cells (([] : List Value).toArray ++ xs.toArray ++ Builtin.zeroCells (.agg #[.int .i64 0, .string ⟨#[]⟩, .string ⟨#[]⟩] : Value).cells (C - (0 + n))) 32) = W1 := ⟨_, rfl⟩
   rw [hW1, Nat.zero_add] at hrun
   rw [Nat.zero_add] at hge
   have hz5 : ¬ (n = 0) := h0
   go_enter Tryz.func55, Tryz.ntmps55
   go_wp2_with (first | (at_builtin; refine Lib.wpList_append_run _ rfl _ _ _ _ rfl _ _ rfl rfl _ _ (hrun _) ?_))
   go_ret
   refine ⟨_, _, rfl, by omega, ⟨hx, h1, .inr ⟨_, C, _, rfl, by rw [← hW1, show w.heap.size + 1 = W0.drew.heap.size by simp [hs0]]; exact heap_alloc_new W0.drew _, hge, hle, ?_, ?_⟩⟩, ?_⟩
   · simp [size_zeroCells, Value.cells, hx] <;> omega
   · simp only [Array.toList_append, List.nil_append]
     rw [← hx, List.take_left]
   · rw [← hW1]
     exact hb0.trans ((Below.refl _ W0).drew.alloc (by simp; omega) _)
theorem clone41_nil (w : World) : Calls Tryz.prog 55 #[.slice none 0 0] w fun e w' => e = .returned (.slice none 0 0) ∧ w' = w := by
 have q22 : ∀ (w : World) (a : Option Addr) (n c n' c' : Nat), (binOp .eql 49 (.slice a n c) (.slice none n' c')).run Tryz.prog w = .ok (.bool a.isNone) w := fun w a n c n' c' => Lib.run_eql_slice_nil w _ _ a n c n' c' Tryz.underlying49
 go_enter Tryz.func55, Tryz.ntmps55
 go_wp2
 go_ret
 exact ⟨rfl, rfl⟩
end Go.Proofs.Kb
end
section
namespace Go.Proofs.Kb
open Go Go.RowKit Go.Proofs.YtkcjcdkmdooofaaGreat.Q Go.Proofs.YtkcjcdkmdooofaaGreatW.PrintWords Go.Proofs.YtkcjcdkmdooofaaGreatW.PrintLast Go.Proofs.YtkcjcdkmdooofaaGreatW.PrintMore
set_option maxRecDepth 100000
open Go.Proofs.Lk
instance : DecidableEq S32 := fun a b => match a, b with
 | ⟨a0, a1, a2⟩, ⟨b0, b1, b2⟩ => if h0 : a0 = b0 then if h1 : a1 = b1 then if h2 : a2 = b2 then isTrue (by rw [h0, h1, h2]) else isFalse (fun e => h2 (by injection e)) else isFalse (fun e => h1 (by injection e)) else isFalse (fun e => h0 (by injection e))
theorem bl_irr : ∀ x : List UInt8, Op.bytesLess x x = false
 | [] => rfl
 | a :: x => by
   simp [Op.bytesLess, bl_irr x]
theorem bl_trans : ∀ x y z : List UInt8, Op.bytesLess x y = true → Op.bytesLess y z = true → Op.bytesLess x z = true
 | [], [], z, h, _ => by simp [Op.bytesLess] at h
 | [], b :: y, [], _, h => by simp [Op.bytesLess] at h
 | [], b :: y, c :: z, _, _ => rfl
 | a :: x, [], z, h, _ => by simp [Op.bytesLess] at h
 | a :: x, b :: y, [], _, h => by simp [Op.bytesLess] at h
 | a :: x, b :: y, c :: z, h1, h2 => by
   simp only [Op.bytesLess, Bool.or_eq_true, decide_eq_true_eq, Bool.and_eq_true, beq_iff_eq] at h1 h2 ⊢
   rcases h1 with h1 | ⟨rfl, h1⟩
   · rcases h2 with h2 | ⟨rfl, h2⟩
     · exact .inl (UInt8.lt_trans h1 h2)
     · exact .inl h1
   · rcases h2 with h2 | ⟨rfl, h2⟩
     · exact .inl h2
     · exact .inr ⟨rfl, bl_trans x y z h1 h2⟩
theorem bl_tri : ∀ x y : List UInt8, Op.bytesLess x y = true ∨ x = y ∨ Op.bytesLess y x = true
 | [], [] => .inr (.inl rfl)
 | [], b :: y => .inl rfl
 | a :: x, [] => .inr (.inr rfl)
 | a :: x, b :: y => by
   simp only [Op.bytesLess, Bool.or_eq_true, decide_eq_true_eq, Bool.and_eq_true, beq_iff_eq, List.cons.injEq]
   by_cases h : a = b
   · subst h
     rcases bl_tri x y with h | h | h
     · exact .inl (.inr ⟨rfl, h⟩)
     · exact .inr (.inl ⟨rfl, h⟩)
     · exact .inr (.inr (.inr ⟨rfl, h⟩))
   · rcases Nat.lt_or_ge a.toNat b.toNat with h1 | h1
     · exact .inl (.inl (UInt8.lt_iff_toNat_lt.2 h1))
     · refine .inr (.inr (.inl (UInt8.lt_iff_toNat_lt.2 (Nat.lt_of_le_of_ne h1 fun e => h (UInt8.toNat_inj.1 e.symm)))))
theorem toList_inj {a b : ByteArray} (h : a.toList = b.toList) : a = b := by
 rw [Lib.toList_data, Lib.toList_data] at h
 exact ByteArray.ext (Array.toList_inj.1 h)
theorem cmpB_cases (a b : ByteArray) : (cmpB a b = -1 ∧ Op.bytesLess a.toList b.toList = true) ∨ (cmpB a b = 0 ∧ a = b) ∨ (cmpB a b = 1 ∧ Op.bytesLess b.toList a.toList = true) := by
 unfold cmpB
 rcases bl_tri a.toList b.toList with h | h | h
 · exact .inl ⟨by rw [if_pos h], h⟩
 · have := toList_inj h
   subst this
   exact .inr (.inl ⟨by rw [if_neg (by simp [bl_irr]), if_pos (by simp)], rfl⟩)
 · have h1 : ¬ Op.bytesLess a.toList b.toList = true := fun h2 => by
     have := bl_trans _ _ _ h h2
     rw [bl_irr] at this
     cases this
   have h2 : ¬ (a.toList == b.toList) = true := fun h2 => by
     rw [beq_iff_eq] at h2
     rw [h2, bl_irr] at h
     cases h
   exact .inr (.inr ⟨by rw [if_neg h1, if_neg h2], h⟩)
def cmpI (a b : Int) : Int := if a < b then -1 else if a > b then 1 else 0
theorem cmpI_cases (a b : Int) : (cmpI a b = -1 ∧ a < b) ∨ (cmpI a b = 0 ∧ a = b) ∨ (cmpI a b = 1 ∧ b < a) := by
 unfold cmpI
 by_cases h : a < b
 · exact .inl ⟨if_pos h, h⟩
 · by_cases h2 : a > b
   · exact .inr (.inr ⟨by rw [if_neg h, if_pos h2], h2⟩)
   · exact .inr (.inl ⟨by rw [if_neg h, if_neg h2], by omega⟩)
def ord (a b : S32) : Int := if cmpI a.f0 b.f0 = 0 then (if cmpB a.f1 b.f1 = 0 then cmpB a.f2 b.f2 else cmpB a.f1 b.f1) else cmpI a.f0 b.f0
theorem cmpInt_some (a b : Int) : cmp_Compare_int.f a b = some (cmpI a b) := by
 unfold cmp_Compare_int.f cmp_isNaN_int.f cmpI
 simp
 split <;> (try split) <;> rfl
theorem or_some (x y z : Int) : cmp_Or_int.f 4 [x, y, z] = some (if x = 0 then (if y = 0 then z else y) else x) := by
 have h0 : rd [x, y, z] 0 = x := rfl
 have h1 : rd [x, y, z] 1 = y := rfl
 have h2 : rd [x, y, z] 2 = z := rfl
 have w1 : wrap64 (0 + 1) = 1 := by unfold wrap64; omega
 have w2 : wrap64 (1 + 1) = 2 := by unfold wrap64; omega
 have w3 : wrap64 (2 + 1) = 3 := by unfold wrap64; omega
 have hl : (([x, y, z] : List Int).length : Int) = 3 := rfl
 unfold cmp_Or_int.f
 rw [hl]
 simp only [cmp_Or_int.l0, h0, h1, h2, w1, w2, w3, hl]
 by_cases hx : x = 0 <;> by_cases hy : y = 0 <;> by_cases hz : z = 0 <;> simp [hx, hy, hz]
theorem order_some (a b : S32) : lock_order.f 4 a.f0 a.f1 a.f2 b.f0 b.f1 b.f2 = some (ord a b) := by
 unfold lock_order.f cmp_Compare_string.f
 simp only [cmpInt_some, or_some, Option.bind_some]
 rfl
theorem cmpB_lt0 (a b : ByteArray) : cmpB a b < 0 ↔ Op.bytesLess a.toList b.toList = true := by
 rcases cmpB_cases a b with ⟨h1, h2⟩ | ⟨h1, h2⟩ | ⟨h1, h2⟩
 · rw [h1]; simp [h2]
 · rw [h1, h2, bl_irr]; simp
 · rw [h1]
   constructor
   · intro h; omega
   · intro h
     have := bl_trans _ _ _ h h2
     rw [bl_irr] at this
     cases this
theorem cmpB_zero (a b : ByteArray) : cmpB a b = 0 ↔ a = b := by
 rcases cmpB_cases a b with ⟨h1, h2⟩ | ⟨h1, h2⟩ | ⟨h1, h2⟩
 · rw [h1]
   constructor
   · intro h; omega
   · intro h
     rw [h, bl_irr] at h2
     cases h2
 · rw [h1]; simp [h2]
 · rw [h1]
   constructor
   · intro h; omega
   · intro h
     rw [h, bl_irr] at h2
     cases h2
theorem cmpI_lt0 (a b : Int) : cmpI a b < 0 ↔ a < b := by
 rcases cmpI_cases a b with ⟨h1, h2⟩ | ⟨h1, h2⟩ | ⟨h1, h2⟩ <;> rw [h1] <;> omega
theorem cmpI_zero (a b : Int) : cmpI a b = 0 ↔ a = b := by
 rcases cmpI_cases a b with ⟨h1, h2⟩ | ⟨h1, h2⟩ | ⟨h1, h2⟩ <;> rw [h1] <;> omega
def ltT (a b : S32) : Prop := ord a b < 0
instance (a b : S32) : Decidable (ltT a b) := inferInstanceAs (Decidable (ord a b < 0))
theorem ltT_iff (a b : S32) : ltT a b ↔ a.f0 < b.f0 ∨ (a.f0 = b.f0 ∧ (Op.bytesLess a.f1.toList b.f1.toList = true ∨ (a.f1 = b.f1 ∧ Op.bytesLess a.f2.toList b.f2.toList = true))) := by
 unfold ltT ord
 by_cases h0 : a.f0 = b.f0
 · rw [if_pos ((cmpI_zero _ _).2 h0)]
   by_cases h1 : a.f1 = b.f1
   · rw [if_pos ((cmpB_zero _ _).2 h1), cmpB_lt0, h0, h1, bl_irr]
     simp
   · rw [if_neg (fun e => h1 ((cmpB_zero _ _).1 e)), cmpB_lt0, h0]
     simp [h1]
 · rw [if_neg (fun e => h0 ((cmpI_zero _ _).1 e)), cmpI_lt0]
   simp [h0]
theorem ltT_trans {a b c : S32} (h1 : ltT a b) (h2 : ltT b c) : ltT a c := by
 rw [ltT_iff] at h1 h2 ⊢
 rcases h1 with h1 | ⟨h1, h1'⟩
 · rcases h2 with h2 | ⟨h2, _⟩
   · exact .inl (by omega)
   · exact .inl (by omega)
 · rcases h2 with h2 | ⟨h2, h2'⟩
   · exact .inl (by omega)
   · refine .inr ⟨by omega, ?_⟩
     rcases h1' with h1' | ⟨e1, h1'⟩
     · rcases h2' with h2' | ⟨e2, _⟩
       · exact .inl (bl_trans _ _ _ h1' h2')
       · exact .inl (e2 ▸ h1')
     · rcases h2' with h2' | ⟨e2, h2'⟩
       · exact .inl (e1 ▸ h2')
       · exact .inr ⟨e1.trans e2, bl_trans _ _ _ h1' h2'⟩
theorem ltT_irr (a : S32) : ¬ ltT a a := by
 rw [ltT_iff, bl_irr, bl_irr]
 simp
theorem ord_zero (a b : S32) : ord a b = 0 ↔ a = b := by
 constructor
 · intro h
   unfold ord at h
   by_cases h0 : cmpI a.f0 b.f0 = 0
   · rw [if_pos h0] at h
     by_cases h1 : cmpB a.f1 b.f1 = 0
     · rw [if_pos h1] at h
       obtain ⟨a0, a1, a2⟩ := a
       obtain ⟨b0, b1, b2⟩ := b
       have e0 : a0 = b0 := (cmpI_zero _ _).1 h0
       have e1 : a1 = b1 := (cmpB_zero _ _).1 h1
       have e2 : a2 = b2 := (cmpB_zero _ _).1 h
       rw [e0, e1, e2]
     · rw [if_neg h1] at h
       exact absurd h h1
   · rw [if_neg h0] at h
     exact absurd h h0
 · rintro rfl
   unfold ord
   rw [if_pos ((cmpI_zero _ _).2 rfl), if_pos ((cmpB_zero _ _).2 rfl)]
   exact (cmpB_zero _ _).2 rfl
theorem ltT_tri (a b : S32) : ltT a b ∨ a = b ∨ ltT b a := by
 simp only [ltT_iff]
 rcases Int.lt_trichotomy a.f0 b.f0 with h | h | h
 · exact .inl (.inl h)
 · rcases bl_tri a.f1.toList b.f1.toList with h1 | h1 | h1
   · exact .inl (.inr ⟨h, .inl h1⟩)
   · rcases bl_tri a.f2.toList b.f2.toList with h2 | h2 | h2
     · exact .inl (.inr ⟨h, .inr ⟨toList_inj h1, h2⟩⟩)
     · refine .inr (.inl ?_)
       obtain ⟨a0, a1, a2⟩ := a
       obtain ⟨b0, b1, b2⟩ := b
       rw [show a0 = b0 from h, show a1 = b1 from toList_inj h1, show a2 = b2 from toList_inj h2]
     · exact .inr (.inr (.inr ⟨h.symm, .inr ⟨(toList_inj h1).symm, h2⟩⟩))
   · exact .inr (.inr (.inr ⟨h.symm, .inl h1⟩))
 · exact .inr (.inr (.inl h))
def thgV (x : S32) : Value := .agg #[.int .i64 x.f0, .string x.f1, .string x.f2]
def thgE : EncT S32 := ⟨32, 3, fun x => [.int .i64 x.f0, .string x.f1, .string x.f2], fun x => rfl, fun x u hu => by
 simp only [List.mem_cons, List.not_mem_nil, or_false] at hu
 rcases hu with rfl | rfl | rfl <;> rfl⟩
noncomputable def thgI : InfoX Tryz.prog thgE 49 := Classical.choice (infoX_of Tryz.underlying49 ins44_info (by simp [Value.cells, thgE]) (by decide) (by decide))
abbrev rowTC := rowXC thgE
theorem RowX.thg {w : World} {g n c : Nat} {l : List S32} (h : RowX thgE w (.slice (some ⟨g, 0, none⟩) n c) l) {i : Nat} {x : S32} (hx : l[i]? = some x) :
   w.cell? ⟨g, i * 3, none⟩ = some (.int .i64 x.f0) ∧ w.cell? ⟨g, i * 3 + 1, none⟩ = some (.string x.f1) ∧ w.cell? ⟨g, i * 3 + 2, none⟩ = some (.string x.f2) :=
 ⟨h.cell hx 0 (by decide) _ rfl, h.cell hx 1 (by decide) _ rfl, h.cell hx 2 (by decide) _ rfl⟩
theorem RowX.cells {w : World} {g n c : Nat} {l : List S32} (h : RowX thgE w (.slice (some ⟨g, 0, none⟩) n c) l) (i : Nat) (hi : i < l.length) :
   w.cell? ⟨g, i * 3, none⟩ = some (.int .i64 l[i].f0) ∧ w.cell? ⟨g, i * 3 + 1, none⟩ = some (.string l[i].f1) ∧ w.cell? ⟨g, i * 3 + 2, none⟩ = some (.string l[i].f2) := h.thg (List.getElem?_eq_getElem hi)
def low (ks : List S32) (e : S32) : Nat := (ks.takeWhile fun x => decide (ord x e < 0)).length
theorem low_le (ks : List S32) (e : S32) : low ks e ≤ ks.length := (List.takeWhile_sublist _).length_le
theorem low_is : ∀ (ks : List S32) (e : S32) (i : Nat), i ≤ ks.length → (∀ a (h : a < ks.length), a < i → ord ks[a] e < 0) → (∀ a (h : a < ks.length), i ≤ a → ¬ ord ks[a] e < 0) → low ks e = i
 | [], e, i, hi, _, _ => by simp at hi; subst hi; rfl
 | x :: ks, e, 0, hi, h1, h2 => by
   have := h2 0 (by simp) (Nat.le_refl _)
   simp at this
   unfold low
   rw [List.takeWhile_cons, if_neg (by simp; omega)]
   rfl
 | x :: ks, e, i + 1, hi, h1, h2 => by
   have hx := h1 0 (by simp) (by omega)
   simp at hx
   have := low_is ks e i (by simp at hi; omega) (fun a h ha => by have := h1 (a + 1) (by simp; omega) (by omega); simpa using this) (fun a h ha => by have := h2 (a + 1) (by simp; omega) (by omega); simpa using this)
   unfold low at this ⊢
   rw [List.takeWhile_cons, if_pos (by simpa using hx), List.length_cons, this]
def found (ks : List S32) (e : S32) : Bool := if h : low ks e < ks.length then decide (ord ks[low ks e] e = 0) else false
def Mono (ks : List S32) (e : S32) : Prop := ∀ a b (hb : b < ks.length) (ha : a < ks.length), a ≤ b → ord ks[b] e < 0 → ord ks[a] e < 0
theorem order_calls (a b : S32) (w : World) : Calls Tryz.prog 49 #[.agg #[.int .i64 a.f0, .string a.f1, .string a.f2], .agg #[.int .i64 b.f0, .string b.f1, .string b.f2]] w fun e w' => e = .returned (.int .i64 (ord a b)) ∧ Below w.heap.size w w' :=
 lock_order.calls 4 _ _ _ _ _ _ _ w (order_some a b)
set_option maxHeartbeats 4000000 in
theorem bsearch (w : World) (v : Value) (ks : List S32) (e : S32) (hR : RowX thgE w v ks) (hn : ks.length < 1000000) (hm : Mono ks e) :
   Calls Tryz.prog 48 #[v, .agg #[.int .i64 e.f0, .string e.f1, .string e.f2], .func (.func 49) #[] #[]] w fun E w' => E = .returned (.tuple #[.int .i64 (low ks e), .bool (found ks e)]) ∧ Below w.heap.size w w' := by
 have mixed : Tryz.prog.follows Departure.mixedOrders = true := by kernel_rfl
 have hu29 := Tryz.underlying32
 rcases hR.2.2 with ⟨rfl, hk⟩ | ⟨g, cap, cur, rfl, hg, hnc, hcm, hcs, htake⟩
 · have hk0 : ks = [] := List.eq_nil_of_length_eq_zero hk
   subst hk0
   go_enter Tryz.func48, Tryz.ntmps48
   go_wp2
   go_loopg [9, 10] 0 (fun gq v9 v10 wx => v9 = .int .i64 0 ∧ v10 = .int .i64 0 ∧ Aside0 (Below w.heap.size w wx))
   case atStart => exact ⟨rfl, rfl, ⟨(Below.refl _ w).alloc (Nat.le_refl _) _⟩⟩
   case round =>
     obtain ⟨rfl, rfl, HB⟩ := hrel
     go_wp2
     go_region
     go_wp2
     go_ret2
     exact ⟨rfl, HB.out.drew⟩
 · have HR := Aside0.mk hR
   have HM := Aside0.mk hm
   clear hR hm
   have hgl := (Array.getElem?_eq_some_iff.1 hg).1
   obtain ⟨n, hnk⟩ : ∃ n, ks.length = n := ⟨_, rfl⟩
   rw [hnk] at hn ⊢
   clear hg hnc hcm hcs htake
   go_enter Tryz.func48, Tryz.ntmps48
   go_wp2
   go_loopg [9, 10] n (fun gq v9 v10 wx => ∃ i j : Nat, v9 = .int .i64 i ∧ v10 = .int .i64 j ∧ i ≤ j ∧ j ≤ n ∧ j - i ≤ gq ∧ Aside0 (∀ a (h : a < ks.length), a < i → ord ks[a] e < 0) ∧ Aside0 (∀ a (h : a < ks.length), j ≤ a → ¬ ord ks[a] e < 0) ∧ Aside0 (Below w.heap.size w wx) ∧ Aside0 (wx.heap[w.heap.size]? = some (.cells #[.int .i64 e.f0, .string e.f1, .string e.f2] 32 (0, 0))))
   case atStart =>
     exact ⟨0, n, rfl, rfl, by omega, by omega, by omega, ⟨fun a h ha => by omega⟩, ⟨fun a h ha => by omega⟩, ⟨(Below.refl _ w).alloc (Nat.le_refl _) _⟩, ⟨heap_alloc_new w _⟩⟩
   case round =>
     obtain ⟨i, j, rfl, rfl, hij, hjn, hq, HL, HG, HB, HX⟩ := hrel
     have hxl : w.heap.size < wr.heap.size := (Array.getElem?_eq_some_iff.1 HX.out).1
     have hgl2 : g < wr.heap.size := by omega
     have b0 : wr.cell? ⟨w.heap.size, 0, none⟩ = some (.int .i64 e.f0) := (cell_of_row wr _ 0 _ 32 (0, 0) HX.out).trans rfl
     have b1 : wr.cell? ⟨w.heap.size, 1, none⟩ = some (.string e.f1) := (cell_of_row wr _ 1 _ 32 (0, 0) HX.out).trans rfl
     have b2 : wr.cell? ⟨w.heap.size, 2, none⟩ = some (.string e.f2) := (cell_of_row wr _ 2 _ 32 (0, 0) HX.out).trans rfl
     by_cases hlt : i < j
     · have hlt2 : (i : Int) < (j : Int) := by omega
       obtain ⟨h, hh⟩ : ∃ h : Nat, (i + j) / 2 = h := ⟨_, rfl⟩
       have hdiv : ((i : Int) + (j : Int)) / 2 = (h : Int) := by omega
       have hhn : h < ks.length := by omega
       have hi0 : (0 : Int) ≤ (h : Int) := by omega
       have hi1 : (h : Int) < (n : Int) := by omega
       have hc := HR.out.cells h hhn
       obtain ⟨x, hx⟩ : ∃ x, ks[h] = x := ⟨_, rfl⟩
       rw [hx] at hc
       obtain ⟨c0, c1, c2⟩ := hc
       replace c0 := (HB.out.cell (p := ⟨g, h * 3, none⟩) hgl).trans c0
       replace c1 := (HB.out.cell (p := ⟨g, h * 3 + 1, none⟩) hgl).trans c1
       replace c2 := (HB.out.cell (p := ⟨g, h * 3 + 2, none⟩) hgl).trans c2
       go_wp2
       go_region_held3 (fun w' => w'.cell? ⟨g, h * 3, none⟩ = some (.int .i64 x.f0) ∧ w'.cell? ⟨g, h * 3 + 1, none⟩ = some (.string x.f1) ∧ w'.cell? ⟨g, h * 3 + 2, none⟩ = some (.string x.f2) ∧ w'.cell? ⟨w.heap.size, 0, none⟩ = some (.int .i64 e.f0) ∧ w'.cell? ⟨w.heap.size, 1, none⟩ = some (.string e.f1) ∧ w'.cell? ⟨w.heap.size, 2, none⟩ = some (.string e.f2)) (go_keep)
         (first | (go_at_call 49; refine (order_calls x e _).mono ?_; rintro E w' ⟨rfl, hb⟩; have k0 := (hb.cell (p := ⟨g, h * 3, none⟩) hgl2).trans c0; have k1 := (hb.cell (p := ⟨g, h * 3 + 1, none⟩) hgl2).trans c1; have k2 := (hb.cell (p := ⟨g, h * 3 + 2, none⟩) hgl2).trans c2; have k3 := (hb.cell (p := ⟨w.heap.size, 0, none⟩) hxl).trans b0; have k4 := (hb.cell (p := ⟨w.heap.size, 1, none⟩) hxl).trans b1; have k5 := (hb.cell (p := ⟨w.heap.size, 2, none⟩) hxl).trans b2; have HB2 := Aside0.mk (HB.out.drew.trans (hb.mono (show w.heap.size ≤ wr.heap.size by omega))); have HX2 := Aside0.mk ((hb.block w.heap.size hxl).trans HX.out); clear hb))
       have HH := Aside0.mk hx
       obtain ⟨g1, rfl⟩ : ∃ g1, gk = g1 + 1 := ⟨gk - 1, by omega⟩
       go_wp2
       · have hneg : ord x e < 0 := by assumption
         go_roundg g1
         case measure => omega
         case rel =>
           refine ⟨h + 1, j, by go_num, rfl, by omega, by omega, by omega, ⟨fun a ha hal => ?_⟩, HG, HB2, HX2⟩
           exact HM.out a h (by omega) ha (by omega) (by rw [HH.out]; exact hneg)
       · have hneg : 0 ≤ ord x e := by assumption
         go_roundg g1
         case measure => omega
         case rel =>
           refine ⟨i, h, rfl, rfl, by omega, by omega, by omega, HL, ⟨fun a ha hal => Int.not_lt.1 fun hlt0 => ?_⟩, HB2, HX2⟩
           have := HM.out h a ha (by omega) hal hlt0
           rw [HH.out] at this
           omega
     · have hlt2 : ¬ (i : Int) < (j : Int) := by omega
       have hlow : low ks e = i := low_is ks e i (by omega) HL.out (fun a h ha => HG.out a h (by omega))
       have HLOW := Aside0.mk hlow
       clear hlow
       by_cases hin : i < n
       · have hin2 : (i : Int) < (n : Int) := by omega
         have hi0 : (0 : Int) ≤ (i : Int) := by omega
         have hik : i < ks.length := by omega
         have hc := HR.out.cells i hik
         have hf : found ks e = decide (ord ks[i] e = 0) := by
           unfold found
           simp only [low_is ks e i (by omega) HL.out (fun a h ha => HG.out a h (by omega))]
           rw [dif_pos hik]
         obtain ⟨x, hx⟩ : ∃ x, ks[i] = x := ⟨_, rfl⟩
         rw [hx] at hc hf
         have HF := Aside0.mk hf
         clear hf
         obtain ⟨c0, c1, c2⟩ := hc
         replace c0 := (HB.out.cell (p := ⟨g, i * 3, none⟩) hgl).trans c0
         replace c1 := (HB.out.cell (p := ⟨g, i * 3 + 1, none⟩) hgl).trans c1
         replace c2 := (HB.out.cell (p := ⟨g, i * 3 + 2, none⟩) hgl).trans c2
         go_wp2
         go_region_held3 (fun w' => w'.cell? ⟨g, i * 3, none⟩ = some (.int .i64 x.f0) ∧ w'.cell? ⟨g, i * 3 + 1, none⟩ = some (.string x.f1) ∧ w'.cell? ⟨g, i * 3 + 2, none⟩ = some (.string x.f2) ∧ w'.cell? ⟨w.heap.size, 0, none⟩ = some (.int .i64 e.f0) ∧ w'.cell? ⟨w.heap.size, 1, none⟩ = some (.string e.f1) ∧ w'.cell? ⟨w.heap.size, 2, none⟩ = some (.string e.f2)) (go_keep)
           (first | (go_at_call 49; refine (order_calls x e _).mono ?_; rintro E w' ⟨rfl, hb⟩; have k0 := (hb.cell (p := ⟨g, i * 3, none⟩) hgl2).trans c0; have k1 := (hb.cell (p := ⟨g, i * 3 + 1, none⟩) hgl2).trans c1; have k2 := (hb.cell (p := ⟨g, i * 3 + 2, none⟩) hgl2).trans c2; have k3 := (hb.cell (p := ⟨w.heap.size, 0, none⟩) hxl).trans b0; have k4 := (hb.cell (p := ⟨w.heap.size, 1, none⟩) hxl).trans b1; have k5 := (hb.cell (p := ⟨w.heap.size, 2, none⟩) hxl).trans b2; have HB2 := Aside0.mk (HB.out.drew.trans (hb.mono (show w.heap.size ≤ wr.heap.size by omega))); have HX2 := Aside0.mk ((hb.block w.heap.size hxl).trans HX.out); clear hb))
         go_wp2
         go_ret2
         exact ⟨by rw [HLOW.out, HF.out]; rfl, HB2.out⟩
       · have hin2 : ¬ (i : Int) < (n : Int) := by omega
         have hf : found ks e = false := by
           unfold found
           simp only [low_is ks e i (by omega) HL.out (fun a h ha => HG.out a h (by omega))]
           rw [dif_neg (by omega)]
         have HF := Aside0.mk hf
         clear hf
         go_wp2
         go_region
         go_wp2
         go_ret2
         exact ⟨by rw [HLOW.out, HF.out]; rfl, HB.out.drew⟩
def Sorted (l : List S32) : Prop := l.Pairwise ltT
theorem Sorted.mono {l : List S32} (h : Sorted l) (e : S32) : Mono l e := fun a b hb ha hab hlt => by
 rcases Nat.lt_or_ge a b with h1 | h1
 · exact ltT_trans (List.pairwise_iff_getElem.1 h a b ha hb h1) hlt
 · obtain rfl : a = b := by omega
   exact hlt
theorem low_lt {l : List S32} (e : S32) : ∀ x ∈ l.take (low l e), ltT x e := by
 unfold low
 induction l with
 | nil => simp
 | cons y l ih =>
   rw [List.takeWhile_cons]
   split
   · rename_i h
     intro x hx
     rw [List.length_cons, List.take_succ_cons] at hx
     rcases List.mem_cons.1 hx with rfl | hx
     · exact of_decide_eq_true h
     · exact ih x hx
   · simp
theorem low_ge {l : List S32} (h : Sorted l) (e : S32) : ∀ x ∈ l.drop (low l e), ¬ ltT x e := by
 induction l with
 | nil => simp
 | cons y l ih =>
   have hp := List.pairwise_cons.1 h
   have ih := ih hp.2
   unfold low at ih ⊢
   rw [List.takeWhile_cons]
   split
   · rw [List.length_cons, List.drop_succ_cons]
     exact ih
   · rename_i hd
     intro x hx
     rw [List.length_nil, List.drop_zero] at hx
     have hy : ¬ ltT y e := fun hh => hd (decide_eq_true hh)
     rcases List.mem_cons.1 hx with rfl | hx
     · exact hy
     · exact fun hxe => hy (ltT_trans (hp.1 x hx) hxe)
theorem found_mem {l : List S32} {e : S32} (h : found l e = true) : e ∈ l := by
 unfold found at h
 split at h
 · rename_i hl
   have := (ord_zero _ _).1 (of_decide_eq_true h)
   rw [← this]
   exact List.getElem_mem hl
 · cases h
theorem found_of {l : List S32} (hs : Sorted l) {e : S32} (h : e ∈ l) : found l e = true := by
 have h2 : e ∈ l.drop (low l e) := by
   rw [← List.take_append_drop (low l e) l] at h
   rcases List.mem_append.1 h with h | h
   · exact absurd (low_lt e e h) (ltT_irr e)
   · exact h
 have hl : low l e < l.length := by
   rcases Nat.lt_or_ge (low l e) l.length with h3 | h3
   · exact h3
   · rw [List.drop_eq_nil_of_le h3] at h2
     cases h2
 unfold found
 rw [dif_pos hl]
 rw [List.drop_eq_getElem_cons hl] at h2
 rcases List.mem_cons.1 h2 with h3 | h3
 · rw [← h3]
   exact decide_eq_true ((ord_zero _ _).2 rfl)
 · have h4 : ltT l[low l e] e := by
     obtain ⟨j, hj, e2⟩ := List.getElem_of_mem h3
     rw [List.getElem_drop] at e2
     have := List.pairwise_iff_getElem.1 hs (low l e) (low l e + 1 + j) hl (by rw [List.length_drop] at hj; omega) (by omega)
     rw [e2] at this
     exact this
   exact absurd h4 (low_ge hs e _ (by rw [List.drop_eq_getElem_cons hl]; exact List.mem_cons_self))
def haddT (l : List S32) (t : S32) : List S32 := if found l t = true then l else insAt l (low l t) t
theorem mem_insAt {α : Type} {l : List α} {i : Nat} {x y : α} : y ∈ insAt l i x ↔ y = x ∨ y ∈ l := by
 unfold insAt
 have : y ∈ l ↔ y ∈ l.take i ∨ y ∈ l.drop i := by rw [← List.mem_append, List.take_append_drop]
 rw [this, List.mem_append, List.mem_cons]
 constructor
 · rintro (h | h | h)
   · exact .inr (.inl h)
   · exact .inl h
   · exact .inr (.inr h)
 · rintro (h | h | h)
   · exact .inr (.inl h)
   · exact .inl h
   · exact .inr (.inr h)
theorem mem_haddT (l : List S32) (x y : S32) : y ∈ haddT l x ↔ y = x ∨ y ∈ l := by
 unfold haddT
 split
 · rename_i h
   constructor
   · exact .inr
   · rintro (rfl | h2)
     · exact found_mem h
     · exact h2
 · exact mem_insAt
theorem insAt_len {α : Type} (l : List α) (i : Nat) (x : α) (h : i ≤ l.length) : (insAt l i x).length = l.length + 1 := by
 unfold insAt
 rw [List.length_append, List.length_cons, List.length_take, List.length_drop]
 omega
theorem haddT_len (l : List S32) (x : S32) : (haddT l x).length ≤ l.length + 1 := by
 unfold haddT
 split
 · omega
 · rw [insAt_len _ _ _ (low_le l x)]
   exact Nat.le_refl _
theorem haddT_sorted {l : List S32} (h : Sorted l) (x : S32) : Sorted (haddT l x) := by
 unfold haddT
 split
 · exact h
 · rename_i hf
   have hx : x ∉ l := fun hm => hf (found_of h hm)
   have h1 : Sorted (l.take (low l x)) := List.Pairwise.sublist (List.take_sublist _ _) h
   have h2 : Sorted (l.drop (low l x)) := List.Pairwise.sublist (List.drop_sublist _ _) h
   have hxd : ∀ y ∈ l.drop (low l x), ltT x y := fun y hy => by
     rcases ltT_tri x y with h3 | h3 | h3
     · exact h3
     · subst h3
       exact absurd (List.mem_of_mem_drop hy) hx
     · exact absurd h3 (low_ge h x y hy)
   unfold insAt Sorted
   rw [List.pairwise_append]
   refine ⟨h1, List.pairwise_cons.2 ⟨hxd, h2⟩, fun a ha b hb => ?_⟩
   have hax := low_lt x a ha
   rcases List.mem_cons.1 hb with rfl | hb
   · exact hax
   · exact ltT_trans hax (hxd b hb)
theorem insertT (w : World) (v : Value) (l : List S32) (i : Nat) (x : S32) (vb : Nat) (a : Int) (hR : RowX thgE w v l) (hi : i ≤ l.length) (hn : l.length < 1000000) (hvb : w.heap[vb]? = some (.cells #[.int .i64 x.f0, .string x.f1, .string x.f2] 32 (0, 0))) (hne : vb ∉ bl v) (ha : a = i) :
   Calls Tryz.prog 50 #[v, .int .i64 a, .slice (some ⟨vb, 0, none⟩) 1 1] w fun e w' => ∃ g c, e = .returned (.slice (some ⟨g, 0, none⟩) (l.length + 1) c) ∧ RowX thgE w' (.slice (some ⟨g, 0, none⟩) (l.length + 1) c) (insAt l i x) ∧ w.grownBy w' v.ownBlock ∧ Owns w v (.slice (some ⟨g, 0, none⟩) (l.length + 1) c) := by
 subst ha
 refine (insert44 w v l.length i (thgE.all l) vb _ hR hi hn hvb rfl (thgE.one x) (fun h => hne (bl_mem.2 h))).mono ?_
 rintro E w' ⟨v', rfl, h1, h2, h3, h4⟩
 obtain ⟨g, c, rfl, _⟩ := row_slice h1 (by omega)
 have e1 := thgE.all_take l i
 have e2 := thgE.all_drop l i
 rw [show thgE.sz = 3 from rfl] at e1 e2
 have e3 : (#[.int .i64 x.f0, .string x.f1, .string x.f2] : Array Value).toList = thgE.all [x] := by rw [thgE.all_one']; rfl
 rw [e1, e2, e3, ← thgE.all_app, ← thgE.all_app] at h1
 have e4 : l.take i ++ [x] ++ l.drop i = insAt l i x := by simp [insAt]
 rw [e4] at h1
 exact ⟨g, c, rfl, RowX.of h1 (insAt_len l i x hi) rfl, h2, h3⟩
theorem cloneT (w : World) (v : Value) (l : List S32) (h : RowX thgE w v l) (hn : l.length < 1000000) :
   Calls Tryz.prog 55 #[v] w fun E w' => ∃ v', E = .returned v' ∧ St w NoF w' [rowTC v' l] := by
 rcases h.2.2 with ⟨rfl, h0⟩ | ⟨g, c, cur, rfl, _⟩
 · have : l = [] := List.length_eq_zero_iff.1 h0
   subst this
   refine (clone41_nil w).mono ?_
   rintro E w' ⟨rfl, rfl⟩
   exact ⟨_, rfl, (St.nil0 w' NoF).fresh (Below.refl _ _) (rowTC (.slice none 0 0) []) RowX.nil (nd_bl (.slice none 0 0)) (fun b hb => by simp [rowXC, bl] at hb; cases hb)⟩
 · refine (clone41 w ⟨g, 0, none⟩ l.length c (thgE.all l) (thgE.all_len l) (row_cells h) (thgE.all_one l) hn).mono ?_
   rintro E w' ⟨k, cap, rfl, hk, hrow, hb⟩
   refine ⟨_, rfl, (St.nil0 w NoF).fresh hb (rowTC (.slice (some ⟨k, 0, none⟩) l.length cap) l) (RowX.of hrow rfl rfl) (nd_bl (.slice (some ⟨k, 0, none⟩) l.length cap)) (fun b hb => ?_)⟩
   have : b = k := by simpa [rowXC, bl_slice] using hb
   omega
end Go.Proofs.Kb
end
section
namespace Go.Proofs.Mp
open Go Go.RowKit
open Go.Maps (Keyed)
def asIs (v : Value) : Option (DataW Value × List MemPlace) := some (.held v, [])
structure KeyT (P : Program) (k : TypeId) (κ : Type) where
 law : Keyed P k
 kv : κ → Value
 wf : κ → Prop
 key : ∀ x, wf x → ∃ l, keyOf P k (kv x) = some l
 inj : ∀ x y, kv x = kv y → x = y
section
variable {P : Program} {k t e : TypeId} {κ : Type} (K : KeyT P k κ)
noncomputable def KeyT.kl (x : κ) : Lit := (keyOf P k (K.kv x)).getD (.bool false)
theorem KeyT.kl_key {x : κ} (h : K.wf x) : keyOf P k (K.kv x) = some (K.kl x) := by
 obtain ⟨l, hl⟩ := K.key x h
 unfold KeyT.kl
 rw [hl]
 rfl
theorem KeyT.kl_inj {x y : κ} (hx : K.wf x) (hy : K.wf y) (h : K.kl x = K.kl y) : x = y := K.inj x y (K.law.inj (K.kl_key hx) (h ▸ K.kl_key hy))
def atV (f : κ → Option Value) (x : κ) (z : DataW Value) : DataW Value := match f x with | some v => .held v | none => z
def HoldsV (D : DataW Value) (f : κ → Option Value) : Prop := ∀ x, K.wf x → (∀ z, D.atKey (K.kl x) z = atV f x z) ∧ Maps.has D (K.kl x) = (f x).isSome
def MapV (w : World) (b n : Nat) (f : κ → Option Value) : Prop := ∃ D : DataW Value, w.ownsMap P k asIs b n D ∧ HoldsV K D f
variable {K}
theorem MapV.made (w : World) : MapV K (w.alloc (.map #[] 0)) w.heap.size 0 fun _ => none :=
 ⟨.map [], World.ownsMap_made _ _ _ _, fun x hx => ⟨fun z => rfl, rfl⟩⟩
theorem MapV.lt {w : World} {b n : Nat} {f : κ → Option Value} (h : MapV K w b n f) : b < w.heap.size := by
 obtain ⟨D, h, _⟩ := h
 exact h.lt
theorem MapV.move {w w' : World} {b n : Nat} {f : κ → Option Value} (h : MapV K w b n f) (hm : w'.heap[b]? = w.heap[b]?) : MapV K w' b n f := by
 obtain ⟨D, ⟨es, clock, h1, h2⟩, hd⟩ := h
 exact ⟨D, ⟨es, clock, hm.trans h1, h2⟩, hd⟩
theorem asIs_inv {v : Value} {d : DataW Value} {ps : List MemPlace} (h : asIs v = some (d, ps)) : d = .held v := by
 unfold asIs at h
 cases h
 rfl
theorem MapV.lookup {w : World} {b n : Nat} {f : κ → Option Value} (h : MapV K w b n f) (ht : P.underlying t = some (.map k e)) {z : Value} (hz : (zeroValue e).run P w = .ok z w) {x : κ} (hx : K.wf x) :
   (Instr.lookup t (.map (some b)) (K.kv x) false).run P w = .ok ((f x).getD z) w := by
 obtain ⟨D, h1, h2⟩ := h
 obtain ⟨v, ps, hrun, hR⟩ := h1.lookup K.law ht hz (zd := .held z) (zp := []) rfl (K.kl_key hx)
 have e1 := asIs_inv hR
 rw [(h2 x hx).1] at e1
 unfold atV at e1
 rw [hrun]
 cases hf : f x with
 | none => rw [hf] at e1; cases e1; rfl
 | some u => rw [hf] at e1; cases e1; rfl
theorem MapV.lookup2 {w : World} {b n : Nat} {f : κ → Option Value} (h : MapV K w b n f) (ht : P.underlying t = some (.map k e)) {z : Value} (hz : (zeroValue e).run P w = .ok z w) {x : κ} (hx : K.wf x) :
   (Instr.lookup t (.map (some b)) (K.kv x) true).run P w = .ok (.tuple #[(f x).getD z, .bool (f x).isSome]) w := by
 obtain ⟨D, h1, h2⟩ := h
 obtain ⟨v, ps, hrun, hR⟩ := h1.look_ok K.law ht hz (zd := .held z) (zp := []) rfl (K.kl_key hx)
 have e1 := asIs_inv hR
 rw [(h2 x hx).1] at e1
 unfold atV at e1
 rw [hrun, (h2 x hx).2]
 cases hf : f x with
 | none => rw [hf] at e1; cases e1; rfl
 | some u => rw [hf] at e1; cases e1; rfl
theorem MapV.update {w : World} {b n : Nat} {f f' : κ → Option Value} (h : MapV K w b n f) (ht : P.underlying t = some (.map k e)) (hn : n < maxLen) {x : κ} (hx : K.wf x) (v : Value) (h1 : f' x = some v) (h2 : ∀ y, y ≠ x → f' y = f y) :
   ∃ w', (Instr.mapUpdate t (.map (some b)) (K.kv x) v).run P w = .ok () w' ∧ MapV K w' b (n + 1) f' ∧ w.grownBy w' (some b) := by
 obtain ⟨D, g1, g2⟩ := h
 obtain ⟨w', hrun, hown, hg⟩ := g1.update K.law ht hn (K.kl_key hx) (show asIs v = some (.held v, []) from rfl)
 refine ⟨w', hrun, ⟨_, hown, fun y hy => ?_⟩, hg⟩
 by_cases he : y = x
 · subst he
   refine ⟨fun z => ?_, ?_⟩
   · rw [Maps.atKey_put_same g1.isMap (K.law.key (K.kl_key hx))]
     unfold atV
     rw [h1]
   · rw [Maps.has_put_same g1.isMap (K.law.key (K.kl_key hx)), h1]
     rfl
 · have hne : K.kl y ≠ K.kl x := fun e => he (K.kl_inj hy hx e)
   refine ⟨fun z => ?_, ?_⟩
   · rw [Maps.atKey_put_other hne, (g2 y hy).1]
     unfold atV
     rw [h2 y he]
   · rw [Maps.has_put_other hne, (g2 y hy).2, h2 y he]
theorem MapV.delete {w : World} {b n : Nat} {f f' : κ → Option Value} (h : MapV K w b n f) (ht : P.underlying t = some (.map k e)) {x : κ} (hx : K.wf x) (ty : TypeId) (h1 : f' x = none) (h2 : ∀ y, y ≠ x → f' y = f y) :
   ∃ w', (Builtin.delete_ #[t, k] ty #[.map (some b), K.kv x]).run P w = .ok (.tuple #[]) w' ∧ MapV K w' b n f' ∧ w.grownBy w' (some b) := by
 obtain ⟨D, g1, g2⟩ := h
 obtain ⟨w', hrun, hown, hg⟩ := g1.drop K.law ht (K.kl_key hx) ty
 refine ⟨w', hrun, ⟨_, hown, fun y hy => ?_⟩, hg.grown⟩
 by_cases he : y = x
 · subst he
   refine ⟨fun z => ?_, ?_⟩
   · rw [Maps.atKey_del_same]
     unfold atV
     rw [h1]
   · rw [Maps.has_del_same, h1]
     rfl
 · have hne : K.kl y ≠ K.kl x := fun e => he (K.kl_inj hy hx e)
   refine ⟨fun z => ?_, ?_⟩
   · rw [Maps.atKey_del_other hne, (g2 y hy).1]
     unfold atV
     rw [h2 y he]
   · rw [Maps.has_del_other hne, (g2 y hy).2, h2 y he]
end
end Go.Proofs.Mp
end
section
namespace Go.Proofs.Lk
section
variable {α : Type} [DecidableEq α]
structure LS (α : Type) where
 rows : α → LRow
 waits : Int → Option α
 held : Int → List α
def upd {κ β : Type} [DecidableEq κ] (f : κ → β) (k : κ) (v : β) : κ → β := fun x => if x = k then v else f x
theorem upd_same {κ β : Type} [DecidableEq κ] (f : κ → β) (k : κ) (v : β) : upd f k v k = v := by simp [upd]
theorem upd_other {κ β : Type} [DecidableEq κ] {f : κ → β} {k x : κ} {v : β} (h : x ≠ k) : upd f k v x = f x := by simp [upd, h]
def LS.new : LS α := ⟨fun _ => ⟨[], []⟩, fun _ => none, fun _ => []⟩
def noted (hadd : List α → α → List α) (t : α) (s : LS α) (x : Int) : LS α := ⟨s.rows, upd s.waits x none, upd s.held x (hadd (s.held x) t)⟩
def sweepS (hadd : List α → α → List α) (s : LS α) (t : α) : LS α × List Int :=
 ((sweepR (s.rows t)).2.foldl (noted hadd t) ⟨upd s.rows t (sweepR (s.rows t)).1, s.waits, s.held⟩, (sweepR (s.rows t)).2)
def sweepsS (hadd : List α → α → List α) : List α → LS α → LS α × List Int
 | [], s => (s, [])
 | t :: ts, s => let q := sweepsS hadd ts (sweepS hadd s t).1; (q.1, (sweepS hadd s t).2 ++ q.2)
def modeOf (r : LRow) (x : Int) : Option Int := (r.holds.find? fun o => o.1 == x).map (·.2)
def wanted (r : LRow) (x m : Int) : One := match modeOf r x with | some h => (x, join h m) | none => (x, m)
def enough (r : LRow) (x m : Int) : Bool := match modeOf r x with | some h => cov h m | none => false
def askR (hadd : List α → α → List α) (s : LS α) (x : Int) (t : α) (m : Int) : LS α × Bool :=
 let r := s.rows t
 if enough r x m = true then (s, true)
 else
   let o := wanted r x m
   if rawB r o (place r x) ≠ [] then (⟨upd s.rows t ⟨r.holds, r.waits.take (place r x) ++ o :: r.waits.drop (place r x)⟩, upd s.waits x (some t), s.held⟩, false)
   else (⟨upd s.rows t ⟨give r.holds o, r.waits⟩, s.waits, upd s.held x (hadd (s.held x) t)⟩, true)
def cancelS (hadd : List α → α → List α) (s : LS α) (x : Int) : LS α × List Int :=
 match s.waits x with
 | none => (s, [])
 | some t => sweepS hadd ⟨upd s.rows t ⟨(s.rows t).holds, (s.rows t).waits.filter fun o => o.1 != x⟩, upd s.waits x none, s.held⟩ t
def allT (hadd : List α → α → List α) (s : LS α) (x : Int) : List α := match s.waits x with | none => s.held x | some t => hadd (s.held x) t
def releaseS (hadd : List α → α → List α) (s : LS α) (x : Int) : LS α × List Int :=
 sweepsS hadd (allT hadd s x) ⟨fun t => if t ∈ allT hadd s x then dropR (s.rows t) x else s.rows t, upd s.waits x none, upd s.held x []⟩
structure LInvD (D : List α) (s : LS α) : Prop where
 row : ∀ t, RInv (s.rows t)
 blk : ∀ t, t ∉ D → Blk (s.rows t) (s.rows t).waits.length
 ww : ∀ x t, s.waits x = some t ↔ has (s.rows t).waits x = true
 hh : ∀ x t, t ∈ s.held x ↔ has (s.rows t).holds x = true
abbrev LInv (s : LS α) : Prop := LInvD [] s
theorem new_inv : LInv (LS.new : LS α) :=
 ⟨fun t => ⟨List.nodup_nil, List.nodup_nil, fun _ h => (by cases h), fun _ h => (by cases h), fun _ h => (by cases h), fun _ h => (by cases h)⟩, fun t _ j hj => absurd hj (Nat.not_lt_zero _), fun x t => by simp [LS.new, has], fun x t => by simp [LS.new, has]⟩
theorem sweepA_who : ∀ (k : Nat) (r : LRow) (i : Nat) (x : Int), RInv r →
   (x ∈ (sweepA k r i).2 → has r.waits x = true) ∧ (has (sweepA k r i).1.waits x = true ↔ has r.waits x = true ∧ x ∉ (sweepA k r i).2) ∧ (has (sweepA k r i).1.holds x = true ↔ has r.holds x = true ∨ x ∈ (sweepA k r i).2)
 | 0, r, i, x, h => by simp [sweepA]
 | k + 1, r, i, x, h => by
   unfold sweepA
   cases ho : r.waits[i]? with
   | none => simp
   | some o =>
     by_cases hr : rawB r o i = []
     · simp only [hr, if_true]
       obtain ⟨h1, h2, h3⟩ := sweepA_who k _ i x (give_inv h ho hr)
       have hom := List.mem_of_getElem? ho
       have e1 : has (r.waits.eraseIdx i) x = true ↔ has r.waits x = true ∧ x ≠ o.1 := by
         rw [has_iff, has_iff]
         constructor
         · rintro ⟨w, hw, rfl⟩
           exact ⟨⟨w, (List.eraseIdx_sublist _ _).subset hw, rfl⟩, nodup_ne h.wn ho hw⟩
         · rintro ⟨⟨w, hw, rfl⟩, hne⟩
           refine ⟨w, ?_, rfl⟩
           obtain ⟨j, hj⟩ := List.getElem?_of_mem hw
           have hji : j ≠ i := fun e => by
             subst e
             rw [ho] at hj
             exact hne (by rw [Option.some.inj hj])
           exact List.mem_eraseIdx_iff_getElem?.2 ⟨j, hji, hj⟩
       have e2 : has (give r.holds o) x = true ↔ has r.holds x = true ∨ x = o.1 := by
         rw [has_iff, has_iff]
         constructor
         · rintro ⟨w, hw, rfl⟩
           rcases mem_give hw with rfl | ⟨hw, _⟩
           · exact .inr rfl
           · exact .inl ⟨w, hw, rfl⟩
         · rintro (⟨w, hw, rfl⟩ | rfl)
           · by_cases e : w.1 = o.1
             · exact ⟨o, give_self _ _, e.symm⟩
             · exact ⟨w, give_other hw e, rfl⟩
           · exact ⟨o, give_self _ _, rfl⟩
       change x ∈ (sweepA k ⟨give r.holds o, r.waits.eraseIdx i⟩ i).2 → has (r.waits.eraseIdx i) x = true at h1
       change has (sweepA k ⟨give r.holds o, r.waits.eraseIdx i⟩ i).1.waits x = true ↔ has (r.waits.eraseIdx i) x = true ∧ _ at h2
       change has (sweepA k ⟨give r.holds o, r.waits.eraseIdx i⟩ i).1.holds x = true ↔ has (give r.holds o) x = true ∨ _ at h3
       rw [e1] at h1 h2
       rw [e2] at h3
       refine ⟨fun hx => ?_, ?_, ?_⟩
       · rcases List.mem_cons.1 hx with rfl | hx
         · exact has_iff.2 ⟨o, hom, rfl⟩
         · exact (h1 hx).1
       · rw [h2, List.mem_cons]
         constructor
         · rintro ⟨⟨a, b⟩, c⟩
           exact ⟨a, fun h => h.elim b c⟩
         · rintro ⟨a, b⟩
           exact ⟨⟨a, fun e => b (.inl e)⟩, fun h => b (.inr h)⟩
       · rw [h3, List.mem_cons, or_assoc]
     · simp only [hr, if_false]
       exact sweepA_who k r (i + 1) x h
theorem noted_fold (hadd : List α → α → List α) (t : α) : ∀ (l : List Int) (s : LS α), (∀ ls x y, y ∈ hadd ls x ↔ y = x ∨ y ∈ ls) →
   (l.foldl (noted hadd t) s).rows = s.rows ∧ (∀ x, (l.foldl (noted hadd t) s).waits x = if x ∈ l then none else s.waits x) ∧ (∀ x y, y ∈ (l.foldl (noted hadd t) s).held x ↔ y ∈ s.held x ∨ (x ∈ l ∧ y = t))
 | [], s, ha => ⟨rfl, fun x => by simp, fun x y => by simp⟩
 | a :: l, s, ha => by
   obtain ⟨h1, h2, h3⟩ := noted_fold hadd t l (noted hadd t s a) ha
   refine ⟨h1, fun x => ?_, fun x y => ?_⟩
   · rw [List.foldl_cons, h2]
     by_cases e : x = a
     · subst e
       simp [noted, upd_same]
     · simp [noted, upd_other e, e]
   · rw [List.foldl_cons, h3, List.mem_cons]
     by_cases e : x = a
     · subst e
       simp only [noted, upd_same, ha, true_or, true_and]
       constructor
       · rintro ((rfl | h) | ⟨_, rfl⟩)
         · exact .inr rfl
         · exact .inl h
         · exact .inr rfl
       · rintro (h | rfl)
         · exact .inl (.inr h)
         · exact .inl (.inl rfl)
     · simp [noted, upd_other e, e]
theorem sweepS_inv {hadd : List α → α → List α} (ha : ∀ ls x y, y ∈ hadd ls x ↔ y = x ∨ y ∈ ls) {D : List α} {s : LS α} {t : α} (h : LInvD (t :: D) s) : LInvD D (sweepS hadd s t).1 := by
 obtain ⟨h1, h2, h3⟩ := noted_fold hadd t (sweepR (s.rows t)).2 ⟨upd s.rows t (sweepR (s.rows t)).1, s.waits, s.held⟩ ha
 have hg := sweepR_good (h.row t)
 have hw := fun x => sweepA_who ((s.rows t).waits.length + 1) (s.rows t) 0 x (h.row t)
 have hrows : (sweepS hadd s t).1.rows = upd s.rows t (sweepR (s.rows t)).1 := h1
 refine ⟨fun u => ?_, fun u hu => ?_, fun x u => ?_, fun x u => ?_⟩
 · rw [hrows]
   by_cases e : u = t
   · subst e
     rw [upd_same]
     exact hg.1
   · rw [upd_other e]
     exact h.row u
 · rw [hrows]
   by_cases e : u = t
   · subst e
     rw [upd_same]
     exact hg.2
   · rw [upd_other e]
     exact h.blk u (by simp [e, hu])
 · rw [show (sweepS hadd s t).1.waits x = _ from h2 x, hrows]
   obtain ⟨w1, w2, w3⟩ := hw x
   change x ∈ (sweepR (s.rows t)).2 → _ at w1
   change has (sweepR (s.rows t)).1.waits x = true ↔ _ ∧ x ∉ (sweepR (s.rows t)).2 at w2
   by_cases hx : x ∈ (sweepR (s.rows t)).2
   · rw [if_pos hx]
     have hxt := (h.ww x t).2 (w1 hx)
     constructor
     · intro e
       cases e
     · intro e
       by_cases eu : u = t
       · subst eu
         rw [upd_same] at e
         exact absurd hx (w2.1 e).2
       · rw [upd_other eu] at e
         have := (h.ww x u).2 e
         rw [hxt] at this
         exact absurd (Option.some.inj this).symm eu
   · rw [if_neg hx]
     show s.waits x = some u ↔ _
     by_cases eu : u = t
     · subst eu
       rw [upd_same, w2, h.ww x u]
       exact ⟨fun e => ⟨e, hx⟩, fun e => e.1⟩
     · rw [upd_other eu]
       exact h.ww x u
 · rw [show (u ∈ (sweepS hadd s t).1.held x) = _ from propext (h3 x u), hrows]
   obtain ⟨w1, w2, w3⟩ := hw x
   change has (sweepR (s.rows t)).1.holds x = true ↔ _ ∨ x ∈ (sweepR (s.rows t)).2 at w3
   show u ∈ s.held x ∨ _ ↔ _
   by_cases eu : u = t
   · subst eu
     rw [upd_same, w3, h.hh x u]
     simp
   · rw [upd_other eu, ← h.hh x u]
     simp [eu]
theorem sweepsS_inv {hadd : List α → α → List α} (ha : ∀ ls x y, y ∈ hadd ls x ↔ y = x ∨ y ∈ ls) : ∀ (ts : List α) (s : LS α), LInvD ts s → LInv (sweepsS hadd ts s).1
 | [], s, h => h
 | t :: ts, s, h => sweepsS_inv ha ts _ (sweepS_inv ha h)
theorem has_filter {l : List One} {x y : Int} : has (l.filter fun o => o.1 != x) y = true ↔ has l y = true ∧ y ≠ x := by
 rw [has_iff, has_iff]
 constructor
 · rintro ⟨o, ho, rfl⟩
   obtain ⟨h1, h2⟩ := List.mem_filter.1 ho
   exact ⟨⟨o, h1, rfl⟩, by simpa using h2⟩
 · rintro ⟨⟨o, ho, rfl⟩, hne⟩
   exact ⟨o, List.mem_filter.2 ⟨ho, by simpa using hne⟩, rfl⟩
theorem cancel_inv {hadd : List α → α → List α} (ha : ∀ ls x y, y ∈ hadd ls x ↔ y = x ∨ y ∈ ls) {s : LS α} (x : Int) (h : LInv s) : LInv (cancelS hadd s x).1 := by
 unfold cancelS
 cases hw : s.waits x with
 | none => exact h
 | some t =>
   refine sweepS_inv ha (D := []) ⟨fun u => ?_, fun u hu => ?_, fun y u => ?_, fun y u => ?_⟩
   · by_cases e : u = t
     · subst e
       show RInv (upd s.rows u _ u)
       rw [upd_same]
       have hr := h.row u
       exact ⟨hr.hn, hr.wn.sublist (List.filter_sublist.map _), hr.hm, fun o ho => hr.wm o (List.mem_filter.1 ho).1, hr.safe, fun w hw => hr.up w (List.mem_filter.1 hw).1⟩
     · show RInv (upd s.rows t _ u)
       rw [upd_other e]
       exact h.row u
   · have e : u ≠ t := fun e => hu (by simp [e])
     show Blk (upd s.rows t ⟨(s.rows t).holds, (s.rows t).waits.filter fun o => o.1 != x⟩ u) (upd s.rows t ⟨(s.rows t).holds, (s.rows t).waits.filter fun o => o.1 != x⟩ u).waits.length
     rw [upd_other e]
     exact h.blk u (by simp)
   · show upd s.waits x none y = some u ↔ has (upd s.rows t _ u).waits y = true
     by_cases ey : y = x
     · subst ey
       rw [upd_same]
       constructor
       · intro e; cases e
       · intro e
         by_cases eu : u = t
         · subst eu
           rw [upd_same] at e
           exact absurd rfl (has_filter.1 e).2
         · rw [upd_other eu, ← h.ww y u, hw] at e
           exact absurd (Option.some.inj e).symm eu
     · rw [upd_other ey, h.ww y u]
       by_cases eu : u = t
       · subst eu
         rw [upd_same]
         exact ⟨fun e => has_filter.2 ⟨e, ey⟩, fun e => (has_filter.1 e).1⟩
       · rw [upd_other eu]
   · show u ∈ s.held y ↔ has (upd s.rows t _ u).holds y = true
     rw [h.hh y u]
     by_cases eu : u = t
     · subst eu
       rw [upd_same]
     · rw [upd_other eu]
theorem release_inv {hadd : List α → α → List α} (ha : ∀ ls x y, y ∈ hadd ls x ↔ y = x ∨ y ∈ ls) {s : LS α} (x : Int) (h : LInv s) : LInv (releaseS hadd s x).1 := by
 have hall : ∀ t, t ∈ allT hadd s x ↔ s.waits x = some t ∨ t ∈ s.held x := fun t => by
   unfold allT
   cases hw : s.waits x with
   | none => simp
   | some u => simp [ha, eq_comm]
 refine sweepsS_inv ha _ _ ⟨fun u => ?_, fun u hu => ?_, fun y u => ?_, fun y u => ?_⟩
 · show RInv (if u ∈ allT hadd s x then dropR (s.rows u) x else s.rows u)
   split
   · exact dropR_inv (h.row u) x
   · exact h.row u
 · show Blk (if u ∈ allT hadd s x then dropR (s.rows u) x else s.rows u) (if u ∈ allT hadd s x then dropR (s.rows u) x else s.rows u).waits.length
   rw [if_neg hu]
   exact h.blk u (by simp)
 · show upd s.waits x none y = some u ↔ has (if u ∈ allT hadd s x then dropR (s.rows u) x else s.rows u).waits y = true
   by_cases ey : y = x
   · subst ey
     rw [upd_same]
     constructor
     · intro e; cases e
     · intro e
       split at e
       · exact absurd rfl (has_filter.1 e).2
       · rename_i hn
         exact absurd ((hall u).2 (.inl ((h.ww y u).2 e))) hn
   · rw [upd_other ey, h.ww y u]
     split
     · exact ⟨fun e => has_filter.2 ⟨e, ey⟩, fun e => (has_filter.1 e).1⟩
     · rfl
 · show u ∈ upd s.held x [] y ↔ has (if u ∈ allT hadd s x then dropR (s.rows u) x else s.rows u).holds y = true
   by_cases ey : y = x
   · subst ey
     rw [upd_same]
     constructor
     · intro e; cases e
     · intro e
       split at e
       · exact absurd rfl (has_filter.1 e).2
       · rename_i hn
         exact absurd ((hall u).2 (.inr ((h.hh y u).2 e))) hn
   · rw [upd_other ey, h.hh y u]
     split
     · exact ⟨fun e => has_filter.2 ⟨e, ey⟩, fun e => (has_filter.1 e).1⟩
     · rfl
end
end Go.Proofs.Lk
end
section
namespace Go.Proofs.Kb
open Go Go.RowKit Go.Proofs.YtkcjcdkmdooofaaGreat.Q Go.Proofs.YtkcjcdkmdooofaaGreatW.PrintWords Go.Proofs.YtkcjcdkmdooofaaGreatW.PrintLast Go.Proofs.YtkcjcdkmdooofaaGreatW.PrintMore
set_option maxRecDepth 100000
open Go.Proofs.Lk Go.Proofs.Mp
open Go.Maps (Keyed)
theorem laid29 : laidOutB Tryz.prog = true := by kernel_rfl
theorem row29 : (32 : TypeId) < Tryz.prog.types.size := of_decide_eq_true (by kernel_rfl)
theorem wide29 : (match Tryz.prog.underlying 32 with | some (.array _ _) | some (.struct _) => true | _ => false) = true := by rw [Tryz.underlying32]
theorem law29 : Keyed Tryz.prog 32 := Keyed.of_law (deep_law_laid laid29 (m := 3) (by omega) row29 (by kernel_rfl) wide29)
theorem cells29 : Tryz.prog.cellsOf 32 = 3 := by kernel_rfl
theorem cells9 : Tryz.prog.cellsOf 9 = 1 := by kernel_rfl
theorem cells3 : Tryz.prog.cellsOf 3 = 1 := by kernel_rfl
theorem keyT29 : Tryz.prog.keyType 32 = true := by kernel_rfl
def wfI (n : Int) : Prop := (Lit.int .i64 n).wf = true
def wfT (x : S32) : Prop := wfI x.f0 ∧ x.f1.size ≤ maxLen ∧ x.f2.size ≤ maxLen
theorem formed29 {a b c : Value} : (Value.agg #[a, b, c]).formed Tryz.prog 32 = true := by simp [Value.formed, Tryz.underlying32, cells29]
theorem lits29 (d : Nat) (x : S32) (h : wfT x) : Tryz.prog.keyLits (d + 3) 32 [.int .i64 x.f0, .string x.f1, .string x.f2] = some [.int .i64 x.f0, .string x.f1.data.toList, .string x.f2.data.toList] := by
 obtain ⟨h0, h1, h2⟩ := h
 unfold wfI at h0
 unfold Program.keyLits
 rw [Tryz.underlying32]
 simp [cells29, cells3, cells9, Program.keyLits, Tryz.underlying9, Tryz.underlying3, h0, show x.f1.size ≤ maxLen from h1, show x.f2.size ≤ maxLen from h2]
theorem key29 (x : S32) (h : wfT x) : ∃ l, keyOf Tryz.prog 32 (thgV x) = some l := by
 obtain ⟨d, hd⟩ : ∃ d, Tryz.prog.types.size + 1 = d + 3 := ⟨Tryz.prog.types.size - 2, by have h29 : (32 : Nat) < Tryz.prog.types.size := row29; omega⟩
 unfold keyOf thgV
 rw [Tryz.underlying32]
 simp only [keyT29, formed29, Bool.and_self, if_true, hd]
 refine ⟨.string (keyBytes [.int .i64 x.f0, .string x.f1.data.toList, .string x.f2.data.toList]), ?_⟩
 have e : (Value.agg #[.int .i64 x.f0, .string x.f1, .string x.f2]).cells.toList = [.int .i64 x.f0, .string x.f1, .string x.f2] := rfl
 rw [e, lits29 d x h]
 rfl
theorem thgV_inj {x y : S32} (h : thgV x = thgV y) : x = y := by
 obtain ⟨x0, x1, x2⟩ := x
 obtain ⟨y0, y1, y2⟩ := y
 unfold thgV at h
 injection h with h
 have := congrArg Array.toList h
 simp at this
 obtain ⟨rfl, rfl, rfl⟩ := this
 rfl
def K32 : KeyT Tryz.prog 32 S32 := ⟨law29, thgV, wfT, key29, fun x y => thgV_inj⟩
theorem key3 (n : Int) (h : wfI n) : ∃ l, keyOf Tryz.prog 3 (.int .i64 n) = some l := by
 unfold wfI at h
 unfold keyOf
 rw [Tryz.underlying3]
 simp [mapKey, Tryz.underlying3, h]
def K3 : KeyT Tryz.prog 3 Int := ⟨Go.Maps.int_keyed Tryz.underlying3, fun n => .int .i64 n, wfI, key3, fun x y h => by injection h⟩
section
variable {β κ : Type} [DecidableEq κ] (k : β → κ) (v : β → Value)
def assoc (l : List β) (x : κ) : Option Value := (l.find? fun m => decide (k m = x)).map v
variable {k v}
theorem assoc_some {l : List β} {x : κ} {u : Value} (h : assoc k v l x = some u) : ∃ X m Y, l = X ++ m :: Y ∧ k m = x ∧ u = v m := by
 unfold assoc at h
 rw [Option.map_eq_some_iff] at h
 obtain ⟨m, hm, rfl⟩ := h
 obtain ⟨h1, X, Y, h2, h3⟩ := List.find?_eq_some_iff_append.1 hm
 exact ⟨X, m, Y, h2, of_decide_eq_true h1, rfl⟩
theorem assoc_none {l : List β} {x : κ} : assoc k v l x = none ↔ ∀ m ∈ l, k m ≠ x := by
 unfold assoc
 rw [Option.map_eq_none_iff, List.find?_eq_none]
 simp
theorem assoc_cons_same (m : β) (l : List β) : assoc k v (m :: l) (k m) = some (v m) := by simp [assoc]
theorem assoc_cons_ne {m : β} {l : List β} {x : κ} (h : x ≠ k m) : assoc k v (m :: l) x = assoc k v l x := by
 unfold assoc
 rw [List.find?_cons_of_neg]
 simpa using fun e => h e.symm
theorem assoc_mid_ne {X Y : List β} {m : β} {x : κ} (h : x ≠ k m) : assoc k v (X ++ m :: Y) x = assoc k v (X ++ Y) x := by
 unfold assoc
 rw [List.find?_append, List.find?_append, List.find?_cons_of_neg]
 simpa using fun e => h e.symm
theorem assoc_mid {X Y : List β} {m m' : β} (hk : k m' = k m) (hv : v m' = v m) : assoc k v (X ++ m' :: Y) = assoc k v (X ++ m :: Y) := by
 funext x
 unfold assoc
 rw [List.find?_append, List.find?_append, List.find?_cons, List.find?_cons, hk]
 cases X.find? (fun m => decide (k m = x)) with
 | some y => rfl
 | none =>
   cases decide (k m = x) with
   | true => simp [hv]
   | false => rfl
theorem nodup_mid {X Y : List β} {m : β} (h : ((X ++ m :: Y).map k).Nodup) : ∀ y ∈ X ++ Y, k y ≠ k m := by
 rw [List.map_append, List.map_cons, List.nodup_append] at h
 obtain ⟨h1, h2, h3⟩ := h
 intro y hy e
 rcases List.mem_append.1 hy with hy | hy
 · exact h3 (k y) (List.mem_map_of_mem hy) (k m) List.mem_cons_self e
 · exact (List.nodup_cons.1 h2).1 (e ▸ List.mem_map_of_mem hy)
theorem assoc_gone {X Y : List β} {m : β} (h : ((X ++ m :: Y).map k).Nodup) : assoc k v (X ++ Y) (k m) = none := assoc_none.2 (nodup_mid h)
theorem assoc_mid_same {X Y : List β} {m : β} (h : ((X ++ m :: Y).map k).Nodup) : assoc k v (X ++ m :: Y) (k m) = some (v m) := by
 unfold assoc
 rw [List.find?_append]
 have : X.find? (fun y => decide (k y = k m)) = none := by
   rw [List.find?_eq_none]
   intro y hy
   have := nodup_mid h y (List.mem_append_left _ hy)
   simpa using this
 rw [this]
 simp
theorem nodup_drop {X Y : List β} {m : β} (h : ((X ++ m :: Y).map k).Nodup) : ((X ++ Y).map k).Nodup :=
 List.Nodup.sublist ((List.Sublist.append_left (List.sublist_cons_self m Y) X).map k) h
end
structure RowM where
 t : S32
 p : Nat
 hv : Value
 wv : Value
 r : LRow
structure HeldM where
 x : Int
 v : Value
 l : List S32
def mapC {k : TypeId} {κ : Type} (K : KeyT Tryz.prog k κ) (b n : Nat) (f : κ → Option Value) : Chunk := ⟨fun w => MapV K w b n f, [b], fun h x hx => by rw [List.mem_singleton] at hx; subst hx; exact h.lt, fun h hm => h.move (hm b (List.mem_singleton.2 rfl))⟩
def rowsB (rs : List RowM) : List Nat := rs.flatMap fun m => m.p :: (bl m.hv ++ bl m.wv)
theorem RowH.lt {w : World} {p : Nat} {hv wv : Value} {r : LRow} (h : RowH w p hv wv r) : ∀ b ∈ p :: (bl hv ++ bl wv), b < w.heap.size := fun b hb => by
 rcases List.mem_cons.1 hb with rfl | hb
 · exact lt_of_some h.cells
 · rcases List.mem_append.1 hb with hb | hb
   · exact Row.lt h.holds b (bl_mem.1 hb)
   · exact Row.lt h.waits b (bl_mem.1 hb)
theorem RowH.move {w w' : World} {p : Nat} {hv wv : Value} {r : LRow} (h : RowH w p hv wv r) (hm : ∀ b ∈ p :: (bl hv ++ bl wv), w'.heap[b]? = w.heap[b]?) : RowH w' p hv wv r :=
 ⟨(hm p List.mem_cons_self).trans h.cells, Row.move h.holds fun k hk => hm k (List.mem_cons_of_mem _ (List.mem_append_left _ (bl_mem.2 hk))), Row.move h.waits fun k hk => hm k (List.mem_cons_of_mem _ (List.mem_append_right _ (bl_mem.2 hk)))⟩
def rowsC (rs : List RowM) : Chunk := ⟨fun w => ∀ m ∈ rs, RowH w m.p m.hv m.wv m.r, rowsB rs, fun h b hb => by
 obtain ⟨m, hm, hb⟩ := List.mem_flatMap.1 hb
 exact (h m hm).lt b hb, fun h hm m hmm => (h m hmm).move fun b hb => hm b (List.mem_flatMap.2 ⟨m, hmm, hb⟩)⟩
def heldB (hs : List HeldM) : List Nat := hs.flatMap fun m => bl m.v
def heldC (hs : List HeldM) : Chunk := ⟨fun w => ∀ m ∈ hs, RowX thgE w m.v m.l, heldB hs, fun h b hb => by
 obtain ⟨m, hm, hb⟩ := List.mem_flatMap.1 hb
 exact Row.lt (h m hm) b (bl_mem.1 hb), fun h hm m hmm => Row.move (h m hmm) fun b hb => hm b (List.mem_flatMap.2 ⟨m, hmm, bl_mem.2 hb⟩)⟩
structure LM where
 lp : Nat
 b1 : Nat
 b2 : Nat
 b3 : Nat
 n1 : Nat
 n2 : Nat
 n3 : Nat
 rs : List RowM
 wt : Int → Option S32
 hs : List HeldM
def rowsF (rs : List RowM) : S32 → Option Value := assoc RowM.t (fun m => ptr m.p) rs
def heldF (hs : List HeldM) : Int → Option Value := assoc HeldM.x HeldM.v hs
def waitF (wt : Int → Option S32) : Int → Option Value := fun x => (wt x).map thgV
def lpC (M : LM) : Chunk := blkC M.lp (.cells #[.map (some M.b1), .map (some M.b2), .map (some M.b3)] 56 (0, 0))
def lkO (M : LM) (rs : List RowM) (hs : List HeldM) : List Chunk := [lpC M, mapC K32 M.b1 M.n1 (rowsF M.rs), mapC K3 M.b2 M.n2 (waitF M.wt), mapC K3 M.b3 M.n3 (heldF M.hs), rowsC rs, heldC hs]
def lk (M : LM) : List Chunk := lkO M M.rs M.hs
structure Rep (M : LM) (s : LS S32) : Prop where
 rn : (M.rs.map RowM.t).Nodup
 rr : ∀ m ∈ M.rs, m.r = s.rows m.t
 ro : ∀ t, (∀ m ∈ M.rs, m.t ≠ t) → s.rows t = ⟨[], []⟩
 hn : (M.hs.map HeldM.x).Nodup
 hh : ∀ m ∈ M.hs, m.l = s.held m.x
 ho : ∀ x, (∀ m ∈ M.hs, m.x ≠ x) → s.held x = []
 ww : M.wt = s.waits
theorem mem_mid {β : Type} {X Y : List β} {m y : β} : y ∈ X ++ m :: Y ↔ y = m ∨ y ∈ X ++ Y := by
 rw [List.mem_append, List.mem_cons, List.mem_append]
 constructor
 · rintro (h | h | h)
   · exact .inr (.inl h)
   · exact .inl h
   · exact .inr (.inr h)
 · rintro (h | h | h)
   · exact .inr (.inl h)
   · exact .inl h
   · exact .inr (.inr h)
section
variable {M : LM} {s : LS S32} {X Y : List RowM} {m : RowM} {XH YH : List HeldM} {h : HeldM}
theorem Rep.setR (R : Rep M s) (e : M.rs = X ++ m :: Y) (hv wv : Value) (r' : LRow) : Rep { M with rs := X ++ ⟨m.t, m.p, hv, wv, r'⟩ :: Y } ⟨upd s.rows m.t r', s.waits, s.held⟩ := by
 have hnd := R.rn
 rw [e] at hnd
 refine ⟨?_, fun y hy => ?_, fun t ht => ?_, R.hn, R.hh, R.ho, R.ww⟩
 · simpa using hnd
 · rcases mem_mid.1 hy with rfl | hy
   · exact (upd_same _ _ _).symm
   · show y.r = upd s.rows m.t r' y.t
     rw [upd_other (nodup_mid hnd y hy)]
     exact R.rr y (e ▸ mem_mid.2 (.inr hy))
 · have h1 : t ≠ m.t := fun e2 => ht _ (mem_mid.2 (.inl rfl)) e2.symm
   show upd s.rows m.t r' t = _
   rw [upd_other h1]
   refine R.ro t fun y hy => ?_
   rw [e] at hy
   rcases mem_mid.1 hy with rfl | hy
   · exact fun e2 => h1 e2.symm
   · exact ht y (mem_mid.2 (.inr hy))
theorem Rep.newR (R : Rep M s) {t : S32} (ht : ∀ m ∈ M.rs, m.t ≠ t) (p n : Nat) : Rep { M with rs := ⟨t, p, .slice none 0 0, .slice none 0 0, ⟨[], []⟩⟩ :: M.rs, n1 := n } s := by
 refine ⟨List.nodup_cons.2 ⟨fun hm => ?_, R.rn⟩, fun y hy => ?_, fun u hu => R.ro u fun y hy => hu y (List.mem_cons_of_mem _ hy), R.hn, R.hh, R.ho, R.ww⟩
 · obtain ⟨y, hy, e⟩ := List.mem_map.1 hm
   exact ht y hy e
 · rcases List.mem_cons.1 hy with rfl | hy
   · exact (R.ro t ht).symm
   · exact R.rr y hy
theorem Rep.delR (R : Rep M s) (e : M.rs = X ++ m :: Y) (hr : s.rows m.t = ⟨[], []⟩) (n : Nat) : Rep { M with rs := X ++ Y, n1 := n } s := by
 have hnd := R.rn
 rw [e] at hnd
 refine ⟨nodup_drop hnd, fun y hy => R.rr y (e ▸ mem_mid.2 (.inr hy)), fun t ht => ?_, R.hn, R.hh, R.ho, R.ww⟩
 by_cases h1 : t = m.t
 · rw [h1]
   exact hr
 · refine R.ro t fun y hy => ?_
   rw [e] at hy
   rcases mem_mid.1 hy with rfl | hy
   · exact fun e2 => h1 e2.symm
   · exact ht y hy
theorem Rep.setH (R : Rep M s) (e : M.hs = XH ++ h :: YH) (v : Value) (l' : List S32) (n : Nat) : Rep { M with hs := XH ++ ⟨h.x, v, l'⟩ :: YH, n3 := n } ⟨s.rows, s.waits, upd s.held h.x l'⟩ := by
 have hnd := R.hn
 rw [e] at hnd
 refine ⟨R.rn, R.rr, R.ro, ?_, fun y hy => ?_, fun t ht => ?_, R.ww⟩
 · simpa using hnd
 · rcases mem_mid.1 hy with rfl | hy
   · exact (upd_same _ _ _).symm
   · show y.l = upd s.held h.x l' y.x
     rw [upd_other (nodup_mid hnd y hy)]
     exact R.hh y (e ▸ mem_mid.2 (.inr hy))
 · have h1 : t ≠ h.x := fun e2 => ht _ (mem_mid.2 (.inl rfl)) e2.symm
   show upd s.held h.x l' t = _
   rw [upd_other h1]
   refine R.ho t fun y hy => ?_
   rw [e] at hy
   rcases mem_mid.1 hy with rfl | hy
   · exact fun e2 => h1 e2.symm
   · exact ht y (mem_mid.2 (.inr hy))
theorem Rep.newH (R : Rep M s) {x : Int} (hx : ∀ m ∈ M.hs, m.x ≠ x) (v : Value) (l' : List S32) (n : Nat) : Rep { M with hs := ⟨x, v, l'⟩ :: M.hs, n3 := n } ⟨s.rows, s.waits, upd s.held x l'⟩ := by
 refine ⟨R.rn, R.rr, R.ro, List.nodup_cons.2 ⟨fun hm => ?_, R.hn⟩, fun y hy => ?_, fun u hu => ?_, R.ww⟩
 · obtain ⟨y, hy, e⟩ := List.mem_map.1 hm
   exact hx y hy e
 · rcases List.mem_cons.1 hy with rfl | hy
   · exact (upd_same _ _ _).symm
   · show y.l = upd s.held x l' y.x
     rw [upd_other (hx y hy)]
     exact R.hh y hy
 · have h1 : u ≠ x := fun e2 => hu _ List.mem_cons_self e2.symm
   show upd s.held x l' u = _
   rw [upd_other h1]
   exact R.ho u fun y hy => hu y (List.mem_cons_of_mem _ hy)
theorem Rep.delH (R : Rep M s) (e : M.hs = XH ++ h :: YH) (n : Nat) : Rep { M with hs := XH ++ YH, n3 := n } ⟨s.rows, s.waits, upd s.held h.x []⟩ := by
 have hnd := R.hn
 rw [e] at hnd
 refine ⟨R.rn, R.rr, R.ro, nodup_drop hnd, fun y hy => ?_, fun t ht => ?_, R.ww⟩
 · show y.l = upd s.held h.x [] y.x
   rw [upd_other (nodup_mid hnd y hy)]
   exact R.hh y (e ▸ mem_mid.2 (.inr hy))
 · show upd s.held h.x [] t = _
   by_cases h1 : t = h.x
   · rw [h1, upd_same]
   · rw [upd_other h1]
     refine R.ho t fun y hy => ?_
     rw [e] at hy
     rcases mem_mid.1 hy with rfl | hy
     · exact fun e2 => h1 e2.symm
     · exact ht y hy
theorem Rep.noH (R : Rep M s) {x : Int} (hx : ∀ m ∈ M.hs, m.x ≠ x) (n : Nat) : Rep { M with n3 := n } ⟨s.rows, s.waits, upd s.held x []⟩ := by
 have e : upd s.held x [] = s.held := by
   funext y
   by_cases hy : y = x
   · rw [hy, upd_same, R.ho x hx]
   · rw [upd_other hy]
 rw [e]
 exact ⟨R.rn, R.rr, R.ro, R.hn, R.hh, R.ho, R.ww⟩
theorem Rep.setW (R : Rep M s) (f : Int → Option S32) (n : Nat) : Rep { M with wt := f, n2 := n } ⟨s.rows, f, s.held⟩ := ⟨R.rn, R.rr, R.ro, R.hn, R.hh, R.ho, rfl⟩
end
section
variable {w0 w w' : World} {F : Nat → Prop} {cs R : List Chunk} {M : LM}
theorem St.lpAt (s : St w0 F w cs) (i : Nat) (hi : cs[i]? = some (lpC M)) : w.cell? ⟨M.lp, 0, none⟩ = some (.map (some M.b1)) ∧ w.cell? ⟨M.lp, 1, none⟩ = some (.map (some M.b2)) ∧ w.cell? ⟨M.lp, 2, none⟩ = some (.map (some M.b3)) ∧ M.lp < w.heap.size := by
 have h : w.heap[M.lp]? = some (.cells #[.map (some M.b1), .map (some M.b2), .map (some M.b3)] 56 (0, 0)) := s.get i hi
 exact ⟨(blk_cell h 0).trans rfl, (blk_cell h 1).trans rfl, (blk_cell h 2).trans rfl, lt_of_some h⟩
theorem St.mapAt {k : TypeId} {κ : Type} {K : KeyT Tryz.prog k κ} {b n : Nat} {f : κ → Option Value} (s : St w0 F w cs) (i : Nat) (hi : cs[i]? = some (mapC K b n f)) : MapV K w b n f := s.get i hi
theorem St.mapTo {k : TypeId} {κ : Type} {K : KeyT Tryz.prog k κ} {b n n' : Nat} {f f' : κ → Option Value} (s : St w0 F w cs) (i : Nat) (hi : cs[i]? = some (mapC K b n f)) (h : MapV K w' b n' f') (hg : w.grownBy w' (some b)) : St w0 F w' (cs.set i (mapC K b n' f')) :=
 s.upd i hi (mapC K b n' f') (keep_grown hg (List.mem_singleton.2 rfl)) h (nd_one b) (fun x hx => .inl hx)
theorem St.openR {X Y : List RowM} {m : RowM} {hs : List HeldM} (s : St w0 F w (lkO M (X ++ m :: Y) hs ++ R)) : St w0 F w (row3 m.p m.hv m.wv m.r ++ lkO M (X ++ Y) hs ++ R) := by
 refine St.tell s (fun hh => ?_) (fun b => ?_)
 · have h0 : ∀ y ∈ X ++ m :: Y, RowH w y.p y.hv y.wv y.r := hh (rowsC (X ++ m :: Y)) (by simp [lkO])
   have hm := h0 m (mem_mid.2 (.inl rfl))
   intro c hc
   simp only [row3, lkO, List.cons_append, List.nil_append, List.mem_cons, List.not_mem_nil, or_false] at hc
   rcases hc with rfl | rfl | rfl | rfl | rfl | rfl | rfl | rfl | rfl
   · exact hm.cells
   · exact hm.holds
   · exact hm.waits
   · exact hh _ (by simp [lkO])
   · exact hh _ (by simp [lkO])
   · exact hh _ (by simp [lkO])
   · exact hh _ (by simp [lkO])
   · exact fun y hy => h0 y (mem_mid.2 (.inr hy))
   · exact hh _ (by simp [lkO])
 · simp only [fpc, row3, lkO, lpC, mapC, rowsC, heldC, rowsB, cellC, blkC, rowXC, List.flatMap_cons, List.flatMap_nil, List.flatMap_append, List.cons_append, List.nil_append, List.append_nil, List.count_append, List.count_cons, List.count_nil]
   omega
theorem St.closeR {X Y : List RowM} {m : RowM} {hs : List HeldM} (s : St w0 F w (row3 m.p m.hv m.wv m.r ++ lkO M (X ++ Y) hs ++ R)) : St w0 F w (lkO M (X ++ m :: Y) hs ++ R) := by
 refine St.tell s (fun hh => ?_) (fun b => ?_)
 · have h0 : ∀ y ∈ X ++ Y, RowH w y.p y.hv y.wv y.r := hh (rowsC (X ++ Y)) (by simp [lkO])
   have h1 := hh (cellC m.p m.hv m.wv) (by simp [row3])
   have h2 := hh (rowOC m.hv m.r.holds) (by simp [row3])
   have h3 := hh (rowOC m.wv m.r.waits) (by simp [row3])
   intro c hc
   simp only [lkO, List.mem_cons, List.not_mem_nil, or_false] at hc
   rcases hc with rfl | rfl | rfl | rfl | rfl | rfl
   · exact hh _ (by simp [lkO])
   · exact hh _ (by simp [lkO])
   · exact hh _ (by simp [lkO])
   · exact hh _ (by simp [lkO])
   · intro y hy
     rcases mem_mid.1 hy with rfl | hy
     · exact ⟨h1, h2, h3⟩
     · exact h0 y hy
   · exact hh _ (by simp [lkO])
 · simp only [fpc, row3, lkO, lpC, mapC, rowsC, heldC, rowsB, cellC, blkC, rowXC, List.flatMap_cons, List.flatMap_nil, List.flatMap_append, List.cons_append, List.nil_append, List.append_nil, List.count_append, List.count_cons, List.count_nil]
   omega
theorem St.openH {X Y : List HeldM} {m : HeldM} {rs : List RowM} (s : St w0 F w (lkO M rs (X ++ m :: Y) ++ R)) : St w0 F w (rowTC m.v m.l :: (lkO M rs (X ++ Y) ++ R)) := by
 refine St.tell (B := rowTC m.v m.l :: lkO M rs (X ++ Y)) s (fun hh => ?_) (fun b => ?_)
 · have h0 : ∀ y ∈ X ++ m :: Y, RowX thgE w y.v y.l := hh (heldC (X ++ m :: Y)) (by simp [lkO])
   intro c hc
   simp only [lkO, List.mem_cons, List.not_mem_nil, or_false] at hc
   rcases hc with rfl | rfl | rfl | rfl | rfl | rfl | rfl
   · exact h0 m (mem_mid.2 (.inl rfl))
   · exact hh _ (by simp [lkO])
   · exact hh _ (by simp [lkO])
   · exact hh _ (by simp [lkO])
   · exact hh _ (by simp [lkO])
   · exact hh _ (by simp [lkO])
   · exact fun y hy => h0 y (mem_mid.2 (.inr hy))
 · simp only [fpc, lkO, lpC, mapC, rowsC, heldC, heldB, blkC, rowXC, List.flatMap_cons, List.flatMap_nil, List.flatMap_append, List.cons_append, List.nil_append, List.append_nil, List.count_append, List.count_cons, List.count_nil]
   omega
theorem St.closeH {X Y : List HeldM} {m : HeldM} {rs : List RowM} (s : St w0 F w (rowTC m.v m.l :: (lkO M rs (X ++ Y) ++ R))) : St w0 F w (lkO M rs (X ++ m :: Y) ++ R) := by
 refine St.tell (A := rowTC m.v m.l :: lkO M rs (X ++ Y)) s (fun hh => ?_) (fun b => ?_)
 · have h0 : ∀ y ∈ X ++ Y, RowX thgE w y.v y.l := hh (heldC (X ++ Y)) (by simp [lkO])
   have h1 := hh (rowTC m.v m.l) (by simp)
   intro c hc
   simp only [lkO, List.mem_cons, List.not_mem_nil, or_false] at hc
   rcases hc with rfl | rfl | rfl | rfl | rfl | rfl
   · exact hh _ (by simp [lkO])
   · exact hh _ (by simp [lkO])
   · exact hh _ (by simp [lkO])
   · exact hh _ (by simp [lkO])
   · exact hh _ (by simp [lkO])
   · intro y hy
     rcases mem_mid.1 hy with rfl | hy
     · exact h1
     · exact h0 y hy
 · simp only [fpc, lkO, lpC, mapC, rowsC, heldC, heldB, blkC, rowXC, List.flatMap_cons, List.flatMap_nil, List.flatMap_append, List.cons_append, List.nil_append, List.append_nil, List.count_append, List.count_cons, List.count_nil]
   omega
end
end Go.Proofs.Kb
end
section
namespace Go.Proofs.Kb
open Go Go.RowKit Go.Proofs.YtkcjcdkmdooofaaGreat.Q Go.Proofs.YtkcjcdkmdooofaaGreatW.PrintWords Go.Proofs.YtkcjcdkmdooofaaGreatW.PrintLast Go.Proofs.YtkcjcdkmdooofaaGreatW.PrintMore
set_option maxRecDepth 100000
open Go.Proofs.Lk Go.Proofs.Mp
def LM.tot (M : LM) : Nat := M.n1 + M.n2 + M.n3
def lpV (M : LM) : Value := .pointer (some ⟨M.lp, 0, none⟩)
def NewPost (w : World) (E : Ending) (w' : World) : Prop := ∃ M, E = .returned (lpV M) ∧ Rep M LS.new ∧ M.tot = 0 ∧ St w NoF w' (lk M)
theorem al_size (w : World) (o : Obj) : (w.alloc o).heap.size = w.heap.size + 1 := Array.size_push _
theorem none_bl {c : Chunk} {w : World} (h : c.bs = []) : ∀ b ∈ c.bs, w.heap.size ≤ b := fun b hb => by rw [h] at hb; cases hb
theorem new_calls (w : World) : Calls Tryz.prog 6 #[] w (NewPost w) := by
 obtain ⟨R, hR⟩ : ∃ R, NewPost w = R := ⟨_, rfl⟩
 have HR := Aside0.mk hR
 rw [hR]
 have hu55 := Tryz.underlying52
 have hu56 := Tryz.underlying53
 have hu57 := Tryz.underlying54
 have hu59 := Tryz.underlying56
 have hmm := @run_makeMap Tryz.prog
 clear hR
 go_enter Tryz.func6, Tryz.ntmps6
 go_wp2
 rw [← HR.out]
 obtain ⟨n, hn⟩ : ∃ n, w.heap.size = n := ⟨_, rfl⟩
 refine ⟨⟨w.heap.size + 1 + 1 + 1, w.heap.size, w.heap.size + 1, w.heap.size + 1 + 1, 0, 0, 0, [], fun _ => none, []⟩, rfl, ⟨List.nodup_nil, fun m hm => (by cases hm), fun t _ => rfl, List.nodup_nil, fun m hm => (by cases hm), fun t _ => rfl, rfl⟩, rfl, ?_⟩
 have al : ∀ (W : World) (o : Obj), Below W.heap.size W (W.alloc o) := fun W o => (Below.refl _ W).alloc (Nat.le_refl _) o
 have s1 := (St.nil0 w NoF).fresh (al w (.map #[] 0)) (mapC K32 w.heap.size 0 fun _ => none) (MapV.made w) (nd_one _) (fun b hb => by rw [List.mem_singleton.1 hb]; exact Nat.le_refl _)
 have s2 := s1.fresh (al _ (.map #[] 0)) (mapC K3 (w.alloc (.map #[] 0)).heap.size 0 fun _ => none) (MapV.made _) (nd_one _) (fun b hb => by rw [List.mem_singleton.1 hb]; exact Nat.le_refl _)
 have s3 := s2.fresh (al _ (.map #[] 0)) (mapC K3 ((w.alloc (.map #[] 0)).alloc (.map #[] 0)).heap.size 0 fun _ => none) (MapV.made _) (nd_one _) (fun b hb => by rw [List.mem_singleton.1 hb]; exact Nat.le_refl _)
 simp only [al_size] at s2 s3
 have s4 := s3.fresh (al _ (.cells #[.map (some w.heap.size), .map (some (w.heap.size + 1)), .map (some (w.heap.size + 1 + 1))] 56)) (blkC (((w.alloc (.map #[] 0)).alloc (.map #[] 0)).alloc (.map #[] 0)).heap.size _) (heap_alloc_new _ _) (nd_one _) (fun b hb => by rw [List.mem_singleton.1 hb]; exact Nat.le_refl _)
 simp only [al_size] at s4
 have s5 := s4.fresh (Below.refl _ _) (rowsC []) (fun m hm => (by cases hm)) (fun a => by simp [rowsC, rowsB]) (none_bl rfl)
 have s6 := s5.fresh (Below.refl _ _) (heldC []) (fun m hm => (by cases hm)) (fun a => by simp [heldC, heldB]) (none_bl rfl)
 exact s6.perm (perm_ix _ [2, 5, 4, 3, 1, 0] 6 rfl (by decide))
def Row28 (w : World) (F : Nat → Prop) (M : LM) (s : LS S32) (t : S32) (E : Ending) (w' : World) : Prop :=
 ∃ M' X m Y, E = .returned (ptr m.p) ∧ M'.rs = X ++ m :: Y ∧ m.t = t ∧ Rep M' s ∧ M'.lp = M.lp ∧ M'.tot ≤ M.tot + 1 ∧ St w F w' (lk M')
theorem zero60 (w : World) : (zeroValue 60).run Tryz.prog w = .ok (.pointer none) w := by kernel_rfl
set_option maxHeartbeats 4000000 in
theorem lrow_calls (w : World) (M : LM) (s : LS S32) (t : S32) (F : Nat → Prop) (hs : St w F w (lk M)) (hr : Rep M s) (ht : wfT t) (hn : M.n1 < maxLen) :
   Calls Tryz.prog 28 #[lpV M, thgV t] w (Row28 w F M s t) := by
 obtain ⟨R, hR⟩ : ∃ R, Row28 w F M s t = R := ⟨_, rfl⟩
 have HR := Aside0.mk hR
 rw [hR]
 have hu55 := Tryz.underlying52
 have hu59 := Tryz.underlying56
 have hu64 := Tryz.underlying67
 have hu29 := Tryz.underlying32
 obtain ⟨n0, hn0⟩ : ∃ n, w.heap.size = n := ⟨_, rfl⟩
 obtain ⟨W0, hW0⟩ : ∃ W0, w.alloc (.cells #[.int .i64 t.f0, .string t.f1, .string t.f2] 32) = W0 := ⟨_, rfl⟩
 have HS0 := Aside0.mk (hs.alloc #[.int .i64 t.f0, .string t.f1, .string t.f2] 32 hn0)
 rw [hW0] at HS0
 have HREP := Aside0.mk hr
 have HT := Aside0.mk (show K32.wf t from ht)
 have HN := Aside0.mk hn
 clear hR hs hr ht hn
 cases hf : rowsF M.rs t with
 | some u =>
   obtain ⟨X, m, Y, e, hmt, rfl⟩ := assoc_some hf
   have HF := Aside0.mk hf
   have HE := Aside0.mk e
   have HM := Aside0.mk hmt
   clear hf e hmt
   unfold lpV thgV
   show Calls Tryz.prog 28 #[.pointer (some ⟨M.lp, 0, none⟩), .agg #[.int .i64 t.f0, .string t.f1, .string t.f2]] w R
   go_enter Tryz.func28, Tryz.ntmps28
   go_wp2
   refine start_ (n := 11) (S := fun w' => w'.cell? ⟨M.lp, 0, none⟩ = some (.map (some M.b1)) ∧ MapV K32 w' M.b1 M.n1 (rowsF M.rs) ∧ w'.cell? ⟨n0, 0, none⟩ = some (.int .i64 t.f0) ∧ w'.cell? ⟨n0, 1, none⟩ = some (.string t.f1) ∧ w'.cell? ⟨n0, 2, none⟩ = some (.string t.f2)) (ds := []) #[false, false, false, false, false, false, false, false, false, false, false] (by kernel_rfl) rfl rfl ⟨(HS0.out.lpAt 0 rfl).1, HS0.out.mapAt 1 rfl, (blk_cell (HS0.out.blk 6 rfl) 0).trans rfl, (blk_cell (HS0.out.blk 6 rfl) 1).trans rfl, (blk_cell (HS0.out.blk 6 rfl) 2).trans rfl⟩ (fun hHeld => ?_)
   have HS1 := Aside0.mk (HS0.out.drew)
   clear HS0
   generalize W0.drew = w1 at HS1 hHeld  ⊢
   refine pu_ 0 8 (bs_ 11 1) ?_; refine pu_ 1 9 (bs_ 11 3) ?_; refine pu_ 2 10 (bs_ 11 7) ?_; refine ta_ 3 11 (bs_ 11 15) hHeld ?_; refine ta_ 4 12 (bs_ 11 31) hHeld ?_; refine ta_ 5 13 (bs_ 11 63) hHeld ?_ (hy := by rintro w' ⟨s0, s1, s2, s3, s4⟩; have hlk := s1.lookup2 Tryz.underlying52 (zero60 w') HT.out; rw [HF.out] at hlk; simp only [K32, thgV, Option.getD, Option.isSome, ptr] at hlk; go_simp; with_reducible rfl); refine pu_ 6 7 (bs_ 11 127) ?_; refine pu_ 7 14 (bs_ 11 255) ?_; refine pu_ 8 15 (bs_ 11 511) ?_; refine pu_ 9 5 (bs_ 11 1023) ?_; refine pu_ 10 6 (bs_ 11 2047) ?_
   refine done_ (by kernel_rfl) ?_
   go_wp2
   rw [← HR.out]
   exact ⟨M, X, m, Y, rfl, HE.out, HM.out, HREP.out, rfl, Nat.le_succ _, St.left (A := lk M) HS1.out⟩
 | none =>
   have HF := Aside0.mk hf
   have HNO := Aside0.mk (assoc_none.1 hf)
   clear hf
   unfold lpV thgV
   show Calls Tryz.prog 28 #[.pointer (some ⟨M.lp, 0, none⟩), .agg #[.int .i64 t.f0, .string t.f1, .string t.f2]] w R
   go_enter Tryz.func28, Tryz.ntmps28
   go_wp2
   refine start_ (n := 11) (S := fun w' => w'.cell? ⟨M.lp, 0, none⟩ = some (.map (some M.b1)) ∧ MapV K32 w' M.b1 M.n1 (rowsF M.rs) ∧ w'.cell? ⟨n0, 0, none⟩ = some (.int .i64 t.f0) ∧ w'.cell? ⟨n0, 1, none⟩ = some (.string t.f1) ∧ w'.cell? ⟨n0, 2, none⟩ = some (.string t.f2)) (ds := []) #[false, false, false, false, false, false, false, false, false, false, false] (by kernel_rfl) rfl rfl ⟨(HS0.out.lpAt 0 rfl).1, HS0.out.mapAt 1 rfl, (blk_cell (HS0.out.blk 6 rfl) 0).trans rfl, (blk_cell (HS0.out.blk 6 rfl) 1).trans rfl, (blk_cell (HS0.out.blk 6 rfl) 2).trans rfl⟩ (fun hHeld => ?_)
   have HS1 := Aside0.mk (HS0.out.drew)
   clear HS0
   generalize W0.drew = w1 at HS1 hHeld  ⊢
   refine pu_ 0 8 (bs_ 11 1) ?_; refine pu_ 1 9 (bs_ 11 3) ?_; refine pu_ 2 10 (bs_ 11 7) ?_; refine ta_ 3 11 (bs_ 11 15) hHeld ?_; refine ta_ 4 12 (bs_ 11 31) hHeld ?_; refine ta_ 5 13 (bs_ 11 63) hHeld ?_ (hy := by rintro w' ⟨s0, s1, s2, s3, s4⟩; have hlk := s1.lookup2 Tryz.underlying52 (zero60 w') HT.out; rw [HF.out] at hlk; simp only [K32, thgV, Option.getD, Option.isSome, ptr] at hlk; go_simp; with_reducible rfl); refine pu_ 6 7 (bs_ 11 127) ?_; refine pu_ 7 14 (bs_ 11 255) ?_; refine pu_ 8 15 (bs_ 11 511) ?_; refine pu_ 9 5 (bs_ 11 1023) ?_; refine pu_ 10 6 (bs_ 11 2047) ?_
   refine done_ (by kernel_rfl) ?_
   go_wp2
   obtain ⟨np, hnp⟩ : ∃ n, w1.heap.size = n := ⟨_, rfl⟩
   have HSN := Aside0.mk (HS1.out.alloc #[.slice none 0 0, .slice none 0 0] 67 hnp)
   obtain ⟨w2, hw2⟩ : ∃ w2, w1.alloc (.cells #[.slice none 0 0, .slice none 0 0] 67) = w2 := ⟨_, rfl⟩
   rw [hw2] at HSN
   rw [hnp, hw2]
   clear hHeld HS1 hnp hw2
   refine start_ (n := 7) (S := fun w' => w'.cell? ⟨M.lp, 0, none⟩ = some (.map (some M.b1)) ∧ MapV K32 w' M.b1 M.n1 (rowsF M.rs) ∧ w'.cell? ⟨n0, 0, none⟩ = some (.int .i64 t.f0) ∧ w'.cell? ⟨n0, 1, none⟩ = some (.string t.f1) ∧ w'.cell? ⟨n0, 2, none⟩ = some (.string t.f2)) (ds := [6]) #[false, false, false, false, false, false, false] (by kernel_rfl) rfl rfl ⟨(HSN.out.lpAt 0 rfl).1, HSN.out.mapAt 1 rfl, (blk_cell (HSN.out.blk 6 rfl) 0).trans rfl, (blk_cell (HSN.out.blk 6 rfl) 1).trans rfl, (blk_cell (HSN.out.blk 6 rfl) 2).trans rfl⟩ (fun hHeld => ?_)
   have HS1 := Aside0.mk (HSN.out.drew)
   clear HSN
   generalize w2.drew = w3 at HS1 hHeld  ⊢
   refine pu_ 0 20 (bs_ 7 1) ?_; refine pu_ 1 21 (bs_ 7 3) ?_; refine pu_ 2 22 (bs_ 7 7) ?_; refine pu_ 5 25 (bs_ 7 39) ?_; refine ta_ 3 23 (bs_ 7 47) hHeld ?_; refine ta_ 4 24 (bs_ 7 63) hHeld ?_
   refine last_ (i := 6) (N := none) (bs_ 7 127) rfl rfl (by kernel_rfl) (by decide) (fun K_ hK => ?_)
   obtain ⟨w5, hrun, hmap, hg⟩ := (HS1.out.mapAt 1 rfl).update (f' := rowsF (⟨t, np, .slice none 0 0, .slice none 0 0, ⟨[], []⟩⟩ :: M.rs)) Tryz.underlying52 HN.out HT.out (ptr np) (assoc_cons_same _ _) (fun y hy => assoc_cons_ne hy)
   refine update_ (.tmp 23) (.tmp 24) (.tmp 25) 52 (by rfl) rfl rfl _ _ _ (by rfl) (by rfl) (by rfl) hrun ?_
   have HS2 := Aside0.mk (HS1.out.mapTo 1 rfl hmap hg)
   clear HS1
   clear hrun hmap hg
   refine hK.out _ _ ?_
   clear hK K_ hHeld
   refine done_ (by kernel_rfl) ?_
   go_wp2
   rw [← HR.out]
   refine ⟨{ M with rs := ⟨t, np, .slice none 0 0, .slice none 0 0, ⟨[], []⟩⟩ :: M.rs, n1 := M.n1 + 1 }, [], ⟨t, np, .slice none 0 0, .slice none 0 0, ⟨[], []⟩⟩, M.rs, rfl, rfl, rfl, HREP.out.newR HNO.out np _, rfl, by simp only [LM.tot]; omega, ?_⟩
   have h1 : St w F _ (lkO { M with rs := ⟨t, np, .slice none 0 0, .slice none 0 0, ⟨[], []⟩⟩ :: M.rs, n1 := M.n1 + 1 } M.rs M.hs ++ [blkC n0 (.cells #[.int .i64 t.f0, .string t.f1, .string t.f2] 32 (0, 0)), blkC np (.cells #[.slice none 0 0, .slice none 0 0] 67 (0, 0))]) := HS2.out
   have h2 := h1.fresh (Below.refl _ _) (rowOC (.slice none 0 0) []) RowX.nil (nd_bl (.slice none 0 0)) (fun b hb => by simp [rowXC, bl] at hb; cases hb)
   have h3 := h2.fresh (Below.refl _ _) (rowOC (.slice none 0 0) []) RowX.nil (nd_bl (.slice none 0 0)) (fun b hb => by simp [rowXC, bl] at hb; cases hb)
   have h4 := h3.perm (B := row3 np (.slice none 0 0) (.slice none 0 0) ⟨[], []⟩ ++ lkO { M with rs := ⟨t, np, .slice none 0 0, .slice none 0 0, ⟨[], []⟩⟩ :: M.rs, n1 := M.n1 + 1 } ([] ++ M.rs) M.hs ++ [blkC n0 (.cells #[.int .i64 t.f0, .string t.f1, .string t.f2] 32 (0, 0))]) (perm_ix _ [9, 0, 1, 2, 3, 4, 5, 6, 7, 8] 10 rfl (by decide))
   have h5 := St.closeR (m := ⟨t, np, .slice none 0 0, .slice none 0 0, ⟨[], []⟩⟩) (X := []) h4
   exact St.left (A := lk { M with rs := ⟨t, np, .slice none 0 0, .slice none 0 0, ⟨[], []⟩⟩ :: M.rs, n1 := M.n1 + 1 }) h5
end Go.Proofs.Kb
end
section
namespace Go.Proofs.Kb
open Go Go.RowKit Go.Proofs.YtkcjcdkmdooofaaGreat.Q Go.Proofs.YtkcjcdkmdooofaaGreatW.PrintWords Go.Proofs.YtkcjcdkmdooofaaGreatW.PrintLast Go.Proofs.YtkcjcdkmdooofaaGreatW.PrintMore
set_option maxRecDepth 100000
open Go.Proofs.Lk Go.Proofs.Mp
structure HView (M : LM) (s : LS S32) (x : Int) (hs0 : List HeldM) (v : Value) : Prop where
 look : (heldF M.hs x).getD (.slice none 0 0) = v
 opn : ∀ {w0 w : World} {F : Nat → Prop} {rs : List RowM} {R : List Chunk}, St w0 F w (lkO M rs M.hs ++ R) → St w0 F w (rowTC v (s.held x) :: (lkO M rs hs0 ++ R))
 bck : ∀ {w0 w : World} {F : Nat → Prop} {rs : List RowM} {R : List Chunk}, St w0 F w (rowTC v (s.held x) :: (lkO M rs hs0 ++ R)) → St w0 F w (lkO M rs M.hs ++ R)
 cls : ∀ (v' : Value) (l' : List S32) (n : Nat), ∃ hs1, heldF hs1 x = some v' ∧ (∀ y, y ≠ x → heldF hs1 y = heldF M.hs y) ∧ Rep { M with hs := hs1, n3 := n } ⟨s.rows, s.waits, upd s.held x l'⟩ ∧
   ∀ {w0 w : World} {F : Nat → Prop} {R : List Chunk} (M0 : LM) (rs : List RowM), St w0 F w (rowTC v' l' :: (lkO M0 rs hs0 ++ R)) → St w0 F w (lkO M0 rs hs1 ++ R)
theorem hview {M : LM} {s : LS S32} (R : Rep M s) (x : Int) : ∃ hs0 v, HView M s x hs0 v := by
 cases hf : heldF M.hs x with
 | some u =>
   obtain ⟨X, m, Y, e, rfl, rfl⟩ := assoc_some hf
   have hl : m.l = s.held m.x := R.hh m (e ▸ mem_mid.2 (.inl rfl))
   have hnd := R.hn
   rw [e] at hnd
   refine ⟨X ++ Y, m.v, ⟨by rw [hf]; rfl, fun h => ?_, fun h => ?_, fun v' l' n => ⟨X ++ ⟨m.x, v', l'⟩ :: Y, ?_, fun y hy => ?_, R.setH e v' l' n, fun M0 rs h => ?_⟩⟩⟩
   · rw [e] at h
     rw [← hl]
     exact St.openH h
   · rw [← hl] at h
     rw [e]
     exact St.closeH h
   · exact assoc_mid_same (k := HeldM.x) (v := HeldM.v) (m := ⟨m.x, v', l'⟩) (by simpa using hnd)
   · show assoc HeldM.x HeldM.v (X ++ ⟨m.x, v', l'⟩ :: Y) y = assoc HeldM.x HeldM.v M.hs y
     rw [e, assoc_mid_ne (k := HeldM.x) (m := (⟨m.x, v', l'⟩ : HeldM)) hy, assoc_mid_ne (k := HeldM.x) hy]
   · exact St.closeH (m := ⟨m.x, v', l'⟩) h
 | none =>
   have hx := assoc_none.1 hf
   refine ⟨M.hs, .slice none 0 0, ⟨by rw [hf]; rfl, fun h => ?_, fun h => St.drop (A := [_]) h, fun v' l' n => ⟨⟨x, v', l'⟩ :: M.hs, assoc_cons_same (k := HeldM.x) (v := HeldM.v) ⟨x, v', l'⟩ M.hs, fun y hy => assoc_cons_ne hy, R.newH hx v' l' n, fun M0 rs h => ?_⟩⟩⟩
   · rw [R.ho x hx]
     exact h.fresh (Below.refl _ _) (rowTC (.slice none 0 0) []) RowX.nil (nd_bl (.slice none 0 0)) (fun b hb => by simp [rowXC, bl] at hb; cases hb)
   · exact St.closeH (m := ⟨x, v', l'⟩) (X := []) h
theorem upd_id {κ β : Type} [DecidableEq κ] (f : κ → β) (x : κ) : upd f x (f x) = f := by
 funext y
 by_cases h : y = x
 · rw [h, upd_same]
 · rw [upd_other h]
def Note39 (w : World) (F : Nat → Prop) (M : LM) (s : LS S32) (x : Int) (t : S32) (E : Ending) (w' : World) : Prop :=
 ∃ M', E = .returned (.tuple #[]) ∧ Rep M' ⟨s.rows, s.waits, upd s.held x (haddT (s.held x) t)⟩ ∧ M'.lp = M.lp ∧ M'.rs = M.rs ∧ M'.tot ≤ M.tot + 1 ∧ St w F w' (lk M')
theorem zero45 (w : World) : (zeroValue 49).run Tryz.prog w = .ok (.slice none 0 0) w := by kernel_rfl
set_option maxHeartbeats 4000000 in
theorem note_calls (w : World) (M : LM) (s : LS S32) (x : Int) (t : S32) (F : Nat → Prop) (hs : St w F w (lk M)) (hr : Rep M s) (hx : wfI x) (hso : Sorted (s.held x)) (hl : (s.held x).length < 999999) (hn : M.n3 < maxLen) :
   Calls Tryz.prog 36 #[lpV M, .int .i64 x, thgV t] w (Note39 w F M s x t) := by
 obtain ⟨R, hR⟩ : ∃ R, Note39 w F M s x t = R := ⟨_, rfl⟩
 have HR := Aside0.mk hR
 rw [hR]
 have hu55 := Tryz.underlying52
 have hu59 := Tryz.underlying56
 have hu29 := Tryz.underlying32
 have hu45 := Tryz.underlying49
 obtain ⟨n0, hn0⟩ : ∃ n, w.heap.size = n := ⟨_, rfl⟩
 obtain ⟨W0, hW0⟩ : ∃ W0, w.alloc (.cells #[.int .i64 t.f0, .string t.f1, .string t.f2] 32) = W0 := ⟨_, rfl⟩
 have hs0 := hs.alloc #[.int .i64 t.f0, .string t.f1, .string t.f2] 32 hn0
 rw [hW0] at hs0
 obtain ⟨hs', v, hv⟩ := hview hr x
 have hlk := (hs0.mapAt 3 rfl).lookup Tryz.underlying54 (zero45 W0) (show K3.wf x from hx)
 rw [hv.look] at hlk
 change (Instr.lookup 54 (.map (some M.b3)) (.int .i64 x) false).run Tryz.prog W0 = .ok v W0 at hlk
 have hs1 := hv.opn hs0
 obtain ⟨A, c, rfl⟩ := (hs1.rowX 0 rfl).form
 have HREP := Aside0.mk hr
 have HX := Aside0.mk (show K3.wf x from hx)
 have HN := Aside0.mk hn
 have HSO := Aside0.mk hso
 obtain ⟨l, hll⟩ : ∃ l, s.held x = l := ⟨_, rfl⟩
 have HL := Aside0.mk hll
 have HV := Aside0.mk hv
 rw [hll] at HSO hl hs1 hlk
 have HLEN := Aside0.mk hl
 have HS1 := Aside0.mk hs1
 obtain ⟨n, hnn⟩ : ∃ n, l.length = n := ⟨_, rfl⟩
 rw [hnn] at hlk HS1
 have HNN := Aside0.mk hnn
 obtain ⟨c0, c1, c2, hlp⟩ := HS1.out.lpAt 1 rfl
 have e0 := (blk_cell (HS1.out.blk 7 rfl) 0).trans rfl
 have e1 := (blk_cell (HS1.out.blk 7 rfl) 1).trans rfl
 have e2 := (blk_cell (HS1.out.blk 7 rfl) 2).trans rfl
 have h00 := lt_of_some (HS1.out.blk 7 rfl)
 have A42 := Aside0.mk (fun W (h : RowX thgE W (.slice A n c) l) => bsearch W _ l t h (by have := HLEN.out; omega) (HSO.out.mono t))
 clear hR hs hs0 hr hx hso hl hn hv hs1 hll hnn
 unfold lpV thgV
 show Calls Tryz.prog 36 #[.pointer (some ⟨M.lp, 0, none⟩), .int .i64 x, .agg #[.int .i64 t.f0, .string t.f1, .string t.f2]] w R
 cases hfo : found l t with
 | true =>
   rw [hfo] at A42
   go_enter Tryz.func36, Tryz.ntmps36
   go_wp2_with (go_at_call 48; refine (A42.out _ (HS1.out.rowX 0 rfl)).mono ?_; rintro E w2 ⟨rfl, hb⟩; have HS2 := Aside0.mk (HS1.out.below hb); clear hb c0 c1 c2 hlp e0 e1 e2 h00 hlk)
   go_end0
   rw [← HR.out]
   have eh : haddT (s.held x) t = s.held x := by unfold haddT; rw [HL.out, hfo]; rfl
   refine ⟨M, rfl, by rw [eh, upd_id]; exact HREP.out, rfl, rfl, Nat.le_succ _, ?_⟩
   have h1 := HS2.out
   rw [← HNN.out, ← HL.out] at h1
   exact St.left (A := lk M) (HV.out.bck h1)
 | false =>
   rw [hfo] at A42
   have hle := low_le l t
   obtain ⟨i, hi⟩ : ∃ i, low l t = i := ⟨_, rfl⟩
   rw [hi] at A42 hle
   have HLE := Aside0.mk hle
   have HI := Aside0.mk hi
   clear hle hi
   go_enter Tryz.func36, Tryz.ntmps36
   go_wp2_with (go_at_call 48; refine (A42.out _ (HS1.out.rowX 0 rfl)).mono ?_; rintro E w2 ⟨rfl, hb⟩; have HS2 := Aside0.mk (HS1.out.below hb); clear hb c0 c1 c2 hlp e0 e1 e2 h00 hlk)
   refine start_ (n := 11) (S := fun w' => w'.cell? ⟨M.lp, 2, none⟩ = some (.map (some M.b3)) ∧ w'.cell? ⟨n0, 0, none⟩ = some (.int .i64 t.f0) ∧ w'.cell? ⟨n0, 1, none⟩ = some (.string t.f1) ∧ w'.cell? ⟨n0, 2, none⟩ = some (.string t.f2)) (ds := [10]) #[false, false, false, false, false, false, false, false, false, false, false] (by kernel_rfl) rfl rfl ⟨(HS2.out.lpAt 1 rfl).2.2.1, (blk_cell (HS2.out.blk 7 rfl) 0).trans rfl, (blk_cell (HS2.out.blk 7 rfl) 1).trans rfl, (blk_cell (HS2.out.blk 7 rfl) 2).trans rfl⟩ (fun hHeld => ?_)
   have HS1 := Aside0.mk (HS2.out.drew)
   clear HS2
   generalize w2.drew = w3 at HS1 hHeld  ⊢
   refine pu_ 0 23 (bs_ 11 1) ?_; refine pu_ 1 24 (bs_ 11 3) ?_; refine pu_ 2 25 (bs_ 11 7) ?_; refine pu_ 4 27 (bs_ 11 23) ?_; refine pu_ 5 28 (bs_ 11 55) ?_; refine pu_ 6 29 (bs_ 11 119) ?_; refine ta_ 3 26 (bs_ 11 127) hHeld ?_; refine ta_ 7 30 (bs_ 11 255) hHeld ?_
   refine one_ (i := 8) (N := (some 31)) (bs_ 11 511) rfl rfl (by kernel_rfl) (by decide) (fun K_ hK => ?_)
   obtain ⟨vb, hvb⟩ : ∃ v : Nat, w3.heap.size = v := ⟨_, rfl⟩
   refine made_ (v := .slice (some ⟨w3.heap.size, 0, none⟩) 1 1) (w1 := w3.alloc (.cells #[.int .i64 t.f0, .string t.f1, .string t.f2] 32)) (by rfl) rfl (by go_simp) ?_
   have HS2 := Aside0.mk (HS1.out.alloc #[.int .i64 t.f0, .string t.f1, .string t.f2] 32 hvb)
   clear HS1
   rw [hvb]
   clear hvb
   clear hHeld
   refine hK.out _ _ ⟨(HS2.out.lpAt 1 rfl).2.2.1, (blk_cell (HS2.out.blk 7 rfl) 0).trans rfl, (blk_cell (HS2.out.blk 7 rfl) 1).trans rfl, (blk_cell (HS2.out.blk 7 rfl) 2).trans rfl⟩ (fun hHeld => ?_)
   clear hK K_
   generalize w3.alloc (.cells #[.int .i64 t.f0, .string t.f1, .string t.f2] 32) = w4 at HS2 hHeld  ⊢
   refine norm_ (a' := ?_) ?_ ?_
   rotate_left
   · show Act.put _ (some 31) _ = _
     simp only [Act.put, List.setIfInBounds_toArray, List.set_cons_zero, List.set_cons_succ, i64_w, i32_w]
     rfl
   refine one_ (i := 9) (N := (some 32)) (bs_ 11 1023) rfl rfl (by kernel_rfl) (by decide) (fun K_ hK => ?_)
   refine goes_ Tryz.func50 (by kernel_rfl) rfl #[.slice A n c, .int .i64 i, .slice (some ⟨vb, 0, none⟩) 1 1] (by rfl) rfl rfl (by (try simp only [List.map_toArray, List.map_cons, List.map_nil]); first | done | rfl) ?_
   refine (insertT _ (.slice A n c) l i t vb (i : Int) (HS2.out.rowX 0 rfl) HLE.out (by have := HLEN.out; omega) (HS2.out.blk 8 rfl) (fun h => HS2.out.apart 0 8 (by decide) rfl rfl _ h (by simp [blkC])) rfl).mono ?_
   rintro E w5 ⟨g_, c_, rfl, hrow, hgr, hown⟩
   have HS3 := Aside0.mk (HS2.out.rowTo 0 rfl hrow hgr hown)
   clear HS2
   clear hrow hgr hown
   obtain ⟨hs1, k1, k2, k3, k4⟩ := HV.out.cls (.slice (some ⟨g_, 0, none⟩) (l.length + 1) c_) (insAt l i t) (M.n3 + 1)
   have K1_ := Aside0.mk k1
   have K2_ := Aside0.mk k2
   have K3_ := Aside0.mk k3
   have K4_ := Aside0.mk @k4
   clear k1 k2 k3 k4
   refine ⟨_, rfl, ?_⟩
   clear hHeld
   refine hK.out _ _ ⟨(HS3.out.lpAt 1 rfl).2.2.1, (blk_cell (HS3.out.blk 7 rfl) 0).trans rfl, (blk_cell (HS3.out.blk 7 rfl) 1).trans rfl, (blk_cell (HS3.out.blk 7 rfl) 2).trans rfl⟩ (fun hHeld => ?_)
   clear hK K_
   refine norm_ (a' := ?_) ?_ ?_
   rotate_left
   · show Act.put _ (some 32) _ = _
     simp only [Act.put, List.setIfInBounds_toArray, List.set_cons_zero, List.set_cons_succ, i64_w, i32_w]
     rfl
   refine last_ (i := 10) (N := none) (bs_ 11 2047) rfl rfl (by kernel_rfl) (by decide) (fun K_ hK => ?_)
   obtain ⟨w6, hrun, hmap, hg⟩ := (HS3.out.mapAt 4 rfl).update (f' := heldF hs1) Tryz.underlying54 HN.out HX.out (.slice (some ⟨g_, 0, none⟩) (l.length + 1) c_) K1_.out K2_.out
   refine update_ (.tmp 26) (.tmp 27) (.tmp 32) 54 (by rfl) rfl rfl _ _ _ (by rfl) (by rfl) (by rfl) hrun ?_
   have HS4 := Aside0.mk (HS3.out.mapTo 4 rfl hmap hg)
   clear HS3
   clear hrun hmap hg
   refine hK.out _ _ ?_
   clear hK K_ hHeld
   refine done_ (by kernel_rfl) ?_
   go_end0
   rw [← HR.out]
   have eh : haddT (s.held x) t = insAt l i t := by unfold haddT; rw [HL.out, hfo, HI.out]; rfl
   refine ⟨{ M with hs := hs1, n3 := M.n3 + 1 }, rfl, by rw [eh]; exact K3_.out, rfl, rfl, by simp only [LM.tot]; omega, ?_⟩
   exact St.left (A := lk { M with hs := hs1, n3 := M.n3 + 1 }) (K4_.out { M with hs := hs1, n3 := M.n3 + 1 } M.rs HS4.out)
end Go.Proofs.Kb
end
section
namespace Go.Proofs.Kb
open Go Go.RowKit Go.Proofs.YtkcjcdkmdooofaaGreat.Q Go.Proofs.YtkcjcdkmdooofaaGreatW.PrintWords Go.Proofs.YtkcjcdkmdooofaaGreatW.PrintLast Go.Proofs.YtkcjcdkmdooofaaGreatW.PrintMore
set_option maxRecDepth 100000
open Go.Proofs.Lk Go.Proofs.Mp
section
variable {w0 w : World} {F : Nat → Prop} {R : List Chunk} {M : LM} {s : LS S32}
theorem row_fr {t : S32} (hs : St w0 F w (lk M ++ R)) (hr : Rep M s) (ht : wfT t) (hn : M.n1 < maxLen) :
   Calls Tryz.prog 28 #[lpV M, thgV t] w fun E w' => ∃ M' X m Y, E = .returned (ptr m.p) ∧ M'.rs = X ++ m :: Y ∧ m.t = t ∧ Rep M' s ∧ M'.lp = M.lp ∧ M'.tot ≤ M.tot + 1 ∧ St w0 F w' (lk M' ++ R) :=
 (lrow_calls w M s t _ (St.sub hs) hr ht hn).mono fun E w' ⟨M', X, m, Y, h1, h2, h3, h4, h5, h6, h7⟩ => ⟨M', X, m, Y, h1, h2, h3, h4, h5, h6, St.call hs h7⟩
theorem note_fr {x : Int} {t : S32} (hs : St w0 F w (lk M ++ R)) (hr : Rep M s) (hx : wfI x) (hso : Sorted (s.held x)) (hl : (s.held x).length < 999999) (hn : M.n3 < maxLen) :
   Calls Tryz.prog 36 #[lpV M, .int .i64 x, thgV t] w fun E w' => ∃ M', E = .returned (.tuple #[]) ∧ Rep M' ⟨s.rows, s.waits, upd s.held x (haddT (s.held x) t)⟩ ∧ M'.lp = M.lp ∧ M'.rs = M.rs ∧ M'.tot ≤ M.tot + 1 ∧ St w0 F w' (lk M' ++ R) :=
 (note_calls w M s x t _ (St.sub hs) hr hx hso hl hn).mono fun E w' ⟨M', h1, h2, h3, h4, h5, h6⟩ => ⟨M', h1, h2, h3, h4, h5, St.call hs h6⟩
theorem delW {x : Int} (hs : St w0 F w (lk M ++ R)) (hr : Rep M s) (hx : wfI x) (ty : TypeId) : ∃ w', (Builtin.delete_ #[53, 3] ty #[.map (some M.b2), .int .i64 x]).run Tryz.prog w = .ok (.tuple #[]) w' ∧
   Rep { M with wt := upd s.waits x none } ⟨s.rows, upd s.waits x none, s.held⟩ ∧ St w0 F w' (lk { M with wt := upd s.waits x none } ++ R) := by
 obtain ⟨w', h1, h2, h3⟩ := (hs.mapAt (K := K3) (n := M.n2) (f := waitF M.wt) 2 rfl).delete (f' := waitF (upd s.waits x none)) Tryz.underlying53 (show K3.wf x from hx) ty (by simp [waitF, upd_same]) (fun y hy => by simp [waitF, upd_other hy, hr.ww])
 exact ⟨w', h1, hr.setW _ _, hs.mapTo 2 rfl h2 h3⟩
theorem lk_setR {X Y : List RowM} {m m' : RowM} (e : M.rs = X ++ m :: Y) (ht : m'.t = m.t) (hp : m'.p = m.p) : lkO M (X ++ m' :: Y) M.hs = lk { M with rs := X ++ m' :: Y } := by
 unfold lk lkO
 have h1 : rowsF M.rs = rowsF (X ++ m' :: Y) := by
   rw [e]
   exact (assoc_mid (k := RowM.t) (v := fun m => ptr m.p) ht (by rw [hp])).symm
 rw [h1]
 rfl
end
theorem sweepA_sub : ∀ (k : Nat) (r : LRow) (i : Nat), ∀ x ∈ (sweepA k r i).2, ∃ o ∈ r.waits, o.1 = x
 | 0, r, i => fun x hx => by cases hx
 | k + 1, r, i => fun x hx => by
   cases ho : r.waits[i]? with
   | none =>
     rw [sweepA_end (k + 1) r i (List.getElem?_eq_none_iff.1 ho)] at hx
     cases hx
   | some o =>
     by_cases hb : rawB r o i = []
     · rw [sweepA_give ho hb] at hx
       rcases List.mem_cons.1 hx with rfl | hx
       · exact ⟨o, List.mem_of_getElem? ho, rfl⟩
       · obtain ⟨o2, h1, h2⟩ := sweepA_sub k _ i x hx
         exact ⟨o2, List.mem_of_mem_eraseIdx h1, h2⟩
     · rw [sweepA_skip ho hb] at hx
       exact sweepA_sub k r (i + 1) x hx
theorem sweepA_len : ∀ (k : Nat) (r : LRow) (i : Nat), (sweepA k r i).2.length + (sweepA k r i).1.waits.length = r.waits.length ∧ (sweepA k r i).1.holds.length + (sweepA k r i).1.waits.length ≤ r.holds.length + r.waits.length
 | 0, r, i => ⟨by simp [sweepA], Nat.le_refl _⟩
 | k + 1, r, i => by
   cases ho : r.waits[i]? with
   | none =>
     rw [sweepA_end (k + 1) r i (List.getElem?_eq_none_iff.1 ho)]
     exact ⟨by simp, Nat.le_refl _⟩
   | some o =>
     by_cases hb : rawB r o i = []
     · rw [sweepA_give ho hb]
       obtain ⟨h1, h2⟩ := sweepA_len k ⟨Lk.give r.holds o, r.waits.eraseIdx i⟩ i
       have h3 := give_len r.holds o
       have h4 : i < r.waits.length := (List.getElem?_eq_some_iff.1 ho).1
       have h5 : (r.waits.eraseIdx i).length = r.waits.length - 1 := List.length_eraseIdx_of_lt h4
       simp only [List.length_cons] at h1 h2 ⊢
       omega
     · rw [sweepA_skip ho hb]
       exact sweepA_len k r (i + 1)
structure OkR (r : LRow) : Prop where
 hn : (r.holds.map (·.1)).Nodup
 len : r.holds.length + r.waits.length < 600
 wf : ∀ o ∈ r.waits, wfI o.1
theorem OkR.drop {r : LRow} (h : OkR r) (x : Int) : OkR (dropR r x) :=
 ⟨List.Nodup.sublist (List.filter_sublist.map _) h.hn, by
   have h1 : (r.holds.filter fun o => o.1 != x).length ≤ r.holds.length := List.length_filter_le _ _
   have h2 : (r.waits.filter fun o => o.1 != x).length ≤ r.waits.length := List.length_filter_le _ _
   have := h.len
   show (r.holds.filter fun o => o.1 != x).length + (r.waits.filter fun o => o.1 != x).length < 600
   omega, fun o ho => h.wf o (List.mem_filter.1 ho).1⟩
theorem sweepA_ok : ∀ (k : Nat) (r : LRow) (i : Nat), (r.holds.map (·.1)).Nodup → (∀ o ∈ r.waits, wfI o.1) → ((sweepA k r i).1.holds.map (·.1)).Nodup ∧ (∀ o ∈ (sweepA k r i).1.waits, wfI o.1)
 | 0, r, i, h1, h2 => ⟨h1, h2⟩
 | k + 1, r, i, h1, h2 => by
   cases ho : r.waits[i]? with
   | none =>
     rw [sweepA_end (k + 1) r i (List.getElem?_eq_none_iff.1 ho)]
     exact ⟨h1, h2⟩
   | some o =>
     by_cases hb : rawB r o i = []
     · rw [sweepA_give ho hb]
       exact sweepA_ok k _ i (give_nodup h1) fun o ho => h2 o (List.mem_of_mem_eraseIdx ho)
     · rw [sweepA_skip ho hb]
       exact sweepA_ok k r (i + 1) h1 h2
theorem OkR.sweep {r : LRow} (h : OkR r) : OkR (sweepR r).1 := by
 obtain ⟨h1, h2⟩ := sweepA_ok (r.waits.length + 1) r 0 h.hn h.wf
 have := (sweepA_len (r.waits.length + 1) r 0).2
 exact ⟨h1, Nat.lt_of_le_of_lt this h.len, h2⟩
def OkH (N : Nat) (s : LS S32) : Prop := ∀ x, Sorted (s.held x) ∧ (s.held x).length ≤ N
theorem OkH.note1 {N : Nat} {s : LS S32} (h : OkH N s) (t : S32) (x : Int) : OkH (N + 1) (noted haddT t s x) := fun y => by
 show Sorted (upd s.held x (haddT (s.held x) t) y) ∧ (upd s.held x (haddT (s.held x) t) y).length ≤ N + 1
 by_cases hy : y = x
 · subst hy
   rw [upd_same]
   have := haddT_len (s.held y) t
   have := (h y).2
   exact ⟨haddT_sorted (h y).1 t, by omega⟩
 · rw [upd_other hy]
   exact ⟨(h y).1, Nat.le_succ_of_le (h y).2⟩
theorem OkH.fold {t : S32} : ∀ (out : List Int) {N : Nat} {s : LS S32}, OkH N s → OkH (N + out.length) (out.foldl (noted haddT t) s)
 | [], N, s, h => h
 | x :: out, N, s, h => by
   have := OkH.fold (t := t) out (h.note1 t x)
   rw [List.length_cons, show N + (out.length + 1) = N + 1 + out.length by omega]
   exact this
def swBase (s : LS S32) (t : S32) : LS S32 := ⟨upd s.rows t (sweepR (s.rows t)).1, s.waits, s.held⟩
def Sweep46 (w : World) (F : Nat → Prop) (M : LM) (s : LS S32) (t : S32) (E : Ending) (w' : World) : Prop :=
 ∃ M' v, E = .returned v ∧ Rep M' (sweepS haddT s t).1 ∧ M'.lp = M.lp ∧ M'.tot ≤ M.tot + 601 ∧ St w F w' (lk M' ++ [rowIC v (sweepS haddT s t).2])
theorem fold_take {α β : Type} (f : β → α → β) (b : β) {l : List α} {i : Nat} {x : α} (h : l[i]? = some x) : (l.take (i + 1)).foldl f b = f ((l.take i).foldl f b) x := by
 rw [List.take_add_one, h, List.foldl_append]
 rfl
theorem fold_rows (t : S32) : ∀ (out : List Int) (s : LS S32), (out.foldl (noted haddT t) s).rows = s.rows
 | [], s => rfl
 | x :: out, s => fold_rows t out (noted haddT t s x)
theorem delete0_ {P : Program} {ops : Array Oper} {Q : Exit → Act → World → Prop} {oi : Oper} {a : Act} {w w' : World} {K : Act → World → Prop} (d x : Operand) (dT sT : TypeId) (hw : Region.wanted oi (yielded ops a.tmps) = true) (hN : oi.dst = none)
   (hop : oi.op = Op.call { callee := Callee.builtin Builtin.delete, args := #[d, x], argTypes := #[dT, sT] }) (v u : Value) (hd : a.eval d = v) (hx : a.eval x = u) {v' : Value} (hr : (Builtin.delete_ #[dT, sT] oi.type #[v, u]).run P w = .ok v' w')
   (h : K a w') : if Region.wanted oi (yielded ops a.tmps) = true then Oper.wp P oi a w K Q else K (a.put none undef) w :=
 delete_ d x dT sT hw hN hop v u hd hx hr h
def SwI (w : World) (F : Nat → Prop) (M : LM) (s : LS S32) (t : S32) (rs : List RowM) (out : List Int) (R : List Chunk) (i : Nat) (W : World) : Prop :=
 ∃ Mk, Rep Mk ((out.take i).foldl (noted haddT t) (swBase s t)) ∧ Mk.lp = M.lp ∧ Mk.rs = rs ∧ Mk.tot ≤ M.tot + 1 + i ∧ St w F W (lk Mk ++ R)
set_option maxHeartbeats 4000000 in
theorem lsweep_calls (w : World) (M : LM) (s : LS S32) (t : S32) (F : Nat → Prop) (N : Nat) (hs : St w F w (lk M)) (hr : Rep M s) (ht : wfT t) (hok : OkR (s.rows t)) (hh : OkH N s) (hN : N < 900000) (hn : M.tot < 4611686018427387904) :
   Calls Tryz.prog 45 #[lpV M, thgV t] w (Sweep46 w F M s t) := by
 obtain ⟨R, hR⟩ : ∃ R, Sweep46 w F M s t = R := ⟨_, rfl⟩
 have HR := Aside0.mk hR
 rw [hR]
 have hu55 := Tryz.underlying52
 have hu56 := Tryz.underlying53
 have hu59 := Tryz.underlying56
 have hu64 := Tryz.underlying67
 have hu62 := Tryz.underlying65
 have hu29 := Tryz.underlying32
 have hu39 := Tryz.underlying41
 obtain ⟨n0, hn0⟩ : ∃ n, w.heap.size = n := ⟨_, rfl⟩
 obtain ⟨W0, hW0⟩ : ∃ W0, w.alloc (.cells #[.int .i64 t.f0, .string t.f1, .string t.f2] 32) = W0 := ⟨_, rfl⟩
 have hs0 := hs.alloc #[.int .i64 t.f0, .string t.f1, .string t.f2] 32 hn0
 rw [hW0] at hs0
 have e0 := (blk_cell (hs0.blk 6 rfl) 0).trans rfl
 have e1 := (blk_cell (hs0.blk 6 rfl) 1).trans rfl
 have e2 := (blk_cell (hs0.blk 6 rfl) 2).trans rfl
 have h00 := lt_of_some (hs0.blk 6 rfl)
 have HREP := Aside0.mk hr
 have HT := Aside0.mk ht
 have HN := Aside0.mk hn
 have HOK := Aside0.mk hok
 have HH := Aside0.mk hh
 have HNN := Aside0.mk hN
 obtain ⟨out, hout⟩ : ∃ out, (sweepR (s.rows t)).2 = out := ⟨_, rfl⟩
 have hol : out.length < 600 := by
   have := (sweepA_len ((s.rows t).waits.length + 1) (s.rows t) 0).1
   have h2 := hok.len
   rw [← hout]
   show (sweepA ((s.rows t).waits.length + 1) (s.rows t) 0).2.length < 600
   omega
 have hwf : ∀ x ∈ out, wfI x := fun x hx => by
   rw [← hout] at hx
   obtain ⟨o, h1, rfl⟩ := sweepA_sub _ _ _ x hx
   exact hok.wf o h1
 have HOUT := Aside0.mk hout
 have HOL := Aside0.mk hol
 have HWF := Aside0.mk hwf
 have HRS := Aside0.mk hs0
 have A28 := Aside0.mk (row_fr (R := [blkC n0 (.cells #[.int .i64 t.f0, .string t.f1, .string t.f2] 32 (0, 0))]) hs0 hr ht (by simp only [LM.tot] at hn; simp only [maxLen]; omega))
 clear hR hs hr ht hn hok hh hN hout hol hwf hs0
 unfold lpV thgV at A28
 unfold lpV thgV
 show Calls Tryz.prog 45 #[.pointer (some ⟨M.lp, 0, none⟩), .agg #[.int .i64 t.f0, .string t.f1, .string t.f2]] w R
 have G1 : True := trivial
 go_enter Tryz.func45, Tryz.ntmps45
 go_wp2_with (first
   | (clear G1; go_at_call 28; refine A28.out.mono ?_; rintro E w2 ⟨M1, X, m, Y, rfl, k1, k2, k3, k4, k5, k6⟩; have HE := Aside0.mk k1; have HMT := Aside0.mk k2; have HREP1 := Aside0.mk k3; have HLP := Aside0.mk k4; have HTOT := Aside0.mk k5; have h1 := k6; unfold lk at h1; rw [k1] at h1; have HS1 := Aside0.mk (St.openR h1); clear h1 k1 k2 k3 k4 k5 k6 e0 e1 e2 h00 A28 HRS; unfold ptr)
   | (go_at_call 70; have hmr : m.r = s.rows t := (HMT.out ▸ HREP1.out.rr m (HE.out ▸ mem_mid.2 (.inl rfl))); have hsub : St w2 (fun b => b ∈ fpc (row3 m.p m.hv m.wv m.r)) w2 (row3 m.p m.hv m.wv m.r) := (St.sub (A := row3 m.p m.hv m.wv m.r) (R := lkO M1 (X ++ Y) M1.hs ++ [blkC n0 _]) HS1.out); refine (rsweep_calls w2 m.p m.hv m.wv m.r _ hsub (by rw [hmr]; have := HOK.out.len; omega) (by rw [hmr]; exact HOK.out.hn)).mono ?_; rintro E w3 ⟨v, hv3, wv3, rfl, k⟩; have h2 := St.call (A := row3 m.p m.hv m.wv m.r) (R := lkO M1 (X ++ Y) M1.hs ++ [blkC n0 _]) HS1.out k; rw [hmr, HOUT.out] at h2; have HS3 := Aside0.mk h2; clear hmr hsub k h2 HS1; obtain ⟨A, c, rfl⟩ := (HS3.out.rowX 3 rfl).form; obtain ⟨no, hno⟩ : ∃ n, out.length = n := ⟨_, rfl⟩; rw [hno] at HS3 ⊢; have HNO := Aside0.mk hno; clear hno))
 obtain ⟨r', hr'⟩ : ∃ r', (sweepR (s.rows t)).1 = r' := ⟨_, rfl⟩
 rw [hr'] at HS3
 obtain ⟨Ah, ch, rfl⟩ := (HS3.out.rowX 1 rfl).form
 obtain ⟨Aw, cw, rfl⟩ := (HS3.out.rowX 2 rfl).form
 obtain ⟨nh, hnh⟩ : ∃ n, r'.holds.length = n := ⟨_, rfl⟩
 obtain ⟨nw, hnw⟩ : ∃ n, r'.waits.length = n := ⟨_, rfl⟩
 rw [hnh, hnw] at HS3
 obtain ⟨p, hp⟩ : ∃ p, m.p = p := ⟨_, rfl⟩
 obtain ⟨m', hm'⟩ : ∃ m' : RowM, (⟨m.t, m.p, .slice Ah nh ch, .slice Aw nw cw, r'⟩ : RowM) = m' := ⟨_, rfl⟩
 have hRL : r'.holds.length + r'.waits.length < 600 := by rw [← hr']; exact HOK.out.sweep.len
 have hSB : SwI w F M s t (X ++ m' :: Y) out [rowIC (.slice A no c) out, blkC n0 (.cells #[.int .i64 t.f0, .string t.f1, .string t.f2] 32 (0, 0))] 0 w3 := by
   have hrep := HREP1.out.setR HE.out (.slice Ah nh ch) (.slice Aw nw cw) r'
   rw [hm', HMT.out] at hrep
   have h1 := HS3.out.perm (B := row3 m.p (.slice Ah nh ch) (.slice Aw nw cw) r' ++ lkO M1 (X ++ Y) M1.hs ++ [rowIC (.slice A no c) out, blkC n0 (.cells #[.int .i64 t.f0, .string t.f1, .string t.f2] 32 (0, 0))]) (perm_ix _ [0, 1, 2, 4, 5, 6, 7, 8, 9, 3, 10] 11 rfl (by decide))
   have h2 := St.closeR (m := ⟨m.t, m.p, .slice Ah nh ch, .slice Aw nw cw, r'⟩) h1
   rw [hm', lk_setR HE.out (by rw [← hm']) (by rw [← hm'])] at h2
   refine ⟨{ M1 with rs := X ++ m' :: Y }, ?_, HLP.out, rfl, by have := HTOT.out; simp only [LM.tot] at this ⊢; omega, h2⟩
   have e : swBase s t = ⟨upd s.rows t r', s.waits, s.held⟩ := by unfold swBase; rw [hr']
   rw [List.take_zero, List.foldl_nil, e]
   exact hrep
 have HSB := Aside0.mk hSB
 have HR' := Aside0.mk hr'
 have HM' := Aside0.mk hm'
 have HNH := Aside0.mk hnh
 have HNW := Aside0.mk hnw
 have HRL := Aside0.mk hRL
 rw [hp]
 have HP := Aside0.mk hp
 clear hSB hr' hm' hnh hnw HS3 HREP1 HTOT HLP hp hRL
 go_loopg [8, 16] no (fun gq v8 v16 wx => ∃ i : Nat, v16 = .int .i64 i ∧ i + gq = no ∧ Aside0 (SwI w F M s t (X ++ m' :: Y) out [rowIC (.slice A no c) out, blkC n0 (.cells #[.int .i64 t.f0, .string t.f1, .string t.f2] 32 (0, 0))] i wx))
 case atStart => exact ⟨0, rfl, by omega, HSB⟩
 case round =>
   clear HSB
   obtain ⟨i, rfl, hi, HSI⟩ := hrel
   obtain ⟨Mk, k1, k2, k3, k4, k5⟩ := HSI.out
   clear HSI
   obtain ⟨c0, c1, c2, hlp⟩ := k5.lpAt 0 rfl
   rw [k2] at c0 c1 c2 hlp
   have e0 := (blk_cell (k5.blk 7 rfl) 0).trans rfl
   have e1 := (blk_cell (k5.blk 7 rfl) 1).trans rfl
   have e2 := (blk_cell (k5.blk 7 rfl) 2).trans rfl
   have h00 := lt_of_some (k5.blk 7 rfl)
   have HLP := Aside0.mk k2
   have HRS := Aside0.mk k3
   have HTOT := Aside0.mk k4
   have HREPK := Aside0.mk k1
   have HSK := Aside0.mk k5
   clear k1 k2 k3 k4 k5
   cases gk with
   | zero =>
     obtain rfl : i = no := by omega
     have hrow : RowH wr p (.slice Ah nh ch) (.slice Aw nw cw) r' := by
       have h0 : ∀ y ∈ Mk.rs, RowH wr y.p y.hv y.wv y.r := HSK.out.get 4 rfl
       have h1 := h0 m' (HRS.out ▸ mem_mid.2 (.inl rfl))
       rw [← HM'.out] at h1
       rw [← HP.out]
       exact h1
     have HROW := Aside0.mk hrow
     have hw1 : IntKind.i64.wrap ((nh : Int) + (nw : Int)) = (nh : Int) + (nw : Int) := by rw [IntKind.wrap_i64]; have := HRL.out; rw [HNH.out, HNW.out] at this; omega
     have hw2 : Go.RowKit.wrap64 ((nh : Int) + (nw : Int)) = (nh : Int) + (nw : Int) := by rw [← i64_w]; exact hw1
     have hw3 : Go.RowKit.wrap64 0 = 0 := by unfold Go.RowKit.wrap64; omega
     have htk : out.take i = out := List.take_of_length_le (by rw [HNO.out]; exact Nat.le_refl _)
     have HTK := Aside0.mk htk
     clear hrow c1 c2 e0 e1 e2 htk
     have hfin : (sweepS haddT s t).1 = (out.take i).foldl (noted haddT t) (swBase s t) ∧ (sweepS haddT s t).2 = out := by
       unfold sweepS swBase
       rw [HTK.out, HOUT.out]
       exact ⟨rfl, rfl⟩
     have HFIN := Aside0.mk hfin
     clear hfin
     go_wp2
     by_cases h0 : (nh : Int) + (nw : Int) = 0
     · have HZ := Aside0.mk h0
       refine start_ (n := 12) (S := fun w' => w'.cell? ⟨p, 0, none⟩ = some (.slice Ah nh ch) ∧ w'.cell? ⟨p, 1, none⟩ = some (.slice Aw nw cw)) (ds := []) #[false, false, false, false, false, false, false, false, false, false, false, false] (by kernel_rfl) rfl rfl ⟨HROW.out.c0, HROW.out.c1⟩ (fun hHeld => ?_)
       have HS1 := Aside0.mk (HSK.out.drew)
       clear HSK
       generalize wr.drew = w7 at HS1 hHeld  ⊢
       refine pu_ 0 30 (bs_ 12 1) ?_; refine pu_ 1 31 (bs_ 12 3) ?_; refine pu_ 2 32 (bs_ 12 7) ?_; refine pu_ 5 35 (bs_ 12 39) ?_; refine pu_ 6 36 (bs_ 12 103) ?_; refine pu_ 7 37 (bs_ 12 231) ?_; refine ta_ 3 33 (bs_ 12 239) hHeld ?_; refine pu_ 4 34 (bs_ 12 255) ?_; refine ta_ 8 38 (bs_ 12 511) hHeld ?_; refine pu_ 9 39 (bs_ 12 1023) ?_; refine pu_ 10 40 (bs_ 12 2047) ?_; refine pu_ 11 41 (bs_ 12 4095) ?_
       refine done_ (by kernel_rfl) ?_
       go_wp2
       refine start_ (n := 6) (S := fun w' => w'.cell? ⟨M.lp, 0, none⟩ = some (.map (some Mk.b1)) ∧ MapV K32 w' Mk.b1 Mk.n1 (rowsF Mk.rs) ∧ w'.cell? ⟨n0, 0, none⟩ = some (.int .i64 t.f0) ∧ w'.cell? ⟨n0, 1, none⟩ = some (.string t.f1) ∧ w'.cell? ⟨n0, 2, none⟩ = some (.string t.f2)) (ds := [5]) #[false, false, false, false, false, false] (by kernel_rfl) rfl rfl ⟨(HLP.out ▸ (HS1.out.lpAt 0 rfl).1), HS1.out.mapAt 1 rfl, (blk_cell (HS1.out.blk 7 rfl) 0).trans rfl, (blk_cell (HS1.out.blk 7 rfl) 1).trans rfl, (blk_cell (HS1.out.blk 7 rfl) 2).trans rfl⟩ (fun hHeld => ?_)
       have HS2 := Aside0.mk (HS1.out.drew)
       clear HS1
       generalize w7.drew = w8 at HS2 hHeld  ⊢
       refine pu_ 0 42 (bs_ 6 1) ?_; refine pu_ 1 43 (bs_ 6 3) ?_; refine pu_ 2 44 (bs_ 6 7) ?_; refine ta_ 3 45 (bs_ 6 15) hHeld ?_; refine ta_ 4 46 (bs_ 6 31) hHeld ?_
       refine last_ (i := 5) (N := none) (bs_ 6 63) rfl rfl (by kernel_rfl) (by decide) (fun K_ hK => ?_)
       have hnd_ := HREPK.out.rn
       rw [HRS.out] at hnd_
       have hmt_ : m'.t = t := by rw [← HM'.out]; exact HMT.out
       obtain ⟨w9, hrun, hmap, hg⟩ := (HS2.out.mapAt (K := K32) (n := Mk.n1) (f := rowsF Mk.rs) 1 rfl).delete (f' := rowsF (X ++ Y)) Tryz.underlying52 (show K32.wf t from HT.out) 0 (by rw [← hmt_]; exact assoc_gone hnd_) (fun y hy => by rw [HRS.out]; exact (assoc_mid_ne (by rw [hmt_]; exact hy)).symm)
       refine delete0_ (.tmp 45) (.tmp 46) 52 32 (by rfl) rfl rfl _ _ (by rfl) (by rfl) hrun ?_
       have HS3 := Aside0.mk (HS2.out.mapTo 1 rfl hmap hg)
       clear HS2
       clear hrun hmap hg hnd_ hmt_
       refine hK.out _ _ ?_
       clear hK K_ hHeld
       refine done_ (by kernel_rfl) ?_
       go_wp2
       rw [← HR.out]
       refine ⟨{ Mk with rs := X ++ Y }, _, rfl, ?_, HLP.out, by have := HTOT.out; have := HOL.out; have := HNO.out; simp only [LM.tot] at *; omega, ?_⟩
       · rw [HFIN.out.1]
         refine HREPK.out.delR HRS.out ?_ _
         rw [fold_rows, ← HM'.out]
         show upd s.rows t (sweepR (s.rows t)).1 m.t = _
         have e1 : r'.holds = [] := List.length_eq_zero_iff.1 (by have := HNH.out; have := HZ.out; omega)
         have e2 : r'.waits = [] := List.length_eq_zero_iff.1 (by have := HNW.out; have := HZ.out; omega)
         rw [HMT.out, upd_same, HR'.out, show r' = ⟨r'.holds, r'.waits⟩ from rfl, e1, e2]
       · rw [HFIN.out.2]
         have h1 : St w F w9 (lkO { Mk with rs := X ++ Y } (X ++ m' :: Y) Mk.hs ++ [rowIC (.slice A i c) out, blkC n0 (.cells #[.int .i64 t.f0, .string t.f1, .string t.f2] 32 (0, 0))]) := by
           have h1 := HS3.out
           unfold lk lkO at h1
           rw [HRS.out] at h1
           exact h1
         exact St.left (A := lk { Mk with rs := X ++ Y } ++ [rowIC (.slice A i c) out]) (R := [_]) (St.drop (A := row3 m'.p m'.hv m'.wv m'.r) (St.openR h1))
     · have HZ := Aside0.mk h0
       refine start_ (n := 12) (S := fun w' => w'.cell? ⟨p, 0, none⟩ = some (.slice Ah nh ch) ∧ w'.cell? ⟨p, 1, none⟩ = some (.slice Aw nw cw)) (ds := []) #[false, false, false, false, false, false, false, false, false, false, false, false] (by kernel_rfl) rfl rfl ⟨HROW.out.c0, HROW.out.c1⟩ (fun hHeld => ?_)
       have HS1 := Aside0.mk (HSK.out.drew)
       clear HSK
       generalize wr.drew = w7 at HS1 hHeld  ⊢
       refine pu_ 0 30 (bs_ 12 1) ?_; refine pu_ 1 31 (bs_ 12 3) ?_; refine pu_ 2 32 (bs_ 12 7) ?_; refine pu_ 5 35 (bs_ 12 39) ?_; refine pu_ 6 36 (bs_ 12 103) ?_; refine pu_ 7 37 (bs_ 12 231) ?_; refine ta_ 3 33 (bs_ 12 239) hHeld ?_; refine pu_ 4 34 (bs_ 12 255) ?_; refine ta_ 8 38 (bs_ 12 511) hHeld ?_; refine pu_ 9 39 (bs_ 12 1023) ?_; refine pu_ 10 40 (bs_ 12 2047) ?_; refine pu_ 11 41 (bs_ 12 4095) ?_
       refine done_ (by kernel_rfl) ?_
       go_wp2
       rw [← HR.out]
       refine ⟨Mk, _, rfl, by rw [HFIN.out.1]; exact HREPK.out, HLP.out, by have := HTOT.out; have := HOL.out; have := HNO.out; omega, ?_⟩
       rw [HFIN.out.2]
       exact St.left (A := lk Mk ++ [rowIC (.slice A i c) out]) (R := [_]) HS1.out
   | succ gq =>
     have hin : i < no := by omega
     have hin2 : (i : Int) < (no : Int) := by omega
     have hi0 : (0 : Int) ≤ (i : Int) := by omega
     have hi9 : (i : Int) ≤ 1000000 := by have := HOL.out; rw [HNO.out] at this; omega
     obtain ⟨x, hx⟩ : ∃ x, out[i]? = some x := ⟨_, List.getElem?_eq_getElem (by rw [HNO.out]; exact hin)⟩
     have hrl : RowX intE wr (.slice A no c) out := HSK.out.rowX 6 rfl
     obtain ⟨g, c', hv, _⟩ := row_slice hrl (by rw [HNO.out]; omega)
     obtain ⟨rfl, rfl⟩ : A = some ⟨g, 0, none⟩ ∧ c = c' := by
       injection hv with e1 e2 e3
       exact ⟨e1, e3⟩
     have d0 := hrl.int hx
     have hgl : g < wr.heap.size := World.block_lt_of_cell? _ _ d0
     have hwx : wfI x := HWF.out x (List.mem_of_getElem? hx)
     have HXI := Aside0.mk hx
     have HWX := Aside0.mk hwx
     obtain ⟨w5, hrun, hrep5, hs5⟩ := delW HSK.out HREPK.out hwx 0
     have hoh := (OkH.fold (t := t) (out.take i) (s := swBase s t) (fun y => HH.out y)) x
     have HOH := Aside0.mk hoh
     have HTKL := Aside0.mk (show (out.take i).length ≤ 600 by rw [List.length_take]; have := HOL.out; omega)
     have A39 := Aside0.mk (note_fr (x := x) (t := t) hs5 hrep5 hwx HOH.out.1 (Nat.lt_of_le_of_lt HOH.out.2 (by have := HTKL.out; have := HNN.out; omega)) (by have := HTOT.out; have := HN.out; have := HOL.out; have := HNO.out; simp only [LM.tot] at *; simp only [maxLen]; omega))
     obtain ⟨f0, f1, f2, hlp5⟩ := hs5.lpAt 0 rfl
     rw [show ({ Mk with wt := upd ((out.take i).foldl (noted haddT t) (swBase s t)).waits x none } : LM).lp = M.lp from HLP.out] at f0 f1 f2 hlp5
     have g0 := (blk_cell (hs5.blk 7 rfl) 0).trans rfl
     have g1 := (blk_cell (hs5.blk 7 rfl) 1).trans rfl
     have g2 := (blk_cell (hs5.blk 7 rfl) 2).trans rfl
     have h05 := lt_of_some (hs5.blk 7 rfl)
     unfold lpV thgV at A39
     rw [show ({ Mk with wt := upd ((out.take i).foldl (noted haddT t) (swBase s t)).waits x none } : LM).lp = M.lp from HLP.out] at A39
     clear hx hv hrl hrep5 hs5 hwx hoh
     go_wp2_with ((go_at_call 36; (refine A39.out.mono ?_; rintro E w6 ⟨M6, rfl, k1, k2, k3, k4, k5⟩; have HSI6 := Aside0.mk (show SwI w F M s t (X ++ m' :: Y) out _ (i + 1) w6 from ⟨M6, (by rw [fold_take _ _ HXI.out]; exact k1), k2, k3.trans HRS.out, (by have := HTOT.out; simp only [LM.tot] at *; omega), k5⟩); clear k1 k2 k3 k4 k5 g0 g1 g2 h05 d0 hgl c0 c1 c2 hlp e0 e1 e2 h00 hrun f0 f1 f2 hlp5)))
     go_roundg gq
     case measure => omega
     case rel => exact ⟨i + 1, by go_num, by omega, HSI6⟩
end Go.Proofs.Kb
end
section
namespace Go.Proofs.Kb
open Go Go.RowKit Go.Proofs.YtkcjcdkmdooofaaGreat.Q Go.Proofs.YtkcjcdkmdooofaaGreatW.PrintWords Go.Proofs.YtkcjcdkmdooofaaGreatW.PrintLast Go.Proofs.YtkcjcdkmdooofaaGreatW.PrintMore
set_option maxRecDepth 100000
open Go.Proofs.Lk Go.Proofs.Mp
theorem erase_filter {l : List One} {x : Int} {i : Nat} (hn : (l.map (·.1)).Nodup) (h : l.findIdx? (isT x) = some i) : l.eraseIdx i = l.filter fun o => o.1 != x := by
 obtain ⟨hi, hp, hlow⟩ := List.findIdx?_eq_some_iff_getElem.1 h
 have hp2 : l[i].1 = x := eq_of_beq hp
 have e : l = l.take i ++ l[i] :: l.drop (i + 1) := by rw [List.getElem_cons_drop, List.take_append_drop]
 have h1 : ∀ o ∈ l.eraseIdx i, o.1 ≠ x := fun o ho => by
   have := nodup_ne hn (List.getElem?_eq_getElem hi) ho
   rw [hp2] at this
   exact this
 rw [List.eraseIdx_eq_take_drop_succ] at h1 ⊢
 conv => rhs; rw [e]
 rw [List.filter_append, List.filter_cons, if_neg (by simp [hp2])]
 have h2 := List.filter_eq_self.2 (fun o (ho : o ∈ l.take i ++ l.drop (i + 1)) => (show (o.1 != x) = true by simpa using h1 o ho))
 rw [List.filter_append] at h2
 exact h2.symm
structure OkS (N : Nat) (s : LS S32) : Prop where
 rows : ∀ t, OkR (s.rows t)
 held : OkH N s
 wt : ∀ x t, s.waits x = some t → wfT t
 ht : ∀ x, ∀ t ∈ s.held x, wfT t
section
variable {w0 w : World} {F : Nat → Prop} {R : List Chunk} {M : LM} {s : LS S32}
theorem lsweep_fr {t : S32} {N : Nat} (hs : St w0 F w (lk M ++ R)) (hr : Rep M s) (ht : wfT t) (hok : OkR (s.rows t)) (hh : OkH N s) (hN : N < 900000) (hn : M.tot < 4611686018427387904) :
   Calls Tryz.prog 45 #[lpV M, thgV t] w fun E w' => ∃ M' v, E = .returned v ∧ Rep M' (sweepS haddT s t).1 ∧ M'.lp = M.lp ∧ M'.tot ≤ M.tot + 601 ∧ St w0 F w' (lk M' ++ [rowIC v (sweepS haddT s t).2] ++ R) :=
 (lsweep_calls w M s t _ N (St.sub hs) hr ht hok hh hN hn).mono fun E w' ⟨M', v, h1, h2, h3, h4, h5⟩ => ⟨M', v, h1, h2, h3, h4, St.call hs h5⟩
theorem lookW {W : World} {x : Int} (hs : St w0 F W (lk M ++ R)) (hr : Rep M s) (hx : wfI x) : (Instr.lookup 53 (.map (some M.b2)) (.int .i64 x) true).run Tryz.prog W = .ok (.tuple #[((s.waits x).map thgV).getD (.agg #[.int .i64 0, .string ⟨#[]⟩, .string ⟨#[]⟩]), .bool (s.waits x).isSome]) W := by
 have h := (hs.mapAt (K := K3) (n := M.n2) (f := waitF M.wt) 2 rfl).lookup2 Tryz.underlying53 (z := .agg #[.int .i64 0, .string ⟨#[]⟩, .string ⟨#[]⟩]) (by kernel_rfl) (show K3.wf x from hx)
 rw [hr.ww] at h
 unfold waitF at h
 rw [Option.isSome_map] at h
 exact h
end
def Cancel26 (w : World) (F : Nat → Prop) (M : LM) (s : LS S32) (x : Int) (E : Ending) (w' : World) : Prop :=
 ∃ M' v, E = .returned v ∧ Rep M' (cancelS haddT s x).1 ∧ M'.lp = M.lp ∧ M'.tot ≤ M.tot + 700 ∧ St w F w' (lk M' ++ [rowIC v (cancelS haddT s x).2])
set_option maxHeartbeats 4000000 in
theorem cancel_calls (w : World) (M : LM) (s : LS S32) (x : Int) (F : Nat → Prop) (N : Nat) (hs : St w F w (lk M)) (hr : Rep M s) (hI : LInv s) (hx : wfI x) (hok : OkS N s) (hN : N < 900000) (hn : M.tot < 4000000000000000000) :
   Calls Tryz.prog 10 #[lpV M, .int .i64 x] w (Cancel26 w F M s x) := by
 obtain ⟨R, hR⟩ : ∃ R, Cancel26 w F M s x = R := ⟨_, rfl⟩
 have HR := Aside0.mk hR
 rw [hR]
 have hu55 := Tryz.underlying52
 have hu56 := Tryz.underlying53
 have hu59 := Tryz.underlying56
 have hu64 := Tryz.underlying67
 have hu62 := Tryz.underlying65
 have hu29 := Tryz.underlying32
 have hz29 := Tryz.sizeOf32
 obtain ⟨c0, c1, c2, hlp⟩ := hs.lpAt 0 rfl
 have hlk := lookW (R := []) hs hr hx
 unfold lpV
 cases hw : s.waits x with
 | none =>
   rw [hw] at hlk
   simp only [Option.map, Option.getD, Option.isSome] at hlk
   have HS := Aside0.mk (hs.alloc #[.int .i64 0, .string ⟨#[]⟩, .string ⟨#[]⟩] 32 rfl)
   have HREP := Aside0.mk hr
   have HW := Aside0.mk hw
   clear hR hs hr hI hx hok hN hn hw
   go_enter Tryz.func10, Tryz.ntmps10
   go_wp2
   all_goals (first | (rw [← HR.out]) | (go_ret; rw [← HR.out]))
   have e : cancelS haddT s x = (s, []) := by unfold cancelS; rw [HW.out]
   refine ⟨M, .slice none 0 0, rfl, by rw [e]; exact HREP.out, rfl, by omega, ?_⟩
   rw [e]
   have h1 := St.fresh (St.left (A := lk M) HS.out) (Below.refl _ _) (rowIC (.slice none 0 0) []) RowX.nil (nd_bl (.slice none 0 0)) (fun b hb => by simp [rowXC, bl] at hb; cases hb)
   exact h1.perm (perm_ix _ [1, 2, 3, 4, 5, 6, 0] 7 rfl (by decide))
 | some t =>
   rw [hw] at hlk
   simp only [Option.map, Option.getD, Option.isSome, thgV] at hlk
   have htw := hok.wt x t hw
   have HT := Aside0.mk htw
   obtain ⟨r0, hr0⟩ : ∃ r0, s.rows t = r0 := ⟨_, rfl⟩
   have hok0 : OkR r0 := hr0 ▸ hok.rows t
   have hha : has r0.waits x = true := hr0 ▸ (hI.ww x t).1 hw
   have hwn : (r0.waits.map (·.1)).Nodup := hr0 ▸ (hI.row t).wn
   obtain ⟨i, hfi⟩ : ∃ i, r0.waits.findIdx? (isT x) = some i := by
     cases hc : r0.waits.findIdx? (isT x) with
     | some i => exact ⟨i, rfl⟩
     | none =>
       have := (idx_neg r0.waits x).1 (by unfold idxI; rw [hc]; decide)
       rw [this] at hha
       cases hha
   have hil := (List.findIdx?_eq_some_iff_getElem.1 hfi).1
   have hij : idxI r0.waits (isT x) = i := by unfold idxI; rw [hfi]
   have her := erase_filter hwn hfi
   obtain ⟨nw, hnw⟩ : ∃ n, r0.waits.length = n := ⟨_, rfl⟩
   rw [hnw] at hil
   have hi0 : (0 : Int) ≤ (i : Int) := by omega
   have hi9 : (i : Int) ≤ 1000000 := by have := hok0.len; omega
   obtain ⟨n0, hn0⟩ : ∃ n, w.heap.size = n := ⟨_, rfl⟩
   have hs0 := hs.alloc #[.int .i64 t.f0, .string t.f1, .string t.f2] 32 hn0
   obtain ⟨W0, hW0⟩ : ∃ W0, w.alloc (.cells #[.int .i64 t.f0, .string t.f1, .string t.f2] 32) = W0 := ⟨_, rfl⟩
   rw [hW0] at hs0
   obtain ⟨w5, hrun, hrep5, hs5⟩ := delW hs0 hr hx 0
   obtain ⟨M5, hM5⟩ : ∃ M5, ({ M with wt := upd s.waits x none } : LM) = M5 := ⟨_, rfl⟩
   have hb2 : M.b2 = M5.b2 := by rw [← hM5]
   have hlp5 : M5.lp = M.lp := by rw [← hM5]
   have htot5 : M5.tot = M.tot := by rw [← hM5]; rfl
   rw [hM5] at hrep5 hs5
   have a0 := (hs0.lpAt 0 rfl)
   obtain ⟨a0, a1, a2, hlp0⟩ := a0
   obtain ⟨f0, f1, f2, hlp5'⟩ := hs5.lpAt 0 rfl
   rw [hlp5] at f0 f1 f2 hlp5'
   have g0 := (blk_cell (hs5.blk 6 rfl) 0).trans rfl
   have g1 := (blk_cell (hs5.blk 6 rfl) 1).trans rfl
   have g2 := (blk_cell (hs5.blk 6 rfl) 2).trans rfl
   have h05 := lt_of_some (hs5.blk 6 rfl)
   obtain ⟨r', hr'⟩ : ∃ r' : LRow, (⟨r0.holds, r0.waits.filter fun o => o.1 != x⟩ : LRow) = r' := ⟨_, rfl⟩
   have hokr' : OkR r' := by
     have h2 : (r0.waits.filter fun o => o.1 != x).length ≤ r0.waits.length := List.length_filter_le _ _
     rw [← hr']
     exact ⟨hok0.hn, by have := hok0.len; show r0.holds.length + (r0.waits.filter fun o => o.1 != x).length < 600; omega, fun o ho => hok0.wf o (List.mem_filter.1 ho).1⟩
   have A28 := Aside0.mk (row_fr (t := t) hs5 hrep5 htw (by have := htot5; simp only [LM.tot] at *; simp only [maxLen]; omega))
   unfold lpV thgV at A28
   rw [hlp5] at A28
   have hlen := hok0.len
   have HR0 := Aside0.mk hr0
   have HNW := Aside0.mk hnw
   have A47 := Aside0.mk (fun W g c (h : RowX oneE W (.slice (some ⟨g, 0, none⟩) nw c) r0.waits) => deleteO W g nw c i r0.waits (i : Int) ((i : Int) + 1) h hnw hil (by omega) rfl rfl)
   have HHELD := Aside0.mk (show OkH N ⟨upd s.rows t r', upd s.waits x none, s.held⟩ from fun y => hok.held y)
   have A46 := Aside0.mk (fun W M1 (R1 : List Chunk) (h1 : St w F W (lk M1 ++ R1)) (h2 : Rep M1 ⟨upd s.rows t r', upd s.waits x none, s.held⟩) (h3 : M1.tot ≤ M.tot + 1) => lsweep_fr h1 h2 htw (by show OkR (upd s.rows t r' t); rw [upd_same]; exact hokr') HHELD.out hN (by omega))
   unfold lpV thgV at A46
   have A29 := Aside0.mk (fun W p hv wv (h : RowH W p hv wv r0) => wait_calls W p hv wv r0 x h (by omega))
   rw [hij] at A29
   unfold ptr at A29
   have ecan : cancelS haddT s x = sweepS haddT ⟨upd s.rows t r', upd s.waits x none, s.held⟩ t := by unfold cancelS; rw [hw, ← hr', ← hr0]
   have HCAN := Aside0.mk ecan
   have HTOT5 := Aside0.mk htot5
   have HIL := Aside0.mk hil
   have HER := Aside0.mk her
   have HR'_ := Aside0.mk hr'
   have HLEN := Aside0.mk hlen
   have HLP5 := Aside0.mk hlp5
   rw [hb2] at hlk hrun a1 c1
   clear hR hs hr hI hx hok hok0 hr0 hnw hN hn hw htw hha hwn hfi hil hij her hs0 hrep5 hs5 hr' hokr' hlen ecan htot5 hM5 hb2 hlp5
   have G1 : True := trivial
   have G2 : True := trivial
   have G3 : True := trivial
   go_enter Tryz.func10, Tryz.ntmps10
   go_wp2_with (first
     | (clear G1; go_at_call 28; (refine A28.out.mono ?_; rintro E w2 ⟨M1, X, m, Y, rfl, k1, k2, k3, k4, k5, k6⟩; have HE := Aside0.mk k1; have HMT := Aside0.mk k2; have HREP1 := Aside0.mk k3; have HLP := Aside0.mk k4; have HTOT := Aside0.mk k5; have h1 := k6; unfold lk at h1; rw [k1] at h1; have h2 := St.openR h1; have hmr : m.r = r0 := ((k2 ▸ k3.rr m (k1 ▸ mem_mid.2 (.inl rfl)) : m.r = s.rows t).trans HR0.out); rw [hmr] at h2; have HS1 := Aside0.mk h2; clear h1 h2 hmr k1 k2 k3 k4 k5 k6 c0 c1 c2 hlp a0 a1 a2 hlp0 f0 f1 f2 hlp5' g0 g1 g2 h05 hlk hrun A28; unfold ptr))
     | (clear G2; go_at_call 43; refine (A29.out _ _ _ _ (St.rowH (R := lkO M1 (X ++ Y) M1.hs ++ [blkC n0 _]) HS1.out)).mono ?_; rintro E w3 ⟨rfl, hb⟩; have hs3 := HS1.out.below hb; clear hb HS1; obtain ⟨g, c, hwv, _⟩ := (hs3.rowX 2 rfl).fill (by have := HIL.out; rw [HNW.out]; omega); rw [hwv, HNW.out] at hs3; have HS3 := Aside0.mk hs3; obtain ⟨d0, d1, df⟩ := hs3.cells64 0 rfl; have hpl := World.block_lt_of_cell? _ _ d0; clear hs3 hwv)
     | (clear G3; go_at_call 44; refine (A47.out w3 g c (HS3.out.rowX 2 rfl)).mono ?_; rintro E w4 ⟨rfl, hrow, hgr⟩; have hs4 := HS3.out.rowTo 2 rfl hrow hgr (.inl rfl); clear d0 d1 df hpl hrow hgr; obtain ⟨d0, d1, df⟩ := hs4.cells64 0 rfl; have hpl := World.block_lt_of_cell? _ _ d0; have HS4 := Aside0.mk (hs4.put64b 0 rfl (.slice (some ⟨g, 0, none⟩) (nw - 1) c)); have e0 := (blk_cell (hs4.blk 9 rfl) 0).trans rfl; have e1 := (blk_cell (hs4.blk 9 rfl) 1).trans rfl; have e2 := (blk_cell (hs4.blk 9 rfl) 2).trans rfl; have h04 := lt_of_some (hs4.blk 9 rfl); have hne : m.p ≠ n0 := (fun e => hs4.apart 0 9 (by decide) rfl rfl m.p (by simp [cellC, blkC]) (by simp [blkC, e])); have hne2 : n0 ≠ m.p := (fun e => hne e.symm); clear hs4)
     | (go_at_call 45; go_loud (have h1 : St w F _ (row3 m.p m.hv (.slice (some ⟨g, 0, none⟩) (nw - 1) c) ⟨r0.holds, r0.waits.eraseIdx i⟩ ++ lkO M1 (X ++ Y) M1.hs ++ [blkC n0 _]) := HS4.out; rw [HER.out, HR'_.out] at h1; have h2 := St.closeR (m := ⟨m.t, m.p, m.hv, .slice (some ⟨g, 0, none⟩) (nw - 1) c, r'⟩) h1; rw [lk_setR (m' := ⟨m.t, m.p, m.hv, .slice (some ⟨g, 0, none⟩) (nw - 1) c, r'⟩) HE.out rfl rfl] at h2; have hrep := HREP1.out.setR HE.out m.hv (.slice (some ⟨g, 0, none⟩) (nw - 1) c) r'; rw [HMT.out] at hrep h2; have A := A46.out _ _ _ h2 hrep (by have := HTOT.out; have := HTOT5.out; simp only [LM.tot] at *; omega); rw [show ({ M1 with rs := X ++ ⟨t, m.p, m.hv, .slice (some ⟨g, 0, none⟩) (nw - 1) c, r'⟩ :: Y } : LM).lp = M.lp from HLP.out] at A; refine A.mono ?_; rintro E w6 ⟨M6, v, rfl, k1, k2, k3, k4⟩; have K1 := Aside0.mk k1; have K2 := Aside0.mk k2; have K3 := Aside0.mk k3; have HS6 := Aside0.mk k4; clear k1 k2 k3 k4 h1 h2 hrep A e0 e1 e2 d0 d1 df hpl h04 hne hne2)))
   rw [← HR.out]
   refine ⟨M6, v, rfl, by rw [HCAN.out]; exact K1.out, K2.out, by have := K3.out; have := HTOT.out; have := HTOT5.out; simp only [LM.tot] at *; omega, ?_⟩
   rw [HCAN.out]
   exact St.left (A := lk M6 ++ [rowIC v _]) (R := [_]) HS6.out
end Go.Proofs.Kb
end
section
namespace Go.Proofs.Kb
open Go Go.RowKit Go.Proofs.YtkcjcdkmdooofaaGreat.Q Go.Proofs.YtkcjcdkmdooofaaGreatW.PrintWords Go.Proofs.YtkcjcdkmdooofaaGreatW.PrintLast Go.Proofs.YtkcjcdkmdooofaaGreatW.PrintMore
set_option maxRecDepth 100000
open Go.Proofs.Lk Go.Proofs.Mp
section
variable {w0 w : World} {F : Nat → Prop} {R : List Chunk} {M : LM} {s : LS S32}
set_option maxHeartbeats 2000000 in
theorem things_fr {x : Int} (hs : St w0 F w (lk M ++ R)) (hr : Rep M s) (hx : wfI x) (hl : (s.held x).length < 1000000) :
   Calls Tryz.prog 23 #[lpV M, .int .i64 x] w fun E w' => ∃ v, E = .returned v ∧ St w0 F w' (rowTC v (s.held x) :: (lk M ++ R)) := by
 obtain ⟨Q, hQ⟩ : ∃ Q, (fun E w' => ∃ v, E = Ending.returned v ∧ St w0 F w' (rowTC v (s.held x) :: (lk M ++ R))) = Q := ⟨_, rfl⟩
 have HQ := Aside0.mk hQ
 rw [hQ]
 have hu59 := Tryz.underlying56
 obtain ⟨hs0, v, hv⟩ := hview hr x
 have hlk := (hs.mapAt (K := K3) (n := M.n3) (f := heldF M.hs) 3 rfl).lookup Tryz.underlying54 (zero45 w) (show K3.wf x from hx)
 rw [hv.look] at hlk
 change (Instr.lookup 54 (.map (some M.b3)) (.int .i64 x) false).run Tryz.prog w = .ok v w at hlk
 have hrow : RowX thgE w v (s.held x) := (hv.opn hs).rowX 0 rfl
 obtain ⟨c0, c1, c2, hlp⟩ := hs.lpAt 0 rfl
 have HC := Aside0.mk (cloneT w v (s.held x) hrow hl)
 have HS := Aside0.mk hs
 obtain ⟨A, c, rfl⟩ := hrow.form
 clear hQ hr hx hl hv hrow hs
 unfold lpV
 go_enter Tryz.func23, Tryz.ntmps23
 go_wp2_with (go_at_call 55; refine HC.out.mono ?_; rintro E w2 ⟨v', rfl, k⟩; have HS2 := Aside0.mk (St.call0 HS.out k); clear k)
 rw [← HQ.out]
 exact ⟨v', rfl, HS2.out⟩
theorem delH {x : Int} (hs : St w0 F w (lk M ++ R)) (hr : Rep M s) (hx : wfI x) (ty : TypeId) : ∃ w' M', (Builtin.delete_ #[54, 3] ty #[.map (some M.b3), .int .i64 x]).run Tryz.prog w = .ok (.tuple #[]) w' ∧
   Rep M' ⟨s.rows, s.waits, upd s.held x []⟩ ∧ M'.lp = M.lp ∧ M'.tot = M.tot ∧ St w0 F w' (lk M' ++ R) := by
 cases hf : heldF M.hs x with
 | none =>
   obtain ⟨w', h1, h2, h3⟩ := (hs.mapAt (K := K3) (n := M.n3) (f := heldF M.hs) 3 rfl).delete (f' := heldF M.hs) Tryz.underlying54 (show K3.wf x from hx) ty hf (fun y hy => rfl)
   exact ⟨w', { M with n3 := M.n3 }, h1, hr.noH (assoc_none.1 hf) _, rfl, rfl, hs.mapTo 3 rfl h2 h3⟩
 | some u =>
   obtain ⟨X, m, Y, e, rfl, rfl⟩ := assoc_some hf
   have hnd := hr.hn
   rw [e] at hnd
   obtain ⟨w', h1, h2, h3⟩ := (hs.mapAt (K := K3) (n := M.n3) (f := heldF M.hs) 3 rfl).delete (f' := heldF (X ++ Y)) Tryz.underlying54 (show K3.wf m.x from hx) ty (assoc_gone hnd) (fun y hy => by rw [e]; exact (assoc_mid_ne hy).symm)
   refine ⟨w', { M with hs := X ++ Y, n3 := M.n3 }, h1, hr.delH e _, rfl, rfl, ?_⟩
   have h4 : St w0 F w' (lkO { M with hs := X ++ Y, n3 := M.n3 } M.rs (X ++ m :: Y) ++ R) := by
     have h4 := hs.mapTo 3 rfl h2 h3
     unfold lk lkO at h4
     rw [e] at h4
     exact h4
   exact St.drop (A := [_]) (St.openH h4)
end
def dropS (s : LS S32) (x : Int) (all : List S32) (i : Nat) : LS S32 := ⟨fun t => if t ∈ all.take i then dropR (s.rows t) x else s.rows t, upd s.waits x none, upd s.held x []⟩
theorem drop_drop (r : LRow) (x : Int) : dropR (dropR r x) x = dropR r x := by
 unfold dropR
 simp only [List.filter_filter, Bool.and_self]
theorem dropS_step {s : LS S32} {x : Int} {all : List S32} {i : Nat} {t : S32} (h : all[i]? = some t) : (⟨upd (dropS s x all i).rows t (dropR ((dropS s x all i).rows t) x), (dropS s x all i).waits, (dropS s x all i).held⟩ : LS S32) = dropS s x all (i + 1) := by
 unfold dropS
 congr 1
 funext u
 have e : all.take (i + 1) = all.take i ++ [t] := by rw [List.take_add_one, h]; rfl
 simp only [e, List.mem_append, List.mem_singleton]
 by_cases hu : u = t
 · subst hu
   rw [upd_same]
   by_cases hm : u ∈ all.take i
   · simp [hm, drop_drop]
   · simp [hm]
 · rw [upd_other hu]
   simp [hu]
theorem sweepsS_snoc : ∀ (l : List S32) (t : S32) (s : LS S32), sweepsS haddT (l ++ [t]) s = ((sweepS haddT (sweepsS haddT l s).1 t).1, (sweepsS haddT l s).2 ++ (sweepS haddT (sweepsS haddT l s).1 t).2)
 | [], t, s => by simp [sweepsS]
 | u :: l, t, s => by
   rw [List.cons_append]
   simp only [sweepsS]
   rw [sweepsS_snoc l t]
   simp
def OkRows (s : LS S32) : Prop := ∀ t, OkR (s.rows t)
theorem sweepS_ok {s : LS S32} {N : Nat} (h : OkRows s) (hh : OkH N s) (t : S32) : OkRows (sweepS haddT s t).1 ∧ OkH (N + 600) (sweepS haddT s t).1 ∧ (sweepS haddT s t).2.length ≤ 600 := by
 have hl : (sweepR (s.rows t)).2.length ≤ 600 := by
   have h1 := (sweepA_len ((s.rows t).waits.length + 1) (s.rows t) 0).1
   have h2 := (h t).len
   show (sweepA ((s.rows t).waits.length + 1) (s.rows t) 0).2.length ≤ 600
   omega
 refine ⟨fun u => ?_, ?_, hl⟩
 · show OkR (((sweepR (s.rows t)).2.foldl (noted haddT t) ⟨upd s.rows t (sweepR (s.rows t)).1, s.waits, s.held⟩).rows u)
   rw [fold_rows]
   show OkR (upd s.rows t (sweepR (s.rows t)).1 u)
   by_cases hu : u = t
   · rw [hu, upd_same]
     exact (h t).sweep
   · rw [upd_other hu]
     exact h u
 · intro y
   have := OkH.fold (t := t) (sweepR (s.rows t)).2 (s := ⟨upd s.rows t (sweepR (s.rows t)).1, s.waits, s.held⟩) (N := N) (fun z => hh z) y
   exact ⟨this.1, Nat.le_trans this.2 (by omega)⟩
theorem sweepsS_ok : ∀ (l : List S32) {s : LS S32} {N : Nat}, OkRows s → OkH N s → OkRows (sweepsS haddT l s).1 ∧ OkH (N + 600 * l.length) (sweepsS haddT l s).1 ∧ (sweepsS haddT l s).2.length ≤ 600 * l.length
 | [], s, N, h, hh => ⟨h, hh, Nat.le_refl _⟩
 | t :: l, s, N, h, hh => by
   obtain ⟨h1, h2, h3⟩ := sweepS_ok h hh t
   obtain ⟨k1, k2, k3⟩ := sweepsS_ok l h1 h2
   simp only [sweepsS, List.length_cons, List.length_append]
   refine ⟨k1, fun y => ⟨(k2 y).1, Nat.le_trans (k2 y).2 (by omega)⟩, by omega⟩
theorem dropS_ok {s : LS S32} {x : Int} {all : List S32} {i : Nat} (h : ∀ t, OkR (s.rows t)) : OkRows (dropS s x all i) := fun t => by
 unfold dropS
 show OkR (if t ∈ all.take i then dropR (s.rows t) x else s.rows t)
 split
 · exact (h t).drop x
 · exact h t
theorem dropS_held {s : LS S32} {x : Int} {all : List S32} {i N : Nat} (h : OkH N s) (hN : N ≤ 1000) : OkH 1000 (dropS s x all i) := fun y => by
 show Sorted (upd s.held x [] y) ∧ (upd s.held x [] y).length ≤ 1000
 by_cases hy : y = x
 · rw [hy, upd_same]
   exact ⟨List.Pairwise.nil, Nat.zero_le _⟩
 · rw [upd_other hy]
   exact ⟨(h y).1, Nat.le_trans (h y).2 hN⟩
def RelA (w : World) (F : Nat → Prop) (M : LM) (s : LS S32) (x : Int) (all : List S32) (R : List Chunk) (i : Nat) (W : World) : Prop :=
 ∃ Mk, Rep Mk (dropS s x all i) ∧ Mk.lp = M.lp ∧ Mk.tot ≤ M.tot + i ∧ St w F W (lk Mk ++ R)
def RelB (w : World) (F : Nat → Prop) (M : LM) (s : LS S32) (x : Int) (all : List S32) (R : List Chunk) (i : Nat) (v : Value) (W : World) : Prop :=
 ∃ Mk, Rep Mk (sweepsS haddT (all.take i) (dropS s x all all.length)).1 ∧ Mk.lp = M.lp ∧ Mk.tot ≤ M.tot + all.length + 601 * i ∧ St w F W (lk Mk ++ [rowIC v (sweepsS haddT (all.take i) (dropS s x all all.length)).2] ++ R)
def Release21 (w : World) (F : Nat → Prop) (M : LM) (s : LS S32) (x : Int) (E : Ending) (w' : World) : Prop :=
 ∃ M' v, E = .returned v ∧ Rep M' (releaseS haddT s x).1 ∧ M'.lp = M.lp ∧ M'.tot ≤ M.tot + 1000000 ∧ St w F w' (lk M' ++ [rowIC v (releaseS haddT s x).2])
set_option maxHeartbeats 4000000 in
theorem release_calls (w : World) (M : LM) (s : LS S32) (x : Int) (F : Nat → Prop) (N : Nat) (hs : St w F w (lk M)) (hr : Rep M s) (hwx : wfI x) (hok : OkS N s) (hN : N ≤ 1000) (hn : M.tot < 4000000000000000000) :
   Calls Tryz.prog 12 #[lpV M, .int .i64 x] w (Release21 w F M s x) := by
 obtain ⟨R, hR⟩ : ∃ R, Release21 w F M s x = R := ⟨_, rfl⟩
 have HR := Aside0.mk hR
 rw [hR]
 have hu55 := Tryz.underlying52
 have hu56 := Tryz.underlying53
 have hu57 := Tryz.underlying54
 have hu59 := Tryz.underlying56
 have hu29 := Tryz.underlying32
 have hu45 := Tryz.underlying49
 have hu39 := Tryz.underlying41
 have hz29 := Tryz.sizeOf32
 have HREP := Aside0.mk hr
 have HOK := Aside0.mk hok
 have HN := Aside0.mk hN
 have HTOT := Aside0.mk hn
 have HWX := Aside0.mk hwx
 obtain ⟨l, hl⟩ : ∃ l, s.held x = l := ⟨_, rfl⟩
 have HL := Aside0.mk hl
 have hll : l.length ≤ 1000 := by rw [← hl]; exact Nat.le_trans (hok.held x).2 hN
 have hlso : Sorted l := hl ▸ (hok.held x).1
 have HLL := Aside0.mk hll
 have HLS := Aside0.mk hlso
 have A20 := Aside0.mk (things_fr (R := []) hs hr hwx (by rw [hl]; omega))
 rw [hl] at A20
 unfold lpV at A20
 have A56 := Aside0.mk (fun W (R1 : List Chunk) (h : St w F W (lk M ++ R1)) => lookW h hr hwx)
 clear hR hs hr hok hN hn hwx hl hll hlso
 unfold lpV
 cases hw : s.waits x with
 | none =>
   rw [hw] at A56
   simp only [Option.map, Option.getD, Option.isSome] at A56
   have HW := Aside0.mk hw
   clear hw
   go_enter Tryz.func12, Tryz.ntmps12
   go_wp2_with (go_at_call 23; refine A20.out.mono ?_; rintro E w1 ⟨v, rfl, hs1⟩; have hs2 : St w F w1 (lk M ++ [rowTC v l]) := (hs1.perm (perm_ix _ [1, 2, 3, 4, 5, 6, 0] 7 rfl (by decide))); have hlk := A56.out w1 _ hs2; obtain ⟨A, c, rfl⟩ := (hs2.rowX 6 rfl).form; obtain ⟨n, hnn⟩ : ∃ n, l.length = n := ⟨_, rfl⟩; rw [hnn] at hs2 ⊢; have HNN := Aside0.mk hnn; obtain ⟨b0, b1, b2, blp⟩ := hs2.lpAt 0 rfl; have hsX := St.left (A := lk M ++ [rowTC (.slice A n c) l]) (hs2.alloc #[.int .i64 0, .string ⟨#[]⟩, .string ⟨#[]⟩] 32 rfl); clear hs1 hs2 hnn; obtain ⟨c0, c1, c2, hlp⟩ := hsX.lpAt 0 rfl; obtain ⟨w5, hrun5, hrep5, hs5⟩ := delW hsX HREP.out HWX.out 0; obtain ⟨M5, hM5⟩ : ∃ M5, ({ M with wt := upd s.waits x none } : LM) = M5 := ⟨_, rfl⟩; have hlp5 : M5.lp = M.lp := (by rw [← hM5]); have htot5 : M5.tot = M.tot := (by rw [← hM5]; rfl); rw [hM5] at hrep5 hs5; obtain ⟨w6, M6, hrun6, hrep6, hlp6, htot6, hs6⟩ := delH hs5 hrep5 HWX.out 0; obtain ⟨f0, f1, f2, flp⟩ := hs5.lpAt 0 rfl; rw [hlp5] at f0 f1 f2 flp; have HSA0 := Aside0.mk (show RelA w F M s x (l) [rowTC (.slice A n c) (l)] 0 w6 from ⟨M6, hrep6, hlp6.trans hlp5, (by rw [htot6, htot5]; exact Nat.le_refl _), hs6⟩); clear hsX hrep5 hs5 hM5 hlp5 htot5 hrep6 hlp6 htot6 hs6)
   have HALL := Aside0.mk (show allT haddT s x = l by unfold allT; rw [HW.out]; dsimp only; rw [HL.out]; skip)
   have HWFA := Aside0.mk (show ∀ u ∈ l, wfT u from fun u hu => by exact HOK.out.ht x u (by rw [HL.out]; exact hu))
   obtain ⟨all, hall⟩ : ∃ all, l = all := ⟨_, rfl⟩
   have HNA := Aside0.mk (show all.length = n by rw [← hall]; exact HNN.out)
   rw [hall] at HSA0 HALL HWFA
   have HNL := Aside0.mk (show n ≤ 1001 by have := HLL.out; have := HNN.out; omega)
   clear hall
   clear c0 c1 c2 hlp f0 f1 f2 flp hrun5 hrun6 b0 b1 b2 blp hlk
   go_loopg [11, 53] n (fun gq v11 v53 wx => ∃ i : Nat, v53 = .int .i64 i ∧ i + gq = n ∧ Aside0 (RelA w F M s x all [rowTC (.slice A n c) all] i wx))
   case atStart => exact ⟨0, rfl, by omega, HSA0⟩
   case round =>
     clear HSA0
     obtain ⟨i, rfl, hi, HRA⟩ := hrel
     cases gk with
     | zero =>
       obtain rfl : i = n := by omega
       go_wp2
       have HSB0 := Aside0.mk (show RelB w F M s x all [rowTC (.slice A i c) all] 0 (.slice none 0 0) wr by
         obtain ⟨Mk, k1, k2, k3, k4⟩ := HRA.out
         have h1 := k4.fresh (Below.refl _ _) (rowIC (.slice none 0 0) []) RowX.nil (nd_bl (.slice none 0 0)) (fun b hb => by simp [rowXC, bl] at hb; cases hb)
         exact ⟨Mk, by rw [List.take_zero, HNA.out]; exact k1, k2, by rw [HNA.out]; omega, h1.perm (perm_ix _ [1, 2, 3, 4, 5, 6, 0, 7] 8 rfl (by decide))⟩)
       clear HRA
       go_loopg [12, 14, 65] i (fun gq v12 v14 v65 wx => ∃ (j : Nat) (A2 : Option Addr) (n2 c2 : Nat), v65 = .int .i64 j ∧ v12 = .slice A2 n2 c2 ∧ j + gq = i ∧ Aside0 (RelB w F M s x all [rowTC (.slice A i c) all] j (.slice A2 n2 c2) wx))
       case atStart => exact ⟨0, none, 0, 0, rfl, rfl, by omega, HSB0⟩
       case round =>
         clear HSB0
         obtain ⟨j, A2, n2, c2, rfl, rfl, hj, HRB⟩ := hrel
         cases gk with
         | zero =>
           obtain rfl : j = i := by omega
           go_wp2
           rw [← HR.out]
           obtain ⟨Mk, k1, k2, k3, k4⟩ := HRB.out
           have e : releaseS haddT s x = sweepsS haddT (all.take j) (dropS s x all all.length) := by
             unfold releaseS dropS
             rw [HALL.out, List.take_of_length_le (by rw [HNA.out]; exact Nat.le_refl _), List.take_of_length_le (Nat.le_refl _)]
           refine ⟨Mk, _, rfl, by rw [e]; exact k1, k2, by have := HNA.out; have := HNL.out; omega, ?_⟩
           rw [e]
           exact St.left (A := lk Mk ++ [rowIC _ _]) k4
         | succ gq =>
           have hin : j < i := by omega
           have hin2 : (j : Int) < (i : Int) := by omega
           have hi0 : (0 : Int) ≤ (j : Int) := by omega
           have hi9 : (j : Int) ≤ 1000000 := by have := HNL.out; omega
           obtain ⟨Mk, k1, k2, k3, k4⟩ := HRB.out
           obtain ⟨u, hu⟩ : ∃ u, all[j]? = some u := ⟨_, List.getElem?_eq_getElem (by rw [HNA.out]; exact hin)⟩
           have hrl : RowX thgE wr (.slice A i c) all := k4.rowX 7 rfl
           obtain ⟨g, cc, hv, _⟩ := row_slice hrl (by rw [HNA.out]; omega)
           obtain ⟨rfl, rfl⟩ : A = some ⟨g, 0, none⟩ ∧ c = cc := by
             injection hv with e1 e2 e3
             exact ⟨e1, e3⟩
           obtain ⟨d0, d1, d2⟩ := hrl.thg hu
           have hgl : g < wr.heap.size := World.block_lt_of_cell? _ _ d0
           obtain ⟨n14, hn14⟩ : ∃ n, wr.heap.size = n := ⟨_, rfl⟩
           obtain ⟨W4, hW4⟩ : ∃ W4, wr.alloc (.cells #[.int .i64 u.f0, .string u.f1, .string u.f2] 32) = W4 := ⟨_, rfl⟩
           have hsa := k4.alloc #[.int .i64 u.f0, .string u.f1, .string u.f2] 32 hn14
           rw [hW4] at hsa
           have hsa' : St w F W4 (lk Mk ++ [rowIC (.slice A2 n2 c2) _, rowTC (.slice (some ⟨g, 0, none⟩) i c) all, blkC n14 (.cells #[.int .i64 u.f0, .string u.f1, .string u.f2] 32 (0, 0))]) := hsa
           have e0 := (blk_cell (hsa.blk 8 rfl) 0).trans rfl
           have e1 := (blk_cell (hsa.blk 8 rfl) 1).trans rfl
           have e2 := (blk_cell (hsa.blk 8 rfl) 2).trans rfl
           have h00 := lt_of_some (hsa.blk 8 rfl)
           obtain ⟨o1, o2, o3⟩ := sweepsS_ok (all.take j) (s := dropS s x all all.length) (N := 1000) (dropS_ok HOK.out.rows) (fun y => dropS_held HOK.out.held HN.out y)
           have hjl : (all.take j).length = j := by rw [List.length_take, HNA.out]; omega
           rw [hjl] at o2 o3
           have A46 := Aside0.mk (lsweep_fr (N := 1000 + 600 * j) hsa' k1 (HWFA.out u (List.mem_of_getElem? hu)) (o1 u) o2 (by have := HNL.out; omega) (by have := HTOT.out; have := HNL.out; have := HNA.out; omega))
           unfold lpV thgV at A46
           rw [k2] at A46
           have hsn : sweepsS haddT (all.take (j + 1)) (dropS s x all all.length) = ((sweepS haddT (sweepsS haddT (all.take j) (dropS s x all all.length)).1 u).1, (sweepsS haddT (all.take j) (dropS s x all all.length)).2 ++ (sweepS haddT (sweepsS haddT (all.take j) (dropS s x all all.length)).1 u).2) := by
             rw [List.take_add_one, hu]
             exact sweepsS_snoc _ _ _
           obtain ⟨q, hq⟩ : ∃ q, sweepsS haddT (all.take j) (dropS s x all all.length) = q := ⟨_, rfl⟩
           rw [hq] at A46 hsn o1 o3
           have hlen2 := (sweepS_ok o1 (hq ▸ o2) u).2.2
           obtain ⟨out, hout⟩ : ∃ out, (sweepS haddT q.1 u).2 = out := ⟨_, rfl⟩
           rw [hout] at A46 hsn hlen2
           have HSN := Aside0.mk hsn
           have HO3 := Aside0.mk o3
           have HL2 := Aside0.mk hlen2
           have HTK := Aside0.mk k3
           clear hu hv hrl hsa hsa' k1 k2 k3 k4 o1 o2 o3 hjl hsn hq hlen2 HRB hout
           go_wp2_with (first
             | (go_at_call 45; refine A46.out.mono ?_; rintro E w7 ⟨M7, v7, rfl, k1, k2, k3, k4⟩; obtain ⟨A3, c3, rfl⟩ := (k4.rowX 6 rfl).form; obtain ⟨n3, hn3⟩ : ∃ n, out.length = n := ⟨_, rfl⟩; rw [hn3] at k4 ⊢; have K1 := Aside0.mk k1; have K2 := Aside0.mk k2; have K3 := Aside0.mk k3; have HS7 := Aside0.mk k4; clear k1 k2 k3 k4 hn3 d0 d1 d2 e0 e1 e2 h00 hgl A46)
             | (at_builtin; obtain ⟨v8, w8, hrun, hrow, hgrow, hown⟩ := appendsXX intI 41 (HS7.out.rowX 7 rfl) (HS7.out.rowX 6 rfl) (by have := HO3.out; have := HL2.out; have := HNL.out; omega); have h8 := HS7.out.rowTo 7 rfl hrow hgrow hown; obtain ⟨A4, c4, rfl⟩ := hrow.form; obtain ⟨n4, hn4⟩ : ∃ n, (q.2 ++ out).length = n := ⟨_, rfl⟩; rw [hn4] at h8 hrun; have HS8 := Aside0.mk h8; refine wpList_append_run rfl (.tmp 69) (.tmp 72) 41 41 rfl _ _ rfl rfl hrun ?_; clear h8 hrun hrow hgrow hown hn4))
           go_roundg gq
           case measure => omega
           case rel =>
             refine ⟨j + 1, A4, n4, c4, by go_num, rfl, by omega, Aside0.mk ⟨M7, by rw [HSN.out]; exact K1.out, K2.out, by have := K3.out; have := HTK.out; omega, ?_⟩⟩
             rw [HSN.out]
             have h9 := HS8.out.perm (B := lk M7 ++ [rowIC (.slice A4 n4 c4) (q.2 ++ out)] ++ [rowTC (.slice (some ⟨g, 0, none⟩) i c) all] ++ [rowIC (.slice A3 n3 c3) out, blkC n14 (.cells #[.int .i64 u.f0, .string u.f1, .string u.f2] 32 (0, 0))]) (perm_ix _ [0, 1, 2, 3, 4, 5, 7, 8, 6, 9] 10 rfl (by decide))
             exact St.left (A := lk M7 ++ [rowIC (.slice A4 n4 c4) (q.2 ++ out)] ++ [rowTC (.slice (some ⟨g, 0, none⟩) i c) all]) h9
     | succ gq =>
       have hin : i < n := by omega
       have hin2 : (i : Int) < (n : Int) := by omega
       have hi0 : (0 : Int) ≤ (i : Int) := by omega
       have hi9 : (i : Int) ≤ 1000000 := by have := HNL.out; omega
       obtain ⟨Mk, k1, k2, k3, k4⟩ := HRA.out
       obtain ⟨u, hu⟩ : ∃ u, all[i]? = some u := ⟨_, List.getElem?_eq_getElem (by rw [HNA.out]; exact hin)⟩
       have hrl : RowX thgE wr (.slice A n c) all := k4.rowX 6 rfl
       obtain ⟨g, cc, hv, _⟩ := row_slice hrl (by rw [HNA.out]; omega)
       obtain ⟨rfl, rfl⟩ : A = some ⟨g, 0, none⟩ ∧ c = cc := by
         injection hv with e1 e2 e3
         exact ⟨e1, e3⟩
       obtain ⟨d0, d1, d2⟩ := hrl.thg hu
       have hgl : g < wr.heap.size := World.block_lt_of_cell? _ _ d0
       obtain ⟨n11, hn11⟩ : ∃ n, wr.heap.size = n := ⟨_, rfl⟩
       obtain ⟨W4, hW4⟩ : ∃ W4, wr.alloc (.cells #[.int .i64 u.f0, .string u.f1, .string u.f2] 32) = W4 := ⟨_, rfl⟩
       have hsa := k4.alloc #[.int .i64 u.f0, .string u.f1, .string u.f2] 32 hn11
       rw [hW4] at hsa
       have hsa' : St w F W4 (lk Mk ++ [rowTC (.slice (some ⟨g, 0, none⟩) n c) all, blkC n11 (.cells #[.int .i64 u.f0, .string u.f1, .string u.f2] 32 (0, 0))]) := hsa
       have e0 := (blk_cell (hsa.blk 7 rfl) 0).trans rfl
       have e1 := (blk_cell (hsa.blk 7 rfl) 1).trans rfl
       have e2 := (blk_cell (hsa.blk 7 rfl) 2).trans rfl
       have h00 := lt_of_some (hsa.blk 7 rfl)
       have A28 := Aside0.mk (row_fr hsa' k1 (HWFA.out u (List.mem_of_getElem? hu)) (by have := HTOT.out; have := HNL.out; simp only [LM.tot] at *; simp only [maxLen]; omega))
       unfold lpV thgV at A28
       rw [k2] at A28
       have HOKU := Aside0.mk (dropS_ok (x := x) (all := all) (i := i) HOK.out.rows u)
       have HST := Aside0.mk (dropS_step (s := s) (x := x) hu)
       have HTK := Aside0.mk k3
       have A45 := Aside0.mk (fun W p hv wv (h : St W (fun b => b ∈ fpc (row3 p hv wv ((dropS s x all i).rows u))) W (row3 p hv wv ((dropS s x all i).rows u))) => drop_calls W p hv wv _ x _ h (by have := HOKU.out.len; omega) (by have := HOKU.out.len; omega))
       unfold ptr at A45
       clear hu hv hrl hsa hsa' k1 k2 k3 k4 HRA
       go_wp2_with (first
         | (go_at_call 28; refine A28.out.mono ?_; rintro E w7 ⟨M1, X, m, Y, rfl, k1, k2, k3, k4, k5, k6⟩; have HE := Aside0.mk k1; have HMT := Aside0.mk k2; have HREP1 := Aside0.mk k3; have HLP := Aside0.mk k4; have HTOT1 := Aside0.mk k5; have h1 := k6; unfold lk at h1; rw [k1] at h1; have h2 := St.openR h1; have hmr : m.r = (dropS s x all i).rows u := (k2 ▸ k3.rr m (k1 ▸ mem_mid.2 (.inl rfl))); rw [hmr] at h2; have HS1 := Aside0.mk h2; clear h1 h2 hmr k1 k2 k3 k4 k5 k6 d0 d1 d2 e0 e1 e2 h00 hgl A28; unfold ptr)
         | (go_at_call 51; refine (A45.out _ _ _ _ (St.sub (A := row3 m.p m.hv m.wv _) (R := lkO M1 (X ++ Y) M1.hs ++ [_, _]) HS1.out)).mono ?_; rintro E w8 ⟨rfl, hv3, wv3, k⟩; have h2 := St.call (A := row3 m.p m.hv m.wv _) (R := lkO M1 (X ++ Y) M1.hs ++ [_, _]) HS1.out k; have h3 := St.closeR (m := ⟨m.t, m.p, hv3, wv3, dropR ((dropS s x all i).rows u) x⟩) h2; rw [lk_setR (m' := ⟨m.t, m.p, hv3, wv3, dropR ((dropS s x all i).rows u) x⟩) HE.out rfl rfl] at h3; have hrep := HREP1.out.setR HE.out hv3 wv3 (dropR ((dropS s x all i).rows u) x); rw [HMT.out] at hrep h3; rw [HST.out] at hrep; have HRA1 := Aside0.mk (show RelA w F M s x all [rowTC (.slice (some ⟨g, 0, none⟩) n c) all] (i + 1) w8 from ⟨_, hrep, HLP.out, (by have := HTOT1.out; have := HTK.out; simp only [LM.tot] at *; omega), St.left (A := lk _ ++ [_]) h3⟩); clear h2 h3 hrep k))
       go_roundg gq
       case measure => omega
       case rel => exact ⟨i + 1, by go_num, by omega, HRA1⟩
 | some t =>
   rw [hw] at A56
   simp only [Option.map, Option.getD, Option.isSome, thgV] at A56
   have HW := Aside0.mk hw
   have HT := Aside0.mk (HOK.out.wt x t hw)
   clear hw
   have A42 := Aside0.mk (fun W v (h : RowX thgE W v l) => bsearch W v l t h (by have := HLL.out; omega) (HLS.out.mono t))
   have G1 : True := trivial
   cases hfo : found l t with
   | true =>
     rw [hfo] at A42
     go_enter Tryz.func12, Tryz.ntmps12
     go_wp2_with (first
       | (clear G1; go_at_call 23; refine A20.out.mono ?_; rintro E w1 ⟨v, rfl, hs1⟩; have hs2 : St w F w1 (lk M ++ [rowTC v l]) := (hs1.perm (perm_ix _ [1, 2, 3, 4, 5, 6, 0] 7 rfl (by decide))); have hlk := A56.out w1 _ hs2; obtain ⟨A, c, rfl⟩ := (hs2.rowX 6 rfl).form; obtain ⟨n, hnn⟩ : ∃ n, l.length = n := ⟨_, rfl⟩; rw [hnn] at hs2 ⊢; have HNN := Aside0.mk hnn; obtain ⟨c0, c1, c2, hlp⟩ := hs2.lpAt 0 rfl; obtain ⟨n6, hn6⟩ : ∃ n, w1.heap.size = n := ⟨_, rfl⟩; have hs3 := hs2.alloc #[.int .i64 t.f0, .string t.f1, .string t.f2] 32 hn6; obtain ⟨W1, hW1⟩ : ∃ W1, w1.alloc (.cells #[.int .i64 t.f0, .string t.f1, .string t.f2] 32) = W1 := ⟨_, rfl⟩; rw [hW1] at hs3; have e0 := (blk_cell (hs3.blk 7 rfl) 0).trans rfl; have e1 := (blk_cell (hs3.blk 7 rfl) 1).trans rfl; have e2 := (blk_cell (hs3.blk 7 rfl) 2).trans rfl; have h00 := lt_of_some (hs3.blk 7 rfl); have HS3 := Aside0.mk hs3; clear hs1 hs2 hs3 hnn)
       | (go_at_call 48; refine (A42.out _ _ (HS3.out.rowX 6 rfl)).mono ?_; rintro E w2 ⟨rfl, hb⟩; have hs4 := HS3.out.below hb; clear hb c0 c1 c2 hlp e0 e1 e2 h00 hlk HS3; have hsX := St.left (A := lk M ++ [rowTC (.slice A n c) l]) hs4; clear hs4; obtain ⟨c0, c1, c2, hlp⟩ := hsX.lpAt 0 rfl; obtain ⟨w5, hrun5, hrep5, hs5⟩ := delW hsX HREP.out HWX.out 0; obtain ⟨M5, hM5⟩ : ∃ M5, ({ M with wt := upd s.waits x none } : LM) = M5 := ⟨_, rfl⟩; have hlp5 : M5.lp = M.lp := (by rw [← hM5]); have htot5 : M5.tot = M.tot := (by rw [← hM5]; rfl); rw [hM5] at hrep5 hs5; obtain ⟨w6, M6, hrun6, hrep6, hlp6, htot6, hs6⟩ := delH hs5 hrep5 HWX.out 0; obtain ⟨f0, f1, f2, flp⟩ := hs5.lpAt 0 rfl; rw [hlp5] at f0 f1 f2 flp; have HSA0 := Aside0.mk (show RelA w F M s x (l) [rowTC (.slice A n c) (l)] 0 w6 from ⟨M6, hrep6, hlp6.trans hlp5, (by rw [htot6, htot5]; exact Nat.le_refl _), hs6⟩); clear hsX hrep5 hs5 hM5 hlp5 htot5 hrep6 hlp6 htot6 hs6))
     have HALL := Aside0.mk (show allT haddT s x = l by unfold allT; rw [HW.out]; dsimp only; rw [HL.out]; (show haddT l t = l); unfold haddT; rw [hfo]; rfl)
     have HWFA := Aside0.mk (show ∀ u ∈ l, wfT u from fun u hu => by exact HOK.out.ht x u (by rw [HL.out]; exact hu))
     obtain ⟨all, hall⟩ : ∃ all, l = all := ⟨_, rfl⟩
     have HNA := Aside0.mk (show all.length = n by rw [← hall]; exact HNN.out)
     rw [hall] at HSA0 HALL HWFA
     have HNL := Aside0.mk (show n ≤ 1001 by have := HLL.out; have := HNN.out; omega)
     clear hall
     clear c0 c1 c2 hlp f0 f1 f2 flp hrun5 hrun6
     go_loopg [11, 53] n (fun gq v11 v53 wx => ∃ i : Nat, v53 = .int .i64 i ∧ i + gq = n ∧ Aside0 (RelA w F M s x all [rowTC (.slice A n c) all] i wx))
     case atStart => exact ⟨0, rfl, by omega, HSA0⟩
     case round =>
       clear HSA0
       obtain ⟨i, rfl, hi, HRA⟩ := hrel
       cases gk with
       | zero =>
         obtain rfl : i = n := by omega
         go_wp2
         have HSB0 := Aside0.mk (show RelB w F M s x all [rowTC (.slice A i c) all] 0 (.slice none 0 0) wr by
           obtain ⟨Mk, k1, k2, k3, k4⟩ := HRA.out
           have h1 := k4.fresh (Below.refl _ _) (rowIC (.slice none 0 0) []) RowX.nil (nd_bl (.slice none 0 0)) (fun b hb => by simp [rowXC, bl] at hb; cases hb)
           exact ⟨Mk, by rw [List.take_zero, HNA.out]; exact k1, k2, by rw [HNA.out]; omega, h1.perm (perm_ix _ [1, 2, 3, 4, 5, 6, 0, 7] 8 rfl (by decide))⟩)
         clear HRA
         go_loopg [12, 14, 65] i (fun gq v12 v14 v65 wx => ∃ (j : Nat) (A2 : Option Addr) (n2 c2 : Nat), v65 = .int .i64 j ∧ v12 = .slice A2 n2 c2 ∧ j + gq = i ∧ Aside0 (RelB w F M s x all [rowTC (.slice A i c) all] j (.slice A2 n2 c2) wx))
         case atStart => exact ⟨0, none, 0, 0, rfl, rfl, by omega, HSB0⟩
         case round =>
           clear HSB0
           obtain ⟨j, A2, n2, c2, rfl, rfl, hj, HRB⟩ := hrel
           cases gk with
           | zero =>
             obtain rfl : j = i := by omega
             go_wp2
             rw [← HR.out]
             obtain ⟨Mk, k1, k2, k3, k4⟩ := HRB.out
             have e : releaseS haddT s x = sweepsS haddT (all.take j) (dropS s x all all.length) := by
               unfold releaseS dropS
               rw [HALL.out, List.take_of_length_le (by rw [HNA.out]; exact Nat.le_refl _), List.take_of_length_le (Nat.le_refl _)]
             refine ⟨Mk, _, rfl, by rw [e]; exact k1, k2, by have := HNA.out; have := HNL.out; omega, ?_⟩
             rw [e]
             exact St.left (A := lk Mk ++ [rowIC _ _]) k4
           | succ gq =>
             have hin : j < i := by omega
             have hin2 : (j : Int) < (i : Int) := by omega
             have hi0 : (0 : Int) ≤ (j : Int) := by omega
             have hi9 : (j : Int) ≤ 1000000 := by have := HNL.out; omega
             obtain ⟨Mk, k1, k2, k3, k4⟩ := HRB.out
             obtain ⟨u, hu⟩ : ∃ u, all[j]? = some u := ⟨_, List.getElem?_eq_getElem (by rw [HNA.out]; exact hin)⟩
             have hrl : RowX thgE wr (.slice A i c) all := k4.rowX 7 rfl
             obtain ⟨g, cc, hv, _⟩ := row_slice hrl (by rw [HNA.out]; omega)
             obtain ⟨rfl, rfl⟩ : A = some ⟨g, 0, none⟩ ∧ c = cc := by
               injection hv with e1 e2 e3
               exact ⟨e1, e3⟩
             obtain ⟨d0, d1, d2⟩ := hrl.thg hu
             have hgl : g < wr.heap.size := World.block_lt_of_cell? _ _ d0
             obtain ⟨n14, hn14⟩ : ∃ n, wr.heap.size = n := ⟨_, rfl⟩
             obtain ⟨W4, hW4⟩ : ∃ W4, wr.alloc (.cells #[.int .i64 u.f0, .string u.f1, .string u.f2] 32) = W4 := ⟨_, rfl⟩
             have hsa := k4.alloc #[.int .i64 u.f0, .string u.f1, .string u.f2] 32 hn14
             rw [hW4] at hsa
             have hsa' : St w F W4 (lk Mk ++ [rowIC (.slice A2 n2 c2) _, rowTC (.slice (some ⟨g, 0, none⟩) i c) all, blkC n14 (.cells #[.int .i64 u.f0, .string u.f1, .string u.f2] 32 (0, 0))]) := hsa
             have e0 := (blk_cell (hsa.blk 8 rfl) 0).trans rfl
             have e1 := (blk_cell (hsa.blk 8 rfl) 1).trans rfl
             have e2 := (blk_cell (hsa.blk 8 rfl) 2).trans rfl
             have h00 := lt_of_some (hsa.blk 8 rfl)
             obtain ⟨o1, o2, o3⟩ := sweepsS_ok (all.take j) (s := dropS s x all all.length) (N := 1000) (dropS_ok HOK.out.rows) (fun y => dropS_held HOK.out.held HN.out y)
             have hjl : (all.take j).length = j := by rw [List.length_take, HNA.out]; omega
             rw [hjl] at o2 o3
             have A46 := Aside0.mk (lsweep_fr (N := 1000 + 600 * j) hsa' k1 (HWFA.out u (List.mem_of_getElem? hu)) (o1 u) o2 (by have := HNL.out; omega) (by have := HTOT.out; have := HNL.out; have := HNA.out; omega))
             unfold lpV thgV at A46
             rw [k2] at A46
             have hsn : sweepsS haddT (all.take (j + 1)) (dropS s x all all.length) = ((sweepS haddT (sweepsS haddT (all.take j) (dropS s x all all.length)).1 u).1, (sweepsS haddT (all.take j) (dropS s x all all.length)).2 ++ (sweepS haddT (sweepsS haddT (all.take j) (dropS s x all all.length)).1 u).2) := by
               rw [List.take_add_one, hu]
               exact sweepsS_snoc _ _ _
             obtain ⟨q, hq⟩ : ∃ q, sweepsS haddT (all.take j) (dropS s x all all.length) = q := ⟨_, rfl⟩
             rw [hq] at A46 hsn o1 o3
             have hlen2 := (sweepS_ok o1 (hq ▸ o2) u).2.2
             obtain ⟨out, hout⟩ : ∃ out, (sweepS haddT q.1 u).2 = out := ⟨_, rfl⟩
             rw [hout] at A46 hsn hlen2
             have HSN := Aside0.mk hsn
             have HO3 := Aside0.mk o3
             have HL2 := Aside0.mk hlen2
             have HTK := Aside0.mk k3
             clear hu hv hrl hsa hsa' k1 k2 k3 k4 o1 o2 o3 hjl hsn hq hlen2 HRB hout
             go_wp2_with (first
               | (go_at_call 45; refine A46.out.mono ?_; rintro E w7 ⟨M7, v7, rfl, k1, k2, k3, k4⟩; obtain ⟨A3, c3, rfl⟩ := (k4.rowX 6 rfl).form; obtain ⟨n3, hn3⟩ : ∃ n, out.length = n := ⟨_, rfl⟩; rw [hn3] at k4 ⊢; have K1 := Aside0.mk k1; have K2 := Aside0.mk k2; have K3 := Aside0.mk k3; have HS7 := Aside0.mk k4; clear k1 k2 k3 k4 hn3 d0 d1 d2 e0 e1 e2 h00 hgl A46)
               | (at_builtin; obtain ⟨v8, w8, hrun, hrow, hgrow, hown⟩ := appendsXX intI 41 (HS7.out.rowX 7 rfl) (HS7.out.rowX 6 rfl) (by have := HO3.out; have := HL2.out; have := HNL.out; omega); have h8 := HS7.out.rowTo 7 rfl hrow hgrow hown; obtain ⟨A4, c4, rfl⟩ := hrow.form; obtain ⟨n4, hn4⟩ : ∃ n, (q.2 ++ out).length = n := ⟨_, rfl⟩; rw [hn4] at h8 hrun; have HS8 := Aside0.mk h8; refine wpList_append_run rfl (.tmp 69) (.tmp 72) 41 41 rfl _ _ rfl rfl hrun ?_; clear h8 hrun hrow hgrow hown hn4))
             go_roundg gq
             case measure => omega
             case rel =>
               refine ⟨j + 1, A4, n4, c4, by go_num, rfl, by omega, Aside0.mk ⟨M7, by rw [HSN.out]; exact K1.out, K2.out, by have := K3.out; have := HTK.out; omega, ?_⟩⟩
               rw [HSN.out]
               have h9 := HS8.out.perm (B := lk M7 ++ [rowIC (.slice A4 n4 c4) (q.2 ++ out)] ++ [rowTC (.slice (some ⟨g, 0, none⟩) i c) all] ++ [rowIC (.slice A3 n3 c3) out, blkC n14 (.cells #[.int .i64 u.f0, .string u.f1, .string u.f2] 32 (0, 0))]) (perm_ix _ [0, 1, 2, 3, 4, 5, 7, 8, 6, 9] 10 rfl (by decide))
               exact St.left (A := lk M7 ++ [rowIC (.slice A4 n4 c4) (q.2 ++ out)] ++ [rowTC (.slice (some ⟨g, 0, none⟩) i c) all]) h9
       | succ gq =>
         have hin : i < n := by omega
         have hin2 : (i : Int) < (n : Int) := by omega
         have hi0 : (0 : Int) ≤ (i : Int) := by omega
         have hi9 : (i : Int) ≤ 1000000 := by have := HNL.out; omega
         obtain ⟨Mk, k1, k2, k3, k4⟩ := HRA.out
         obtain ⟨u, hu⟩ : ∃ u, all[i]? = some u := ⟨_, List.getElem?_eq_getElem (by rw [HNA.out]; exact hin)⟩
         have hrl : RowX thgE wr (.slice A n c) all := k4.rowX 6 rfl
         obtain ⟨g, cc, hv, _⟩ := row_slice hrl (by rw [HNA.out]; omega)
         obtain ⟨rfl, rfl⟩ : A = some ⟨g, 0, none⟩ ∧ c = cc := by
           injection hv with e1 e2 e3
           exact ⟨e1, e3⟩
         obtain ⟨d0, d1, d2⟩ := hrl.thg hu
         have hgl : g < wr.heap.size := World.block_lt_of_cell? _ _ d0
         obtain ⟨n11, hn11⟩ : ∃ n, wr.heap.size = n := ⟨_, rfl⟩
         obtain ⟨W4, hW4⟩ : ∃ W4, wr.alloc (.cells #[.int .i64 u.f0, .string u.f1, .string u.f2] 32) = W4 := ⟨_, rfl⟩
         have hsa := k4.alloc #[.int .i64 u.f0, .string u.f1, .string u.f2] 32 hn11
         rw [hW4] at hsa
         have hsa' : St w F W4 (lk Mk ++ [rowTC (.slice (some ⟨g, 0, none⟩) n c) all, blkC n11 (.cells #[.int .i64 u.f0, .string u.f1, .string u.f2] 32 (0, 0))]) := hsa
         have e0 := (blk_cell (hsa.blk 7 rfl) 0).trans rfl
         have e1 := (blk_cell (hsa.blk 7 rfl) 1).trans rfl
         have e2 := (blk_cell (hsa.blk 7 rfl) 2).trans rfl
         have h00 := lt_of_some (hsa.blk 7 rfl)
         have A28 := Aside0.mk (row_fr hsa' k1 (HWFA.out u (List.mem_of_getElem? hu)) (by have := HTOT.out; have := HNL.out; simp only [LM.tot] at *; simp only [maxLen]; omega))
         unfold lpV thgV at A28
         rw [k2] at A28
         have HOKU := Aside0.mk (dropS_ok (x := x) (all := all) (i := i) HOK.out.rows u)
         have HST := Aside0.mk (dropS_step (s := s) (x := x) hu)
         have HTK := Aside0.mk k3
         have A45 := Aside0.mk (fun W p hv wv (h : St W (fun b => b ∈ fpc (row3 p hv wv ((dropS s x all i).rows u))) W (row3 p hv wv ((dropS s x all i).rows u))) => drop_calls W p hv wv _ x _ h (by have := HOKU.out.len; omega) (by have := HOKU.out.len; omega))
         unfold ptr at A45
         clear hu hv hrl hsa hsa' k1 k2 k3 k4 HRA
         go_wp2_with (first
           | (go_at_call 28; refine A28.out.mono ?_; rintro E w7 ⟨M1, X, m, Y, rfl, k1, k2, k3, k4, k5, k6⟩; have HE := Aside0.mk k1; have HMT := Aside0.mk k2; have HREP1 := Aside0.mk k3; have HLP := Aside0.mk k4; have HTOT1 := Aside0.mk k5; have h1 := k6; unfold lk at h1; rw [k1] at h1; have h2 := St.openR h1; have hmr : m.r = (dropS s x all i).rows u := (k2 ▸ k3.rr m (k1 ▸ mem_mid.2 (.inl rfl))); rw [hmr] at h2; have HS1 := Aside0.mk h2; clear h1 h2 hmr k1 k2 k3 k4 k5 k6 d0 d1 d2 e0 e1 e2 h00 hgl A28; unfold ptr)
           | (go_at_call 51; refine (A45.out _ _ _ _ (St.sub (A := row3 m.p m.hv m.wv _) (R := lkO M1 (X ++ Y) M1.hs ++ [_, _]) HS1.out)).mono ?_; rintro E w8 ⟨rfl, hv3, wv3, k⟩; have h2 := St.call (A := row3 m.p m.hv m.wv _) (R := lkO M1 (X ++ Y) M1.hs ++ [_, _]) HS1.out k; have h3 := St.closeR (m := ⟨m.t, m.p, hv3, wv3, dropR ((dropS s x all i).rows u) x⟩) h2; rw [lk_setR (m' := ⟨m.t, m.p, hv3, wv3, dropR ((dropS s x all i).rows u) x⟩) HE.out rfl rfl] at h3; have hrep := HREP1.out.setR HE.out hv3 wv3 (dropR ((dropS s x all i).rows u) x); rw [HMT.out] at hrep h3; rw [HST.out] at hrep; have HRA1 := Aside0.mk (show RelA w F M s x all [rowTC (.slice (some ⟨g, 0, none⟩) n c) all] (i + 1) w8 from ⟨_, hrep, HLP.out, (by have := HTOT1.out; have := HTK.out; simp only [LM.tot] at *; omega), St.left (A := lk _ ++ [_]) h3⟩); clear h2 h3 hrep k))
         go_roundg gq
         case measure => omega
         case rel => exact ⟨i + 1, by go_num, by omega, HRA1⟩
   | false =>
     rw [hfo] at A42
     have hle := low_le l t
     obtain ⟨i0, hi0⟩ : ∃ i, low l t = i := ⟨_, rfl⟩
     rw [hi0] at A42 hle
     have HLE := Aside0.mk hle
     have HI := Aside0.mk hi0
     have A44 := Aside0.mk (fun W v vb (h : RowX thgE W v l) hvb hne => insertT W v l i0 t vb (i0 : Int) h HLE.out (by have := HLL.out; omega) hvb hne rfl)
     have G2 : True := trivial
     clear hle hi0
     go_enter Tryz.func12, Tryz.ntmps12
     go_wp2_with (first
       | (clear G1; go_at_call 23; refine A20.out.mono ?_; rintro E w1 ⟨v, rfl, hs1⟩; have hs2 : St w F w1 (lk M ++ [rowTC v l]) := (hs1.perm (perm_ix _ [1, 2, 3, 4, 5, 6, 0] 7 rfl (by decide))); have hlk := A56.out w1 _ hs2; obtain ⟨A, c, rfl⟩ := (hs2.rowX 6 rfl).form; obtain ⟨n, hnn⟩ : ∃ n, l.length = n := ⟨_, rfl⟩; rw [hnn] at hs2 ⊢; have HNN := Aside0.mk hnn; obtain ⟨c0, c1, c2, hlp⟩ := hs2.lpAt 0 rfl; obtain ⟨n6, hn6⟩ : ∃ n, w1.heap.size = n := ⟨_, rfl⟩; have hs3 := hs2.alloc #[.int .i64 t.f0, .string t.f1, .string t.f2] 32 hn6; obtain ⟨W1, hW1⟩ : ∃ W1, w1.alloc (.cells #[.int .i64 t.f0, .string t.f1, .string t.f2] 32) = W1 := ⟨_, rfl⟩; rw [hW1] at hs3; have e0 := (blk_cell (hs3.blk 7 rfl) 0).trans rfl; have e1 := (blk_cell (hs3.blk 7 rfl) 1).trans rfl; have e2 := (blk_cell (hs3.blk 7 rfl) 2).trans rfl; have h00 := lt_of_some (hs3.blk 7 rfl); have HS3 := Aside0.mk hs3; clear hs1 hs2 hs3 hnn)
       | (clear G2; go_at_call 48; refine (A42.out _ _ (HS3.out.rowX 6 rfl)).mono ?_; rintro E w2 ⟨rfl, hb⟩; have hs4 := HS3.out.below hb; clear hb c0 c1 c2 hlp e0 e1 e2 h00 hlk HS3; have HS4 := Aside0.mk hs4; have e0 := (blk_cell (hs4.blk 7 rfl) 0).trans rfl; have e1 := (blk_cell (hs4.blk 7 rfl) 1).trans rfl; have e2 := (blk_cell (hs4.blk 7 rfl) 2).trans rfl; have h00 := lt_of_some (hs4.blk 7 rfl); clear hs4)
       | (go_at_call 50; have hs5' := HS4.out.alloc #[.int .i64 t.f0, .string t.f1, .string t.f2] 32 rfl; refine (A44.out _ _ _ (hs5'.rowX 6 rfl) (hs5'.blk 8 rfl) (fun h => hs5'.apart 6 8 (by decide) rfl rfl _ h (by simp [blkC]))).mono ?_; rintro E w3 ⟨g0, c', rfl, hrow, hgr, hown⟩; have hs6' := hs5'.rowTo 6 rfl hrow hgr hown; clear e0 e1 e2 h00 hs5' HS4 hrow hgr hown; have hall : (insAt l i0 t).length = l.length + 1 := insAt_len l i0 t HLE.out; obtain ⟨A, hA⟩ : ∃ A : Option Addr, some ⟨g0, 0, none⟩ = A := ⟨_, rfl⟩; rw [hA] at hs6' ⊢; obtain ⟨c, hc⟩ : ∃ c, c' = c := ⟨_, rfl⟩; rw [hc] at hs6' ⊢; obtain ⟨n, hnn⟩ : ∃ n, l.length + 1 = n := ⟨_, rfl⟩; rw [hnn] at hs6' hall ⊢; have HNI := Aside0.mk hall; have hsX := St.left (A := lk M ++ [rowTC (.slice A n c) (insAt l i0 t)]) hs6'; clear hs6' hA hc hnn hall; obtain ⟨c0, c1, c2, hlp⟩ := hsX.lpAt 0 rfl; obtain ⟨w5, hrun5, hrep5, hs5⟩ := delW hsX HREP.out HWX.out 0; obtain ⟨M5, hM5⟩ : ∃ M5, ({ M with wt := upd s.waits x none } : LM) = M5 := ⟨_, rfl⟩; have hlp5 : M5.lp = M.lp := (by rw [← hM5]); have htot5 : M5.tot = M.tot := (by rw [← hM5]; rfl); rw [hM5] at hrep5 hs5; obtain ⟨w6, M6, hrun6, hrep6, hlp6, htot6, hs6⟩ := delH hs5 hrep5 HWX.out 0; obtain ⟨f0, f1, f2, flp⟩ := hs5.lpAt 0 rfl; rw [hlp5] at f0 f1 f2 flp; have HSA0 := Aside0.mk (show RelA w F M s x (insAt l i0 t) [rowTC (.slice A n c) (insAt l i0 t)] 0 w6 from ⟨M6, hrep6, hlp6.trans hlp5, (by rw [htot6, htot5]; exact Nat.le_refl _), hs6⟩); clear hsX hrep5 hs5 hM5 hlp5 htot5 hrep6 hlp6 htot6 hs6))
     have HALL := Aside0.mk (show allT haddT s x = (insAt l i0 t) by unfold allT; rw [HW.out]; dsimp only; rw [HL.out]; (show haddT l t = _); unfold haddT; rw [hfo, HI.out]; rfl)
     have HWFA := Aside0.mk (show ∀ u ∈ (insAt l i0 t), wfT u from fun u hu => by (rcases mem_insAt.1 hu with rfl | hu; exact HT.out; exact HOK.out.ht x u (by rw [HL.out]; exact hu)))
     obtain ⟨all, hall⟩ : ∃ all, (insAt l i0 t) = all := ⟨_, rfl⟩
     have HNA := Aside0.mk (show all.length = n by rw [← hall]; exact HNI.out)
     rw [hall] at HSA0 HALL HWFA
     have HNL := Aside0.mk (show n ≤ 1001 by have := HLL.out; have := HNI.out; have := insAt_len l i0 t HLE.out; omega)
     clear hall
     clear c0 c1 c2 hlp f0 f1 f2 flp hrun5 hrun6
     go_loopg [11, 53] n (fun gq v11 v53 wx => ∃ i : Nat, v53 = .int .i64 i ∧ i + gq = n ∧ Aside0 (RelA w F M s x all [rowTC (.slice A n c) all] i wx))
     case atStart => exact ⟨0, rfl, by omega, HSA0⟩
     case round =>
       clear HSA0
       obtain ⟨i, rfl, hi, HRA⟩ := hrel
       cases gk with
       | zero =>
         obtain rfl : i = n := by omega
         go_wp2
         have HSB0 := Aside0.mk (show RelB w F M s x all [rowTC (.slice A i c) all] 0 (.slice none 0 0) wr by
           obtain ⟨Mk, k1, k2, k3, k4⟩ := HRA.out
           have h1 := k4.fresh (Below.refl _ _) (rowIC (.slice none 0 0) []) RowX.nil (nd_bl (.slice none 0 0)) (fun b hb => by simp [rowXC, bl] at hb; cases hb)
           exact ⟨Mk, by rw [List.take_zero, HNA.out]; exact k1, k2, by rw [HNA.out]; omega, h1.perm (perm_ix _ [1, 2, 3, 4, 5, 6, 0, 7] 8 rfl (by decide))⟩)
         clear HRA
         go_loopg [12, 14, 65] i (fun gq v12 v14 v65 wx => ∃ (j : Nat) (A2 : Option Addr) (n2 c2 : Nat), v65 = .int .i64 j ∧ v12 = .slice A2 n2 c2 ∧ j + gq = i ∧ Aside0 (RelB w F M s x all [rowTC (.slice A i c) all] j (.slice A2 n2 c2) wx))
         case atStart => exact ⟨0, none, 0, 0, rfl, rfl, by omega, HSB0⟩
         case round =>
           clear HSB0
           obtain ⟨j, A2, n2, c2, rfl, rfl, hj, HRB⟩ := hrel
           cases gk with
           | zero =>
             obtain rfl : j = i := by omega
             go_wp2
             rw [← HR.out]
             obtain ⟨Mk, k1, k2, k3, k4⟩ := HRB.out
             have e : releaseS haddT s x = sweepsS haddT (all.take j) (dropS s x all all.length) := by
               unfold releaseS dropS
               rw [HALL.out, List.take_of_length_le (by rw [HNA.out]; exact Nat.le_refl _), List.take_of_length_le (Nat.le_refl _)]
             refine ⟨Mk, _, rfl, by rw [e]; exact k1, k2, by have := HNA.out; have := HNL.out; omega, ?_⟩
             rw [e]
             exact St.left (A := lk Mk ++ [rowIC _ _]) k4
           | succ gq =>
             have hin : j < i := by omega
             have hin2 : (j : Int) < (i : Int) := by omega
             have hi0 : (0 : Int) ≤ (j : Int) := by omega
             have hi9 : (j : Int) ≤ 1000000 := by have := HNL.out; omega
             obtain ⟨Mk, k1, k2, k3, k4⟩ := HRB.out
             obtain ⟨u, hu⟩ : ∃ u, all[j]? = some u := ⟨_, List.getElem?_eq_getElem (by rw [HNA.out]; exact hin)⟩
             have hrl : RowX thgE wr (.slice A i c) all := k4.rowX 7 rfl
             obtain ⟨g, cc, hv, _⟩ := row_slice hrl (by rw [HNA.out]; omega)
             obtain ⟨rfl, rfl⟩ : A = some ⟨g, 0, none⟩ ∧ c = cc := by
               injection hv with e1 e2 e3
               exact ⟨e1, e3⟩
             obtain ⟨d0, d1, d2⟩ := hrl.thg hu
             have hgl : g < wr.heap.size := World.block_lt_of_cell? _ _ d0
             obtain ⟨n14, hn14⟩ : ∃ n, wr.heap.size = n := ⟨_, rfl⟩
             obtain ⟨W4, hW4⟩ : ∃ W4, wr.alloc (.cells #[.int .i64 u.f0, .string u.f1, .string u.f2] 32) = W4 := ⟨_, rfl⟩
             have hsa := k4.alloc #[.int .i64 u.f0, .string u.f1, .string u.f2] 32 hn14
             rw [hW4] at hsa
             have hsa' : St w F W4 (lk Mk ++ [rowIC (.slice A2 n2 c2) _, rowTC (.slice (some ⟨g, 0, none⟩) i c) all, blkC n14 (.cells #[.int .i64 u.f0, .string u.f1, .string u.f2] 32 (0, 0))]) := hsa
             have e0 := (blk_cell (hsa.blk 8 rfl) 0).trans rfl
             have e1 := (blk_cell (hsa.blk 8 rfl) 1).trans rfl
             have e2 := (blk_cell (hsa.blk 8 rfl) 2).trans rfl
             have h00 := lt_of_some (hsa.blk 8 rfl)
             obtain ⟨o1, o2, o3⟩ := sweepsS_ok (all.take j) (s := dropS s x all all.length) (N := 1000) (dropS_ok HOK.out.rows) (fun y => dropS_held HOK.out.held HN.out y)
             have hjl : (all.take j).length = j := by rw [List.length_take, HNA.out]; omega
             rw [hjl] at o2 o3
             have A46 := Aside0.mk (lsweep_fr (N := 1000 + 600 * j) hsa' k1 (HWFA.out u (List.mem_of_getElem? hu)) (o1 u) o2 (by have := HNL.out; omega) (by have := HTOT.out; have := HNL.out; have := HNA.out; omega))
             unfold lpV thgV at A46
             rw [k2] at A46
             have hsn : sweepsS haddT (all.take (j + 1)) (dropS s x all all.length) = ((sweepS haddT (sweepsS haddT (all.take j) (dropS s x all all.length)).1 u).1, (sweepsS haddT (all.take j) (dropS s x all all.length)).2 ++ (sweepS haddT (sweepsS haddT (all.take j) (dropS s x all all.length)).1 u).2) := by
               rw [List.take_add_one, hu]
               exact sweepsS_snoc _ _ _
             obtain ⟨q, hq⟩ : ∃ q, sweepsS haddT (all.take j) (dropS s x all all.length) = q := ⟨_, rfl⟩
             rw [hq] at A46 hsn o1 o3
             have hlen2 := (sweepS_ok o1 (hq ▸ o2) u).2.2
             obtain ⟨out, hout⟩ : ∃ out, (sweepS haddT q.1 u).2 = out := ⟨_, rfl⟩
             rw [hout] at A46 hsn hlen2
             have HSN := Aside0.mk hsn
             have HO3 := Aside0.mk o3
             have HL2 := Aside0.mk hlen2
             have HTK := Aside0.mk k3
             clear hu hv hrl hsa hsa' k1 k2 k3 k4 o1 o2 o3 hjl hsn hq hlen2 HRB hout
             go_wp2_with (first
               | (go_at_call 45; refine A46.out.mono ?_; rintro E w7 ⟨M7, v7, rfl, k1, k2, k3, k4⟩; obtain ⟨A3, c3, rfl⟩ := (k4.rowX 6 rfl).form; obtain ⟨n3, hn3⟩ : ∃ n, out.length = n := ⟨_, rfl⟩; rw [hn3] at k4 ⊢; have K1 := Aside0.mk k1; have K2 := Aside0.mk k2; have K3 := Aside0.mk k3; have HS7 := Aside0.mk k4; clear k1 k2 k3 k4 hn3 d0 d1 d2 e0 e1 e2 h00 hgl A46)
               | (at_builtin; obtain ⟨v8, w8, hrun, hrow, hgrow, hown⟩ := appendsXX intI 41 (HS7.out.rowX 7 rfl) (HS7.out.rowX 6 rfl) (by have := HO3.out; have := HL2.out; have := HNL.out; omega); have h8 := HS7.out.rowTo 7 rfl hrow hgrow hown; obtain ⟨A4, c4, rfl⟩ := hrow.form; obtain ⟨n4, hn4⟩ : ∃ n, (q.2 ++ out).length = n := ⟨_, rfl⟩; rw [hn4] at h8 hrun; have HS8 := Aside0.mk h8; refine wpList_append_run rfl (.tmp 69) (.tmp 72) 41 41 rfl _ _ rfl rfl hrun ?_; clear h8 hrun hrow hgrow hown hn4))
             go_roundg gq
             case measure => omega
             case rel =>
               refine ⟨j + 1, A4, n4, c4, by go_num, rfl, by omega, Aside0.mk ⟨M7, by rw [HSN.out]; exact K1.out, K2.out, by have := K3.out; have := HTK.out; omega, ?_⟩⟩
               rw [HSN.out]
               have h9 := HS8.out.perm (B := lk M7 ++ [rowIC (.slice A4 n4 c4) (q.2 ++ out)] ++ [rowTC (.slice (some ⟨g, 0, none⟩) i c) all] ++ [rowIC (.slice A3 n3 c3) out, blkC n14 (.cells #[.int .i64 u.f0, .string u.f1, .string u.f2] 32 (0, 0))]) (perm_ix _ [0, 1, 2, 3, 4, 5, 7, 8, 6, 9] 10 rfl (by decide))
               exact St.left (A := lk M7 ++ [rowIC (.slice A4 n4 c4) (q.2 ++ out)] ++ [rowTC (.slice (some ⟨g, 0, none⟩) i c) all]) h9
       | succ gq =>
         have hin : i < n := by omega
         have hin2 : (i : Int) < (n : Int) := by omega
         have hi0 : (0 : Int) ≤ (i : Int) := by omega
         have hi9 : (i : Int) ≤ 1000000 := by have := HNL.out; omega
         obtain ⟨Mk, k1, k2, k3, k4⟩ := HRA.out
         obtain ⟨u, hu⟩ : ∃ u, all[i]? = some u := ⟨_, List.getElem?_eq_getElem (by rw [HNA.out]; exact hin)⟩
         have hrl : RowX thgE wr (.slice A n c) all := k4.rowX 6 rfl
         obtain ⟨g, cc, hv, _⟩ := row_slice hrl (by rw [HNA.out]; omega)
         obtain ⟨rfl, rfl⟩ : A = some ⟨g, 0, none⟩ ∧ c = cc := by
           injection hv with e1 e2 e3
           exact ⟨e1, e3⟩
         obtain ⟨d0, d1, d2⟩ := hrl.thg hu
         have hgl : g < wr.heap.size := World.block_lt_of_cell? _ _ d0
         obtain ⟨n11, hn11⟩ : ∃ n, wr.heap.size = n := ⟨_, rfl⟩
         obtain ⟨W4, hW4⟩ : ∃ W4, wr.alloc (.cells #[.int .i64 u.f0, .string u.f1, .string u.f2] 32) = W4 := ⟨_, rfl⟩
         have hsa := k4.alloc #[.int .i64 u.f0, .string u.f1, .string u.f2] 32 hn11
         rw [hW4] at hsa
         have hsa' : St w F W4 (lk Mk ++ [rowTC (.slice (some ⟨g, 0, none⟩) n c) all, blkC n11 (.cells #[.int .i64 u.f0, .string u.f1, .string u.f2] 32 (0, 0))]) := hsa
         have e0 := (blk_cell (hsa.blk 7 rfl) 0).trans rfl
         have e1 := (blk_cell (hsa.blk 7 rfl) 1).trans rfl
         have e2 := (blk_cell (hsa.blk 7 rfl) 2).trans rfl
         have h00 := lt_of_some (hsa.blk 7 rfl)
         have A28 := Aside0.mk (row_fr hsa' k1 (HWFA.out u (List.mem_of_getElem? hu)) (by have := HTOT.out; have := HNL.out; simp only [LM.tot] at *; simp only [maxLen]; omega))
         unfold lpV thgV at A28
         rw [k2] at A28
         have HOKU := Aside0.mk (dropS_ok (x := x) (all := all) (i := i) HOK.out.rows u)
         have HST := Aside0.mk (dropS_step (s := s) (x := x) hu)
         have HTK := Aside0.mk k3
         have A45 := Aside0.mk (fun W p hv wv (h : St W (fun b => b ∈ fpc (row3 p hv wv ((dropS s x all i).rows u))) W (row3 p hv wv ((dropS s x all i).rows u))) => drop_calls W p hv wv _ x _ h (by have := HOKU.out.len; omega) (by have := HOKU.out.len; omega))
         unfold ptr at A45
         clear hu hv hrl hsa hsa' k1 k2 k3 k4 HRA
         go_wp2_with (first
           | (go_at_call 28; refine A28.out.mono ?_; rintro E w7 ⟨M1, X, m, Y, rfl, k1, k2, k3, k4, k5, k6⟩; have HE := Aside0.mk k1; have HMT := Aside0.mk k2; have HREP1 := Aside0.mk k3; have HLP := Aside0.mk k4; have HTOT1 := Aside0.mk k5; have h1 := k6; unfold lk at h1; rw [k1] at h1; have h2 := St.openR h1; have hmr : m.r = (dropS s x all i).rows u := (k2 ▸ k3.rr m (k1 ▸ mem_mid.2 (.inl rfl))); rw [hmr] at h2; have HS1 := Aside0.mk h2; clear h1 h2 hmr k1 k2 k3 k4 k5 k6 d0 d1 d2 e0 e1 e2 h00 hgl A28; unfold ptr)
           | (go_at_call 51; refine (A45.out _ _ _ _ (St.sub (A := row3 m.p m.hv m.wv _) (R := lkO M1 (X ++ Y) M1.hs ++ [_, _]) HS1.out)).mono ?_; rintro E w8 ⟨rfl, hv3, wv3, k⟩; have h2 := St.call (A := row3 m.p m.hv m.wv _) (R := lkO M1 (X ++ Y) M1.hs ++ [_, _]) HS1.out k; have h3 := St.closeR (m := ⟨m.t, m.p, hv3, wv3, dropR ((dropS s x all i).rows u) x⟩) h2; rw [lk_setR (m' := ⟨m.t, m.p, hv3, wv3, dropR ((dropS s x all i).rows u) x⟩) HE.out rfl rfl] at h3; have hrep := HREP1.out.setR HE.out hv3 wv3 (dropR ((dropS s x all i).rows u) x); rw [HMT.out] at hrep h3; rw [HST.out] at hrep; have HRA1 := Aside0.mk (show RelA w F M s x all [rowTC (.slice (some ⟨g, 0, none⟩) n c) all] (i + 1) w8 from ⟨_, hrep, HLP.out, (by have := HTOT1.out; have := HTK.out; simp only [LM.tot] at *; omega), St.left (A := lk _ ++ [_]) h3⟩); clear h2 h3 hrep k))
         go_roundg gq
         case measure => omega
         case rel => exact ⟨i + 1, by go_num, by omega, HRA1⟩
end Go.Proofs.Kb
end
