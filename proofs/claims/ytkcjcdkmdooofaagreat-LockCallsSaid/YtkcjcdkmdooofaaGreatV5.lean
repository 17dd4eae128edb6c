/- Packed by shake.py: YtkcjcdkmdooofaaGreatQ25 YtkcjcdkmdooofaaGreatQ9 YtkcjcdkmdooofaaGreatQe75 YtkcjcdkmdooofaaGreatQ16 YtkcjcdkmdooofaaGreatLL1 YtkcjcdkmdooofaaGreatLL2 YtkcjcdkmdooofaaGreatLL3 YtkcjcdkmdooofaaGreatLL7 YtkcjcdkmdooofaaGreatLL8 YtkcjcdkmdooofaaGreatA8 YtkcjcdkmdooofaaGreatA9 YtkcjcdkmdooofaaGreatA10 YtkcjcdkmdooofaaGreatA11 YtkcjcdkmdooofaaGreatA12 YtkcjcdkmdooofaaGreatA13 YtkcjcdkmdooofaaGreatA14 YtkcjcdkmdooofaaGreatA15 YtkcjcdkmdooofaaGreatA16 YtkcjcdkmdooofaaGreatQe32 YtkcjcdkmdooofaaGreatRC1 YtkcjcdkmdooofaaGreatRC2 -/
import Derived.Laws.ResultCell
import Derived.Test.YtkcjcdkmdooofaaGreatV4
set_option linter.unusedVariables false
set_option linter.unusedSimpArgs false
set_option linter.unusedSectionVars false
section
namespace Go.Proofs.YtkcjcdkmdooofaaGreat.Q
open Go.RowKit Go.Proofs.YtkcjcdkmdooofaaGreatW.PrintWords Go.Proofs.YtkcjcdkmdooofaaGreatW.PrintLast Go.Proofs.YtkcjcdkmdooofaaGreatW.PrintMore
attribute [local go_sem] max2_int min2_int max_two min_two max_three min_three max_four min_four
def interlocklaw11_row.f (a0 : ByteArray) : Option (Int × ByteArray × ByteArray) := some (4, (⟨#[116]⟩ : ByteArray), a0)
set_option maxHeartbeats 8000000 in
set_option maxRecDepth 100000 in
theorem interlocklaw11_row.calls (a0 : ByteArray) (r1 : Int) (r2 : ByteArray) (r3 : ByteArray) (w : World) (h : interlocklaw11_row.f a0 = some (r1, r2, r3)) :
   Calls Tryz.prog 25 #[.string a0] w fun e w' => e = .returned (.agg #[.int .i64 r1, .string r2, .string r3]) ∧ Below w.heap.size w w' := by
 have hu32 := Tryz.underlying32
 have HB := Aside0.mk (Below.refl w.heap.size w)
 have H : (some (4, (⟨#[116]⟩ : ByteArray), a0)) = some (r1, r2, r3) := h
 clear h
 simp only [Option.some.injEq, Prod.mk.injEq] at H
 obtain ⟨rfl, rfl, rfl⟩ := H
 go_enter Tryz.func25, Tryz.ntmps25
 go_wp2_with (first | ((with_reducible refine gate_dst (N := 2) rfl ?_); refine box_event ?hg (N := 2) ?hd (cs := #[.int .i64 0, .string (⟨#[]⟩ : ByteArray), .string (⟨#[]⟩ : ByteArray)]) (t := 32) ?hr ?_; (case hd => rfl); (case hg => rfl); (case hr => first | (go_simp; done) | (go_simp; rfl)); intro gb335 hg w2 hbox hb; have n0_ := Aside0.mk (below_step (by repeat (first | (with_reducible first | exact HB.out | apply below_alloc | apply pw_below_drewN | apply below_drew1) | exact HB.out)) hb); have n1_ := Aside0.mk (hbox); have n2_ := Aside0.mk ((by rw [hg]; exact (below_size (by repeat (first | (with_reducible first | exact HB.out | apply below_alloc | apply pw_below_drewN | apply below_drew1) | exact HB.out))) : w.heap.size ≤ gb335)); have n3_ := Aside0.mk ((by rw [hg]; exact (below_size (by repeat (first | (with_reducible first | exact HB.out | apply below_alloc | apply pw_below_drewN | apply below_drew1) | exact HB.out))) : w.heap.size ≤ gb335)); clear HB; have HB := n0_; have BK335 := n1_; have GW335 := n2_; have GE335 := n3_; clear n0_ n1_ n2_ n3_; clear hb hbox hg; have hcz3_0 : w2.cell? ⟨gb335, 0, none⟩ = some (.int .i64 0) := (blk_cell BK335.out 0).trans rfl; have hcz3_1 : w2.cell? ⟨gb335, 1, none⟩ = some (.string (⟨#[]⟩ : ByteArray)) := (blk_cell BK335.out 1).trans rfl; have hcz3_2 : w2.cell? ⟨gb335, 2, none⟩ = some (.string (⟨#[]⟩ : ByteArray)) := (blk_cell BK335.out 2).trans rfl; have hfz3_0 := blk_frozen BK335.out 0; have hfz3_1 := blk_frozen BK335.out 1; have hfz3_2 := blk_frozen BK335.out 2))
 refine bodyPost_ret (results_cell_row rfl _ _ gb335 32 #[.int .i64 4, .string (⟨#[116]⟩ : ByteArray), .string a0] (0, 0) _ rfl (by (with_reducible repeat (first | refine blk_drewN ?_ _ | refine blk_drew ?_ | refine blk_alloc ?_ _)); refine blk_put (cs := #[.int .i64 4, .string (⟨#[116]⟩ : ByteArray), .string (⟨#[]⟩ : ByteArray)]) ?_ 2 _ rfl; (with_reducible repeat (first | refine blk_drewN ?_ _ | refine blk_drew ?_ | refine blk_alloc ?_ _)); refine blk_put (cs := #[.int .i64 4, .string (⟨#[]⟩ : ByteArray), .string (⟨#[]⟩ : ByteArray)]) ?_ 1 _ rfl; (with_reducible repeat (first | refine blk_drewN ?_ _ | refine blk_drew ?_ | refine blk_alloc ?_ _)); refine blk_put (cs := #[.int .i64 0, .string (⟨#[]⟩ : ByteArray), .string (⟨#[]⟩ : ByteArray)]) ?_ 0 _ rfl; (with_reducible repeat (first | refine blk_drewN ?_ _ | refine blk_drew ?_ | refine blk_alloc ?_ _)); exact BK335.out) Tryz.underlying32 rfl (by kernel_rfl)) rfl ?_
 exact ⟨by first | rfl | (simp [errW_none, errW_some] <;> rfl) | (simp [*, errW_none, errW_some] <;> rfl), by repeat (first | (with_reducible first | exact HB.out | apply below_alloc | apply pw_below_drewN | apply below_drew1 | refine below_set ?_ GE335.out) | exact HB.out)⟩
end Go.Proofs.YtkcjcdkmdooofaaGreat.Q
end
section
namespace Go.Proofs.YtkcjcdkmdooofaaGreat.Q
open Go.RowKit Go.Proofs.YtkcjcdkmdooofaaGreatW.PrintWords Go.Proofs.YtkcjcdkmdooofaaGreatW.PrintLast Go.Proofs.YtkcjcdkmdooofaaGreatW.PrintMore
attribute [local go_sem] max2_int min2_int max_two min_two max_three min_three max_four min_four
def interlockref00_SameInts.l0 : Nat → List Int → List Int → Int → Option (Bool)
 | 0, _, _, _ => none
 | k + 1, x0, x1, x5 => if x5 < (x0.length : Int) then (if 0 ≤ x5 then (if x5 < (x1.length : Int) then (if (rd x0 x5) = (rd x1 x5) then (interlockref00_SameInts.l0 k x0 x1 (wrap64 (x5 + 1))) else (some false)) else (none)) else (none)) else (some true)
def interlockref00_SameInts.f (k : Nat) (l0 : List Int) (l1 : List Int) : Option (Bool) := if (l0.length : Int) = (l1.length : Int) then (interlockref00_SameInts.l0 k l0 l1 0) else (some false)
theorem interlockref00_SameInts.mono_l : ∀ k, (∀ y0 y1 y2, LeO (interlockref00_SameInts.l0 k y0 y1 y2) (interlockref00_SameInts.l0 (k + 1) y0 y1 y2))
 | 0 => fun _ _ _ r h => by simp [interlockref00_SameInts.l0] at h
 | k + 1 => by
   have ih0 := interlockref00_SameInts.mono_l k
   · intro y0 y1 y2
     unfold interlockref00_SameInts.l0
     repeat' first
     | (with_reducible exact ih0 _ _ _)
     | (with_reducible exact LeO.refl _)
     | (with_reducible exact LeO.none _)
     | (with_reducible refine LeO.ite ?_ ?_)
     | (with_reducible refine LeO.bind ?_ (fun _ => ?_))
     | exact ih0 _ _ _
     | exact LeO.none _
     | refine LeO.ite ?_ ?_
     | refine LeO.bind ?_ (fun _ => ?_)
theorem interlockref00_SameInts.mono : ∀ a0 a1 k, LeO (interlockref00_SameInts.f k a0 a1) (interlockref00_SameInts.f (k + 1) a0 a1) := by
 intro a0 a1 k
 have ih0 := interlockref00_SameInts.mono_l k
 unfold interlockref00_SameInts.f
 repeat' first
     | (with_reducible exact ih0 _ _ _)
     | (with_reducible exact LeO.refl _)
     | (with_reducible exact LeO.none _)
     | (with_reducible refine LeO.ite ?_ ?_)
     | (with_reducible refine LeO.bind ?_ (fun _ => ?_))
     | exact ih0 _ _ _
     | exact LeO.none _
     | refine LeO.ite ?_ ?_
     | refine LeO.bind ?_ (fun _ => ?_)
set_option maxHeartbeats 8000000 in
set_option maxRecDepth 100000 in
theorem interlockref00_SameInts.calls (k : Nat) (A0 : Option Addr) (c0 : Nat) (l0 : List Int) (A1 : Option Addr) (c1 : Nat) (l1 : List Int) (r : Bool) (w : World) (hr0 : Kd.C (Kd.int .i64) w A0 l0.length l0) (hc0 : l0.length ≤ c0) (hr1 : Kd.C (Kd.int .i64) w A1 l1.length l1) (hc1 : l1.length ≤ c1) (h : interlockref00_SameInts.f k l0 l1 = some r) :
   Calls Tryz.prog 9 #[.slice A0 l0.length c0, .slice A1 l1.length c1] w fun e w' => e = .returned (.bool r) ∧ Drawn0 w w' := by
 have HR0 := Aside0.mk hr0
 have HC0 := Aside0.mk hc0
 clear hr0 hc0
 have HR1 := Aside0.mk hr1
 have HC1 := Aside0.mk hc1
 clear hr1 hc1
 have H : (if (l0.length : Int) = (l1.length : Int) then (interlockref00_SameInts.l0 k l0 l1 0) else (some false)) = some r := h
 clear h
 by_cases c3 : (l0.length : Int) = (l1.length : Int)
 · rw [if_pos c3] at H
   have c3b0 : ((l0.length : Int) == (l1.length : Int)) = true := beq_iff_eq.mpr c3
   have c3b1 : ((l0.length : Int) != (l1.length : Int)) = false := bne_eq_false_iff_eq.mpr c3
   have c3b2 : (l0.length == l1.length) = true := by first | simpa using c3 | (simp at c3 ⊢; omega)
   clear c3
   have H' := Aside0.mk H
   clear H
   go_enter Tryz.func9, Tryz.ntmps9
   go_wp2
   repeat (go_quiet (fail); try go_wp2)
   go_loopg [5] k (fun kq v5 w' => ∃ (x5_1 : Int), v5 = .int .i64 x5_1 ∧ Aside0 (interlockref00_SameInts.l0 kq l0 l1 x5_1 = some r) ∧ Aside0 (kq ≤ k) ∧ Drawn0 w w')
   case atStart => exact ⟨(0), (by first | rfl | (simp; done) | (simp [*]; done)), H', ⟨Nat.le_refl _⟩, by repeat (first | exact Drawn0.refl _ | apply Drawn0.step)⟩
   case round =>
     clear H'
     try clear c1
     try clear p2
     try clear c3
     try clear c3b0
     try clear c3b1
     try clear c3b2
     obtain ⟨x5_1, rfl, HA, HK1, ⟨m1, rfl⟩⟩ := hrel
     cases gk with
     | zero => exact absurd HA.out (by simp [interlockref00_SameInts.l0])
     | succ k1 =>
       have H := HA.out
       clear HA
       simp only [interlockref00_SameInts.l0] at H
       by_cases c4 : x5_1 < (l0.length : Int)
       · rw [if_pos c4] at H
         have c4b0 : decide (x5_1 < (l0.length : Int)) = true := decide_eq_true c4
         clear c4
         by_cases c5 : 0 ≤ x5_1
         · rw [if_pos c5] at H
           have c5b0 : decide (0 ≤ x5_1) = true := decide_eq_true c5
           clear c5
           by_cases c6 : x5_1 < (l1.length : Int)
           · rw [if_pos c6] at H
             have c6b0 : decide (x5_1 < (l1.length : Int)) = true := decide_eq_true c6
             clear c6
             by_cases c7 : (rd l0 x5_1) = (rd l1 x5_1)
             · rw [if_pos c7] at H
               have c7b0 : ((rd l0 x5_1) == (rd l1 x5_1)) = true := beq_iff_eq.mpr c7
               have c7b1 : ((rd l0 x5_1) != (rd l1 x5_1)) = false := bne_eq_false_iff_eq.mpr c7
               clear c7
               have H' := Aside0.mk H
               clear H
               have p331 : 0 ≤ (x5_1 : Int) := of_decide_eq_true (by first | (with_reducible assumption) | assumption)
               have q331 : x5_1 < (l0.length : Int) := of_decide_eq_true (by first | (with_reducible assumption) | assumption)
               obtain ⟨ad331, e331, hx331_0⟩ := Kd.at_int HR0.out x5_1 p331 q331
               cases e331
               replace p331 := eq_true p331
               replace q331 := eq_true q331
               have p332 : 0 ≤ (x5_1 : Int) := of_decide_eq_true (by first | (with_reducible assumption) | assumption)
               have q332 : x5_1 < (l1.length : Int) := of_decide_eq_true (by first | (with_reducible assumption) | assumption)
               obtain ⟨ad332, e332, hx332_0⟩ := Kd.at_int HR1.out x5_1 p332 q332
               cases e332
               replace p332 := eq_true p332
               replace q332 := eq_true q332
               go_wp2
               repeat (go_quiet (fail); try go_wp2)
               go_roundg k1
               case measure => have := HK1.out; omega
               case rel => exact ⟨(wrap64 (x5_1 + 1)), (by first | rfl | (simp; done) | (simp [*]; done)), H', ⟨by have := HK1.out; omega⟩, by repeat (first | exact Drawn0.refl _ | apply Drawn0.step)⟩
             · rw [if_neg c7] at H
               have c7b0 : ((rd l0 x5_1) == (rd l1 x5_1)) = false := beq_eq_false_iff_ne.mpr c7
               have c7b1 : ((rd l0 x5_1) != (rd l1 x5_1)) = true := bne_iff_ne.mpr c7
               obtain rfl := Option.some.inj H
               have p331 : 0 ≤ (x5_1 : Int) := of_decide_eq_true (by first | (with_reducible assumption) | assumption)
               have q331 : x5_1 < (l0.length : Int) := of_decide_eq_true (by first | (with_reducible assumption) | assumption)
               obtain ⟨ad331, e331, hx331_0⟩ := Kd.at_int HR0.out x5_1 p331 q331
               cases e331
               replace p331 := eq_true p331
               replace q331 := eq_true q331
               have p332 : 0 ≤ (x5_1 : Int) := of_decide_eq_true (by first | (with_reducible assumption) | assumption)
               have q332 : x5_1 < (l1.length : Int) := of_decide_eq_true (by first | (with_reducible assumption) | assumption)
               obtain ⟨ad332, e332, hx332_0⟩ := Kd.at_int HR1.out x5_1 p332 q332
               cases e332
               replace p332 := eq_true p332
               replace q332 := eq_true q332
               go_wp2
               repeat (go_quiet (fail); try go_wp2)
               go_ret
               exact ⟨by first | rfl | (simp; done) | (simp [*]; done), by repeat (first | exact Drawn0.refl _ | apply Drawn0.step)⟩
           · rw [if_neg c6] at H
             exact absurd H (by simp)
         · rw [if_neg c5] at H
           exact absurd H (by simp)
       · rw [if_neg c4] at H
         have c4b0 : decide (x5_1 < (l0.length : Int)) = false := decide_eq_false c4
         clear c4
         obtain rfl := Option.some.inj H
         go_wp2
         repeat (go_quiet (fail); try go_wp2)
         go_ret
         exact ⟨by first | rfl | (simp; done) | (simp [*]; done), by repeat (first | exact Drawn0.refl _ | apply Drawn0.step)⟩
 · rw [if_neg c3] at H
   have c3b0 : ((l0.length : Int) == (l1.length : Int)) = false := beq_eq_false_iff_ne.mpr c3
   have c3b1 : ((l0.length : Int) != (l1.length : Int)) = true := bne_iff_ne.mpr c3
   have c3b2 : (l0.length == l1.length) = false := by first | simpa using c3 | (simp at c3 ⊢; omega)
   obtain rfl := Option.some.inj H
   go_enter Tryz.func9, Tryz.ntmps9
   go_wp2
   repeat (go_quiet (fail); try go_wp2)
   go_ret
   exact ⟨by first | rfl | (simp; done) | (simp [*]; done), by repeat (first | exact Drawn0.refl _ | apply Drawn0.step)⟩
end Go.Proofs.YtkcjcdkmdooofaaGreat.Q
end
section
namespace Go.Proofs.YtkcjcdkmdooofaaGreat.Q
open Go.RowKit Go.Proofs.YtkcjcdkmdooofaaGreatW.PrintWords Go.Proofs.YtkcjcdkmdooofaaGreatW.PrintLast Go.Proofs.YtkcjcdkmdooofaaGreatW.PrintMore
attribute [local go_sem] max2_int min2_int max_two min_two max_three min_three max_four min_four
theorem eqA75 (d : Nat) (w : World) (x0 y0 : Int) (x1 y1 : Int) (x2 y2 : Bool) :
   (Op.equalIn (d + 2) 75 (.agg #[.int .i64 x0, .int .i64 x1, .bool x2]) (.agg #[.int .i64 y0, .int .i64 y1, .bool y2])).run Tryz.prog w = .ok (x0 == y0 && (x1 == y1 && (x2 == y2))) w := by
 refine eqA_of Tryz.underlying75 (by kernel_rfl) ?_
 refine eqf_cons (by rfl) (by go_simp; rfl) (by go_simp; rfl) (by go_simp) ?_
 refine eqf_cons (by rfl) (by go_simp; rfl) (by go_simp; rfl) (by go_simp) ?_
 exact eqf_last (by rfl) (by go_simp; rfl) (by go_simp; rfl) (by go_simp)
end Go.Proofs.YtkcjcdkmdooofaaGreat.Q
end
section
namespace Go.Proofs.YtkcjcdkmdooofaaGreat.Q
open Go.RowKit Go.Proofs.YtkcjcdkmdooofaaGreatW.PrintWords Go.Proofs.YtkcjcdkmdooofaaGreatW.PrintLast Go.Proofs.YtkcjcdkmdooofaaGreatW.PrintMore
attribute [local go_sem] max2_int min2_int max_two min_two max_three min_three max_four min_four
attribute [local go_sem high] eqA75
def interlockref11_SameHeld.l0 : Nat → List (S75) → List (S75) → Int → Option (Bool)
 | 0, _, _, _ => none
 | k + 1, x0, x1, x5 => if x5 < (x0.length : Int) then (if 0 ≤ x5 then (if x5 < (x1.length : Int) then (if (!(((rd_T75 x0 x5).f0) == ((rd_T75 x1 x5).f0)) || (!(((rd_T75 x0 x5).f1) == ((rd_T75 x1 x5).f1)) || (!(((rd_T75 x0 x5).f2) == ((rd_T75 x1 x5).f2))))) = true then (some false) else (interlockref11_SameHeld.l0 k x0 x1 (wrap64 (x5 + 1)))) else (none)) else (none)) else (some true)
def interlockref11_SameHeld.f (k : Nat) (l0 : List (S75)) (l1 : List (S75)) : Option (Bool) := if (l0.length : Int) = (l1.length : Int) then (interlockref11_SameHeld.l0 k l0 l1 0) else (some false)
theorem interlockref11_SameHeld.mono_l : ∀ k, (∀ y0 y1 y2, LeO (interlockref11_SameHeld.l0 k y0 y1 y2) (interlockref11_SameHeld.l0 (k + 1) y0 y1 y2))
 | 0 => fun _ _ _ r h => by simp [interlockref11_SameHeld.l0] at h
 | k + 1 => by
   have ih0 := interlockref11_SameHeld.mono_l k
   · intro y0 y1 y2
     unfold interlockref11_SameHeld.l0
     repeat' first
     | (with_reducible exact ih0 _ _ _)
     | (with_reducible exact LeO.refl _)
     | (with_reducible exact LeO.none _)
     | (with_reducible refine LeO.ite ?_ ?_)
     | (with_reducible refine LeO.bind ?_ (fun _ => ?_))
     | exact ih0 _ _ _
     | exact LeO.none _
     | refine LeO.ite ?_ ?_
     | refine LeO.bind ?_ (fun _ => ?_)
theorem interlockref11_SameHeld.mono : ∀ a0 a1 k, LeO (interlockref11_SameHeld.f k a0 a1) (interlockref11_SameHeld.f (k + 1) a0 a1) := by
 intro a0 a1 k
 have ih0 := interlockref11_SameHeld.mono_l k
 unfold interlockref11_SameHeld.f
 repeat' first
     | (with_reducible exact ih0 _ _ _)
     | (with_reducible exact LeO.refl _)
     | (with_reducible exact LeO.none _)
     | (with_reducible refine LeO.ite ?_ ?_)
     | (with_reducible refine LeO.bind ?_ (fun _ => ?_))
     | exact ih0 _ _ _
     | exact LeO.none _
     | refine LeO.ite ?_ ?_
     | refine LeO.bind ?_ (fun _ => ?_)
set_option maxHeartbeats 8000000 in
set_option maxRecDepth 100000 in
theorem interlockref11_SameHeld.calls (k : Nat) (A0 : Option Addr) (c0 : Nat) (l0 : List (S75)) (A1 : Option Addr) (c1 : Nat) (l1 : List (S75)) (r : Bool) (w : World) (hr0 : Kd.C k75 w A0 l0.length l0) (hc0 : l0.length ≤ c0) (hr1 : Kd.C k75 w A1 l1.length l1) (hc1 : l1.length ≤ c1) (h : interlockref11_SameHeld.f k l0 l1 = some r) :
   Calls Tryz.prog 16 #[.slice A0 l0.length c0, .slice A1 l1.length c1] w fun e w' => e = .returned (.bool r) ∧ Drawn0 w w' := by
 have hu75 := Tryz.underlying75
 have HR0 := Aside0.mk hr0
 have HC0 := Aside0.mk hc0
 clear hr0 hc0
 have HR1 := Aside0.mk hr1
 have HC1 := Aside0.mk hc1
 clear hr1 hc1
 have H : (if (l0.length : Int) = (l1.length : Int) then (interlockref11_SameHeld.l0 k l0 l1 0) else (some false)) = some r := h
 clear h
 by_cases c3 : (l0.length : Int) = (l1.length : Int)
 · rw [if_pos c3] at H
   have c3b0 : ((l0.length : Int) == (l1.length : Int)) = true := beq_iff_eq.mpr c3
   have c3b1 : ((l0.length : Int) != (l1.length : Int)) = false := bne_eq_false_iff_eq.mpr c3
   have c3b2 : (l0.length == l1.length) = true := by first | simpa using c3 | (simp at c3 ⊢; omega)
   clear c3
   have H' := Aside0.mk H
   clear H
   go_enter Tryz.func16, Tryz.ntmps16
   go_wp2
   repeat (go_quiet (fail); try go_wp2)
   go_loopg [5] k (fun kq v5 w' => ∃ (x5_1 : Int), v5 = .int .i64 x5_1 ∧ Aside0 (interlockref11_SameHeld.l0 kq l0 l1 x5_1 = some r) ∧ Aside0 (kq ≤ k) ∧ Drawn0 w w')
   case atStart => exact ⟨(0), (by first | rfl | (simp; done) | (simp [*]; done)), H', ⟨Nat.le_refl _⟩, by repeat (first | exact Drawn0.refl _ | apply Drawn0.step)⟩
   case round =>
     clear H'
     try clear c1
     try clear p2
     try clear c3
     try clear c3b0
     try clear c3b1
     try clear c3b2
     obtain ⟨x5_1, rfl, HA, HK1, ⟨m1, rfl⟩⟩ := hrel
     cases gk with
     | zero => exact absurd HA.out (by simp [interlockref11_SameHeld.l0])
     | succ k1 =>
       have H := HA.out
       clear HA
       simp only [interlockref11_SameHeld.l0] at H
       by_cases c4 : x5_1 < (l0.length : Int)
       · rw [if_pos c4] at H
         have c4b0 : decide (x5_1 < (l0.length : Int)) = true := decide_eq_true c4
         clear c4
         by_cases c5 : 0 ≤ x5_1
         · rw [if_pos c5] at H
           have c5b0 : decide (0 ≤ x5_1) = true := decide_eq_true c5
           clear c5
           by_cases c6 : x5_1 < (l1.length : Int)
           · rw [if_pos c6] at H
             have c6b0 : decide (x5_1 < (l1.length : Int)) = true := decide_eq_true c6
             clear c6
             by_cases c7 : (!(((rd_T75 l0 x5_1).f0) == ((rd_T75 l1 x5_1).f0)) || (!(((rd_T75 l0 x5_1).f1) == ((rd_T75 l1 x5_1).f1)) || (!(((rd_T75 l0 x5_1).f2) == ((rd_T75 l1 x5_1).f2))))) = true
             · rw [if_pos c7] at H
               have c7b0 : (!(((rd_T75 l0 x5_1).f0) == ((rd_T75 l1 x5_1).f0)) || (!(((rd_T75 l0 x5_1).f1) == ((rd_T75 l1 x5_1).f1)) || (!(((rd_T75 l0 x5_1).f2) == ((rd_T75 l1 x5_1).f2))))) = true := c7
               clear c7
               obtain rfl := Option.some.inj H
               have p457 : 0 ≤ (x5_1 : Int) := of_decide_eq_true (by first | (with_reducible assumption) | assumption)
               have q457 : x5_1 < (l0.length : Int) := of_decide_eq_true (by first | (with_reducible assumption) | assumption)
               obtain ⟨ad457, e457, hx457_0, hx457_1, hx457_2⟩ := at_T75 HR0.out x5_1 p457 q457
               cases e457
               replace p457 := eq_true p457
               replace q457 := eq_true q457
               have p458 : 0 ≤ (x5_1 : Int) := of_decide_eq_true (by first | (with_reducible assumption) | assumption)
               have q458 : x5_1 < (l1.length : Int) := of_decide_eq_true (by first | (with_reducible assumption) | assumption)
               obtain ⟨ad458, e458, hx458_0, hx458_1, hx458_2⟩ := at_T75 HR1.out x5_1 p458 q458
               cases e458
               replace p458 := eq_true p458
               replace q458 := eq_true q458
               go_wp2
               repeat (go_quiet (fail); try go_wp2)
               go_ret
               exact ⟨by first | rfl | (simp; done) | (simp [*]; done), by repeat (first | exact Drawn0.refl _ | apply Drawn0.step)⟩
             · rw [if_neg c7] at H
               have c7b0 : (!(((rd_T75 l0 x5_1).f0) == ((rd_T75 l1 x5_1).f0)) || (!(((rd_T75 l0 x5_1).f1) == ((rd_T75 l1 x5_1).f1)) || (!(((rd_T75 l0 x5_1).f2) == ((rd_T75 l1 x5_1).f2))))) = false := by simpa using c7
               clear c7
               have H' := Aside0.mk H
               clear H
               have p457 : 0 ≤ (x5_1 : Int) := of_decide_eq_true (by first | (with_reducible assumption) | assumption)
               have q457 : x5_1 < (l0.length : Int) := of_decide_eq_true (by first | (with_reducible assumption) | assumption)
               obtain ⟨ad457, e457, hx457_0, hx457_1, hx457_2⟩ := at_T75 HR0.out x5_1 p457 q457
               cases e457
               replace p457 := eq_true p457
               replace q457 := eq_true q457
               have p458 : 0 ≤ (x5_1 : Int) := of_decide_eq_true (by first | (with_reducible assumption) | assumption)
               have q458 : x5_1 < (l1.length : Int) := of_decide_eq_true (by first | (with_reducible assumption) | assumption)
               obtain ⟨ad458, e458, hx458_0, hx458_1, hx458_2⟩ := at_T75 HR1.out x5_1 p458 q458
               cases e458
               replace p458 := eq_true p458
               replace q458 := eq_true q458
               go_wp2
               repeat (go_quiet (fail); try go_wp2)
               go_roundg k1
               case measure => have := HK1.out; omega
               case rel => exact ⟨(wrap64 (x5_1 + 1)), (by first | rfl | (simp; done) | (simp [*]; done)), H', ⟨by have := HK1.out; omega⟩, by repeat (first | exact Drawn0.refl _ | apply Drawn0.step)⟩
           · rw [if_neg c6] at H
             exact absurd H (by simp)
         · rw [if_neg c5] at H
           exact absurd H (by simp)
       · rw [if_neg c4] at H
         have c4b0 : decide (x5_1 < (l0.length : Int)) = false := decide_eq_false c4
         clear c4
         obtain rfl := Option.some.inj H
         go_wp2
         repeat (go_quiet (fail); try go_wp2)
         go_ret
         exact ⟨by first | rfl | (simp; done) | (simp [*]; done), by repeat (first | exact Drawn0.refl _ | apply Drawn0.step)⟩
 · rw [if_neg c3] at H
   have c3b0 : ((l0.length : Int) == (l1.length : Int)) = false := beq_eq_false_iff_ne.mpr c3
   have c3b1 : ((l0.length : Int) != (l1.length : Int)) = true := bne_iff_ne.mpr c3
   have c3b2 : (l0.length == l1.length) = false := by first | simpa using c3 | (simp at c3 ⊢; omega)
   obtain rfl := Option.some.inj H
   go_enter Tryz.func16, Tryz.ntmps16
   go_wp2
   repeat (go_quiet (fail); try go_wp2)
   go_ret
   exact ⟨by first | rfl | (simp; done) | (simp [*]; done), by repeat (first | exact Drawn0.refl _ | apply Drawn0.step)⟩
end Go.Proofs.YtkcjcdkmdooofaaGreat.Q
end
section
namespace Go.Proofs.Kb
open Go Go.RowKit Go.Proofs.YtkcjcdkmdooofaaGreat.Q Go.Proofs.YtkcjcdkmdooofaaGreatW.PrintWords Go.Proofs.YtkcjcdkmdooofaaGreatW.PrintLast Go.Proofs.YtkcjcdkmdooofaaGreatW.PrintMore
set_option maxRecDepth 100000
open Go.Proofs.Lk Go.Proofs.Mp
theorem nodup_le {α : Type} : ∀ {l l' : List α}, l.Nodup → (∀ x ∈ l, x ∈ l') → l.length ≤ l'.length
 | [], l', _, _ => Nat.zero_le _
 | x :: r, l', hn, hs => by
   obtain ⟨hx, hn⟩ := List.nodup_cons.1 hn
   obtain ⟨A, B, rfl⟩ := List.append_of_mem (hs x List.mem_cons_self)
   have : r.length ≤ (A ++ B).length := nodup_le hn fun y hy => by
     have h1 := hs y (List.mem_cons_of_mem _ hy)
     rw [List.mem_append, List.mem_cons] at h1
     rw [List.mem_append]
     rcases h1 with h1 | rfl | h1
     · exact .inl h1
     · exact absurd hy hx
     · exact .inr h1
   rw [List.length_append] at this ⊢
   rw [List.length_cons, List.length_cons]
   omega
def SoH (s : LS S32) : Prop := ∀ x, Sorted (s.held x)
theorem so_noted {s : LS S32} (h : SoH s) (t : S32) (x : Int) : SoH (Lk.noted haddT t s x) := fun y => by
 show Sorted (upd s.held x (haddT (s.held x) t) y)
 by_cases hy : y = x
 · subst hy
   rw [upd_same]
   exact haddT_sorted (h y) t
 · rw [upd_other hy]
   exact h y
theorem so_fold (t : S32) : ∀ (out : List Int) {s : LS S32}, SoH s → SoH (out.foldl (Lk.noted haddT t) s)
 | [], s, h => h
 | x :: out, s, h => so_fold t out (so_noted h t x)
theorem so_sweep {s : LS S32} (h : SoH s) (t : S32) : SoH (sweepS haddT s t).1 := so_fold t _ (s := ⟨upd s.rows t (sweepR (s.rows t)).1, s.waits, s.held⟩) h
theorem so_sweeps : ∀ (l : List S32) {s : LS S32}, SoH s → SoH (sweepsS haddT l s).1
 | [], s, h => h
 | t :: l, s, h => so_sweeps l (so_sweep h t)
theorem so_release {s : LS S32} (h : SoH s) (x : Int) : SoH (releaseS haddT s x).1 := so_sweeps _ fun y => by
 show Sorted (upd s.held x [] y)
 by_cases hy : y = x
 · rw [hy, upd_same]
   exact List.Pairwise.nil
 · rw [upd_other hy]
   exact h y
theorem so_cancel {s : LS S32} (h : SoH s) (x : Int) : SoH (cancelS haddT s x).1 := by
 unfold cancelS
 split
 · exact h
 · exact so_sweep (s := ⟨upd s.rows _ _, upd s.waits x none, s.held⟩) h _
theorem so_ask {s : LS S32} (h : SoH s) (x : Int) (t : S32) (m : Int) : SoH (askS haddT fitsT s x t m).1 := by
 unfold askS
 split
 · split
   · exact h
   · unfold askR
     dsimp only
     split
     · exact h
     · split
       · exact h
       · intro y
         show Sorted (upd s.held x (haddT (s.held x) t) y)
         by_cases hy : y = x
         · subst hy
           rw [upd_same]
           exact haddT_sorted (h y) t
         · rw [upd_other hy]
           exact h y
 · exact h
theorem so_step {s : LS S32} (h : SoH s) (c : Cal S32) : SoH (stepS haddT fitsT s c) := by
 unfold stepS
 split
 · exact so_ask h _ _ _
 · split
   · exact so_cancel h _
   · split
     · exact so_release h _
     · exact h
structure Good (X : List Int) (D : List S32) (s : LS S32) : Prop where
 inv : LInv s
 am : ∀ t x, pres s t x → x ∈ X ∧ t ∈ D ∧ fitsT t = true
 so : SoH s
 xl : X.length ≤ 299
 dl : D.length ≤ 1000
 xw : ∀ x ∈ X, wfI x
 dw : ∀ t ∈ D, wfT t
section
variable {X : List Int} {D : List S32} {s : LS S32}
theorem Good.ok (h : Good X D s) : OkS D.length s := by
 refine ⟨fun t => ⟨(h.inv.row t).hn, ?_, fun o ho => h.xw _ (h.am t o.1 (.inr (has_iff.2 ⟨o, ho, rfl⟩))).1⟩, fun x => ⟨h.so x, ?_⟩, fun x t ht => h.dw t (h.am t x (.inr ((h.inv.ww x t).1 ht))).2.1, fun x t ht => h.dw t (h.am t x (.inl ((h.inv.hh x t).1 ht))).2.1⟩
 · have h1 : (s.rows t).holds.length ≤ X.length := by
     have := nodup_le (h.inv.row t).hn (l' := X) fun x hx => by
       obtain ⟨o, ho, rfl⟩ := List.mem_map.1 hx
       exact (h.am t o.1 (.inl (has_iff.2 ⟨o, ho, rfl⟩))).1
     simpa using this
   have h2 : (s.rows t).waits.length ≤ X.length := by
     have := nodup_le (h.inv.row t).wn (l' := X) fun x hx => by
       obtain ⟨o, ho, rfl⟩ := List.mem_map.1 hx
       exact (h.am t o.1 (.inr (has_iff.2 ⟨o, ho, rfl⟩))).1
     simpa using this
   have := h.xl
   omega
 · refine nodup_le ?_ fun t ht => (h.am t x (.inl ((h.inv.hh x t).1 ht))).2.1
   refine List.Pairwise.imp ?_ (h.so x)
   intro a b hab e
   rw [e] at hab
   exact ltT_irr b hab
theorem Good.step (h : Good X D s) (c : Cal S32) (hx : c.txn ∈ X) (ht : c.thing ∈ D) : Good X D (stepS haddT fitsT s c) :=
 ⟨step_inv mem_haddT h.inv c, fun t x hp => by
   rcases step_pres mem_haddT h.inv c hp with h1 | ⟨rfl, rfl, h1⟩
   · exact h.am t x h1
   · exact ⟨hx, ht, h1⟩, so_step h.so c, h.xl, h.dl, h.xw, h.dw⟩
theorem Good.ask (h : Good X D s) {x : Int} {t : S32} (m : Int) (hx : x ∈ X) (ht : t ∈ D) : Good X D (askS haddT fitsT s x t m).1 := h.step ⟨0, x, t, m⟩ hx ht
theorem Good.release (h : Good X D s) (x : Int) : Good X D (releaseS haddT s x).1 :=
 ⟨release_inv mem_haddT x h.inv, fun t y hp => h.am t y (release_pres mem_haddT h.inv hp).1, so_release h.so x, h.xl, h.dl, h.xw, h.dw⟩
theorem Good.new (hX : X.length ≤ 299) (hD : D.length ≤ 1000) (hx : ∀ x ∈ X, wfI x) (hd : ∀ t ∈ D, wfT t) : Good X D LS.new :=
 ⟨new_inv, fun t x hp => by rcases hp with h | h <;> simp [LS.new, has] at h, fun x => List.Pairwise.nil, hX, hD, hx, hd⟩
end
theorem rowX_C {α : Type} {E : EncT α} {d : Kd α} (hs : d.sz = E.sz) (hk : ∀ (w : World) x, d.K w x (E.enc x)) {w : World} {v : Value} {l : List α} (h : RowX E w v l) (hn : l.length < 100000) : ∃ A c, v = .slice A l.length c ∧ l.length ≤ c ∧ d.C w A l.length l := by
 by_cases h0 : 0 < l.length
 · obtain ⟨g, c, rfl, hc⟩ := row_slice h h0
   refine ⟨_, c, rfl, hc, rfl, by omega, fun _ => ⟨⟨g, 0, none⟩, rfl, fun j p hj => ⟨E.enc p, by rw [E.len, hs], hk w p, fun i u hu => ?_⟩⟩⟩
   have hi : i < E.sz := by have := (List.getElem?_eq_some_iff.1 hu).1; rw [E.len] at this; exact this
   have h1 := RowX.cell h hj i hi u hu
   rw [Addr.add_lit, Nat.zero_add, hs]
   exact h1
 · have hks : l = [] := List.eq_nil_of_length_eq_zero (by omega)
   subst hks
   rcases h.2.2 with ⟨rfl, _⟩ | ⟨g, c, cur, rfl, _, hc, _⟩
   · exact ⟨none, 0, rfl, Nat.le_refl _, rfl, by simp, fun h => absurd h (by simp)⟩
   · exact ⟨_, c, rfl, hc, rfl, by simp, fun h => absurd h (by simp)⟩
section
variable {w0 w : World} {F : Nat → Prop} {R : List Chunk} {M : LM} {s : LS S32} {X : List Int} {D : List S32}
theorem ask_fr {x m : Int} {t : S32} (hs : St w0 F w (lk M ++ R)) (hr : Rep M s) (hg : Good X D s) (hx : wfI x) (ht : wfT t) (hn : M.tot < 4000000000000000000) :
   Calls Tryz.prog 7 #[lpV M, .int .i64 x, wantV t m] w fun E w' => ∃ M', E = AskE (askS haddT fitsT s x t m) ∧ Rep M' (askS haddT fitsT s x t m).1 ∧ M'.lp = M.lp ∧ M'.tot ≤ M.tot + 10 ∧ St w0 F w' (lk M' ++ R) :=
 (ask_calls w M s x t m _ D.length (St.sub hs) hr hg.inv hx ht hg.ok hg.dl hn).mono fun E w' ⟨M', h1, h2, h3, h4, h5⟩ => ⟨M', h1, h2, h3, h4, St.call hs h5⟩
theorem cancel_fr {x : Int} (hs : St w0 F w (lk M ++ R)) (hr : Rep M s) (hg : Good X D s) (hx : wfI x) (hn : M.tot < 4000000000000000000) :
   Calls Tryz.prog 10 #[lpV M, .int .i64 x] w fun E w' => ∃ M' v, E = .returned v ∧ Rep M' (cancelS haddT s x).1 ∧ M'.lp = M.lp ∧ M'.tot ≤ M.tot + 700 ∧ St w0 F w' (lk M' ++ [rowIC v (cancelS haddT s x).2] ++ R) :=
 (cancel_calls w M s x _ D.length (St.sub hs) hr hg.inv hx hg.ok (by have := hg.dl; omega) hn).mono fun E w' ⟨M', v, h1, h2, h3, h4, h5⟩ => ⟨M', v, h1, h2, h3, h4, St.call hs h5⟩
theorem release_fr {x : Int} (hs : St w0 F w (lk M ++ R)) (hr : Rep M s) (hg : Good X D s) (hx : wfI x) (hn : M.tot < 4000000000000000000) :
   Calls Tryz.prog 12 #[lpV M, .int .i64 x] w fun E w' => ∃ M' v, E = .returned v ∧ Rep M' (releaseS haddT s x).1 ∧ M'.lp = M.lp ∧ M'.tot ≤ M.tot + 1000000 ∧ St w0 F w' (lk M' ++ [rowIC v (releaseS haddT s x).2] ++ R) :=
 (release_calls w M s x _ D.length (St.sub hs) hr hx hg.ok hg.dl hn).mono fun E w' ⟨M', v, h1, h2, h3, h4, h5⟩ => ⟨M', v, h1, h2, h3, h4, St.call hs h5⟩
theorem blockers_fr {x : Int} (hs : St w0 F w (lk M ++ R)) (hr : Rep M s) (hg : Good X D s) (hx : wfI x) (hn : M.tot < 4000000000000000000) :
   Calls Tryz.prog 19 #[lpV M, .int .i64 x] w fun E w' => ∃ M' v, E = .returned v ∧ Rep M' s ∧ M'.lp = M.lp ∧ M'.tot ≤ M.tot + 10 ∧ St w0 F w' (lk M' ++ [rowIC v (blockS srtI s x)] ++ R) :=
 (lblockers_calls w M s x _ D.length (St.sub hs) hr hg.inv hx hg.ok hn).mono fun E w' ⟨M', v, h1, h2, h3, h4, h5⟩ => ⟨M', v, h1, h2, h3, h4, St.call hs h5⟩
theorem mode_fr {x : Int} {t : S32} (hs : St w0 F w (lk M ++ R)) (hr : Rep M s) (hg : Good X D s) (ht : wfT t) :
   Calls Tryz.prog 21 #[lpV M, .int .i64 x, thgV t] w fun E w' => E = .returned (.int .i64 (modeD s x t)) ∧ St w0 F w' (lk M ++ R) :=
 (mode_calls w M s x t _ D.length (St.sub hs) hr ht hg.ok).mono fun E w' ⟨h1, h2⟩ => ⟨h1, St.call hs h2⟩
theorem state_fr {t : S32} (hs : St w0 F w (lk M ++ R)) (hr : Rep M s) (hg : Good X D s) (ht : wfT t) :
   Calls Tryz.prog 17 #[lpV M, thgV t] w fun E w' => ∃ v, E = .returned v ∧ St w0 F w' (lk M ++ [rowHC v (stateL (s.rows t))] ++ R) :=
 (state_calls w M s t _ D.length (St.sub hs) hr ht hg.ok).mono fun E w' ⟨v, h1, h2⟩ => ⟨v, h1, St.call hs h2⟩
theorem new_fr (hs : St w0 F w R) : Calls Tryz.prog 6 #[] w fun E w' => ∃ M, E = .returned (lpV M) ∧ Rep M LS.new ∧ M.tot = 0 ∧ St w0 F w' (lk M ++ R) :=
 (new_calls w).mono fun E w' ⟨M, h1, h2, h3, h4⟩ => ⟨M, h1, h2, h3, St.call0 hs h4⟩
end
end Go.Proofs.Kb
end
section
namespace Go.Proofs.Kb
open Go Go.RowKit Go.Proofs.YtkcjcdkmdooofaaGreat.Q Go.Proofs.YtkcjcdkmdooofaaGreatW.PrintWords Go.Proofs.YtkcjcdkmdooofaaGreatW.PrintLast Go.Proofs.YtkcjcdkmdooofaaGreatW.PrintMore
set_option maxRecDepth 100000
open Go.Proofs.Lk Go.Proofs.Mp
theorem same_l0 (l m : List Int) (hlm : l.length = m.length) (hn : l.length < 100000) : ∀ (k i : Nat), i ≤ l.length → l.length < i + k → interlockref00_SameInts.l0 k l m (i : Int) = some (decide (l.drop i = m.drop i))
 | 0, i, h1, h2 => by omega
 | k + 1, i, h1, h2 => by
   unfold interlockref00_SameInts.l0
   by_cases h : i < l.length
   · have hd : l.drop i = l[i] :: l.drop (i + 1) := List.drop_eq_getElem_cons h
     have hd2 : m.drop i = m[i]'(by omega) :: m.drop (i + 1) := List.drop_eq_getElem_cons (by omega)
     have hr : rd l (i : Int) = l[i] := by simp [rd, List.getD_eq_getElem?_getD, List.getElem?_eq_getElem h]
     have hr2 : rd m (i : Int) = m[i]'(by omega) := by simp [rd, List.getD_eq_getElem?_getD, List.getElem?_eq_getElem (show i < m.length by omega)]
     rw [if_pos (by omega), if_pos (by omega), if_pos (by omega), hr, hr2]
     by_cases e : l[i] = m[i]'(by omega)
     · rw [if_pos e, show wrap64 ((i : Int) + 1) = ((i + 1 : Nat) : Int) by rw [IntWalk.wrap64_in _ (by omega)]; omega, same_l0 l m hlm hn k (i + 1) (by omega) (by omega)]
       refine congrArg some (decide_eq_decide.2 ?_)
       rw [hd, hd2, e]
       exact ⟨fun h => by rw [h], fun h => (List.cons.inj h).2⟩
     · rw [if_neg e]
       refine congrArg some (decide_eq_false ?_).symm
       rw [hd, hd2]
       exact fun h => e (List.cons.inj h).1
   · rw [if_neg (by omega), List.drop_eq_nil_of_le (by omega), List.drop_eq_nil_of_le (by omega)]
     simp
theorem same_f (l m : List Int) (hn : l.length < 100000) : interlockref00_SameInts.f 100001 l m = some (decide (l = m)) := by
 unfold interlockref00_SameInts.f
 by_cases h : l.length = m.length
 · rw [if_pos (by omega)]
   have := same_l0 l m h hn 100001 0 (Nat.zero_le _) (by omega)
   simpa using this
 · rw [if_neg (by omega)]
   have : ¬ l = m := fun e => h (by rw [e])
   simp [this]
theorem sameints_calls (w : World) (v u : Value) (l m : List Int) (hv : RowX intE w v l) (hu : RowX intE w u m) (hl : l.length < 100000) (hm : m.length < 100000) :
   Calls Tryz.prog 9 #[v, u] w fun E w' => E = .returned (.bool (decide (l = m))) ∧ Below w.heap.size w w' := by
 have hk : ∀ (w : World) (x : Int), (Kd.int .i64).K w x (intE.enc x) := fun w x => rfl
 obtain ⟨A, c, rfl, h1, h2⟩ := rowX_C (d := Kd.int .i64) rfl hk hv hl
 obtain ⟨A', c', rfl, h3, h4⟩ := rowX_C (d := Kd.int .i64) rfl hk hu hm
 exact (interlockref00_SameInts.calls 100001 A c l A' c' m _ w h2 h1 h4 h3 (same_f l m hl)).mono fun E w' h => ⟨h.1, h.2.below⟩
theorem lit_row {w : World} {b : Nat} {x : Int} (h : w.heap[b]? = some (.cells #[.int .i64 x] 3 (0, 0))) : RowX intE w (.slice (some ⟨b, 0, none⟩) 1 1) [x] :=
 ⟨rfl, fun u hu => (by rw [List.mem_singleton.1 hu]; rfl), .inr ⟨b, 1, _, rfl, h, Nat.le_refl _, by decide, Nat.le_refl _, rfl⟩⟩
theorem sorted_ext : ∀ {a b : List Int}, a.Pairwise (· < ·) → b.Pairwise (· < ·) → (∀ x, x ∈ a ↔ x ∈ b) → a = b
 | [], [], _, _, _ => rfl
 | [], y :: b, _, _, h => by have := (h y).2 List.mem_cons_self; cases this
 | x :: a, [], _, _, h => by have := (h x).1 List.mem_cons_self; cases this
 | x :: a, y :: b, ha, hb, h => by
   obtain ⟨ha1, ha2⟩ := List.pairwise_cons.1 ha
   obtain ⟨hb1, hb2⟩ := List.pairwise_cons.1 hb
   have e : x = y := by
     have h1 := (h x).1 List.mem_cons_self
     have h2 := (h y).2 List.mem_cons_self
     rcases List.mem_cons.1 h1 with h1 | h1
     · exact h1
     · rcases List.mem_cons.1 h2 with h2 | h2
       · exact h2.symm
       · have := hb1 x h1
         have := ha1 y h2
         omega
   subst e
   rw [sorted_ext ha2 hb2 fun z => ?_]
   constructor
   · intro hz
     rcases List.mem_cons.1 ((h z).1 (List.mem_cons_of_mem _ hz)) with h1 | h1
     · have := ha1 z hz
       omega
     · exact h1
   · intro hz
     rcases List.mem_cons.1 ((h z).2 (List.mem_cons_of_mem _ hz)) with h1 | h1
     · have := hb1 z hz
       omega
     · exact h1
def tk : S32 := ⟨4, ⟨#[116]⟩, ⟨#[107]⟩⟩
def a1 : LS S32 × Bool × Ans := askS haddT fitsT LS.new 1 tk 3
def a2 : LS S32 × Bool × Ans := askS haddT fitsT a1.1 2 tk 6
def a3 : LS S32 × Bool × Ans := askS haddT fitsT a2.1 3 tk 3
theorem a1_is : a1.2 = (true, .ok) := by kernel_rfl
theorem a2_is : a2.2 = (false, .ok) := by kernel_rfl
theorem a3_is : a3.2 = (false, .ok) := by kernel_rfl
theorem a3_blk : blockS srtI a3.1 3 = [2] := by
 have h : blockS srtI a3.1 3 = srtI [2] := by kernel_rfl
 rw [h]
 exact sorted_ext (srtI_sorted _) (List.pairwise_singleton _ _) (mem_srtI _)
theorem a3_rel : (releaseS haddT a3.1 1).2 = [2] := by kernel_rfl
theorem a3_len : (stateL ((releaseS haddT a3.1 1).1.rows tk)).length = 2 := by kernel_rfl
end Go.Proofs.Kb
end
section
namespace Go.Proofs.Kb
open Go Go.RowKit Go.Proofs.YtkcjcdkmdooofaaGreat.Q Go.Proofs.YtkcjcdkmdooofaaGreatW.PrintWords Go.Proofs.YtkcjcdkmdooofaaGreatW.PrintLast Go.Proofs.YtkcjcdkmdooofaaGreatW.PrintMore
set_option maxRecDepth 100000
open Go.Proofs.Lk Go.Proofs.Mp
def LA (w0 : World) (F : Nat → Prop) (lp : Nat) (s : LS S32) (k : Nat) (R : List Chunk) (W : World) : Prop := ∃ M : LM, M.lp = lp ∧ Rep M s ∧ M.tot ≤ k ∧ St w0 F W (lk M ++ R)
def lpP (lp : Nat) : Value := .pointer (some ⟨lp, 0, none⟩)
section
variable {w0 w w' : World} {F : Nat → Prop} {R R' : List Chunk} {lp k : Nat} {s : LS S32} {X : List Int} {D : List S32}
theorem LA.below (h : LA w0 F lp s k R w) (hb : Below w.heap.size w w') : LA w0 F lp s k R w' := by
 obtain ⟨M, h1, h2, h3, h4⟩ := h
 exact ⟨M, h1, h2, h3, h4.below hb⟩
theorem LA.rest (h : LA w0 F lp s k R w) : St w0 F w R := by
 obtain ⟨M, h1, h2, h3, h4⟩ := h
 exact h4.drop
theorem LA.perm (h : LA w0 F lp s k R w) (hp : R.Perm R') : LA w0 F lp s k R' w := by
 obtain ⟨M, h1, h2, h3, h4⟩ := h
 exact ⟨M, h1, h2, h3, h4.perm (List.Perm.append_left _ hp)⟩
theorem LA.drop (h : LA w0 F lp s k (R ++ R') w) : LA w0 F lp s k R' w := by
 obtain ⟨M, h1, h2, h3, h4⟩ := h
 have h5 : St w0 F w (R ++ (lk M ++ R')) := h4.perm (by rw [← List.append_assoc, ← List.append_assoc]; exact List.Perm.append_right _ List.perm_append_comm)
 exact ⟨M, h1, h2, h3, h5.drop⟩
theorem LA.left (h : LA w0 F lp s k (R ++ R') w) : LA w0 F lp s k R w := LA.drop (R := R') (h.perm List.perm_append_comm)
theorem LA.mono (h : LA w0 F lp s k R w) {k' : Nat} (hk : k ≤ k') : LA w0 F lp s k' R w := by
 obtain ⟨M, h1, h2, h3, h4⟩ := h
 exact ⟨M, h1, h2, Nat.le_trans h3 hk, h4⟩
theorem LA.alloc (h : LA w0 F lp s k R w) (C : Array Value) (T : TypeId) {n : Nat} (hn : w.heap.size = n) : LA w0 F lp s k (R ++ [blkC n (.cells C T (0, 0))]) (w.alloc (.cells C T)) := by
 obtain ⟨M, h1, h2, h3, h4⟩ := h
 have h5 := h4.alloc C T hn
 rw [List.append_assoc] at h5
 exact ⟨M, h1, h2, h3, h5⟩
theorem LA.sub (h : LA w0 F lp s k R w) (f : ∀ cs : List Chunk, St w0 F w (R ++ cs) → St w0 F w' (R' ++ cs)) : LA w0 F lp s k R' w' := by
 obtain ⟨M, h1, h2, h3, h4⟩ := h
 have h5 : St w0 F w (R ++ lk M) := h4.perm List.perm_append_comm
 exact ⟨M, h1, h2, h3, (f _ h5).perm List.perm_append_comm⟩
theorem LA.new (hs : St w0 F w R) : Calls Tryz.prog 6 #[] w fun E w' => ∃ lp, E = .returned (lpP lp) ∧ LA w0 F lp LS.new 0 R w' :=
 (new_fr hs).mono fun E w' ⟨M, h1, h2, h3, h4⟩ => ⟨M.lp, h1, M, rfl, h2, Nat.le_of_eq h3, h4⟩
theorem LA.ask (h : LA w0 F lp s k R w) (hg : Good X D s) {x : Int} {t : S32} (m : Int) (hx : x ∈ X) (ht : t ∈ D) (hk : k < 4000000000000000000) :
   Calls Tryz.prog 7 #[lpP lp, .int .i64 x, wantV t m] w fun E w' => E = AskE (askS haddT fitsT s x t m) ∧ LA w0 F lp (askS haddT fitsT s x t m).1 (k + 1000000) R w' := by
 obtain ⟨M, rfl, h2, h3, h4⟩ := h
 exact (ask_fr (m := m) h4 h2 hg (hg.xw x hx) (hg.dw t ht) (by omega)).mono fun E w' ⟨M', e1, e2, e3, e4, e5⟩ => ⟨e1, M', e3, e2, by omega, e5⟩
theorem LA.cancel (h : LA w0 F lp s k R w) (hg : Good X D s) {x : Int} (hx : x ∈ X) (hk : k < 4000000000000000000) :
   Calls Tryz.prog 10 #[lpP lp, .int .i64 x] w fun E w' => ∃ v, E = .returned v ∧ LA w0 F lp (cancelS haddT s x).1 (k + 1000000) (rowIC v (cancelS haddT s x).2 :: R) w' := by
 obtain ⟨M, rfl, h2, h3, h4⟩ := h
 exact (cancel_fr h4 h2 hg (hg.xw x hx) (by omega)).mono fun E w' ⟨M', v, e1, e2, e3, e4, e5⟩ => ⟨v, e1, M', e3, e2, by omega, by rw [List.append_assoc] at e5; exact e5⟩
theorem LA.release (h : LA w0 F lp s k R w) (hg : Good X D s) {x : Int} (hx : x ∈ X) (hk : k < 4000000000000000000) :
   Calls Tryz.prog 12 #[lpP lp, .int .i64 x] w fun E w' => ∃ v, E = .returned v ∧ LA w0 F lp (releaseS haddT s x).1 (k + 1000000) (rowIC v (releaseS haddT s x).2 :: R) w' := by
 obtain ⟨M, rfl, h2, h3, h4⟩ := h
 exact (release_fr h4 h2 hg (hg.xw x hx) (by omega)).mono fun E w' ⟨M', v, e1, e2, e3, e4, e5⟩ => ⟨v, e1, M', e3, e2, by omega, by rw [List.append_assoc] at e5; exact e5⟩
theorem LA.blockers (h : LA w0 F lp s k R w) (hg : Good X D s) {x : Int} (hx : x ∈ X) (hk : k < 4000000000000000000) :
   Calls Tryz.prog 19 #[lpP lp, .int .i64 x] w fun E w' => ∃ v, E = .returned v ∧ LA w0 F lp s (k + 1000000) (rowIC v (blockS srtI s x) :: R) w' := by
 obtain ⟨M, rfl, h2, h3, h4⟩ := h
 exact (blockers_fr h4 h2 hg (hg.xw x hx) (by omega)).mono fun E w' ⟨M', v, e1, e2, e3, e4, e5⟩ => ⟨v, e1, M', e3, e2, by omega, by rw [List.append_assoc] at e5; exact e5⟩
theorem LA.mode (h : LA w0 F lp s k R w) (hg : Good X D s) (x : Int) {t : S32} (ht : wfT t) :
   Calls Tryz.prog 21 #[lpP lp, .int .i64 x, thgV t] w fun E w' => E = .returned (.int .i64 (modeD s x t)) ∧ LA w0 F lp s k R w' := by
 obtain ⟨M, rfl, h2, h3, h4⟩ := h
 exact (mode_fr h4 h2 hg ht).mono fun E w' ⟨e1, e2⟩ => ⟨e1, M, rfl, h2, h3, e2⟩
theorem LA.state (h : LA w0 F lp s k R w) (hg : Good X D s) {t : S32} (ht : wfT t) :
   Calls Tryz.prog 17 #[lpP lp, thgV t] w fun E w' => ∃ v, E = .returned v ∧ LA w0 F lp s k (rowHC v (stateL (s.rows t)) :: R) w' := by
 obtain ⟨M, rfl, h2, h3, h4⟩ := h
 exact (state_fr h4 h2 hg ht).mono fun E w' ⟨v, e1, e2⟩ => ⟨v, e1, M, rfl, h2, h3, by rw [List.append_assoc] at e2; exact e2⟩
theorem LA.things (h : LA w0 F lp s k R w) (hg : Good X D s) {x : Int} (hx : wfI x) :
   Calls Tryz.prog 23 #[lpP lp, .int .i64 x] w fun E w' => ∃ v, E = .returned v ∧ LA w0 F lp s k (rowTC v (s.held x) :: R) w' := by
 obtain ⟨M, rfl, h2, h3, h4⟩ := h
 exact (things_fr h4 h2 hx (by have := (hg.ok.held x).2; have := hg.dl; omega)).mono fun E w' ⟨v, e1, e2⟩ => ⟨v, e1, M, rfl, h2, h3, e2.perm List.perm_middle.symm⟩
end
theorem ask_e {q : LS S32 × Bool × Ans} {b : Bool} {a : Ans} (h : q.2 = (b, a)) : AskE q = .returned (.tuple #[.bool b, .int .i64 (errC a)]) := by
 unfold AskE
 rw [h]
theorem row24 (w : World) (k : ByteArray) : Calls Tryz.prog 25 #[.string k] w fun E w' => E = .returned (.agg #[.int .i64 4, .string ⟨#[116]⟩, .string k]) ∧ Below w.heap.size w w' := interlocklaw11_row.calls k 4 ⟨#[116]⟩ k w rfl
theorem good0 : Good [1, 2, 3] [tk] (LS.new : LS S32) := Good.new (by decide) (by decide) (fun x hx => by
 simp only [List.mem_cons, List.not_mem_nil, or_false] at hx
 rcases hx with rfl | rfl | rfl <;> (unfold wfI; decide)) (fun t ht => by
 rw [List.mem_singleton] at ht
 subst ht
 unfold wfT wfI
 exact ⟨by decide, by decide, by decide⟩)
set_option maxHeartbeats 4000000 in
theorem alive_calls (w : World) : Calls Tryz.prog 4 #[] w fun E w' => E = .returned (.bool true) ∧ Below w.heap.size w w' := by
 obtain ⟨Q, hQ⟩ : ∃ Q, (fun E w' => E = Ending.returned (.bool true) ∧ Below w.heap.size w w') = Q := ⟨_, rfl⟩
 have HQ := Aside0.mk hQ
 rw [hQ]
 have hu25 := Tryz.underlying25
 have hu31 := Tryz.underlying34
 have hu29 := Tryz.underlying32
 have hu39 := Tryz.underlying41
 have hu34 := Tryz.underlying46
 have g0 := good0
 have g1 : Good [1, 2, 3] [tk] a1.1 := g0.ask 3 (by simp) (by simp)
 have g2 : Good [1, 2, 3] [tk] a2.1 := g1.ask 6 (by simp) (by simp)
 have g3 : Good [1, 2, 3] [tk] a3.1 := g2.ask 3 (by simp) (by simp)
 have A17a := Aside0.mk (fun W lp (h : LA w NoF lp LS.new 0 [] W) => h.ask g0 3 (by simp) (List.mem_singleton.2 rfl) (by decide) (x := 1) (t := tk))
 have A17b := Aside0.mk (fun W lp (h : LA w NoF lp a1.1 1000000 [] W) => h.ask g1 6 (by simp) (List.mem_singleton.2 rfl) (by decide) (x := 2) (t := tk))
 have A17c := Aside0.mk (fun W lp (h : LA w NoF lp a2.1 2000000 [] W) => h.ask g2 3 (by simp) (List.mem_singleton.2 rfl) (by decide) (x := 3) (t := tk))
 have A16 := Aside0.mk (fun W lp (h : LA w NoF lp a3.1 3000000 [] W) => h.blockers g3 (by simp) (by decide) (x := 3))
 have A21 := Aside0.mk (fun W lp (h : LA w NoF lp a3.1 4000000 [] W) => h.release g3 (by simp) (by decide) (x := 1))
 have A14 := Aside0.mk (fun W lp (h : LA w NoF lp (releaseS haddT a3.1 1).1 5000000 [] W) => h.state (g3.release 1) (t := tk) (good0.dw tk (List.mem_singleton.2 rfl)))
 simp only [show askS haddT fitsT LS.new 1 tk 3 = a1 from rfl, ask_e a1_is] at A17a
 simp only [show askS haddT fitsT a1.1 2 tk 6 = a2 from rfl, ask_e a2_is] at A17b
 simp only [show askS haddT fitsT a2.1 3 tk 3 = a3 from rfl, ask_e a3_is] at A17c
 rw [a3_blk] at A16
 rw [a3_rel] at A21
 unfold lpP wantV errC at A17a A17b A17c
 unfold lpP at A16 A21
 unfold lpP thgV at A14
 clear hQ g0 g1 g2 g3
 have G1 : True := trivial
 have G2 : True := trivial
 have G3 : True := trivial
 have G4 : True := trivial
 have G5 : True := trivial
 have G6 : True := trivial
 have G7 : True := trivial
 have G8 : True := trivial
 have G9 : True := trivial
 have G10 : True := trivial
 have G11 : True := trivial
 have G12 : True := trivial
 go_enter Tryz.func4, Tryz.ntmps4
 go_wp2_with (first
   | (clear G1; go_at_call 6; refine (LA.new (R := []) (St.nil0 w NoF)).mono ?_; rintro E w1 ⟨lp, rfl, h⟩; have HS1 := Aside0.mk h; clear h; unfold lpP)
   | (clear G2; go_at_call 25; refine (row24 _ _).mono ?_; rintro E w2 ⟨rfl, hb⟩; have HS2 := Aside0.mk (HS1.out.below hb); clear hb HS1)
   | (clear G3; go_at_call 7; refine (A17a.out _ _ HS2.out).mono ?_; rintro E w3 ⟨rfl, h⟩; have HS3 := Aside0.mk h; clear h HS2)
   | (clear G4; go_at_call 25; refine (row24 _ _).mono ?_; rintro E w4 ⟨rfl, hb⟩; have HS4 := Aside0.mk (HS3.out.below hb); clear hb HS3)
   | (clear G5; go_at_call 7; refine (A17b.out _ _ HS4.out).mono ?_; rintro E w5 ⟨rfl, h⟩; have HS5 := Aside0.mk h; clear h HS4)
   | (clear G6; go_at_call 25; refine (row24 _ _).mono ?_; rintro E w6 ⟨rfl, hb⟩; have HS6 := Aside0.mk (HS5.out.below hb); clear hb HS5)
   | (clear G7; go_at_call 7; refine (A17c.out _ _ HS6.out).mono ?_; rintro E w7 ⟨rfl, h⟩; have HS7 := Aside0.mk h; clear h HS6)
   | (clear G8; go_at_call 19; refine (A16.out _ _ HS7.out).mono ?_; rintro E w8 ⟨v, rfl, h⟩; have HS8 := Aside0.mk h; clear h HS7)
   | (clear G9; go_at_call 9; have h := (HS8.out.alloc #[.int .i64 2] 3 rfl); refine (sameints_calls _ v _ [2] [2] (h.rest.rowX 0 rfl) (lit_row (h.rest.blk 1 rfl)) (by decide) (by decide)).mono ?_; rintro E w9 ⟨rfl, hb⟩; have HS9 := Aside0.mk (LA.drop (R := [_, _]) (R' := []) (h.below hb)); clear h hb HS8)
   | (clear G10; go_at_call 12; refine (A21.out _ _ HS9.out).mono ?_; rintro E w10 ⟨u, rfl, h⟩; have HS10 := Aside0.mk h; clear h HS9)
   | (clear G11; go_at_call 9; have h := (HS10.out.alloc #[.int .i64 2] 3 rfl); refine (sameints_calls _ u _ [2] [2] (h.rest.rowX 0 rfl) (lit_row (h.rest.blk 1 rfl)) (by decide) (by decide)).mono ?_; rintro E w11 ⟨rfl, hb⟩; have HS11 := Aside0.mk (LA.drop (R := [_, _]) (R' := []) (h.below hb)); clear h hb HS10)
   | (clear G12; go_at_call 25; refine (row24 _ _).mono ?_; rintro E w12 ⟨rfl, hb⟩; have HS12 := Aside0.mk (HS11.out.below hb); clear hb HS11)
   | (go_at_call 17; refine (A14.out _ _ HS12.out).mono ?_; rintro E w13 ⟨z, rfl, h⟩; obtain ⟨A, c, rfl⟩ := (h.rest.rowX 0 rfl).form; rw [a3_len] at h ⊢; have HS13 := Aside0.mk h; clear h HS12))
 rw [← HQ.out]
 exact ⟨rfl, keep_below HS13.out.rest.keep⟩
end Go.Proofs.Kb
end
section
namespace Go.Proofs.Kb
open Go Go.RowKit Go.Proofs.YtkcjcdkmdooofaaGreat.Q Go.Proofs.YtkcjcdkmdooofaaGreatW.PrintWords Go.Proofs.YtkcjcdkmdooofaaGreatW.PrintLast Go.Proofs.YtkcjcdkmdooofaaGreatW.PrintMore
set_option maxRecDepth 100000
open Go.Proofs.Lk Go.Proofs.Mp
theorem St.putAll {w0 w : World} {F : Nat → Prop} {cs : List Chunk} {b : Nat} {C : Array Value} {t : TypeId} (s : St w0 F w cs) (i : Nat) (hi : cs[i]? = some (blkC b (.cells C t (0, 0)))) (vs : List Value) (hl : C.size = vs.length) :
   St w0 F (puts w b 0 vs) (cs.set i (blkC b (.cells vs.toArray t (0, 0)))) := by
 obtain ⟨C', h1, h2⟩ := puts_heap vs 0 w b t C (s.blk i hi)
 have h3 : C' = vs.toArray := by
   rw [← Array.toList_inj, h2]
   have := setL_head vs C.toList [] (by simpa using hl)
   rw [List.append_nil, List.append_nil] at this
   exact this
 rw [h3] at h1
 exact s.upd i hi (blkC b (.cells vs.toArray t (0, 0))) (puts_keep vs 0 w b _ (by simp [blkC])) h1 (nd_one b) (fun x hx => .inl hx)
def modeW (r : LRow) (x : Int) : Int := ((r.waits.find? fun o => o.1 == x).map (·.2)).getD 0
def waitV (s : LS S32) (x : Int) : Value := match s.waits x with | none => .agg #[.int .i64 0, .string ⟨#[]⟩, .string ⟨#[]⟩, .int .i64 0] | some t => wantV t (modeW (s.rows t) x)
def Waiting23 (w : World) (F : Nat → Prop) (M : LM) (s : LS S32) (x : Int) (E : Ending) (w' : World) : Prop :=
 ∃ M', E = .returned (.tuple #[waitV s x, .bool (s.waits x).isSome]) ∧ Rep M' s ∧ M'.lp = M.lp ∧ M'.tot ≤ M.tot + 1 ∧ St w F w' (lk M')
set_option maxHeartbeats 4000000 in
theorem waiting_calls (w : World) (M : LM) (s : LS S32) (x : Int) (F : Nat → Prop) (N : Nat) (hs : St w F w (lk M)) (hr : Rep M s) (hI : LInv s) (hx : wfI x) (hok : OkS N s) (hn : M.tot < 4000000000000000000) :
   Calls Tryz.prog 14 #[lpV M, .int .i64 x] w (Waiting23 w F M s x) := by
 obtain ⟨R, hR⟩ : ∃ R, Waiting23 w F M s x = R := ⟨_, rfl⟩
 have HR := Aside0.mk hR
 rw [hR]
 have hu55 := Tryz.underlying52
 have hu56 := Tryz.underlying53
 have hu59 := Tryz.underlying56
 have hu64 := Tryz.underlying67
 have hu62 := Tryz.underlying65
 have hu66 := Tryz.underlying63
 have hu29 := Tryz.underlying32
 have hu31 := Tryz.underlying34
 have hz29 := Tryz.sizeOf32
 have hz31 := Tryz.sizeOf34
 obtain ⟨n4, hn4⟩ : ∃ n, w.heap.size = n := ⟨_, rfl⟩
 have hs4 := hs.alloc #[.int .i64 0, .string ⟨#[]⟩, .string ⟨#[]⟩, .int .i64 0] 34 hn4
 obtain ⟨W4, hW4⟩ : ∃ W, w.alloc (.cells #[.int .i64 0, .string ⟨#[]⟩, .string ⟨#[]⟩, .int .i64 0] 34) = W := ⟨_, rfl⟩
 rw [hW4] at hs4
 obtain ⟨c0, c1, c2, hlp⟩ := hs4.lpAt 0 rfl
 have hlk := lookW hs4 hr hx
 have b0 := (blk_cell (hs4.blk 6 rfl) 0).trans rfl
 have b1 := (blk_cell (hs4.blk 6 rfl) 1).trans rfl
 have b2 := (blk_cell (hs4.blk 6 rfl) 2).trans rfl
 have b3 := (blk_cell (hs4.blk 6 rfl) 3).trans rfl
 have bf : ∀ j, W4.frozen? ⟨n4, j, none⟩ = false := fun j => frozen_of_row W4 n4 j _ _ (hs4.blk 6 rfl)
 have bl4 := lt_of_some (hs4.blk 6 rfl)
 unfold lpV
 cases hw : s.waits x with
 | none =>
   rw [hw] at hlk
   simp only [Option.map, Option.getD, Option.isSome] at hlk
   have HS := Aside0.mk hs4
   have HREP := Aside0.mk hr
   have HW := Aside0.mk hw
   clear hR hs hs4 hr hI hx hok hn hw
   go_enter Tryz.func14, Tryz.ntmps14
   go_wp2
   obtain ⟨W9, hW9⟩ : ∃ W9, (puts W4 n4 0 [.int .i64 0, .string ⟨#[]⟩, .string ⟨#[]⟩, .int .i64 0]).alloc (.cells #[.int .i64 0, .string ⟨#[]⟩, .string ⟨#[]⟩] 32) = W9 := ⟨_, rfl⟩
   have h9 := (HS.out.putAll 6 rfl [.int .i64 0, .string ⟨#[]⟩, .string ⟨#[]⟩, .int .i64 0] rfl).alloc #[.int .i64 0, .string ⟨#[]⟩, .string ⟨#[]⟩] 32 rfl
   show bodyPost _ _ _ _ _ ((puts W4 n4 0 [.int .i64 0, .string ⟨#[]⟩, .string ⟨#[]⟩, .int .i64 0]).alloc (.cells #[.int .i64 0, .string ⟨#[]⟩, .string ⟨#[]⟩] 32))
   rw [hW9] at h9 ⊢
   have p0 := (blk_cell (h9.blk 6 rfl) 0).trans rfl
   have p1 := (blk_cell (h9.blk 6 rfl) 1).trans rfl
   have p2 := (blk_cell (h9.blk 6 rfl) 2).trans rfl
   have p3 := (blk_cell (h9.blk 6 rfl) 3).trans rfl
   have hfin : Waiting23 w F M s x (.returned (.tuple #[.agg #[.int .i64 0, .string ⟨#[]⟩, .string ⟨#[]⟩, .int .i64 0], .bool false])) W9 :=
     ⟨M, by unfold waitV; rw [HW.out]; rfl, HREP.out, rfl, Nat.le_succ _, St.left (A := lk M) h9⟩
   rw [HR.out] at hfin
   clear hlk c0 c1 c2 hlp b0 b1 b2 b3 bf bl4 hW9
   refine bodyPost_ret (v := .tuple #[.agg #[.int .i64 0, .string ⟨#[]⟩, .string ⟨#[]⟩, .int .i64 0], .bool false]) ?_ rfl hfin
   rw [results_cell_tmp rfl]
   go_simp
   try rfl
 | some t =>
   rw [hw] at hlk
   simp only [Option.map, Option.getD, Option.isSome, thgV] at hlk
   have htw := hok.wt x t hw
   obtain ⟨r0, hr0⟩ : ∃ r0, s.rows t = r0 := ⟨_, rfl⟩
   have hok0 : OkR r0 := hr0 ▸ hok.rows t
   have hha : has r0.waits x = true := hr0 ▸ (hI.ww x t).1 hw
   obtain ⟨i, hfi⟩ : ∃ i, r0.waits.findIdx? (isT x) = some i := by
     cases hc : r0.waits.findIdx? (isT x) with
     | some i => exact ⟨i, rfl⟩
     | none =>
       have := (idx_neg r0.waits x).1 (by unfold idxI; rw [hc]; decide)
       rw [this] at hha
       cases hha
   obtain ⟨hil, hp0, hlow⟩ := List.findIdx?_eq_some_iff_getElem.1 hfi
   have hij : idxI r0.waits (isT x) = i := by unfold idxI; rw [hfi]
   obtain ⟨⟨a, b⟩, ho⟩ : ∃ o, r0.waits[i]? = some o := ⟨_, List.getElem?_eq_getElem hil⟩
   have hmw : modeW r0 x = b := by
     have hg : r0.waits[i] = (a, b) := (List.getElem?_eq_some_iff.1 ho).2
     have : r0.waits.find? (fun o => o.1 == x) = some (a, b) := List.find?_eq_some_iff_getElem.2 ⟨by rw [← hg]; exact hp0, i, hil, hg, fun j hj => by have := hlow j hj; unfold isT at this; simpa using this⟩
     unfold modeW
     rw [this]
     rfl
   have hwv : waitV s x = wantV t b := by
     unfold waitV
     rw [hw]
     dsimp only
     rw [hr0, hmw]
   obtain ⟨nw, hnw⟩ : ∃ n, r0.waits.length = n := ⟨_, rfl⟩
   rw [hnw] at hil
   have hi0 : (0 : Int) ≤ (i : Int) := by omega
   have hi1 : (i : Int) < (nw : Int) := by omega
   obtain ⟨n0, hn0⟩ : ∃ n, W4.heap.size = n := ⟨_, rfl⟩
   have hs0 := hs4.alloc #[.int .i64 t.f0, .string t.f1, .string t.f2] 32 hn0
   obtain ⟨W0, hW0⟩ : ∃ W0, W4.alloc (.cells #[.int .i64 t.f0, .string t.f1, .string t.f2] 32) = W0 := ⟨_, rfl⟩
   rw [hW0] at hs0
   have hs0' : St w F W0 (lk M ++ [blkC n4 (.cells #[.int .i64 0, .string ⟨#[]⟩, .string ⟨#[]⟩, .int .i64 0] 34 (0, 0)), blkC n0 (.cells #[.int .i64 t.f0, .string t.f1, .string t.f2] 32 (0, 0))]) := hs0
   have g0 := (blk_cell (hs0.blk 7 rfl) 0).trans rfl
   have g1 := (blk_cell (hs0.blk 7 rfl) 1).trans rfl
   have g2 := (blk_cell (hs0.blk 7 rfl) 2).trans rfl
   have h05 := lt_of_some (hs0.blk 7 rfl)
   have A28 := Aside0.mk (row_fr (t := t) hs0' hr htw (by simp only [LM.tot] at *; simp only [maxLen]; omega))
   unfold lpV thgV at A28
   have A29 := Aside0.mk (fun W p hv wv (h : RowH W p hv wv r0) => wait_calls W p hv wv r0 x h (by have := hok0.len; omega))
   rw [hij] at A29
   unfold ptr at A29
   have HWV := Aside0.mk hwv
   have HIL := Aside0.mk hil
   have HNW := Aside0.mk hnw
   have HR0 := Aside0.mk hr0
   have HO := Aside0.mk ho
   have HW := Aside0.mk hw
   clear hR hs hs4 hr hI hx hok hok0 hr0 hnw hn hw htw hha hfi hil hij hp0 hlow ho hmw hwv hs0 hs0'
   go_enter Tryz.func14, Tryz.ntmps14
   go_wp2_with (go_at_call 28; refine A28.out.mono ?_; rintro E w2 ⟨M1, X, m, Y, rfl, k1, k2, k3, k4, k5, k6⟩; have HREP1 := Aside0.mk k3; have HLP := Aside0.mk k4; have HTOT := Aside0.mk k5; have hmr : m.r = r0 := ((k2 ▸ k3.rr m (k1 ▸ mem_mid.2 (.inl rfl)) : m.r = s.rows t).trans HR0.out); have hmm : m ∈ M1.rs := k1 ▸ mem_mid.2 (.inl rfl); have HSQ := Aside0.mk k6; clear k1 k2 k3 k4 k5 k6 c0 c1 c2 hlp b0 b1 b2 b3 bf bl4 g0 g1 g2 h05 hlk A28; unfold ptr)
   have hrow : ∀ {W : World} {L : List Chunk}, St w F W (lk M1 ++ L) → RowH W m.p m.hv m.wv r0 := fun h => hmr ▸ ((h.get 4 rfl : ∀ y ∈ M1.rs, RowH _ y.p y.hv y.wv y.r) m hmm)
   obtain ⟨g, c, hwv, _⟩ := (show RowX oneE _ m.wv r0.waits from (hrow HSQ.out).waits).fill (by have := HIL.out; rw [HNW.out]; omega)
   rw [HNW.out] at hwv
   rw [hwv] at hrow
   have HROW := Aside0.mk @hrow
   clear hmr hmm hrow hwv
   refine start_ (n := 14) (S := fun w' => w'.cell? ⟨n0, 0, none⟩ = some (.int .i64 t.f0) ∧ w'.cell? ⟨n0, 1, none⟩ = some (.string t.f1) ∧ w'.cell? ⟨n0, 2, none⟩ = some (.string t.f2) ∧ w'.cell? ⟨m.p, 1, none⟩ = some (.slice (some ⟨g, 0, none⟩) nw c) ∧ w'.cell? ⟨g, i * 2 + 1, none⟩ = some (.int .i64 b)) (ds := [12]) #[false, false, false, false, false, false, false, false, false, false, false, false, false, false] (by kernel_rfl) rfl rfl ⟨(blk_cell (HSQ.out.blk 7 rfl) 0).trans rfl, (blk_cell (HSQ.out.blk 7 rfl) 1).trans rfl, (blk_cell (HSQ.out.blk 7 rfl) 2).trans rfl, (HROW.out HSQ.out).c1, ((show RowX oneE _ (.slice (some ⟨g, 0, none⟩) nw c) r0.waits from (HROW.out HSQ.out).waits).ones HO.out).2⟩ (fun hHeld => ?_)
   have HS1 := Aside0.mk (HSQ.out.drew)
   clear HSQ
   generalize w2.drew = w3 at HS1 hHeld  ⊢
   refine pu_ 1 25 (bs_ 14 2) ?_; refine pu_ 2 26 (bs_ 14 6) ?_; refine pu_ 3 27 (bs_ 14 14) ?_; refine pu_ 5 29 (bs_ 14 46) ?_; refine pu_ 6 30 (bs_ 14 110) ?_; refine ta_ 0 24 (bs_ 14 111) hHeld ?_; refine ta_ 4 28 (bs_ 14 127) hHeld ?_
   refine one_ (i := 7) (N := (some 31)) (bs_ 14 255) rfl rfl (by kernel_rfl) (by decide) (fun K_ hK => ?_)
   refine goes_ Tryz.func43 (by kernel_rfl) rfl #[.pointer (some ⟨m.p, 0, none⟩), .int .i64 x] (by rfl) rfl rfl (by (try simp only [List.map_toArray, List.map_cons, List.map_nil]); first | done | rfl) ?_
   refine (A29.out _ _ _ _ (HROW.out HS1.out)).mono ?_
   rintro E w4 ⟨rfl, hbq⟩
   have HS2 := Aside0.mk (HS1.out.below hbq)
   clear HS1
   clear hbq
   refine ⟨_, rfl, ?_⟩
   clear hHeld
   refine hK.out _ _ ⟨(blk_cell (HS2.out.blk 7 rfl) 0).trans rfl, (blk_cell (HS2.out.blk 7 rfl) 1).trans rfl, (blk_cell (HS2.out.blk 7 rfl) 2).trans rfl, (HROW.out HS2.out).c1, ((show RowX oneE _ (.slice (some ⟨g, 0, none⟩) nw c) r0.waits from (HROW.out HS2.out).waits).ones HO.out).2⟩ (fun hHeld => ?_)
   clear hK K_
   refine norm_ (a' := ?_) ?_ ?_
   rotate_left
   · show Act.put _ (some 31) _ = _
     simp only [Act.put, List.setIfInBounds_toArray, List.set_cons_zero, List.set_cons_succ, i64_w, i32_w]
     rfl
   refine pu_ 8 32 (bs_ 14 511) ?_; refine pu_ 9 33 (bs_ 14 1023) ?_; refine ta_ 10 34 (bs_ 14 2047) hHeld ?_; refine pu_ 11 35 (bs_ 14 4095) ?_
   refine last_ (i := 12) (N := none) (bs_ 14 8191) rfl rfl (by kernel_rfl) (by decide) (fun K_ hK => ?_)
   have c_0 := (blk_cell (HS2.out.blk 6 rfl) 0).trans rfl
   have c_1 := (blk_cell (HS2.out.blk 6 rfl) 1).trans rfl
   have c_2 := (blk_cell (HS2.out.blk 6 rfl) 2).trans rfl
   have c_3 := (blk_cell (HS2.out.blk 6 rfl) 3).trans rfl
   have c_4 := (fun j => frozen_of_row _ n4 j _ _ (HS2.out.blk 6 rfl))
   refine skip_ (w1 := ?_) (by rfl) rfl ?_ ?_
   rotate_left
   · go_simp
     rfl
   refine hK.out _ _ ?_
   clear hK K_ hHeld c_0 c_1 c_2 c_3 c_4
   refine pu_ 13 5 (bs_ 14 16383) ?_
   refine done_ (by kernel_rfl) ?_
   have HS3 := Aside0.mk (show St w F ((((w4.setCell ⟨n4, 0, none⟩ (.int .i64 t.f0)).setCell ⟨n4, 1, none⟩ (.string t.f1)).setCell ⟨n4, 2, none⟩ (.string t.f2)).setCell ⟨n4, 3, none⟩ (.int .i64 b)) (lk M1 ++ [blkC n4 (.cells #[.int .i64 t.f0, .string t.f1, .string t.f2, .int .i64 b] 34 (0, 0)), blkC n0 _]) from HS2.out.putAll 6 rfl [.int .i64 t.f0, .string t.f1, .string t.f2, .int .i64 b] rfl)
   clear HS2
   generalize hW9_ : ((((w4.setCell ⟨n4, 0, none⟩ (.int .i64 t.f0)).setCell ⟨n4, 1, none⟩ (.string t.f1)).setCell ⟨n4, 2, none⟩ (.string t.f2)).setCell ⟨n4, 3, none⟩ (.int .i64 b)) = w5 at HS3 ⊢
   clear hW9_
   go_wp2
   have p0 := (blk_cell (HS3.out.blk 6 rfl) 0).trans rfl
   have p1 := (blk_cell (HS3.out.blk 6 rfl) 1).trans rfl
   have p2 := (blk_cell (HS3.out.blk 6 rfl) 2).trans rfl
   have p3 := (blk_cell (HS3.out.blk 6 rfl) 3).trans rfl
   have hfin : Waiting23 w F M s x (.returned (.tuple #[.agg #[.int .i64 t.f0, .string t.f1, .string t.f2, .int .i64 b], .bool true])) w5 :=
     ⟨M1, by rw [HWV.out, HW.out]; rfl, HREP1.out, HLP.out, HTOT.out, St.left (A := lk M1) HS3.out⟩
   rw [HR.out] at hfin
   refine bodyPost_ret (v := .tuple #[.agg #[.int .i64 t.f0, .string t.f1, .string t.f2, .int .i64 b], .bool true]) ?_ rfl hfin
   rw [results_cell_tmp rfl]
   go_simp
   try rfl
end Go.Proofs.Kb
end
section
namespace Go.Proofs.Kb
open Go Go.RowKit Go.Proofs.YtkcjcdkmdooofaaGreat.Q Go.Proofs.YtkcjcdkmdooofaaGreatW.PrintWords Go.Proofs.YtkcjcdkmdooofaaGreatW.PrintLast Go.Proofs.YtkcjcdkmdooofaaGreatW.PrintMore
set_option maxRecDepth 100000
open Go.Proofs.Lk Go.Proofs.Mp
section
variable {w0 w w' : World} {F : Nat → Prop} {R R' : List Chunk} {lp k : Nat} {s : LS S32} {X : List Int} {D : List S32}
theorem LA.waiting (h : LA w0 F lp s k R w) (hg : Good X D s) {x : Int} (hx : x ∈ X) (hk : k < 4000000000000000000) :
   Calls Tryz.prog 14 #[lpP lp, .int .i64 x] w fun E w' => E = .returned (.tuple #[waitV s x, .bool (s.waits x).isSome]) ∧ LA w0 F lp s (k + 1000000) R w' := by
 obtain ⟨M, rfl, h2, h3, h4⟩ := h
 exact (waiting_calls w M s x _ D.length (St.sub h4) h2 hg.inv (hg.xw x hx) hg.ok (by omega)).mono fun E w' ⟨M', e1, e2, e3, e4, e5⟩ => ⟨e1, M', e3, e2, by omega, St.call h4 e5⟩
end
end Go.Proofs.Kb
end
section
namespace Go.Proofs.Lk
section
variable {α : Type} [DecidableEq α]
structure AInv (x : Int) (s : LS α) : Prop where
 inv : LInv s
 one : ∀ t y, pres s t y → y = x
 nw : ∀ t, (s.rows t).waits = []
variable {hadd : List α → α → List α} {fits : α → Bool} (ha : ∀ ls x y, y ∈ hadd ls x ↔ y = x ∨ y ∈ ls)
theorem AInv.none {x : Int} {s : LS α} (h : AInv x s) : s.waits x = none := by
 cases hw : s.waits x with
 | none => rfl
 | some t =>
   have := (h.inv.ww x t).1 hw
   rw [h.nw t] at this
   cases this
include ha
end
end Go.Proofs.Lk
end
section
namespace Go.Proofs.Lk
section
variable {α : Type} [DecidableEq α]
end
end Go.Proofs.Lk
end
section
namespace Go.Proofs.Lk
section
variable {α : Type} [DecidableEq α] {hadd : List α → α → List α} {fits : α → Bool}
end
end Go.Proofs.Lk
end
section
namespace Go.Proofs.Lk
section
variable {α : Type} [DecidableEq α] {hadd : List α → α → List α} {fits : α → Bool} (ha : ∀ ls x y, y ∈ hadd ls x ↔ y = x ∨ y ∈ ls) (zz : α → Bool) (N : Int)
structure AG (l m : LS α) : Prop where
 rw' : ∀ t, zz t = false → l.rows t = m.rows t
 w : ∀ x, x < N → l.waits x = m.waits x
 h : ∀ x, x < N → l.held x = m.held x
structure AP (l m : LS α) : Prop where
 ag : AG zz N l m
 il : LInv l
 im : LInv m
 pl : ∀ t x, pres l t x → zz t = false ∧ x < N
 pm : ∀ t x, pres m t x → (zz t = false ∧ x < N) ∨ (zz t = true ∧ N ≤ x)
variable {zz N}
theorem AG.refl (s : LS α) : AG zz N s s := ⟨fun _ _ => rfl, fun _ _ => rfl, fun _ _ => rfl⟩
theorem AG.trans {a b c : LS α} (h : AG zz N a b) (k : AG zz N b c) : AG zz N a c := ⟨fun t ht => (h.rw' t ht).trans (k.rw' t ht), fun x hx => (h.w x hx).trans (k.w x hx), fun x hx => (h.h x hx).trans (k.h x hx)⟩
include ha
end
end Go.Proofs.Lk
end
section
namespace Go.Proofs.Lk
section
variable {α : Type} [DecidableEq α]
structure RS (α : Type) where
 holds : List (α × One)
 waits : List (α × One)
def part (t : α) (l : List (α × One)) : List One := (l.filter fun o => decide (o.1 = t)).map (·.2)
theorem part_app (t : α) (a b : List (α × One)) : part t (a ++ b) = part t a ++ part t b := by simp [part]
theorem part_cons (t : α) (o : α × One) (l : List (α × One)) : part t (o :: l) = if o.1 = t then o.2 :: part t l else part t l := by
 unfold part
 rw [List.filter_cons]
 by_cases h : o.1 = t <;> simp [h]
theorem mem_part {t : α} {l : List (α × One)} {o : One} : o ∈ part t l ↔ (t, o) ∈ l := by
 unfold part
 rw [List.mem_map]
 constructor
 · rintro ⟨p, hp, rfl⟩
   obtain ⟨h1, h2⟩ := List.mem_filter.1 hp
   have h2 : p.1 = t := by simpa using h2
   rw [← h2]
   exact h1
 · intro h
   exact ⟨(t, o), List.mem_filter.2 ⟨h, by simp⟩, rfl⟩
def rowOf (r : RS α) (t : α) : LRow := ⟨part t r.holds, part t r.waits⟩
def rcan (r : RS α) (x : Int) (t : α) (m : Int) (p : Nat) : Bool :=
 !(r.holds.any fun o => decide (o.1 = t) && (o.2.1 != x && conf o.2.2 m)) && !((r.waits.take p).any fun o => decide (o.1 = t) && conf o.2.2 m)
theorem part_any (t : α) (l : List (α × One)) (p : One → Bool) : (l.any fun o => decide (o.1 = t) && p o.2) = (part t l).any p := by
 induction l with
 | nil => rfl
 | cons o l ih =>
   rw [List.any_cons, part_cons, ih]
   by_cases h : o.1 = t <;> simp [h]
def ahead (r : RS α) (t : α) (p : Nat) : Nat := (part t (r.waits.take p)).length
theorem part_take (r : RS α) (t : α) (p : Nat) : part t (r.waits.take p) = (part t r.waits).take (ahead r t p) := by
 have e : part t r.waits = part t (r.waits.take p) ++ part t (r.waits.drop p) := by rw [← part_app, List.take_append_drop]
 rw [e, List.take_left']
 rfl
theorem rcan_raw (r : RS α) (x : Int) (t : α) (m : Int) (p : Nat) (hx : ∀ o ∈ part t (r.waits.take p), o.1 ≠ x) : rcan r x t m p = true ↔ rawB (rowOf r t) (x, m) (ahead r t p) = [] := by
 unfold rcan
 rw [part_any t r.holds (fun o => o.1 != x && conf o.2 m), part_any t (r.waits.take p) (fun o => conf o.2 m), Bool.and_eq_true, Bool.not_eq_true', Bool.not_eq_true', List.any_eq_false, List.any_eq_false]
 constructor
 · rintro ⟨h1, h2⟩
   cases hr : rawB (rowOf r t) (x, m) (ahead r t p) with
   | nil => rfl
   | cons y l =>
     have hy : y ∈ rawB (rowOf r t) (x, m) (ahead r t p) := by rw [hr]; simp
     obtain ⟨w, hw, rfl, h3, h4⟩ := mem_rawB.1 hy
     rcases List.mem_append.1 hw with hw | hw
     · have := h1 w hw
       simp [h3, h4] at this
     · have hw : w ∈ (part t r.waits).take (ahead r t p) := hw
       rw [← part_take] at hw
       have := h2 w hw
       simp [h4] at this
 · intro hr
   refine ⟨fun o ho => ?_, fun o ho => ?_⟩
   · intro hc
     rw [Bool.and_eq_true] at hc
     have : o.1 ∈ rawB (rowOf r t) (x, m) (ahead r t p) := mem_rawB.2 ⟨o, List.mem_append_left _ ho, rfl, by simpa using hc.1, hc.2⟩
     rw [hr] at this
     cases this
   · intro hc
     have ho2 : o ∈ (rowOf r t).waits.take (ahead r t p) := by
       show o ∈ (part t r.waits).take (ahead r t p)
       rw [← part_take]
       exact ho
     have : o.1 ∈ rawB (rowOf r t) (x, m) (ahead r t p) := mem_rawB.2 ⟨o, List.mem_append_right _ ho2, rfl, hx o ho, hc⟩
     rw [hr] at this
     cases this
def rgiveL (t : α) (o : One) : List (α × One) → List (α × One)
 | [] => [(t, o)]
 | p :: l => if p.1 = t ∧ p.2.1 = o.1 then (t, o) :: l else p :: rgiveL t o l
theorem rgive_other {t u : α} (h : u ≠ t) (o : One) : ∀ (l : List (α × One)), part u (rgiveL t o l) = part u l
 | [] => by rw [rgiveL, part_cons, if_neg (fun e => h e.symm)]
 | p :: l => by
   rw [rgiveL]
   split
   · rename_i hp
     rw [part_cons, part_cons, if_neg (fun e => h e.symm), if_neg (fun e => h (by rw [← e, hp.1]))]
   · rw [part_cons, part_cons, rgive_other h o l]
theorem give_map {l : List One} {o : One} (h : has l o.1 = false) : (l.map fun h => if (h.1 == o.1) = true then o else h) = l := by
 induction l with
 | nil => rfl
 | cons x l ih =>
   have hx : x.1 ≠ o.1 := fun e => by
     rw [has_iff.2 ⟨x, by simp, e⟩] at h
     cases h
   have hl : has l o.1 = false := by
     cases hh : has l o.1 with
     | false => rfl
     | true =>
       obtain ⟨w, hw, e⟩ := has_iff.1 hh
       rw [has_iff.2 ⟨w, List.mem_cons_of_mem _ hw, e⟩] at h
       cases h
   rw [List.map_cons, ih hl, if_neg (by simpa using hx)]
theorem give_cons_eq {x o : One} {l : List One} (h : x.1 = o.1) (hn : has l o.1 = false) : give (x :: l) o = o :: l := by
 unfold give
 rw [if_pos (has_iff.2 ⟨x, by simp, h⟩), List.map_cons, if_pos (by simpa using h), give_map hn]
theorem give_cons_ne {x o : One} {l : List One} (h : x.1 ≠ o.1) : give (x :: l) o = x :: give l o := by
 have e : has (x :: l) o.1 = has l o.1 := by
   unfold has
   rw [List.any_cons]
   simp [h]
 unfold give
 rw [e]
 split
 · rw [List.map_cons, if_neg (by simpa using h)]
 · rfl
theorem rgive_same (t : α) (o : One) : ∀ (l : List (α × One)), ((part t l).map (·.1)).Nodup → part t (rgiveL t o l) = give (part t l) o
 | [], _ => by rw [rgiveL, part_cons, if_pos rfl]; rfl
 | p :: l, hn => by
   rw [part_cons] at hn
   rw [rgiveL]
   by_cases h1 : p.1 = t
   · rw [if_pos h1, List.map_cons, List.nodup_cons] at hn
     by_cases h2 : p.2.1 = o.1
     · rw [if_pos ⟨h1, h2⟩, part_cons, if_pos rfl, part_cons, if_pos h1, give_cons_eq h2]
       cases hh : has (part t l) o.1 with
       | false => rfl
       | true =>
         obtain ⟨w, hw, e⟩ := has_iff.1 hh
         exact absurd (List.mem_map.2 ⟨w, hw, by rw [e, h2]⟩) hn.1
     · rw [if_neg (fun e => h2 e.2), part_cons, if_pos h1, part_cons, if_pos h1, give_cons_ne h2, rgive_same t o l hn.2]
   · rw [if_neg h1] at hn
     rw [if_neg (fun e => h1 e.1), part_cons, if_neg h1, part_cons, if_neg h1, rgive_same t o l hn]
end
end Go.Proofs.Lk
end
section
namespace Go.Proofs.Lk
section
variable {α : Type} [DecidableEq α]
def rsweepA : Nat → α → RS α → Nat → RS α × List Int
 | 0, t, r, i => (r, [])
 | k + 1, t, r, i => match r.waits[i]? with
   | none => (r, [])
   | some o => if o.1 = t ∧ rcan r o.2.1 t o.2.2 i = true then
       let q := rsweepA k t ⟨rgiveL t o.2 r.holds, r.waits.eraseIdx i⟩ i
       (q.1, o.2.1 :: q.2)
     else rsweepA k t r (i + 1)
theorem split_at {β : Type} {l : List β} {i : Nat} {o : β} (h : l[i]? = some o) : ∃ A B, l = A ++ o :: B ∧ A.length = i := by
 obtain ⟨hi, rfl⟩ := List.getElem?_eq_some_iff.1 h
 exact ⟨l.take i, l.drop (i + 1), by rw [List.getElem_cons_drop, List.take_append_drop], by rw [List.length_take]; omega⟩
theorem ahead_at {r : RS α} {t : α} {A B : List (α × One)} {o : α × One} (e : r.waits = A ++ o :: B) : ahead r t A.length = (part t A).length := by
 unfold ahead
 rw [e, List.take_left']
 rfl
theorem ahead_next {r : RS α} {t : α} {A B : List (α × One)} {o : α × One} (e : r.waits = A ++ o :: B) : ahead r t (A.length + 1) = if o.1 = t then (part t A).length + 1 else (part t A).length := by
 unfold ahead
 rw [e, show A ++ o :: B = (A ++ [o]) ++ B by simp, List.take_left' (by simp), part_app, part_cons]
 by_cases h : o.1 = t <;> simp [h, part]
theorem erase_at {β : Type} (A B : List β) (o : β) : (A ++ o :: B).eraseIdx A.length = A ++ B := by
 rw [List.eraseIdx_append_of_length_le (Nat.le_refl _), Nat.sub_self]
 rfl
theorem rsweepA_row : ∀ (k : Nat) (t : α) (r : RS α) (i k' : Nat), RInv (rowOf r t) → r.waits.length < i + k → (rowOf r t).waits.length < ahead r t i + k' →
   rowOf (rsweepA k t r i).1 t = (sweepA k' (rowOf r t) (ahead r t i)).1 ∧ (rsweepA k t r i).2 = (sweepA k' (rowOf r t) (ahead r t i)).2 ∧ ∀ u, u ≠ t → rowOf (rsweepA k t r i).1 u = rowOf r u
 | 0, t, r, i, k', hr, hk, hk' => by
   have e : ahead r t i = (part t r.waits).length := by unfold ahead; rw [List.take_of_length_le (by omega)]
   obtain ⟨k'', rfl⟩ : ∃ k'', k' = k'' + 1 := ⟨k' - 1, by
     have : (part t r.waits).length < ahead r t i + k' := hk'
     omega⟩
   have e2 : (rowOf r t).waits[ahead r t i]? = none := by
     rw [List.getElem?_eq_none_iff, e]
     exact Nat.le_refl _
   unfold rsweepA sweepA
   rw [e2]
   exact ⟨rfl, rfl, fun _ _ => rfl⟩
 | k + 1, t, r, i, k', hr, hk, hk' => by
   cases ho : r.waits[i]? with
   | none =>
     rw [List.getElem?_eq_none_iff] at ho
     have e : ahead r t i = (part t r.waits).length := by unfold ahead; rw [List.take_of_length_le ho]
     obtain ⟨k'', rfl⟩ : ∃ k'', k' = k'' + 1 := ⟨k' - 1, by
       have : (part t r.waits).length < ahead r t i + k' := hk'
       omega⟩
     have e2 : (rowOf r t).waits[ahead r t i]? = none := by
       rw [List.getElem?_eq_none_iff, e]
       exact Nat.le_refl _
     unfold rsweepA sweepA
     rw [e2, List.getElem?_eq_none_iff.2 ho]
     exact ⟨rfl, rfl, fun _ _ => rfl⟩
   | some o =>
     obtain ⟨A, B, hw, hA⟩ := split_at ho
     subst hA
     have ha := ahead_at (t := t) hw
     have hn := ahead_next (t := t) hw
     have hlen : r.waits.length = A.length + (B.length + 1) := by rw [hw, List.length_append, List.length_cons]
     unfold rsweepA
     rw [ho]
     dsimp only
     by_cases h1 : o.1 = t
     · rw [if_pos h1] at hn
       have hpw : (rowOf r t).waits = part t A ++ o.2 :: part t B := by
         show part t r.waits = _
         rw [hw, part_app, part_cons, if_pos h1]
       have hat : (rowOf r t).waits[ahead r t A.length]? = some o.2 := by
         rw [hpw, ha, List.getElem?_append_right (Nat.le_refl _), Nat.sub_self]
         rfl
       have hal := (List.getElem?_eq_some_iff.1 hat).1
       obtain ⟨k'', rfl⟩ : ∃ k'', k' = k'' + 1 := ⟨k' - 1, by omega⟩
       have hx : ∀ w ∈ part t (r.waits.take A.length), w.1 ≠ o.2.1 := fun w hw2 e => by
         rw [hw, List.take_left' rfl] at hw2
         have hnd := hr.wn
         rw [hpw, List.map_append, List.nodup_append] at hnd
         exact hnd.2.2 w.1 (List.mem_map.2 ⟨w, hw2, rfl⟩) o.2.1 (by simp) e
       have hc := rcan_raw r o.2.1 t o.2.2 A.length hx
       unfold sweepA
       rw [hat]
       dsimp only
       by_cases hcan : rcan r o.2.1 t o.2.2 A.length = true
       · rw [if_pos ⟨h1, hcan⟩, if_pos (hc.1 hcan)]
         have hrow : rowOf (⟨rgiveL t o.2 r.holds, r.waits.eraseIdx A.length⟩ : RS α) t = ⟨give (rowOf r t).holds o.2, (rowOf r t).waits.eraseIdx (ahead r t A.length)⟩ := by
           unfold rowOf
           congr 1
           · exact rgive_same t o.2 r.holds hr.hn
           · show part t (r.waits.eraseIdx A.length) = _
             have e3 : (rowOf r t).waits = part t r.waits := rfl
             rw [hw, erase_at, part_app, ← hw]
             rw [← e3, hpw, ha, erase_at]
         have hah : ahead (⟨rgiveL t o.2 r.holds, r.waits.eraseIdx A.length⟩ : RS α) t A.length = ahead r t A.length := by
           rw [ha]
           unfold ahead
           show (part t ((r.waits.eraseIdx A.length).take A.length)).length = _
           rw [hw, erase_at, List.take_left' rfl]
         have hinv := give_inv hr hat (hc.1 hcan)
         have ih := rsweepA_row k t ⟨rgiveL t o.2 r.holds, r.waits.eraseIdx A.length⟩ A.length k'' (by rw [hrow]; exact hinv) (by
           show (r.waits.eraseIdx A.length).length < _
           rw [List.length_eraseIdx_of_lt (by omega)]
           omega) (by
           rw [hrow, hah]
           show ((rowOf r t).waits.eraseIdx (ahead r t A.length)).length < _
           rw [List.length_eraseIdx_of_lt hal]
           omega)
         rw [hrow, hah] at ih
         refine ⟨ih.1, by show o.2.1 :: _ = o.2.1 :: _; rw [ih.2.1], fun u hu => ?_⟩
         rw [ih.2.2 u hu]
         unfold rowOf
         congr 1
         · exact rgive_other hu o.2 r.holds
         · show part u (r.waits.eraseIdx A.length) = part u r.waits
           rw [hw, erase_at, part_app, part_app, part_cons, if_neg (fun e => hu (e.symm.trans h1))]
       · rw [if_neg (fun h => hcan h.2), if_neg (fun h => hcan (hc.2 h))]
         have ih := rsweepA_row k t r (A.length + 1) k'' hr (by omega) (by rw [hn]; rw [ha] at hk'; omega)
         rw [hn] at ih
         rw [ha]
         exact ih
     · rw [if_neg h1] at hn
       rw [if_neg (fun h => h1 h.1)]
       have ih := rsweepA_row k t r (A.length + 1) k' hr (by omega) (by rw [hn]; rw [ha] at hk'; exact hk')
       rw [hn] at ih
       rw [ha]
       exact ih
end
end Go.Proofs.Lk
end
section
namespace Go.Proofs.Lk
section
variable {α : Type} [DecidableEq α]
def rmode (r : RS α) (x : Int) (t : α) : Int := match r.holds.find? (fun o => decide (o.1 = t) && o.2.1 == x) with | some o => o.2.2 | none => 0
theorem find_part (t : α) (x : Int) (l : List (α × One)) : (l.find? fun o => decide (o.1 = t) && o.2.1 == x).map (·.2) = (part t l).find? fun o => o.1 == x := by
 induction l with
 | nil => rfl
 | cons o l ih =>
   rw [List.find?_cons, part_cons]
   by_cases h : o.1 = t
   · rw [if_pos h, List.find?_cons]
     by_cases h2 : o.2.1 = x
     · simp [h, h2]
     · simp only [h, decide_true, Bool.true_and]
       rw [show (o.2.1 == x) = false by simpa using h2]
       exact ih
   · rw [if_neg h]
     simp only [h, decide_false, Bool.false_and]
     exact ih
theorem rmode_row (r : RS α) (x : Int) (t : α) : rmode r x t = (modeOf (rowOf r t) x).getD 0 := by
 have := find_part t x r.holds
 unfold rmode modeOf
 show _ = (((part t r.holds).find? fun o => o.1 == x).map (·.2)).getD 0
 rw [← this]
 cases r.holds.find? (fun o => decide (o.1 = t) && o.2.1 == x) <;> rfl
theorem rmode_zero {r : RS α} {t : α} (h : RInv (rowOf r t)) (x : Int) : rmode r x t = 0 ↔ has (rowOf r t).holds x = false := by
 rw [rmode_row]
 cases e : modeOf (rowOf r t) x with
 | none => exact ⟨fun _ => modeOf_none e, fun _ => rfl⟩
 | some g =>
   have hg := modeOf_some e
   have hr := h.hm _ hg
   constructor
   · intro e2
     have e2 : g = 0 := e2
     subst e2
     exact absurd (show right 0 = true from hr) (by decide)
   · intro e2
     rw [has_iff.2 ⟨_, hg, rfl⟩] at e2
     cases e2
def rplaceA (r : RS α) (t : α) : List (α × One) → Nat → Nat → Nat
 | [], i, p => p
 | o :: l, i, p => if o.1 ≠ t then rplaceA r t l (i + 1) p else if rmode r o.2.1 t = 0 then p else rplaceA r t l (i + 1) (i + 1)
def lead (f : One → Bool) : List One → Nat
 | [] => 0
 | o :: l => if f o then 0 else lead f l + 1
theorem lead_find (f : One → Bool) : ∀ (l : List One), (match l.findIdx? f with | some n => n | none => l.length) = lead f l
 | [] => rfl
 | o :: l => by
   have ih := lead_find f l
   unfold lead
   rw [List.findIdx?_cons]
   cases h : f o with
   | true => simp
   | false =>
     simp only [Bool.false_eq_true, if_false]
     cases hf : l.findIdx? f with
     | none => rw [hf] at ih; simp at ih ⊢; omega
     | some n => rw [hf] at ih; simp at ih ⊢; omega
theorem rplaceA_row {r : RS α} {t : α} (h : RInv (rowOf r t)) : ∀ (l A : List (α × One)) (p : Nat), r.waits = A ++ l → p ≤ A.length → ahead r t p = (part t A).length →
   ahead r t (rplaceA r t l A.length p) = (part t A).length + lead (fun o => !(has (rowOf r t).holds o.1)) (part t l) ∧ rplaceA r t l A.length p ≤ r.waits.length
 | [], A, p, e, hp, ha => by
   refine ⟨ha, ?_⟩
   show p ≤ _
   rw [e, List.length_append]
   omega
 | o :: l, A, p, e, hp, ha => by
   have e2 : r.waits = (A ++ [o]) ++ l := by rw [e]; simp
   have hlen : (A ++ [o]).length = A.length + 1 := by simp
   unfold rplaceA
   by_cases h1 : o.1 = t
   · rw [if_neg (by simpa using h1), part_cons, if_pos h1]
     have hz := rmode_zero h o.2.1
     by_cases h2 : rmode r o.2.1 t = 0
     · rw [if_pos h2]
       have : has (rowOf r t).holds o.2.1 = false := hz.1 h2
       refine ⟨?_, by rw [e, List.length_append]; omega⟩
       unfold lead
       simp [this, ha]
     · rw [if_neg h2]
       have h3 : has (rowOf r t).holds o.2.1 = true := by
         cases hh : has (rowOf r t).holds o.2.1 with
         | true => rfl
         | false => exact absurd (hz.2 hh) h2
       have ih := rplaceA_row h l (A ++ [o]) (A.length + 1) e2 (by rw [hlen]; exact Nat.le_refl _) (by
         have := ahead_next (t := t) e
         rw [this, if_pos h1, part_app, List.length_append, part_cons, if_pos h1]
         rfl)
       rw [hlen, part_app, List.length_append, part_cons, if_pos h1] at ih
       unfold lead
       simp only [h3, Bool.not_true, Bool.false_eq_true, if_false]
       have e4 : ([o.2] : List One).length = 1 := rfl
       have e5 : (o.2 :: part t ([] : List (α × One))).length = 1 := rfl
       rw [e5] at ih
       exact ⟨by rw [ih.1]; omega, ih.2⟩
   · rw [if_pos h1, part_cons, if_neg h1]
     have ih := rplaceA_row h l (A ++ [o]) p e2 (by rw [hlen]; omega) (by rw [ha, part_app, part_cons, if_neg h1]; simp [part])
     rw [hlen, part_app, part_cons, if_neg h1, List.length_append] at ih
     have e5 : (part t ([] : List (α × One))).length = 0 := rfl
     rw [e5] at ih
     exact ih
theorem insert_row (r : RS α) (t : α) (o : One) (p : Nat) : part t (r.waits.take p ++ (t, o) :: r.waits.drop p) = (part t r.waits).take (ahead r t p) ++ o :: (part t r.waits).drop (ahead r t p) := by
 have e : part t r.waits = part t (r.waits.take p) ++ part t (r.waits.drop p) := by rw [← part_app, List.take_append_drop]
 rw [part_app, part_cons, if_pos rfl, e]
 unfold ahead
 rw [List.take_left' rfl, List.drop_left' rfl]
theorem insert_other {t u : α} (h : u ≠ t) (l : List (α × One)) (o : One) (p : Nat) : part u (l.take p ++ (t, o) :: l.drop p) = part u l := by
 rw [part_app, part_cons, if_neg (fun e => h e.symm), ← part_app, List.take_append_drop]
end
end Go.Proofs.Lk
end
section
namespace Go.Proofs.Lk
theorem erase_filter {l : List One} (h : (l.map (·.1)).Nodup) {i : Nat} {o : One} (ho : l[i]? = some o) : l.eraseIdx i = l.filter fun w => w.1 != o.1 := by
 induction l generalizing i with
 | nil => simp at ho
 | cons x l ih =>
   rw [List.map_cons, List.nodup_cons] at h
   cases i with
   | zero =>
     simp at ho
     subst ho
     rw [List.eraseIdx_cons_zero, List.filter_cons, if_neg (by simp)]
     exact (List.filter_eq_self.2 fun w hw => by
       have : w.1 ≠ x.1 := fun e => h.1 (List.mem_map.2 ⟨w, hw, e⟩)
       simpa using this).symm
   | succ i =>
     simp at ho
     have hne : x.1 ≠ o.1 := fun e => h.1 (List.mem_map.2 ⟨o, List.mem_of_getElem? ho, e.symm⟩)
     rw [List.eraseIdx_cons_succ, List.filter_cons, if_pos (by simpa using hne), ih h.2 ho]
section
variable {α : Type} [DecidableEq α]
def RR (s : LS α) (r : RS α) : Prop := ∀ t, rowOf r t = s.rows t
variable {hadd : List α → α → List α} {s : LS α} {r : RS α}
def rwait (r : RS α) (x : Int) : Option (α × One) := r.waits.find? fun o => o.2.1 == x
theorem rwait_none (h : LInv s) (hr : RR s r) {x : Int} (hx : s.waits x = none) : rwait r x = none := by
 unfold rwait
 rw [List.find?_eq_none]
 intro o ho e
 have e : o.2.1 = x := by simpa using e
 have : has (s.rows o.1).waits x = true := by
   rw [← hr o.1]
   exact has_iff.2 ⟨o.2, mem_part.2 ho, e⟩
 rw [(h.ww x o.1).2 this] at hx
 cases hx
theorem rwait_some (h : LInv s) (hr : RR s r) {x : Int} {t : α} (hx : s.waits x = some t) : ∃ o A B, rwait r x = some (t, o) ∧ o.1 = x ∧ r.waits = A ++ (t, o) :: B ∧ (∀ w ∈ A, w.2.1 ≠ x) ∧ (s.rows t).waits = part t A ++ o :: part t B ∧ waitAt (s.rows t) x = some ((part t A).length, o) := by
 obtain ⟨w, hw, e⟩ := has_iff.1 ((h.ww x t).1 hx)
 rw [← hr t] at hw
 have hw := mem_part.1 hw
 cases hf : rwait r x with
 | none =>
   unfold rwait at hf
   rw [List.find?_eq_none] at hf
   exact absurd (by simpa using e) (hf _ hw)
 | some q =>
   unfold rwait at hf
   obtain ⟨h1, A, B, h2, h3⟩ := List.find?_eq_some_iff_append.1 hf
   have h1 : q.2.1 = x := by simpa using h1
   have hq : q.1 = t := by
     have hm : q ∈ r.waits := by rw [h2]; simp
     have : has (s.rows q.1).waits x = true := by
       rw [← hr q.1]
       exact has_iff.2 ⟨q.2, mem_part.2 hm, h1⟩
     have := (h.ww x q.1).2 this
     rw [hx] at this
     exact (Option.some.inj this).symm
   obtain ⟨u, o⟩ := q
   change u = t at hq
   subst hq
   have hA : ∀ w ∈ A, w.2.1 ≠ x := fun w hw => by simpa using h3 w hw
   have hrow : (s.rows u).waits = part u A ++ o :: part u B := by
     rw [← hr u]
     show part u r.waits = _
     rw [h2, part_app, part_cons, if_pos rfl]
   refine ⟨o, A, B, rfl, h1, h2, hA, hrow, ?_⟩
   unfold waitAt
   rw [hrow]
   have hfi : (part u A ++ o :: part u B).findIdx? (fun w => w.1 == x) = some (part u A).length := by
     rw [List.findIdx?_append]
     have hn : (part u A).findIdx? (fun w => w.1 == x) = none := by
       rw [List.findIdx?_eq_none_iff]
       intro w hw
       have := hA _ (mem_part.1 hw)
       simpa using this
     rw [hn, List.findIdx?_cons]
     have h1 : o.1 = x := h1
     simp [h1]
   rw [hfi]
   show ((part u A ++ o :: part u B)[(part u A).length]?).map _ = _
   rw [List.getElem?_append_right (Nat.le_refl _), Nat.sub_self]
   rfl
def rsweep (t : α) (r : RS α) : RS α × List Int := rsweepA (r.waits.length + 1) t r 0
theorem ahead_zero (r : RS α) (t : α) : ahead r t 0 = 0 := by simp [ahead, part]
theorem rsweep_row {t : α} (h : RInv (rowOf r t)) : rowOf (rsweep t r).1 t = (sweepR (rowOf r t)).1 ∧ (rsweep t r).2 = (sweepR (rowOf r t)).2 ∧ ∀ u, u ≠ t → rowOf (rsweep t r).1 u = rowOf r u := by
 have := rsweepA_row (r.waits.length + 1) t r 0 ((rowOf r t).waits.length + 1) h (by omega) (by omega)
 rw [ahead_zero] at this
 exact this
theorem rsweep_rr {t : α} (h : RInv (s.rows t)) (hr : RR s r) : RR (sweepS hadd s t).1 (rsweep t r).1 ∧ (rsweep t r).2 = (sweepS hadd s t).2 := by
 obtain ⟨h1, h2, h3⟩ := rsweep_row (r := r) (t := t) (by rw [hr t]; exact h)
 rw [hr t] at h1 h2
 refine ⟨fun u => ?_, h2⟩
 rw [sweepS_rows]
 by_cases e : u = t
 · subst e
   rw [upd_same]
   exact h1
 · rw [upd_other e, h3 u e]
   exact hr u
def rsweeps : List α → RS α → RS α × List Int
 | [], r => (r, [])
 | t :: ts, r => ((rsweeps ts (rsweep t r).1).1, (rsweep t r).2 ++ (rsweeps ts (rsweep t r).1).2)
theorem rsweeps_rr : ∀ (ts : List α) (s : LS α) (r : RS α), (∀ t, RInv (s.rows t)) → RR s r → RR (sweepsS hadd ts s).1 (rsweeps ts r).1 ∧ (rsweeps ts r).2 = (sweepsS hadd ts s).2
 | [], s, r, h, hr => ⟨hr, rfl⟩
 | t :: ts, s, r, h, hr => by
   obtain ⟨h1, h2⟩ := rsweep_rr (hadd := hadd) (h t) hr
   obtain ⟨h3, h4⟩ := rsweeps_rr ts _ _ (sweepS_row h) h1
   exact ⟨h3, by show (rsweep t r).2 ++ _ = (sweepS hadd s t).2 ++ _; rw [h2, h4]⟩
def rcancel (r : RS α) (x : Int) : RS α × List Int := match r.waits.findIdx? (fun o => o.2.1 == x) with
 | none => (r, [])
 | some i => match r.waits[i]? with
   | none => (r, [])
   | some o => rsweep o.1 ⟨r.holds, r.waits.eraseIdx i⟩
theorem rfind (h : LInv s) (hr : RR s r) {x : Int} : (s.waits x = none ∧ r.waits.findIdx? (fun o => o.2.1 == x) = none) ∨ ∃ t o A B, s.waits x = some t ∧ o.1 = x ∧ r.waits = A ++ (t, o) :: B ∧ r.waits.findIdx? (fun o => o.2.1 == x) = some A.length ∧ (s.rows t).waits = part t A ++ o :: part t B := by
 cases hx : s.waits x with
 | none =>
   refine .inl ⟨rfl, ?_⟩
   have := rwait_none h hr hx
   unfold rwait at this
   rw [List.find?_eq_none] at this
   rw [List.findIdx?_eq_none_iff]
   intro o ho
   simpa using this o ho
 | some t =>
   obtain ⟨o, A, B, _, h1, h2, h3, h4, _⟩ := rwait_some h hr hx
   refine .inr ⟨t, o, A, B, rfl, h1, h2, ?_, h4⟩
   rw [h2, List.findIdx?_append]
   have hn : A.findIdx? (fun w => w.2.1 == x) = none := by
     rw [List.findIdx?_eq_none_iff]
     intro w hw
     simpa using h3 w hw
   rw [hn, List.findIdx?_cons]
   simp [h1]
theorem drop_row (h : LInv s) (hr : RR s r) {x : Int} {t : α} {o : One} {A B : List (α × One)} (ho : o.1 = x) (hw : r.waits = A ++ (t, o) :: B) : RR (⟨upd s.rows t ⟨(s.rows t).holds, (s.rows t).waits.filter fun w => w.1 != x⟩, upd s.waits x none, s.held⟩ : LS α) ⟨r.holds, r.waits.eraseIdx A.length⟩ := by
 have hrow : (s.rows t).waits = part t A ++ o :: part t B := by
   rw [← hr t]
   show part t r.waits = _
   rw [hw, part_app, part_cons, if_pos rfl]
 intro u
 show rowOf (⟨r.holds, r.waits.eraseIdx A.length⟩ : RS α) u = upd s.rows t _ u
 by_cases e : u = t
 · subst e
   rw [upd_same]
   have hat : (s.rows u).waits[(part u A).length]? = some o := by
     rw [hrow, List.getElem?_append_right (Nat.le_refl _), Nat.sub_self]
     rfl
   have := erase_filter (h.row u).wn hat
   rw [ho] at this
   rw [← this]
   unfold rowOf
   congr 1
   · exact congrArg LRow.holds (hr u)
   · show part u (r.waits.eraseIdx A.length) = _
     rw [hw, erase_at, part_app, hrow, erase_at]
 · rw [upd_other e, ← hr u]
   unfold rowOf
   congr 1
   show part u (r.waits.eraseIdx A.length) = part u r.waits
   rw [hw, erase_at, part_app, part_app, part_cons, if_neg (fun e2 => e e2.symm)]
theorem rcancel_rr (h : LInv s) (hr : RR s r) (x : Int) : RR (cancelS hadd s x).1 (rcancel r x).1 ∧ (rcancel r x).2 = (cancelS hadd s x).2 := by
 unfold cancelS rcancel
 rcases rfind h hr (x := x) with ⟨h1, h2⟩ | ⟨t, o, A, B, h1, h2, h3, h4, h5⟩
 · rw [h1, h2]
   exact ⟨hr, rfl⟩
 · rw [h1, h4]
   have hat : r.waits[A.length]? = some (t, o) := by
     rw [h3, List.getElem?_append_right (Nat.le_refl _), Nat.sub_self]
     rfl
   dsimp only
   rw [hat]
   dsimp only
   refine rsweep_rr (hadd := hadd) ?_ (drop_row h hr h2 h3)
   show RInv (upd s.rows t _ t)
   rw [upd_same]
   have hrr := h.row t
   exact ⟨hrr.hn, hrr.wn.sublist (List.filter_sublist.map _), hrr.hm, fun o ho => hrr.wm o (List.mem_filter.1 ho).1, hrr.safe, fun w hw => hrr.up w (List.mem_filter.1 hw).1⟩
end
end Go.Proofs.Lk
end
section
namespace Go.Proofs.Lk
section
variable {α : Type} [DecidableEq α] {hadd : List α → α → List α} (ha : ∀ ls x y, y ∈ hadd ls x ↔ y = x ∨ y ∈ ls) {fits : α → Bool} {s : LS α} {r : RS α}
theorem part_filter (t : α) (x : Int) (l : List (α × One)) : part t (l.filter fun o => o.2.1 != x) = (part t l).filter fun o => o.1 != x := by
 induction l with
 | nil => rfl
 | cons o l ih =>
   rw [List.filter_cons, part_cons]
   by_cases h : o.1 = t
   · by_cases h2 : o.2.1 = x
     · rw [if_neg (by simpa using h2), if_pos h, List.filter_cons, if_neg (by simpa using h2), ih]
     · rw [if_pos (by simpa using h2), part_cons, if_pos h, if_pos h, List.filter_cons, if_pos (by simpa using h2), ih]
   · by_cases h2 : o.2.1 = x
     · rw [if_neg (by simpa using h2), if_neg h, ih]
     · rw [if_pos (by simpa using h2), part_cons, if_neg h, if_neg h, ih]
theorem filter_none' {l : List One} {x : Int} (h : has l x = false) : l.filter (fun o => o.1 != x) = l := by
 rw [List.filter_eq_self]
 intro o ho
 have : o.1 ≠ x := fun e => by
   rw [has_iff.2 ⟨o, ho, e⟩] at h
   cases h
 simpa using this
def rrelease (r : RS α) (x : Int) (all : List α) : RS α × List Int :=
 rsweeps all ⟨r.holds.filter fun o => o.2.1 != x, match r.waits.findIdx? (fun o => o.2.1 == x) with | none => r.waits | some i => r.waits.eraseIdx i⟩
include ha
theorem rrelease_rr (h : LInv s) (hr : RR s r) (x : Int) : RR (releaseS hadd s x).1 (rrelease r x (allT hadd s x)).1 ∧ (rrelease r x (allT hadd s x)).2 = (releaseS hadd s x).2 := by
 have hall : ∀ t, t ∉ allT hadd s x → has (s.rows t).holds x = false ∧ has (s.rows t).waits x = false := fun t ht => by
   constructor
   · cases hh : has (s.rows t).holds x with
     | false => rfl
     | true =>
       refine absurd ?_ ht
       have := (h.hh x t).2 hh
       unfold allT
       cases s.waits x with
       | none => exact this
       | some u => exact (ha _ _ _).2 (.inr this)
   · cases hh : has (s.rows t).waits x with
     | false => rfl
     | true =>
       refine absurd ?_ ht
       unfold allT
       rw [(h.ww x t).2 hh]
       exact (ha _ _ _).2 (.inl rfl)
 have hw : ∀ t, part t (match r.waits.findIdx? (fun o => o.2.1 == x) with | none => r.waits | some i => r.waits.eraseIdx i) = (s.rows t).waits.filter fun o => o.1 != x := fun t => by
   rcases rfind h hr (x := x) with ⟨h1, h2⟩ | ⟨u, o, A, B, h1, h2, h3, h4, h5⟩
   · rw [h2]
     have hn : has (s.rows t).waits x = false := by
       cases hh : has (s.rows t).waits x with
       | false => rfl
       | true => rw [(h.ww x t).2 hh] at h1; cases h1
     rw [filter_none' hn, ← hr t]
     rfl
   · rw [h4]
     have := drop_row h hr h2 h3 t
     have e : part t (r.waits.eraseIdx A.length) = (upd s.rows u ⟨(s.rows u).holds, (s.rows u).waits.filter fun w => w.1 != x⟩ t).waits := congrArg LRow.waits this
     show part t (r.waits.eraseIdx A.length) = _
     rw [e]
     by_cases et : t = u
     · subst et
       rw [upd_same]
     · rw [upd_other et]
       have hn : has (s.rows t).waits x = false := by
         cases hh : has (s.rows t).waits x with
         | false => rfl
         | true =>
           have := (h.ww x t).2 hh
           rw [h1] at this
           exact absurd (Option.some.inj this).symm et
       rw [filter_none' hn]
 unfold releaseS rrelease
 refine rsweeps_rr (hadd := hadd) _ _ _ (fun t => ?_) (fun t => ?_)
 · show RInv (if t ∈ allT hadd s x then dropR (s.rows t) x else s.rows t)
   split
   · exact dropR_inv (h.row t) x
   · exact h.row t
 · show (⟨part t (r.holds.filter fun o => o.2.1 != x), part t (match r.waits.findIdx? (fun o => o.2.1 == x) with | none => r.waits | some i => r.waits.eraseIdx i)⟩ : LRow) = if t ∈ allT hadd s x then dropR (s.rows t) x else s.rows t
   rw [hw t, part_filter, show part t r.holds = (s.rows t).holds from congrArg LRow.holds (hr t)]
   split
   · rfl
   · rename_i hn
     obtain ⟨h1, h2⟩ := hall t hn
     rw [filter_none' h1, filter_none' h2]
omit ha in
def rask (fits : α → Bool) (r : RS α) (x : Int) (t : α) (m : Int) : RS α × Bool × Ans :=
 if (fits t && right m) = true then
   if (rwait r x).isSome = true then (r, false, .state)
   else
     let m0 := rmode r x t
     if m0 ≠ 0 ∧ cov m0 m = true then (r, true, .ok)
     else
       let g := if m0 ≠ 0 then join m0 m else m
       let p := if m0 ≠ 0 then rplaceA r t r.waits 0 0 else r.waits.length
       if rcan r x t g p = true then (⟨rgiveL t (x, g) r.holds, r.waits⟩, true, .ok) else (⟨r.holds, r.waits.take p ++ (t, (x, g)) :: r.waits.drop p⟩, false, .ok)
 else (r, false, .form)
omit ha in
theorem rask_rr (h : LInv s) (hr : RR s r) (x : Int) (t : α) (m : Int) : RR (askS hadd fits s x t m).1 (rask fits r x t m).1 ∧ (rask fits r x t m).2 = (askS hadd fits s x t m).2 := by
 unfold askS rask
 by_cases hf : (fits t && right m) = true
 · rw [if_pos hf, if_pos hf]
   cases hx : s.waits x with
   | some u =>
     obtain ⟨o, A, B, e, _⟩ := rwait_some h hr hx
     rw [e]
     exact ⟨hr, rfl⟩
   | none =>
     rw [rwait_none h hr hx]
     have hri : RInv (rowOf r t) := by rw [hr t]; exact h.row t
     have hz := rmode_zero hri x
     have hm := rmode_row r x t
     rw [hr t] at hz hm
     simp only [Option.isSome_none, Bool.false_eq_true, if_false]
     have hnx : ∀ p, ∀ o ∈ part t (r.waits.take p), o.1 ≠ x := fun p o ho e => by
       have hm2 : o ∈ part t r.waits := mem_part.2 (List.mem_of_mem_take (mem_part.1 ho))
       have : has (s.rows t).waits x = true := by rw [← hr t]; exact has_iff.2 ⟨o, hm2, e⟩
       rw [(h.ww x t).2 this] at hx
       cases hx
     have key : ∀ (g : Int) (p : Nat), p ≤ r.waits.length → wanted (s.rows t) x m = (x, g) → ahead r t p = place (s.rows t) x → enough (s.rows t) x m = false →
         RR (askR hadd s x t m).1 (if rcan r x t g p = true then ((⟨rgiveL t (x, g) r.holds, r.waits⟩, true, Ans.ok) : RS α × Bool × Ans) else (⟨r.holds, r.waits.take p ++ (t, (x, g)) :: r.waits.drop p⟩, false, .ok)).1 ∧
         (if rcan r x t g p = true then ((⟨rgiveL t (x, g) r.holds, r.waits⟩, true, Ans.ok) : RS α × Bool × Ans) else (⟨r.holds, r.waits.take p ++ (t, (x, g)) :: r.waits.drop p⟩, false, .ok)).2 = ((askR hadd s x t m).2, .ok) := by
       intro g p hp hw hah hen
       have hc := rcan_raw r x t g p (hnx p)
       rw [hr t, hah] at hc
       unfold askR
       simp only [hen, Bool.false_eq_true, if_false, hw]
       by_cases hcan : rcan r x t g p = true
       · have h0 := hc.1 hcan
         rw [if_pos hcan]
         simp only [h0, ne_eq, not_true_eq_false, if_false]
         refine ⟨fun u => ?_, by first | trivial | rfl⟩
         show (⟨part u (rgiveL t (x, g) r.holds), part u r.waits⟩ : LRow) = upd s.rows t _ u
         by_cases e : u = t
         · subst e
           rw [upd_same, rgive_same u (x, g) r.holds hri.hn]
           rw [show part u r.holds = (s.rows u).holds from congrArg LRow.holds (hr u), show part u r.waits = (s.rows u).waits from congrArg LRow.waits (hr u)]
         · rw [upd_other e, rgive_other e]
           exact hr u
       · have h0 : rawB (s.rows t) (x, g) (place (s.rows t) x) ≠ [] := fun e => hcan (hc.2 e)
         rw [if_neg hcan]
         simp only [ne_eq, h0, not_false_eq_true, if_true]
         refine ⟨fun u => ?_, by first | trivial | rfl⟩
         show (⟨part u r.holds, part u (r.waits.take p ++ (t, (x, g)) :: r.waits.drop p)⟩ : LRow) = upd s.rows t _ u
         by_cases e : u = t
         · subst e
           rw [upd_same, insert_row, hah]
           rw [show part u r.holds = (s.rows u).holds from congrArg LRow.holds (hr u), show part u r.waits = (s.rows u).waits from congrArg LRow.waits (hr u)]
         · rw [upd_other e, insert_other e]
           exact hr u
     cases e : modeOf (s.rows t) x with
     | none =>
       have hm0 : rmode r x t = 0 := by rw [hm, e]; rfl
       have hh := modeOf_none e
       have hen : enough (s.rows t) x m = false := by unfold enough; rw [e]
       have hw : wanted (s.rows t) x m = (x, m) := by unfold wanted; rw [e]
       simp only [hm0, ne_eq, not_true_eq_false, false_and, if_false]
       refine key m r.waits.length (Nat.le_refl _) hw ?_ hen
       unfold ahead place
       rw [List.take_length, hh, show part t r.waits = (s.rows t).waits from congrArg LRow.waits (hr t)]
       rfl
     | some g0 =>
       have hm0 : rmode r x t = g0 := by rw [hm, e]; rfl
       have hne : g0 ≠ 0 := fun e2 => by
         have := hz.1 (by rw [hm0, e2])
         rw [has_iff.2 ⟨_, modeOf_some e, rfl⟩] at this
         cases this
       simp only [hm0, ne_eq, hne, not_false_eq_true, true_and, if_true]
       by_cases hcv : cov g0 m = true
       · have hen : enough (s.rows t) x m = true := by unfold enough; rw [e]; exact hcv
         rw [if_pos hcv]
         have e3 : askR hadd s x t m = (s, true) := by unfold askR; rw [if_pos hen]
         rw [e3]
         exact ⟨hr, rfl⟩
       · have hen : enough (s.rows t) x m = false := by
           unfold enough
           rw [e]
           simpa using hcv
         rw [if_neg hcv]
         have hw : wanted (s.rows t) x m = (x, join g0 m) := by unfold wanted; rw [e]
         obtain ⟨p1, p2⟩ := rplaceA_row hri r.waits [] 0 rfl (Nat.le_refl _) (by rw [ahead_zero]; rfl)
         refine key (join g0 m) _ p2 hw ?_ hen
         have p1 : ahead r t (rplaceA r t r.waits 0 0) = _ := p1
         rw [p1, hr t, show part t r.waits = (s.rows t).waits from congrArg LRow.waits (hr t)]
         unfold place
         rw [if_pos (has_iff.2 ⟨_, modeOf_some e, rfl⟩), ← lead_find]
         show 0 + _ = _
         rw [Nat.zero_add]
         rfl
 · rw [if_neg hf, if_neg hf]
   exact ⟨hr, rfl⟩
end
end Go.Proofs.Lk
end
section
namespace Go.Proofs.YtkcjcdkmdooofaaGreat.Q
open Go.RowKit Go.Proofs.YtkcjcdkmdooofaaGreatW.PrintWords Go.Proofs.YtkcjcdkmdooofaaGreatW.PrintLast Go.Proofs.YtkcjcdkmdooofaaGreatW.PrintMore
attribute [local go_sem] max2_int min2_int max_two min_two max_three min_three max_four min_four
theorem eqA32 (d : Nat) (w : World) (x0 y0 : Int) (x1 y1 : ByteArray) (x2 y2 : ByteArray) :
   (Op.equalIn (d + 2) 32 (.agg #[.int .i64 x0, .string x1, .string x2]) (.agg #[.int .i64 y0, .string y1, .string y2])).run Tryz.prog w = .ok (x0 == y0 && (x1.toList == y1.toList && (x2.toList == y2.toList))) w := by
 refine eqA_of Tryz.underlying32 (by kernel_rfl) ?_
 refine eqf_cons (by rfl) (by go_simp; rfl) (by go_simp; rfl) (by go_simp) ?_
 refine eqf_cons (by rfl) (by go_simp; rfl) (by go_simp; rfl) (by go_simp) ?_
 exact eqf_last (by rfl) (by go_simp; rfl) (by go_simp; rfl) (by go_simp)
end Go.Proofs.YtkcjcdkmdooofaaGreat.Q
end
section
namespace Go.Proofs.Kb
open Go Go.RowKit Go.Proofs.YtkcjcdkmdooofaaGreat.Q Go.Proofs.YtkcjcdkmdooofaaGreatW.PrintWords Go.Proofs.YtkcjcdkmdooofaaGreatW.PrintLast Go.Proofs.YtkcjcdkmdooofaaGreatW.PrintMore
set_option maxRecDepth 100000
open Go.Proofs.Lk Go.Proofs.Mp
theorem eqA32_ (d : Nat) (w : World) (x0 y0 : Int) (x1 y1 x2 y2 : ByteArray) :
   (Op.equalIn (d + 2) 32 (.agg #[.int .i64 x0, .string x1, .string x2]) (.agg #[.int .i64 y0, .string y1, .string y2])).run Tryz.prog w = .ok (x0 == y0 && (x1.toList == y1.toList && (x2.toList == y2.toList))) w := by
 refine eqA_of Tryz.underlying32 (by kernel_rfl) ?_
 refine eqf_cons (by rfl) (by go_simp; rfl) (by go_simp; rfl) (by go_simp) ?_
 refine eqf_cons (by rfl) (by go_simp; rfl) (by go_simp; rfl) (by go_simp) ?_
 exact eqf_last (by rfl) (by go_simp; rfl) (by go_simp; rfl) (by go_simp)
@[irreducible] def eqD (x y : S32) : Bool := decide (x = y)
theorem eqT (d : Nat) (w : World) (x0 y0 : Int) (x1 y1 x2 y2 : ByteArray) :
   (Op.equalIn (d + 2) 32 (.agg #[.int .i64 x0, .string x1, .string x2]) (.agg #[.int .i64 y0, .string y1, .string y2])).run Tryz.prog w = .ok (eqD ⟨x0, x1, x2⟩ ⟨y0, y1, y2⟩) w := by
 rw [eqA32_]
 have e : (x0 == y0 && (x1.toList == y1.toList && (x2.toList == y2.toList))) = eqD ⟨x0, x1, x2⟩ ⟨y0, y1, y2⟩ := by
   unfold eqD
   by_cases h : (⟨x0, x1, x2⟩ : S32) = ⟨y0, y1, y2⟩
   · rw [decide_eq_true h]
     injection h with h0 h1 h2
     simp [h0, h1, h2]
   · rw [decide_eq_false h]
     by_cases h0 : x0 = y0
     · by_cases h1 : x1.toList = y1.toList
       · by_cases h2 : x2.toList = y2.toList
         · exact absurd (by rw [h0, toList_inj h1, toList_inj h2]) h
         · simp [h2]
       · simp [h1]
     · simp [h0]
 rw [e]
theorem eqD_true {x y : S32} (h : eqD x y = true) : x = y := by
 unfold eqD at h
 exact of_decide_eq_true h
theorem eqD_dec (x y : S32) : eqD x y = decide (x = y) := by
 unfold eqD
 rfl
attribute [local go_sem high] eqT
def qE : EncT S77 := ⟨77, 6, fun x => [.int .i64 x.f0.f0, .string x.f0.f1, .string x.f0.f2, .int .i64 x.f1.f0, .int .i64 x.f1.f1, .bool x.f1.f2], fun x => rfl, fun x u hu => by
 simp only [List.mem_cons, List.not_mem_nil, or_false] at hu
 rcases hu with rfl | rfl | rfl | rfl | rfl | rfl <;> rfl⟩
theorem qE_info : (Tryz.prog.info? 77).map (fun i => (i.zero, i.size, i.bytes)) = some (some (.agg #[.int .i64 0, .string ⟨#[]⟩, .string ⟨#[]⟩, .int .i64 0, .int .i64 0, .bool false]), 6, 64) := by kernel_rfl
noncomputable def qI : InfoX Tryz.prog qE 28 := Classical.choice (infoX_of Tryz.underlying28 qE_info (by simp [Value.cells, qE]) (by decide) (by decide))
def qv (b : Bool) (o : S32 × One) : S77 := ⟨o.1, ⟨o.2.1, o.2.2, b⟩⟩
def RQ (w0 : World) (F : Nat → Prop) (rp : Nat) (r : RS S32) (R : List Chunk) (W : World) : Prop :=
 ∃ Ah ch Aw cw, St w0 F W (blkC rp (.cells #[.slice Ah r.holds.length ch, .slice Aw r.waits.length cw] 30 (0, 0)) :: rowXC qE (.slice Ah r.holds.length ch) (r.holds.map (qv false)) :: rowXC qE (.slice Aw r.waits.length cw) (r.waits.map (qv true)) :: R)
theorem RowX.q {w : World} {g n c : Nat} {b : Bool} {l : List (S32 × One)} (h : RowX qE w (.slice (some ⟨g, 0, none⟩) n c) (l.map (qv b))) {i : Nat} {o : S32 × One} (ho : l[i]? = some o) :
   w.cell? ⟨g, i * 6, none⟩ = some (.int .i64 o.1.f0) ∧ w.cell? ⟨g, i * 6 + 1, none⟩ = some (.string o.1.f1) ∧ w.cell? ⟨g, i * 6 + 2, none⟩ = some (.string o.1.f2) ∧ w.cell? ⟨g, i * 6 + 3, none⟩ = some (.int .i64 o.2.1) ∧ w.cell? ⟨g, i * 6 + 4, none⟩ = some (.int .i64 o.2.2) ∧ w.cell? ⟨g, i * 6 + 5, none⟩ = some (.bool b) := by
 have hx : (l.map (qv b))[i]? = some (qv b o) := by rw [List.getElem?_map, ho]; rfl
 exact ⟨h.cell hx 0 (by decide) _ rfl, h.cell hx 1 (by decide) _ rfl, h.cell hx 2 (by decide) _ rfl, h.cell hx 3 (by decide) _ rfl, h.cell hx 4 (by decide) _ rfl, h.cell hx 5 (by decide) _ rfl⟩
section
variable {w0 w w' : World} {F : Nat → Prop} {rp : Nat} {r : RS S32} {R R' : List Chunk}
theorem RQ.below (h : RQ w0 F rp r R w) (hb : Below w.heap.size w w') : RQ w0 F rp r R w' := by
 obtain ⟨a, b, c, d, h⟩ := h
 exact ⟨a, b, c, d, h.below hb⟩
theorem RQ.rest (h : RQ w0 F rp r R w) : St w0 F w R := by
 obtain ⟨a, b, c, d, h⟩ := h
 exact St.drop (A := [_, _, _]) h
theorem RQ.perm (h : RQ w0 F rp r R w) (hp : R.Perm R') : RQ w0 F rp r R' w := by
 obtain ⟨a, b, c, d, h⟩ := h
 exact ⟨a, b, c, d, h.perm (((hp.cons _).cons _).cons _)⟩
theorem find_snoc {β : Type} {f : β → Bool} {l : List β} {i : Nat} {o : β} (h : l[i]? = some o) (hf : (l.take i).find? f = none) (ho : f o = false) : (l.take (i + 1)).find? f = none := by
 rw [List.take_add_one, h, List.find?_append, hf]
 simp [ho]
theorem find_here {β : Type} {f : β → Bool} {l : List β} {i : Nat} {o : β} (h : l[i]? = some o) (hf : (l.take i).find? f = none) (ho : f o = true) : l.find? f = some o := by
 obtain ⟨hi, rfl⟩ := List.getElem?_eq_some_iff.1 h
 have e : l = l.take i ++ l[i] :: l.drop (i + 1) := by rw [← List.drop_eq_getElem_cons hi, List.take_append_drop]
 have e2 := congrArg (List.find? f) e
 rw [List.find?_append, hf] at e2
 rw [e2, Option.none_or, List.find?_cons_of_pos ho]
set_option maxHeartbeats 8000000 in
theorem qmode_calls (h : RQ w0 F rp r R w) (x : Int) (t : S32) (hn : r.holds.length < 100000) :
   Calls Tryz.prog 22 #[.pointer (some ⟨rp, 0, none⟩), .int .i64 x, thgV t] w fun E w' => E = .returned (.int .i64 (rmode r x t)) ∧ RQ w0 F rp r R w' := by
 obtain ⟨Q, hQ⟩ : ∃ Q, (fun E w' => E = Ending.returned (.int .i64 (rmode r x t)) ∧ RQ w0 F rp r R w') = Q := ⟨_, rfl⟩
 have HQ := Aside0.mk hQ
 rw [hQ]
 clear hQ
 have hu30 := Tryz.underlying30
 have hu28 := Tryz.underlying28
 have hu77 := Tryz.underlying77
 have hu75 := Tryz.underlying75
 have hu32 := Tryz.underlying32
 have hz77 := Tryz.sizeOf77
 obtain ⟨n8, hn8⟩ : ∃ n, w.heap.size = n := ⟨_, rfl⟩
 obtain ⟨Ah, ch, Aw, cw, h0⟩ := h
 have h1 := h0.alloc #[.int .i64 t.f0, .string t.f1, .string t.f2] 32 hn8
 obtain ⟨W8, hW8⟩ : ∃ W, w.alloc (.cells #[.int .i64 t.f0, .string t.f1, .string t.f2] 32) = W := ⟨_, rfl⟩
 rw [hW8] at h1
 have h2 := h1.perm (B := blkC n8 (.cells #[.int .i64 t.f0, .string t.f1, .string t.f2] 32 (0, 0)) :: blkC rp _ :: rowXC qE _ _ :: rowXC qE _ _ :: R) (List.perm_append_comm (l₂ := [_]))
 obtain ⟨n, hnn⟩ : ∃ n, r.holds.length = n := ⟨_, rfl⟩
 have HNN := Aside0.mk hnn
 rw [hnn] at h2 hn
 have HS := Aside0.mk h2
 have c0 : W8.cell? ⟨rp, 0, none⟩ = some (.slice Ah n ch) := (blk_cell (h2.blk 1 rfl) 0).trans rfl
 have pl := lt_of_some (h2.blk 1 rfl)
 clear h0 h1 h2 hnn
 unfold thgV
 go_enter Tryz.func22, Tryz.ntmps22
 go_wp2
 clear c0 pl
 go_loopg [7] n (fun gq v7 wx => ∃ i : Nat, v7 = .int .i64 i ∧ i + gq = n ∧ Aside0 ((r.holds.take i).find? (fun o => decide (o.1 = t) && o.2.1 == x) = none) ∧ Aside0 (St w0 F wx (blkC n8 (.cells #[.int .i64 t.f0, .string t.f1, .string t.f2] 32 (0, 0)) :: blkC rp (.cells #[.slice Ah n ch, .slice Aw r.waits.length cw] 30 (0, 0)) :: rowXC qE (.slice Ah n ch) (r.holds.map (qv false)) :: rowXC qE (.slice Aw r.waits.length cw) (r.waits.map (qv true)) :: R)))
 case atStart => exact ⟨0, rfl, by omega, Aside0.mk rfl, HS⟩
 case round =>
   clear HS
   obtain ⟨i, rfl, hi, HF, HS⟩ := hrel
   have c0 : wr.cell? ⟨rp, 0, none⟩ = some (.slice Ah n ch) := (blk_cell (HS.out.blk 1 rfl) 0).trans rfl
   have pl := lt_of_some (HS.out.blk 1 rfl)
   cases gk with
   | zero =>
     obtain rfl : i = n := by omega
     have hin : ¬ (i : Int) < (i : Int) := by omega
     go_wp2
     rw [← HQ.out]
     have hm : rmode r x t = 0 := by
       have h := HF.out
       rw [List.take_of_length_le (by rw [HNN.out]; exact Nat.le_refl _)] at h
       unfold rmode
       rw [h]
     refine ⟨by rw [hm], Ah, ch, Aw, cw, ?_⟩
     rw [HNN.out]
     exact St.drop (A := [_]) HS.out
   | succ gq =>
     have hin : (i : Int) < (n : Int) := by omega
     have hi0 : (0 : Int) ≤ (i : Int) := by omega
     have hi9 : (i : Int) ≤ 1000000 := by omega
     obtain ⟨o, ho⟩ : ∃ o, r.holds[i]? = some o := ⟨_, List.getElem?_eq_getElem (by rw [HNN.out]; omega)⟩
     obtain ⟨g1, c1, hv, _⟩ := row_slice (n := (r.holds.map (qv false)).length) (HS.out.rowX 2 rfl) (by rw [List.length_map, HNN.out]; omega)
     obtain ⟨rfl, rfl⟩ : Ah = some ⟨g1, 0, none⟩ ∧ ch = c1 := by
       injection hv with e1 e2 e3
       exact ⟨e1, e3⟩
     have HO := Aside0.mk ho
     clear hv ho
     go_wp2
     cases he : eqD ⟨o.1.f0, o.1.f1, o.1.f2⟩ ⟨t.f0, t.f1, t.f2⟩ with
     | false =>
       refine start_ (n := 23) (S := fun w' => w'.cell? ⟨rp, 0, none⟩ = some (.slice (some ⟨g1, 0, none⟩) n ch) ∧ w'.cell? ⟨g1, i * 6, none⟩ = some (.int .i64 o.1.f0) ∧ w'.cell? ⟨g1, i * 6 + 1, none⟩ = some (.string o.1.f1) ∧ w'.cell? ⟨g1, i * 6 + 2, none⟩ = some (.string o.1.f2) ∧ w'.cell? ⟨g1, i * 6 + 3, none⟩ = some (.int .i64 o.2.1) ∧ w'.cell? ⟨n8, 0, none⟩ = some (.int .i64 t.f0) ∧ w'.cell? ⟨n8, 1, none⟩ = some (.string t.f1) ∧ w'.cell? ⟨n8, 2, none⟩ = some (.string t.f2)) (ds := []) #[false, false, false, false, false, false, false, false, false, false, false, false, false, false, false, false, false, false, false, false, false, false, false] (by kernel_rfl) rfl rfl ⟨(blk_cell (HS.out.blk 1 rfl) 0).trans rfl, ((HS.out.rowX 2 rfl).q HO.out).1, ((HS.out.rowX 2 rfl).q HO.out).2.1, ((HS.out.rowX 2 rfl).q HO.out).2.2.1, ((HS.out.rowX 2 rfl).q HO.out).2.2.2.1, (blk_cell (HS.out.blk 0 rfl) 0).trans rfl, (blk_cell (HS.out.blk 0 rfl) 1).trans rfl, (blk_cell (HS.out.blk 0 rfl) 2).trans rfl⟩ (fun hHeld => ?_)
       have HS11 := Aside0.mk (HS.out.drew)
       clear HS
       generalize wr.drew = wd0 at HS11 hHeld  ⊢
       refine pu_ 0 17 (bs_ 23 1) ?_; refine pu_ 1 18 (bs_ 23 3) ?_; refine pu_ 2 19 (bs_ 23 7) ?_; refine pu_ 4 21 (bs_ 23 23) ?_; refine ta_ 3 20 (bs_ 23 31) hHeld ?_; refine pu_ 5 22 (bs_ 23 63) ?_; refine pu_ 6 23 (bs_ 23 127) ?_; refine ta_ 7 24 (bs_ 23 255) hHeld ?_; refine ta_ 8 25 (bs_ 23 511) hHeld ?_; refine pu_ 9 26 (bs_ 23 1023) ?_; refine pu_ 10 27 (bs_ 23 2047) ?_; refine pn_ 11 28 (bs_ 23 4095) ?_; refine pn_ 12 29 (bs_ 23 8191) ?_; refine pn_ 13 30 (bs_ 23 16383) ?_; refine pn_ 14 31 (bs_ 23 32767) ?_; refine pn_ 15 32 (bs_ 23 65535) ?_; refine pn_ 16 33 (bs_ 23 131071) ?_; refine pn_ 17 34 (bs_ 23 262143) ?_
       refine pn_ 18 35 (bs_ 23 524287) ?_; refine pn_ 19 36 (bs_ 23 1048575) ?_; refine pn_ 20 37 (bs_ 23 2097151) ?_; refine pn_ 21 38 (bs_ 23 4194303) ?_; refine pu_ 22 39 (bs_ 23 8388607) ?_
       refine done_ (by kernel_rfl) ?_
       clear hHeld c0 pl
       go_wp2
       go_roundg gq
       case measure => omega
       case rel => exact ⟨i + 1, by go_num, by omega, Aside0.mk (find_snoc HO.out HF.out (by rw [eqD_dec] at he; rw [show decide (o.1 = t) = false from he]; rfl)), HS11⟩
     | true =>
       cases hx : (o.2.1 == x) with
       | false =>
         refine start_ (n := 23) (S := fun w' => w'.cell? ⟨rp, 0, none⟩ = some (.slice (some ⟨g1, 0, none⟩) n ch) ∧ w'.cell? ⟨g1, i * 6, none⟩ = some (.int .i64 o.1.f0) ∧ w'.cell? ⟨g1, i * 6 + 1, none⟩ = some (.string o.1.f1) ∧ w'.cell? ⟨g1, i * 6 + 2, none⟩ = some (.string o.1.f2) ∧ w'.cell? ⟨g1, i * 6 + 3, none⟩ = some (.int .i64 o.2.1) ∧ w'.cell? ⟨n8, 0, none⟩ = some (.int .i64 t.f0) ∧ w'.cell? ⟨n8, 1, none⟩ = some (.string t.f1) ∧ w'.cell? ⟨n8, 2, none⟩ = some (.string t.f2)) (ds := []) #[false, false, false, false, false, false, false, false, false, false, false, false, false, false, false, false, false, false, false, false, false, false, false] (by kernel_rfl) rfl rfl ⟨(blk_cell (HS.out.blk 1 rfl) 0).trans rfl, ((HS.out.rowX 2 rfl).q HO.out).1, ((HS.out.rowX 2 rfl).q HO.out).2.1, ((HS.out.rowX 2 rfl).q HO.out).2.2.1, ((HS.out.rowX 2 rfl).q HO.out).2.2.2.1, (blk_cell (HS.out.blk 0 rfl) 0).trans rfl, (blk_cell (HS.out.blk 0 rfl) 1).trans rfl, (blk_cell (HS.out.blk 0 rfl) 2).trans rfl⟩ (fun hHeld => ?_)
         have HS21 := Aside0.mk (HS.out.drew)
         clear HS
         generalize wr.drew = wd1 at HS21 hHeld  ⊢
         refine pu_ 0 17 (bs_ 23 1) ?_; refine pu_ 1 18 (bs_ 23 3) ?_; refine pu_ 2 19 (bs_ 23 7) ?_; refine pu_ 4 21 (bs_ 23 23) ?_; refine ta_ 3 20 (bs_ 23 31) hHeld ?_; refine pu_ 5 22 (bs_ 23 63) ?_; refine pu_ 6 23 (bs_ 23 127) ?_; refine ta_ 7 24 (bs_ 23 255) hHeld ?_; refine ta_ 8 25 (bs_ 23 511) hHeld ?_; refine pu_ 9 26 (bs_ 23 1023) ?_; refine pu_ 10 27 (bs_ 23 2047) ?_; refine pu_ 11 28 (bs_ 23 4095) ?_; refine pu_ 12 29 (bs_ 23 8191) ?_; refine pu_ 13 30 (bs_ 23 16383) ?_; refine pu_ 15 32 (bs_ 23 49151) ?_; refine pu_ 20 37 (bs_ 23 1097727) ?_; refine ta_ 14 31 (bs_ 23 1114111) hHeld ?_
         refine pu_ 16 33 (bs_ 23 1179647) ?_; refine pu_ 17 34 (bs_ 23 1310719) ?_; refine pu_ 18 35 (bs_ 23 1572863) ?_; refine ta_ 19 36 (bs_ 23 2097151) hHeld ?_; refine pu_ 21 38 (bs_ 23 4194303) ?_; refine pu_ 22 39 (bs_ 23 8388607) ?_
         refine done_ (by kernel_rfl) ?_
         clear hHeld c0 pl
         go_wp2
         go_roundg gq
         case measure => omega
         case rel => exact ⟨i + 1, by go_num, by omega, Aside0.mk (find_snoc HO.out HF.out (by rw [hx, Bool.and_false])), HS21⟩
       | true =>
         refine start_ (n := 23) (S := fun w' => w'.cell? ⟨rp, 0, none⟩ = some (.slice (some ⟨g1, 0, none⟩) n ch) ∧ w'.cell? ⟨g1, i * 6, none⟩ = some (.int .i64 o.1.f0) ∧ w'.cell? ⟨g1, i * 6 + 1, none⟩ = some (.string o.1.f1) ∧ w'.cell? ⟨g1, i * 6 + 2, none⟩ = some (.string o.1.f2) ∧ w'.cell? ⟨g1, i * 6 + 3, none⟩ = some (.int .i64 o.2.1) ∧ w'.cell? ⟨n8, 0, none⟩ = some (.int .i64 t.f0) ∧ w'.cell? ⟨n8, 1, none⟩ = some (.string t.f1) ∧ w'.cell? ⟨n8, 2, none⟩ = some (.string t.f2)) (ds := []) #[false, false, false, false, false, false, false, false, false, false, false, false, false, false, false, false, false, false, false, false, false, false, false] (by kernel_rfl) rfl rfl ⟨(blk_cell (HS.out.blk 1 rfl) 0).trans rfl, ((HS.out.rowX 2 rfl).q HO.out).1, ((HS.out.rowX 2 rfl).q HO.out).2.1, ((HS.out.rowX 2 rfl).q HO.out).2.2.1, ((HS.out.rowX 2 rfl).q HO.out).2.2.2.1, (blk_cell (HS.out.blk 0 rfl) 0).trans rfl, (blk_cell (HS.out.blk 0 rfl) 1).trans rfl, (blk_cell (HS.out.blk 0 rfl) 2).trans rfl⟩ (fun hHeld => ?_)
         have HS31 := Aside0.mk (HS.out.drew)
         clear HS
         generalize wr.drew = wd2 at HS31 hHeld  ⊢
         refine pu_ 0 17 (bs_ 23 1) ?_; refine pu_ 1 18 (bs_ 23 3) ?_; refine pu_ 2 19 (bs_ 23 7) ?_; refine pu_ 4 21 (bs_ 23 23) ?_; refine ta_ 3 20 (bs_ 23 31) hHeld ?_; refine pu_ 5 22 (bs_ 23 63) ?_; refine pu_ 6 23 (bs_ 23 127) ?_; refine ta_ 7 24 (bs_ 23 255) hHeld ?_; refine ta_ 8 25 (bs_ 23 511) hHeld ?_; refine pu_ 9 26 (bs_ 23 1023) ?_; refine pu_ 10 27 (bs_ 23 2047) ?_; refine pu_ 11 28 (bs_ 23 4095) ?_; refine pu_ 12 29 (bs_ 23 8191) ?_; refine pu_ 13 30 (bs_ 23 16383) ?_; refine pu_ 15 32 (bs_ 23 49151) ?_; refine pu_ 20 37 (bs_ 23 1097727) ?_; refine ta_ 14 31 (bs_ 23 1114111) hHeld ?_
         refine pu_ 16 33 (bs_ 23 1179647) ?_; refine pu_ 17 34 (bs_ 23 1310719) ?_; refine pu_ 18 35 (bs_ 23 1572863) ?_; refine ta_ 19 36 (bs_ 23 2097151) hHeld ?_; refine pu_ 21 38 (bs_ 23 4194303) ?_; refine pu_ 22 39 (bs_ 23 8388607) ?_
         refine done_ (by kernel_rfl) ?_
         clear hHeld
         have c0 : wd2.cell? ⟨rp, 0, none⟩ = some (.slice (some ⟨g1, 0, none⟩) n ch) := (blk_cell (HS31.out.blk 1 rfl) 0).trans rfl
         have pl := lt_of_some (HS31.out.blk 1 rfl)
         obtain ⟨d0, d1, d2, d3, d4, d5⟩ := (HS31.out.rowX 2 rfl).q HO.out
         go_wp2
         rw [← HQ.out]
         have hm : rmode r x t = o.2.2 := by
           unfold rmode
           rw [find_here HO.out HF.out (by rw [hx, Bool.and_true]; rw [eqD_dec] at he; exact he)]
         refine ⟨by rw [hm]; rfl, some ⟨g1, 0, none⟩, ch, Aw, cw, ?_⟩
         rw [HNN.out]
         exact St.drop (A := [_]) HS31.out
end
end Go.Proofs.Kb
end
section
namespace Go.Proofs.Kb
open Go Go.RowKit Go.Proofs.YtkcjcdkmdooofaaGreat.Q Go.Proofs.YtkcjcdkmdooofaaGreatW.PrintWords Go.Proofs.YtkcjcdkmdooofaaGreatW.PrintLast Go.Proofs.YtkcjcdkmdooofaaGreatW.PrintMore
set_option maxRecDepth 100000
open Go.Proofs.Lk Go.Proofs.Mp
attribute [local go_sem high] eqT
theorem any_snoc {β : Type} {f : β → Bool} {l : List β} {i : Nat} {o : β} (h : l[i]? = some o) (hf : (l.take i).any f = false) (ho : f o = false) : (l.take (i + 1)).any f = false := by
 rw [List.take_add_one, h, List.any_append, hf]
 simp [ho]
theorem any_here {β : Type} {f : β → Bool} {l : List β} {i : Nat} {o : β} (h : l[i]? = some o) (ho : f o = true) : l.any f = true :=
 List.any_eq_true.2 ⟨o, List.mem_of_getElem? h, ho⟩
def canH (x : Int) (t : S32) (m : Int) (o : S32 × One) : Bool := decide (o.1 = t) && (o.2.1 != x && conf o.2.2 m)
def canW (t : S32) (m : Int) (o : S32 × One) : Bool := decide (o.1 = t) && conf o.2.2 m
section
variable {w0 w w' : World} {F : Nat → Prop} {rp : Nat} {r : RS S32} {R R' : List Chunk}
set_option maxHeartbeats 16000000 in
theorem qcan_calls (h : RQ w0 F rp r R w) (x : Int) (t : S32) (m : Int) (p : Nat) (hn : r.holds.length < 100000) (hnw : r.waits.length < 100000) (hp : p ≤ r.waits.length) :
   Calls Tryz.prog 40 #[.pointer (some ⟨rp, 0, none⟩), .int .i64 x, wantV t m, .int .i64 p] w fun E w' => E = .returned (.bool (rcan r x t m p)) ∧ RQ w0 F rp r R w' := by
 obtain ⟨Q, hQ⟩ : ∃ Q, (fun E w' => E = Ending.returned (.bool (rcan r x t m p)) ∧ RQ w0 F rp r R w') = Q := ⟨_, rfl⟩
 have HQ := Aside0.mk hQ
 rw [hQ]
 clear hQ
 have hu30 := Tryz.underlying30
 have hu28 := Tryz.underlying28
 have hu77 := Tryz.underlying77
 have hu75 := Tryz.underlying75
 have hu32 := Tryz.underlying32
 have hu34 := Tryz.underlying34
 have hz77 := Tryz.sizeOf77
 obtain ⟨n8, hn8⟩ : ∃ n, w.heap.size = n := ⟨_, rfl⟩
 obtain ⟨Ah, ch, Aw, cw, h0⟩ := h
 have h1 := h0.alloc #[.int .i64 t.f0, .string t.f1, .string t.f2, .int .i64 m] 34 hn8
 obtain ⟨W8, hW8⟩ : ∃ W, w.alloc (.cells #[.int .i64 t.f0, .string t.f1, .string t.f2, .int .i64 m] 34) = W := ⟨_, rfl⟩
 rw [hW8] at h1
 have h2 := h1.perm (B := blkC n8 (.cells #[.int .i64 t.f0, .string t.f1, .string t.f2, .int .i64 m] 34 (0, 0)) :: blkC rp _ :: rowXC qE _ _ :: rowXC qE _ _ :: R) (List.perm_append_comm (l₂ := [_]))
 obtain ⟨n, hnn⟩ : ∃ n, r.holds.length = n := ⟨_, rfl⟩
 obtain ⟨nw, hnnw⟩ : ∃ n, r.waits.length = n := ⟨_, rfl⟩
 have HNN := Aside0.mk hnn
 have HNW := Aside0.mk hnnw
 rw [hnn] at h2 hn
 rw [hnnw] at h2 hnw hp
 have HS := Aside0.mk h2
 have BACK := Aside0.mk (fun (W : World) (h : St w0 F W (blkC n8 (.cells #[.int .i64 t.f0, .string t.f1, .string t.f2, .int .i64 m] 34 (0, 0)) :: blkC rp (.cells #[.slice Ah n ch, .slice Aw nw cw] 30 (0, 0)) :: rowXC qE (.slice Ah n ch) (r.holds.map (qv false)) :: rowXC qE (.slice Aw nw cw) (r.waits.map (qv true)) :: R)) => (show RQ w0 F rp r R W from ⟨Ah, ch, Aw, cw, by rw [HNN.out, HNW.out]; exact St.drop (A := [_]) h⟩))
 have c0 : W8.cell? ⟨rp, 0, none⟩ = some (.slice Ah n ch) := (blk_cell (h2.blk 1 rfl) 0).trans rfl
 have pl := lt_of_some (h2.blk 1 rfl)
 clear h0 h1 h2 hnn hnnw
 unfold wantV
 go_enter Tryz.func40, Tryz.ntmps40
 go_wp2
 clear c0 pl
 go_loopg [9] n (fun gq v9 wx => ∃ i : Nat, v9 = .int .i64 i ∧ i + gq = n ∧ Aside0 ((r.holds.take i).any (canH x t m) = false) ∧ Aside0 (St w0 F wx (blkC n8 (.cells #[.int .i64 t.f0, .string t.f1, .string t.f2, .int .i64 m] 34 (0, 0)) :: blkC rp (.cells #[.slice Ah n ch, .slice Aw nw cw] 30 (0, 0)) :: rowXC qE (.slice Ah n ch) (r.holds.map (qv false)) :: rowXC qE (.slice Aw nw cw) (r.waits.map (qv true)) :: R)))
 case atStart => exact ⟨0, rfl, by omega, Aside0.mk rfl, HS⟩
 case round =>
   clear HS
   obtain ⟨i, rfl, hi, HF, HS⟩ := hrel
   have c0 : wr.cell? ⟨rp, 0, none⟩ = some (.slice Ah n ch) := (blk_cell (HS.out.blk 1 rfl) 0).trans rfl
   have pl := lt_of_some (HS.out.blk 1 rfl)
   cases gk with
   | zero =>
     obtain rfl : i = n := by omega
     have hin : ¬ (i : Int) < (i : Int) := by omega
     have hh : r.holds.any (canH x t m) = false := by
       have h := HF.out
       rwa [List.take_of_length_le (by rw [HNN.out]; exact Nat.le_refl _)] at h
     have HH := Aside0.mk hh
     clear hh HF
     go_wp2
     clear c0 pl
     go_loopg [10] p (fun gq v10 wx => ∃ j : Nat, v10 = .int .i64 j ∧ j + gq = p ∧ Aside0 ((r.waits.take j).any (canW t m) = false) ∧ Aside0 (St w0 F wx (blkC n8 (.cells #[.int .i64 t.f0, .string t.f1, .string t.f2, .int .i64 m] 34 (0, 0)) :: blkC rp (.cells #[.slice Ah i ch, .slice Aw nw cw] 30 (0, 0)) :: rowXC qE (.slice Ah i ch) (r.holds.map (qv false)) :: rowXC qE (.slice Aw nw cw) (r.waits.map (qv true)) :: R)))
     case atStart => exact ⟨0, rfl, by omega, Aside0.mk rfl, HS⟩
     case round =>
       clear HS
       obtain ⟨j, rfl, hj, HG, HS⟩ := hrel
       cases gk with
       | zero =>
         obtain rfl : j = p := by omega
         have hjn : ¬ (j : Int) < (j : Int) := by omega
         go_wp2
         rw [← HQ.out]
         have hm : rcan r x t m j = true := by
           show (!(r.holds.any (canH x t m)) && !((r.waits.take j).any (canW t m))) = true
           rw [HH.out, HG.out]
           try rfl
         exact ⟨by rw [hm], BACK.out _ HS.out⟩
       | succ gq =>
         have hjn : (j : Int) < (p : Int) := by omega
         have hj0 : (0 : Int) ≤ (j : Int) := by omega
         have hj9 : (j : Int) ≤ 1000000 := by omega
         have hjw : (j : Int) < (nw : Int) := by omega
         obtain ⟨o, ho⟩ : ∃ o, r.waits[j]? = some o := ⟨_, List.getElem?_eq_getElem (by rw [HNW.out]; omega)⟩
         obtain ⟨g1, c1, hv, _⟩ := row_slice (n := (r.waits.map (qv true)).length) (HS.out.rowX 3 rfl) (by rw [List.length_map, HNW.out]; omega)
         obtain ⟨rfl, rfl⟩ : Aw = some ⟨g1, 0, none⟩ ∧ cw = c1 := by
           injection hv with e1 e2 e3
           exact ⟨e1, e3⟩
         have HO := Aside0.mk ho
         have hot : (r.waits.take p)[j]? = some o := by rw [List.getElem?_take_of_lt (by omega)]; exact ho
         have HOT := Aside0.mk hot
         clear hv ho hot
         go_wp2
         cases he : eqD ⟨o.1.f0, o.1.f1, o.1.f2⟩ ⟨t.f0, t.f1, t.f2⟩ with
         | false =>
           refine start_ (n := 25) (S := fun w' => w'.cell? ⟨rp, 1, none⟩ = some (.slice (some ⟨g1, 0, none⟩) nw cw) ∧ w'.cell? ⟨g1, j * 6, none⟩ = some (.int .i64 o.1.f0) ∧ w'.cell? ⟨g1, j * 6 + 1, none⟩ = some (.string o.1.f1) ∧ w'.cell? ⟨g1, j * 6 + 2, none⟩ = some (.string o.1.f2) ∧ w'.cell? ⟨g1, j * 6 + 3, none⟩ = some (.int .i64 o.2.1) ∧ w'.cell? ⟨g1, j * 6 + 4, none⟩ = some (.int .i64 o.2.2) ∧ w'.cell? ⟨n8, 0, none⟩ = some (.int .i64 t.f0) ∧ w'.cell? ⟨n8, 1, none⟩ = some (.string t.f1) ∧ w'.cell? ⟨n8, 2, none⟩ = some (.string t.f2) ∧ w'.cell? ⟨n8, 3, none⟩ = some (.int .i64 m)) (ds := []) #[false, false, false, false, false, false, false, false, false, false, false, false, false, false, false, false, false, false, false, false, false, false, false, false, false] (by kernel_rfl) rfl rfl ⟨(blk_cell (HS.out.blk 1 rfl) 1).trans rfl, ((HS.out.rowX 3 rfl).q HO.out).1, ((HS.out.rowX 3 rfl).q HO.out).2.1, ((HS.out.rowX 3 rfl).q HO.out).2.2.1, ((HS.out.rowX 3 rfl).q HO.out).2.2.2.1, ((HS.out.rowX 3 rfl).q HO.out).2.2.2.2.1, (blk_cell (HS.out.blk 0 rfl) 0).trans rfl, (blk_cell (HS.out.blk 0 rfl) 1).trans rfl, (blk_cell (HS.out.blk 0 rfl) 2).trans rfl, (blk_cell (HS.out.blk 0 rfl) 3).trans rfl⟩ (fun hHeld => ?_)
           have HS51 := Aside0.mk (HS.out.drew)
           clear HS
           generalize wr.drew = wdW0 at HS51 hHeld  ⊢
           refine pu_ 0 63 (bs_ 25 1) ?_; refine pu_ 1 64 (bs_ 25 3) ?_; refine pu_ 2 65 (bs_ 25 7) ?_; refine pu_ 4 67 (bs_ 25 23) ?_; refine pu_ 8 71 (bs_ 25 279) ?_; refine ta_ 3 66 (bs_ 25 287) hHeld ?_; refine pu_ 5 68 (bs_ 25 319) ?_; refine pu_ 6 69 (bs_ 25 383) ?_; refine ta_ 7 70 (bs_ 25 511) hHeld ?_; refine ta_ 9 72 (bs_ 25 1023) hHeld ?_; refine pu_ 10 73 (bs_ 25 2047) ?_; refine pu_ 11 74 (bs_ 25 4095) ?_; refine pn_ 12 75 (bs_ 25 8191) ?_; refine pn_ 13 76 (bs_ 25 16383) ?_; refine pn_ 14 77 (bs_ 25 32767) ?_; refine pn_ 15 78 (bs_ 25 65535) ?_; refine pn_ 16 79 (bs_ 25 131071) ?_
           refine pn_ 17 80 (bs_ 25 262143) ?_; refine pn_ 18 81 (bs_ 25 524287) ?_; refine pn_ 19 82 (bs_ 25 1048575) ?_; refine pn_ 20 83 (bs_ 25 2097151) ?_; refine pn_ 21 84 (bs_ 25 4194303) ?_; refine pn_ 22 85 (bs_ 25 8388607) ?_
           refine one_ (i := 23) (N := (some 86)) (bs_ 25 16777215) rfl rfl (by kernel_rfl) (by decide) (fun K_ hK => ?_)
           refine no_ (by rfl) ?_
           refine hK.out _ _ hHeld (fun hHeld => ?_)
           clear hK K_
           refine norm_ (a' := ?_) ?_ ?_
           rotate_left
           · show Act.put _ (some 86) _ = _
             simp only [Act.put, List.setIfInBounds_toArray, List.set_cons_zero, List.set_cons_succ, i64_w, i32_w]
             rfl
           refine pu_ 24 87 (bs_ 25 33554431) ?_
           refine done_ (by kernel_rfl) ?_
           clear hHeld
           go_wp2
           go_roundg gq
           case measure => omega
           case rel => exact ⟨j + 1, by go_num, by omega, Aside0.mk (any_snoc HO.out HG.out (by unfold canW; rw [eqD_dec] at he; rw [show decide (o.1 = t) = false from he]; rfl)), HS51⟩
         | true =>
           have CF := Aside0.mk (fun W => rconf_calls W o.2.2 m)
           cases hc : conf o.2.2 m with
           | false =>
             rw [hc] at CF
             refine start_ (n := 25) (S := fun w' => w'.cell? ⟨rp, 1, none⟩ = some (.slice (some ⟨g1, 0, none⟩) nw cw) ∧ w'.cell? ⟨g1, j * 6, none⟩ = some (.int .i64 o.1.f0) ∧ w'.cell? ⟨g1, j * 6 + 1, none⟩ = some (.string o.1.f1) ∧ w'.cell? ⟨g1, j * 6 + 2, none⟩ = some (.string o.1.f2) ∧ w'.cell? ⟨g1, j * 6 + 3, none⟩ = some (.int .i64 o.2.1) ∧ w'.cell? ⟨g1, j * 6 + 4, none⟩ = some (.int .i64 o.2.2) ∧ w'.cell? ⟨n8, 0, none⟩ = some (.int .i64 t.f0) ∧ w'.cell? ⟨n8, 1, none⟩ = some (.string t.f1) ∧ w'.cell? ⟨n8, 2, none⟩ = some (.string t.f2) ∧ w'.cell? ⟨n8, 3, none⟩ = some (.int .i64 m)) (ds := []) #[false, false, false, false, false, false, false, false, false, false, false, false, false, false, false, false, false, false, false, false, false, false, false, false, false] (by kernel_rfl) rfl rfl ⟨(blk_cell (HS.out.blk 1 rfl) 1).trans rfl, ((HS.out.rowX 3 rfl).q HO.out).1, ((HS.out.rowX 3 rfl).q HO.out).2.1, ((HS.out.rowX 3 rfl).q HO.out).2.2.1, ((HS.out.rowX 3 rfl).q HO.out).2.2.2.1, ((HS.out.rowX 3 rfl).q HO.out).2.2.2.2.1, (blk_cell (HS.out.blk 0 rfl) 0).trans rfl, (blk_cell (HS.out.blk 0 rfl) 1).trans rfl, (blk_cell (HS.out.blk 0 rfl) 2).trans rfl, (blk_cell (HS.out.blk 0 rfl) 3).trans rfl⟩ (fun hHeld => ?_)
             have HS61 := Aside0.mk (HS.out.drew)
             clear HS
             generalize wr.drew = wdW1 at HS61 hHeld  ⊢
             refine pu_ 0 63 (bs_ 25 1) ?_; refine pu_ 1 64 (bs_ 25 3) ?_; refine pu_ 2 65 (bs_ 25 7) ?_; refine pu_ 4 67 (bs_ 25 23) ?_; refine pu_ 8 71 (bs_ 25 279) ?_; refine ta_ 3 66 (bs_ 25 287) hHeld ?_; refine pu_ 5 68 (bs_ 25 319) ?_; refine pu_ 6 69 (bs_ 25 383) ?_; refine ta_ 7 70 (bs_ 25 511) hHeld ?_; refine ta_ 9 72 (bs_ 25 1023) hHeld ?_; refine pu_ 10 73 (bs_ 25 2047) ?_; refine pu_ 11 74 (bs_ 25 4095) ?_; refine pu_ 12 75 (bs_ 25 8191) ?_; refine pu_ 13 76 (bs_ 25 16383) ?_; refine pu_ 14 77 (bs_ 25 32767) ?_; refine pu_ 16 79 (bs_ 25 98303) ?_; refine pu_ 21 84 (bs_ 25 2195455) ?_
             refine ta_ 15 78 (bs_ 25 2228223) hHeld ?_; refine pu_ 17 80 (bs_ 25 2359295) ?_; refine pu_ 18 81 (bs_ 25 2621439) ?_; refine pu_ 19 82 (bs_ 25 3145727) ?_; refine ta_ 20 83 (bs_ 25 4194303) hHeld ?_; refine ta_ 22 85 (bs_ 25 8388607) hHeld ?_
             refine one_ (i := 23) (N := (some 86)) (bs_ 25 16777215) rfl rfl (by kernel_rfl) (by decide) (fun K_ hK => ?_)
             refine goes_ Tryz.func53 (by kernel_rfl) rfl #[.int .i64 o.2.2, .int .i64 m] (by rfl) rfl rfl (by (try simp only [List.map_toArray, List.map_cons, List.map_nil]); first | done | rfl) ?_
             refine (CF.out _).mono ?_
             rintro E wc ⟨rfl, hb⟩
             have HS62 := Aside0.mk (HS61.out.below hb)
             clear HS61
             clear hb
             refine ⟨_, rfl, ?_⟩
             clear hHeld
             refine hK.out _ _ ⟨(blk_cell (HS62.out.blk 1 rfl) 1).trans rfl, ((HS62.out.rowX 3 rfl).q HO.out).1, ((HS62.out.rowX 3 rfl).q HO.out).2.1, ((HS62.out.rowX 3 rfl).q HO.out).2.2.1, ((HS62.out.rowX 3 rfl).q HO.out).2.2.2.1, ((HS62.out.rowX 3 rfl).q HO.out).2.2.2.2.1, (blk_cell (HS62.out.blk 0 rfl) 0).trans rfl, (blk_cell (HS62.out.blk 0 rfl) 1).trans rfl, (blk_cell (HS62.out.blk 0 rfl) 2).trans rfl, (blk_cell (HS62.out.blk 0 rfl) 3).trans rfl⟩ (fun hHeld => ?_)
             clear hK K_
             refine norm_ (a' := ?_) ?_ ?_
             rotate_left
             · show Act.put _ (some 86) _ = _
               simp only [Act.put, List.setIfInBounds_toArray, List.set_cons_zero, List.set_cons_succ, i64_w, i32_w]
               rfl
             refine pu_ 24 87 (bs_ 25 33554431) ?_
             refine done_ (by kernel_rfl) ?_
             clear hHeld
             go_wp2
             go_roundg gq
             case measure => omega
             case rel => exact ⟨j + 1, by go_num, by omega, Aside0.mk (any_snoc HO.out HG.out (by unfold canW; rw [hc, Bool.and_false])), HS62⟩
           | true =>
             rw [hc] at CF
             refine start_ (n := 25) (S := fun w' => w'.cell? ⟨rp, 1, none⟩ = some (.slice (some ⟨g1, 0, none⟩) nw cw) ∧ w'.cell? ⟨g1, j * 6, none⟩ = some (.int .i64 o.1.f0) ∧ w'.cell? ⟨g1, j * 6 + 1, none⟩ = some (.string o.1.f1) ∧ w'.cell? ⟨g1, j * 6 + 2, none⟩ = some (.string o.1.f2) ∧ w'.cell? ⟨g1, j * 6 + 3, none⟩ = some (.int .i64 o.2.1) ∧ w'.cell? ⟨g1, j * 6 + 4, none⟩ = some (.int .i64 o.2.2) ∧ w'.cell? ⟨n8, 0, none⟩ = some (.int .i64 t.f0) ∧ w'.cell? ⟨n8, 1, none⟩ = some (.string t.f1) ∧ w'.cell? ⟨n8, 2, none⟩ = some (.string t.f2) ∧ w'.cell? ⟨n8, 3, none⟩ = some (.int .i64 m)) (ds := []) #[false, false, false, false, false, false, false, false, false, false, false, false, false, false, false, false, false, false, false, false, false, false, false, false, false] (by kernel_rfl) rfl rfl ⟨(blk_cell (HS.out.blk 1 rfl) 1).trans rfl, ((HS.out.rowX 3 rfl).q HO.out).1, ((HS.out.rowX 3 rfl).q HO.out).2.1, ((HS.out.rowX 3 rfl).q HO.out).2.2.1, ((HS.out.rowX 3 rfl).q HO.out).2.2.2.1, ((HS.out.rowX 3 rfl).q HO.out).2.2.2.2.1, (blk_cell (HS.out.blk 0 rfl) 0).trans rfl, (blk_cell (HS.out.blk 0 rfl) 1).trans rfl, (blk_cell (HS.out.blk 0 rfl) 2).trans rfl, (blk_cell (HS.out.blk 0 rfl) 3).trans rfl⟩ (fun hHeld => ?_)
             have HS71 := Aside0.mk (HS.out.drew)
             clear HS
             generalize wr.drew = wdW2 at HS71 hHeld  ⊢
             refine pu_ 0 63 (bs_ 25 1) ?_; refine pu_ 1 64 (bs_ 25 3) ?_; refine pu_ 2 65 (bs_ 25 7) ?_; refine pu_ 4 67 (bs_ 25 23) ?_; refine pu_ 8 71 (bs_ 25 279) ?_; refine ta_ 3 66 (bs_ 25 287) hHeld ?_; refine pu_ 5 68 (bs_ 25 319) ?_; refine pu_ 6 69 (bs_ 25 383) ?_; refine ta_ 7 70 (bs_ 25 511) hHeld ?_; refine ta_ 9 72 (bs_ 25 1023) hHeld ?_; refine pu_ 10 73 (bs_ 25 2047) ?_; refine pu_ 11 74 (bs_ 25 4095) ?_; refine pu_ 12 75 (bs_ 25 8191) ?_; refine pu_ 13 76 (bs_ 25 16383) ?_; refine pu_ 14 77 (bs_ 25 32767) ?_; refine pu_ 16 79 (bs_ 25 98303) ?_; refine pu_ 21 84 (bs_ 25 2195455) ?_
             refine ta_ 15 78 (bs_ 25 2228223) hHeld ?_; refine pu_ 17 80 (bs_ 25 2359295) ?_; refine pu_ 18 81 (bs_ 25 2621439) ?_; refine pu_ 19 82 (bs_ 25 3145727) ?_; refine ta_ 20 83 (bs_ 25 4194303) hHeld ?_; refine ta_ 22 85 (bs_ 25 8388607) hHeld ?_
             refine one_ (i := 23) (N := (some 86)) (bs_ 25 16777215) rfl rfl (by kernel_rfl) (by decide) (fun K_ hK => ?_)
             refine goes_ Tryz.func53 (by kernel_rfl) rfl #[.int .i64 o.2.2, .int .i64 m] (by rfl) rfl rfl (by (try simp only [List.map_toArray, List.map_cons, List.map_nil]); first | done | rfl) ?_
             refine (CF.out _).mono ?_
             rintro E wc ⟨rfl, hb⟩
             have HS72 := Aside0.mk (HS71.out.below hb)
             clear HS71
             clear hb
             refine ⟨_, rfl, ?_⟩
             clear hHeld
             refine hK.out _ _ ⟨(blk_cell (HS72.out.blk 1 rfl) 1).trans rfl, ((HS72.out.rowX 3 rfl).q HO.out).1, ((HS72.out.rowX 3 rfl).q HO.out).2.1, ((HS72.out.rowX 3 rfl).q HO.out).2.2.1, ((HS72.out.rowX 3 rfl).q HO.out).2.2.2.1, ((HS72.out.rowX 3 rfl).q HO.out).2.2.2.2.1, (blk_cell (HS72.out.blk 0 rfl) 0).trans rfl, (blk_cell (HS72.out.blk 0 rfl) 1).trans rfl, (blk_cell (HS72.out.blk 0 rfl) 2).trans rfl, (blk_cell (HS72.out.blk 0 rfl) 3).trans rfl⟩ (fun hHeld => ?_)
             clear hK K_
             refine norm_ (a' := ?_) ?_ ?_
             rotate_left
             · show Act.put _ (some 86) _ = _
               simp only [Act.put, List.setIfInBounds_toArray, List.set_cons_zero, List.set_cons_succ, i64_w, i32_w]
               rfl
             refine pu_ 24 87 (bs_ 25 33554431) ?_
             refine done_ (by kernel_rfl) ?_
             clear hHeld
             go_wp2
             rw [← HQ.out]
             have hm : rcan r x t m p = false := by
               show (!(r.holds.any (canH x t m)) && !((r.waits.take p).any (canW t m))) = false
               rw [any_here HOT.out (show canW t m o = true by unfold canW; rw [hc, Bool.and_true]; rw [eqD_dec] at he; exact he)]
               rw [Bool.not_true, Bool.and_false]
             exact ⟨by rw [hm]; rfl, BACK.out _ HS72.out⟩
   | succ gq =>
     have hin : (i : Int) < (n : Int) := by omega
     have hi0 : (0 : Int) ≤ (i : Int) := by omega
     have hi9 : (i : Int) ≤ 1000000 := by omega
     obtain ⟨o, ho⟩ : ∃ o, r.holds[i]? = some o := ⟨_, List.getElem?_eq_getElem (by rw [HNN.out]; omega)⟩
     obtain ⟨g1, c1, hv, _⟩ := row_slice (n := (r.holds.map (qv false)).length) (HS.out.rowX 2 rfl) (by rw [List.length_map, HNN.out]; omega)
     obtain ⟨rfl, rfl⟩ : Ah = some ⟨g1, 0, none⟩ ∧ ch = c1 := by
       injection hv with e1 e2 e3
       exact ⟨e1, e3⟩
     have HO := Aside0.mk ho
     clear hv ho
     go_wp2
     cases he : eqD ⟨o.1.f0, o.1.f1, o.1.f2⟩ ⟨t.f0, t.f1, t.f2⟩ with
     | false =>
       refine start_ (n := 38) (S := fun w' => w'.cell? ⟨rp, 0, none⟩ = some (.slice (some ⟨g1, 0, none⟩) n ch) ∧ w'.cell? ⟨g1, i * 6, none⟩ = some (.int .i64 o.1.f0) ∧ w'.cell? ⟨g1, i * 6 + 1, none⟩ = some (.string o.1.f1) ∧ w'.cell? ⟨g1, i * 6 + 2, none⟩ = some (.string o.1.f2) ∧ w'.cell? ⟨g1, i * 6 + 3, none⟩ = some (.int .i64 o.2.1) ∧ w'.cell? ⟨g1, i * 6 + 4, none⟩ = some (.int .i64 o.2.2) ∧ w'.cell? ⟨n8, 0, none⟩ = some (.int .i64 t.f0) ∧ w'.cell? ⟨n8, 1, none⟩ = some (.string t.f1) ∧ w'.cell? ⟨n8, 2, none⟩ = some (.string t.f2) ∧ w'.cell? ⟨n8, 3, none⟩ = some (.int .i64 m)) (ds := []) #[false, false, false, false, false, false, false, false, false, false, false, false, false, false, false, false, false, false, false, false, false, false, false, false, false, false, false, false, false, false, false, false, false, false, false, false, false, false] (by kernel_rfl) rfl rfl ⟨(blk_cell (HS.out.blk 1 rfl) 0).trans rfl, ((HS.out.rowX 2 rfl).q HO.out).1, ((HS.out.rowX 2 rfl).q HO.out).2.1, ((HS.out.rowX 2 rfl).q HO.out).2.2.1, ((HS.out.rowX 2 rfl).q HO.out).2.2.2.1, ((HS.out.rowX 2 rfl).q HO.out).2.2.2.2.1, (blk_cell (HS.out.blk 0 rfl) 0).trans rfl, (blk_cell (HS.out.blk 0 rfl) 1).trans rfl, (blk_cell (HS.out.blk 0 rfl) 2).trans rfl, (blk_cell (HS.out.blk 0 rfl) 3).trans rfl⟩ (fun hHeld => ?_)
       have HS11 := Aside0.mk (HS.out.drew)
       clear HS
       generalize wr.drew = wd0 at HS11 hHeld  ⊢
       refine pu_ 0 20 (bs_ 38 1) ?_; refine pu_ 1 21 (bs_ 38 3) ?_; refine pu_ 2 22 (bs_ 38 7) ?_; refine pu_ 4 24 (bs_ 38 23) ?_; refine pu_ 8 28 (bs_ 38 279) ?_; refine ta_ 3 23 (bs_ 38 287) hHeld ?_; refine pu_ 5 25 (bs_ 38 319) ?_; refine pu_ 6 26 (bs_ 38 383) ?_; refine ta_ 7 27 (bs_ 38 511) hHeld ?_; refine ta_ 9 29 (bs_ 38 1023) hHeld ?_; refine pu_ 10 30 (bs_ 38 2047) ?_; refine pu_ 11 31 (bs_ 38 4095) ?_; refine pn_ 12 32 (bs_ 38 8191) ?_; refine pn_ 13 33 (bs_ 38 16383) ?_; refine pn_ 14 34 (bs_ 38 32767) ?_; refine pn_ 15 35 (bs_ 38 65535) ?_; refine pn_ 16 36 (bs_ 38 131071) ?_; refine pn_ 17 37 (bs_ 38 262143) ?_
       refine pn_ 18 38 (bs_ 38 524287) ?_; refine pn_ 19 39 (bs_ 38 1048575) ?_; refine pn_ 20 40 (bs_ 38 2097151) ?_; refine pn_ 21 41 (bs_ 38 4194303) ?_; refine pn_ 22 42 (bs_ 38 8388607) ?_; refine pu_ 23 43 (bs_ 38 16777215) ?_; refine pu_ 24 44 (bs_ 38 33554431) ?_; refine pn_ 25 45 (bs_ 38 67108863) ?_; refine pn_ 26 46 (bs_ 38 134217727) ?_; refine pn_ 27 47 (bs_ 38 268435455) ?_; refine pn_ 28 48 (bs_ 38 536870911) ?_; refine pn_ 29 49 (bs_ 38 1073741823) ?_; refine pn_ 30 50 (bs_ 38 2147483647) ?_; refine pn_ 31 51 (bs_ 38 4294967295) ?_; refine pn_ 32 52 (bs_ 38 8589934591) ?_; refine pn_ 33 53 (bs_ 38 17179869183) ?_
       refine pn_ 34 54 (bs_ 38 34359738367) ?_; refine pn_ 35 55 (bs_ 38 68719476735) ?_
       refine one_ (i := 36) (N := (some 56)) (bs_ 38 137438953471) rfl rfl (by kernel_rfl) (by decide) (fun K_ hK => ?_)
       refine no_ (by rfl) ?_
       refine hK.out _ _ hHeld (fun hHeld => ?_)
       clear hK K_
       refine norm_ (a' := ?_) ?_ ?_
       rotate_left
       · show Act.put _ (some 56) _ = _
         simp only [Act.put, List.setIfInBounds_toArray, List.set_cons_zero, List.set_cons_succ, i64_w, i32_w]
         rfl
       refine pu_ 37 57 (bs_ 38 274877906943) ?_
       refine done_ (by kernel_rfl) ?_
       clear hHeld c0 pl
       go_wp2
       go_roundg gq
       case measure => omega
       case rel => exact ⟨i + 1, by go_num, by omega, Aside0.mk (any_snoc HO.out HF.out (by unfold canH; rw [eqD_dec] at he; rw [show decide (o.1 = t) = false from he]; rfl)), HS11⟩
     | true =>
       cases hx : (o.2.1 == x) with
       | true =>
         have hx2 : (o.2.1 != x) = false := by unfold bne; rw [hx]; rfl
         refine start_ (n := 38) (S := fun w' => w'.cell? ⟨rp, 0, none⟩ = some (.slice (some ⟨g1, 0, none⟩) n ch) ∧ w'.cell? ⟨g1, i * 6, none⟩ = some (.int .i64 o.1.f0) ∧ w'.cell? ⟨g1, i * 6 + 1, none⟩ = some (.string o.1.f1) ∧ w'.cell? ⟨g1, i * 6 + 2, none⟩ = some (.string o.1.f2) ∧ w'.cell? ⟨g1, i * 6 + 3, none⟩ = some (.int .i64 o.2.1) ∧ w'.cell? ⟨g1, i * 6 + 4, none⟩ = some (.int .i64 o.2.2) ∧ w'.cell? ⟨n8, 0, none⟩ = some (.int .i64 t.f0) ∧ w'.cell? ⟨n8, 1, none⟩ = some (.string t.f1) ∧ w'.cell? ⟨n8, 2, none⟩ = some (.string t.f2) ∧ w'.cell? ⟨n8, 3, none⟩ = some (.int .i64 m)) (ds := []) #[false, false, false, false, false, false, false, false, false, false, false, false, false, false, false, false, false, false, false, false, false, false, false, false, false, false, false, false, false, false, false, false, false, false, false, false, false, false] (by kernel_rfl) rfl rfl ⟨(blk_cell (HS.out.blk 1 rfl) 0).trans rfl, ((HS.out.rowX 2 rfl).q HO.out).1, ((HS.out.rowX 2 rfl).q HO.out).2.1, ((HS.out.rowX 2 rfl).q HO.out).2.2.1, ((HS.out.rowX 2 rfl).q HO.out).2.2.2.1, ((HS.out.rowX 2 rfl).q HO.out).2.2.2.2.1, (blk_cell (HS.out.blk 0 rfl) 0).trans rfl, (blk_cell (HS.out.blk 0 rfl) 1).trans rfl, (blk_cell (HS.out.blk 0 rfl) 2).trans rfl, (blk_cell (HS.out.blk 0 rfl) 3).trans rfl⟩ (fun hHeld => ?_)
         have HS21 := Aside0.mk (HS.out.drew)
         clear HS
         generalize wr.drew = wd1 at HS21 hHeld  ⊢
         refine pu_ 0 20 (bs_ 38 1) ?_; refine pu_ 1 21 (bs_ 38 3) ?_; refine pu_ 2 22 (bs_ 38 7) ?_; refine pu_ 4 24 (bs_ 38 23) ?_; refine pu_ 8 28 (bs_ 38 279) ?_; refine ta_ 3 23 (bs_ 38 287) hHeld ?_; refine pu_ 5 25 (bs_ 38 319) ?_; refine pu_ 6 26 (bs_ 38 383) ?_; refine ta_ 7 27 (bs_ 38 511) hHeld ?_; refine ta_ 9 29 (bs_ 38 1023) hHeld ?_; refine pu_ 10 30 (bs_ 38 2047) ?_; refine pu_ 11 31 (bs_ 38 4095) ?_; refine pu_ 12 32 (bs_ 38 8191) ?_; refine pu_ 13 33 (bs_ 38 16383) ?_; refine pu_ 14 34 (bs_ 38 32767) ?_; refine pu_ 16 36 (bs_ 38 98303) ?_; refine pu_ 21 41 (bs_ 38 2195455) ?_
         refine ta_ 15 35 (bs_ 38 2228223) hHeld ?_; refine pu_ 17 37 (bs_ 38 2359295) ?_; refine pu_ 18 38 (bs_ 38 2621439) ?_; refine pu_ 19 39 (bs_ 38 3145727) ?_; refine ta_ 20 40 (bs_ 38 4194303) hHeld ?_; refine pu_ 22 42 (bs_ 38 8388607) ?_; refine pu_ 23 43 (bs_ 38 16777215) ?_; refine pu_ 24 44 (bs_ 38 33554431) ?_; refine pn_ 25 45 (bs_ 38 67108863) ?_; refine pn_ 26 46 (bs_ 38 134217727) ?_; refine pn_ 27 47 (bs_ 38 268435455) ?_; refine pn_ 28 48 (bs_ 38 536870911) ?_; refine pn_ 29 49 (bs_ 38 1073741823) ?_; refine pn_ 30 50 (bs_ 38 2147483647) ?_; refine pn_ 31 51 (bs_ 38 4294967295) ?_
         refine pn_ 32 52 (bs_ 38 8589934591) ?_; refine pn_ 33 53 (bs_ 38 17179869183) ?_; refine pn_ 34 54 (bs_ 38 34359738367) ?_; refine pn_ 35 55 (bs_ 38 68719476735) ?_
         refine one_ (i := 36) (N := (some 56)) (bs_ 38 137438953471) rfl rfl (by kernel_rfl) (by decide) (fun K_ hK => ?_)
         refine no_ (by rfl) ?_
         refine hK.out _ _ hHeld (fun hHeld => ?_)
         clear hK K_
         refine norm_ (a' := ?_) ?_ ?_
         rotate_left
         · show Act.put _ (some 56) _ = _
           simp only [Act.put, List.setIfInBounds_toArray, List.set_cons_zero, List.set_cons_succ, i64_w, i32_w]
           rfl
         refine pu_ 37 57 (bs_ 38 274877906943) ?_
         refine done_ (by kernel_rfl) ?_
         clear hHeld c0 pl
         go_wp2
         go_roundg gq
         case measure => omega
         case rel => exact ⟨i + 1, by go_num, by omega, Aside0.mk (any_snoc HO.out HF.out (by unfold canH bne; rw [hx, Bool.not_true, Bool.false_and, Bool.and_false])), HS21⟩
       | false =>
         have hx2 : (o.2.1 != x) = true := by unfold bne; rw [hx]; rfl
         have CF := Aside0.mk (fun W => rconf_calls W o.2.2 m)
         cases hc : conf o.2.2 m with
         | false =>
           rw [hc] at CF
           refine start_ (n := 38) (S := fun w' => w'.cell? ⟨rp, 0, none⟩ = some (.slice (some ⟨g1, 0, none⟩) n ch) ∧ w'.cell? ⟨g1, i * 6, none⟩ = some (.int .i64 o.1.f0) ∧ w'.cell? ⟨g1, i * 6 + 1, none⟩ = some (.string o.1.f1) ∧ w'.cell? ⟨g1, i * 6 + 2, none⟩ = some (.string o.1.f2) ∧ w'.cell? ⟨g1, i * 6 + 3, none⟩ = some (.int .i64 o.2.1) ∧ w'.cell? ⟨g1, i * 6 + 4, none⟩ = some (.int .i64 o.2.2) ∧ w'.cell? ⟨n8, 0, none⟩ = some (.int .i64 t.f0) ∧ w'.cell? ⟨n8, 1, none⟩ = some (.string t.f1) ∧ w'.cell? ⟨n8, 2, none⟩ = some (.string t.f2) ∧ w'.cell? ⟨n8, 3, none⟩ = some (.int .i64 m)) (ds := []) #[false, false, false, false, false, false, false, false, false, false, false, false, false, false, false, false, false, false, false, false, false, false, false, false, false, false, false, false, false, false, false, false, false, false, false, false, false, false] (by kernel_rfl) rfl rfl ⟨(blk_cell (HS.out.blk 1 rfl) 0).trans rfl, ((HS.out.rowX 2 rfl).q HO.out).1, ((HS.out.rowX 2 rfl).q HO.out).2.1, ((HS.out.rowX 2 rfl).q HO.out).2.2.1, ((HS.out.rowX 2 rfl).q HO.out).2.2.2.1, ((HS.out.rowX 2 rfl).q HO.out).2.2.2.2.1, (blk_cell (HS.out.blk 0 rfl) 0).trans rfl, (blk_cell (HS.out.blk 0 rfl) 1).trans rfl, (blk_cell (HS.out.blk 0 rfl) 2).trans rfl, (blk_cell (HS.out.blk 0 rfl) 3).trans rfl⟩ (fun hHeld => ?_)
           have HS31 := Aside0.mk (HS.out.drew)
           clear HS
           generalize wr.drew = wd2 at HS31 hHeld  ⊢
           refine pu_ 0 20 (bs_ 38 1) ?_; refine pu_ 1 21 (bs_ 38 3) ?_; refine pu_ 2 22 (bs_ 38 7) ?_; refine pu_ 4 24 (bs_ 38 23) ?_; refine pu_ 8 28 (bs_ 38 279) ?_; refine ta_ 3 23 (bs_ 38 287) hHeld ?_; refine pu_ 5 25 (bs_ 38 319) ?_; refine pu_ 6 26 (bs_ 38 383) ?_; refine ta_ 7 27 (bs_ 38 511) hHeld ?_; refine ta_ 9 29 (bs_ 38 1023) hHeld ?_; refine pu_ 10 30 (bs_ 38 2047) ?_; refine pu_ 11 31 (bs_ 38 4095) ?_; refine pu_ 12 32 (bs_ 38 8191) ?_; refine pu_ 13 33 (bs_ 38 16383) ?_; refine pu_ 14 34 (bs_ 38 32767) ?_; refine pu_ 16 36 (bs_ 38 98303) ?_; refine pu_ 21 41 (bs_ 38 2195455) ?_
           refine ta_ 15 35 (bs_ 38 2228223) hHeld ?_; refine pu_ 17 37 (bs_ 38 2359295) ?_; refine pu_ 18 38 (bs_ 38 2621439) ?_; refine pu_ 19 39 (bs_ 38 3145727) ?_; refine ta_ 20 40 (bs_ 38 4194303) hHeld ?_; refine pu_ 22 42 (bs_ 38 8388607) ?_; refine pu_ 23 43 (bs_ 38 16777215) ?_; refine pu_ 24 44 (bs_ 38 33554431) ?_; refine pu_ 25 45 (bs_ 38 67108863) ?_; refine pu_ 26 46 (bs_ 38 134217727) ?_; refine pu_ 27 47 (bs_ 38 268435455) ?_; refine pu_ 29 49 (bs_ 38 805306367) ?_; refine pu_ 34 54 (bs_ 38 17985175551) ?_; refine ta_ 28 48 (bs_ 38 18253611007) hHeld ?_; refine pu_ 30 50 (bs_ 38 19327352831) ?_
           refine pu_ 31 51 (bs_ 38 21474836479) ?_; refine pu_ 32 52 (bs_ 38 25769803775) ?_; refine ta_ 33 53 (bs_ 38 34359738367) hHeld ?_; refine ta_ 35 55 (bs_ 38 68719476735) hHeld ?_
           refine one_ (i := 36) (N := (some 56)) (bs_ 38 137438953471) rfl rfl (by kernel_rfl) (by decide) (fun K_ hK => ?_)
           refine goes_ Tryz.func53 (by kernel_rfl) rfl #[.int .i64 o.2.2, .int .i64 m] (by rfl) rfl rfl (by (try simp only [List.map_toArray, List.map_cons, List.map_nil]); first | done | rfl) ?_
           refine (CF.out _).mono ?_
           rintro E wc ⟨rfl, hb⟩
           have HS32 := Aside0.mk (HS31.out.below hb)
           clear HS31
           clear hb
           refine ⟨_, rfl, ?_⟩
           clear hHeld
           refine hK.out _ _ ⟨(blk_cell (HS32.out.blk 1 rfl) 0).trans rfl, ((HS32.out.rowX 2 rfl).q HO.out).1, ((HS32.out.rowX 2 rfl).q HO.out).2.1, ((HS32.out.rowX 2 rfl).q HO.out).2.2.1, ((HS32.out.rowX 2 rfl).q HO.out).2.2.2.1, ((HS32.out.rowX 2 rfl).q HO.out).2.2.2.2.1, (blk_cell (HS32.out.blk 0 rfl) 0).trans rfl, (blk_cell (HS32.out.blk 0 rfl) 1).trans rfl, (blk_cell (HS32.out.blk 0 rfl) 2).trans rfl, (blk_cell (HS32.out.blk 0 rfl) 3).trans rfl⟩ (fun hHeld => ?_)
           clear hK K_
           refine norm_ (a' := ?_) ?_ ?_
           rotate_left
           · show Act.put _ (some 56) _ = _
             simp only [Act.put, List.setIfInBounds_toArray, List.set_cons_zero, List.set_cons_succ, i64_w, i32_w]
             rfl
           refine pu_ 37 57 (bs_ 38 274877906943) ?_
           refine done_ (by kernel_rfl) ?_
           clear hHeld c0 pl
           go_wp2
           go_roundg gq
           case measure => omega
           case rel => exact ⟨i + 1, by go_num, by omega, Aside0.mk (any_snoc HO.out HF.out (by unfold canH; rw [hc, Bool.and_false, Bool.and_false])), HS32⟩
         | true =>
           rw [hc] at CF
           refine start_ (n := 38) (S := fun w' => w'.cell? ⟨rp, 0, none⟩ = some (.slice (some ⟨g1, 0, none⟩) n ch) ∧ w'.cell? ⟨g1, i * 6, none⟩ = some (.int .i64 o.1.f0) ∧ w'.cell? ⟨g1, i * 6 + 1, none⟩ = some (.string o.1.f1) ∧ w'.cell? ⟨g1, i * 6 + 2, none⟩ = some (.string o.1.f2) ∧ w'.cell? ⟨g1, i * 6 + 3, none⟩ = some (.int .i64 o.2.1) ∧ w'.cell? ⟨g1, i * 6 + 4, none⟩ = some (.int .i64 o.2.2) ∧ w'.cell? ⟨n8, 0, none⟩ = some (.int .i64 t.f0) ∧ w'.cell? ⟨n8, 1, none⟩ = some (.string t.f1) ∧ w'.cell? ⟨n8, 2, none⟩ = some (.string t.f2) ∧ w'.cell? ⟨n8, 3, none⟩ = some (.int .i64 m)) (ds := []) #[false, false, false, false, false, false, false, false, false, false, false, false, false, false, false, false, false, false, false, false, false, false, false, false, false, false, false, false, false, false, false, false, false, false, false, false, false, false] (by kernel_rfl) rfl rfl ⟨(blk_cell (HS.out.blk 1 rfl) 0).trans rfl, ((HS.out.rowX 2 rfl).q HO.out).1, ((HS.out.rowX 2 rfl).q HO.out).2.1, ((HS.out.rowX 2 rfl).q HO.out).2.2.1, ((HS.out.rowX 2 rfl).q HO.out).2.2.2.1, ((HS.out.rowX 2 rfl).q HO.out).2.2.2.2.1, (blk_cell (HS.out.blk 0 rfl) 0).trans rfl, (blk_cell (HS.out.blk 0 rfl) 1).trans rfl, (blk_cell (HS.out.blk 0 rfl) 2).trans rfl, (blk_cell (HS.out.blk 0 rfl) 3).trans rfl⟩ (fun hHeld => ?_)
           have HS41 := Aside0.mk (HS.out.drew)
           clear HS
           generalize wr.drew = wd3 at HS41 hHeld  ⊢
           refine pu_ 0 20 (bs_ 38 1) ?_; refine pu_ 1 21 (bs_ 38 3) ?_; refine pu_ 2 22 (bs_ 38 7) ?_; refine pu_ 4 24 (bs_ 38 23) ?_; refine pu_ 8 28 (bs_ 38 279) ?_; refine ta_ 3 23 (bs_ 38 287) hHeld ?_; refine pu_ 5 25 (bs_ 38 319) ?_; refine pu_ 6 26 (bs_ 38 383) ?_; refine ta_ 7 27 (bs_ 38 511) hHeld ?_; refine ta_ 9 29 (bs_ 38 1023) hHeld ?_; refine pu_ 10 30 (bs_ 38 2047) ?_; refine pu_ 11 31 (bs_ 38 4095) ?_; refine pu_ 12 32 (bs_ 38 8191) ?_; refine pu_ 13 33 (bs_ 38 16383) ?_; refine pu_ 14 34 (bs_ 38 32767) ?_; refine pu_ 16 36 (bs_ 38 98303) ?_; refine pu_ 21 41 (bs_ 38 2195455) ?_
           refine ta_ 15 35 (bs_ 38 2228223) hHeld ?_; refine pu_ 17 37 (bs_ 38 2359295) ?_; refine pu_ 18 38 (bs_ 38 2621439) ?_; refine pu_ 19 39 (bs_ 38 3145727) ?_; refine ta_ 20 40 (bs_ 38 4194303) hHeld ?_; refine pu_ 22 42 (bs_ 38 8388607) ?_; refine pu_ 23 43 (bs_ 38 16777215) ?_; refine pu_ 24 44 (bs_ 38 33554431) ?_; refine pu_ 25 45 (bs_ 38 67108863) ?_; refine pu_ 26 46 (bs_ 38 134217727) ?_; refine pu_ 27 47 (bs_ 38 268435455) ?_; refine pu_ 29 49 (bs_ 38 805306367) ?_; refine pu_ 34 54 (bs_ 38 17985175551) ?_; refine ta_ 28 48 (bs_ 38 18253611007) hHeld ?_; refine pu_ 30 50 (bs_ 38 19327352831) ?_
           refine pu_ 31 51 (bs_ 38 21474836479) ?_; refine pu_ 32 52 (bs_ 38 25769803775) ?_; refine ta_ 33 53 (bs_ 38 34359738367) hHeld ?_; refine ta_ 35 55 (bs_ 38 68719476735) hHeld ?_
           refine one_ (i := 36) (N := (some 56)) (bs_ 38 137438953471) rfl rfl (by kernel_rfl) (by decide) (fun K_ hK => ?_)
           refine goes_ Tryz.func53 (by kernel_rfl) rfl #[.int .i64 o.2.2, .int .i64 m] (by rfl) rfl rfl (by (try simp only [List.map_toArray, List.map_cons, List.map_nil]); first | done | rfl) ?_
           refine (CF.out _).mono ?_
           rintro E wc ⟨rfl, hb⟩
           have HS42 := Aside0.mk (HS41.out.below hb)
           clear HS41
           clear hb
           refine ⟨_, rfl, ?_⟩
           clear hHeld
           refine hK.out _ _ ⟨(blk_cell (HS42.out.blk 1 rfl) 0).trans rfl, ((HS42.out.rowX 2 rfl).q HO.out).1, ((HS42.out.rowX 2 rfl).q HO.out).2.1, ((HS42.out.rowX 2 rfl).q HO.out).2.2.1, ((HS42.out.rowX 2 rfl).q HO.out).2.2.2.1, ((HS42.out.rowX 2 rfl).q HO.out).2.2.2.2.1, (blk_cell (HS42.out.blk 0 rfl) 0).trans rfl, (blk_cell (HS42.out.blk 0 rfl) 1).trans rfl, (blk_cell (HS42.out.blk 0 rfl) 2).trans rfl, (blk_cell (HS42.out.blk 0 rfl) 3).trans rfl⟩ (fun hHeld => ?_)
           clear hK K_
           refine norm_ (a' := ?_) ?_ ?_
           rotate_left
           · show Act.put _ (some 56) _ = _
             simp only [Act.put, List.setIfInBounds_toArray, List.set_cons_zero, List.set_cons_succ, i64_w, i32_w]
             rfl
           refine pu_ 37 57 (bs_ 38 274877906943) ?_
           refine done_ (by kernel_rfl) ?_
           clear hHeld c0 pl
           go_wp2
           rw [← HQ.out]
           have hm : rcan r x t m p = false := by
             show (!(r.holds.any (canH x t m)) && !((r.waits.take p).any (canW t m))) = false
             rw [any_here HO.out (show canH x t m o = true by unfold canH bne; rw [hx, hc, Bool.not_false, Bool.and_true, Bool.and_true]; rw [eqD_dec] at he; exact he)]
             rfl
           exact ⟨by rw [hm]; rfl, BACK.out _ HS42.out⟩
end
end Go.Proofs.Kb
end
