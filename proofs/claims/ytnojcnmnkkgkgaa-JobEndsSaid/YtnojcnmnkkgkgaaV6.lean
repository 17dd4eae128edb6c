/- Packed by shake.py: YtnojcnmnkkgkgaaJL3 YtnojcnmnkkgkgaaQ12 YtnojcnmnkkgkgaaQ13 YtnojcnmnkkgkgaaJG2 YtnojcnmnkkgkgaaJL4 YtnojcnmnkkgkgaaJL5 YtnojcnmnkkgkgaaR YtnojcnmnkkgkgaaJR1 -/
import Derived.OpenShut
import Derived.WalkArith
import Derived.Deep.Slices
import Derived.ChangeArms
import Derived.DataReads
import Derived.Test.YtnojcnmnkkgkgaaV5
set_option linter.unusedSectionVars false
section
namespace Go.Proofs.Kb
open Go Go.RowKit Go.Proofs.Ytnojcnmnkkgkgaa.Q Go.Proofs.YtnojcnmnkkgkgaaW.PrintWords Go.Proofs.YtnojcnmnkkgkgaaW.PrintLast Go.Proofs.YtnojcnmnkkgkgaaW.PrintMore
set_option linter.unusedVariables false
set_option linter.unusedSimpArgs false
set_option maxRecDepth 100000
theorem box11 {W : World} {n0 : Nat} {x : SV} (hb : W.heap[n0]? = some (.cells #[.int .i64 x.f0, .string x.f1, .string x.f2, .string x.f3, .int .i64 x.f4, .bool x.f5, .slice x.f6.A x.f6.n x.f6.c, .slice x.f7.A x.f7.n x.f7.c, .slice x.f8.A x.f8.n x.f8.c, .slice x.f9.A x.f9.n x.f9.c, .slice x.f10.A x.f10.n x.f10.c] 28 (0, 0))) : W.cell? ⟨n0, 0, none⟩ = some (.int .i64 x.f0) ∧ W.cell? ⟨n0, 1, none⟩ = some (.string x.f1) ∧ W.cell? ⟨n0, 2, none⟩ = some (.string x.f2) ∧ W.cell? ⟨n0, 3, none⟩ = some (.string x.f3) ∧ W.cell? ⟨n0, 4, none⟩ = some (.int .i64 x.f4) ∧ W.cell? ⟨n0, 5, none⟩ = some (.bool x.f5) ∧ W.cell? ⟨n0, 6, none⟩ = some (.slice x.f6.A x.f6.n x.f6.c) ∧ W.cell? ⟨n0, 7, none⟩ = some (.slice x.f7.A x.f7.n x.f7.c) ∧ W.cell? ⟨n0, 8, none⟩ = some (.slice x.f8.A x.f8.n x.f8.c) ∧ W.cell? ⟨n0, 9, none⟩ = some (.slice x.f9.A x.f9.n x.f9.c) ∧ W.cell? ⟨n0, 10, none⟩ = some (.slice x.f10.A x.f10.n x.f10.c) :=
  ⟨(blk_cell hb 0).trans rfl, (blk_cell hb 1).trans rfl, (blk_cell hb 2).trans rfl, (blk_cell hb 3).trans rfl, (blk_cell hb 4).trans rfl, (blk_cell hb 5).trans rfl, (blk_cell hb 6).trans rfl, (blk_cell hb 7).trans rfl, (blk_cell hb 8).trans rfl, (blk_cell hb 9).trans rfl, (blk_cell hb 10).trans rfl⟩
end Go.Proofs.Kb
end
section
namespace Go.Proofs.Ytnojcnmnkkgkgaa.Q
open Go.RowKit Go.Proofs.YtnojcnmnkkgkgaaW.PrintWords Go.Proofs.YtnojcnmnkkgkgaaW.PrintLast Go.Proofs.YtnojcnmnkkgkgaaW.PrintMore
attribute [local go_sem] max2_int min2_int max_two min_two max_three min_three max_four min_four
set_option linter.unusedVariables false
set_option linter.unusedSimpArgs false
mutual
def interlocklaw22_great.j0 : Nat → List (S60) → Bool → Option (Bool)
  | 0, _, _ => none
  | k + 1, x1, x19 => if x19 = true then (some true) else (interlocklaw22_great.l0 k x1 0)
def interlocklaw22_great.l0 : Nat → List (S60) → Int → Option (Bool)
  | 0, _, _ => none
  | k + 1, x1, x7 => if x7 < (x1.length : Int) then (if 0 ≤ x7 then (if (((rd_T60 x1 x7).f2).size : Int) > 50 then (some true) else (interlocklaw22_great.l0 k x1 (wrap64 (x7 + 1)))) else (none)) else (some false)
end
def interlocklaw22_great.f (k : Nat) (a0_0 : Int) (a0_1 : ByteArray) (a0_2 : ByteArray) (a0_3 : ByteArray) (a0_4 : Int) (a0_5 : Bool) (l0_6 : List (S60)) (l0_7 : List (S62)) (l0_8 : List (S64)) (l0_9 : List (S66)) (l0_10 : List ByteArray) (l1 : List (S60)) (l2 : List Int) : Option (Bool) := (interlocklaw15_GreatStmt.f k a0_0 a0_1 a0_2 a0_3 a0_4 a0_5 l0_6 l0_7 l0_8 l0_9 l0_10).bind fun t115 => (if t115 = true then (interlocklaw22_great.j0 k l1 true) else (if (l1.length : Int) > 10 then (interlocklaw22_great.j0 k l1 true) else (interlocklaw22_great.j0 k l1 (decide ((l2.length : Int) > 200)))))
theorem interlocklaw22_great.mono_l : ∀ k, (∀ y0 y1, LeO (interlocklaw22_great.j0 k y0 y1) (interlocklaw22_great.j0 (k + 1) y0 y1)) ∧ (∀ y0 y1, LeO (interlocklaw22_great.l0 k y0 y1) (interlocklaw22_great.l0 (k + 1) y0 y1))
  | 0 => ⟨fun _ _ r h => by simp [interlocklaw22_great.j0] at h, fun _ _ r h => by simp [interlocklaw22_great.l0] at h⟩
  | k + 1 => by
    obtain ⟨ih0, ih1⟩ := interlocklaw22_great.mono_l k
    refine ⟨?_, ?_⟩
    · intro y0 y1
      unfold interlocklaw22_great.j0
      repeat' first
      | (with_reducible exact ih0 _ _)
      | (with_reducible exact ih1 _ _)
      | (with_reducible exact interlocklaw15_GreatStmt.mono _ _ _ _ _ _ _ _ _ _ _ _)
      | (with_reducible exact LeO.refl _)
      | (with_reducible exact LeO.none _)
      | (with_reducible refine LeO.ite ?_ ?_)
      | (with_reducible refine LeO.bind ?_ (fun _ => ?_))
      | exact ih0 _ _
      | exact ih1 _ _
      | exact interlocklaw15_GreatStmt.mono _ _ _ _ _ _ _ _ _ _ _ _
      | exact LeO.none _
      | refine LeO.ite ?_ ?_
      | refine LeO.bind ?_ (fun _ => ?_)
    · intro y0 y1
      unfold interlocklaw22_great.l0
      repeat' first
      | (with_reducible exact ih0 _ _)
      | (with_reducible exact ih1 _ _)
      | (with_reducible exact interlocklaw15_GreatStmt.mono _ _ _ _ _ _ _ _ _ _ _ _)
      | (with_reducible exact LeO.refl _)
      | (with_reducible exact LeO.none _)
      | (with_reducible refine LeO.ite ?_ ?_)
      | (with_reducible refine LeO.bind ?_ (fun _ => ?_))
      | exact ih0 _ _
      | exact ih1 _ _
      | exact interlocklaw15_GreatStmt.mono _ _ _ _ _ _ _ _ _ _ _ _
      | exact LeO.none _
      | refine LeO.ite ?_ ?_
      | refine LeO.bind ?_ (fun _ => ?_)
theorem interlocklaw22_great.mono : ∀ a0 a1 a2 a3 a4 a5 a6 a7 a8 a9 a10 a11 a12 k, LeO (interlocklaw22_great.f k a0 a1 a2 a3 a4 a5 a6 a7 a8 a9 a10 a11 a12) (interlocklaw22_great.f (k + 1) a0 a1 a2 a3 a4 a5 a6 a7 a8 a9 a10 a11 a12) := by
  intro a0 a1 a2 a3 a4 a5 a6 a7 a8 a9 a10 a11 a12 k
  obtain ⟨ih0, ih1⟩ := interlocklaw22_great.mono_l k
  unfold interlocklaw22_great.f
  repeat' first
      | (with_reducible exact ih0 _ _)
      | (with_reducible exact ih1 _ _)
      | (with_reducible exact interlocklaw15_GreatStmt.mono _ _ _ _ _ _ _ _ _ _ _ _)
      | (with_reducible exact LeO.refl _)
      | (with_reducible exact LeO.none _)
      | (with_reducible refine LeO.ite ?_ ?_)
      | (with_reducible refine LeO.bind ?_ (fun _ => ?_))
      | exact ih0 _ _
      | exact ih1 _ _
      | exact interlocklaw15_GreatStmt.mono _ _ _ _ _ _ _ _ _ _ _ _
      | exact LeO.none _
      | refine LeO.ite ?_ ?_
      | refine LeO.bind ?_ (fun _ => ?_)
set_option maxHeartbeats 8000000 in
set_option maxRecDepth 100000 in
theorem interlocklaw22_great.calls (k : Nat) (a0_0 : Int) (a0_1 : ByteArray) (a0_2 : ByteArray) (a0_3 : ByteArray) (a0_4 : Int) (a0_5 : Bool) (A0_6 : Option Addr) (c0_6 : Nat) (l0_6 : List (S60)) (A0_7 : Option Addr) (c0_7 : Nat) (l0_7 : List (S62)) (A0_8 : Option Addr) (c0_8 : Nat) (l0_8 : List (S64)) (A0_9 : Option Addr) (c0_9 : Nat) (l0_9 : List (S66)) (A0_10 : Option Addr) (c0_10 : Nat) (l0_10 : List ByteArray) (A1 : Option Addr) (c1 : Nat) (l1 : List (S60)) (A2 : Option Addr) (c2 : Nat) (l2 : List Int) (r : Bool) (w : World) (hr0_6 : Kd.C k60 w A0_6 l0_6.length l0_6) (hc0_6 : l0_6.length ≤ c0_6) (hr0_7 : Kd.C k62 w A0_7 l0_7.length l0_7) (hc0_7 : l0_7.length ≤ c0_7) (hr0_8 : Kd.C k64 w A0_8 l0_8.length l0_8) (hc0_8 : l0_8.length ≤ c0_8) (hr0_9 : Kd.C k66 w A0_9 l0_9.length l0_9) (hc0_9 : l0_9.length ≤ c0_9) (hr0_10 : Kd.C Kd.string w A0_10 l0_10.length l0_10) (hc0_10 : l0_10.length ≤ c0_10) (hr1 : Kd.C k60 w A1 l1.length l1) (hc1 : l1.length ≤ c1) (hr2 : Kd.C (Kd.int .i64) w A2 l2.length l2) (hc2 : l2.length ≤ c2) (h : interlocklaw22_great.f k a0_0 a0_1 a0_2 a0_3 a0_4 a0_5 l0_6 l0_7 l0_8 l0_9 l0_10 l1 l2 = some r) :
    Calls Try.prog 12 #[.agg #[.int .i64 a0_0, .string a0_1, .string a0_2, .string a0_3, .int .i64 a0_4, .bool a0_5, .slice A0_6 l0_6.length c0_6, .slice A0_7 l0_7.length c0_7, .slice A0_8 l0_8.length c0_8, .slice A0_9 l0_9.length c0_9, .slice A0_10 l0_10.length c0_10], .slice A1 l1.length c1, .slice A2 l2.length c2] w fun e w' => e = .returned (.bool r) ∧ Below w.heap.size w w' := by
  have hu28 := Try.underlying28
  have HR0_6 := Aside0.mk hr0_6
  have HC0_6 := Aside0.mk hc0_6
  clear hr0_6 hc0_6
  have HR0_7 := Aside0.mk hr0_7
  have HC0_7 := Aside0.mk hc0_7
  clear hr0_7 hc0_7
  have HR0_8 := Aside0.mk hr0_8
  have HC0_8 := Aside0.mk hc0_8
  clear hr0_8 hc0_8
  have HR0_9 := Aside0.mk hr0_9
  have HC0_9 := Aside0.mk hc0_9
  clear hr0_9 hc0_9
  have HR0_10 := Aside0.mk hr0_10
  have HC0_10 := Aside0.mk hc0_10
  clear hr0_10 hc0_10
  have HR1 := Aside0.mk hr1
  have HC1 := Aside0.mk hc1
  clear hr1 hc1
  have HR2 := Aside0.mk hr2
  have HC2 := Aside0.mk hc2
  clear hr2 hc2
  have HB := Aside0.mk (Below.refl w.heap.size w)
  have H : ((interlocklaw15_GreatStmt.f k a0_0 a0_1 a0_2 a0_3 a0_4 a0_5 l0_6 l0_7 l0_8 l0_9 l0_10).bind fun t115 => (if t115 = true then (interlocklaw22_great.j0 k l1 true) else (if (l1.length : Int) > 10 then (interlocklaw22_great.j0 k l1 true) else (interlocklaw22_great.j0 k l1 (decide ((l2.length : Int) > 200)))))) = some r := h
  clear h
  have HC4 := Aside0.mk H
  clear H
  go_enter Try.func12, Try.ntmps12
  go_upto_region 1 with (first | ((with_reducible refine gate_dst (N := 3) rfl ?_); (try (refine gate_guard (by rfl) ?_; dsimp only)); refine box_event ?hg (N := 3) ?hd (cs := #[.int .i64 a0_0, .string a0_1, .string a0_2, .string a0_3, .int .i64 a0_4, .bool a0_5, .slice A0_6 l0_6.length c0_6, .slice A0_7 l0_7.length c0_7, .slice A0_8 l0_8.length c0_8, .slice A0_9 l0_9.length c0_9, .slice A0_10 l0_10.length c0_10]) (t := 28) ?hr ?_; (case hd => rfl); (case hg => rfl); (case hr => first | (go_simp; done) | (go_simp; rfl)); intro gb114 hg w5 hbox hb; have n0_ := Aside0.mk (below_step (by repeat (first | (with_reducible first | exact HB.out | apply below_alloc | apply pw_below_drewN | apply below_drew1) | exact HB.out)) hb); have n1_ := Aside0.mk (hbox); have n2_ := Aside0.mk ((by rw [hg]; exact (below_size (by repeat (first | (with_reducible first | exact HB.out | apply below_alloc | apply pw_below_drewN | apply below_drew1) | exact HB.out))) : w.heap.size ≤ gb114)); have n3_ := Aside0.mk ((by rw [hg]; exact (below_size (by repeat (first | (with_reducible first | exact HB.out | apply below_alloc | apply pw_below_drewN | apply below_drew1) | exact HB.out))) : w.heap.size ≤ gb114)); clear HB; have HB := n0_; have BK114 := n1_; have GW114 := n2_; have GE114 := n3_; clear n0_ n1_ n2_ n3_; clear hb hbox hg))
  (try simp only [Act.put, List.setIfInBounds_toArray, List.set_cons_zero, List.set_cons_succ])
  go_cut [19] (fun v19 wc => ∃ (kq : Nat) (x19_3 : Bool), v19 = .bool x19_3 ∧ Aside0 (interlocklaw22_great.j0 kq l1 x19_3 = some r) ∧ Aside0 (kq ≤ k) ∧ Aside0 (wc.heap[gb114]? = some (.cells #[.int .i64 a0_0, .string a0_1, .string a0_2, .string a0_3, .int .i64 a0_4, .bool a0_5, (.slice A0_6 l0_6.length c0_6), (.slice A0_7 l0_7.length c0_7), (.slice A0_8 l0_8.length c0_8), (.slice A0_9 l0_9.length c0_9), (.slice A0_10 l0_10.length c0_10)] 28 (0, 0))) ∧ Aside0 (Below w.heap.size w wc))
  case first =>
    have H := HC4.out
    clear HC4
    replace H := Option.bind_eq_some_iff.mp H
    obtain ⟨t115, A60, H⟩ := H
    replace H : (if t115 = true then (interlocklaw22_great.j0 k l1 true) else (if (l1.length : Int) > 10 then (interlocklaw22_great.j0 k l1 true) else (interlocklaw22_great.j0 k l1 (decide ((l2.length : Int) > 200))))) = some r := H
    have A6 := Aside0.mk A60
    clear A60
    by_cases c7 : t115 = true
    · subst c7
      have H1 : (interlocklaw22_great.j0 k l1 true) = some r := by rw [if_pos rfl] at H; exact H
      clear H
      have H := H1
      clear H1
      have H' := Aside0.mk H
      clear H
      have hcz8_0 : w5.cell? ⟨gb114, 0, none⟩ = some (.int .i64 a0_0) := (blk_cell BK114.out 0).trans rfl
      have hcz8_1 : w5.cell? ⟨gb114, 1, none⟩ = some (.string a0_1) := (blk_cell BK114.out 1).trans rfl
      have hcz8_2 : w5.cell? ⟨gb114, 2, none⟩ = some (.string a0_2) := (blk_cell BK114.out 2).trans rfl
      have hcz8_3 : w5.cell? ⟨gb114, 3, none⟩ = some (.string a0_3) := (blk_cell BK114.out 3).trans rfl
      have hcz8_4 : w5.cell? ⟨gb114, 4, none⟩ = some (.int .i64 a0_4) := (blk_cell BK114.out 4).trans rfl
      have hcz8_5 : w5.cell? ⟨gb114, 5, none⟩ = some (.bool a0_5) := (blk_cell BK114.out 5).trans rfl
      have hcz8_6 : w5.cell? ⟨gb114, 6, none⟩ = some (.slice A0_6 l0_6.length c0_6) := (blk_cell BK114.out 6).trans rfl
      have hcz8_7 : w5.cell? ⟨gb114, 7, none⟩ = some (.slice A0_7 l0_7.length c0_7) := (blk_cell BK114.out 7).trans rfl
      have hcz8_8 : w5.cell? ⟨gb114, 8, none⟩ = some (.slice A0_8 l0_8.length c0_8) := (blk_cell BK114.out 8).trans rfl
      have hcz8_9 : w5.cell? ⟨gb114, 9, none⟩ = some (.slice A0_9 l0_9.length c0_9) := (blk_cell BK114.out 9).trans rfl
      have hcz8_10 : w5.cell? ⟨gb114, 10, none⟩ = some (.slice A0_10 l0_10.length c0_10) := (blk_cell BK114.out 10).trans rfl
      have hfz8_0 := blk_frozen BK114.out 0
      have hfz8_1 := blk_frozen BK114.out 1
      have hfz8_2 := blk_frozen BK114.out 2
      have hfz8_3 := blk_frozen BK114.out 3
      have hfz8_4 := blk_frozen BK114.out 4
      have hfz8_5 := blk_frozen BK114.out 5
      have hfz8_6 := blk_frozen BK114.out 6
      have hfz8_7 := blk_frozen BK114.out 7
      have hfz8_8 := blk_frozen BK114.out 8
      have hfz8_9 := blk_frozen BK114.out 9
      have hfz8_10 := blk_frozen BK114.out 10
      go_wp2_with (first | ((with_reducible refine gate_callee (f := 8) rfl ?_); refine goesL_ (some 9) rfl rfl Try.func8 (by kernel_rfl) rfl #[.agg #[.int .i64 a0_0, .string a0_1, .string a0_2, .string a0_3, .int .i64 a0_4, .bool a0_5, .slice A0_6 l0_6.length c0_6, .slice A0_7 l0_7.length c0_7, .slice A0_8 l0_8.length c0_8, .slice A0_9 l0_9.length c0_9, .slice A0_10 l0_10.length c0_10]] rfl (by (try simp only [List.map_toArray, List.map_cons, List.map_nil]); first | done | rfl | (simp only [List.length_drop, List.length_take]; rfl)) ?_; (with_reducible refine (interlocklaw15_GreatStmt.calls k a0_0 a0_1 a0_2 a0_3 a0_4 a0_5 _ _ l0_6 _ _ l0_7 _ _ l0_8 _ _ l0_9 _ _ l0_10 true _ ?side1 ?side2 ?side3 ?side4 ?side5 ?side6 ?side7 ?side8 ?side9 ?side10 A6.out).mono ?_); (case side1 => repeat (first | exact (Kd.C_below HR0_6.out HB.out) | (with_reducible refine Kd.C_alloc ?_ _) | (with_reducible refine Kd.C_drewN ?_ _) | (with_reducible refine Kd.C_drew ?_))); (case side2 => exact HC0_6.out); (case side3 => repeat (first | exact (Kd.C_below HR0_7.out HB.out) | (with_reducible refine Kd.C_alloc ?_ _) | (with_reducible refine Kd.C_drewN ?_ _) | (with_reducible refine Kd.C_drew ?_))); (case side4 => exact HC0_7.out); (case side5 => repeat (first | exact (Kd.C_below HR0_8.out HB.out) | (with_reducible refine Kd.C_alloc ?_ _) | (with_reducible refine Kd.C_drewN ?_ _) | (with_reducible refine Kd.C_drew ?_))); (case side6 => exact HC0_8.out); (case side7 => repeat (first | exact (Kd.C_below HR0_9.out HB.out) | (with_reducible refine Kd.C_alloc ?_ _) | (with_reducible refine Kd.C_drewN ?_ _) | (with_reducible refine Kd.C_drew ?_))); (case side8 => exact HC0_9.out); (case side9 => repeat (first | exact (Kd.C_below HR0_10.out HB.out) | (with_reducible refine Kd.C_alloc ?_ _) | (with_reducible refine Kd.C_drewN ?_ _) | (with_reducible refine Kd.C_drew ?_))); (case side10 => exact HC0_10.out); rintro e w9 ⟨rfl, hb⟩; refine ⟨_, rfl, ?_⟩; have n0_ := Aside0.mk (blk_below (g := gb114) (o := .cells #[.int .i64 a0_0, .string a0_1, .string a0_2, .string a0_3, .int .i64 a0_4, .bool a0_5, .slice A0_6 l0_6.length c0_6, .slice A0_7 l0_7.length c0_7, .slice A0_8 l0_8.length c0_8, .slice A0_9 l0_9.length c0_9, .slice A0_10 l0_10.length c0_10] 28 (0, 0)) (by (with_reducible repeat (first | refine blk_drewN ?_ _ | refine blk_drew ?_ | refine blk_alloc ?_ _)); exact BK114.out) hb); have n1_ := Aside0.mk (below_step (by repeat (first | (with_reducible first | exact HB.out | apply below_alloc | apply pw_below_drewN | apply below_drew1 | refine below_set ?_ GE114.out) | exact HB.out)) hb); clear BK114; clear HB; have BK114 := n0_; have HB := n1_; clear n0_ n1_; (try clear hb); (try clear hb2); (try clear hk); (try clear hi)))
      go_meet
      case rel => exact ⟨_, (true), (by first | rfl | (simp; done) | (simp [*]; done)), H', ⟨by first | omega | exact Nat.le_refl _⟩, ⟨by (with_reducible repeat (first | refine blk_drewN ?_ _ | refine blk_drew ?_ | refine blk_alloc ?_ _)); exact BK114.out⟩, ⟨by repeat (first | (with_reducible first | exact HB.out | apply below_alloc | apply pw_below_drewN | apply below_drew1 | refine below_set ?_ GE114.out) | exact HB.out)⟩⟩
    · replace c7 := Bool.eq_false_iff.mpr c7
      subst c7
      have H1 : (if (l1.length : Int) > 10 then (interlocklaw22_great.j0 k l1 true) else (interlocklaw22_great.j0 k l1 (decide ((l2.length : Int) > 200)))) = some r := by rw [if_neg (show ¬ (false = true) by decide)] at H; exact H
      clear H
      have H := H1
      clear H1
      by_cases c10 : (l1.length : Int) > 10
      · rw [if_pos c10] at H
        have c10b0 : decide (10 < (l1.length : Int)) = true := decide_eq_true c10
        have c10b1 : decide (10 < l1.length) = true := decide_eq_true (by omega)
        clear c10
        (first | rw [c10b0] | (simp only [i64_w, i32_w]; rw [c10b0]) | skip)
        have H' := Aside0.mk H
        clear H
        have hcz11_0 : w5.cell? ⟨gb114, 0, none⟩ = some (.int .i64 a0_0) := (blk_cell BK114.out 0).trans rfl
        have hcz11_1 : w5.cell? ⟨gb114, 1, none⟩ = some (.string a0_1) := (blk_cell BK114.out 1).trans rfl
        have hcz11_2 : w5.cell? ⟨gb114, 2, none⟩ = some (.string a0_2) := (blk_cell BK114.out 2).trans rfl
        have hcz11_3 : w5.cell? ⟨gb114, 3, none⟩ = some (.string a0_3) := (blk_cell BK114.out 3).trans rfl
        have hcz11_4 : w5.cell? ⟨gb114, 4, none⟩ = some (.int .i64 a0_4) := (blk_cell BK114.out 4).trans rfl
        have hcz11_5 : w5.cell? ⟨gb114, 5, none⟩ = some (.bool a0_5) := (blk_cell BK114.out 5).trans rfl
        have hcz11_6 : w5.cell? ⟨gb114, 6, none⟩ = some (.slice A0_6 l0_6.length c0_6) := (blk_cell BK114.out 6).trans rfl
        have hcz11_7 : w5.cell? ⟨gb114, 7, none⟩ = some (.slice A0_7 l0_7.length c0_7) := (blk_cell BK114.out 7).trans rfl
        have hcz11_8 : w5.cell? ⟨gb114, 8, none⟩ = some (.slice A0_8 l0_8.length c0_8) := (blk_cell BK114.out 8).trans rfl
        have hcz11_9 : w5.cell? ⟨gb114, 9, none⟩ = some (.slice A0_9 l0_9.length c0_9) := (blk_cell BK114.out 9).trans rfl
        have hcz11_10 : w5.cell? ⟨gb114, 10, none⟩ = some (.slice A0_10 l0_10.length c0_10) := (blk_cell BK114.out 10).trans rfl
        have hfz11_0 := blk_frozen BK114.out 0
        have hfz11_1 := blk_frozen BK114.out 1
        have hfz11_2 := blk_frozen BK114.out 2
        have hfz11_3 := blk_frozen BK114.out 3
        have hfz11_4 := blk_frozen BK114.out 4
        have hfz11_5 := blk_frozen BK114.out 5
        have hfz11_6 := blk_frozen BK114.out 6
        have hfz11_7 := blk_frozen BK114.out 7
        have hfz11_8 := blk_frozen BK114.out 8
        have hfz11_9 := blk_frozen BK114.out 9
        have hfz11_10 := blk_frozen BK114.out 10
        go_wp2_with (first | ((with_reducible refine gate_callee (f := 8) rfl ?_); refine goesL_ (some 9) rfl rfl Try.func8 (by kernel_rfl) rfl #[.agg #[.int .i64 a0_0, .string a0_1, .string a0_2, .string a0_3, .int .i64 a0_4, .bool a0_5, .slice A0_6 l0_6.length c0_6, .slice A0_7 l0_7.length c0_7, .slice A0_8 l0_8.length c0_8, .slice A0_9 l0_9.length c0_9, .slice A0_10 l0_10.length c0_10]] rfl (by (try simp only [List.map_toArray, List.map_cons, List.map_nil]); first | done | rfl | (simp only [List.length_drop, List.length_take]; rfl)) ?_; (with_reducible refine (interlocklaw15_GreatStmt.calls k a0_0 a0_1 a0_2 a0_3 a0_4 a0_5 _ _ l0_6 _ _ l0_7 _ _ l0_8 _ _ l0_9 _ _ l0_10 false _ ?side1 ?side2 ?side3 ?side4 ?side5 ?side6 ?side7 ?side8 ?side9 ?side10 A6.out).mono ?_); (case side1 => repeat (first | exact (Kd.C_below HR0_6.out HB.out) | (with_reducible refine Kd.C_alloc ?_ _) | (with_reducible refine Kd.C_drewN ?_ _) | (with_reducible refine Kd.C_drew ?_))); (case side2 => exact HC0_6.out); (case side3 => repeat (first | exact (Kd.C_below HR0_7.out HB.out) | (with_reducible refine Kd.C_alloc ?_ _) | (with_reducible refine Kd.C_drewN ?_ _) | (with_reducible refine Kd.C_drew ?_))); (case side4 => exact HC0_7.out); (case side5 => repeat (first | exact (Kd.C_below HR0_8.out HB.out) | (with_reducible refine Kd.C_alloc ?_ _) | (with_reducible refine Kd.C_drewN ?_ _) | (with_reducible refine Kd.C_drew ?_))); (case side6 => exact HC0_8.out); (case side7 => repeat (first | exact (Kd.C_below HR0_9.out HB.out) | (with_reducible refine Kd.C_alloc ?_ _) | (with_reducible refine Kd.C_drewN ?_ _) | (with_reducible refine Kd.C_drew ?_))); (case side8 => exact HC0_9.out); (case side9 => repeat (first | exact (Kd.C_below HR0_10.out HB.out) | (with_reducible refine Kd.C_alloc ?_ _) | (with_reducible refine Kd.C_drewN ?_ _) | (with_reducible refine Kd.C_drew ?_))); (case side10 => exact HC0_10.out); rintro e w12 ⟨rfl, hb⟩; refine ⟨_, rfl, ?_⟩; have n0_ := Aside0.mk (blk_below (g := gb114) (o := .cells #[.int .i64 a0_0, .string a0_1, .string a0_2, .string a0_3, .int .i64 a0_4, .bool a0_5, .slice A0_6 l0_6.length c0_6, .slice A0_7 l0_7.length c0_7, .slice A0_8 l0_8.length c0_8, .slice A0_9 l0_9.length c0_9, .slice A0_10 l0_10.length c0_10] 28 (0, 0)) (by (with_reducible repeat (first | refine blk_drewN ?_ _ | refine blk_drew ?_ | refine blk_alloc ?_ _)); exact BK114.out) hb); have n1_ := Aside0.mk (below_step (by repeat (first | (with_reducible first | exact HB.out | apply below_alloc | apply pw_below_drewN | apply below_drew1 | refine below_set ?_ GE114.out) | exact HB.out)) hb); clear BK114; clear HB; have BK114 := n0_; have HB := n1_; clear n0_ n1_; (try clear hb); (try clear hb2); (try clear hk); (try clear hi)))
        go_meet
        case rel => exact ⟨_, (true), (by first | rfl | (simp; done) | (simp [*]; done)), H', ⟨by first | omega | exact Nat.le_refl _⟩, ⟨by (with_reducible repeat (first | refine blk_drewN ?_ _ | refine blk_drew ?_ | refine blk_alloc ?_ _)); exact BK114.out⟩, ⟨by repeat (first | (with_reducible first | exact HB.out | apply below_alloc | apply pw_below_drewN | apply below_drew1 | refine below_set ?_ GE114.out) | exact HB.out)⟩⟩
      · rw [if_neg c10] at H
        have c10b0 : decide (10 < (l1.length : Int)) = false := decide_eq_false c10
        have c10b1 : decide (10 < l1.length) = false := decide_eq_false (by omega)
        clear c10
        (first | rw [c10b0] | (simp only [i64_w, i32_w]; rw [c10b0]) | skip)
        have H' := Aside0.mk H
        clear H
        have hcz13_0 : w5.cell? ⟨gb114, 0, none⟩ = some (.int .i64 a0_0) := (blk_cell BK114.out 0).trans rfl
        have hcz13_1 : w5.cell? ⟨gb114, 1, none⟩ = some (.string a0_1) := (blk_cell BK114.out 1).trans rfl
        have hcz13_2 : w5.cell? ⟨gb114, 2, none⟩ = some (.string a0_2) := (blk_cell BK114.out 2).trans rfl
        have hcz13_3 : w5.cell? ⟨gb114, 3, none⟩ = some (.string a0_3) := (blk_cell BK114.out 3).trans rfl
        have hcz13_4 : w5.cell? ⟨gb114, 4, none⟩ = some (.int .i64 a0_4) := (blk_cell BK114.out 4).trans rfl
        have hcz13_5 : w5.cell? ⟨gb114, 5, none⟩ = some (.bool a0_5) := (blk_cell BK114.out 5).trans rfl
        have hcz13_6 : w5.cell? ⟨gb114, 6, none⟩ = some (.slice A0_6 l0_6.length c0_6) := (blk_cell BK114.out 6).trans rfl
        have hcz13_7 : w5.cell? ⟨gb114, 7, none⟩ = some (.slice A0_7 l0_7.length c0_7) := (blk_cell BK114.out 7).trans rfl
        have hcz13_8 : w5.cell? ⟨gb114, 8, none⟩ = some (.slice A0_8 l0_8.length c0_8) := (blk_cell BK114.out 8).trans rfl
        have hcz13_9 : w5.cell? ⟨gb114, 9, none⟩ = some (.slice A0_9 l0_9.length c0_9) := (blk_cell BK114.out 9).trans rfl
        have hcz13_10 : w5.cell? ⟨gb114, 10, none⟩ = some (.slice A0_10 l0_10.length c0_10) := (blk_cell BK114.out 10).trans rfl
        have hfz13_0 := blk_frozen BK114.out 0
        have hfz13_1 := blk_frozen BK114.out 1
        have hfz13_2 := blk_frozen BK114.out 2
        have hfz13_3 := blk_frozen BK114.out 3
        have hfz13_4 := blk_frozen BK114.out 4
        have hfz13_5 := blk_frozen BK114.out 5
        have hfz13_6 := blk_frozen BK114.out 6
        have hfz13_7 := blk_frozen BK114.out 7
        have hfz13_8 := blk_frozen BK114.out 8
        have hfz13_9 := blk_frozen BK114.out 9
        have hfz13_10 := blk_frozen BK114.out 10
        go_wp2_with (first | ((with_reducible refine gate_callee (f := 8) rfl ?_); refine goesL_ (some 9) rfl rfl Try.func8 (by kernel_rfl) rfl #[.agg #[.int .i64 a0_0, .string a0_1, .string a0_2, .string a0_3, .int .i64 a0_4, .bool a0_5, .slice A0_6 l0_6.length c0_6, .slice A0_7 l0_7.length c0_7, .slice A0_8 l0_8.length c0_8, .slice A0_9 l0_9.length c0_9, .slice A0_10 l0_10.length c0_10]] rfl (by (try simp only [List.map_toArray, List.map_cons, List.map_nil]); first | done | rfl | (simp only [List.length_drop, List.length_take]; rfl)) ?_; (with_reducible refine (interlocklaw15_GreatStmt.calls k a0_0 a0_1 a0_2 a0_3 a0_4 a0_5 _ _ l0_6 _ _ l0_7 _ _ l0_8 _ _ l0_9 _ _ l0_10 false _ ?side1 ?side2 ?side3 ?side4 ?side5 ?side6 ?side7 ?side8 ?side9 ?side10 A6.out).mono ?_); (case side1 => repeat (first | exact (Kd.C_below HR0_6.out HB.out) | (with_reducible refine Kd.C_alloc ?_ _) | (with_reducible refine Kd.C_drewN ?_ _) | (with_reducible refine Kd.C_drew ?_))); (case side2 => exact HC0_6.out); (case side3 => repeat (first | exact (Kd.C_below HR0_7.out HB.out) | (with_reducible refine Kd.C_alloc ?_ _) | (with_reducible refine Kd.C_drewN ?_ _) | (with_reducible refine Kd.C_drew ?_))); (case side4 => exact HC0_7.out); (case side5 => repeat (first | exact (Kd.C_below HR0_8.out HB.out) | (with_reducible refine Kd.C_alloc ?_ _) | (with_reducible refine Kd.C_drewN ?_ _) | (with_reducible refine Kd.C_drew ?_))); (case side6 => exact HC0_8.out); (case side7 => repeat (first | exact (Kd.C_below HR0_9.out HB.out) | (with_reducible refine Kd.C_alloc ?_ _) | (with_reducible refine Kd.C_drewN ?_ _) | (with_reducible refine Kd.C_drew ?_))); (case side8 => exact HC0_9.out); (case side9 => repeat (first | exact (Kd.C_below HR0_10.out HB.out) | (with_reducible refine Kd.C_alloc ?_ _) | (with_reducible refine Kd.C_drewN ?_ _) | (with_reducible refine Kd.C_drew ?_))); (case side10 => exact HC0_10.out); rintro e w14 ⟨rfl, hb⟩; refine ⟨_, rfl, ?_⟩; have n0_ := Aside0.mk (blk_below (g := gb114) (o := .cells #[.int .i64 a0_0, .string a0_1, .string a0_2, .string a0_3, .int .i64 a0_4, .bool a0_5, .slice A0_6 l0_6.length c0_6, .slice A0_7 l0_7.length c0_7, .slice A0_8 l0_8.length c0_8, .slice A0_9 l0_9.length c0_9, .slice A0_10 l0_10.length c0_10] 28 (0, 0)) (by (with_reducible repeat (first | refine blk_drewN ?_ _ | refine blk_drew ?_ | refine blk_alloc ?_ _)); exact BK114.out) hb); have n1_ := Aside0.mk (below_step (by repeat (first | (with_reducible first | exact HB.out | apply below_alloc | apply pw_below_drewN | apply below_drew1 | refine below_set ?_ GE114.out) | exact HB.out)) hb); clear BK114; clear HB; have BK114 := n0_; have HB := n1_; clear n0_ n1_; (try clear hb); (try clear hb2); (try clear hk); (try clear hi)))
        go_meet
        case rel => exact ⟨_, (decide ((l2.length : Int) > 200)), (by first | rfl | (simp; done) | (simp [*]; done)), H', ⟨by first | omega | exact Nat.le_refl _⟩, ⟨by (with_reducible repeat (first | refine blk_drewN ?_ _ | refine blk_drew ?_ | refine blk_alloc ?_ _)); exact BK114.out⟩, ⟨by repeat (first | (with_reducible first | exact HB.out | apply below_alloc | apply pw_below_drewN | apply below_drew1 | refine below_set ?_ GE114.out) | exact HB.out)⟩⟩
  case rest =>
    clear HC4
    try clear c1
    try clear c2
    try clear p2
    try clear c7
    try clear c8
    try clear c10
    try clear c10b0
    try clear c10b1
    try clear c12
    try clear hcz11_0
    try clear hcz11_1
    try clear hcz11_10
    try clear hcz11_2
    try clear hcz11_3
    try clear hcz11_4
    try clear hcz11_5
    try clear hcz11_6
    try clear hcz11_7
    try clear hcz11_8
    try clear hcz11_9
    try clear hcz13_0
    try clear hcz13_1
    try clear hcz13_10
    try clear hcz13_2
    try clear hcz13_3
    try clear hcz13_4
    try clear hcz13_5
    try clear hcz13_6
    try clear hcz13_7
    try clear hcz13_8
    try clear hcz13_9
    try clear hcz8_0
    try clear hcz8_1
    try clear hcz8_10
    try clear hcz8_2
    try clear hcz8_3
    try clear hcz8_4
    try clear hcz8_5
    try clear hcz8_6
    try clear hcz8_7
    try clear hcz8_8
    try clear hcz8_9
    try clear hfz11_0
    try clear hfz11_1
    try clear hfz11_10
    try clear hfz11_2
    try clear hfz11_3
    try clear hfz11_4
    try clear hfz11_5
    try clear hfz11_6
    try clear hfz11_7
    try clear hfz11_8
    try clear hfz11_9
    try clear hfz13_0
    try clear hfz13_1
    try clear hfz13_10
    try clear hfz13_2
    try clear hfz13_3
    try clear hfz13_4
    try clear hfz13_5
    try clear hfz13_6
    try clear hfz13_7
    try clear hfz13_8
    try clear hfz13_9
    try clear hfz8_0
    try clear hfz8_1
    try clear hfz8_10
    try clear hfz8_2
    try clear hfz8_3
    try clear hfz8_4
    try clear hfz8_5
    try clear hfz8_6
    try clear hfz8_7
    try clear hfz8_8
    try clear hfz8_9
    obtain ⟨kq, x19_3, rfl, HA, HJ3, BK114, HB⟩ := hcut
    cases kq with
    | zero => exact absurd HA.out (by simp [interlocklaw22_great.j0])
    | succ kj3 =>
      have H := HA.out
      clear HA
      simp only [interlocklaw22_great.j0] at H
      by_cases c15 : x19_3 = true
      · subst c15
        have H1 : (some true) = some r := by rw [if_pos rfl] at H; exact H
        clear H
        have H := H1
        clear H1
        obtain rfl := Option.some.inj H
        go_wp2
        go_ret
        exact ⟨by first | rfl | (simp [errW_none, errW_some] <;> rfl) | (simp [*, errW_none, errW_some] <;> rfl), by repeat (first | (with_reducible first | exact HB.out | apply below_alloc | apply pw_below_drewN | apply below_drew1 | refine below_set ?_ GE114.out) | exact HB.out)⟩
      · replace c15 := Bool.eq_false_iff.mpr c15
        subst c15
        have H1 : (interlocklaw22_great.l0 kj3 l1 0) = some r := by rw [if_neg (show ¬ (false = true) by decide)] at H; exact H
        clear H
        have H := H1
        clear H1
        have H' := Aside0.mk H
        clear H
        go_wp2
        go_loopg [7] kj3 (fun kq v7 w' => ∃ (x7_2 : Int), v7 = .int .i64 x7_2 ∧ Aside0 (interlocklaw22_great.l0 kq l1 x7_2 = some r) ∧ Aside0 (kq ≤ kj3) ∧ Aside0 (w'.heap[gb114]? = some (.cells #[.int .i64 a0_0, .string a0_1, .string a0_2, .string a0_3, .int .i64 a0_4, .bool a0_5, (.slice A0_6 l0_6.length c0_6), (.slice A0_7 l0_7.length c0_7), (.slice A0_8 l0_8.length c0_8), (.slice A0_9 l0_9.length c0_9), (.slice A0_10 l0_10.length c0_10)] 28 (0, 0))) ∧ Aside0 (Below w.heap.size w w'))
        case atStart => exact ⟨(0), (by first | rfl | (simp; done) | (simp [*]; done)), H', ⟨Nat.le_refl _⟩, ⟨by (with_reducible repeat (first | refine blk_drewN ?_ _ | refine blk_drew ?_ | refine blk_alloc ?_ _)); exact BK114.out⟩, ⟨by repeat (first | (with_reducible first | exact HB.out | apply below_alloc | apply pw_below_drewN | apply below_drew1 | refine below_set ?_ GE114.out) | exact HB.out)⟩⟩
        case round =>
          clear H'
          try clear c1
          try clear c2
          try clear p2
          try clear c7
          try clear c8
          try clear c10
          try clear c10b0
          try clear c10b1
          try clear c12
          try clear c15
          try clear hcz11_0
          try clear hcz11_1
          try clear hcz11_10
          try clear hcz11_2
          try clear hcz11_3
          try clear hcz11_4
          try clear hcz11_5
          try clear hcz11_6
          try clear hcz11_7
          try clear hcz11_8
          try clear hcz11_9
          try clear hcz13_0
          try clear hcz13_1
          try clear hcz13_10
          try clear hcz13_2
          try clear hcz13_3
          try clear hcz13_4
          try clear hcz13_5
          try clear hcz13_6
          try clear hcz13_7
          try clear hcz13_8
          try clear hcz13_9
          try clear hcz8_0
          try clear hcz8_1
          try clear hcz8_10
          try clear hcz8_2
          try clear hcz8_3
          try clear hcz8_4
          try clear hcz8_5
          try clear hcz8_6
          try clear hcz8_7
          try clear hcz8_8
          try clear hcz8_9
          try clear hfz11_0
          try clear hfz11_1
          try clear hfz11_10
          try clear hfz11_2
          try clear hfz11_3
          try clear hfz11_4
          try clear hfz11_5
          try clear hfz11_6
          try clear hfz11_7
          try clear hfz11_8
          try clear hfz11_9
          try clear hfz13_0
          try clear hfz13_1
          try clear hfz13_10
          try clear hfz13_2
          try clear hfz13_3
          try clear hfz13_4
          try clear hfz13_5
          try clear hfz13_6
          try clear hfz13_7
          try clear hfz13_8
          try clear hfz13_9
          try clear hfz8_0
          try clear hfz8_1
          try clear hfz8_10
          try clear hfz8_2
          try clear hfz8_3
          try clear hfz8_4
          try clear hfz8_5
          try clear hfz8_6
          try clear hfz8_7
          try clear hfz8_8
          try clear hfz8_9
          try clear p2
          obtain ⟨x7_2, rfl, HA, HK2, BK114, HB⟩ := hrel
          cases gk with
          | zero => exact absurd HA.out (by simp [interlocklaw22_great.l0])
          | succ k2 =>
            have H := HA.out
            clear HA
            simp only [interlocklaw22_great.l0] at H
            by_cases c16 : x7_2 < (l1.length : Int)
            · rw [if_pos c16] at H
              have c16b0 : decide (x7_2 < (l1.length : Int)) = true := decide_eq_true c16
              clear c16
              by_cases c17 : 0 ≤ x7_2
              · rw [if_pos c17] at H
                have c17b0 : decide (0 ≤ x7_2) = true := decide_eq_true c17
                clear c17
                by_cases c18 : (((rd_T60 l1 x7_2).f2).size : Int) > 50
                · rw [if_pos c18] at H
                  have c18b0 : decide (50 < (((rd_T60 l1 x7_2).f2).size : Int)) = true := decide_eq_true c18
                  have c18b1 : decide (50 < ((rd_T60 l1 x7_2).f2).size) = true := decide_eq_true (by omega)
                  clear c18
                  obtain rfl := Option.some.inj H
                  have p116 : 0 ≤ (x7_2 : Int) := of_decide_eq_true (by first | (with_reducible assumption) | assumption)
                  have q116 : x7_2 < (l1.length : Int) := of_decide_eq_true (by first | (with_reducible assumption) | assumption)
                  obtain ⟨ad116, e116, hx116_0, hx116_1, hx116_2⟩ := at_T60 HR1.out x7_2 p116 q116
                  cases e116
                  replace hx116_0 := (HB.out.cell (World.block_lt_of_cell? w _ hx116_0)).trans hx116_0
                  replace hx116_1 := (HB.out.cell (World.block_lt_of_cell? w _ hx116_1)).trans hx116_1
                  replace hx116_2 := (HB.out.cell (World.block_lt_of_cell? w _ hx116_2)).trans hx116_2
                  replace p116 := eq_true p116
                  replace q116 := eq_true q116
                  go_wp2
                  go_ret
                  exact ⟨by first | rfl | (simp [errW_none, errW_some] <;> rfl) | (simp [*, errW_none, errW_some] <;> rfl), by repeat (first | (with_reducible first | exact HB.out | apply below_alloc | apply pw_below_drewN | apply below_drew1 | refine below_set ?_ GE114.out) | exact HB.out)⟩
                · rw [if_neg c18] at H
                  have c18b0 : decide (50 < (((rd_T60 l1 x7_2).f2).size : Int)) = false := decide_eq_false c18
                  have c18b1 : decide (50 < ((rd_T60 l1 x7_2).f2).size) = false := decide_eq_false (by omega)
                  clear c18
                  have H' := Aside0.mk H
                  clear H
                  have p116 : 0 ≤ (x7_2 : Int) := of_decide_eq_true (by first | (with_reducible assumption) | assumption)
                  have q116 : x7_2 < (l1.length : Int) := of_decide_eq_true (by first | (with_reducible assumption) | assumption)
                  obtain ⟨ad116, e116, hx116_0, hx116_1, hx116_2⟩ := at_T60 HR1.out x7_2 p116 q116
                  cases e116
                  replace hx116_0 := (HB.out.cell (World.block_lt_of_cell? w _ hx116_0)).trans hx116_0
                  replace hx116_1 := (HB.out.cell (World.block_lt_of_cell? w _ hx116_1)).trans hx116_1
                  replace hx116_2 := (HB.out.cell (World.block_lt_of_cell? w _ hx116_2)).trans hx116_2
                  replace p116 := eq_true p116
                  replace q116 := eq_true q116
                  go_wp2
                  go_roundg k2
                  case measure => have := HJ3.out; have := HK2.out; omega
                  case rel => exact ⟨(wrap64 (x7_2 + 1)), (by first | rfl | (simp; done) | (simp [*]; done)), H', ⟨by have := HJ3.out; have := HK2.out; omega⟩, ⟨by (with_reducible repeat (first | refine blk_drewN ?_ _ | refine blk_drew ?_ | refine blk_alloc ?_ _)); exact BK114.out⟩, ⟨by repeat (first | (with_reducible first | exact HB.out | apply below_alloc | apply pw_below_drewN | apply below_drew1 | refine below_set ?_ GE114.out) | exact HB.out)⟩⟩
              · rw [if_neg c17] at H
                exact absurd H (by simp)
            · rw [if_neg c16] at H
              have c16b0 : decide (x7_2 < (l1.length : Int)) = false := decide_eq_false c16
              clear c16
              obtain rfl := Option.some.inj H
              go_wp2
              go_ret
              exact ⟨by first | rfl | (simp [errW_none, errW_some] <;> rfl) | (simp [*, errW_none, errW_some] <;> rfl), by repeat (first | (with_reducible first | exact HB.out | apply below_alloc | apply pw_below_drewN | apply below_drew1 | refine below_set ?_ GE114.out) | exact HB.out)⟩
end Go.Proofs.Ytnojcnmnkkgkgaa.Q
end
section
namespace Go.Proofs.Ytnojcnmnkkgkgaa.Q
open Go.RowKit Go.Proofs.YtnojcnmnkkgkgaaW.PrintWords Go.Proofs.YtnojcnmnkkgkgaaW.PrintLast Go.Proofs.YtnojcnmnkkgkgaaW.PrintMore
attribute [local go_sem] max2_int min2_int max_two min_two max_three min_three max_four min_four
set_option linter.unusedVariables false
set_option linter.unusedSimpArgs false
def interlockref00_CopyInts.f (l0 : List Int) : Option (List Int) := (some (([] : List Int) : List Int)).bind fun y117 => (if y117.length + l0.length < 17592186044416 then (some (y117 ++ l0)) else (none))
set_option maxHeartbeats 8000000 in
set_option maxRecDepth 100000 in
theorem interlockref00_CopyInts.calls (A0 : Option Addr) (c0 : Nat) (l0 : List Int) (r : List Int) (w : World) (hr0 : Kd.C (Kd.int .i64) w A0 l0.length l0) (hc0 : l0.length ≤ c0) (h : interlockref00_CopyInts.f l0 = some r) :
    Calls Try.prog 13 #[.slice A0 l0.length c0] w fun e w' => ∃ v0_ : Value, e = .returned (v0_) ∧ Kd.R (Kd.int .i64) 3 w' w.heap.size (fun _ => True) v0_ r ∧ Below w.heap.size w w' := by
  have HR0 := Aside0.mk hr0
  have HC0 := Aside0.mk hc0
  clear hr0 hc0
  have HB := Aside0.mk (Below.refl w.heap.size w)
  have H : ((some (([] : List Int) : List Int)).bind fun y117 => (if y117.length + l0.length < 17592186044416 then (some (y117 ++ l0)) else (none))) = some r := h
  clear h
  obtain ⟨y117, hy117⟩ : ∃ y_ : List Int, y_ = (([] : List Int)) := ⟨_, rfl⟩
  replace H : (if y117.length + l0.length < 17592186044416 then (some (y117 ++ l0)) else (none)) = some r := by first | (rw [hy117]; with_reducible exact H) | (have H2_ := (Option.bind_some _ _).symm.trans H; rw [hy117]; with_reducible exact H2_) | (have H2_ := (Option.bind_some _ _).symm.trans H; with_reducible exact H2_) | with_reducible exact H | (rw [hy117]; exact H) | exact H
  have Ny117 := Aside0.mk hy117
  clear hy117
  by_cases c2 : y117.length + l0.length < 17592186044416
  · rw [if_pos c2] at H
    have LMc2 := Aside0.mk c2
    clear c2
    obtain ⟨y120, hy120⟩ : ∃ y_ : List Int, y_ = (y117 ++ l0) := ⟨_, rfl⟩
    replace H : (some y120) = some r := by first | (rw [hy120]; with_reducible exact H) | (have H2_ := (Option.bind_some _ _).symm.trans H; rw [hy120]; with_reducible exact H2_) | (have H2_ := (Option.bind_some _ _).symm.trans H; with_reducible exact H2_) | with_reducible exact H | (rw [hy120]; exact H) | exact H
    have Ny120 := Aside0.mk hy120
    clear hy120
    obtain rfl := Option.some.inj H
    go_enter Try.func13, Try.ntmps13
    go_wp2_with (first | ((with_reducible refine gate_dst (N := 4) rfl ?_); refine Kd.R_lit (Kd.int .i64) _ 3 ?hg (N := 4) ?hd (xs := ([] : List Int)) (inner := []) (ok := fun _ => True) (okp := fun _ => True) ?hr ?hp (fun _ hk => hk) trivial (Below.refl _ _) (Nat.le_refl _) (by simp) ?_; (case hd => rfl); (case hg => rfl); (case hr => first | (go_simp; done) | (go_simp; rfl)); (case hp => exact (Reps.none _ _)); intro v118 w3 ho4 hb hg_ hnew_; clear hg_ hnew_; (first | rw [← Ny117.out] at ho4 | (simp only [Int.reduceToNat] at ho4; rw [← Ny117.out] at ho4)); have n0_ := Aside0.mk (Kd.R_lower ho4 (below_size (by repeat (first | (with_reducible first | exact HB.out | apply below_alloc | apply pw_below_drewN | apply below_drew1) | exact HB.out)))); have n1_ := Aside0.mk (below_step (by repeat (first | (with_reducible first | exact HB.out | apply below_alloc | apply pw_below_drewN | apply below_drew1) | exact HB.out)) hb); clear HB; have HO119 := n0_; have HB := n1_; clear n0_ n1_; clear hb ho4) | ((with_reducible refine gate_builtin (b := .append) (xs := #[.tmp 5, .tmp 6]) rfl ?_); at_builtin; refine Kd.R_append_rows (Kd.int .i64) (w0 := w) w.heap.size rfl (.tmp 5) (.tmp 6) 31 3 (.int .i64 0) 8 rfl Try.underlying31 info3 rfl (by decide) (by omega) v118 y117 l0 _ _ _ (fun _ => True) (fun _ => False) rfl rfl ?aO ?aR (fun _ _ h => h) (fun _ h => h.elim) ?aF ?aB ?aS ?aL ?_; (case aR => repeat (first | exact (Kd.C_below HR0.out HB.out) | (with_reducible refine Kd.C_alloc ?_ _) | (with_reducible refine Kd.C_drewN ?_ _) | (with_reducible refine Kd.C_drew ?_))); (case aB => exact (by repeat (first | (with_reducible first | exact HB.out | apply below_alloc | apply pw_below_drewN | apply below_drew1) | exact HB.out))); (case aF => exact (fun _ _ => trivial)); (case aO => exact (by (with_reducible repeat (first | apply Kd.R_alloc | apply Kd.R_drewN | apply Kd.R_drew)); exact HO119.out)); (case aS => exact (below_size (by repeat (first | (with_reducible first | exact HB.out | apply below_alloc | apply pw_below_drewN | apply below_drew1) | exact HB.out)))); (case aL => have := LMc2.out; omega); intro v121 w5 ho hb hg hat; rw [← Ny120.out] at ho; have n0_ := Aside0.mk (hb); have n1_ := Aside0.mk (ho); clear HB; clear HO119; have HB := n0_; have HO122 := n1_; clear n0_ n1_; clear ho hb hg hat))
    go_ret
    exact ⟨_, by first | rfl | (simp [errW_none, errW_some] <;> rfl) | (simp [*, errW_none, errW_some] <;> rfl), by (with_reducible repeat (first | apply Kd.R_alloc | apply Kd.R_drewN | apply Kd.R_drew)); exact HO122.out, by repeat (first | (with_reducible first | exact HB.out | apply below_alloc | apply pw_below_drewN | apply below_drew1) | exact HB.out)⟩
  · rw [if_neg c2] at H
    exact absurd H (by simp)
end Go.Proofs.Ytnojcnmnkkgkgaa.Q
end
section
namespace Go.Proofs.Kb
open Go Go.RowKit Go.Proofs.Ytnojcnmnkkgkgaa.Q Go.Proofs.YtnojcnmnkkgkgaaW.PrintWords Go.Proofs.YtnojcnmnkkgkgaaW.PrintLast Go.Proofs.YtnojcnmnkkgkgaaW.PrintMore
set_option linter.unusedVariables false
set_option linter.unusedSimpArgs false
set_option maxRecDepth 100000
theorem Reps.all {α : Type} {E : EncT α} {R : α → List Value → Prop} (hR : ∀ p c, R p c → c = E.enc p) : ∀ (ps : List α) (cs : List Value), Reps R E.sz ps cs → cs = E.all ps
  | [], cs, h => List.eq_nil_of_length_eq_zero (by have := h.1; simpa using this)
  | x :: l, cs, ⟨hl, h⟩ => by
    have h0 := hR _ _ (h 0 x rfl)
    rw [Nat.zero_mul, List.drop_zero] at h0
    have ih := Reps.all hR l (cs.drop E.sz) ⟨by rw [List.length_drop, hl, List.length_cons, Nat.add_mul]; omega, fun j p hj => by
      have h1 := h (j + 1) p hj
      rwa [show (j + 1) * E.sz = E.sz + j * E.sz by rw [Nat.add_mul]; omega, ← List.drop_drop] at h1⟩
    rw [E.all_cons, ← h0, ← ih, List.take_append_drop]
section
variable (x : SV) (l6 : List S60) (l7 : List S62) (l8 : List S64) (l9 : List S66) (l10 : List ByteArray) (af : List S60) (an : List Int)
end
end Go.Proofs.Kb
end
section
namespace Go.Proofs.Kb
open Go Go.RowKit Go.Proofs.Ytnojcnmnkkgkgaa.Q Go.Proofs.YtnojcnmnkkgkgaaW.PrintWords Go.Proofs.YtnojcnmnkkgkgaaW.PrintLast Go.Proofs.YtnojcnmnkkgkgaaW.PrintMore
set_option linter.unusedVariables false
set_option linter.unusedSimpArgs false
set_option maxRecDepth 100000
section
variable {s : JS} {x : SV}
end
end Go.Proofs.Kb
end
section
namespace Go.Proofs.Kb
open Go Go.RowKit Go.Proofs.Ytnojcnmnkkgkgaa.Q Go.Proofs.YtnojcnmnkkgkgaaW.PrintWords Go.Proofs.YtnojcnmnkkgkgaaW.PrintLast Go.Proofs.YtnojcnmnkkgkgaaW.PrintMore
set_option linter.unusedVariables false
set_option linter.unusedSimpArgs false
set_option maxRecDepth 100000
def batL (i : Nat) : List Int := (List.range i).flatMap fun j : Nat => [1, 1 + 2 * (j : Int)]
def ansL (i : Nat) : List Int := [1, 0, 0] ++ batL i
def tailL (b j : Nat) : List Int := ((List.range (b - j)).flatMap fun k : Nat => [1, 1 + 2 * ((j + k : Nat) : Int)]) ++ [1, 0, 1, 0]
theorem batL_succ (i : Nat) : batL (i + 1) = batL i ++ [1, 1 + 2 * (i : Int)] := by
  unfold batL
  rw [List.range_succ, List.flatMap_append]
  simp
theorem ansL_succ (i : Nat) : ansL (i + 1) = ansL i ++ [1, 1 + 2 * (i : Int)] := by
  unfold ansL
  rw [batL_succ, List.append_assoc]
theorem ansL_len : ∀ i : Nat, (ansL i).length = 3 + 2 * i
  | 0 => rfl
  | i + 1 => by
    rw [ansL_succ, List.length_append, ansL_len i]
    show 3 + 2 * i + 2 = _
    omega
theorem tailL_zero (b : Nat) : batL b ++ [1, 0, 1, 0] = tailL b 0 := by
  unfold batL tailL
  simp
theorem tailL_step (b j : Nat) (h : j < b) : tailL b j = 1 :: (1 + 2 * (j : Int)) :: tailL b (j + 1) := by
  unfold tailL
  obtain ⟨d, hd⟩ : ∃ d, b - j = d + 1 := ⟨b - j - 1, by omega⟩
  rw [hd, show b - (j + 1) = d by omega, List.range_succ_eq_map, List.flatMap_cons, List.flatMap_map]
  have e : (fun a : Nat => [(1 : Int), 1 + 2 * ((j + a.succ : Nat) : Int)]) = fun k : Nat => [(1 : Int), 1 + 2 * ((j + 1 + k : Nat) : Int)] := by
    funext a
    rw [show j + a.succ = j + 1 + a by omega]
  rw [e]
  rfl
theorem tailL_end (b : Nat) : tailL b b = [1, 0, 1, 0] := by
  unfold tailL
  rw [Nat.sub_self]
  rfl
theorem odd61 : (List.range 61).all (fun j => (bits .and .i64 (1 + 2 * (j : Int)) 1 == 0) == false) = true := by decide +kernel
theorem odd_bit (j : Nat) (h : j ≤ 60) : ¬ ((bits .and .i64 (1 + 2 * (j : Int)) 1 == 0) = true) := by
  have h1 := List.all_eq_true.1 odd61 j (List.mem_range.2 (by omega))
  intro h2
  rw [h2] at h1
  cases h1
theorem wf_small (a : Int) (h : 0 ≤ a ∧ a ≤ 1000) : WfI a := WalkArith.wf_i64 (by omega)
theorem batL_wf (i : Nat) (h : i ≤ 60) : ∀ a ∈ batL i, WfI a := by
  intro a ha
  obtain ⟨j, hj, hm⟩ := List.mem_flatMap.1 ha
  have hj' := List.mem_range.1 hj
  simp only [List.mem_cons, List.not_mem_nil, or_false] at hm
  rcases hm with rfl | rfl
  · exact wf_small _ (by omega)
  · exact wf_small _ (by omega)
def enS (b : Nat) : JS := ⟨1, [], 1, 0, ansL b ++ [1, 0, 1, 0], [], 0⟩
theorem en_beg (b : Nat) (h : b ≤ 60) (y : SV) (h1 : y.f1.size ≤ 1000) (h2 : y.f2.size ≤ 1000) : Beg (enS b) y :=
  ⟨rfl, rfl, ⟨(by decide : (1 : Int) ≤ 1), (by decide : (1 : Int) ≤ 9223372036854775807)⟩, h1, h2, fun a ha => by
    have ha' : a ∈ [1, 0, 0] ++ batL b ++ [1, 0, 1, 0] := ha
    rcases List.mem_append.1 ha' with ha' | ha'
    · rcases List.mem_append.1 ha' with ha' | ha'
      · simp only [List.mem_cons, List.not_mem_nil, or_false] at ha'
        exact wf_small _ (by omega)
      · exact batL_wf b h a ha'
    · simp only [List.mem_cons, List.not_mem_nil, or_false] at ha'
      exact wf_small _ (by omega), fun y hy => (by cases hy), Nat.zero_le _⟩
theorem en_1 (b : Nat) (y : SV) : StepE ((enS b).steps y 1) = .returned (.tuple #[.int .i64 0, .bool false]) := by kernel_rfl
theorem en_2 (b : Nat) (y : SV) : ((enS b).steps y 2).ph = 3 ∧ ((enS b).steps y 2).er = 0 ∧ ((enS b).steps y 2).ans = tailL b 0 := by
  refine ⟨by kernel_rfl, by kernel_rfl, ?_⟩
  rw [← tailL_zero]
  kernel_rfl
theorem en_fill (s : JS) (x : SV) (a : Int) (r : List Int) (hp : s.ph = 3) (ha : s.ans = 1 :: a :: r) : s.step x = (s.said (⟨#[116, 111, 107, 101, 110]⟩ : ByteArray)).fill x := by
  unfold JS.step
  rw [if_neg (by omega), if_neg (by omega), if_pos hp, if_pos (by rw [ha]; show (bits .and .i64 1 1 == 1) = true; kernel_rfl)]
theorem en_go (s : JS) (x : SV) (a : Int) (r : List Int) (hp : s.ph = 3) (ha : s.ans = 1 :: a :: r) (ho : ¬ ((bits .and .i64 a 1 == 0) = true)) : (s.step x).ph = 3 ∧ (s.step x).er = s.er ∧ (s.step x).ans = r := by
  rw [en_fill s x a r hp ha]
  unfold JS.fill
  have e : (s.said (⟨#[116, 111, 107, 101, 110]⟩ : ByteArray)).ans = a :: r := by show s.ans.tail = _; rw [ha]; rfl
  rw [e]
  show (JS.ph (if (bits .and .i64 a 1 == 0) = true then _ else _)) = 3 ∧ (JS.er (if (bits .and .i64 a 1 == 0) = true then _ else _)) = _ ∧ (JS.ans (if (bits .and .i64 a 1 == 0) = true then _ else _)) = _
  rw [if_neg ho]
  refine ⟨hp, rfl, ?_⟩
  show (s.said (⟨#[116, 111, 107, 101, 110]⟩ : ByteArray)).ans.tail = r
  rw [e]
  rfl
theorem en_stop (s : JS) (x : SV) (r : List Int) (hp : s.ph = 3) (ha : s.ans = 1 :: 0 :: r) : (s.step x).ph = 4 ∧ (s.step x).er = s.er ∧ (s.step x).ans = r := by
  rw [en_fill s x 0 r hp ha]
  unfold JS.fill
  have e : (s.said (⟨#[116, 111, 107, 101, 110]⟩ : ByteArray)).ans = 0 :: r := by show s.ans.tail = _; rw [ha]; rfl
  rw [e]
  have h0 : (bits .and .i64 0 1 == 0) = true := by kernel_rfl
  show (JS.ph (if (bits .and .i64 0 1 == 0) = true then _ else _)) = 4 ∧ (JS.er (if (bits .and .i64 0 1 == 0) = true then _ else _)) = _ ∧ (JS.ans (if (bits .and .i64 0 1 == 0) = true then _ else _)) = _
  rw [if_pos h0]
  refine ⟨rfl, rfl, ?_⟩
  show (s.said (⟨#[116, 111, 107, 101, 110]⟩ : ByteArray)).ans.tail = r
  rw [e]
  rfl
theorem en_last (s : JS) (x : SV) (hp : s.ph = 4) (ha : s.ans = [1, 0]) : (s.step x).ph = 6 ∧ (s.step x).er = 0 := by
  obtain ⟨ph, af, tr, er, ans, txt, held⟩ := s
  have hp' : ph = 4 := hp
  have ha' : ans = [1, 0] := ha
  subst hp'
  subst ha'
  exact ⟨by kernel_rfl, by kernel_rfl⟩
theorem en_mid (b : Nat) (hb : b ≤ 60) (y : SV) : ∀ j, j ≤ b → ((enS b).steps y (2 + j)).ph = 3 ∧ ((enS b).steps y (2 + j)).er = 0 ∧ ((enS b).steps y (2 + j)).ans = tailL b j
  | 0, _ => en_2 b y
  | j + 1, h => by
    obtain ⟨h1, h2, h3⟩ := en_mid b hb y j (by omega)
    rw [tailL_step b j (by omega)] at h3
    obtain ⟨g1, g2, g3⟩ := en_go _ y _ _ h1 h3 (odd_bit j (by omega))
    exact ⟨g1, g2.trans h2, g3⟩
theorem en_e (b : Nat) (hb : b ≤ 60) (y : SV) (i : Nat) (h : i < b + 3) : StepE ((enS b).steps y (i + 1)) = .returned (.tuple #[.int .i64 0, .bool false]) := by
  have go : ∀ s : JS, s.ph = 3 ∨ s.ph = 4 → StepE s = .returned (.tuple #[.int .i64 0, .bool false]) := fun s hs => by
    unfold StepE
    rw [if_pos (by omega), decide_eq_false (by omega)]
  match i, h with
  | 0, _ => exact en_1 b y
  | 1, _ => exact go _ (.inl (en_2 b y).1)
  | i + 2, h =>
    by_cases hi : i < b
    · have h1 := (en_mid b hb y (i + 1) (by omega)).1
      rw [show 2 + (i + 1) = i + 2 + 1 by omega] at h1
      exact go _ (.inl h1)
    · obtain rfl : i = b := by omega
      obtain ⟨h1, h2, h3⟩ := en_mid i hb y i (Nat.le_refl _)
      rw [tailL_end, show 2 + i = i + 2 by omega] at *
      exact go _ (.inr (en_stop _ y _ h1 h3).1)
theorem en_f (b : Nat) (hb : b ≤ 60) (y : SV) : StepE ((enS b).steps y (b + 3 + 1)) = .returned (.tuple #[.int .i64 0, .bool true]) := by
  obtain ⟨h1, h2, h3⟩ := en_mid b hb y b (Nat.le_refl _)
  rw [tailL_end] at h3
  obtain ⟨g1, g2, g3⟩ := en_stop _ y _ h1 h3
  obtain ⟨k1, k2⟩ := en_last _ y g1 g3
  have e : ((((enS b).steps y (2 + b)).step y).step y) = (enS b).steps y (b + 3 + 1) := by
    rw [show b + 3 + 1 = (2 + b) + 1 + 1 by omega]
    rfl
  rw [e] at k1 k2
  unfold StepE
  rw [k1, k2]
  rfl
theorem St.join {w0 w w' : World} {F : Nat → Prop} {A B : List Chunk} (s : St w0 F w A) (k : St w NoF w' B) : St w0 F w' (B ++ A) :=
  St.call (A := []) s ((show NoF = (fun b => b ∈ fpc []) by funext b; simp [NoF, fpc]) ▸ k)
set_option maxHeartbeats 16000000 in
theorem ends_row (w : World) (x : SV) (l6 : List S60) (l7 : List S62) (l8 : List S64) (l9 : List S66) (l10 : List ByteArray) (bat : Int) (hx : CK w x l6 l7 l8 l9 l10) (hti : (Lit.int .i64 bat).wf = true) :
    Calls Try.prog 3 #[.agg #[.int .i64 x.f0, .string x.f1, .string x.f2, .string x.f3, .int .i64 x.f4, .bool x.f5, .slice x.f6.A x.f6.n x.f6.c, .slice x.f7.A x.f7.n x.f7.c, .slice x.f8.A x.f8.n x.f8.c, .slice x.f9.A x.f9.n x.f9.c, .slice x.f10.A x.f10.n x.f10.c], .int .i64 bat] w fun E w' => E = .returned (.bool true) ∧ Below w.heap.size w w' := by
  obtain ⟨Q, hQ⟩ : ∃ Q, (fun E w' => E = Ending.returned (.bool true) ∧ Below w.heap.size w w') = Q := ⟨_, rfl⟩
  have HQ := Aside0.mk hQ
  rw [hQ]
  clear hQ
  have hu28 := Try.underlying28
  have hu36 := Try.underlying36
  have hu34 := Try.underlying34
  have hu32 := Try.underlying32
  have hu31 := Try.underlying31
  obtain ⟨n0, hn0⟩ : ∃ n, w.heap.size = n := ⟨_, rfl⟩
  have h1 := (St.nil0 w NoF).alloc #[.int .i64 x.f0, .string x.f1, .string x.f2, .string x.f3, .int .i64 x.f4, .bool x.f5, .slice x.f6.A x.f6.n x.f6.c, .slice x.f7.A x.f7.n x.f7.c, .slice x.f8.A x.f8.n x.f8.c, .slice x.f9.A x.f9.n x.f9.c, .slice x.f10.A x.f10.n x.f10.c] 28 hn0
  obtain ⟨W1, hW1⟩ : ∃ W, w.alloc (.cells #[.int .i64 x.f0, .string x.f1, .string x.f2, .string x.f3, .int .i64 x.f4, .bool x.f5, .slice x.f6.A x.f6.n x.f6.c, .slice x.f7.A x.f7.n x.f7.c, .slice x.f8.A x.f8.n x.f8.c, .slice x.f9.A x.f9.n x.f9.c, .slice x.f10.A x.f10.n x.f10.c] 28) = W := ⟨_, rfl⟩
  rw [hW1] at h1
  have HS0 := Aside0.mk (show St w NoF W1 [blkC n0 (.cells #[.int .i64 x.f0, .string x.f1, .string x.f2, .string x.f3, .int .i64 x.f4, .bool x.f5, .slice x.f6.A x.f6.n x.f6.c, .slice x.f7.A x.f7.n x.f7.c, .slice x.f8.A x.f8.n x.f8.c, .slice x.f9.A x.f9.n x.f9.c, .slice x.f10.A x.f10.n x.f10.c] 28 (0, 0))] from h1)
  obtain ⟨b, hb, hsm⟩ : ∃ b, (∃ k, interlocklaw15_GreatStmt.f k x.f0 x.f1 x.f2 x.f3 x.f4 x.f5 l6 l7 l8 l9 l10 = some b) ∧ (b = false → Small x.f1 x.f2 x.f3 l6 l7 l8 l9 l10) := by
    obtain ⟨k, r, h, h2⟩ := gstmt_some x.f0 x.f1 x.f2 x.f3 x.f4 x.f5 l6 l7 l8 l9 l10
    exact ⟨r, ⟨k, h⟩, h2⟩
  have A8 := Aside0.mk (fun W (h : St w NoF W [blkC n0 (.cells #[.int .i64 x.f0, .string x.f1, .string x.f2, .string x.f3, .int .i64 x.f4, .bool x.f5, .slice x.f6.A x.f6.n x.f6.c, .slice x.f7.A x.f7.n x.f7.c, .slice x.f8.A x.f8.n x.f8.c, .slice x.f9.A x.f9.n x.f9.c, .slice x.f10.A x.f10.n x.f10.c] 28 (0, 0))]) => gstmt_calls b hb (hx.below (keep_below h.keep)))
  have A9 := Aside0.mk (fun W (hb : Below w.heap.size w W) (hs : Small x.f1 x.f2 x.f3 l6 l7 l8 l9 l10) => new_calls W x 1 l6 l7 l8 l9 l10 (hx.below hb).sr hs.sn)
  clear h1 hx hb
  cases b with
  | true =>
    clear hsm A9
    go_enter Try.func3, Try.ntmps3
    go_wp2_with (first | (go_at_call 7; refine (alive_calls _).mono ?_; rintro E w1 ⟨rfl, hb⟩; have h := HS0.out.below hb; obtain ⟨p0, p1, p2, p3, p4, p5, p6, p7, p8, p9, p10⟩ := box11 (h.blk 0 rfl); have HS1 := Aside0.mk h; clear h hb HS0) | (go_at_call 8; refine (A8.out _ HS1.out).mono ?_; rintro E w2 ⟨rfl, hb⟩; have h := HS1.out.below hb; clear p0 p1 p2 p3 p4 p5 p6 p7 p8 p9 p10; obtain ⟨p0, p1, p2, p3, p4, p5, p6, p7, p8, p9, p10⟩ := box11 (h.blk 0 rfl); have HS2 := Aside0.mk h; clear h hb HS1 A8))
    rw [← HQ.out]
    exact ⟨rfl, keep_below HS2.out.keep⟩
  | false =>
    have HM := Aside0.mk (hsm rfl)
    clear hsm
    by_cases h100 : bat < 0
    · clear A9
      go_enter Try.func3, Try.ntmps3
      go_wp2_with (first | (go_at_call 7; refine (alive_calls _).mono ?_; rintro E w1 ⟨rfl, hb⟩; have h := HS0.out.below hb; obtain ⟨p0, p1, p2, p3, p4, p5, p6, p7, p8, p9, p10⟩ := box11 (h.blk 0 rfl); have HS1 := Aside0.mk h; clear h hb HS0) | (go_at_call 8; refine (A8.out _ HS1.out).mono ?_; rintro E w2 ⟨rfl, hb⟩; have h := HS1.out.below hb; clear p0 p1 p2 p3 p4 p5 p6 p7 p8 p9 p10; obtain ⟨p0, p1, p2, p3, p4, p5, p6, p7, p8, p9, p10⟩ := box11 (h.blk 0 rfl); have HS2 := Aside0.mk h; clear h hb HS1 A8))
      rw [← HQ.out]
      exact ⟨rfl, keep_below HS2.out.keep⟩
    by_cases h101 : bat > 60
    · clear A9
      go_enter Try.func3, Try.ntmps3
      go_wp2_with (first | (go_at_call 7; refine (alive_calls _).mono ?_; rintro E w1 ⟨rfl, hb⟩; have h := HS0.out.below hb; obtain ⟨p0, p1, p2, p3, p4, p5, p6, p7, p8, p9, p10⟩ := box11 (h.blk 0 rfl); have HS1 := Aside0.mk h; clear h hb HS0) | (go_at_call 8; refine (A8.out _ HS1.out).mono ?_; rintro E w2 ⟨rfl, hb⟩; have h := HS1.out.below hb; clear p0 p1 p2 p3 p4 p5 p6 p7 p8 p9 p10; obtain ⟨p0, p1, p2, p3, p4, p5, p6, p7, p8, p9, p10⟩ := box11 (h.blk 0 rfl); have HS2 := Aside0.mk h; clear h hb HS1 A8))
      rw [← HQ.out]
      exact ⟨rfl, keep_below HS2.out.keep⟩
    obtain ⟨n, rfl⟩ : ∃ n : Nat, bat = n := ⟨bat.toNat, by omega⟩
    have hn60 : n ≤ 60 := by omega
    clear hti
    unfold New9 at A9
    rw [show maxT 1 = 1 from rfl] at A9
    go_enter Try.func3, Try.ntmps3
    go_wp2_with (first | (go_at_call 7; refine (alive_calls _).mono ?_; rintro E w1 ⟨rfl, hb⟩; have h := HS0.out.below hb; obtain ⟨p0, p1, p2, p3, p4, p5, p6, p7, p8, p9, p10⟩ := box11 (h.blk 0 rfl); have HS1 := Aside0.mk h; clear h hb HS0) | (go_at_call 8; refine (A8.out _ HS1.out).mono ?_; rintro E w2 ⟨rfl, hb⟩; have h := HS1.out.below hb; clear p0 p1 p2 p3 p4 p5 p6 p7 p8 p9 p10; obtain ⟨p0, p1, p2, p3, p4, p5, p6, p7, p8, p9, p10⟩ := box11 (h.blk 0 rfl); obtain ⟨n8, hn8⟩ : ∃ n, w2.heap.size = n := ⟨_, rfl⟩; have h8 := h.alloc #[.int .i64 1, .int .i64 0, .int .i64 0] 3 hn8; have HS3 := Aside0.mk (show St w NoF _ [blkC n0 (.cells #[.int .i64 x.f0, .string x.f1, .string x.f2, .string x.f3, .int .i64 x.f4, .bool x.f5, .slice x.f6.A x.f6.n x.f6.c, .slice x.f7.A x.f7.n x.f7.c, .slice x.f8.A x.f8.n x.f8.c, .slice x.f9.A x.f9.n x.f9.c, .slice x.f10.A x.f10.n x.f10.c] 28 (0, 0)), rowXC intE (.slice (some ⟨n8, 0, none⟩) 3 3) (ansL 0)] from h8.as 1 rfl (rowXC intE (.slice (some ⟨n8, 0, none⟩) 3 3) (ansL 0)) (fun hh => rowX_blk (E := intE) (l := ansL 0) hh rfl (by simp [maxLen, ansL, batL])) rfl); obtain ⟨W8, hW8⟩ : ∃ W, w2.alloc (.cells #[.int .i64 1, .int .i64 0, .int .i64 0] 3) = W := ⟨_, rfl⟩; rw [hW8] at HS3; clear h h8 hb HS1 A8))
    clear p0 p1 p2 p3 p4 p5 p6 p7 p8 p9 p10
    go_loopg [5, 6] n (fun gq v5 v6 wx => ∃ (i g c : Nat), v6 = .int .i64 i ∧ v5 = .slice (some ⟨g, 0, none⟩) (3 + 2 * i) c ∧ i + gq = n ∧ Aside0 (St w NoF wx [blkC n0 (.cells #[.int .i64 x.f0, .string x.f1, .string x.f2, .string x.f3, .int .i64 x.f4, .bool x.f5, .slice x.f6.A x.f6.n x.f6.c, .slice x.f7.A x.f7.n x.f7.c, .slice x.f8.A x.f8.n x.f8.c, .slice x.f9.A x.f9.n x.f9.c, .slice x.f10.A x.f10.n x.f10.c] 28 (0, 0)), rowXC intE (.slice (some ⟨g, 0, none⟩) (3 + 2 * i) c) (ansL i)]))
    case atStart => exact ⟨0, n8, 3, rfl, rfl, by omega, HS3⟩
    case round =>
      clear HS3
      obtain ⟨i, g, c, rfl, rfl, hi, HS⟩ := hrel
      cases gk with
      | zero =>
        obtain rfl : i = n := by omega
        have hin : ¬ ((i : Int) < (i : Int)) := by omega
        obtain ⟨n9, hn9⟩ : ∃ n, wr.heap.size = n := ⟨_, rfl⟩
        have h9 := HS.out.alloc #[.int .i64 1, .int .i64 0, .int .i64 1, .int .i64 0] 3 hn9
        obtain ⟨W9, hW9⟩ : ∃ W, wr.alloc (.cells #[.int .i64 1, .int .i64 0, .int .i64 1, .int .i64 0] 3) = W := ⟨_, rfl⟩
        rw [hW9] at h9
        obtain ⟨g2, c2, w6, hrun, hrow, hgrow, hown⟩ := appendsX (u := .slice (some ⟨n9, 0, none⟩) 4 4) (l' := [1, 0, 1, 0]) intI 31 (h9.rowX 1 rfl) (rowX_blk (E := intE) (l := [1, 0, 1, 0]) (h9.blk 2 rfl) rfl (by simp [maxLen])) (by rw [ansL_len]; show _ + 4 < _; omega) (by decide)
        have h10 := h9.rowTo 1 rfl hrow hgrow hown
        have e2 : (ansL i).length + ([1, 0, 1, 0] : List Int).length = 3 + 2 * i + 4 := by rw [ansL_len]; rfl
        rw [e2] at hrun h10
        have h11 : St w NoF w6 [blkC n0 (.cells #[.int .i64 x.f0, .string x.f1, .string x.f2, .string x.f3, .int .i64 x.f4, .bool x.f5, .slice x.f6.A x.f6.n x.f6.c, .slice x.f7.A x.f7.n x.f7.c, .slice x.f8.A x.f8.n x.f8.c, .slice x.f9.A x.f9.n x.f9.c, .slice x.f10.A x.f10.n x.f10.c] 28 (0, 0)), rowXC intE (.slice (some ⟨g2, 0, none⟩) (3 + 2 * i + 4) c2) (ansL i ++ [1, 0, 1, 0])] := St.left (A := [_, _]) (R := [_]) h10
        obtain ⟨p0, p1, p2, p3, p4, p5, p6, p7, p8, p9, p10⟩ := box11 (h11.blk 0 rfl)
        have HS5 := Aside0.mk h11
        clear HS h9 hrow hgrow hown h10 h11 e2
        go_wp2_with (first
          | (at_builtin; refine wpList_append_run rfl (.tmp 36) (.tmp 37) 31 31 rfl _ _ rfl rfl hrun ?_; clear hrun)
          | (go_at_call 9; refine (A9.out _ (keep_below HS5.out.keep) HM.out).mono ?_; rintro E w7 ⟨jp, y, hy, rfl, h⟩; have h2 := HS5.out.join h; have h3 := (h2.perm (B := rowXC intE (.slice (some ⟨g2, 0, none⟩) (3 + 2 * i + 4) c2) (ansL i ++ [1, 0, 1, 0]) :: blkC jp _ :: (srC y l6 l7 l8 l9 l10 ++ [blkC n0 _])) (by exact ((List.perm_append_comm (l₁ := blkC jp _ :: srC y l6 l7 l8 l9 l10) (l₂ := [_, _])).trans ((List.Perm.swap _ _ _).trans (List.Perm.cons _ (by exact (List.perm_append_comm (l₁ := [blkC n0 _]) (l₂ := blkC jp _ :: srC y l6 l7 l8 l9 l10)))))))); obtain ⟨R, hR⟩ : ∃ R, srC y l6 l7 l8 l9 l10 ++ [blkC n0 (.cells #[.int .i64 x.f0, .string x.f1, .string x.f2, .string x.f3, .int .i64 x.f4, .bool x.f5, .slice x.f6.A x.f6.n x.f6.c, .slice x.f7.A x.f7.n x.f7.c, .slice x.f8.A x.f8.n x.f8.c, .slice x.f9.A x.f9.n x.f9.c, .slice x.f10.A x.f10.n x.f10.c] 28 (0, 0))] = R := ⟨_, rfl⟩; rw [hR] at h3; obtain ⟨tp, htp⟩ : ∃ n, w7.heap.size = n := ⟨_, rfl⟩; have h4 := St.as h3 0 rfl (ansC (.slice (some ⟨g2, 0, none⟩) (3 + 2 * i + 4) c2) (ansL i ++ [1, 0, 1, 0])) (fun hh => RowX.ans hh) rfl; have HS6 := Aside0.mk (show JT w NoF jp tp y (enS i) R _ from JT.start h4 htp); have HG := Aside0.mk (en_beg i hn60 y (by rw [hy.2.1]; have := HM.out.s1; omega) (by rw [hy.2.2.1]; have := HM.out.s2; omega)); obtain ⟨W7, hW7⟩ : ∃ W, w7.alloc (.cells #[.slice (some ⟨g2, 0, none⟩) (3 + 2 * i + 4) c2, .slice none 0 0, .int .i64 0] 36) = W := ⟨_, rfl⟩; rw [hW7] at HS6; clear h h2 h3 h4 hy hR HS5 A9 HM p0 p1 p2 p3 p4 p5 p6 p7 p8 p9 p10))
        go_loopg [9] (i + 6) (fun gq v9 wx => ∃ k : Nat, v9 = .int .i64 k ∧ k ≤ i + 3 ∧ k + gq = i + 6 ∧ Aside0 (JT w NoF jp tp y ((enS i).steps y k) R wx))
        case atStart => exact ⟨0, rfl, by omega, by omega, HS6⟩
        case round =>
          clear HS6
          obtain ⟨k, rfl, hk3, hk, HS⟩ := hrel
          cases gk with
          | zero => omega
          | succ gq =>
            have hk0 : (0 : Int) ≤ (k : Int) := by omega
            have hk9 : (k : Int) ≤ 1000000 := by omega
            have hi0 : (0 : Int) ≤ (i : Int) := by omega
            have hi9 : (i : Int) ≤ 1000000 := by omega
            have hki : (k : Int) < (i : Int) + 6 := by omega
            have A10 := Aside0.mk (step_calls HS.out (steps_ok HG.out k (by omega)))
            have hhe := (steps_r HG.out (k + 1)).1
            rw [show ((enS i).steps y k).step y = (enS i).steps y (k + 1) from rfl] at A10
            have HHE := Aside0.mk hhe
            clear HS hhe
            by_cases hlast : k < i + 3
            · rw [en_e i hn60 y k hlast] at A10
              go_wp2_with (go_at_call 10; refine A10.out.mono ?_; rintro E w3 ⟨rfl, h⟩; have HS2 := Aside0.mk h; clear h A10)
              go_roundg gq
              case measure => omega
              case rel => exact ⟨k + 1, by go_num, by omega, by omega, HS2⟩
            · obtain rfl : k = i + 3 := by omega
              rw [en_f i hn60 y] at A10
              go_wp2_with (go_at_call 10; refine A10.out.mono ?_; rintro E w3 ⟨rfl, h⟩; obtain ⟨Aq, cq, q1, q2, q3, hr⟩ := h.asked; rw [HHE.out] at q2; have HS2 := Aside0.mk h; clear h A10 hr q1)
              rw [← HQ.out]
              exact ⟨rfl, keep_below HS2.out.rest.keep⟩
      | succ gq =>
        have hin : (i : Int) < (n : Int) := by omega
        have hi0 : (0 : Int) ≤ (i : Int) := by omega
        have hi9 : (i : Int) ≤ 1000000 := by omega
        obtain ⟨n9, hn9⟩ : ∃ n, wr.heap.size = n := ⟨_, rfl⟩
        have h9 := HS.out.alloc #[.int .i64 1, .int .i64 (1 + 2 * (i : Int))] 3 hn9
        obtain ⟨W9, hW9⟩ : ∃ W, wr.alloc (.cells #[.int .i64 1, .int .i64 (1 + 2 * (i : Int))] 3) = W := ⟨_, rfl⟩
        rw [hW9] at h9
        obtain ⟨g2, c2, w6, hrun, hrow, hgrow, hown⟩ := appendsX (u := .slice (some ⟨n9, 0, none⟩) 2 2) (l' := [1, 1 + 2 * (i : Int)]) intI 31 (h9.rowX 1 rfl) (rowX_blk (E := intE) (l := [1, 1 + 2 * (i : Int)]) (h9.blk 2 rfl) rfl (by simp [maxLen])) (by rw [ansL_len]; show _ + 2 < _; omega) (by simp)
        have h10 := h9.rowTo 1 rfl hrow hgrow hown
        have e2 : (ansL i).length + ([1, 1 + 2 * (i : Int)] : List Int).length = 3 + 2 * (i + 1) := by rw [ansL_len]; show 3 + 2 * i + 2 = _; omega
        rw [e2, ← ansL_succ] at h10
        rw [e2] at hrun
        have HS5 := Aside0.mk (show St w NoF w6 [blkC n0 (.cells #[.int .i64 x.f0, .string x.f1, .string x.f2, .string x.f3, .int .i64 x.f4, .bool x.f5, .slice x.f6.A x.f6.n x.f6.c, .slice x.f7.A x.f7.n x.f7.c, .slice x.f8.A x.f8.n x.f8.c, .slice x.f9.A x.f9.n x.f9.c, .slice x.f10.A x.f10.n x.f10.c] 28 (0, 0)), rowXC intE (.slice (some ⟨g2, 0, none⟩) (3 + 2 * (i + 1)) c2) (ansL (i + 1))] from St.left (A := [_, _]) (R := [_]) h10)
        clear HS h9 hrow hgrow hown h10 e2
        go_wp2_with (at_builtin; refine wpList_append_run rfl (.tmp 30) (.tmp 34) 31 31 rfl _ _ rfl rfl hrun ?_; clear hrun)
        go_roundg gq
        case measure => omega
        case rel => exact ⟨i + 1, g2, c2, by go_num, rfl, by omega, HS5⟩
end Go.Proofs.Kb
end
section
namespace Go.Proofs.Ytnojcnmnkkgkgaa.Q
open Go.RowKit Go.Proofs.YtnojcnmnkkgkgaaW.PrintWords Go.Proofs.YtnojcnmnkkgkgaaW.PrintLast Go.Proofs.YtnojcnmnkkgkgaaW.PrintMore
attribute [local go_sem] max2_int min2_int max_two min_two max_three min_three max_four min_four
set_option linter.unusedVariables false
set_option linter.unusedSimpArgs false
set_option maxRecDepth 100000
def Rd {α : Type} (P : Program) (d : Kd α) (t : TypeId) (wf : α → Prop) : Prop :=
  ∀ {H : Type} (enc : TypeId × Value → H) (w : World) (base : Nat) (spare : Nat → Bool) (held : Bool) (fuel : Nat) (cs : List Value) (x : DataW H × List MemPlace),
    DataW.trod enc P w base spare held fuel t cs = some x → ∃ a, d.K w a cs ∧ wf a
theorem Rd.int {P : Program} {t : TypeId} {k : IntKind} (ht : P.underlying t = some (.int k)) : Rd P (Kd.int k) t (fun n => (Lit.int k n).wf = true) := by
  intro H enc w base spare held fuel cs x h
  obtain ⟨n, rfl, _, hw⟩ := DataW.trod_int ht h
  exact ⟨n, rfl, hw⟩
theorem Rd.bool {P : Program} {t : TypeId} (ht : P.underlying t = some .bool) : Rd P Kd.bool t (fun _ => True) := by
  intro H enc w base spare held fuel cs x h
  obtain ⟨n, rfl, _⟩ := DataW.trod_bool ht h
  exact ⟨n, rfl, trivial⟩
theorem Rd.string {P : Program} {t : TypeId} (ht : P.underlying t = some .string) : Rd P Kd.string t (fun s => s.size ≤ maxLen) := by
  intro H enc w base spare held fuel cs x h
  obtain ⟨n, rfl, _, hs⟩ := DataW.trod_string ht h
  exact ⟨n, rfl, hs⟩
theorem Rd.slice {α : Type} {P : Program} {d : Kd α} {t e : TypeId} {wf : α → Prop} (ht : P.underlying t = some (.slice e)) (hc : P.cellsOf e = d.sz) (hd : Rd P d e wf) :
    Rd P (Kd.slice e d) t (fun l => l.length ≤ maxLen ∧ ∀ a ∈ l, wf a) := by
  intro H enc w base spare held fuel cs x h
  rcases Go.Deep.open_slice ht h with ⟨rfl, _⟩ | ⟨a, len, cap, m, n, D, Pl, rfl, _, hl, hm, hmm, _, hi⟩
  · exact ⟨[], ⟨none, 0, rfl, Nat.le_refl _, rfl, Nat.zero_le _, fun h => absurd h (Nat.lt_irrefl _)⟩, Nat.zero_le _, fun _ h => by cases h⟩
  · have hlm : len ≤ m := by rw [hmm]; split <;> omega
    have hex : ∀ i, i < len → ∃ v, wf v ∧ ∃ c, c.length = d.sz ∧ d.K w v c ∧ ∀ j u, c[j]? = some u → w.cell? (a.add (i * d.sz + j)) = some u := by
      intro i hilt
      obtain ⟨cs', hcs, ht'⟩ := hi i (by omega)
      obtain ⟨v, hK, hw⟩ := hd enc w base spare held n cs' _ ht'
      rw [hc] at hcs
      obtain ⟨_, hlen, hat⟩ := World.cells?_some hcs
      refine ⟨v, hw, cs', hlen, hK, fun j u hj => ?_⟩
      have hjl : j < d.sz := by rw [← hlen]; exact (List.getElem?_eq_some_iff.1 hj).1
      have := hat j hjl
      rw [Go.Deep.add_add] at this
      rw [this, hj]
    have hex' : ∀ i : Fin len, ∃ v, wf v ∧ ∃ c, c.length = d.sz ∧ d.K w v c ∧ ∀ j u, c[j]? = some u → w.cell? (a.add (i.val * d.sz + j)) = some u := fun i => hex i.val i.isLt
    have hch : ∃ g : Fin len → α, ∀ i : Fin len, wf (g i) ∧ ∃ c, c.length = d.sz ∧ d.K w (g i) c ∧ ∀ j u, c[j]? = some u → w.cell? (a.add (i.val * d.sz + j)) = some u := ⟨fun i => Classical.choose (hex' i), fun i => Classical.choose_spec (hex' i)⟩
    obtain ⟨g, hg⟩ := hch
    have hlen : (List.ofFn g).length = len := List.length_ofFn
    refine ⟨List.ofFn g, ⟨some a, cap, by rw [hlen], by rw [hlen]; exact hl, rfl, by rw [hlen]; simp only [maxLen] at hm; omega, fun _ => ⟨a, rfl, fun j p hp => ?_⟩⟩, by rw [hlen]; omega, fun v hv => ?_⟩
    · obtain ⟨hj, he⟩ := List.getElem?_eq_some_iff.1 hp
      rw [List.getElem_ofFn] at he
      subst he
      exact (hg ⟨j, by omega⟩).2
    · obtain ⟨i, rfl⟩ := List.mem_ofFn.1 hv
      exact (hg i).1
theorem some_of_len {α : Type} {xs : List α} {n j : Nat} (h : xs.length = n) (hj : j < n) : ∃ y, xs[j]? = some y := ⟨_, List.getElem?_eq_getElem (by omega)⟩
def wf60 (v : S60) : Prop := (fun n => (Lit.int .i64 n).wf = true) v.f0 ∧ (fun n => (Lit.int .i64 n).wf = true) v.f1 ∧ (fun s => s.size ≤ maxLen) v.f2
theorem rd60 : Rd Try.prog k60 60 wf60 := by
  intro H enc w base spare held fuel cs x h
  obtain ⟨xs, n, _, _, hlen, hl, hf⟩ := DataW.trod_struct Try.underlying60 h
  rw [show Try.prog.cellsOf 60 = 3 by kernel_rfl] at hlen
  obtain ⟨c0, c1, c2, rfl⟩ : ∃ c0 c1 c2, cs = [c0, c1, c2] := by
    match cs, hlen with
    | [c0, c1, c2], _ => exact ⟨c0, c1, c2, rfl⟩
  obtain ⟨y0, hy0⟩ := some_of_len hl (j := 0) (by decide)
  have g0 : DataW.trod enc Try.prog w base spare held n 3 ((([c0, c1, c2] : List Value).drop 0).take (Try.prog.cellsOf 3)) = some y0 := (hf 0 _ rfl).trans hy0
  rw [show Try.prog.cellsOf 3 = 1 by kernel_rfl] at g0
  obtain ⟨a0, K0, w0⟩ := (Rd.int Try.underlying3) enc w base spare held n _ _ g0
  obtain ⟨y1, hy1⟩ := some_of_len hl (j := 1) (by decide)
  have g1 : DataW.trod enc Try.prog w base spare held n 3 ((([c0, c1, c2] : List Value).drop 1).take (Try.prog.cellsOf 3)) = some y1 := (hf 1 _ rfl).trans hy1
  rw [show Try.prog.cellsOf 3 = 1 by kernel_rfl] at g1
  obtain ⟨a1, K1, w1⟩ := (Rd.int Try.underlying3) enc w base spare held n _ _ g1
  obtain ⟨y2, hy2⟩ := some_of_len hl (j := 2) (by decide)
  have g2 : DataW.trod enc Try.prog w base spare held n 9 ((([c0, c1, c2] : List Value).drop 2).take (Try.prog.cellsOf 9)) = some y2 := (hf 2 _ rfl).trans hy2
  rw [show Try.prog.cellsOf 9 = 1 by kernel_rfl] at g2
  obtain ⟨a2, K2, w2⟩ := (Rd.string Try.underlying9) enc w base spare held n _ _ g2
  exact ⟨⟨a0, a1, a2⟩, ⟨[c0], [c1, c2], rfl, K0, ⟨[c1], [c2], rfl, K1, K2⟩⟩, ⟨w0, w1, w2⟩⟩
def wf62 (v : S62) : Prop := (fun s => s.size ≤ maxLen) v.f0 ∧ wf60 v.f1
theorem rd62 : Rd Try.prog k62 62 wf62 := by
  intro H enc w base spare held fuel cs x h
  obtain ⟨xs, n, _, _, hlen, hl, hf⟩ := DataW.trod_struct Try.underlying62 h
  rw [show Try.prog.cellsOf 62 = 4 by kernel_rfl] at hlen
  obtain ⟨c0, c1, c2, c3, rfl⟩ : ∃ c0 c1 c2 c3, cs = [c0, c1, c2, c3] := by
    match cs, hlen with
    | [c0, c1, c2, c3], _ => exact ⟨c0, c1, c2, c3, rfl⟩
  obtain ⟨y0, hy0⟩ := some_of_len hl (j := 0) (by decide)
  have g0 : DataW.trod enc Try.prog w base spare held n 9 ((([c0, c1, c2, c3] : List Value).drop 0).take (Try.prog.cellsOf 9)) = some y0 := (hf 0 _ rfl).trans hy0
  rw [show Try.prog.cellsOf 9 = 1 by kernel_rfl] at g0
  obtain ⟨a0, K0, w0⟩ := (Rd.string Try.underlying9) enc w base spare held n _ _ g0
  obtain ⟨y1, hy1⟩ := some_of_len hl (j := 1) (by decide)
  have g1 : DataW.trod enc Try.prog w base spare held n 60 ((([c0, c1, c2, c3] : List Value).drop 1).take (Try.prog.cellsOf 60)) = some y1 := (hf 1 _ rfl).trans hy1
  rw [show Try.prog.cellsOf 60 = 3 by kernel_rfl] at g1
  obtain ⟨a1, K1, w1⟩ := rd60 enc w base spare held n _ _ g1
  exact ⟨⟨a0, a1⟩, ⟨[c0], [c1, c2, c3], rfl, K0, K1⟩, ⟨w0, w1⟩⟩
def wf64 (v : S64) : Prop := (fun s => s.size ≤ maxLen) v.f0 ∧ (fun n => (Lit.int .i64 n).wf = true) v.f1 ∧ wf60 v.f2
theorem rd64 : Rd Try.prog k64 64 wf64 := by
  intro H enc w base spare held fuel cs x h
  obtain ⟨xs, n, _, _, hlen, hl, hf⟩ := DataW.trod_struct Try.underlying64 h
  rw [show Try.prog.cellsOf 64 = 5 by kernel_rfl] at hlen
  obtain ⟨c0, c1, c2, c3, c4, rfl⟩ : ∃ c0 c1 c2 c3 c4, cs = [c0, c1, c2, c3, c4] := by
    match cs, hlen with
    | [c0, c1, c2, c3, c4], _ => exact ⟨c0, c1, c2, c3, c4, rfl⟩
  obtain ⟨y0, hy0⟩ := some_of_len hl (j := 0) (by decide)
  have g0 : DataW.trod enc Try.prog w base spare held n 9 ((([c0, c1, c2, c3, c4] : List Value).drop 0).take (Try.prog.cellsOf 9)) = some y0 := (hf 0 _ rfl).trans hy0
  rw [show Try.prog.cellsOf 9 = 1 by kernel_rfl] at g0
  obtain ⟨a0, K0, w0⟩ := (Rd.string Try.underlying9) enc w base spare held n _ _ g0
  obtain ⟨y1, hy1⟩ := some_of_len hl (j := 1) (by decide)
  have g1 : DataW.trod enc Try.prog w base spare held n 3 ((([c0, c1, c2, c3, c4] : List Value).drop 1).take (Try.prog.cellsOf 3)) = some y1 := (hf 1 _ rfl).trans hy1
  rw [show Try.prog.cellsOf 3 = 1 by kernel_rfl] at g1
  obtain ⟨a1, K1, w1⟩ := (Rd.int Try.underlying3) enc w base spare held n _ _ g1
  obtain ⟨y2, hy2⟩ := some_of_len hl (j := 2) (by decide)
  have g2 : DataW.trod enc Try.prog w base spare held n 60 ((([c0, c1, c2, c3, c4] : List Value).drop 2).take (Try.prog.cellsOf 60)) = some y2 := (hf 2 _ rfl).trans hy2
  rw [show Try.prog.cellsOf 60 = 3 by kernel_rfl] at g2
  obtain ⟨a2, K2, w2⟩ := rd60 enc w base spare held n _ _ g2
  exact ⟨⟨a0, a1, a2⟩, ⟨[c0], [c1, c2, c3, c4], rfl, K0, ⟨[c1], [c2, c3, c4], rfl, K1, K2⟩⟩, ⟨w0, w1, w2⟩⟩
def wf66 (v : S66) : Prop := (fun s => s.size ≤ maxLen) v.f0 ∧ (fun n => (Lit.int .i64 n).wf = true) v.f1 ∧ (fun _ => True) v.f2
theorem rd66 : Rd Try.prog k66 66 wf66 := by
  intro H enc w base spare held fuel cs x h
  obtain ⟨xs, n, _, _, hlen, hl, hf⟩ := DataW.trod_struct Try.underlying66 h
  rw [show Try.prog.cellsOf 66 = 3 by kernel_rfl] at hlen
  obtain ⟨c0, c1, c2, rfl⟩ : ∃ c0 c1 c2, cs = [c0, c1, c2] := by
    match cs, hlen with
    | [c0, c1, c2], _ => exact ⟨c0, c1, c2, rfl⟩
  obtain ⟨y0, hy0⟩ := some_of_len hl (j := 0) (by decide)
  have g0 : DataW.trod enc Try.prog w base spare held n 9 ((([c0, c1, c2] : List Value).drop 0).take (Try.prog.cellsOf 9)) = some y0 := (hf 0 _ rfl).trans hy0
  rw [show Try.prog.cellsOf 9 = 1 by kernel_rfl] at g0
  obtain ⟨a0, K0, w0⟩ := (Rd.string Try.underlying9) enc w base spare held n _ _ g0
  obtain ⟨y1, hy1⟩ := some_of_len hl (j := 1) (by decide)
  have g1 : DataW.trod enc Try.prog w base spare held n 3 ((([c0, c1, c2] : List Value).drop 1).take (Try.prog.cellsOf 3)) = some y1 := (hf 1 _ rfl).trans hy1
  rw [show Try.prog.cellsOf 3 = 1 by kernel_rfl] at g1
  obtain ⟨a1, K1, w1⟩ := (Rd.int Try.underlying3) enc w base spare held n _ _ g1
  obtain ⟨y2, hy2⟩ := some_of_len hl (j := 2) (by decide)
  have g2 : DataW.trod enc Try.prog w base spare held n 4 ((([c0, c1, c2] : List Value).drop 2).take (Try.prog.cellsOf 4)) = some y2 := (hf 2 _ rfl).trans hy2
  rw [show Try.prog.cellsOf 4 = 1 by kernel_rfl] at g2
  obtain ⟨a2, K2, w2⟩ := (Rd.bool Try.underlying4) enc w base spare held n _ _ g2
  exact ⟨⟨a0, a1, a2⟩, ⟨[c0], [c1, c2], rfl, K0, ⟨[c1], [c2], rfl, K1, K2⟩⟩, ⟨w0, w1, w2⟩⟩
end Go.Proofs.Ytnojcnmnkkgkgaa.Q
end
section
namespace Go.Proofs.Kb
open Go Go.RowKit Go.Proofs.Ytnojcnmnkkgkgaa.Q Go.Proofs.YtnojcnmnkkgkgaaW.PrintWords Go.Proofs.YtnojcnmnkkgkgaaW.PrintLast Go.Proofs.YtnojcnmnkkgkgaaW.PrintMore
set_option linter.unusedVariables false
set_option linter.unusedSimpArgs false
set_option maxRecDepth 100000
theorem rd28 {H : Type} (enc : TypeId × Value → H) (w : World) (base : Nat) (spare : Nat → Bool) (held : Bool) (fuel : Nat) (cs : List Value) (x : DataW H × List MemPlace)
    (h : DataW.trod enc Try.prog w base spare held fuel 28 cs = some x) : ∃ (y : SV) (l6 : List S60) (l7 : List S62) (l8 : List S64) (l9 : List S66) (l10 : List ByteArray), cs = [.int .i64 y.f0, .string y.f1, .string y.f2, .string y.f3, .int .i64 y.f4, .bool y.f5, .slice y.f6.A y.f6.n y.f6.c, .slice y.f7.A y.f7.n y.f7.c, .slice y.f8.A y.f8.n y.f8.c, .slice y.f9.A y.f9.n y.f9.c, .slice y.f10.A y.f10.n y.f10.c] ∧ CK w y l6 l7 l8 l9 l10 := by
  obtain ⟨xs, n, _, _, hlen, hl, hf⟩ := DataW.trod_struct Try.underlying28 h
  rw [show Try.prog.cellsOf 28 = 11 by kernel_rfl] at hlen
  obtain ⟨c0, c1, c2, c3, c4, c5, c6, c7, c8, c9, c10, rfl⟩ : ∃ c0 c1 c2 c3 c4 c5 c6 c7 c8 c9 c10, cs = [c0, c1, c2, c3, c4, c5, c6, c7, c8, c9, c10] := by
    match cs, hlen with
    | [c0, c1, c2, c3, c4, c5, c6, c7, c8, c9, c10], _ => exact ⟨c0, c1, c2, c3, c4, c5, c6, c7, c8, c9, c10, rfl⟩
  obtain ⟨y0, hy0⟩ := some_of_len hl (j := 0) (by decide)
  have g0 : DataW.trod enc Try.prog w base spare held n 3 ((([c0, c1, c2, c3, c4, c5, c6, c7, c8, c9, c10] : List Value).drop 0).take (Try.prog.cellsOf 3)) = some y0 := (hf 0 _ rfl).trans hy0
  rw [show Try.prog.cellsOf 3 = 1 by kernel_rfl] at g0
  obtain ⟨a0, K0, w0⟩ := (Rd.int Try.underlying3) enc w base spare held n _ _ g0
  obtain ⟨y1, hy1⟩ := some_of_len hl (j := 1) (by decide)
  have g1 : DataW.trod enc Try.prog w base spare held n 9 ((([c0, c1, c2, c3, c4, c5, c6, c7, c8, c9, c10] : List Value).drop 1).take (Try.prog.cellsOf 9)) = some y1 := (hf 1 _ rfl).trans hy1
  rw [show Try.prog.cellsOf 9 = 1 by kernel_rfl] at g1
  obtain ⟨a1, K1, w1⟩ := (Rd.string Try.underlying9) enc w base spare held n _ _ g1
  obtain ⟨y2, hy2⟩ := some_of_len hl (j := 2) (by decide)
  have g2 : DataW.trod enc Try.prog w base spare held n 9 ((([c0, c1, c2, c3, c4, c5, c6, c7, c8, c9, c10] : List Value).drop 2).take (Try.prog.cellsOf 9)) = some y2 := (hf 2 _ rfl).trans hy2
  rw [show Try.prog.cellsOf 9 = 1 by kernel_rfl] at g2
  obtain ⟨a2, K2, w2⟩ := (Rd.string Try.underlying9) enc w base spare held n _ _ g2
  obtain ⟨y3, hy3⟩ := some_of_len hl (j := 3) (by decide)
  have g3 : DataW.trod enc Try.prog w base spare held n 9 ((([c0, c1, c2, c3, c4, c5, c6, c7, c8, c9, c10] : List Value).drop 3).take (Try.prog.cellsOf 9)) = some y3 := (hf 3 _ rfl).trans hy3
  rw [show Try.prog.cellsOf 9 = 1 by kernel_rfl] at g3
  obtain ⟨a3, K3, w3⟩ := (Rd.string Try.underlying9) enc w base spare held n _ _ g3
  obtain ⟨y4, hy4⟩ := some_of_len hl (j := 4) (by decide)
  have g4 : DataW.trod enc Try.prog w base spare held n 3 ((([c0, c1, c2, c3, c4, c5, c6, c7, c8, c9, c10] : List Value).drop 4).take (Try.prog.cellsOf 3)) = some y4 := (hf 4 _ rfl).trans hy4
  rw [show Try.prog.cellsOf 3 = 1 by kernel_rfl] at g4
  obtain ⟨a4, K4, w4⟩ := (Rd.int Try.underlying3) enc w base spare held n _ _ g4
  obtain ⟨y5, hy5⟩ := some_of_len hl (j := 5) (by decide)
  have g5 : DataW.trod enc Try.prog w base spare held n 4 ((([c0, c1, c2, c3, c4, c5, c6, c7, c8, c9, c10] : List Value).drop 5).take (Try.prog.cellsOf 4)) = some y5 := (hf 5 _ rfl).trans hy5
  rw [show Try.prog.cellsOf 4 = 1 by kernel_rfl] at g5
  obtain ⟨a5, K5, w5⟩ := (Rd.bool Try.underlying4) enc w base spare held n _ _ g5
  obtain ⟨y6, hy6⟩ := some_of_len hl (j := 6) (by decide)
  have g6 : DataW.trod enc Try.prog w base spare held n 22 ((([c0, c1, c2, c3, c4, c5, c6, c7, c8, c9, c10] : List Value).drop 6).take (Try.prog.cellsOf 22)) = some y6 := (hf 6 _ rfl).trans hy6
  rw [show Try.prog.cellsOf 22 = 1 by kernel_rfl] at g6
  obtain ⟨a6, K6, w6⟩ := (Rd.slice Try.underlying22 (by kernel_rfl) rd60) enc w base spare held n _ _ g6
  obtain ⟨y7, hy7⟩ := some_of_len hl (j := 7) (by decide)
  have g7 : DataW.trod enc Try.prog w base spare held n 23 ((([c0, c1, c2, c3, c4, c5, c6, c7, c8, c9, c10] : List Value).drop 7).take (Try.prog.cellsOf 23)) = some y7 := (hf 7 _ rfl).trans hy7
  rw [show Try.prog.cellsOf 23 = 1 by kernel_rfl] at g7
  obtain ⟨a7, K7, w7⟩ := (Rd.slice Try.underlying23 (by kernel_rfl) rd62) enc w base spare held n _ _ g7
  obtain ⟨y8, hy8⟩ := some_of_len hl (j := 8) (by decide)
  have g8 : DataW.trod enc Try.prog w base spare held n 24 ((([c0, c1, c2, c3, c4, c5, c6, c7, c8, c9, c10] : List Value).drop 8).take (Try.prog.cellsOf 24)) = some y8 := (hf 8 _ rfl).trans hy8
  rw [show Try.prog.cellsOf 24 = 1 by kernel_rfl] at g8
  obtain ⟨a8, K8, w8⟩ := (Rd.slice Try.underlying24 (by kernel_rfl) rd64) enc w base spare held n _ _ g8
  obtain ⟨y9, hy9⟩ := some_of_len hl (j := 9) (by decide)
  have g9 : DataW.trod enc Try.prog w base spare held n 25 ((([c0, c1, c2, c3, c4, c5, c6, c7, c8, c9, c10] : List Value).drop 9).take (Try.prog.cellsOf 25)) = some y9 := (hf 9 _ rfl).trans hy9
  rw [show Try.prog.cellsOf 25 = 1 by kernel_rfl] at g9
  obtain ⟨a9, K9, w9⟩ := (Rd.slice Try.underlying25 (by kernel_rfl) rd66) enc w base spare held n _ _ g9
  obtain ⟨y10, hy10⟩ := some_of_len hl (j := 10) (by decide)
  have g10 : DataW.trod enc Try.prog w base spare held n 26 ((([c0, c1, c2, c3, c4, c5, c6, c7, c8, c9, c10] : List Value).drop 10).take (Try.prog.cellsOf 26)) = some y10 := (hf 10 _ rfl).trans hy10
  rw [show Try.prog.cellsOf 26 = 1 by kernel_rfl] at g10
  obtain ⟨a10, K10, w10⟩ := (Rd.slice Try.underlying26 (by kernel_rfl) (Rd.string Try.underlying9)) enc w base spare held n _ _ g10
  obtain ⟨A6, k6, e6, q6, hC6⟩ := K6
  obtain ⟨A7, k7, e7, q7, hC7⟩ := K7
  obtain ⟨A8, k8, e8, q8, hC8⟩ := K8
  obtain ⟨A9, k9, e9, q9, hC9⟩ := K9
  obtain ⟨A10, k10, e10, q10, hC10⟩ := K10
  refine ⟨⟨a0, a1, a2, a3, a4, a5, ⟨A6, a6.length, k6⟩, ⟨A7, a7.length, k7⟩, ⟨A8, a8.length, k8⟩, ⟨A9, a9.length, k9⟩, ⟨A10, a10.length, k10⟩⟩, a6, a7, a8, a9, a10, ?_, ⟨⟨rfl, q6, hC6⟩, ⟨rfl, q7, hC7⟩, ⟨rfl, q8, hC8⟩, ⟨rfl, q9, hC9⟩, ⟨rfl, q10, hC10⟩⟩⟩
  have f0 : c0 = .int .i64 a0 := by injection (show [c0] = [_] from K0)
  have f1 : c1 = .string a1 := by injection (show [c1] = [_] from K1)
  have f2 : c2 = .string a2 := by injection (show [c2] = [_] from K2)
  have f3 : c3 = .string a3 := by injection (show [c3] = [_] from K3)
  have f4 : c4 = .int .i64 a4 := by injection (show [c4] = [_] from K4)
  have f5 : c5 = .bool a5 := by injection (show [c5] = [_] from K5)
  have f6 : c6 = .slice A6 a6.length k6 := by injection (show [c6] = [_] from e6)
  have f7 : c7 = .slice A7 a7.length k7 := by injection (show [c7] = [_] from e7)
  have f8 : c8 = .slice A8 a8.length k8 := by injection (show [c8] = [_] from e8)
  have f9 : c9 = .slice A9 a9.length k9 := by injection (show [c9] = [_] from e9)
  have f10 : c10 = .slice A10 a10.length k10 := by injection (show [c10] = [_] from e10)
  rw [f0, f1, f2, f3, f4, f5, f6, f7, f8, f9, f10]
end Go.Proofs.Kb
end
