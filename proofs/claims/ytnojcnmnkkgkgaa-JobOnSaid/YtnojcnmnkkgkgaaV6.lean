/- Packed by shake.py: YtnojcnmnkkgkgaaJL3 YtnojcnmnkkgkgaaQ12 YtnojcnmnkkgkgaaQ13 YtnojcnmnkkgkgaaJG2 YtnojcnmnkkgkgaaJL4 YtnojcnmnkkgkgaaR YtnojcnmnkkgkgaaJR1 -/
import Derived.OpenShut
import Derived.Deep.Slices
import Derived.ChangeArms
import Derived.DataReads
import Derived.Test.YtnojcnmnkkgkgaaV5
set_option linter.unusedSectionVars false
section
namespace Go.Proofs.Kb
open Go Go.RowKit Go.Proofs.Ytnojcnmnkkgkgaa.Q Go.Proofs.YtnojcnmnkkgkgaaW.PrintWords Go.Proofs.YtnojcnmnkkgkgaaW.PrintLast Go.Proofs.YtnojcnmnkkgkgaaW.PrintMore
set_option linter.unusedVariables false
set_option linter.unusedSimpArgs false
set_option maxRecDepth 100000
theorem box11 {W : World} {n0 : Nat} {x : SV} (hb : W.heap[n0]? = some (.cells #[.int .i64 x.f0, .string x.f1, .string x.f2, .string x.f3, .int .i64 x.f4, .bool x.f5, .slice x.f6.A x.f6.n x.f6.c, .slice x.f7.A x.f7.n x.f7.c, .slice x.f8.A x.f8.n x.f8.c, .slice x.f9.A x.f9.n x.f9.c, .slice x.f10.A x.f10.n x.f10.c] 28 (0, 0))) : W.cell? ⟨n0, 0, none⟩ = some (.int .i64 x.f0) ∧ W.cell? ⟨n0, 1, none⟩ = some (.string x.f1) ∧ W.cell? ⟨n0, 2, none⟩ = some (.string x.f2) ∧ W.cell? ⟨n0, 3, none⟩ = some (.string x.f3) ∧ W.cell? ⟨n0, 4, none⟩ = some (.int .i64 x.f4) ∧ W.cell? ⟨n0, 5, none⟩ = some (.bool x.f5) ∧ W.cell? ⟨n0, 6, none⟩ = some (.slice x.f6.A x.f6.n x.f6.c) ∧ W.cell? ⟨n0, 7, none⟩ = some (.slice x.f7.A x.f7.n x.f7.c) ∧ W.cell? ⟨n0, 8, none⟩ = some (.slice x.f8.A x.f8.n x.f8.c) ∧ W.cell? ⟨n0, 9, none⟩ = some (.slice x.f9.A x.f9.n x.f9.c) ∧ W.cell? ⟨n0, 10, none⟩ = some (.slice x.f10.A x.f10.n x.f10.c) :=
  ⟨(blk_cell hb 0).trans rfl, (blk_cell hb 1).trans rfl, (blk_cell hb 2).trans rfl, (blk_cell hb 3).trans rfl, (blk_cell hb 4).trans rfl, (blk_cell hb 5).trans rfl, (blk_cell hb 6).trans rfl, (blk_cell hb 7).trans rfl, (blk_cell hb 8).trans rfl, (blk_cell hb 9).trans rfl, (blk_cell hb 10).trans rfl⟩
end Go.Proofs.Kb
end
section
namespace Go.Proofs.Ytnojcnmnkkgkgaa.Q
open Go.RowKit Go.Proofs.YtnojcnmnkkgkgaaW.PrintWords Go.Proofs.YtnojcnmnkkgkgaaW.PrintLast Go.Proofs.YtnojcnmnkkgkgaaW.PrintMore
attribute [local go_sem] max2_int min2_int max_two min_two max_three min_three max_four min_four
set_option linter.unusedVariables false
set_option linter.unusedSimpArgs false
mutual
def interlocklaw22_great.j0 : Nat → List (S60) → Bool → Option (Bool)
  | 0, _, _ => none
  | k + 1, x1, x19 => if x19 = true then (some true) else (interlocklaw22_great.l0 k x1 0)
def interlocklaw22_great.l0 : Nat → List (S60) → Int → Option (Bool)
  | 0, _, _ => none
  | k + 1, x1, x7 => if x7 < (x1.length : Int) then (if 0 ≤ x7 then (if (((rd_T60 x1 x7).f2).size : Int) > 50 then (some true) else (interlocklaw22_great.l0 k x1 (wrap64 (x7 + 1)))) else (none)) else (some false)
end
def interlocklaw22_great.f (k : Nat) (a0_0 : Int) (a0_1 : ByteArray) (a0_2 : ByteArray) (a0_3 : ByteArray) (a0_4 : Int) (a0_5 : Bool) (l0_6 : List (S60)) (l0_7 : List (S62)) (l0_8 : List (S64)) (l0_9 : List (S66)) (l0_10 : List ByteArray) (l1 : List (S60)) (l2 : List Int) : Option (Bool) := (interlocklaw15_GreatStmt.f k a0_0 a0_1 a0_2 a0_3 a0_4 a0_5 l0_6 l0_7 l0_8 l0_9 l0_10).bind fun t115 => (if t115 = true then (interlocklaw22_great.j0 k l1 true) else (if (l1.length : Int) > 10 then (interlocklaw22_great.j0 k l1 true) else (interlocklaw22_great.j0 k l1 (decide ((l2.length : Int) > 200)))))
theorem interlocklaw22_great.mono_l : ∀ k, (∀ y0 y1, LeO (interlocklaw22_great.j0 k y0 y1) (interlocklaw22_great.j0 (k + 1) y0 y1)) ∧ (∀ y0 y1, LeO (interlocklaw22_great.l0 k y0 y1) (interlocklaw22_great.l0 (k + 1) y0 y1))
  | 0 => ⟨fun _ _ r h => by simp [interlocklaw22_great.j0] at h, fun _ _ r h => by simp [interlocklaw22_great.l0] at h⟩
  | k + 1 => by
    obtain ⟨ih0, ih1⟩ := interlocklaw22_great.mono_l k
    refine ⟨?_, ?_⟩
    · intro y0 y1
      unfold interlocklaw22_great.j0
      repeat' first
      | (with_reducible exact ih0 _ _)
      | (with_reducible exact ih1 _ _)
      | (with_reducible exact interlocklaw15_GreatStmt.mono _ _ _ _ _ _ _ _ _ _ _ _)
      | (with_reducible exact LeO.refl _)
      | (with_reducible exact LeO.none _)
      | (with_reducible refine LeO.ite ?_ ?_)
      | (with_reducible refine LeO.bind ?_ (fun _ => ?_))
      | exact ih0 _ _
      | exact ih1 _ _
      | exact interlocklaw15_GreatStmt.mono _ _ _ _ _ _ _ _ _ _ _ _
      | exact LeO.none _
      | refine LeO.ite ?_ ?_
      | refine LeO.bind ?_ (fun _ => ?_)
    · intro y0 y1
      unfold interlocklaw22_great.l0
      repeat' first
      | (with_reducible exact ih0 _ _)
      | (with_reducible exact ih1 _ _)
      | (with_reducible exact interlocklaw15_GreatStmt.mono _ _ _ _ _ _ _ _ _ _ _ _)
      | (with_reducible exact LeO.refl _)
      | (with_reducible exact LeO.none _)
      | (with_reducible refine LeO.ite ?_ ?_)
      | (with_reducible refine LeO.bind ?_ (fun _ => ?_))
      | exact ih0 _ _
      | exact ih1 _ _
      | exact interlocklaw15_GreatStmt.mono _ _ _ _ _ _ _ _ _ _ _ _
      | exact LeO.none _
      | refine LeO.ite ?_ ?_
      | refine LeO.bind ?_ (fun _ => ?_)
theorem interlocklaw22_great.mono : ∀ a0 a1 a2 a3 a4 a5 a6 a7 a8 a9 a10 a11 a12 k, LeO (interlocklaw22_great.f k a0 a1 a2 a3 a4 a5 a6 a7 a8 a9 a10 a11 a12) (interlocklaw22_great.f (k + 1) a0 a1 a2 a3 a4 a5 a6 a7 a8 a9 a10 a11 a12) := by
  intro a0 a1 a2 a3 a4 a5 a6 a7 a8 a9 a10 a11 a12 k
  obtain ⟨ih0, ih1⟩ := interlocklaw22_great.mono_l k
  unfold interlocklaw22_great.f
  repeat' first
      | (with_reducible exact ih0 _ _)
      | (with_reducible exact ih1 _ _)
      | (with_reducible exact interlocklaw15_GreatStmt.mono _ _ _ _ _ _ _ _ _ _ _ _)
      | (with_reducible exact LeO.refl _)
      | (with_reducible exact LeO.none _)
      | (with_reducible refine LeO.ite ?_ ?_)
      | (with_reducible refine LeO.bind ?_ (fun _ => ?_))
      | exact ih0 _ _
      | exact ih1 _ _
      | exact interlocklaw15_GreatStmt.mono _ _ _ _ _ _ _ _ _ _ _ _
      | exact LeO.none _
      | refine LeO.ite ?_ ?_
      | refine LeO.bind ?_ (fun _ => ?_)
set_option maxHeartbeats 8000000 in
set_option maxRecDepth 100000 in
theorem interlocklaw22_great.calls (k : Nat) (a0_0 : Int) (a0_1 : ByteArray) (a0_2 : ByteArray) (a0_3 : ByteArray) (a0_4 : Int) (a0_5 : Bool) (A0_6 : Option Addr) (c0_6 : Nat) (l0_6 : List (S60)) (A0_7 : Option Addr) (c0_7 : Nat) (l0_7 : List (S62)) (A0_8 : Option Addr) (c0_8 : Nat) (l0_8 : List (S64)) (A0_9 : Option Addr) (c0_9 : Nat) (l0_9 : List (S66)) (A0_10 : Option Addr) (c0_10 : Nat) (l0_10 : List ByteArray) (A1 : Option Addr) (c1 : Nat) (l1 : List (S60)) (A2 : Option Addr) (c2 : Nat) (l2 : List Int) (r : Bool) (w : World) (hr0_6 : Kd.C k60 w A0_6 l0_6.length l0_6) (hc0_6 : l0_6.length ≤ c0_6) (hr0_7 : Kd.C k62 w A0_7 l0_7.length l0_7) (hc0_7 : l0_7.length ≤ c0_7) (hr0_8 : Kd.C k64 w A0_8 l0_8.length l0_8) (hc0_8 : l0_8.length ≤ c0_8) (hr0_9 : Kd.C k66 w A0_9 l0_9.length l0_9) (hc0_9 : l0_9.length ≤ c0_9) (hr0_10 : Kd.C Kd.string w A0_10 l0_10.length l0_10) (hc0_10 : l0_10.length ≤ c0_10) (hr1 : Kd.C k60 w A1 l1.length l1) (hc1 : l1.length ≤ c1) (hr2 : Kd.C (Kd.int .i64) w A2 l2.length l2) (hc2 : l2.length ≤ c2) (h : interlocklaw22_great.f k a0_0 a0_1 a0_2 a0_3 a0_4 a0_5 l0_6 l0_7 l0_8 l0_9 l0_10 l1 l2 = some r) :
    Calls Try.prog 12 #[.agg #[.int .i64 a0_0, .string a0_1, .string a0_2, .string a0_3, .int .i64 a0_4, .bool a0_5, .slice A0_6 l0_6.length c0_6, .slice A0_7 l0_7.length c0_7, .slice A0_8 l0_8.length c0_8, .slice A0_9 l0_9.length c0_9, .slice A0_10 l0_10.length c0_10], .slice A1 l1.length c1, .slice A2 l2.length c2] w fun e w' => e = .returned (.bool r) ∧ Below w.heap.size w w' := by
  have hu28 := Try.underlying28
  have HR0_6 := Aside0.mk hr0_6
  have HC0_6 := Aside0.mk hc0_6
  clear hr0_6 hc0_6
  have HR0_7 := Aside0.mk hr0_7
  have HC0_7 := Aside0.mk hc0_7
  clear hr0_7 hc0_7
  have HR0_8 := Aside0.mk hr0_8
  have HC0_8 := Aside0.mk hc0_8
  clear hr0_8 hc0_8
  have HR0_9 := Aside0.mk hr0_9
  have HC0_9 := Aside0.mk hc0_9
  clear hr0_9 hc0_9
  have HR0_10 := Aside0.mk hr0_10
  have HC0_10 := Aside0.mk hc0_10
  clear hr0_10 hc0_10
  have HR1 := Aside0.mk hr1
  have HC1 := Aside0.mk hc1
  clear hr1 hc1
  have HR2 := Aside0.mk hr2
  have HC2 := Aside0.mk hc2
  clear hr2 hc2
  have HB := Aside0.mk (Below.refl w.heap.size w)
  have H : ((interlocklaw15_GreatStmt.f k a0_0 a0_1 a0_2 a0_3 a0_4 a0_5 l0_6 l0_7 l0_8 l0_9 l0_10).bind fun t115 => (if t115 = true then (interlocklaw22_great.j0 k l1 true) else (if (l1.length : Int) > 10 then (interlocklaw22_great.j0 k l1 true) else (interlocklaw22_great.j0 k l1 (decide ((l2.length : Int) > 200)))))) = some r := h
  clear h
  have HC4 := Aside0.mk H
  clear H
  go_enter Try.func12, Try.ntmps12
  go_upto_region 1 with (first | ((with_reducible refine gate_dst (N := 3) rfl ?_); (try (refine gate_guard (by rfl) ?_; dsimp only)); refine box_event ?hg (N := 3) ?hd (cs := #[.int .i64 a0_0, .string a0_1, .string a0_2, .string a0_3, .int .i64 a0_4, .bool a0_5, .slice A0_6 l0_6.length c0_6, .slice A0_7 l0_7.length c0_7, .slice A0_8 l0_8.length c0_8, .slice A0_9 l0_9.length c0_9, .slice A0_10 l0_10.length c0_10]) (t := 28) ?hr ?_; (case hd => rfl); (case hg => rfl); (case hr => first | (go_simp; done) | (go_simp; rfl)); intro gb114 hg w5 hbox hb; have n0_ := Aside0.mk (below_step (by repeat (first | (with_reducible first | exact HB.out | apply below_alloc | apply pw_below_drewN | apply below_drew1) | exact HB.out)) hb); have n1_ := Aside0.mk (hbox); have n2_ := Aside0.mk ((by rw [hg]; exact (below_size (by repeat (first | (with_reducible first | exact HB.out | apply below_alloc | apply pw_below_drewN | apply below_drew1) | exact HB.out))) : w.heap.size ≤ gb114)); have n3_ := Aside0.mk ((by rw [hg]; exact (below_size (by repeat (first | (with_reducible first | exact HB.out | apply below_alloc | apply pw_below_drewN | apply below_drew1) | exact HB.out))) : w.heap.size ≤ gb114)); clear HB; have HB := n0_; have BK114 := n1_; have GW114 := n2_; have GE114 := n3_; clear n0_ n1_ n2_ n3_; clear hb hbox hg))
  (try simp only [Act.put, List.setIfInBounds_toArray, List.set_cons_zero, List.set_cons_succ])
  go_cut [19] (fun v19 wc => ∃ (kq : Nat) (x19_3 : Bool), v19 = .bool x19_3 ∧ Aside0 (interlocklaw22_great.j0 kq l1 x19_3 = some r) ∧ Aside0 (kq ≤ k) ∧ Aside0 (wc.heap[gb114]? = some (.cells #[.int .i64 a0_0, .string a0_1, .string a0_2, .string a0_3, .int .i64 a0_4, .bool a0_5, (.slice A0_6 l0_6.length c0_6), (.slice A0_7 l0_7.length c0_7), (.slice A0_8 l0_8.length c0_8), (.slice A0_9 l0_9.length c0_9), (.slice A0_10 l0_10.length c0_10)] 28 (0, 0))) ∧ Aside0 (Below w.heap.size w wc))
  case first =>
    have H := HC4.out
    clear HC4
    replace H := Option.bind_eq_some_iff.mp H
    obtain ⟨t115, A60, H⟩ := H
    replace H : (if t115 = true then (interlocklaw22_great.j0 k l1 true) else (if (l1.length : Int) > 10 then (interlocklaw22_great.j0 k l1 true) else (interlocklaw22_great.j0 k l1 (decide ((l2.length : Int) > 200))))) = some r := H
    have A6 := Aside0.mk A60
    clear A60
    by_cases c7 : t115 = true
    · subst c7
      have H1 : (interlocklaw22_great.j0 k l1 true) = some r := by rw [if_pos rfl] at H; exact H
      clear H
      have H := H1
      clear H1
      have H' := Aside0.mk H
      clear H
      have hcz8_0 : w5.cell? ⟨gb114, 0, none⟩ = some (.int .i64 a0_0) := (blk_cell BK114.out 0).trans rfl
      have hcz8_1 : w5.cell? ⟨gb114, 1, none⟩ = some (.string a0_1) := (blk_cell BK114.out 1).trans rfl
      have hcz8_2 : w5.cell? ⟨gb114, 2, none⟩ = some (.string a0_2) := (blk_cell BK114.out 2).trans rfl
      have hcz8_3 : w5.cell? ⟨gb114, 3, none⟩ = some (.string a0_3) := (blk_cell BK114.out 3).trans rfl
      have hcz8_4 : w5.cell? ⟨gb114, 4, none⟩ = some (.int .i64 a0_4) := (blk_cell BK114.out 4).trans rfl
      have hcz8_5 : w5.cell? ⟨gb114, 5, none⟩ = some (.bool a0_5) := (blk_cell BK114.out 5).trans rfl
      have hcz8_6 : w5.cell? ⟨gb114, 6, none⟩ = some (.slice A0_6 l0_6.length c0_6) := (blk_cell BK114.out 6).trans rfl
      have hcz8_7 : w5.cell? ⟨gb114, 7, none⟩ = some (.slice A0_7 l0_7.length c0_7) := (blk_cell BK114.out 7).trans rfl
      have hcz8_8 : w5.cell? ⟨gb114, 8, none⟩ = some (.slice A0_8 l0_8.length c0_8) := (blk_cell BK114.out 8).trans rfl
      have hcz8_9 : w5.cell? ⟨gb114, 9, none⟩ = some (.slice A0_9 l0_9.length c0_9) := (blk_cell BK114.out 9).trans rfl
      have hcz8_10 : w5.cell? ⟨gb114, 10, none⟩ = some (.slice A0_10 l0_10.length c0_10) := (blk_cell BK114.out 10).trans rfl
      have hfz8_0 := blk_frozen BK114.out 0
      have hfz8_1 := blk_frozen BK114.out 1
      have hfz8_2 := blk_frozen BK114.out 2
      have hfz8_3 := blk_frozen BK114.out 3
      have hfz8_4 := blk_frozen BK114.out 4
      have hfz8_5 := blk_frozen BK114.out 5
      have hfz8_6 := blk_frozen BK114.out 6
      have hfz8_7 := blk_frozen BK114.out 7
      have hfz8_8 := blk_frozen BK114.out 8
      have hfz8_9 := blk_frozen BK114.out 9
      have hfz8_10 := blk_frozen BK114.out 10
      go_wp2_with (first | ((with_reducible refine gate_callee (f := 8) rfl ?_); refine goesL_ (some 9) rfl rfl Try.func8 (by kernel_rfl) rfl #[.agg #[.int .i64 a0_0, .string a0_1, .string a0_2, .string a0_3, .int .i64 a0_4, .bool a0_5, .slice A0_6 l0_6.length c0_6, .slice A0_7 l0_7.length c0_7, .slice A0_8 l0_8.length c0_8, .slice A0_9 l0_9.length c0_9, .slice A0_10 l0_10.length c0_10]] rfl (by (try simp only [List.map_toArray, List.map_cons, List.map_nil]); first | done | rfl | (simp only [List.length_drop, List.length_take]; rfl)) ?_; (with_reducible refine (interlocklaw15_GreatStmt.calls k a0_0 a0_1 a0_2 a0_3 a0_4 a0_5 _ _ l0_6 _ _ l0_7 _ _ l0_8 _ _ l0_9 _ _ l0_10 true _ ?side1 ?side2 ?side3 ?side4 ?side5 ?side6 ?side7 ?side8 ?side9 ?side10 A6.out).mono ?_); (case side1 => repeat (first | exact (Kd.C_below HR0_6.out HB.out) | (with_reducible refine Kd.C_alloc ?_ _) | (with_reducible refine Kd.C_drewN ?_ _) | (with_reducible refine Kd.C_drew ?_))); (case side2 => exact HC0_6.out); (case side3 => repeat (first | exact (Kd.C_below HR0_7.out HB.out) | (with_reducible refine Kd.C_alloc ?_ _) | (with_reducible refine Kd.C_drewN ?_ _) | (with_reducible refine Kd.C_drew ?_))); (case side4 => exact HC0_7.out); (case side5 => repeat (first | exact (Kd.C_below HR0_8.out HB.out) | (with_reducible refine Kd.C_alloc ?_ _) | (with_reducible refine Kd.C_drewN ?_ _) | (with_reducible refine Kd.C_drew ?_))); (case side6 => exact HC0_8.out); (case side7 => repeat (first | exact (Kd.C_below HR0_9.out HB.out) | (with_reducible refine Kd.C_alloc ?_ _) | (with_reducible refine Kd.C_drewN ?_ _) | (with_reducible refine Kd.C_drew ?_))); (case side8 => exact HC0_9.out); (case side9 => repeat (first | exact (Kd.C_below HR0_10.out HB.out) | (with_reducible refine Kd.C_alloc ?_ _) | (with_reducible refine Kd.C_drewN ?_ _) | (with_reducible refine Kd.C_drew ?_))); (case side10 => exact HC0_10.out); rintro e w9 ⟨rfl, hb⟩; refine ⟨_, rfl, ?_⟩; have n0_ := Aside0.mk (blk_below (g := gb114) (o := .cells #[.int .i64 a0_0, .string a0_1, .string a0_2, .string a0_3, .int .i64 a0_4, .bool a0_5, .slice A0_6 l0_6.length c0_6, .slice A0_7 l0_7.length c0_7, .slice A0_8 l0_8.length c0_8, .slice A0_9 l0_9.length c0_9, .slice A0_10 l0_10.length c0_10] 28 (0, 0)) (by (with_reducible repeat (first | refine blk_drewN ?_ _ | refine blk_drew ?_ | refine blk_alloc ?_ _)); exact BK114.out) hb); have n1_ := Aside0.mk (below_step (by repeat (first | (with_reducible first | exact HB.out | apply below_alloc | apply pw_below_drewN | apply below_drew1 | refine below_set ?_ GE114.out) | exact HB.out)) hb); clear BK114; clear HB; have BK114 := n0_; have HB := n1_; clear n0_ n1_; (try clear hb); (try clear hb2); (try clear hk); (try clear hi)))
      go_meet
      case rel => exact ⟨_, (true), (by first | rfl | (simp; done) | (simp [*]; done)), H', ⟨by first | omega | exact Nat.le_refl _⟩, ⟨by (with_reducible repeat (first | refine blk_drewN ?_ _ | refine blk_drew ?_ | refine blk_alloc ?_ _)); exact BK114.out⟩, ⟨by repeat (first | (with_reducible first | exact HB.out | apply below_alloc | apply pw_below_drewN | apply below_drew1 | refine below_set ?_ GE114.out) | exact HB.out)⟩⟩
    · replace c7 := Bool.eq_false_iff.mpr c7
      subst c7
      have H1 : (if (l1.length : Int) > 10 then (interlocklaw22_great.j0 k l1 true) else (interlocklaw22_great.j0 k l1 (decide ((l2.length : Int) > 200)))) = some r := by rw [if_neg (show ¬ (false = true) by decide)] at H; exact H
      clear H
      have H := H1
      clear H1
      by_cases c10 : (l1.length : Int) > 10
      · rw [if_pos c10] at H
        have c10b0 : decide (10 < (l1.length : Int)) = true := decide_eq_true c10
        have c10b1 : decide (10 < l1.length) = true := decide_eq_true (by omega)
        clear c10
        (first | rw [c10b0] | (simp only [i64_w, i32_w]; rw [c10b0]) | skip)
        have H' := Aside0.mk H
        clear H
        have hcz11_0 : w5.cell? ⟨gb114, 0, none⟩ = some (.int .i64 a0_0) := (blk_cell BK114.out 0).trans rfl
        have hcz11_1 : w5.cell? ⟨gb114, 1, none⟩ = some (.string a0_1) := (blk_cell BK114.out 1).trans rfl
        have hcz11_2 : w5.cell? ⟨gb114, 2, none⟩ = some (.string a0_2) := (blk_cell BK114.out 2).trans rfl
        have hcz11_3 : w5.cell? ⟨gb114, 3, none⟩ = some (.string a0_3) := (blk_cell BK114.out 3).trans rfl
        have hcz11_4 : w5.cell? ⟨gb114, 4, none⟩ = some (.int .i64 a0_4) := (blk_cell BK114.out 4).trans rfl
        have hcz11_5 : w5.cell? ⟨gb114, 5, none⟩ = some (.bool a0_5) := (blk_cell BK114.out 5).trans rfl
        have hcz11_6 : w5.cell? ⟨gb114, 6, none⟩ = some (.slice A0_6 l0_6.length c0_6) := (blk_cell BK114.out 6).trans rfl
        have hcz11_7 : w5.cell? ⟨gb114, 7, none⟩ = some (.slice A0_7 l0_7.length c0_7) := (blk_cell BK114.out 7).trans rfl
        have hcz11_8 : w5.cell? ⟨gb114, 8, none⟩ = some (.slice A0_8 l0_8.length c0_8) := (blk_cell BK114.out 8).trans rfl
        have hcz11_9 : w5.cell? ⟨gb114, 9, none⟩ = some (.slice A0_9 l0_9.length c0_9) := (blk_cell BK114.out 9).trans rfl
        have hcz11_10 : w5.cell? ⟨gb114, 10, none⟩ = some (.slice A0_10 l0_10.length c0_10) := (blk_cell BK114.out 10).trans rfl
        have hfz11_0 := blk_frozen BK114.out 0
        have hfz11_1 := blk_frozen BK114.out 1
        have hfz11_2 := blk_frozen BK114.out 2
        have hfz11_3 := blk_frozen BK114.out 3
        have hfz11_4 := blk_frozen BK114.out 4
        have hfz11_5 := blk_frozen BK114.out 5
        have hfz11_6 := blk_frozen BK114.out 6
        have hfz11_7 := blk_frozen BK114.out 7
        have hfz11_8 := blk_frozen BK114.out 8
        have hfz11_9 := blk_frozen BK114.out 9
        have hfz11_10 := blk_frozen BK114.out 10
        go_wp2_with (first | ((with_reducible refine gate_callee (f := 8) rfl ?_); refine goesL_ (some 9) rfl rfl Try.func8 (by kernel_rfl) rfl #[.agg #[.int .i64 a0_0, .string a0_1, .string a0_2, .string a0_3, .int .i64 a0_4, .bool a0_5, .slice A0_6 l0_6.length c0_6, .slice A0_7 l0_7.length c0_7, .slice A0_8 l0_8.length c0_8, .slice A0_9 l0_9.length c0_9, .slice A0_10 l0_10.length c0_10]] rfl (by (try simp only [List.map_toArray, List.map_cons, List.map_nil]); first | done | rfl | (simp only [List.length_drop, List.length_take]; rfl)) ?_; (with_reducible refine (interlocklaw15_GreatStmt.calls k a0_0 a0_1 a0_2 a0_3 a0_4 a0_5 _ _ l0_6 _ _ l0_7 _ _ l0_8 _ _ l0_9 _ _ l0_10 false _ ?side1 ?side2 ?side3 ?side4 ?side5 ?side6 ?side7 ?side8 ?side9 ?side10 A6.out).mono ?_); (case side1 => repeat (first | exact (Kd.C_below HR0_6.out HB.out) | (with_reducible refine Kd.C_alloc ?_ _) | (with_reducible refine Kd.C_drewN ?_ _) | (with_reducible refine Kd.C_drew ?_))); (case side2 => exact HC0_6.out); (case side3 => repeat (first | exact (Kd.C_below HR0_7.out HB.out) | (with_reducible refine Kd.C_alloc ?_ _) | (with_reducible refine Kd.C_drewN ?_ _) | (with_reducible refine Kd.C_drew ?_))); (case side4 => exact HC0_7.out); (case side5 => repeat (first | exact (Kd.C_below HR0_8.out HB.out) | (with_reducible refine Kd.C_alloc ?_ _) | (with_reducible refine Kd.C_drewN ?_ _) | (with_reducible refine Kd.C_drew ?_))); (case side6 => exact HC0_8.out); (case side7 => repeat (first | exact (Kd.C_below HR0_9.out HB.out) | (with_reducible refine Kd.C_alloc ?_ _) | (with_reducible refine Kd.C_drewN ?_ _) | (with_reducible refine Kd.C_drew ?_))); (case side8 => exact HC0_9.out); (case side9 => repeat (first | exact (Kd.C_below HR0_10.out HB.out) | (with_reducible refine Kd.C_alloc ?_ _) | (with_reducible refine Kd.C_drewN ?_ _) | (with_reducible refine Kd.C_drew ?_))); (case side10 => exact HC0_10.out); rintro e w12 ⟨rfl, hb⟩; refine ⟨_, rfl, ?_⟩; have n0_ := Aside0.mk (blk_below (g := gb114) (o := .cells #[.int .i64 a0_0, .string a0_1, .string a0_2, .string a0_3, .int .i64 a0_4, .bool a0_5, .slice A0_6 l0_6.length c0_6, .slice A0_7 l0_7.length c0_7, .slice A0_8 l0_8.length c0_8, .slice A0_9 l0_9.length c0_9, .slice A0_10 l0_10.length c0_10] 28 (0, 0)) (by (with_reducible repeat (first | refine blk_drewN ?_ _ | refine blk_drew ?_ | refine blk_alloc ?_ _)); exact BK114.out) hb); have n1_ := Aside0.mk (below_step (by repeat (first | (with_reducible first | exact HB.out | apply below_alloc | apply pw_below_drewN | apply below_drew1 | refine below_set ?_ GE114.out) | exact HB.out)) hb); clear BK114; clear HB; have BK114 := n0_; have HB := n1_; clear n0_ n1_; (try clear hb); (try clear hb2); (try clear hk); (try clear hi)))
        go_meet
        case rel => exact ⟨_, (true), (by first | rfl | (simp; done) | (simp [*]; done)), H', ⟨by first | omega | exact Nat.le_refl _⟩, ⟨by (with_reducible repeat (first | refine blk_drewN ?_ _ | refine blk_drew ?_ | refine blk_alloc ?_ _)); exact BK114.out⟩, ⟨by repeat (first | (with_reducible first | exact HB.out | apply below_alloc | apply pw_below_drewN | apply below_drew1 | refine below_set ?_ GE114.out) | exact HB.out)⟩⟩
      · rw [if_neg c10] at H
        have c10b0 : decide (10 < (l1.length : Int)) = false := decide_eq_false c10
        have c10b1 : decide (10 < l1.length) = false := decide_eq_false (by omega)
        clear c10
        (first | rw [c10b0] | (simp only [i64_w, i32_w]; rw [c10b0]) | skip)
        have H' := Aside0.mk H
        clear H
        have hcz13_0 : w5.cell? ⟨gb114, 0, none⟩ = some (.int .i64 a0_0) := (blk_cell BK114.out 0).trans rfl
        have hcz13_1 : w5.cell? ⟨gb114, 1, none⟩ = some (.string a0_1) := (blk_cell BK114.out 1).trans rfl
        have hcz13_2 : w5.cell? ⟨gb114, 2, none⟩ = some (.string a0_2) := (blk_cell BK114.out 2).trans rfl
        have hcz13_3 : w5.cell? ⟨gb114, 3, none⟩ = some (.string a0_3) := (blk_cell BK114.out 3).trans rfl
        have hcz13_4 : w5.cell? ⟨gb114, 4, none⟩ = some (.int .i64 a0_4) := (blk_cell BK114.out 4).trans rfl
        have hcz13_5 : w5.cell? ⟨gb114, 5, none⟩ = some (.bool a0_5) := (blk_cell BK114.out 5).trans rfl
        have hcz13_6 : w5.cell? ⟨gb114, 6, none⟩ = some (.slice A0_6 l0_6.length c0_6) := (blk_cell BK114.out 6).trans rfl
        have hcz13_7 : w5.cell? ⟨gb114, 7, none⟩ = some (.slice A0_7 l0_7.length c0_7) := (blk_cell BK114.out 7).trans rfl
        have hcz13_8 : w5.cell? ⟨gb114, 8, none⟩ = some (.slice A0_8 l0_8.length c0_8) := (blk_cell BK114.out 8).trans rfl
        have hcz13_9 : w5.cell? ⟨gb114, 9, none⟩ = some (.slice A0_9 l0_9.length c0_9) := (blk_cell BK114.out 9).trans rfl
        have hcz13_10 : w5.cell? ⟨gb114, 10, none⟩ = some (.slice A0_10 l0_10.length c0_10) := (blk_cell BK114.out 10).trans rfl
        have hfz13_0 := blk_frozen BK114.out 0
        have hfz13_1 := blk_frozen BK114.out 1
        have hfz13_2 := blk_frozen BK114.out 2
        have hfz13_3 := blk_frozen BK114.out 3
        have hfz13_4 := blk_frozen BK114.out 4
        have hfz13_5 := blk_frozen BK114.out 5
        have hfz13_6 := blk_frozen BK114.out 6
        have hfz13_7 := blk_frozen BK114.out 7
        have hfz13_8 := blk_frozen BK114.out 8
        have hfz13_9 := blk_frozen BK114.out 9
        have hfz13_10 := blk_frozen BK114.out 10
        go_wp2_with (first | ((with_reducible refine gate_callee (f := 8) rfl ?_); refine goesL_ (some 9) rfl rfl Try.func8 (by kernel_rfl) rfl #[.agg #[.int .i64 a0_0, .string a0_1, .string a0_2, .string a0_3, .int .i64 a0_4, .bool a0_5, .slice A0_6 l0_6.length c0_6, .slice A0_7 l0_7.length c0_7, .slice A0_8 l0_8.length c0_8, .slice A0_9 l0_9.length c0_9, .slice A0_10 l0_10.length c0_10]] rfl (by (try simp only [List.map_toArray, List.map_cons, List.map_nil]); first | done | rfl | (simp only [List.length_drop, List.length_take]; rfl)) ?_; (with_reducible refine (interlocklaw15_GreatStmt.calls k a0_0 a0_1 a0_2 a0_3 a0_4 a0_5 _ _ l0_6 _ _ l0_7 _ _ l0_8 _ _ l0_9 _ _ l0_10 false _ ?side1 ?side2 ?side3 ?side4 ?side5 ?side6 ?side7 ?side8 ?side9 ?side10 A6.out).mono ?_); (case side1 => repeat (first | exact (Kd.C_below HR0_6.out HB.out) | (with_reducible refine Kd.C_alloc ?_ _) | (with_reducible refine Kd.C_drewN ?_ _) | (with_reducible refine Kd.C_drew ?_))); (case side2 => exact HC0_6.out); (case side3 => repeat (first | exact (Kd.C_below HR0_7.out HB.out) | (with_reducible refine Kd.C_alloc ?_ _) | (with_reducible refine Kd.C_drewN ?_ _) | (with_reducible refine Kd.C_drew ?_))); (case side4 => exact HC0_7.out); (case side5 => repeat (first | exact (Kd.C_below HR0_8.out HB.out) | (with_reducible refine Kd.C_alloc ?_ _) | (with_reducible refine Kd.C_drewN ?_ _) | (with_reducible refine Kd.C_drew ?_))); (case side6 => exact HC0_8.out); (case side7 => repeat (first | exact (Kd.C_below HR0_9.out HB.out) | (with_reducible refine Kd.C_alloc ?_ _) | (with_reducible refine Kd.C_drewN ?_ _) | (with_reducible refine Kd.C_drew ?_))); (case side8 => exact HC0_9.out); (case side9 => repeat (first | exact (Kd.C_below HR0_10.out HB.out) | (with_reducible refine Kd.C_alloc ?_ _) | (with_reducible refine Kd.C_drewN ?_ _) | (with_reducible refine Kd.C_drew ?_))); (case side10 => exact HC0_10.out); rintro e w14 ⟨rfl, hb⟩; refine ⟨_, rfl, ?_⟩; have n0_ := Aside0.mk (blk_below (g := gb114) (o := .cells #[.int .i64 a0_0, .string a0_1, .string a0_2, .string a0_3, .int .i64 a0_4, .bool a0_5, .slice A0_6 l0_6.length c0_6, .slice A0_7 l0_7.length c0_7, .slice A0_8 l0_8.length c0_8, .slice A0_9 l0_9.length c0_9, .slice A0_10 l0_10.length c0_10] 28 (0, 0)) (by (with_reducible repeat (first | refine blk_drewN ?_ _ | refine blk_drew ?_ | refine blk_alloc ?_ _)); exact BK114.out) hb); have n1_ := Aside0.mk (below_step (by repeat (first | (with_reducible first | exact HB.out | apply below_alloc | apply pw_below_drewN | apply below_drew1 | refine below_set ?_ GE114.out) | exact HB.out)) hb); clear BK114; clear HB; have BK114 := n0_; have HB := n1_; clear n0_ n1_; (try clear hb); (try clear hb2); (try clear hk); (try clear hi)))
        go_meet
        case rel => exact ⟨_, (decide ((l2.length : Int) > 200)), (by first | rfl | (simp; done) | (simp [*]; done)), H', ⟨by first | omega | exact Nat.le_refl _⟩, ⟨by (with_reducible repeat (first | refine blk_drewN ?_ _ | refine blk_drew ?_ | refine blk_alloc ?_ _)); exact BK114.out⟩, ⟨by repeat (first | (with_reducible first | exact HB.out | apply below_alloc | apply pw_below_drewN | apply below_drew1 | refine below_set ?_ GE114.out) | exact HB.out)⟩⟩
  case rest =>
    clear HC4
    try clear c1
    try clear c2
    try clear p2
    try clear c7
    try clear c8
    try clear c10
    try clear c10b0
    try clear c10b1
    try clear c12
    try clear hcz11_0
    try clear hcz11_1
    try clear hcz11_10
    try clear hcz11_2
    try clear hcz11_3
    try clear hcz11_4
    try clear hcz11_5
    try clear hcz11_6
    try clear hcz11_7
    try clear hcz11_8
    try clear hcz11_9
    try clear hcz13_0
    try clear hcz13_1
    try clear hcz13_10
    try clear hcz13_2
    try clear hcz13_3
    try clear hcz13_4
    try clear hcz13_5
    try clear hcz13_6
    try clear hcz13_7
    try clear hcz13_8
    try clear hcz13_9
    try clear hcz8_0
    try clear hcz8_1
    try clear hcz8_10
    try clear hcz8_2
    try clear hcz8_3
    try clear hcz8_4
    try clear hcz8_5
    try clear hcz8_6
    try clear hcz8_7
    try clear hcz8_8
    try clear hcz8_9
    try clear hfz11_0
    try clear hfz11_1
    try clear hfz11_10
    try clear hfz11_2
    try clear hfz11_3
    try clear hfz11_4
    try clear hfz11_5
    try clear hfz11_6
    try clear hfz11_7
    try clear hfz11_8
    try clear hfz11_9
    try clear hfz13_0
    try clear hfz13_1
    try clear hfz13_10
    try clear hfz13_2
    try clear hfz13_3
    try clear hfz13_4
    try clear hfz13_5
    try clear hfz13_6
    try clear hfz13_7
    try clear hfz13_8
    try clear hfz13_9
    try clear hfz8_0
    try clear hfz8_1
    try clear hfz8_10
    try clear hfz8_2
    try clear hfz8_3
    try clear hfz8_4
    try clear hfz8_5
    try clear hfz8_6
    try clear hfz8_7
    try clear hfz8_8
    try clear hfz8_9
    obtain ⟨kq, x19_3, rfl, HA, HJ3, BK114, HB⟩ := hcut
    cases kq with
    | zero => exact absurd HA.out (by simp [interlocklaw22_great.j0])
    | succ kj3 =>
      have H := HA.out
      clear HA
      simp only [interlocklaw22_great.j0] at H
      by_cases c15 : x19_3 = true
      · subst c15
        have H1 : (some true) = some r := by rw [if_pos rfl] at H; exact H
        clear H
        have H := H1
        clear H1
        obtain rfl := Option.some.inj H
        go_wp2
        go_ret
        exact ⟨by first | rfl | (simp [errW_none, errW_some] <;> rfl) | (simp [*, errW_none, errW_some] <;> rfl), by repeat (first | (with_reducible first | exact HB.out | apply below_alloc | apply pw_below_drewN | apply below_drew1 | refine below_set ?_ GE114.out) | exact HB.out)⟩
      · replace c15 := Bool.eq_false_iff.mpr c15
        subst c15
        have H1 : (interlocklaw22_great.l0 kj3 l1 0) = some r := by rw [if_neg (show ¬ (false = true) by decide)] at H; exact H
        clear H
        have H := H1
        clear H1
        have H' := Aside0.mk H
        clear H
        go_wp2
        go_loopg [7] kj3 (fun kq v7 w' => ∃ (x7_2 : Int), v7 = .int .i64 x7_2 ∧ Aside0 (interlocklaw22_great.l0 kq l1 x7_2 = some r) ∧ Aside0 (kq ≤ kj3) ∧ Aside0 (w'.heap[gb114]? = some (.cells #[.int .i64 a0_0, .string a0_1, .string a0_2, .string a0_3, .int .i64 a0_4, .bool a0_5, (.slice A0_6 l0_6.length c0_6), (.slice A0_7 l0_7.length c0_7), (.slice A0_8 l0_8.length c0_8), (.slice A0_9 l0_9.length c0_9), (.slice A0_10 l0_10.length c0_10)] 28 (0, 0))) ∧ Aside0 (Below w.heap.size w w'))
        case atStart => exact ⟨(0), (by first | rfl | (simp; done) | (simp [*]; done)), H', ⟨Nat.le_refl _⟩, ⟨by (with_reducible repeat (first | refine blk_drewN ?_ _ | refine blk_drew ?_ | refine blk_alloc ?_ _)); exact BK114.out⟩, ⟨by repeat (first | (with_reducible first | exact HB.out | apply below_alloc | apply pw_below_drewN | apply below_drew1 | refine below_set ?_ GE114.out) | exact HB.out)⟩⟩
        case round =>
          clear H'
          try clear c1
          try clear c2
          try clear p2
          try clear c7
          try clear c8
          try clear c10
          try clear c10b0
          try clear c10b1
          try clear c12
          try clear c15
          try clear hcz11_0
          try clear hcz11_1
          try clear hcz11_10
          try clear hcz11_2
          try clear hcz11_3
          try clear hcz11_4
          try clear hcz11_5
          try clear hcz11_6
          try clear hcz11_7
          try clear hcz11_8
          try clear hcz11_9
          try clear hcz13_0
          try clear hcz13_1
          try clear hcz13_10
          try clear hcz13_2
          try clear hcz13_3
          try clear hcz13_4
          try clear hcz13_5
          try clear hcz13_6
          try clear hcz13_7
          try clear hcz13_8
          try clear hcz13_9
          try clear hcz8_0
          try clear hcz8_1
          try clear hcz8_10
          try clear hcz8_2
          try clear hcz8_3
          try clear hcz8_4
          try clear hcz8_5
          try clear hcz8_6
          try clear hcz8_7
          try clear hcz8_8
          try clear hcz8_9
          try clear hfz11_0
          try clear hfz11_1
          try clear hfz11_10
          try clear hfz11_2
          try clear hfz11_3
          try clear hfz11_4
          try clear hfz11_5
          try clear hfz11_6
          try clear hfz11_7
          try clear hfz11_8
          try clear hfz11_9
          try clear hfz13_0
          try clear hfz13_1
          try clear hfz13_10
          try clear hfz13_2
          try clear hfz13_3
          try clear hfz13_4
          try clear hfz13_5
          try clear hfz13_6
          try clear hfz13_7
          try clear hfz13_8
          try clear hfz13_9
          try clear hfz8_0
          try clear hfz8_1
          try clear hfz8_10
          try clear hfz8_2
          try clear hfz8_3
          try clear hfz8_4
          try clear hfz8_5
          try clear hfz8_6
          try clear hfz8_7
          try clear hfz8_8
          try clear hfz8_9
          try clear p2
          obtain ⟨x7_2, rfl, HA, HK2, BK114, HB⟩ := hrel
          cases gk with
          | zero => exact absurd HA.out (by simp [interlocklaw22_great.l0])
          | succ k2 =>
            have H := HA.out
            clear HA
            simp only [interlocklaw22_great.l0] at H
            by_cases c16 : x7_2 < (l1.length : Int)
            · rw [if_pos c16] at H
              have c16b0 : decide (x7_2 < (l1.length : Int)) = true := decide_eq_true c16
              clear c16
              by_cases c17 : 0 ≤ x7_2
              · rw [if_pos c17] at H
                have c17b0 : decide (0 ≤ x7_2) = true := decide_eq_true c17
                clear c17
                by_cases c18 : (((rd_T60 l1 x7_2).f2).size : Int) > 50
                · rw [if_pos c18] at H
                  have c18b0 : decide (50 < (((rd_T60 l1 x7_2).f2).size : Int)) = true := decide_eq_true c18
                  have c18b1 : decide (50 < ((rd_T60 l1 x7_2).f2).size) = true := decide_eq_true (by omega)
                  clear c18
                  obtain rfl := Option.some.inj H
                  have p116 : 0 ≤ (x7_2 : Int) := of_decide_eq_true (by first | (with_reducible assumption) | assumption)
                  have q116 : x7_2 < (l1.length : Int) := of_decide_eq_true (by first | (with_reducible assumption) | assumption)
                  obtain ⟨ad116, e116, hx116_0, hx116_1, hx116_2⟩ := at_T60 HR1.out x7_2 p116 q116
                  cases e116
                  replace hx116_0 := (HB.out.cell (World.block_lt_of_cell? w _ hx116_0)).trans hx116_0
                  replace hx116_1 := (HB.out.cell (World.block_lt_of_cell? w _ hx116_1)).trans hx116_1
                  replace hx116_2 := (HB.out.cell (World.block_lt_of_cell? w _ hx116_2)).trans hx116_2
                  replace p116 := eq_true p116
                  replace q116 := eq_true q116
                  go_wp2
                  go_ret
                  exact ⟨by first | rfl | (simp [errW_none, errW_some] <;> rfl) | (simp [*, errW_none, errW_some] <;> rfl), by repeat (first | (with_reducible first | exact HB.out | apply below_alloc | apply pw_below_drewN | apply below_drew1 | refine below_set ?_ GE114.out) | exact HB.out)⟩
                · rw [if_neg c18] at H
                  have c18b0 : decide (50 < (((rd_T60 l1 x7_2).f2).size : Int)) = false := decide_eq_false c18
                  have c18b1 : decide (50 < ((rd_T60 l1 x7_2).f2).size) = false := decide_eq_false (by omega)
                  clear c18
                  have H' := Aside0.mk H
                  clear H
                  have p116 : 0 ≤ (x7_2 : Int) := of_decide_eq_true (by first | (with_reducible assumption) | assumption)
                  have q116 : x7_2 < (l1.length : Int) := of_decide_eq_true (by first | (with_reducible assumption) | assumption)
                  obtain ⟨ad116, e116, hx116_0, hx116_1, hx116_2⟩ := at_T60 HR1.out x7_2 p116 q116
                  cases e116
                  replace hx116_0 := (HB.out.cell (World.block_lt_of_cell? w _ hx116_0)).trans hx116_0
                  replace hx116_1 := (HB.out.cell (World.block_lt_of_cell? w _ hx116_1)).trans hx116_1
                  replace hx116_2 := (HB.out.cell (World.block_lt_of_cell? w _ hx116_2)).trans hx116_2
                  replace p116 := eq_true p116
                  replace q116 := eq_true q116
                  go_wp2
                  go_roundg k2
                  case measure => have := HJ3.out; have := HK2.out; omega
                  case rel => exact ⟨(wrap64 (x7_2 + 1)), (by first | rfl | (simp; done) | (simp [*]; done)), H', ⟨by have := HJ3.out; have := HK2.out; omega⟩, ⟨by (with_reducible repeat (first | refine blk_drewN ?_ _ | refine blk_drew ?_ | refine blk_alloc ?_ _)); exact BK114.out⟩, ⟨by repeat (first | (with_reducible first | exact HB.out | apply below_alloc | apply pw_below_drewN | apply below_drew1 | refine below_set ?_ GE114.out) | exact HB.out)⟩⟩
              · rw [if_neg c17] at H
                exact absurd H (by simp)
            · rw [if_neg c16] at H
              have c16b0 : decide (x7_2 < (l1.length : Int)) = false := decide_eq_false c16
              clear c16
              obtain rfl := Option.some.inj H
              go_wp2
              go_ret
              exact ⟨by first | rfl | (simp [errW_none, errW_some] <;> rfl) | (simp [*, errW_none, errW_some] <;> rfl), by repeat (first | (with_reducible first | exact HB.out | apply below_alloc | apply pw_below_drewN | apply below_drew1 | refine below_set ?_ GE114.out) | exact HB.out)⟩
end Go.Proofs.Ytnojcnmnkkgkgaa.Q
end
section
namespace Go.Proofs.Ytnojcnmnkkgkgaa.Q
open Go.RowKit Go.Proofs.YtnojcnmnkkgkgaaW.PrintWords Go.Proofs.YtnojcnmnkkgkgaaW.PrintLast Go.Proofs.YtnojcnmnkkgkgaaW.PrintMore
attribute [local go_sem] max2_int min2_int max_two min_two max_three min_three max_four min_four
set_option linter.unusedVariables false
set_option linter.unusedSimpArgs false
def interlockref00_CopyInts.f (l0 : List Int) : Option (List Int) := (some (([] : List Int) : List Int)).bind fun y117 => (if y117.length + l0.length < 17592186044416 then (some (y117 ++ l0)) else (none))
set_option maxHeartbeats 8000000 in
set_option maxRecDepth 100000 in
theorem interlockref00_CopyInts.calls (A0 : Option Addr) (c0 : Nat) (l0 : List Int) (r : List Int) (w : World) (hr0 : Kd.C (Kd.int .i64) w A0 l0.length l0) (hc0 : l0.length ≤ c0) (h : interlockref00_CopyInts.f l0 = some r) :
    Calls Try.prog 13 #[.slice A0 l0.length c0] w fun e w' => ∃ v0_ : Value, e = .returned (v0_) ∧ Kd.R (Kd.int .i64) 3 w' w.heap.size (fun _ => True) v0_ r ∧ Below w.heap.size w w' := by
  have HR0 := Aside0.mk hr0
  have HC0 := Aside0.mk hc0
  clear hr0 hc0
  have HB := Aside0.mk (Below.refl w.heap.size w)
  have H : ((some (([] : List Int) : List Int)).bind fun y117 => (if y117.length + l0.length < 17592186044416 then (some (y117 ++ l0)) else (none))) = some r := h
  clear h
  obtain ⟨y117, hy117⟩ : ∃ y_ : List Int, y_ = (([] : List Int)) := ⟨_, rfl⟩
  replace H : (if y117.length + l0.length < 17592186044416 then (some (y117 ++ l0)) else (none)) = some r := by first | (rw [hy117]; with_reducible exact H) | (have H2_ := (Option.bind_some _ _).symm.trans H; rw [hy117]; with_reducible exact H2_) | (have H2_ := (Option.bind_some _ _).symm.trans H; with_reducible exact H2_) | with_reducible exact H | (rw [hy117]; exact H) | exact H
  have Ny117 := Aside0.mk hy117
  clear hy117
  by_cases c2 : y117.length + l0.length < 17592186044416
  · rw [if_pos c2] at H
    have LMc2 := Aside0.mk c2
    clear c2
    obtain ⟨y120, hy120⟩ : ∃ y_ : List Int, y_ = (y117 ++ l0) := ⟨_, rfl⟩
    replace H : (some y120) = some r := by first | (rw [hy120]; with_reducible exact H) | (have H2_ := (Option.bind_some _ _).symm.trans H; rw [hy120]; with_reducible exact H2_) | (have H2_ := (Option.bind_some _ _).symm.trans H; with_reducible exact H2_) | with_reducible exact H | (rw [hy120]; exact H) | exact H
    have Ny120 := Aside0.mk hy120
    clear hy120
    obtain rfl := Option.some.inj H
    go_enter Try.func13, Try.ntmps13
    go_wp2_with (first | ((with_reducible refine gate_dst (N := 4) rfl ?_); refine Kd.R_lit (Kd.int .i64) _ 3 ?hg (N := 4) ?hd (xs := ([] : List Int)) (inner := []) (ok := fun _ => True) (okp := fun _ => True) ?hr ?hp (fun _ hk => hk) trivial (Below.refl _ _) (Nat.le_refl _) (by simp) ?_; (case hd => rfl); (case hg => rfl); (case hr => first | (go_simp; done) | (go_simp; rfl)); (case hp => exact (Reps.none _ _)); intro v118 w3 ho4 hb hg_ hnew_; clear hg_ hnew_; (first | rw [← Ny117.out] at ho4 | (simp only [Int.reduceToNat] at ho4; rw [← Ny117.out] at ho4)); have n0_ := Aside0.mk (Kd.R_lower ho4 (below_size (by repeat (first | (with_reducible first | exact HB.out | apply below_alloc | apply pw_below_drewN | apply below_drew1) | exact HB.out)))); have n1_ := Aside0.mk (below_step (by repeat (first | (with_reducible first | exact HB.out | apply below_alloc | apply pw_below_drewN | apply below_drew1) | exact HB.out)) hb); clear HB; have HO119 := n0_; have HB := n1_; clear n0_ n1_; clear hb ho4) | ((with_reducible refine gate_builtin (b := .append) (xs := #[.tmp 5, .tmp 6]) rfl ?_); at_builtin; refine Kd.R_append_rows (Kd.int .i64) (w0 := w) w.heap.size rfl (.tmp 5) (.tmp 6) 31 3 (.int .i64 0) 8 rfl Try.underlying31 info3 rfl (by decide) (by omega) v118 y117 l0 _ _ _ (fun _ => True) (fun _ => False) rfl rfl ?aO ?aR (fun _ _ h => h) (fun _ h => h.elim) ?aF ?aB ?aS ?aL ?_; (case aR => repeat (first | exact (Kd.C_below HR0.out HB.out) | (with_reducible refine Kd.C_alloc ?_ _) | (with_reducible refine Kd.C_drewN ?_ _) | (with_reducible refine Kd.C_drew ?_))); (case aB => exact (by repeat (first | (with_reducible first | exact HB.out | apply below_alloc | apply pw_below_drewN | apply below_drew1) | exact HB.out))); (case aF => exact (fun _ _ => trivial)); (case aO => exact (by (with_reducible repeat (first | apply Kd.R_alloc | apply Kd.R_drewN | apply Kd.R_drew)); exact HO119.out)); (case aS => exact (below_size (by repeat (first | (with_reducible first | exact HB.out | apply below_alloc | apply pw_below_drewN | apply below_drew1) | exact HB.out)))); (case aL => have := LMc2.out; omega); intro v121 w5 ho hb hg hat; rw [← Ny120.out] at ho; have n0_ := Aside0.mk (hb); have n1_ := Aside0.mk (ho); clear HB; clear HO119; have HB := n0_; have HO122 := n1_; clear n0_ n1_; clear ho hb hg hat))
    go_ret
    exact ⟨_, by first | rfl | (simp [errW_none, errW_some] <;> rfl) | (simp [*, errW_none, errW_some] <;> rfl), by (with_reducible repeat (first | apply Kd.R_alloc | apply Kd.R_drewN | apply Kd.R_drew)); exact HO122.out, by repeat (first | (with_reducible first | exact HB.out | apply below_alloc | apply pw_below_drewN | apply below_drew1) | exact HB.out)⟩
  · rw [if_neg c2] at H
    exact absurd H (by simp)
end Go.Proofs.Ytnojcnmnkkgkgaa.Q
end
section
namespace Go.Proofs.Kb
open Go Go.RowKit Go.Proofs.Ytnojcnmnkkgkgaa.Q Go.Proofs.YtnojcnmnkkgkgaaW.PrintWords Go.Proofs.YtnojcnmnkkgkgaaW.PrintLast Go.Proofs.YtnojcnmnkkgkgaaW.PrintMore
set_option linter.unusedVariables false
set_option linter.unusedSimpArgs false
set_option maxRecDepth 100000
theorem Reps.all {α : Type} {E : EncT α} {R : α → List Value → Prop} (hR : ∀ p c, R p c → c = E.enc p) : ∀ (ps : List α) (cs : List Value), Reps R E.sz ps cs → cs = E.all ps
  | [], cs, h => List.eq_nil_of_length_eq_zero (by have := h.1; simpa using this)
  | x :: l, cs, ⟨hl, h⟩ => by
    have h0 := hR _ _ (h 0 x rfl)
    rw [Nat.zero_mul, List.drop_zero] at h0
    have ih := Reps.all hR l (cs.drop E.sz) ⟨by rw [List.length_drop, hl, List.length_cons, Nat.add_mul]; omega, fun j p hj => by
      have h1 := h (j + 1) p hj
      rwa [show (j + 1) * E.sz = E.sz + j * E.sz by rw [Nat.add_mul]; omega, ← List.drop_drop] at h1⟩
    rw [E.all_cons, ← h0, ← ih, List.take_append_drop]
theorem RowX.of_R {α : Type} {E : EncT α} {d : Kd α} (hsz : d.sz = E.sz) (hM : ∀ {w base ok x cs}, d.M w base ok x cs → cs = E.enc x) {w : World} {base : Nat} {ok : Nat → Prop} {v : Value} {l : List α} (h : d.R E.ty w base ok v l) : RowX E w v l ∧ ∀ b ∈ bl v, base ≤ b := by
  obtain ⟨_, inner, ho, hr⟩ := h
  rw [hsz] at ho hr
  have hi := Reps.all (fun p c hp => hM hp) l inner hr
  subst hi
  refine ⟨⟨E.all_len l, E.all_one l, ?_⟩, ?_⟩
  · rcases ho.2 with h | ⟨g, cap, cur, h1, h2, h3, h4, h5, h6, h7⟩
    · exact .inl h
    · exact .inr ⟨g, cap, cur, h1, h3, h4, h5, Nat.le_of_eq h6.symm, h7⟩
  · intro b hb
    rcases ho.2 with h | ⟨g, cap, cur, h1, h2, _⟩
    · rw [h.1] at hb
      simp [bl, Value.ownBlock] at hb
    · rw [h1, bl_slice] at hb
      simp at hb
      omega
theorem copyInts_calls (w : World) (A : Option Addr) (c : Nat) (l : List Int) (hC : Kd.C (Kd.int .i64) w A l.length l) (hc : l.length ≤ c) (hl : l.length ≤ 1000) :
    Calls Try.prog 13 #[.slice A l.length c] w fun E w' => ∃ v, E = .returned v ∧ RowX intE w' v l ∧ Below w.heap.size w w' ∧ ∀ b ∈ bl v, w.heap.size ≤ b :=
  (interlockref00_CopyInts.calls A c l l w hC hc (by
    unfold interlockref00_CopyInts.f
    simp only [Option.bind_some, List.length_nil, List.nil_append]
    rw [if_pos (by omega)])).mono fun E w' ⟨v, e, hr, hb⟩ =>
      let ⟨h1, h2⟩ := RowX.of_R (E := intE) rfl (fun h => h) hr
      ⟨v, e, h1, hb, h2⟩
section
variable (x : SV) (l6 : List S60) (l7 : List S62) (l8 : List S64) (l9 : List S66) (l10 : List ByteArray) (af : List S60) (an : List Int)
theorem great0 (haf : af.length ≤ 10) : ∀ (m : Nat) (i : Int), 0 ≤ i → i + m = af.length → ∃ k r, interlocklaw22_great.l0 k af i = some r
  | 0, i, h0, hm => ⟨1, false, by unfold interlocklaw22_great.l0; rw [if_neg (by omega)]⟩
  | m + 1, i, h0, hm => by
    by_cases q : (((rd_T60 af i).f2).size : Int) > 50
    · exact ⟨1, true, by unfold interlocklaw22_great.l0; rw [if_pos (by omega), if_pos h0, if_pos q]⟩
    · obtain ⟨k, r, hk⟩ := great0 haf m (i + 1) (by omega) (by omega)
      exact ⟨k + 1, r, by unfold interlocklaw22_great.l0; rw [if_pos (by omega), if_pos h0, if_neg q, IntWalk.wrap64_in _ (by omega)]; exact hk⟩
theorem great_some : ∃ k r, interlocklaw22_great.f k x.f0 x.f1 x.f2 x.f3 x.f4 x.f5 l6 l7 l8 l9 l10 af an = some r ∧ (r = false → Small x.f1 x.f2 x.f3 l6 l7 l8 l9 l10 ∧ af.length ≤ 10 ∧ an.length ≤ 200) := by
  obtain ⟨k1, r1, h1, hs⟩ := gstmt_some x.f0 x.f1 x.f2 x.f3 x.f4 x.f5 l6 l7 l8 l9 l10
  have hj : ∀ b, (b = false → af.length ≤ 10) → ∃ k r, interlocklaw22_great.j0 k af b = some r ∧ (r = false → b = false) := fun b hb => by
    cases b with
    | true => exact ⟨1, true, rfl, fun h => h⟩
    | false =>
      obtain ⟨k, r, hk⟩ := great0 af (hb rfl) af.length 0 (Int.le_refl _) (by omega)
      exact ⟨k + 1, r, hk, fun _ => rfl⟩
  have put : ∀ (b : Bool) (k2 : Nat) (r : Bool), interlocklaw22_great.j0 k2 af b = some r → ((if r1 = true then (fun k => interlocklaw22_great.j0 k af true) else (if (af.length : Int) > 10 then (fun k => interlocklaw22_great.j0 k af true) else (fun k => interlocklaw22_great.j0 k af (decide ((an.length : Int) > 200))))) = fun k => interlocklaw22_great.j0 k af b) → ∃ k, interlocklaw22_great.f k x.f0 x.f1 x.f2 x.f3 x.f4 x.f5 l6 l7 l8 l9 l10 af an = some r := fun b k2 r h2 e => by
    refine ⟨k1 + k2, ?_⟩
    unfold interlocklaw22_great.f
    rw [at_rounds (g := fun k => interlocklaw15_GreatStmt.f k x.f0 x.f1 x.f2 x.f3 x.f4 x.f5 l6 l7 l8 l9 l10) (fun k => interlocklaw15_GreatStmt.mono _ _ _ _ _ _ _ _ _ _ _ k) (Nat.le_add_right k1 k2) h1]
    simp only [Option.bind_some]
    have h3 := at_rounds (g := fun k => interlocklaw22_great.j0 k af b) (fun k => (interlocklaw22_great.mono_l k).1 _ _) (Nat.le_add_left k2 k1) h2
    have e2 := congrFun e (k1 + k2)
    rw [← h3, ← e2]
    split
    · rfl
    · split <;> rfl
  by_cases c1 : r1 = true
  · obtain ⟨k2, r, h2, hr⟩ := hj true (fun h => by cases h)
    obtain ⟨k, hk⟩ := put true k2 r h2 (by rw [if_pos c1])
    exact ⟨k, r, hk, fun h => by cases hr h⟩
  · by_cases c2 : (af.length : Int) > 10
    · obtain ⟨k2, r, h2, hr⟩ := hj true (fun h => by cases h)
      obtain ⟨k, hk⟩ := put true k2 r h2 (by rw [if_neg c1, if_pos c2])
      exact ⟨k, r, hk, fun h => by cases hr h⟩
    · obtain ⟨k2, r, h2, hr⟩ := hj (decide ((an.length : Int) > 200)) (fun _ => by omega)
      obtain ⟨k, hk⟩ := put _ k2 r h2 (by rw [if_neg c1, if_neg c2])
      exact ⟨k, r, hk, fun h => ⟨hs (by simpa using c1), by omega, by have := of_decide_eq_false (hr h); omega⟩⟩
end
theorem great_calls {w : World} {x : SV} {l6 : List S60} {l7 : List S62} {l8 : List S64} {l9 : List S66} {l10 : List ByteArray} {af : List S60} {an : List Int} (b : Bool) (hb : ∃ k, interlocklaw22_great.f k x.f0 x.f1 x.f2 x.f3 x.f4 x.f5 l6 l7 l8 l9 l10 af an = some b) (h : CK w x l6 l7 l8 l9 l10)
    (A1 : Option Addr) (c1 : Nat) (h1 : Kd.C k60 w A1 af.length af) (hc1 : af.length ≤ c1) (A2 : Option Addr) (c2 : Nat) (h2 : Kd.C (Kd.int .i64) w A2 an.length an) (hc2 : an.length ≤ c2) :
    Calls Try.prog 12 #[.agg #[.int .i64 x.f0, .string x.f1, .string x.f2, .string x.f3, .int .i64 x.f4, .bool x.f5, .slice x.f6.A x.f6.n x.f6.c, .slice x.f7.A x.f7.n x.f7.c, .slice x.f8.A x.f8.n x.f8.c, .slice x.f9.A x.f9.n x.f9.c, .slice x.f10.A x.f10.n x.f10.c], .slice A1 af.length c1, .slice A2 an.length c2] w fun E w' => E = .returned (.bool b) ∧ Below w.heap.size w w' := by
  obtain ⟨k, hk⟩ := hb
  have h1 := interlocklaw22_great.calls k x.f0 x.f1 x.f2 x.f3 x.f4 x.f5 x.f6.A x.f6.c l6 x.f7.A x.f7.c l7 x.f8.A x.f8.c l8 x.f9.A x.f9.c l9 x.f10.A x.f10.c l10 A1 c1 af A2 c2 an b w h.n6.2.2 h.n6.2.1 h.n7.2.2 h.n7.2.1 h.n8.2.2 h.n8.2.1 h.n9.2.2 h.n9.2.1 h.n10.2.2 h.n10.2.1 h1 hc1 h2 hc2 hk
  rw [h.n6.1, h.n7.1, h.n8.1, h.n9.1, h.n10.1]
  exact h1
end Go.Proofs.Kb
end
section
namespace Go.Proofs.Kb
open Go Go.RowKit Go.Proofs.Ytnojcnmnkkgkgaa.Q Go.Proofs.YtnojcnmnkkgkgaaW.PrintWords Go.Proofs.YtnojcnmnkkgkgaaW.PrintLast Go.Proofs.YtnojcnmnkkgkgaaW.PrintMore
set_option linter.unusedVariables false
set_option linter.unusedSimpArgs false
set_option maxRecDepth 100000
section
variable {s : JS} {x : SV}
theorem with_ph (ws : List S97) (f : JS → JS) : (s.with_ ws f).ph = if (bits .and .i64 (s.ans.headD 0) 1 == 1) = true then (f (s.tried ws)).ph else s.ph := by
  unfold JS.with_
  split <;> rfl
theorem with_er (ws : List S97) (f : JS → JS) : (s.with_ ws f).er = if (bits .and .i64 (s.ans.headD 0) 1 == 1) = true then (f (s.tried ws)).er else s.er := by
  unfold JS.with_
  split <;> rfl
theorem step_ph (h : 1 ≤ s.ph ∧ s.ph ≤ 6) : s.ph ≤ (s.step x).ph ∧ (s.step x).ph ≤ 6 := by
  unfold JS.step
  split
  · next h1 =>
    have hw := with_ph (s := s) (planW x.f1 4) (fun s => s.register x)
    split
    · next hb =>
      rw [hw, if_pos hb]
      show s.ph ≤ (if _ then (2 : Int) else 6) ∧ (if _ then (2 : Int) else 6) ≤ 6
      by_cases e0 : errN ((s.tried (planW x.f1 4)).ans.headD 0) = 0
      · rw [if_pos e0]; omega
      · rw [if_neg e0]; omega
    · next hb =>
      rw [if_neg hb] at hw
      obtain ⟨_, _, _, _, _, h2⟩ := failed_r (s := s.with_ (planW x.f1 4) (fun s => s.register x)) 6
      rcases h2 with h2 | h2 <;> omega
  split
  · next h1 h2 =>
    split
    · exact ⟨Int.le_refl _, by show s.ph ≤ 6; omega⟩
    · exact ⟨by show s.ph ≤ 3; omega, by show (3 : Int) ≤ 6; decide⟩
  split
  · next h1 h2 h3 =>
    split
    · unfold JS.fill
      split
      · exact ⟨by show s.ph ≤ 4; omega, by show (4 : Int) ≤ 6; decide⟩
      · exact ⟨Int.le_refl _, by show s.ph ≤ 6; omega⟩
    · exact ⟨Int.le_refl _, by show s.ph ≤ 6; omega⟩
  split
  · next h1 h2 h3 h4 =>
    have hw := with_ph (s := s) (planW x.f1 3) (fun s => s.settle x)
    split
    · next hb =>
      rw [hw, if_pos hb]
      show s.ph ≤ (if _ then (6 : Int) else 5) ∧ (if _ then (6 : Int) else 5) ≤ 6
      by_cases e0 : errN ((s.tried (planW x.f1 3)).ans.headD 0) = 0
      · rw [if_pos e0]; omega
      · rw [if_neg e0]; omega
    · next hb =>
      rw [if_neg hb] at hw
      obtain ⟨_, _, _, _, _, h2⟩ := failed_r (s := s.with_ (planW x.f1 3) (fun s => s.settle x)) 5
      rcases h2 with h2 | h2 <;> omega
  split
  · next h1 h2 h3 h4 h5 =>
    rw [with_ph]
    split
    · obtain ⟨_, _, _, _, _, _, h2⟩ := abandon_said (s := s.tried ((planW x.f1 3).take 2)) (x := x)
      have e : (s.tried ((planW x.f1 3).take 2)).ph = s.ph := rfl
      rcases h2 with h2 | h2 <;> (show s.ph ≤ ((s.tried ((planW x.f1 3).take 2)).abandon x).ph ∧ ((s.tried ((planW x.f1 3).take 2)).abandon x).ph ≤ 6) <;> omega
    · omega
  · omega
theorem step_er (h : 4 < s.ph) : (s.step x).er = s.er := by
  unfold JS.step
  rw [if_neg (by omega), if_neg (by omega), if_neg (by omega), if_neg (by omega)]
  split
  · rw [with_er]
    split
    · exact (abandon_said (s := s.tried ((planW x.f1 3).take 2)) (x := x)).2.2.2.2.2.1
    · rfl
  · rfl
theorem steps_ph (h : s.ph = 1) : ∀ n, 1 ≤ (s.steps x n).ph ∧ (s.steps x n).ph ≤ 6
  | 0 => by show 1 ≤ s.ph ∧ s.ph ≤ 6; omega
  | n + 1 => by
    have h1 := steps_ph h n
    have h2 := step_ph (s := s.steps x n) (x := x) h1
    show 1 ≤ ((s.steps x n).step x).ph ∧ ((s.steps x n).step x).ph ≤ 6
    omega
end
theorem nd_ab (v : Value) : ND (ab v) := by
  unfold ab
  split
  · exact nd_one _
  · exact fun a => by simp
theorem JT.told {w0 W W2 : World} {jp tp : Nat} {y : SV} {tr : Int} {v : Value} {ans : List Int} {R : List Chunk} (h : St w0 NoF W (blkC jp (.cells #[.int .i64 y.f0, .string y.f1, .string y.f2, .string y.f3, .int .i64 y.f4, .bool y.f5, .slice y.f6.A y.f6.n y.f6.c, .slice y.f7.A y.f7.n y.f7.c, .slice y.f8.A y.f8.n y.f8.c, .slice y.f9.A y.f9.n y.f9.c, .slice y.f10.A y.f10.n y.f10.c, .int .i64 1, .slice none 0 0, .int .i64 tr, .int .i64 0] 68 (0, 0)) :: R))
    (hb : Below W.heap.size W W2) (hr : RowX intE W2 v ans) (hf : ∀ b ∈ bl v, W.heap.size ≤ b) (hn : W2.heap.size = tp) :
    JT w0 NoF jp tp y ⟨1, [], tr, 0, ans, [], 0⟩ R (W2.alloc (.cells #[v, .slice none 0 0, .int .i64 0] 36)) :=
  JT.start (h.fresh hb (ansC v ans) hr.ans (nd_ab v) (fun b hb => hf b (ab_bl b hb))) hn
set_option maxHeartbeats 16000000 in
theorem on_row (w : World) (x : SV) (l6 : List S60) (l7 : List S62) (l8 : List S64) (l9 : List S66) (l10 : List ByteArray) (tries : Int) (A2 : Option Addr) (c2 : Nat) (an : List Int) (hx : CK w x l6 l7 l8 l9 l10) (hC : Kd.C (Kd.int .i64) w A2 an.length an) (hcap : an.length ≤ c2) (hti : (Lit.int .i64 tries).wf = true) (hwf : an.length ≤ maxLen ∧ ∀ a ∈ an, (Lit.int .i64 a).wf = true) :
    Calls Try.prog 5 #[.agg #[.int .i64 x.f0, .string x.f1, .string x.f2, .string x.f3, .int .i64 x.f4, .bool x.f5, .slice x.f6.A x.f6.n x.f6.c, .slice x.f7.A x.f7.n x.f7.c, .slice x.f8.A x.f8.n x.f8.c, .slice x.f9.A x.f9.n x.f9.c, .slice x.f10.A x.f10.n x.f10.c], .int .i64 tries, .slice A2 an.length c2] w fun E w' => E = .returned (.bool true) ∧ Below w.heap.size w w' := by
  obtain ⟨Q, hQ⟩ : ∃ Q, (fun E w' => E = Ending.returned (.bool true) ∧ Below w.heap.size w w') = Q := ⟨_, rfl⟩
  have HQ := Aside0.mk hQ
  rw [hQ]
  clear hQ
  have hu28 := Try.underlying28
  have hu36 := Try.underlying36
  have hu34 := Try.underlying34
  have hu32 := Try.underlying32
  have hu31 := Try.underlying31
  obtain ⟨n0, hn0⟩ : ∃ n, w.heap.size = n := ⟨_, rfl⟩
  have h1 := (St.nil0 w NoF).alloc #[.int .i64 x.f0, .string x.f1, .string x.f2, .string x.f3, .int .i64 x.f4, .bool x.f5, .slice x.f6.A x.f6.n x.f6.c, .slice x.f7.A x.f7.n x.f7.c, .slice x.f8.A x.f8.n x.f8.c, .slice x.f9.A x.f9.n x.f9.c, .slice x.f10.A x.f10.n x.f10.c] 28 hn0
  obtain ⟨W1, hW1⟩ : ∃ W, w.alloc (.cells #[.int .i64 x.f0, .string x.f1, .string x.f2, .string x.f3, .int .i64 x.f4, .bool x.f5, .slice x.f6.A x.f6.n x.f6.c, .slice x.f7.A x.f7.n x.f7.c, .slice x.f8.A x.f8.n x.f8.c, .slice x.f9.A x.f9.n x.f9.c, .slice x.f10.A x.f10.n x.f10.c] 28) = W := ⟨_, rfl⟩
  rw [hW1] at h1
  have HS0 := Aside0.mk (show St w NoF W1 [blkC n0 (.cells #[.int .i64 x.f0, .string x.f1, .string x.f2, .string x.f3, .int .i64 x.f4, .bool x.f5, .slice x.f6.A x.f6.n x.f6.c, .slice x.f7.A x.f7.n x.f7.c, .slice x.f8.A x.f8.n x.f8.c, .slice x.f9.A x.f9.n x.f9.c, .slice x.f10.A x.f10.n x.f10.c] 28 (0, 0))] from h1)
  obtain ⟨b, hb, hsm⟩ : ∃ b, (∃ k, interlocklaw22_great.f k x.f0 x.f1 x.f2 x.f3 x.f4 x.f5 l6 l7 l8 l9 l10 [] an = some b) ∧ (b = false → Small x.f1 x.f2 x.f3 l6 l7 l8 l9 l10 ∧ an.length ≤ 200) := by
    obtain ⟨k, r, h, h2⟩ := great_some x l6 l7 l8 l9 l10 [] an
    exact ⟨r, ⟨k, h⟩, fun e => ⟨(h2 e).1, (h2 e).2.2⟩⟩
  have A12 := Aside0.mk (fun W (h : St w NoF W [blkC n0 (.cells #[.int .i64 x.f0, .string x.f1, .string x.f2, .string x.f3, .int .i64 x.f4, .bool x.f5, .slice x.f6.A x.f6.n x.f6.c, .slice x.f7.A x.f7.n x.f7.c, .slice x.f8.A x.f8.n x.f8.c, .slice x.f9.A x.f9.n x.f9.c, .slice x.f10.A x.f10.n x.f10.c] 28 (0, 0))]) => great_calls b hb (hx.below (keep_below h.keep)) none 0 ⟨rfl, Nat.zero_le _, fun h => absurd h (Nat.lt_irrefl _)⟩ (Nat.le_refl _) A2 c2 (Kd.C_below hC (keep_below h.keep)) hcap)
  have A9 := Aside0.mk (fun W (h : St w NoF W [blkC n0 (.cells #[.int .i64 x.f0, .string x.f1, .string x.f2, .string x.f3, .int .i64 x.f4, .bool x.f5, .slice x.f6.A x.f6.n x.f6.c, .slice x.f7.A x.f7.n x.f7.c, .slice x.f8.A x.f8.n x.f8.c, .slice x.f9.A x.f9.n x.f9.c, .slice x.f10.A x.f10.n x.f10.c] 28 (0, 0))]) (hs : Small x.f1 x.f2 x.f3 l6 l7 l8 l9 l10) => new_calls W x tries l6 l7 l8 l9 l10 (hx.below (keep_below h.keep)).sr hs.sn)
  have A13 := Aside0.mk (fun W (hb : Below w.heap.size w W) (hl : an.length ≤ 200) => copyInts_calls W A2 c2 an (Kd.C_below hC hb) hcap (Nat.le_trans hl (by decide)))
  have HWF := Aside0.mk hwf.2
  have htr : 1 ≤ maxT tries ∧ maxT tries ≤ 9223372036854775807 := by
    have := bounds_i64 hti
    unfold maxT
    split <;> omega
  have HTR := Aside0.mk htr
  obtain ⟨n, hnn⟩ : ∃ n, an.length = n := ⟨_, rfl⟩
  rw [hnn] at A12 hsm A13 ⊢
  clear h1 hx hb hC hcap hwf hnn hti htr
  cases b with
  | true =>
    clear hsm A9 A13
    go_enter Try.func5, Try.ntmps5
    go_wp2_with (first | (go_at_call 7; refine (alive_calls _).mono ?_; rintro E w1 ⟨rfl, hb⟩; have h := HS0.out.below hb; obtain ⟨p0, p1, p2, p3, p4, p5, p6, p7, p8, p9, p10⟩ := box11 (h.blk 0 rfl); have HS1 := Aside0.mk h; clear h hb HS0) | (go_at_call 12; refine (A12.out _ HS1.out).mono ?_; rintro E w2 ⟨rfl, hb⟩; have h := HS1.out.below hb; clear p0 p1 p2 p3 p4 p5 p6 p7 p8 p9 p10; obtain ⟨p0, p1, p2, p3, p4, p5, p6, p7, p8, p9, p10⟩ := box11 (h.blk 0 rfl); have HS2 := Aside0.mk h; clear h hb HS1 A12))
    rw [← HQ.out]
    exact ⟨rfl, keep_below HS2.out.keep⟩
  | false =>
    obtain ⟨hsm1, hn200⟩ := hsm rfl
    have HM := Aside0.mk hsm1
    clear hsm hsm1
    obtain ⟨tr, htr⟩ : ∃ tr, maxT tries = tr := ⟨_, rfl⟩
    unfold New9 at A9
    rw [htr] at A9 HTR
    clear htr
    go_enter Try.func5, Try.ntmps5
    go_wp2_with (first | (go_at_call 7; refine (alive_calls _).mono ?_; rintro E w1 ⟨rfl, hb⟩; have h := HS0.out.below hb; obtain ⟨p0, p1, p2, p3, p4, p5, p6, p7, p8, p9, p10⟩ := box11 (h.blk 0 rfl); have HS1 := Aside0.mk h; clear h hb HS0) | (go_at_call 12; refine (A12.out _ HS1.out).mono ?_; rintro E w2 ⟨rfl, hb⟩; have h := HS1.out.below hb; clear p0 p1 p2 p3 p4 p5 p6 p7 p8 p9 p10; obtain ⟨p0, p1, p2, p3, p4, p5, p6, p7, p8, p9, p10⟩ := box11 (h.blk 0 rfl); have HS2 := Aside0.mk h; clear h hb HS1 A12) | (go_at_call 9; refine (A9.out _ HS2.out HM.out).mono ?_; rintro E w3 ⟨jp, y, hy, rfl, h⟩; obtain ⟨R, hR⟩ : ∃ R, srC y l6 l7 l8 l9 l10 = R := ⟨_, rfl⟩; rw [hR] at h; have h2 := (St.base h (keep_below HS2.out.keep)); have HH := Aside0.mk h2; have HY := Aside0.mk hy; clear h h2 hy hR HS2 A9 p0 p1 p2 p3 p4 p5 p6 p7 p8 p9 p10) | (go_at_call 13; refine (A13.out _ (keep_below HH.out.keep) hn200).mono ?_; rintro E w4 ⟨v, rfl, hr, hbb, hf⟩; obtain ⟨Av, cv, rfl⟩ := hr.form; obtain ⟨tp, htp⟩ : ∃ n, w4.heap.size = n := ⟨_, rfl⟩; have HS4 := Aside0.mk (JT.told HH.out hbb hr hf htp); obtain ⟨m2, hm2⟩ : ∃ m, an.length = m := ⟨_, rfl⟩; rw [hm2] at HS4 ⊢; have HG := Aside0.mk (show Beg ⟨1, [], tr, 0, an, [], 0⟩ y from ⟨rfl, rfl, HTR.out, (by rw [HY.out.2.1]; have := HM.out.s1; omega), (by rw [HY.out.2.2.1]; have := HM.out.s2; omega), HWF.out, fun a ha => (by cases ha), Nat.zero_le _⟩); clear hr hbb hf HH A13 HM HY hm2))
    obtain ⟨s0, hs0⟩ : ∃ s0, (⟨1, [], tr, 0, an, [], 0⟩ : JS) = s0 := ⟨_, rfl⟩
    rw [hs0] at HS4 HG
    have HP := Aside0.mk (show s0.ph = 1 by rw [← hs0])
    clear hs0
    go_loopg [9, 10, 11, 12] (n + 6) (fun gq v9 v10 v11 v12 wx => ∃ i : Nat, v12 = .int .i64 i ∧ v9 = .int .i64 (s0.steps y i).ph ∧ v10 = .int .i64 (if (s0.steps y i).ph < 5 then 0 else (s0.steps y i).er) ∧ v11 = .bool (decide (5 ≤ (s0.steps y i).ph)) ∧ i + gq = n + 6 ∧ Aside0 (JT w NoF jp tp y (s0.steps y i) R wx))
    case atStart =>
      have e : (s0.steps y 0).ph = 1 := HP.out
      exact ⟨0, rfl, by rw [e], by rw [e]; rfl, by rw [e]; rfl, by omega, HS4⟩
    case round =>
      clear HS4
      obtain ⟨i, rfl, rfl, rfl, rfl, hi, HS⟩ := hrel
      cases gk with
      | zero =>
        obtain rfl : i = n + 6 := by omega
        have hin : ¬ ((n + 6 : Nat) : Int) < (n : Int) + 6 := by omega
        go_wp2
        rw [← HQ.out]
        exact ⟨rfl, keep_below HS.out.rest.keep⟩
      | succ gq =>
        have hin : (i : Int) < (n : Int) + 6 := by omega
        have hi0 : (0 : Int) ≤ (i : Int) := by omega
        have hi9 : (i : Int) ≤ 1000000 := by omega
        have hn0' : (0 : Int) ≤ (n : Int) := by omega
        have hn9 : (n : Int) ≤ 1000000 := by omega
        have A10 := Aside0.mk (step_calls HS.out (steps_ok HG.out i (by omega)))
        have hph := steps_ph (x := y) HP.out i
        have hst := step_ph (s := s0.steps y i) (x := y) hph
        have her := step_er (s := s0.steps y i) (x := y)
        have hhe := (steps_r HG.out (i + 1)).1
        rw [show (s0.steps y i).step y = s0.steps y (i + 1) from rfl] at A10 hst her
        obtain ⟨P0, hP0⟩ : ∃ p, (s0.steps y i).ph = p := ⟨_, rfl⟩
        obtain ⟨P1, hP1⟩ : ∃ p, (s0.steps y (i + 1)).ph = p := ⟨_, rfl⟩
        obtain ⟨e0, he0⟩ : ∃ p, (s0.steps y i).er = p := ⟨_, rfl⟩
        obtain ⟨e1, he1⟩ : ∃ p, (s0.steps y (i + 1)).er = p := ⟨_, rfl⟩
        unfold StepE at A10
        rw [hP0] at hph hst her ⊢
        rw [hP1] at A10 hst
        rw [he0] at her ⊢
        rw [he1] at A10 her
        have HP1 := Aside0.mk hP1
        have HE1 := Aside0.mk he1
        have HHE := Aside0.mk hhe
        clear hP0 hP1 he0 he1 hhe HS
        have k1 : ¬ P1 < P0 := by omega
        have k2 : ¬ P1 > 6 := by omega
        by_cases c0 : 5 ≤ P0
        · have c1 : 5 ≤ P1 := by omega
          rw [if_neg (show ¬ P0 < 5 by omega), decide_eq_true (show  5 ≤ P0 by omega)]
          rw [if_neg (show ¬ P1 < 5 by omega), decide_eq_true (show  5 ≤ P1 by omega)] at A10
          obtain rfl : e1 = e0 := her (by omega)
          clear her
          have k3 :  P1 > 4 := by omega
          clear hph hst
          go_wp2_with (first | (go_at_call 10; refine A10.out.mono ?_; rintro E w3 ⟨rfl, h⟩; have HS2 := Aside0.mk h; have A11 := Aside0.mk (phase_calls h); rw [HP1.out] at A11; obtain ⟨Aq, cq, q1, q2, q3, hr⟩ := h.asked; rw [HHE.out] at q2; clear h A10 hr q1) | (go_at_call 11; refine A11.out.mono ?_; rintro E w6 ⟨rfl, rfl⟩; clear A11))
          go_roundg gq
          case measure => omega
          case rel => exact ⟨i + 1, by go_num, by rw [HP1.out], by rw [HP1.out, HE1.out, if_neg (by omega)], by rw [HP1.out, decide_eq_true (by omega)], by omega, HS2⟩
        · by_cases c1 : 5 ≤ P1
          · rw [if_pos (show P0 < 5 by omega), decide_eq_false (show ¬ 5 ≤ P0 by omega)]
            rw [if_neg (show ¬ P1 < 5 by omega), decide_eq_true (show  5 ≤ P1 by omega)] at A10
            clear her
            have k3 :  P1 > 4 := by omega
            clear hph hst
            go_wp2_with (first | (go_at_call 10; refine A10.out.mono ?_; rintro E w3 ⟨rfl, h⟩; have HS2 := Aside0.mk h; have A11 := Aside0.mk (phase_calls h); rw [HP1.out] at A11; obtain ⟨Aq, cq, q1, q2, q3, hr⟩ := h.asked; rw [HHE.out] at q2; clear h A10 hr q1) | (go_at_call 11; refine A11.out.mono ?_; rintro E w6 ⟨rfl, rfl⟩; clear A11))
            go_roundg gq
            case measure => omega
            case rel => exact ⟨i + 1, by go_num, by rw [HP1.out], by rw [HP1.out, HE1.out, if_neg (by omega)], by rw [HP1.out, decide_eq_true (by omega)], by omega, HS2⟩
          · rw [if_pos (show P0 < 5 by omega), decide_eq_false (show ¬ 5 ≤ P0 by omega)]
            rw [if_pos (show P1 < 5 by omega), decide_eq_false (show ¬ 5 ≤ P1 by omega)] at A10
            clear her
            have k3 : ¬ P1 > 4 := by omega
            clear hph hst
            go_wp2_with (first | (go_at_call 10; refine A10.out.mono ?_; rintro E w3 ⟨rfl, h⟩; have HS2 := Aside0.mk h; have A11 := Aside0.mk (phase_calls h); rw [HP1.out] at A11; obtain ⟨Aq, cq, q1, q2, q3, hr⟩ := h.asked; rw [HHE.out] at q2; clear h A10 hr q1) | (go_at_call 11; refine A11.out.mono ?_; rintro E w6 ⟨rfl, rfl⟩; clear A11))
            go_roundg gq
            case measure => omega
            case rel => exact ⟨i + 1, by go_num, by rw [HP1.out], by rw [HP1.out, HE1.out, if_pos (by omega)], by rw [HP1.out, decide_eq_false (by omega)], by omega, HS2⟩
end Go.Proofs.Kb
end
section
namespace Go.Proofs.Ytnojcnmnkkgkgaa.Q
open Go.RowKit Go.Proofs.YtnojcnmnkkgkgaaW.PrintWords Go.Proofs.YtnojcnmnkkgkgaaW.PrintLast Go.Proofs.YtnojcnmnkkgkgaaW.PrintMore
attribute [local go_sem] max2_int min2_int max_two min_two max_three min_three max_four min_four
set_option linter.unusedVariables false
set_option linter.unusedSimpArgs false
set_option maxRecDepth 100000
def Rd {α : Type} (P : Program) (d : Kd α) (t : TypeId) (wf : α → Prop) : Prop :=
  ∀ {H : Type} (enc : TypeId × Value → H) (w : World) (base : Nat) (spare : Nat → Bool) (held : Bool) (fuel : Nat) (cs : List Value) (x : DataW H × List MemPlace),
    DataW.trod enc P w base spare held fuel t cs = some x → ∃ a, d.K w a cs ∧ wf a
theorem Rd.int {P : Program} {t : TypeId} {k : IntKind} (ht : P.underlying t = some (.int k)) : Rd P (Kd.int k) t (fun n => (Lit.int k n).wf = true) := by
  intro H enc w base spare held fuel cs x h
  obtain ⟨n, rfl, _, hw⟩ := DataW.trod_int ht h
  exact ⟨n, rfl, hw⟩
theorem Rd.bool {P : Program} {t : TypeId} (ht : P.underlying t = some .bool) : Rd P Kd.bool t (fun _ => True) := by
  intro H enc w base spare held fuel cs x h
  obtain ⟨n, rfl, _⟩ := DataW.trod_bool ht h
  exact ⟨n, rfl, trivial⟩
theorem Rd.string {P : Program} {t : TypeId} (ht : P.underlying t = some .string) : Rd P Kd.string t (fun s => s.size ≤ maxLen) := by
  intro H enc w base spare held fuel cs x h
  obtain ⟨n, rfl, _, hs⟩ := DataW.trod_string ht h
  exact ⟨n, rfl, hs⟩
theorem Rd.slice {α : Type} {P : Program} {d : Kd α} {t e : TypeId} {wf : α → Prop} (ht : P.underlying t = some (.slice e)) (hc : P.cellsOf e = d.sz) (hd : Rd P d e wf) :
    Rd P (Kd.slice e d) t (fun l => l.length ≤ maxLen ∧ ∀ a ∈ l, wf a) := by
  intro H enc w base spare held fuel cs x h
  rcases Go.Deep.open_slice ht h with ⟨rfl, _⟩ | ⟨a, len, cap, m, n, D, Pl, rfl, _, hl, hm, hmm, _, hi⟩
  · exact ⟨[], ⟨none, 0, rfl, Nat.le_refl _, rfl, Nat.zero_le _, fun h => absurd h (Nat.lt_irrefl _)⟩, Nat.zero_le _, fun _ h => by cases h⟩
  · have hlm : len ≤ m := by rw [hmm]; split <;> omega
    have hex : ∀ i, i < len → ∃ v, wf v ∧ ∃ c, c.length = d.sz ∧ d.K w v c ∧ ∀ j u, c[j]? = some u → w.cell? (a.add (i * d.sz + j)) = some u := by
      intro i hilt
      obtain ⟨cs', hcs, ht'⟩ := hi i (by omega)
      obtain ⟨v, hK, hw⟩ := hd enc w base spare held n cs' _ ht'
      rw [hc] at hcs
      obtain ⟨_, hlen, hat⟩ := World.cells?_some hcs
      refine ⟨v, hw, cs', hlen, hK, fun j u hj => ?_⟩
      have hjl : j < d.sz := by rw [← hlen]; exact (List.getElem?_eq_some_iff.1 hj).1
      have := hat j hjl
      rw [Go.Deep.add_add] at this
      rw [this, hj]
    have hex' : ∀ i : Fin len, ∃ v, wf v ∧ ∃ c, c.length = d.sz ∧ d.K w v c ∧ ∀ j u, c[j]? = some u → w.cell? (a.add (i.val * d.sz + j)) = some u := fun i => hex i.val i.isLt
    have hch : ∃ g : Fin len → α, ∀ i : Fin len, wf (g i) ∧ ∃ c, c.length = d.sz ∧ d.K w (g i) c ∧ ∀ j u, c[j]? = some u → w.cell? (a.add (i.val * d.sz + j)) = some u := ⟨fun i => Classical.choose (hex' i), fun i => Classical.choose_spec (hex' i)⟩
    obtain ⟨g, hg⟩ := hch
    have hlen : (List.ofFn g).length = len := List.length_ofFn
    refine ⟨List.ofFn g, ⟨some a, cap, by rw [hlen], by rw [hlen]; exact hl, rfl, by rw [hlen]; simp only [maxLen] at hm; omega, fun _ => ⟨a, rfl, fun j p hp => ?_⟩⟩, by rw [hlen]; omega, fun v hv => ?_⟩
    · obtain ⟨hj, he⟩ := List.getElem?_eq_some_iff.1 hp
      rw [List.getElem_ofFn] at he
      subst he
      exact (hg ⟨j, by omega⟩).2
    · obtain ⟨i, rfl⟩ := List.mem_ofFn.1 hv
      exact (hg i).1
theorem Rd.arg_slice {α : Type} {P : Program} {d : Kd α} {t e : TypeId} {wf : α → Prop} (hd : Rd P (Kd.slice e d) t (fun l => l.length ≤ maxLen ∧ ∀ a ∈ l, wf a)) {H : Type} {enc : TypeId × Value → H} {w : World} {base : Nat} {spare : Nat → Bool} {held : Bool} {A : Option Addr} {n c : Nat} {x : DataW H} {p : List MemPlace}
    (h : DataW.Trod enc P w base spare held t (.slice A n c) x p) : ∃ l : List α, l.length = n ∧ d.C w A l.length l ∧ l.length ≤ c ∧ l.length ≤ maxLen ∧ ∀ a ∈ l, wf a := by
  obtain ⟨fuel, hf⟩ := h
  obtain ⟨l, ⟨A', c', he, hl, hC⟩, hm, hw⟩ := hd enc w base spare held fuel _ _ hf
  have he' : [Value.slice A n c] = [.slice A' l.length c'] := he
  injection he' with he' _
  injection he' with h1 h2 h3
  subst h1; subst h3
  exact ⟨l, h2.symm, hC, hl, hm, hw⟩
theorem some_of_len {α : Type} {xs : List α} {n j : Nat} (h : xs.length = n) (hj : j < n) : ∃ y, xs[j]? = some y := ⟨_, List.getElem?_eq_getElem (by omega)⟩
def wf60 (v : S60) : Prop := (fun n => (Lit.int .i64 n).wf = true) v.f0 ∧ (fun n => (Lit.int .i64 n).wf = true) v.f1 ∧ (fun s => s.size ≤ maxLen) v.f2
theorem rd60 : Rd Try.prog k60 60 wf60 := by
  intro H enc w base spare held fuel cs x h
  obtain ⟨xs, n, _, _, hlen, hl, hf⟩ := DataW.trod_struct Try.underlying60 h
  rw [show Try.prog.cellsOf 60 = 3 by kernel_rfl] at hlen
  obtain ⟨c0, c1, c2, rfl⟩ : ∃ c0 c1 c2, cs = [c0, c1, c2] := by
    match cs, hlen with
    | [c0, c1, c2], _ => exact ⟨c0, c1, c2, rfl⟩
  obtain ⟨y0, hy0⟩ := some_of_len hl (j := 0) (by decide)
  have g0 : DataW.trod enc Try.prog w base spare held n 3 ((([c0, c1, c2] : List Value).drop 0).take (Try.prog.cellsOf 3)) = some y0 := (hf 0 _ rfl).trans hy0
  rw [show Try.prog.cellsOf 3 = 1 by kernel_rfl] at g0
  obtain ⟨a0, K0, w0⟩ := (Rd.int Try.underlying3) enc w base spare held n _ _ g0
  obtain ⟨y1, hy1⟩ := some_of_len hl (j := 1) (by decide)
  have g1 : DataW.trod enc Try.prog w base spare held n 3 ((([c0, c1, c2] : List Value).drop 1).take (Try.prog.cellsOf 3)) = some y1 := (hf 1 _ rfl).trans hy1
  rw [show Try.prog.cellsOf 3 = 1 by kernel_rfl] at g1
  obtain ⟨a1, K1, w1⟩ := (Rd.int Try.underlying3) enc w base spare held n _ _ g1
  obtain ⟨y2, hy2⟩ := some_of_len hl (j := 2) (by decide)
  have g2 : DataW.trod enc Try.prog w base spare held n 9 ((([c0, c1, c2] : List Value).drop 2).take (Try.prog.cellsOf 9)) = some y2 := (hf 2 _ rfl).trans hy2
  rw [show Try.prog.cellsOf 9 = 1 by kernel_rfl] at g2
  obtain ⟨a2, K2, w2⟩ := (Rd.string Try.underlying9) enc w base spare held n _ _ g2
  exact ⟨⟨a0, a1, a2⟩, ⟨[c0], [c1, c2], rfl, K0, ⟨[c1], [c2], rfl, K1, K2⟩⟩, ⟨w0, w1, w2⟩⟩
def wf62 (v : S62) : Prop := (fun s => s.size ≤ maxLen) v.f0 ∧ wf60 v.f1
theorem rd62 : Rd Try.prog k62 62 wf62 := by
  intro H enc w base spare held fuel cs x h
  obtain ⟨xs, n, _, _, hlen, hl, hf⟩ := DataW.trod_struct Try.underlying62 h
  rw [show Try.prog.cellsOf 62 = 4 by kernel_rfl] at hlen
  obtain ⟨c0, c1, c2, c3, rfl⟩ : ∃ c0 c1 c2 c3, cs = [c0, c1, c2, c3] := by
    match cs, hlen with
    | [c0, c1, c2, c3], _ => exact ⟨c0, c1, c2, c3, rfl⟩
  obtain ⟨y0, hy0⟩ := some_of_len hl (j := 0) (by decide)
  have g0 : DataW.trod enc Try.prog w base spare held n 9 ((([c0, c1, c2, c3] : List Value).drop 0).take (Try.prog.cellsOf 9)) = some y0 := (hf 0 _ rfl).trans hy0
  rw [show Try.prog.cellsOf 9 = 1 by kernel_rfl] at g0
  obtain ⟨a0, K0, w0⟩ := (Rd.string Try.underlying9) enc w base spare held n _ _ g0
  obtain ⟨y1, hy1⟩ := some_of_len hl (j := 1) (by decide)
  have g1 : DataW.trod enc Try.prog w base spare held n 60 ((([c0, c1, c2, c3] : List Value).drop 1).take (Try.prog.cellsOf 60)) = some y1 := (hf 1 _ rfl).trans hy1
  rw [show Try.prog.cellsOf 60 = 3 by kernel_rfl] at g1
  obtain ⟨a1, K1, w1⟩ := rd60 enc w base spare held n _ _ g1
  exact ⟨⟨a0, a1⟩, ⟨[c0], [c1, c2, c3], rfl, K0, K1⟩, ⟨w0, w1⟩⟩
def wf64 (v : S64) : Prop := (fun s => s.size ≤ maxLen) v.f0 ∧ (fun n => (Lit.int .i64 n).wf = true) v.f1 ∧ wf60 v.f2
theorem rd64 : Rd Try.prog k64 64 wf64 := by
  intro H enc w base spare held fuel cs x h
  obtain ⟨xs, n, _, _, hlen, hl, hf⟩ := DataW.trod_struct Try.underlying64 h
  rw [show Try.prog.cellsOf 64 = 5 by kernel_rfl] at hlen
  obtain ⟨c0, c1, c2, c3, c4, rfl⟩ : ∃ c0 c1 c2 c3 c4, cs = [c0, c1, c2, c3, c4] := by
    match cs, hlen with
    | [c0, c1, c2, c3, c4], _ => exact ⟨c0, c1, c2, c3, c4, rfl⟩
  obtain ⟨y0, hy0⟩ := some_of_len hl (j := 0) (by decide)
  have g0 : DataW.trod enc Try.prog w base spare held n 9 ((([c0, c1, c2, c3, c4] : List Value).drop 0).take (Try.prog.cellsOf 9)) = some y0 := (hf 0 _ rfl).trans hy0
  rw [show Try.prog.cellsOf 9 = 1 by kernel_rfl] at g0
  obtain ⟨a0, K0, w0⟩ := (Rd.string Try.underlying9) enc w base spare held n _ _ g0
  obtain ⟨y1, hy1⟩ := some_of_len hl (j := 1) (by decide)
  have g1 : DataW.trod enc Try.prog w base spare held n 3 ((([c0, c1, c2, c3, c4] : List Value).drop 1).take (Try.prog.cellsOf 3)) = some y1 := (hf 1 _ rfl).trans hy1
  rw [show Try.prog.cellsOf 3 = 1 by kernel_rfl] at g1
  obtain ⟨a1, K1, w1⟩ := (Rd.int Try.underlying3) enc w base spare held n _ _ g1
  obtain ⟨y2, hy2⟩ := some_of_len hl (j := 2) (by decide)
  have g2 : DataW.trod enc Try.prog w base spare held n 60 ((([c0, c1, c2, c3, c4] : List Value).drop 2).take (Try.prog.cellsOf 60)) = some y2 := (hf 2 _ rfl).trans hy2
  rw [show Try.prog.cellsOf 60 = 3 by kernel_rfl] at g2
  obtain ⟨a2, K2, w2⟩ := rd60 enc w base spare held n _ _ g2
  exact ⟨⟨a0, a1, a2⟩, ⟨[c0], [c1, c2, c3, c4], rfl, K0, ⟨[c1], [c2, c3, c4], rfl, K1, K2⟩⟩, ⟨w0, w1, w2⟩⟩
def wf66 (v : S66) : Prop := (fun s => s.size ≤ maxLen) v.f0 ∧ (fun n => (Lit.int .i64 n).wf = true) v.f1 ∧ (fun _ => True) v.f2
theorem rd66 : Rd Try.prog k66 66 wf66 := by
  intro H enc w base spare held fuel cs x h
  obtain ⟨xs, n, _, _, hlen, hl, hf⟩ := DataW.trod_struct Try.underlying66 h
  rw [show Try.prog.cellsOf 66 = 3 by kernel_rfl] at hlen
  obtain ⟨c0, c1, c2, rfl⟩ : ∃ c0 c1 c2, cs = [c0, c1, c2] := by
    match cs, hlen with
    | [c0, c1, c2], _ => exact ⟨c0, c1, c2, rfl⟩
  obtain ⟨y0, hy0⟩ := some_of_len hl (j := 0) (by decide)
  have g0 : DataW.trod enc Try.prog w base spare held n 9 ((([c0, c1, c2] : List Value).drop 0).take (Try.prog.cellsOf 9)) = some y0 := (hf 0 _ rfl).trans hy0
  rw [show Try.prog.cellsOf 9 = 1 by kernel_rfl] at g0
  obtain ⟨a0, K0, w0⟩ := (Rd.string Try.underlying9) enc w base spare held n _ _ g0
  obtain ⟨y1, hy1⟩ := some_of_len hl (j := 1) (by decide)
  have g1 : DataW.trod enc Try.prog w base spare held n 3 ((([c0, c1, c2] : List Value).drop 1).take (Try.prog.cellsOf 3)) = some y1 := (hf 1 _ rfl).trans hy1
  rw [show Try.prog.cellsOf 3 = 1 by kernel_rfl] at g1
  obtain ⟨a1, K1, w1⟩ := (Rd.int Try.underlying3) enc w base spare held n _ _ g1
  obtain ⟨y2, hy2⟩ := some_of_len hl (j := 2) (by decide)
  have g2 : DataW.trod enc Try.prog w base spare held n 4 ((([c0, c1, c2] : List Value).drop 2).take (Try.prog.cellsOf 4)) = some y2 := (hf 2 _ rfl).trans hy2
  rw [show Try.prog.cellsOf 4 = 1 by kernel_rfl] at g2
  obtain ⟨a2, K2, w2⟩ := (Rd.bool Try.underlying4) enc w base spare held n _ _ g2
  exact ⟨⟨a0, a1, a2⟩, ⟨[c0], [c1, c2], rfl, K0, ⟨[c1], [c2], rfl, K1, K2⟩⟩, ⟨w0, w1, w2⟩⟩
end Go.Proofs.Ytnojcnmnkkgkgaa.Q
end
section
namespace Go.Proofs.Kb
open Go Go.RowKit Go.Proofs.Ytnojcnmnkkgkgaa.Q Go.Proofs.YtnojcnmnkkgkgaaW.PrintWords Go.Proofs.YtnojcnmnkkgkgaaW.PrintLast Go.Proofs.YtnojcnmnkkgkgaaW.PrintMore
set_option linter.unusedVariables false
set_option linter.unusedSimpArgs false
set_option maxRecDepth 100000
theorem rd28 {H : Type} (enc : TypeId × Value → H) (w : World) (base : Nat) (spare : Nat → Bool) (held : Bool) (fuel : Nat) (cs : List Value) (x : DataW H × List MemPlace)
    (h : DataW.trod enc Try.prog w base spare held fuel 28 cs = some x) : ∃ (y : SV) (l6 : List S60) (l7 : List S62) (l8 : List S64) (l9 : List S66) (l10 : List ByteArray), cs = [.int .i64 y.f0, .string y.f1, .string y.f2, .string y.f3, .int .i64 y.f4, .bool y.f5, .slice y.f6.A y.f6.n y.f6.c, .slice y.f7.A y.f7.n y.f7.c, .slice y.f8.A y.f8.n y.f8.c, .slice y.f9.A y.f9.n y.f9.c, .slice y.f10.A y.f10.n y.f10.c] ∧ CK w y l6 l7 l8 l9 l10 := by
  obtain ⟨xs, n, _, _, hlen, hl, hf⟩ := DataW.trod_struct Try.underlying28 h
  rw [show Try.prog.cellsOf 28 = 11 by kernel_rfl] at hlen
  obtain ⟨c0, c1, c2, c3, c4, c5, c6, c7, c8, c9, c10, rfl⟩ : ∃ c0 c1 c2 c3 c4 c5 c6 c7 c8 c9 c10, cs = [c0, c1, c2, c3, c4, c5, c6, c7, c8, c9, c10] := by
    match cs, hlen with
    | [c0, c1, c2, c3, c4, c5, c6, c7, c8, c9, c10], _ => exact ⟨c0, c1, c2, c3, c4, c5, c6, c7, c8, c9, c10, rfl⟩
  obtain ⟨y0, hy0⟩ := some_of_len hl (j := 0) (by decide)
  have g0 : DataW.trod enc Try.prog w base spare held n 3 ((([c0, c1, c2, c3, c4, c5, c6, c7, c8, c9, c10] : List Value).drop 0).take (Try.prog.cellsOf 3)) = some y0 := (hf 0 _ rfl).trans hy0
  rw [show Try.prog.cellsOf 3 = 1 by kernel_rfl] at g0
  obtain ⟨a0, K0, w0⟩ := (Rd.int Try.underlying3) enc w base spare held n _ _ g0
  obtain ⟨y1, hy1⟩ := some_of_len hl (j := 1) (by decide)
  have g1 : DataW.trod enc Try.prog w base spare held n 9 ((([c0, c1, c2, c3, c4, c5, c6, c7, c8, c9, c10] : List Value).drop 1).take (Try.prog.cellsOf 9)) = some y1 := (hf 1 _ rfl).trans hy1
  rw [show Try.prog.cellsOf 9 = 1 by kernel_rfl] at g1
  obtain ⟨a1, K1, w1⟩ := (Rd.string Try.underlying9) enc w base spare held n _ _ g1
  obtain ⟨y2, hy2⟩ := some_of_len hl (j := 2) (by decide)
  have g2 : DataW.trod enc Try.prog w base spare held n 9 ((([c0, c1, c2, c3, c4, c5, c6, c7, c8, c9, c10] : List Value).drop 2).take (Try.prog.cellsOf 9)) = some y2 := (hf 2 _ rfl).trans hy2
  rw [show Try.prog.cellsOf 9 = 1 by kernel_rfl] at g2
  obtain ⟨a2, K2, w2⟩ := (Rd.string Try.underlying9) enc w base spare held n _ _ g2
  obtain ⟨y3, hy3⟩ := some_of_len hl (j := 3) (by decide)
  have g3 : DataW.trod enc Try.prog w base spare held n 9 ((([c0, c1, c2, c3, c4, c5, c6, c7, c8, c9, c10] : List Value).drop 3).take (Try.prog.cellsOf 9)) = some y3 := (hf 3 _ rfl).trans hy3
  rw [show Try.prog.cellsOf 9 = 1 by kernel_rfl] at g3
  obtain ⟨a3, K3, w3⟩ := (Rd.string Try.underlying9) enc w base spare held n _ _ g3
  obtain ⟨y4, hy4⟩ := some_of_len hl (j := 4) (by decide)
  have g4 : DataW.trod enc Try.prog w base spare held n 3 ((([c0, c1, c2, c3, c4, c5, c6, c7, c8, c9, c10] : List Value).drop 4).take (Try.prog.cellsOf 3)) = some y4 := (hf 4 _ rfl).trans hy4
  rw [show Try.prog.cellsOf 3 = 1 by kernel_rfl] at g4
  obtain ⟨a4, K4, w4⟩ := (Rd.int Try.underlying3) enc w base spare held n _ _ g4
  obtain ⟨y5, hy5⟩ := some_of_len hl (j := 5) (by decide)
  have g5 : DataW.trod enc Try.prog w base spare held n 4 ((([c0, c1, c2, c3, c4, c5, c6, c7, c8, c9, c10] : List Value).drop 5).take (Try.prog.cellsOf 4)) = some y5 := (hf 5 _ rfl).trans hy5
  rw [show Try.prog.cellsOf 4 = 1 by kernel_rfl] at g5
  obtain ⟨a5, K5, w5⟩ := (Rd.bool Try.underlying4) enc w base spare held n _ _ g5
  obtain ⟨y6, hy6⟩ := some_of_len hl (j := 6) (by decide)
  have g6 : DataW.trod enc Try.prog w base spare held n 22 ((([c0, c1, c2, c3, c4, c5, c6, c7, c8, c9, c10] : List Value).drop 6).take (Try.prog.cellsOf 22)) = some y6 := (hf 6 _ rfl).trans hy6
  rw [show Try.prog.cellsOf 22 = 1 by kernel_rfl] at g6
  obtain ⟨a6, K6, w6⟩ := (Rd.slice Try.underlying22 (by kernel_rfl) rd60) enc w base spare held n _ _ g6
  obtain ⟨y7, hy7⟩ := some_of_len hl (j := 7) (by decide)
  have g7 : DataW.trod enc Try.prog w base spare held n 23 ((([c0, c1, c2, c3, c4, c5, c6, c7, c8, c9, c10] : List Value).drop 7).take (Try.prog.cellsOf 23)) = some y7 := (hf 7 _ rfl).trans hy7
  rw [show Try.prog.cellsOf 23 = 1 by kernel_rfl] at g7
  obtain ⟨a7, K7, w7⟩ := (Rd.slice Try.underlying23 (by kernel_rfl) rd62) enc w base spare held n _ _ g7
  obtain ⟨y8, hy8⟩ := some_of_len hl (j := 8) (by decide)
  have g8 : DataW.trod enc Try.prog w base spare held n 24 ((([c0, c1, c2, c3, c4, c5, c6, c7, c8, c9, c10] : List Value).drop 8).take (Try.prog.cellsOf 24)) = some y8 := (hf 8 _ rfl).trans hy8
  rw [show Try.prog.cellsOf 24 = 1 by kernel_rfl] at g8
  obtain ⟨a8, K8, w8⟩ := (Rd.slice Try.underlying24 (by kernel_rfl) rd64) enc w base spare held n _ _ g8
  obtain ⟨y9, hy9⟩ := some_of_len hl (j := 9) (by decide)
  have g9 : DataW.trod enc Try.prog w base spare held n 25 ((([c0, c1, c2, c3, c4, c5, c6, c7, c8, c9, c10] : List Value).drop 9).take (Try.prog.cellsOf 25)) = some y9 := (hf 9 _ rfl).trans hy9
  rw [show Try.prog.cellsOf 25 = 1 by kernel_rfl] at g9
  obtain ⟨a9, K9, w9⟩ := (Rd.slice Try.underlying25 (by kernel_rfl) rd66) enc w base spare held n _ _ g9
  obtain ⟨y10, hy10⟩ := some_of_len hl (j := 10) (by decide)
  have g10 : DataW.trod enc Try.prog w base spare held n 26 ((([c0, c1, c2, c3, c4, c5, c6, c7, c8, c9, c10] : List Value).drop 10).take (Try.prog.cellsOf 26)) = some y10 := (hf 10 _ rfl).trans hy10
  rw [show Try.prog.cellsOf 26 = 1 by kernel_rfl] at g10
  obtain ⟨a10, K10, w10⟩ := (Rd.slice Try.underlying26 (by kernel_rfl) (Rd.string Try.underlying9)) enc w base spare held n _ _ g10
  obtain ⟨A6, k6, e6, q6, hC6⟩ := K6
  obtain ⟨A7, k7, e7, q7, hC7⟩ := K7
  obtain ⟨A8, k8, e8, q8, hC8⟩ := K8
  obtain ⟨A9, k9, e9, q9, hC9⟩ := K9
  obtain ⟨A10, k10, e10, q10, hC10⟩ := K10
  refine ⟨⟨a0, a1, a2, a3, a4, a5, ⟨A6, a6.length, k6⟩, ⟨A7, a7.length, k7⟩, ⟨A8, a8.length, k8⟩, ⟨A9, a9.length, k9⟩, ⟨A10, a10.length, k10⟩⟩, a6, a7, a8, a9, a10, ?_, ⟨⟨rfl, q6, hC6⟩, ⟨rfl, q7, hC7⟩, ⟨rfl, q8, hC8⟩, ⟨rfl, q9, hC9⟩, ⟨rfl, q10, hC10⟩⟩⟩
  have f0 : c0 = .int .i64 a0 := by injection (show [c0] = [_] from K0)
  have f1 : c1 = .string a1 := by injection (show [c1] = [_] from K1)
  have f2 : c2 = .string a2 := by injection (show [c2] = [_] from K2)
  have f3 : c3 = .string a3 := by injection (show [c3] = [_] from K3)
  have f4 : c4 = .int .i64 a4 := by injection (show [c4] = [_] from K4)
  have f5 : c5 = .bool a5 := by injection (show [c5] = [_] from K5)
  have f6 : c6 = .slice A6 a6.length k6 := by injection (show [c6] = [_] from e6)
  have f7 : c7 = .slice A7 a7.length k7 := by injection (show [c7] = [_] from e7)
  have f8 : c8 = .slice A8 a8.length k8 := by injection (show [c8] = [_] from e8)
  have f9 : c9 = .slice A9 a9.length k9 := by injection (show [c9] = [_] from e9)
  have f10 : c10 = .slice A10 a10.length k10 := by injection (show [c10] = [_] from e10)
  rw [f0, f1, f2, f3, f4, f5, f6, f7, f8, f9, f10]
end Go.Proofs.Kb
end
