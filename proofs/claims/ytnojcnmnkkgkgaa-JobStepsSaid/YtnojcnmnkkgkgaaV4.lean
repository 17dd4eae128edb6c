/- Packed by shake.py: YtnojcnmnkkgkgaaJG1 YtnojcnmnkkgkgaaJL3 YtnojcnmnkkgkgaaQ12 YtnojcnmnkkgkgaaQ13 YtnojcnmnkkgkgaaJG2 YtnojcnmnkkgkgaaJL4 YtnojcnmnkkgkgaaJL5 YtnojcnmnkkgkgaaQ56 YtnojcnmnkkgkgaaQ55 -/
import Derived.OpenShut
import Derived.WalkArith
import Derived.Test.YtnojcnmnkkgkgaaV3
set_option linter.unusedSectionVars false
section
namespace Go.Proofs.Kb
open Go Go.RowKit Go.Proofs.Ytnojcnmnkkgkgaa.Q Go.Proofs.YtnojcnmnkkgkgaaW.PrintWords Go.Proofs.YtnojcnmnkkgkgaaW.PrintLast Go.Proofs.YtnojcnmnkkgkgaaW.PrintMore
set_option linter.unusedVariables false
set_option linter.unusedSimpArgs false
set_option maxRecDepth 100000
section
variable (a0 : Int) (a1 a2 a3 : ByteArray) (a4 : Int) (a5 : Bool) (l6 : List S60) (l7 : List S62) (l8 : List S64) (l9 : List S66) (l10 : List ByteArray)
structure Len20 : Prop where
  h6 : l6.length ≤ 20
  h7 : l7.length ≤ 20
  h8 : l8.length ≤ 20
  h9 : l9.length ≤ 20
  h10 : l10.length ≤ 20
variable {l6 l7 l8 l9 l10}
theorem gl4 (h : Len20 l6 l7 l8 l9 l10) : ∀ (m : Nat) (i : Int), 0 ≤ i → i + m = l10.length → ∃ k r, interlocklaw15_GreatStmt.l4 k i a0 a1 a2 a3 a4 a5 l6 l7 l8 l9 l10 = some r
  | 0, i, h0, hm => by
    exact ⟨1, false, by unfold interlocklaw15_GreatStmt.l4; rw [if_neg (by omega)]⟩
  | m + 1, i, h0, hm => by
    by_cases q0 : ((rdOf ByteArray.empty l10 i).size : Int) > 50
    · exact ⟨1, true, by unfold interlocklaw15_GreatStmt.l4; rw [if_pos (by omega), if_pos h0, if_pos q0]⟩
    obtain ⟨k, r, hk⟩ := gl4 h m (i + 1) (by omega) (by omega)
    exact ⟨k + 1, r, by unfold interlocklaw15_GreatStmt.l4; rw [if_pos (by omega), if_pos h0, if_neg q0, IntWalk.wrap64_in _ (by have := h.h10; omega)]; exact hk⟩
theorem gl3 (h : Len20 l6 l7 l8 l9 l10) : ∀ (m : Nat) (i : Int), 0 ≤ i → i + m = l9.length → ∃ k r, interlocklaw15_GreatStmt.l3 k i a0 a1 a2 a3 a4 a5 l6 l7 l8 l9 l10 = some r
  | 0, i, h0, hm => by
    obtain ⟨k, r, hk⟩ := gl4 a0 a1 a2 a3 a4 a5 h l10.length 0 (Int.le_refl _) (by omega)
    exact ⟨k + 1, r, by unfold interlocklaw15_GreatStmt.l3; rw [if_neg (by omega)]; exact hk⟩
  | m + 1, i, h0, hm => by
    by_cases q0 : (((rd_T66 l9 i).f0).size : Int) > 50
    · exact ⟨1, true, by unfold interlocklaw15_GreatStmt.l3; rw [if_pos (by omega), if_pos h0, if_pos q0]⟩
    obtain ⟨k, r, hk⟩ := gl3 h m (i + 1) (by omega) (by omega)
    exact ⟨k + 1, r, by unfold interlocklaw15_GreatStmt.l3; rw [if_pos (by omega), if_pos h0, if_neg q0, IntWalk.wrap64_in _ (by have := h.h9; omega)]; exact hk⟩
theorem gl2 (h : Len20 l6 l7 l8 l9 l10) : ∀ (m : Nat) (i : Int), 0 ≤ i → i + m = l8.length → ∃ k r, interlocklaw15_GreatStmt.l2 k i a0 a1 a2 a3 a4 a5 l6 l7 l8 l9 l10 = some r
  | 0, i, h0, hm => by
    obtain ⟨k, r, hk⟩ := gl3 a0 a1 a2 a3 a4 a5 h l9.length 0 (Int.le_refl _) (by omega)
    exact ⟨k + 1, r, by unfold interlocklaw15_GreatStmt.l2; rw [if_neg (by omega)]; exact hk⟩
  | m + 1, i, h0, hm => by
    by_cases q0 : (((rd_T64 l8 i).f2.f2).size : Int) > 50
    · exact ⟨1, true, by unfold interlocklaw15_GreatStmt.l2; rw [if_pos (by omega), if_pos h0, if_pos q0]⟩
    by_cases q1 : (((rd_T64 l8 i).f0).size : Int) > 50
    · exact ⟨1, true, by unfold interlocklaw15_GreatStmt.l2; rw [if_pos (by omega), if_pos h0, if_neg q0, if_pos q1]⟩
    obtain ⟨k, r, hk⟩ := gl2 h m (i + 1) (by omega) (by omega)
    exact ⟨k + 1, r, by unfold interlocklaw15_GreatStmt.l2; rw [if_pos (by omega), if_pos h0, if_neg q0, if_neg q1, IntWalk.wrap64_in _ (by have := h.h8; omega)]; exact hk⟩
theorem gl1 (h : Len20 l6 l7 l8 l9 l10) : ∀ (m : Nat) (i : Int), 0 ≤ i → i + m = l7.length → ∃ k r, interlocklaw15_GreatStmt.l1 k i a0 a1 a2 a3 a4 a5 l6 l7 l8 l9 l10 = some r
  | 0, i, h0, hm => by
    obtain ⟨k, r, hk⟩ := gl2 a0 a1 a2 a3 a4 a5 h l8.length 0 (Int.le_refl _) (by omega)
    exact ⟨k + 1, r, by unfold interlocklaw15_GreatStmt.l1; rw [if_neg (by omega)]; exact hk⟩
  | m + 1, i, h0, hm => by
    by_cases q0 : (((rd_T62 l7 i).f1.f2).size : Int) > 50
    · exact ⟨1, true, by unfold interlocklaw15_GreatStmt.l1; rw [if_pos (by omega), if_pos h0, if_pos q0]⟩
    by_cases q1 : (((rd_T62 l7 i).f0).size : Int) > 50
    · exact ⟨1, true, by unfold interlocklaw15_GreatStmt.l1; rw [if_pos (by omega), if_pos h0, if_neg q0, if_pos q1]⟩
    obtain ⟨k, r, hk⟩ := gl1 h m (i + 1) (by omega) (by omega)
    exact ⟨k + 1, r, by unfold interlocklaw15_GreatStmt.l1; rw [if_pos (by omega), if_pos h0, if_neg q0, if_neg q1, IntWalk.wrap64_in _ (by have := h.h7; omega)]; exact hk⟩
theorem gl0 (h : Len20 l6 l7 l8 l9 l10) : ∀ (m : Nat) (i : Int), 0 ≤ i → i + m = l6.length → ∃ k r, interlocklaw15_GreatStmt.l0 k i a0 a1 a2 a3 a4 a5 l6 l7 l8 l9 l10 = some r
  | 0, i, h0, hm => by
    obtain ⟨k, r, hk⟩ := gl1 a0 a1 a2 a3 a4 a5 h l7.length 0 (Int.le_refl _) (by omega)
    exact ⟨k + 1, r, by unfold interlocklaw15_GreatStmt.l0; rw [if_neg (by omega)]; exact hk⟩
  | m + 1, i, h0, hm => by
    by_cases q0 : (((rd_T60 l6 i).f2).size : Int) > 50
    · exact ⟨1, true, by unfold interlocklaw15_GreatStmt.l0; rw [if_pos (by omega), if_pos h0, if_pos q0]⟩
    obtain ⟨k, r, hk⟩ := gl0 h m (i + 1) (by omega) (by omega)
    exact ⟨k + 1, r, by unfold interlocklaw15_GreatStmt.l0; rw [if_pos (by omega), if_pos h0, if_neg q0, IntWalk.wrap64_in _ (by have := h.h6; omega)]; exact hk⟩
variable (l6 l7 l8 l9 l10)
structure Small : Prop where
  len : Len20 l6 l7 l8 l9 l10
  s1 : a1.size ≤ 50
  s2 : a2.size ≤ 50
  s3 : a3.size ≤ 50
theorem gstmt_some : ∃ k r, interlocklaw15_GreatStmt.f k a0 a1 a2 a3 a4 a5 l6 l7 l8 l9 l10 = some r ∧ (r = false → Small a1 a2 a3 l6 l7 l8 l9 l10) := by
  have hj : ∀ b, (b = false → Len20 l6 l7 l8 l9 l10) → ∃ k r, interlocklaw15_GreatStmt.j0 k b a0 a1 a2 a3 a4 a5 l6 l7 l8 l9 l10 = some r ∧ (r = false → b = false) := fun b hb => by
    cases b with
    | true => exact ⟨1, true, rfl, fun h => h⟩
    | false =>
      obtain ⟨k, r, hk⟩ := gl0 a0 a1 a2 a3 a4 a5 (hb rfl) l6.length 0 (Int.le_refl _) (by omega)
      exact ⟨k + 1, r, hk, fun _ => rfl⟩
  have ht : ∃ k r, interlocklaw15_GreatStmt.j0 k true a0 a1 a2 a3 a4 a5 l6 l7 l8 l9 l10 = some r ∧ (r = false → Small a1 a2 a3 l6 l7 l8 l9 l10) := ⟨1, true, rfl, fun h => by cases h⟩
  unfold interlocklaw15_GreatStmt.f
  by_cases c0 : (l6.length : Int) > 20
  · simp only [if_pos c0]
    exact ht
  by_cases c1 : (l7.length : Int) > 20
  · simp only [if_neg c0, if_pos c1]
    exact ht
  by_cases c2 : (l8.length : Int) > 20
  · simp only [if_neg c0, if_neg c1, if_pos c2]
    exact ht
  by_cases c3 : (l9.length : Int) > 20
  · simp only [if_neg c0, if_neg c1, if_neg c2, if_pos c3]
    exact ht
  by_cases c4 : (l10.length : Int) > 20
  · simp only [if_neg c0, if_neg c1, if_neg c2, if_neg c3, if_pos c4]
    exact ht
  by_cases c5 : (a1.size : Int) > 50
  · simp only [if_neg c0, if_neg c1, if_neg c2, if_neg c3, if_neg c4, if_pos c5]
    exact ht
  by_cases c6 : (a2.size : Int) > 50
  · simp only [if_neg c0, if_neg c1, if_neg c2, if_neg c3, if_neg c4, if_neg c5, if_pos c6]
    exact ht
  simp only [if_neg c0, if_neg c1, if_neg c2, if_neg c3, if_neg c4, if_neg c5, if_neg c6]
  obtain ⟨k, r, hk, hr⟩ := hj (decide ((a3.size : Int) > 50)) (fun _ => ⟨by omega, by omega, by omega, by omega, by omega⟩)
  exact ⟨k, r, hk, fun h => ⟨⟨by omega, by omega, by omega, by omega, by omega⟩, by omega, by omega, by have := of_decide_eq_false (hr h); omega⟩⟩
end
structure CK (w : World) (x : SV) (l6 : List S60) (l7 : List S62) (l8 : List S64) (l9 : List S66) (l10 : List ByteArray) : Prop where
  n6 : x.f6.n = l6.length ∧ l6.length ≤ x.f6.c ∧ Kd.C k60 w x.f6.A l6.length l6
  n7 : x.f7.n = l7.length ∧ l7.length ≤ x.f7.c ∧ Kd.C k62 w x.f7.A l7.length l7
  n8 : x.f8.n = l8.length ∧ l8.length ≤ x.f8.c ∧ Kd.C k64 w x.f8.A l8.length l8
  n9 : x.f9.n = l9.length ∧ l9.length ≤ x.f9.c ∧ Kd.C k66 w x.f9.A l9.length l9
  n10 : x.f10.n = l10.length ∧ l10.length ≤ x.f10.c ∧ Kd.C Kd.string w x.f10.A l10.length l10
section
variable {w w' : World} {x : SV} {l6 : List S60} {l7 : List S62} {l8 : List S64} {l9 : List S66} {l10 : List ByteArray}
theorem CK.below (h : CK w x l6 l7 l8 l9 l10) (hb : Below w.heap.size w w') : CK w' x l6 l7 l8 l9 l10 :=
  ⟨⟨h.n6.1, h.n6.2.1, Kd.C_below h.n6.2.2 hb⟩, ⟨h.n7.1, h.n7.2.1, Kd.C_below h.n7.2.2 hb⟩, ⟨h.n8.1, h.n8.2.1, Kd.C_below h.n8.2.2 hb⟩, ⟨h.n9.1, h.n9.2.1, Kd.C_below h.n9.2.2 hb⟩, ⟨h.n10.1, h.n10.2.1, Kd.C_below h.n10.2.2 hb⟩⟩
theorem CK.sr (h : CK w x l6 l7 l8 l9 l10) : SR w x l6 l7 l8 l9 l10 := by
  obtain ⟨⟨e6, c6, h6⟩, ⟨e7, c7, h7⟩, ⟨e8, c8, h8⟩, ⟨e9, c9, h9⟩, ⟨e10, c10, h10⟩⟩ := h
  refine ⟨?_, ?_, ?_, ?_, ?_⟩
  · show Src _ _ (.slice x.f6.A x.f6.n x.f6.c) _
    rw [e6]; exact Src.of_C k60 rfl (fun h => k60_open h) h6 c6
  · show Src _ _ (.slice x.f7.A x.f7.n x.f7.c) _
    rw [e7]; exact Src.of_C k62 rfl (fun h => k62_open h) h7 c7
  · show Src _ _ (.slice x.f8.A x.f8.n x.f8.c) _
    rw [e8]; exact Src.of_C k64 rfl (fun h => k64_open h) h8 c8
  · show Src _ _ (.slice x.f9.A x.f9.n x.f9.c) _
    rw [e9]; exact Src.of_C k66 rfl (fun h => k66_open h) h9 c9
  · show Src _ _ (.slice x.f10.A x.f10.n x.f10.c) _
    rw [e10]; exact Src.of_C (E := txtE) Kd.string rfl (fun h => h) h10 c10
theorem Small.sn {a1 a2 a3 : ByteArray} (h : Small a1 a2 a3 l6 l7 l8 l9 l10) : SN l6 l7 l8 l9 l10 := by
  have := h.len
  exact ⟨by have := this.h6; omega, by have := this.h7; omega, by have := this.h8; omega, by have := this.h9; omega, by have := this.h10; omega⟩
end
end Go.Proofs.Kb
end
section
namespace Go.Proofs.Kb
open Go Go.RowKit Go.Proofs.Ytnojcnmnkkgkgaa.Q Go.Proofs.YtnojcnmnkkgkgaaW.PrintWords Go.Proofs.YtnojcnmnkkgkgaaW.PrintLast Go.Proofs.YtnojcnmnkkgkgaaW.PrintMore
set_option linter.unusedVariables false
set_option linter.unusedSimpArgs false
set_option maxRecDepth 100000
theorem box11 {W : World} {n0 : Nat} {x : SV} (hb : W.heap[n0]? = some (.cells #[.int .i64 x.f0, .string x.f1, .string x.f2, .string x.f3, .int .i64 x.f4, .bool x.f5, .slice x.f6.A x.f6.n x.f6.c, .slice x.f7.A x.f7.n x.f7.c, .slice x.f8.A x.f8.n x.f8.c, .slice x.f9.A x.f9.n x.f9.c, .slice x.f10.A x.f10.n x.f10.c] 28 (0, 0))) : W.cell? ⟨n0, 0, none⟩ = some (.int .i64 x.f0) ∧ W.cell? ⟨n0, 1, none⟩ = some (.string x.f1) ∧ W.cell? ⟨n0, 2, none⟩ = some (.string x.f2) ∧ W.cell? ⟨n0, 3, none⟩ = some (.string x.f3) ∧ W.cell? ⟨n0, 4, none⟩ = some (.int .i64 x.f4) ∧ W.cell? ⟨n0, 5, none⟩ = some (.bool x.f5) ∧ W.cell? ⟨n0, 6, none⟩ = some (.slice x.f6.A x.f6.n x.f6.c) ∧ W.cell? ⟨n0, 7, none⟩ = some (.slice x.f7.A x.f7.n x.f7.c) ∧ W.cell? ⟨n0, 8, none⟩ = some (.slice x.f8.A x.f8.n x.f8.c) ∧ W.cell? ⟨n0, 9, none⟩ = some (.slice x.f9.A x.f9.n x.f9.c) ∧ W.cell? ⟨n0, 10, none⟩ = some (.slice x.f10.A x.f10.n x.f10.c) :=
  ⟨(blk_cell hb 0).trans rfl, (blk_cell hb 1).trans rfl, (blk_cell hb 2).trans rfl, (blk_cell hb 3).trans rfl, (blk_cell hb 4).trans rfl, (blk_cell hb 5).trans rfl, (blk_cell hb 6).trans rfl, (blk_cell hb 7).trans rfl, (blk_cell hb 8).trans rfl, (blk_cell hb 9).trans rfl, (blk_cell hb 10).trans rfl⟩
end Go.Proofs.Kb
end
section
namespace Go.Proofs.Ytnojcnmnkkgkgaa.Q
open Go.RowKit Go.Proofs.YtnojcnmnkkgkgaaW.PrintWords Go.Proofs.YtnojcnmnkkgkgaaW.PrintLast Go.Proofs.YtnojcnmnkkgkgaaW.PrintMore
attribute [local go_sem] max2_int min2_int max_two min_two max_three min_three max_four min_four
set_option linter.unusedVariables false
set_option linter.unusedSimpArgs false
mutual
def interlocklaw22_great.j0 : Nat → List (S60) → Bool → Option (Bool)
  | 0, _, _ => none
  | k + 1, x1, x19 => if x19 = true then (some true) else (interlocklaw22_great.l0 k x1 0)
def interlocklaw22_great.l0 : Nat → List (S60) → Int → Option (Bool)
  | 0, _, _ => none
  | k + 1, x1, x7 => if x7 < (x1.length : Int) then (if 0 ≤ x7 then (if (((rd_T60 x1 x7).f2).size : Int) > 50 then (some true) else (interlocklaw22_great.l0 k x1 (wrap64 (x7 + 1)))) else (none)) else (some false)
end
def interlocklaw22_great.f (k : Nat) (a0_0 : Int) (a0_1 : ByteArray) (a0_2 : ByteArray) (a0_3 : ByteArray) (a0_4 : Int) (a0_5 : Bool) (l0_6 : List (S60)) (l0_7 : List (S62)) (l0_8 : List (S64)) (l0_9 : List (S66)) (l0_10 : List ByteArray) (l1 : List (S60)) (l2 : List Int) : Option (Bool) := (interlocklaw15_GreatStmt.f k a0_0 a0_1 a0_2 a0_3 a0_4 a0_5 l0_6 l0_7 l0_8 l0_9 l0_10).bind fun t115 => (if t115 = true then (interlocklaw22_great.j0 k l1 true) else (if (l1.length : Int) > 10 then (interlocklaw22_great.j0 k l1 true) else (interlocklaw22_great.j0 k l1 (decide ((l2.length : Int) > 200)))))
theorem interlocklaw22_great.mono_l : ∀ k, (∀ y0 y1, LeO (interlocklaw22_great.j0 k y0 y1) (interlocklaw22_great.j0 (k + 1) y0 y1)) ∧ (∀ y0 y1, LeO (interlocklaw22_great.l0 k y0 y1) (interlocklaw22_great.l0 (k + 1) y0 y1))
  | 0 => ⟨fun _ _ r h => by simp [interlocklaw22_great.j0] at h, fun _ _ r h => by simp [interlocklaw22_great.l0] at h⟩
  | k + 1 => by
    obtain ⟨ih0, ih1⟩ := interlocklaw22_great.mono_l k
    refine ⟨?_, ?_⟩
    · intro y0 y1
      unfold interlocklaw22_great.j0
      repeat' first
      | (with_reducible exact ih0 _ _)
      | (with_reducible exact ih1 _ _)
      | (with_reducible exact interlocklaw15_GreatStmt.mono _ _ _ _ _ _ _ _ _ _ _ _)
      | (with_reducible exact LeO.refl _)
      | (with_reducible exact LeO.none _)
      | (with_reducible refine LeO.ite ?_ ?_)
      | (with_reducible refine LeO.bind ?_ (fun _ => ?_))
      | exact ih0 _ _
      | exact ih1 _ _
      | exact interlocklaw15_GreatStmt.mono _ _ _ _ _ _ _ _ _ _ _ _
      | exact LeO.none _
      | refine LeO.ite ?_ ?_
      | refine LeO.bind ?_ (fun _ => ?_)
    · intro y0 y1
      unfold interlocklaw22_great.l0
      repeat' first
      | (with_reducible exact ih0 _ _)
      | (with_reducible exact ih1 _ _)
      | (with_reducible exact interlocklaw15_GreatStmt.mono _ _ _ _ _ _ _ _ _ _ _ _)
      | (with_reducible exact LeO.refl _)
      | (with_reducible exact LeO.none _)
      | (with_reducible refine LeO.ite ?_ ?_)
      | (with_reducible refine LeO.bind ?_ (fun _ => ?_))
      | exact ih0 _ _
      | exact ih1 _ _
      | exact interlocklaw15_GreatStmt.mono _ _ _ _ _ _ _ _ _ _ _ _
      | exact LeO.none _
      | refine LeO.ite ?_ ?_
      | refine LeO.bind ?_ (fun _ => ?_)
theorem interlocklaw22_great.mono : ∀ a0 a1 a2 a3 a4 a5 a6 a7 a8 a9 a10 a11 a12 k, LeO (interlocklaw22_great.f k a0 a1 a2 a3 a4 a5 a6 a7 a8 a9 a10 a11 a12) (interlocklaw22_great.f (k + 1) a0 a1 a2 a3 a4 a5 a6 a7 a8 a9 a10 a11 a12) := by
  intro a0 a1 a2 a3 a4 a5 a6 a7 a8 a9 a10 a11 a12 k
  obtain ⟨ih0, ih1⟩ := interlocklaw22_great.mono_l k
  unfold interlocklaw22_great.f
  repeat' first
      | (with_reducible exact ih0 _ _)
      | (with_reducible exact ih1 _ _)
      | (with_reducible exact interlocklaw15_GreatStmt.mono _ _ _ _ _ _ _ _ _ _ _ _)
      | (with_reducible exact LeO.refl _)
      | (with_reducible exact LeO.none _)
      | (with_reducible refine LeO.ite ?_ ?_)
      | (with_reducible refine LeO.bind ?_ (fun _ => ?_))
      | exact ih0 _ _
      | exact ih1 _ _
      | exact interlocklaw15_GreatStmt.mono _ _ _ _ _ _ _ _ _ _ _ _
      | exact LeO.none _
      | refine LeO.ite ?_ ?_
      | refine LeO.bind ?_ (fun _ => ?_)
set_option maxHeartbeats 8000000 in
set_option maxRecDepth 100000 in
theorem interlocklaw22_great.calls (k : Nat) (a0_0 : Int) (a0_1 : ByteArray) (a0_2 : ByteArray) (a0_3 : ByteArray) (a0_4 : Int) (a0_5 : Bool) (A0_6 : Option Addr) (c0_6 : Nat) (l0_6 : List (S60)) (A0_7 : Option Addr) (c0_7 : Nat) (l0_7 : List (S62)) (A0_8 : Option Addr) (c0_8 : Nat) (l0_8 : List (S64)) (A0_9 : Option Addr) (c0_9 : Nat) (l0_9 : List (S66)) (A0_10 : Option Addr) (c0_10 : Nat) (l0_10 : List ByteArray) (A1 : Option Addr) (c1 : Nat) (l1 : List (S60)) (A2 : Option Addr) (c2 : Nat) (l2 : List Int) (r : Bool) (w : World) (hr0_6 : Kd.C k60 w A0_6 l0_6.length l0_6) (hc0_6 : l0_6.length ≤ c0_6) (hr0_7 : Kd.C k62 w A0_7 l0_7.length l0_7) (hc0_7 : l0_7.length ≤ c0_7) (hr0_8 : Kd.C k64 w A0_8 l0_8.length l0_8) (hc0_8 : l0_8.length ≤ c0_8) (hr0_9 : Kd.C k66 w A0_9 l0_9.length l0_9) (hc0_9 : l0_9.length ≤ c0_9) (hr0_10 : Kd.C Kd.string w A0_10 l0_10.length l0_10) (hc0_10 : l0_10.length ≤ c0_10) (hr1 : Kd.C k60 w A1 l1.length l1) (hc1 : l1.length ≤ c1) (hr2 : Kd.C (Kd.int .i64) w A2 l2.length l2) (hc2 : l2.length ≤ c2) (h : interlocklaw22_great.f k a0_0 a0_1 a0_2 a0_3 a0_4 a0_5 l0_6 l0_7 l0_8 l0_9 l0_10 l1 l2 = some r) :
    Calls Try.prog 12 #[.agg #[.int .i64 a0_0, .string a0_1, .string a0_2, .string a0_3, .int .i64 a0_4, .bool a0_5, .slice A0_6 l0_6.length c0_6, .slice A0_7 l0_7.length c0_7, .slice A0_8 l0_8.length c0_8, .slice A0_9 l0_9.length c0_9, .slice A0_10 l0_10.length c0_10], .slice A1 l1.length c1, .slice A2 l2.length c2] w fun e w' => e = .returned (.bool r) ∧ Below w.heap.size w w' := by
  have hu28 := Try.underlying28
  have HR0_6 := Aside0.mk hr0_6
  have HC0_6 := Aside0.mk hc0_6
  clear hr0_6 hc0_6
  have HR0_7 := Aside0.mk hr0_7
  have HC0_7 := Aside0.mk hc0_7
  clear hr0_7 hc0_7
  have HR0_8 := Aside0.mk hr0_8
  have HC0_8 := Aside0.mk hc0_8
  clear hr0_8 hc0_8
  have HR0_9 := Aside0.mk hr0_9
  have HC0_9 := Aside0.mk hc0_9
  clear hr0_9 hc0_9
  have HR0_10 := Aside0.mk hr0_10
  have HC0_10 := Aside0.mk hc0_10
  clear hr0_10 hc0_10
  have HR1 := Aside0.mk hr1
  have HC1 := Aside0.mk hc1
  clear hr1 hc1
  have HR2 := Aside0.mk hr2
  have HC2 := Aside0.mk hc2
  clear hr2 hc2
  have HB := Aside0.mk (Below.refl w.heap.size w)
  have H : ((interlocklaw15_GreatStmt.f k a0_0 a0_1 a0_2 a0_3 a0_4 a0_5 l0_6 l0_7 l0_8 l0_9 l0_10).bind fun t115 => (if t115 = true then (interlocklaw22_great.j0 k l1 true) else (if (l1.length : Int) > 10 then (interlocklaw22_great.j0 k l1 true) else (interlocklaw22_great.j0 k l1 (decide ((l2.length : Int) > 200)))))) = some r := h
  clear h
  have HC4 := Aside0.mk H
  clear H
  go_enter Try.func12, Try.ntmps12
  go_upto_region 1 with (first | ((with_reducible refine gate_dst (N := 3) rfl ?_); (try (refine gate_guard (by rfl) ?_; dsimp only)); refine box_event ?hg (N := 3) ?hd (cs := #[.int .i64 a0_0, .string a0_1, .string a0_2, .string a0_3, .int .i64 a0_4, .bool a0_5, .slice A0_6 l0_6.length c0_6, .slice A0_7 l0_7.length c0_7, .slice A0_8 l0_8.length c0_8, .slice A0_9 l0_9.length c0_9, .slice A0_10 l0_10.length c0_10]) (t := 28) ?hr ?_; (case hd => rfl); (case hg => rfl); (case hr => first | (go_simp; done) | (go_simp; rfl)); intro gb114 hg w5 hbox hb; have n0_ := Aside0.mk (below_step (by repeat (first | (with_reducible first | exact HB.out | apply below_alloc | apply pw_below_drewN | apply below_drew1) | exact HB.out)) hb); have n1_ := Aside0.mk (hbox); have n2_ := Aside0.mk ((by rw [hg]; exact (below_size (by repeat (first | (with_reducible first | exact HB.out | apply below_alloc | apply pw_below_drewN | apply below_drew1) | exact HB.out))) : w.heap.size ≤ gb114)); have n3_ := Aside0.mk ((by rw [hg]; exact (below_size (by repeat (first | (with_reducible first | exact HB.out | apply below_alloc | apply pw_below_drewN | apply below_drew1) | exact HB.out))) : w.heap.size ≤ gb114)); clear HB; have HB := n0_; have BK114 := n1_; have GW114 := n2_; have GE114 := n3_; clear n0_ n1_ n2_ n3_; clear hb hbox hg))
  (try simp only [Act.put, List.setIfInBounds_toArray, List.set_cons_zero, List.set_cons_succ])
  go_cut [19] (fun v19 wc => ∃ (kq : Nat) (x19_3 : Bool), v19 = .bool x19_3 ∧ Aside0 (interlocklaw22_great.j0 kq l1 x19_3 = some r) ∧ Aside0 (kq ≤ k) ∧ Aside0 (wc.heap[gb114]? = some (.cells #[.int .i64 a0_0, .string a0_1, .string a0_2, .string a0_3, .int .i64 a0_4, .bool a0_5, (.slice A0_6 l0_6.length c0_6), (.slice A0_7 l0_7.length c0_7), (.slice A0_8 l0_8.length c0_8), (.slice A0_9 l0_9.length c0_9), (.slice A0_10 l0_10.length c0_10)] 28 (0, 0))) ∧ Aside0 (Below w.heap.size w wc))
  case first =>
    have H := HC4.out
    clear HC4
    replace H := Option.bind_eq_some_iff.mp H
    obtain ⟨t115, A60, H⟩ := H
    replace H : (if t115 = true then (interlocklaw22_great.j0 k l1 true) else (if (l1.length : Int) > 10 then (interlocklaw22_great.j0 k l1 true) else (interlocklaw22_great.j0 k l1 (decide ((l2.length : Int) > 200))))) = some r := H
    have A6 := Aside0.mk A60
    clear A60
    by_cases c7 : t115 = true
    · subst c7
      have H1 : (interlocklaw22_great.j0 k l1 true) = some r := by rw [if_pos rfl] at H; exact H
      clear H
      have H := H1
      clear H1
      have H' := Aside0.mk H
      clear H
      have hcz8_0 : w5.cell? ⟨gb114, 0, none⟩ = some (.int .i64 a0_0) := (blk_cell BK114.out 0).trans rfl
      have hcz8_1 : w5.cell? ⟨gb114, 1, none⟩ = some (.string a0_1) := (blk_cell BK114.out 1).trans rfl
      have hcz8_2 : w5.cell? ⟨gb114, 2, none⟩ = some (.string a0_2) := (blk_cell BK114.out 2).trans rfl
      have hcz8_3 : w5.cell? ⟨gb114, 3, none⟩ = some (.string a0_3) := (blk_cell BK114.out 3).trans rfl
      have hcz8_4 : w5.cell? ⟨gb114, 4, none⟩ = some (.int .i64 a0_4) := (blk_cell BK114.out 4).trans rfl
      have hcz8_5 : w5.cell? ⟨gb114, 5, none⟩ = some (.bool a0_5) := (blk_cell BK114.out 5).trans rfl
      have hcz8_6 : w5.cell? ⟨gb114, 6, none⟩ = some (.slice A0_6 l0_6.length c0_6) := (blk_cell BK114.out 6).trans rfl
      have hcz8_7 : w5.cell? ⟨gb114, 7, none⟩ = some (.slice A0_7 l0_7.length c0_7) := (blk_cell BK114.out 7).trans rfl
      have hcz8_8 : w5.cell? ⟨gb114, 8, none⟩ = some (.slice A0_8 l0_8.length c0_8) := (blk_cell BK114.out 8).trans rfl
      have hcz8_9 : w5.cell? ⟨gb114, 9, none⟩ = some (.slice A0_9 l0_9.length c0_9) := (blk_cell BK114.out 9).trans rfl
      have hcz8_10 : w5.cell? ⟨gb114, 10, none⟩ = some (.slice A0_10 l0_10.length c0_10) := (blk_cell BK114.out 10).trans rfl
      have hfz8_0 := blk_frozen BK114.out 0
      have hfz8_1 := blk_frozen BK114.out 1
      have hfz8_2 := blk_frozen BK114.out 2
      have hfz8_3 := blk_frozen BK114.out 3
      have hfz8_4 := blk_frozen BK114.out 4
      have hfz8_5 := blk_frozen BK114.out 5
      have hfz8_6 := blk_frozen BK114.out 6
      have hfz8_7 := blk_frozen BK114.out 7
      have hfz8_8 := blk_frozen BK114.out 8
      have hfz8_9 := blk_frozen BK114.out 9
      have hfz8_10 := blk_frozen BK114.out 10
      go_wp2_with (first | ((with_reducible refine gate_callee (f := 8) rfl ?_); refine goesL_ (some 9) rfl rfl Try.func8 (by kernel_rfl) rfl #[.agg #[.int .i64 a0_0, .string a0_1, .string a0_2, .string a0_3, .int .i64 a0_4, .bool a0_5, .slice A0_6 l0_6.length c0_6, .slice A0_7 l0_7.length c0_7, .slice A0_8 l0_8.length c0_8, .slice A0_9 l0_9.length c0_9, .slice A0_10 l0_10.length c0_10]] rfl (by (try simp only [List.map_toArray, List.map_cons, List.map_nil]); first | done | rfl | (simp only [List.length_drop, List.length_take]; rfl)) ?_; (with_reducible refine (interlocklaw15_GreatStmt.calls k a0_0 a0_1 a0_2 a0_3 a0_4 a0_5 _ _ l0_6 _ _ l0_7 _ _ l0_8 _ _ l0_9 _ _ l0_10 true _ ?side1 ?side2 ?side3 ?side4 ?side5 ?side6 ?side7 ?side8 ?side9 ?side10 A6.out).mono ?_); (case side1 => repeat (first | exact (Kd.C_below HR0_6.out HB.out) | (with_reducible refine Kd.C_alloc ?_ _) | (with_reducible refine Kd.C_drewN ?_ _) | (with_reducible refine Kd.C_drew ?_))); (case side2 => exact HC0_6.out); (case side3 => repeat (first | exact (Kd.C_below HR0_7.out HB.out) | (with_reducible refine Kd.C_alloc ?_ _) | (with_reducible refine Kd.C_drewN ?_ _) | (with_reducible refine Kd.C_drew ?_))); (case side4 => exact HC0_7.out); (case side5 => repeat (first | exact (Kd.C_below HR0_8.out HB.out) | (with_reducible refine Kd.C_alloc ?_ _) | (with_reducible refine Kd.C_drewN ?_ _) | (with_reducible refine Kd.C_drew ?_))); (case side6 => exact HC0_8.out); (case side7 => repeat (first | exact (Kd.C_below HR0_9.out HB.out) | (with_reducible refine Kd.C_alloc ?_ _) | (with_reducible refine Kd.C_drewN ?_ _) | (with_reducible refine Kd.C_drew ?_))); (case side8 => exact HC0_9.out); (case side9 => repeat (first | exact (Kd.C_below HR0_10.out HB.out) | (with_reducible refine Kd.C_alloc ?_ _) | (with_reducible refine Kd.C_drewN ?_ _) | (with_reducible refine Kd.C_drew ?_))); (case side10 => exact HC0_10.out); rintro e w9 ⟨rfl, hb⟩; refine ⟨_, rfl, ?_⟩; have n0_ := Aside0.mk (blk_below (g := gb114) (o := .cells #[.int .i64 a0_0, .string a0_1, .string a0_2, .string a0_3, .int .i64 a0_4, .bool a0_5, .slice A0_6 l0_6.length c0_6, .slice A0_7 l0_7.length c0_7, .slice A0_8 l0_8.length c0_8, .slice A0_9 l0_9.length c0_9, .slice A0_10 l0_10.length c0_10] 28 (0, 0)) (by (with_reducible repeat (first | refine blk_drewN ?_ _ | refine blk_drew ?_ | refine blk_alloc ?_ _)); exact BK114.out) hb); have n1_ := Aside0.mk (below_step (by repeat (first | (with_reducible first | exact HB.out | apply below_alloc | apply pw_below_drewN | apply below_drew1 | refine below_set ?_ GE114.out) | exact HB.out)) hb); clear BK114; clear HB; have BK114 := n0_; have HB := n1_; clear n0_ n1_; (try clear hb); (try clear hb2); (try clear hk); (try clear hi)))
      go_meet
      case rel => exact ⟨_, (true), (by first | rfl | (simp; done) | (simp [*]; done)), H', ⟨by first | omega | exact Nat.le_refl _⟩, ⟨by (with_reducible repeat (first | refine blk_drewN ?_ _ | refine blk_drew ?_ | refine blk_alloc ?_ _)); exact BK114.out⟩, ⟨by repeat (first | (with_reducible first | exact HB.out | apply below_alloc | apply pw_below_drewN | apply below_drew1 | refine below_set ?_ GE114.out) | exact HB.out)⟩⟩
    · replace c7 := Bool.eq_false_iff.mpr c7
      subst c7
      have H1 : (if (l1.length : Int) > 10 then (interlocklaw22_great.j0 k l1 true) else (interlocklaw22_great.j0 k l1 (decide ((l2.length : Int) > 200)))) = some r := by rw [if_neg (show ¬ (false = true) by decide)] at H; exact H
      clear H
      have H := H1
      clear H1
      by_cases c10 : (l1.length : Int) > 10
      · rw [if_pos c10] at H
        have c10b0 : decide (10 < (l1.length : Int)) = true := decide_eq_true c10
        have c10b1 : decide (10 < l1.length) = true := decide_eq_true (by omega)
        clear c10
        (first | rw [c10b0] | (simp only [i64_w, i32_w]; rw [c10b0]) | skip)
        have H' := Aside0.mk H
        clear H
        have hcz11_0 : w5.cell? ⟨gb114, 0, none⟩ = some (.int .i64 a0_0) := (blk_cell BK114.out 0).trans rfl
        have hcz11_1 : w5.cell? ⟨gb114, 1, none⟩ = some (.string a0_1) := (blk_cell BK114.out 1).trans rfl
        have hcz11_2 : w5.cell? ⟨gb114, 2, none⟩ = some (.string a0_2) := (blk_cell BK114.out 2).trans rfl
        have hcz11_3 : w5.cell? ⟨gb114, 3, none⟩ = some (.string a0_3) := (blk_cell BK114.out 3).trans rfl
        have hcz11_4 : w5.cell? ⟨gb114, 4, none⟩ = some (.int .i64 a0_4) := (blk_cell BK114.out 4).trans rfl
        have hcz11_5 : w5.cell? ⟨gb114, 5, none⟩ = some (.bool a0_5) := (blk_cell BK114.out 5).trans rfl
        have hcz11_6 : w5.cell? ⟨gb114, 6, none⟩ = some (.slice A0_6 l0_6.length c0_6) := (blk_cell BK114.out 6).trans rfl
        have hcz11_7 : w5.cell? ⟨gb114, 7, none⟩ = some (.slice A0_7 l0_7.length c0_7) := (blk_cell BK114.out 7).trans rfl
        have hcz11_8 : w5.cell? ⟨gb114, 8, none⟩ = some (.slice A0_8 l0_8.length c0_8) := (blk_cell BK114.out 8).trans rfl
        have hcz11_9 : w5.cell? ⟨gb114, 9, none⟩ = some (.slice A0_9 l0_9.length c0_9) := (blk_cell BK114.out 9).trans rfl
        have hcz11_10 : w5.cell? ⟨gb114, 10, none⟩ = some (.slice A0_10 l0_10.length c0_10) := (blk_cell BK114.out 10).trans rfl
        have hfz11_0 := blk_frozen BK114.out 0
        have hfz11_1 := blk_frozen BK114.out 1
        have hfz11_2 := blk_frozen BK114.out 2
        have hfz11_3 := blk_frozen BK114.out 3
        have hfz11_4 := blk_frozen BK114.out 4
        have hfz11_5 := blk_frozen BK114.out 5
        have hfz11_6 := blk_frozen BK114.out 6
        have hfz11_7 := blk_frozen BK114.out 7
        have hfz11_8 := blk_frozen BK114.out 8
        have hfz11_9 := blk_frozen BK114.out 9
        have hfz11_10 := blk_frozen BK114.out 10
        go_wp2_with (first | ((with_reducible refine gate_callee (f := 8) rfl ?_); refine goesL_ (some 9) rfl rfl Try.func8 (by kernel_rfl) rfl #[.agg #[.int .i64 a0_0, .string a0_1, .string a0_2, .string a0_3, .int .i64 a0_4, .bool a0_5, .slice A0_6 l0_6.length c0_6, .slice A0_7 l0_7.length c0_7, .slice A0_8 l0_8.length c0_8, .slice A0_9 l0_9.length c0_9, .slice A0_10 l0_10.length c0_10]] rfl (by (try simp only [List.map_toArray, List.map_cons, List.map_nil]); first | done | rfl | (simp only [List.length_drop, List.length_take]; rfl)) ?_; (with_reducible refine (interlocklaw15_GreatStmt.calls k a0_0 a0_1 a0_2 a0_3 a0_4 a0_5 _ _ l0_6 _ _ l0_7 _ _ l0_8 _ _ l0_9 _ _ l0_10 false _ ?side1 ?side2 ?side3 ?side4 ?side5 ?side6 ?side7 ?side8 ?side9 ?side10 A6.out).mono ?_); (case side1 => repeat (first | exact (Kd.C_below HR0_6.out HB.out) | (with_reducible refine Kd.C_alloc ?_ _) | (with_reducible refine Kd.C_drewN ?_ _) | (with_reducible refine Kd.C_drew ?_))); (case side2 => exact HC0_6.out); (case side3 => repeat (first | exact (Kd.C_below HR0_7.out HB.out) | (with_reducible refine Kd.C_alloc ?_ _) | (with_reducible refine Kd.C_drewN ?_ _) | (with_reducible refine Kd.C_drew ?_))); (case side4 => exact HC0_7.out); (case side5 => repeat (first | exact (Kd.C_below HR0_8.out HB.out) | (with_reducible refine Kd.C_alloc ?_ _) | (with_reducible refine Kd.C_drewN ?_ _) | (with_reducible refine Kd.C_drew ?_))); (case side6 => exact HC0_8.out); (case side7 => repeat (first | exact (Kd.C_below HR0_9.out HB.out) | (with_reducible refine Kd.C_alloc ?_ _) | (with_reducible refine Kd.C_drewN ?_ _) | (with_reducible refine Kd.C_drew ?_))); (case side8 => exact HC0_9.out); (case side9 => repeat (first | exact (Kd.C_below HR0_10.out HB.out) | (with_reducible refine Kd.C_alloc ?_ _) | (with_reducible refine Kd.C_drewN ?_ _) | (with_reducible refine Kd.C_drew ?_))); (case side10 => exact HC0_10.out); rintro e w12 ⟨rfl, hb⟩; refine ⟨_, rfl, ?_⟩; have n0_ := Aside0.mk (blk_below (g := gb114) (o := .cells #[.int .i64 a0_0, .string a0_1, .string a0_2, .string a0_3, .int .i64 a0_4, .bool a0_5, .slice A0_6 l0_6.length c0_6, .slice A0_7 l0_7.length c0_7, .slice A0_8 l0_8.length c0_8, .slice A0_9 l0_9.length c0_9, .slice A0_10 l0_10.length c0_10] 28 (0, 0)) (by (with_reducible repeat (first | refine blk_drewN ?_ _ | refine blk_drew ?_ | refine blk_alloc ?_ _)); exact BK114.out) hb); have n1_ := Aside0.mk (below_step (by repeat (first | (with_reducible first | exact HB.out | apply below_alloc | apply pw_below_drewN | apply below_drew1 | refine below_set ?_ GE114.out) | exact HB.out)) hb); clear BK114; clear HB; have BK114 := n0_; have HB := n1_; clear n0_ n1_; (try clear hb); (try clear hb2); (try clear hk); (try clear hi)))
        go_meet
        case rel => exact ⟨_, (true), (by first | rfl | (simp; done) | (simp [*]; done)), H', ⟨by first | omega | exact Nat.le_refl _⟩, ⟨by (with_reducible repeat (first | refine blk_drewN ?_ _ | refine blk_drew ?_ | refine blk_alloc ?_ _)); exact BK114.out⟩, ⟨by repeat (first | (with_reducible first | exact HB.out | apply below_alloc | apply pw_below_drewN | apply below_drew1 | refine below_set ?_ GE114.out) | exact HB.out)⟩⟩
      · rw [if_neg c10] at H
        have c10b0 : decide (10 < (l1.length : Int)) = false := decide_eq_false c10
        have c10b1 : decide (10 < l1.length) = false := decide_eq_false (by omega)
        clear c10
        (first | rw [c10b0] | (simp only [i64_w, i32_w]; rw [c10b0]) | skip)
        have H' := Aside0.mk H
        clear H
        have hcz13_0 : w5.cell? ⟨gb114, 0, none⟩ = some (.int .i64 a0_0) := (blk_cell BK114.out 0).trans rfl
        have hcz13_1 : w5.cell? ⟨gb114, 1, none⟩ = some (.string a0_1) := (blk_cell BK114.out 1).trans rfl
        have hcz13_2 : w5.cell? ⟨gb114, 2, none⟩ = some (.string a0_2) := (blk_cell BK114.out 2).trans rfl
        have hcz13_3 : w5.cell? ⟨gb114, 3, none⟩ = some (.string a0_3) := (blk_cell BK114.out 3).trans rfl
        have hcz13_4 : w5.cell? ⟨gb114, 4, none⟩ = some (.int .i64 a0_4) := (blk_cell BK114.out 4).trans rfl
        have hcz13_5 : w5.cell? ⟨gb114, 5, none⟩ = some (.bool a0_5) := (blk_cell BK114.out 5).trans rfl
        have hcz13_6 : w5.cell? ⟨gb114, 6, none⟩ = some (.slice A0_6 l0_6.length c0_6) := (blk_cell BK114.out 6).trans rfl
        have hcz13_7 : w5.cell? ⟨gb114, 7, none⟩ = some (.slice A0_7 l0_7.length c0_7) := (blk_cell BK114.out 7).trans rfl
        have hcz13_8 : w5.cell? ⟨gb114, 8, none⟩ = some (.slice A0_8 l0_8.length c0_8) := (blk_cell BK114.out 8).trans rfl
        have hcz13_9 : w5.cell? ⟨gb114, 9, none⟩ = some (.slice A0_9 l0_9.length c0_9) := (blk_cell BK114.out 9).trans rfl
        have hcz13_10 : w5.cell? ⟨gb114, 10, none⟩ = some (.slice A0_10 l0_10.length c0_10) := (blk_cell BK114.out 10).trans rfl
        have hfz13_0 := blk_frozen BK114.out 0
        have hfz13_1 := blk_frozen BK114.out 1
        have hfz13_2 := blk_frozen BK114.out 2
        have hfz13_3 := blk_frozen BK114.out 3
        have hfz13_4 := blk_frozen BK114.out 4
        have hfz13_5 := blk_frozen BK114.out 5
        have hfz13_6 := blk_frozen BK114.out 6
        have hfz13_7 := blk_frozen BK114.out 7
        have hfz13_8 := blk_frozen BK114.out 8
        have hfz13_9 := blk_frozen BK114.out 9
        have hfz13_10 := blk_frozen BK114.out 10
        go_wp2_with (first | ((with_reducible refine gate_callee (f := 8) rfl ?_); refine goesL_ (some 9) rfl rfl Try.func8 (by kernel_rfl) rfl #[.agg #[.int .i64 a0_0, .string a0_1, .string a0_2, .string a0_3, .int .i64 a0_4, .bool a0_5, .slice A0_6 l0_6.length c0_6, .slice A0_7 l0_7.length c0_7, .slice A0_8 l0_8.length c0_8, .slice A0_9 l0_9.length c0_9, .slice A0_10 l0_10.length c0_10]] rfl (by (try simp only [List.map_toArray, List.map_cons, List.map_nil]); first | done | rfl | (simp only [List.length_drop, List.length_take]; rfl)) ?_; (with_reducible refine (interlocklaw15_GreatStmt.calls k a0_0 a0_1 a0_2 a0_3 a0_4 a0_5 _ _ l0_6 _ _ l0_7 _ _ l0_8 _ _ l0_9 _ _ l0_10 false _ ?side1 ?side2 ?side3 ?side4 ?side5 ?side6 ?side7 ?side8 ?side9 ?side10 A6.out).mono ?_); (case side1 => repeat (first | exact (Kd.C_below HR0_6.out HB.out) | (with_reducible refine Kd.C_alloc ?_ _) | (with_reducible refine Kd.C_drewN ?_ _) | (with_reducible refine Kd.C_drew ?_))); (case side2 => exact HC0_6.out); (case side3 => repeat (first | exact (Kd.C_below HR0_7.out HB.out) | (with_reducible refine Kd.C_alloc ?_ _) | (with_reducible refine Kd.C_drewN ?_ _) | (with_reducible refine Kd.C_drew ?_))); (case side4 => exact HC0_7.out); (case side5 => repeat (first | exact (Kd.C_below HR0_8.out HB.out) | (with_reducible refine Kd.C_alloc ?_ _) | (with_reducible refine Kd.C_drewN ?_ _) | (with_reducible refine Kd.C_drew ?_))); (case side6 => exact HC0_8.out); (case side7 => repeat (first | exact (Kd.C_below HR0_9.out HB.out) | (with_reducible refine Kd.C_alloc ?_ _) | (with_reducible refine Kd.C_drewN ?_ _) | (with_reducible refine Kd.C_drew ?_))); (case side8 => exact HC0_9.out); (case side9 => repeat (first | exact (Kd.C_below HR0_10.out HB.out) | (with_reducible refine Kd.C_alloc ?_ _) | (with_reducible refine Kd.C_drewN ?_ _) | (with_reducible refine Kd.C_drew ?_))); (case side10 => exact HC0_10.out); rintro e w14 ⟨rfl, hb⟩; refine ⟨_, rfl, ?_⟩; have n0_ := Aside0.mk (blk_below (g := gb114) (o := .cells #[.int .i64 a0_0, .string a0_1, .string a0_2, .string a0_3, .int .i64 a0_4, .bool a0_5, .slice A0_6 l0_6.length c0_6, .slice A0_7 l0_7.length c0_7, .slice A0_8 l0_8.length c0_8, .slice A0_9 l0_9.length c0_9, .slice A0_10 l0_10.length c0_10] 28 (0, 0)) (by (with_reducible repeat (first | refine blk_drewN ?_ _ | refine blk_drew ?_ | refine blk_alloc ?_ _)); exact BK114.out) hb); have n1_ := Aside0.mk (below_step (by repeat (first | (with_reducible first | exact HB.out | apply below_alloc | apply pw_below_drewN | apply below_drew1 | refine below_set ?_ GE114.out) | exact HB.out)) hb); clear BK114; clear HB; have BK114 := n0_; have HB := n1_; clear n0_ n1_; (try clear hb); (try clear hb2); (try clear hk); (try clear hi)))
        go_meet
        case rel => exact ⟨_, (decide ((l2.length : Int) > 200)), (by first | rfl | (simp; done) | (simp [*]; done)), H', ⟨by first | omega | exact Nat.le_refl _⟩, ⟨by (with_reducible repeat (first | refine blk_drewN ?_ _ | refine blk_drew ?_ | refine blk_alloc ?_ _)); exact BK114.out⟩, ⟨by repeat (first | (with_reducible first | exact HB.out | apply below_alloc | apply pw_below_drewN | apply below_drew1 | refine below_set ?_ GE114.out) | exact HB.out)⟩⟩
  case rest =>
    clear HC4
    try clear c1
    try clear c2
    try clear p2
    try clear c7
    try clear c8
    try clear c10
    try clear c10b0
    try clear c10b1
    try clear c12
    try clear hcz11_0
    try clear hcz11_1
    try clear hcz11_10
    try clear hcz11_2
    try clear hcz11_3
    try clear hcz11_4
    try clear hcz11_5
    try clear hcz11_6
    try clear hcz11_7
    try clear hcz11_8
    try clear hcz11_9
    try clear hcz13_0
    try clear hcz13_1
    try clear hcz13_10
    try clear hcz13_2
    try clear hcz13_3
    try clear hcz13_4
    try clear hcz13_5
    try clear hcz13_6
    try clear hcz13_7
    try clear hcz13_8
    try clear hcz13_9
    try clear hcz8_0
    try clear hcz8_1
    try clear hcz8_10
    try clear hcz8_2
    try clear hcz8_3
    try clear hcz8_4
    try clear hcz8_5
    try clear hcz8_6
    try clear hcz8_7
    try clear hcz8_8
    try clear hcz8_9
    try clear hfz11_0
    try clear hfz11_1
    try clear hfz11_10
    try clear hfz11_2
    try clear hfz11_3
    try clear hfz11_4
    try clear hfz11_5
    try clear hfz11_6
    try clear hfz11_7
    try clear hfz11_8
    try clear hfz11_9
    try clear hfz13_0
    try clear hfz13_1
    try clear hfz13_10
    try clear hfz13_2
    try clear hfz13_3
    try clear hfz13_4
    try clear hfz13_5
    try clear hfz13_6
    try clear hfz13_7
    try clear hfz13_8
    try clear hfz13_9
    try clear hfz8_0
    try clear hfz8_1
    try clear hfz8_10
    try clear hfz8_2
    try clear hfz8_3
    try clear hfz8_4
    try clear hfz8_5
    try clear hfz8_6
    try clear hfz8_7
    try clear hfz8_8
    try clear hfz8_9
    obtain ⟨kq, x19_3, rfl, HA, HJ3, BK114, HB⟩ := hcut
    cases kq with
    | zero => exact absurd HA.out (by simp [interlocklaw22_great.j0])
    | succ kj3 =>
      have H := HA.out
      clear HA
      simp only [interlocklaw22_great.j0] at H
      by_cases c15 : x19_3 = true
      · subst c15
        have H1 : (some true) = some r := by rw [if_pos rfl] at H; exact H
        clear H
        have H := H1
        clear H1
        obtain rfl := Option.some.inj H
        go_wp2
        go_ret
        exact ⟨by first | rfl | (simp [errW_none, errW_some] <;> rfl) | (simp [*, errW_none, errW_some] <;> rfl), by repeat (first | (with_reducible first | exact HB.out | apply below_alloc | apply pw_below_drewN | apply below_drew1 | refine below_set ?_ GE114.out) | exact HB.out)⟩
      · replace c15 := Bool.eq_false_iff.mpr c15
        subst c15
        have H1 : (interlocklaw22_great.l0 kj3 l1 0) = some r := by rw [if_neg (show ¬ (false = true) by decide)] at H; exact H
        clear H
        have H := H1
        clear H1
        have H' := Aside0.mk H
        clear H
        go_wp2
        go_loopg [7] kj3 (fun kq v7 w' => ∃ (x7_2 : Int), v7 = .int .i64 x7_2 ∧ Aside0 (interlocklaw22_great.l0 kq l1 x7_2 = some r) ∧ Aside0 (kq ≤ kj3) ∧ Aside0 (w'.heap[gb114]? = some (.cells #[.int .i64 a0_0, .string a0_1, .string a0_2, .string a0_3, .int .i64 a0_4, .bool a0_5, (.slice A0_6 l0_6.length c0_6), (.slice A0_7 l0_7.length c0_7), (.slice A0_8 l0_8.length c0_8), (.slice A0_9 l0_9.length c0_9), (.slice A0_10 l0_10.length c0_10)] 28 (0, 0))) ∧ Aside0 (Below w.heap.size w w'))
        case atStart => exact ⟨(0), (by first | rfl | (simp; done) | (simp [*]; done)), H', ⟨Nat.le_refl _⟩, ⟨by (with_reducible repeat (first | refine blk_drewN ?_ _ | refine blk_drew ?_ | refine blk_alloc ?_ _)); exact BK114.out⟩, ⟨by repeat (first | (with_reducible first | exact HB.out | apply below_alloc | apply pw_below_drewN | apply below_drew1 | refine below_set ?_ GE114.out) | exact HB.out)⟩⟩
        case round =>
          clear H'
          try clear c1
          try clear c2
          try clear p2
          try clear c7
          try clear c8
          try clear c10
          try clear c10b0
          try clear c10b1
          try clear c12
          try clear c15
          try clear hcz11_0
          try clear hcz11_1
          try clear hcz11_10
          try clear hcz11_2
          try clear hcz11_3
          try clear hcz11_4
          try clear hcz11_5
          try clear hcz11_6
          try clear hcz11_7
          try clear hcz11_8
          try clear hcz11_9
          try clear hcz13_0
          try clear hcz13_1
          try clear hcz13_10
          try clear hcz13_2
          try clear hcz13_3
          try clear hcz13_4
          try clear hcz13_5
          try clear hcz13_6
          try clear hcz13_7
          try clear hcz13_8
          try clear hcz13_9
          try clear hcz8_0
          try clear hcz8_1
          try clear hcz8_10
          try clear hcz8_2
          try clear hcz8_3
          try clear hcz8_4
          try clear hcz8_5
          try clear hcz8_6
          try clear hcz8_7
          try clear hcz8_8
          try clear hcz8_9
          try clear hfz11_0
          try clear hfz11_1
          try clear hfz11_10
          try clear hfz11_2
          try clear hfz11_3
          try clear hfz11_4
          try clear hfz11_5
          try clear hfz11_6
          try clear hfz11_7
          try clear hfz11_8
          try clear hfz11_9
          try clear hfz13_0
          try clear hfz13_1
          try clear hfz13_10
          try clear hfz13_2
          try clear hfz13_3
          try clear hfz13_4
          try clear hfz13_5
          try clear hfz13_6
          try clear hfz13_7
          try clear hfz13_8
          try clear hfz13_9
          try clear hfz8_0
          try clear hfz8_1
          try clear hfz8_10
          try clear hfz8_2
          try clear hfz8_3
          try clear hfz8_4
          try clear hfz8_5
          try clear hfz8_6
          try clear hfz8_7
          try clear hfz8_8
          try clear hfz8_9
          try clear p2
          obtain ⟨x7_2, rfl, HA, HK2, BK114, HB⟩ := hrel
          cases gk with
          | zero => exact absurd HA.out (by simp [interlocklaw22_great.l0])
          | succ k2 =>
            have H := HA.out
            clear HA
            simp only [interlocklaw22_great.l0] at H
            by_cases c16 : x7_2 < (l1.length : Int)
            · rw [if_pos c16] at H
              have c16b0 : decide (x7_2 < (l1.length : Int)) = true := decide_eq_true c16
              clear c16
              by_cases c17 : 0 ≤ x7_2
              · rw [if_pos c17] at H
                have c17b0 : decide (0 ≤ x7_2) = true := decide_eq_true c17
                clear c17
                by_cases c18 : (((rd_T60 l1 x7_2).f2).size : Int) > 50
                · rw [if_pos c18] at H
                  have c18b0 : decide (50 < (((rd_T60 l1 x7_2).f2).size : Int)) = true := decide_eq_true c18
                  have c18b1 : decide (50 < ((rd_T60 l1 x7_2).f2).size) = true := decide_eq_true (by omega)
                  clear c18
                  obtain rfl := Option.some.inj H
                  have p116 : 0 ≤ (x7_2 : Int) := of_decide_eq_true (by first | (with_reducible assumption) | assumption)
                  have q116 : x7_2 < (l1.length : Int) := of_decide_eq_true (by first | (with_reducible assumption) | assumption)
                  obtain ⟨ad116, e116, hx116_0, hx116_1, hx116_2⟩ := at_T60 HR1.out x7_2 p116 q116
                  cases e116
                  replace hx116_0 := (HB.out.cell (World.block_lt_of_cell? w _ hx116_0)).trans hx116_0
                  replace hx116_1 := (HB.out.cell (World.block_lt_of_cell? w _ hx116_1)).trans hx116_1
                  replace hx116_2 := (HB.out.cell (World.block_lt_of_cell? w _ hx116_2)).trans hx116_2
                  replace p116 := eq_true p116
                  replace q116 := eq_true q116
                  go_wp2
                  go_ret
                  exact ⟨by first | rfl | (simp [errW_none, errW_some] <;> rfl) | (simp [*, errW_none, errW_some] <;> rfl), by repeat (first | (with_reducible first | exact HB.out | apply below_alloc | apply pw_below_drewN | apply below_drew1 | refine below_set ?_ GE114.out) | exact HB.out)⟩
                · rw [if_neg c18] at H
                  have c18b0 : decide (50 < (((rd_T60 l1 x7_2).f2).size : Int)) = false := decide_eq_false c18
                  have c18b1 : decide (50 < ((rd_T60 l1 x7_2).f2).size) = false := decide_eq_false (by omega)
                  clear c18
                  have H' := Aside0.mk H
                  clear H
                  have p116 : 0 ≤ (x7_2 : Int) := of_decide_eq_true (by first | (with_reducible assumption) | assumption)
                  have q116 : x7_2 < (l1.length : Int) := of_decide_eq_true (by first | (with_reducible assumption) | assumption)
                  obtain ⟨ad116, e116, hx116_0, hx116_1, hx116_2⟩ := at_T60 HR1.out x7_2 p116 q116
                  cases e116
                  replace hx116_0 := (HB.out.cell (World.block_lt_of_cell? w _ hx116_0)).trans hx116_0
                  replace hx116_1 := (HB.out.cell (World.block_lt_of_cell? w _ hx116_1)).trans hx116_1
                  replace hx116_2 := (HB.out.cell (World.block_lt_of_cell? w _ hx116_2)).trans hx116_2
                  replace p116 := eq_true p116
                  replace q116 := eq_true q116
                  go_wp2
                  go_roundg k2
                  case measure => have := HJ3.out; have := HK2.out; omega
                  case rel => exact ⟨(wrap64 (x7_2 + 1)), (by first | rfl | (simp; done) | (simp [*]; done)), H', ⟨by have := HJ3.out; have := HK2.out; omega⟩, ⟨by (with_reducible repeat (first | refine blk_drewN ?_ _ | refine blk_drew ?_ | refine blk_alloc ?_ _)); exact BK114.out⟩, ⟨by repeat (first | (with_reducible first | exact HB.out | apply below_alloc | apply pw_below_drewN | apply below_drew1 | refine below_set ?_ GE114.out) | exact HB.out)⟩⟩
              · rw [if_neg c17] at H
                exact absurd H (by simp)
            · rw [if_neg c16] at H
              have c16b0 : decide (x7_2 < (l1.length : Int)) = false := decide_eq_false c16
              clear c16
              obtain rfl := Option.some.inj H
              go_wp2
              go_ret
              exact ⟨by first | rfl | (simp [errW_none, errW_some] <;> rfl) | (simp [*, errW_none, errW_some] <;> rfl), by repeat (first | (with_reducible first | exact HB.out | apply below_alloc | apply pw_below_drewN | apply below_drew1 | refine below_set ?_ GE114.out) | exact HB.out)⟩
end Go.Proofs.Ytnojcnmnkkgkgaa.Q
end
section
namespace Go.Proofs.Ytnojcnmnkkgkgaa.Q
open Go.RowKit Go.Proofs.YtnojcnmnkkgkgaaW.PrintWords Go.Proofs.YtnojcnmnkkgkgaaW.PrintLast Go.Proofs.YtnojcnmnkkgkgaaW.PrintMore
attribute [local go_sem] max2_int min2_int max_two min_two max_three min_three max_four min_four
set_option linter.unusedVariables false
set_option linter.unusedSimpArgs false
def interlockref00_CopyInts.f (l0 : List Int) : Option (List Int) := (some (([] : List Int) : List Int)).bind fun y117 => (if y117.length + l0.length < 17592186044416 then (some (y117 ++ l0)) else (none))
set_option maxHeartbeats 8000000 in
set_option maxRecDepth 100000 in
theorem interlockref00_CopyInts.calls (A0 : Option Addr) (c0 : Nat) (l0 : List Int) (r : List Int) (w : World) (hr0 : Kd.C (Kd.int .i64) w A0 l0.length l0) (hc0 : l0.length ≤ c0) (h : interlockref00_CopyInts.f l0 = some r) :
    Calls Try.prog 13 #[.slice A0 l0.length c0] w fun e w' => ∃ v0_ : Value, e = .returned (v0_) ∧ Kd.R (Kd.int .i64) 3 w' w.heap.size (fun _ => True) v0_ r ∧ Below w.heap.size w w' := by
  have HR0 := Aside0.mk hr0
  have HC0 := Aside0.mk hc0
  clear hr0 hc0
  have HB := Aside0.mk (Below.refl w.heap.size w)
  have H : ((some (([] : List Int) : List Int)).bind fun y117 => (if y117.length + l0.length < 17592186044416 then (some (y117 ++ l0)) else (none))) = some r := h
  clear h
  obtain ⟨y117, hy117⟩ : ∃ y_ : List Int, y_ = (([] : List Int)) := ⟨_, rfl⟩
  replace H : (if y117.length + l0.length < 17592186044416 then (some (y117 ++ l0)) else (none)) = some r := by first | (rw [hy117]; with_reducible exact H) | (have H2_ := (Option.bind_some _ _).symm.trans H; rw [hy117]; with_reducible exact H2_) | (have H2_ := (Option.bind_some _ _).symm.trans H; with_reducible exact H2_) | with_reducible exact H | (rw [hy117]; exact H) | exact H
  have Ny117 := Aside0.mk hy117
  clear hy117
  by_cases c2 : y117.length + l0.length < 17592186044416
  · rw [if_pos c2] at H
    have LMc2 := Aside0.mk c2
    clear c2
    obtain ⟨y120, hy120⟩ : ∃ y_ : List Int, y_ = (y117 ++ l0) := ⟨_, rfl⟩
    replace H : (some y120) = some r := by first | (rw [hy120]; with_reducible exact H) | (have H2_ := (Option.bind_some _ _).symm.trans H; rw [hy120]; with_reducible exact H2_) | (have H2_ := (Option.bind_some _ _).symm.trans H; with_reducible exact H2_) | with_reducible exact H | (rw [hy120]; exact H) | exact H
    have Ny120 := Aside0.mk hy120
    clear hy120
    obtain rfl := Option.some.inj H
    go_enter Try.func13, Try.ntmps13
    go_wp2_with (first | ((with_reducible refine gate_dst (N := 4) rfl ?_); refine Kd.R_lit (Kd.int .i64) _ 3 ?hg (N := 4) ?hd (xs := ([] : List Int)) (inner := []) (ok := fun _ => True) (okp := fun _ => True) ?hr ?hp (fun _ hk => hk) trivial (Below.refl _ _) (Nat.le_refl _) (by simp) ?_; (case hd => rfl); (case hg => rfl); (case hr => first | (go_simp; done) | (go_simp; rfl)); (case hp => exact (Reps.none _ _)); intro v118 w3 ho4 hb hg_ hnew_; clear hg_ hnew_; (first | rw [← Ny117.out] at ho4 | (simp only [Int.reduceToNat] at ho4; rw [← Ny117.out] at ho4)); have n0_ := Aside0.mk (Kd.R_lower ho4 (below_size (by repeat (first | (with_reducible first | exact HB.out | apply below_alloc | apply pw_below_drewN | apply below_drew1) | exact HB.out)))); have n1_ := Aside0.mk (below_step (by repeat (first | (with_reducible first | exact HB.out | apply below_alloc | apply pw_below_drewN | apply below_drew1) | exact HB.out)) hb); clear HB; have HO119 := n0_; have HB := n1_; clear n0_ n1_; clear hb ho4) | ((with_reducible refine gate_builtin (b := .append) (xs := #[.tmp 5, .tmp 6]) rfl ?_); at_builtin; refine Kd.R_append_rows (Kd.int .i64) (w0 := w) w.heap.size rfl (.tmp 5) (.tmp 6) 31 3 (.int .i64 0) 8 rfl Try.underlying31 info3 rfl (by decide) (by omega) v118 y117 l0 _ _ _ (fun _ => True) (fun _ => False) rfl rfl ?aO ?aR (fun _ _ h => h) (fun _ h => h.elim) ?aF ?aB ?aS ?aL ?_; (case aR => repeat (first | exact (Kd.C_below HR0.out HB.out) | (with_reducible refine Kd.C_alloc ?_ _) | (with_reducible refine Kd.C_drewN ?_ _) | (with_reducible refine Kd.C_drew ?_))); (case aB => exact (by repeat (first | (with_reducible first | exact HB.out | apply below_alloc | apply pw_below_drewN | apply below_drew1) | exact HB.out))); (case aF => exact (fun _ _ => trivial)); (case aO => exact (by (with_reducible repeat (first | apply Kd.R_alloc | apply Kd.R_drewN | apply Kd.R_drew)); exact HO119.out)); (case aS => exact (below_size (by repeat (first | (with_reducible first | exact HB.out | apply below_alloc | apply pw_below_drewN | apply below_drew1) | exact HB.out)))); (case aL => have := LMc2.out; omega); intro v121 w5 ho hb hg hat; rw [← Ny120.out] at ho; have n0_ := Aside0.mk (hb); have n1_ := Aside0.mk (ho); clear HB; clear HO119; have HB := n0_; have HO122 := n1_; clear n0_ n1_; clear ho hb hg hat))
    go_ret
    exact ⟨_, by first | rfl | (simp [errW_none, errW_some] <;> rfl) | (simp [*, errW_none, errW_some] <;> rfl), by (with_reducible repeat (first | apply Kd.R_alloc | apply Kd.R_drewN | apply Kd.R_drew)); exact HO122.out, by repeat (first | (with_reducible first | exact HB.out | apply below_alloc | apply pw_below_drewN | apply below_drew1) | exact HB.out)⟩
  · rw [if_neg c2] at H
    exact absurd H (by simp)
end Go.Proofs.Ytnojcnmnkkgkgaa.Q
end
section
namespace Go.Proofs.Kb
open Go Go.RowKit Go.Proofs.Ytnojcnmnkkgkgaa.Q Go.Proofs.YtnojcnmnkkgkgaaW.PrintWords Go.Proofs.YtnojcnmnkkgkgaaW.PrintLast Go.Proofs.YtnojcnmnkkgkgaaW.PrintMore
set_option linter.unusedVariables false
set_option linter.unusedSimpArgs false
set_option maxRecDepth 100000
theorem Reps.all {α : Type} {E : EncT α} {R : α → List Value → Prop} (hR : ∀ p c, R p c → c = E.enc p) : ∀ (ps : List α) (cs : List Value), Reps R E.sz ps cs → cs = E.all ps
  | [], cs, h => List.eq_nil_of_length_eq_zero (by have := h.1; simpa using this)
  | x :: l, cs, ⟨hl, h⟩ => by
    have h0 := hR _ _ (h 0 x rfl)
    rw [Nat.zero_mul, List.drop_zero] at h0
    have ih := Reps.all hR l (cs.drop E.sz) ⟨by rw [List.length_drop, hl, List.length_cons, Nat.add_mul]; omega, fun j p hj => by
      have h1 := h (j + 1) p hj
      rwa [show (j + 1) * E.sz = E.sz + j * E.sz by rw [Nat.add_mul]; omega, ← List.drop_drop] at h1⟩
    rw [E.all_cons, ← h0, ← ih, List.take_append_drop]
theorem RowX.of_R {α : Type} {E : EncT α} {d : Kd α} (hsz : d.sz = E.sz) (hM : ∀ {w base ok x cs}, d.M w base ok x cs → cs = E.enc x) {w : World} {base : Nat} {ok : Nat → Prop} {v : Value} {l : List α} (h : d.R E.ty w base ok v l) : RowX E w v l ∧ ∀ b ∈ bl v, base ≤ b := by
  obtain ⟨_, inner, ho, hr⟩ := h
  rw [hsz] at ho hr
  have hi := Reps.all (fun p c hp => hM hp) l inner hr
  subst hi
  refine ⟨⟨E.all_len l, E.all_one l, ?_⟩, ?_⟩
  · rcases ho.2 with h | ⟨g, cap, cur, h1, h2, h3, h4, h5, h6, h7⟩
    · exact .inl h
    · exact .inr ⟨g, cap, cur, h1, h3, h4, h5, Nat.le_of_eq h6.symm, h7⟩
  · intro b hb
    rcases ho.2 with h | ⟨g, cap, cur, h1, h2, _⟩
    · rw [h.1] at hb
      simp [bl, Value.ownBlock] at hb
    · rw [h1, bl_slice] at hb
      simp at hb
      omega
theorem copyInts_calls (w : World) (A : Option Addr) (c : Nat) (l : List Int) (hC : Kd.C (Kd.int .i64) w A l.length l) (hc : l.length ≤ c) (hl : l.length ≤ 1000) :
    Calls Try.prog 13 #[.slice A l.length c] w fun E w' => ∃ v, E = .returned v ∧ RowX intE w' v l ∧ Below w.heap.size w w' ∧ ∀ b ∈ bl v, w.heap.size ≤ b :=
  (interlockref00_CopyInts.calls A c l l w hC hc (by
    unfold interlockref00_CopyInts.f
    simp only [Option.bind_some, List.length_nil, List.nil_append]
    rw [if_pos (by omega)])).mono fun E w' ⟨v, e, hr, hb⟩ =>
      let ⟨h1, h2⟩ := RowX.of_R (E := intE) rfl (fun h => h) hr
      ⟨v, e, h1, hb, h2⟩
section
variable (x : SV) (l6 : List S60) (l7 : List S62) (l8 : List S64) (l9 : List S66) (l10 : List ByteArray) (af : List S60) (an : List Int)
theorem great0 (haf : af.length ≤ 10) : ∀ (m : Nat) (i : Int), 0 ≤ i → i + m = af.length → ∃ k r, interlocklaw22_great.l0 k af i = some r
  | 0, i, h0, hm => ⟨1, false, by unfold interlocklaw22_great.l0; rw [if_neg (by omega)]⟩
  | m + 1, i, h0, hm => by
    by_cases q : (((rd_T60 af i).f2).size : Int) > 50
    · exact ⟨1, true, by unfold interlocklaw22_great.l0; rw [if_pos (by omega), if_pos h0, if_pos q]⟩
    · obtain ⟨k, r, hk⟩ := great0 haf m (i + 1) (by omega) (by omega)
      exact ⟨k + 1, r, by unfold interlocklaw22_great.l0; rw [if_pos (by omega), if_pos h0, if_neg q, IntWalk.wrap64_in _ (by omega)]; exact hk⟩
theorem great_some : ∃ k r, interlocklaw22_great.f k x.f0 x.f1 x.f2 x.f3 x.f4 x.f5 l6 l7 l8 l9 l10 af an = some r ∧ (r = false → Small x.f1 x.f2 x.f3 l6 l7 l8 l9 l10 ∧ af.length ≤ 10 ∧ an.length ≤ 200) := by
  obtain ⟨k1, r1, h1, hs⟩ := gstmt_some x.f0 x.f1 x.f2 x.f3 x.f4 x.f5 l6 l7 l8 l9 l10
  have hj : ∀ b, (b = false → af.length ≤ 10) → ∃ k r, interlocklaw22_great.j0 k af b = some r ∧ (r = false → b = false) := fun b hb => by
    cases b with
    | true => exact ⟨1, true, rfl, fun h => h⟩
    | false =>
      obtain ⟨k, r, hk⟩ := great0 af (hb rfl) af.length 0 (Int.le_refl _) (by omega)
      exact ⟨k + 1, r, hk, fun _ => rfl⟩
  have put : ∀ (b : Bool) (k2 : Nat) (r : Bool), interlocklaw22_great.j0 k2 af b = some r → ((if r1 = true then (fun k => interlocklaw22_great.j0 k af true) else (if (af.length : Int) > 10 then (fun k => interlocklaw22_great.j0 k af true) else (fun k => interlocklaw22_great.j0 k af (decide ((an.length : Int) > 200))))) = fun k => interlocklaw22_great.j0 k af b) → ∃ k, interlocklaw22_great.f k x.f0 x.f1 x.f2 x.f3 x.f4 x.f5 l6 l7 l8 l9 l10 af an = some r := fun b k2 r h2 e => by
    refine ⟨k1 + k2, ?_⟩
    unfold interlocklaw22_great.f
    rw [at_rounds (g := fun k => interlocklaw15_GreatStmt.f k x.f0 x.f1 x.f2 x.f3 x.f4 x.f5 l6 l7 l8 l9 l10) (fun k => interlocklaw15_GreatStmt.mono _ _ _ _ _ _ _ _ _ _ _ k) (Nat.le_add_right k1 k2) h1]
    simp only [Option.bind_some]
    have h3 := at_rounds (g := fun k => interlocklaw22_great.j0 k af b) (fun k => (interlocklaw22_great.mono_l k).1 _ _) (Nat.le_add_left k2 k1) h2
    have e2 := congrFun e (k1 + k2)
    rw [← h3, ← e2]
    split
    · rfl
    · split <;> rfl
  by_cases c1 : r1 = true
  · obtain ⟨k2, r, h2, hr⟩ := hj true (fun h => by cases h)
    obtain ⟨k, hk⟩ := put true k2 r h2 (by rw [if_pos c1])
    exact ⟨k, r, hk, fun h => by cases hr h⟩
  · by_cases c2 : (af.length : Int) > 10
    · obtain ⟨k2, r, h2, hr⟩ := hj true (fun h => by cases h)
      obtain ⟨k, hk⟩ := put true k2 r h2 (by rw [if_neg c1, if_pos c2])
      exact ⟨k, r, hk, fun h => by cases hr h⟩
    · obtain ⟨k2, r, h2, hr⟩ := hj (decide ((an.length : Int) > 200)) (fun _ => by omega)
      obtain ⟨k, hk⟩ := put _ k2 r h2 (by rw [if_neg c1, if_neg c2])
      exact ⟨k, r, hk, fun h => ⟨hs (by simpa using c1), by omega, by have := of_decide_eq_false (hr h); omega⟩⟩
end
theorem great_calls {w : World} {x : SV} {l6 : List S60} {l7 : List S62} {l8 : List S64} {l9 : List S66} {l10 : List ByteArray} {af : List S60} {an : List Int} (b : Bool) (hb : ∃ k, interlocklaw22_great.f k x.f0 x.f1 x.f2 x.f3 x.f4 x.f5 l6 l7 l8 l9 l10 af an = some b) (h : CK w x l6 l7 l8 l9 l10)
    (A1 : Option Addr) (c1 : Nat) (h1 : Kd.C k60 w A1 af.length af) (hc1 : af.length ≤ c1) (A2 : Option Addr) (c2 : Nat) (h2 : Kd.C (Kd.int .i64) w A2 an.length an) (hc2 : an.length ≤ c2) :
    Calls Try.prog 12 #[.agg #[.int .i64 x.f0, .string x.f1, .string x.f2, .string x.f3, .int .i64 x.f4, .bool x.f5, .slice x.f6.A x.f6.n x.f6.c, .slice x.f7.A x.f7.n x.f7.c, .slice x.f8.A x.f8.n x.f8.c, .slice x.f9.A x.f9.n x.f9.c, .slice x.f10.A x.f10.n x.f10.c], .slice A1 af.length c1, .slice A2 an.length c2] w fun E w' => E = .returned (.bool b) ∧ Below w.heap.size w w' := by
  obtain ⟨k, hk⟩ := hb
  have h1 := interlocklaw22_great.calls k x.f0 x.f1 x.f2 x.f3 x.f4 x.f5 x.f6.A x.f6.c l6 x.f7.A x.f7.c l7 x.f8.A x.f8.c l8 x.f9.A x.f9.c l9 x.f10.A x.f10.c l10 A1 c1 af A2 c2 an b w h.n6.2.2 h.n6.2.1 h.n7.2.2 h.n7.2.1 h.n8.2.2 h.n8.2.1 h.n9.2.2 h.n9.2.1 h.n10.2.2 h.n10.2.1 h1 hc1 h2 hc2 hk
  rw [h.n6.1, h.n7.1, h.n8.1, h.n9.1, h.n10.1]
  exact h1
end Go.Proofs.Kb
end
section
namespace Go.Proofs.Kb
open Go Go.RowKit Go.Proofs.Ytnojcnmnkkgkgaa.Q Go.Proofs.YtnojcnmnkkgkgaaW.PrintWords Go.Proofs.YtnojcnmnkkgkgaaW.PrintLast Go.Proofs.YtnojcnmnkkgkgaaW.PrintMore
set_option linter.unusedVariables false
set_option linter.unusedSimpArgs false
set_option maxRecDepth 100000
section
variable {s : JS} {x : SV}
theorem with_ph (ws : List S97) (f : JS → JS) : (s.with_ ws f).ph = if (bits .and .i64 (s.ans.headD 0) 1 == 1) = true then (f (s.tried ws)).ph else s.ph := by
  unfold JS.with_
  split <;> rfl
theorem step_ph (h : 1 ≤ s.ph ∧ s.ph ≤ 6) : s.ph ≤ (s.step x).ph ∧ (s.step x).ph ≤ 6 := by
  unfold JS.step
  split
  · next h1 =>
    have hw := with_ph (s := s) (planW x.f1 4) (fun s => s.register x)
    split
    · next hb =>
      rw [hw, if_pos hb]
      show s.ph ≤ (if _ then (2 : Int) else 6) ∧ (if _ then (2 : Int) else 6) ≤ 6
      by_cases e0 : errN ((s.tried (planW x.f1 4)).ans.headD 0) = 0
      · rw [if_pos e0]; omega
      · rw [if_neg e0]; omega
    · next hb =>
      rw [if_neg hb] at hw
      obtain ⟨_, _, _, _, _, h2⟩ := failed_r (s := s.with_ (planW x.f1 4) (fun s => s.register x)) 6
      rcases h2 with h2 | h2 <;> omega
  split
  · next h1 h2 =>
    split
    · exact ⟨Int.le_refl _, by show s.ph ≤ 6; omega⟩
    · exact ⟨by show s.ph ≤ 3; omega, by show (3 : Int) ≤ 6; decide⟩
  split
  · next h1 h2 h3 =>
    split
    · unfold JS.fill
      split
      · exact ⟨by show s.ph ≤ 4; omega, by show (4 : Int) ≤ 6; decide⟩
      · exact ⟨Int.le_refl _, by show s.ph ≤ 6; omega⟩
    · exact ⟨Int.le_refl _, by show s.ph ≤ 6; omega⟩
  split
  · next h1 h2 h3 h4 =>
    have hw := with_ph (s := s) (planW x.f1 3) (fun s => s.settle x)
    split
    · next hb =>
      rw [hw, if_pos hb]
      show s.ph ≤ (if _ then (6 : Int) else 5) ∧ (if _ then (6 : Int) else 5) ≤ 6
      by_cases e0 : errN ((s.tried (planW x.f1 3)).ans.headD 0) = 0
      · rw [if_pos e0]; omega
      · rw [if_neg e0]; omega
    · next hb =>
      rw [if_neg hb] at hw
      obtain ⟨_, _, _, _, _, h2⟩ := failed_r (s := s.with_ (planW x.f1 3) (fun s => s.settle x)) 5
      rcases h2 with h2 | h2 <;> omega
  split
  · next h1 h2 h3 h4 h5 =>
    rw [with_ph]
    split
    · obtain ⟨_, _, _, _, _, _, h2⟩ := abandon_said (s := s.tried ((planW x.f1 3).take 2)) (x := x)
      have e : (s.tried ((planW x.f1 3).take 2)).ph = s.ph := rfl
      rcases h2 with h2 | h2 <;> (show s.ph ≤ ((s.tried ((planW x.f1 3).take 2)).abandon x).ph ∧ ((s.tried ((planW x.f1 3).take 2)).abandon x).ph ≤ 6) <;> omega
    · omega
  · omega
end
theorem nd_ab (v : Value) : ND (ab v) := by
  unfold ab
  split
  · exact nd_one _
  · exact fun a => by simp
end Go.Proofs.Kb
end
section
namespace Go.Proofs.Kb
open Go Go.RowKit Go.Proofs.Ytnojcnmnkkgkgaa.Q Go.Proofs.YtnojcnmnkkgkgaaW.PrintWords Go.Proofs.YtnojcnmnkkgkgaaW.PrintLast Go.Proofs.YtnojcnmnkkgkgaaW.PrintMore
set_option linter.unusedVariables false
set_option linter.unusedSimpArgs false
set_option maxRecDepth 100000
theorem St.join {w0 w w' : World} {F : Nat → Prop} {A B : List Chunk} (s : St w0 F w A) (k : St w NoF w' B) : St w0 F w' (B ++ A) :=
  St.call (A := []) s ((show NoF = (fun b => b ∈ fpc []) by funext b; simp [NoF, fpc]) ▸ k)
end Go.Proofs.Kb
end
section
namespace Go.Proofs.Ytnojcnmnkkgkgaa.Q
open Go.RowKit Go.Proofs.YtnojcnmnkkgkgaaW.PrintWords Go.Proofs.YtnojcnmnkkgkgaaW.PrintLast Go.Proofs.YtnojcnmnkkgkgaaW.PrintMore
attribute [local go_sem] max2_int min2_int max_two min_two max_three min_three max_four min_four
set_option linter.unusedVariables false
set_option linter.unusedSimpArgs false
def interlockref18_want.f (a0 : Int) (a1 : ByteArray) (a2 : ByteArray) (a3 : Int) : Option (Int × ByteArray × ByteArray × Int) := some (a0, a1, a2, a3)
set_option maxHeartbeats 8000000 in
set_option maxRecDepth 100000 in
theorem interlockref18_want.calls (a0 : Int) (a1 : ByteArray) (a2 : ByteArray) (a3 : Int) (r1 : Int) (r2 : ByteArray) (r3 : ByteArray) (r4 : Int) (w : World) (h : interlockref18_want.f a0 a1 a2 a3 = some (r1, r2, r3, r4)) :
    Calls Try.prog 56 #[.int .i64 a0, .string a1, .string a2, .int .i64 a3] w fun e w' => e = .returned (.agg #[.int .i64 r1, .string r2, .string r3, .int .i64 r4]) ∧ Below w.heap.size w w' := by
  have hu97 := Try.underlying97
  have hu95 := Try.underlying95
  have HB := Aside0.mk (Below.refl w.heap.size w)
  have H : (some (a0, a1, a2, a3)) = some (r1, r2, r3, r4) := h
  clear h
  simp only [Option.some.injEq, Prod.mk.injEq] at H
  obtain ⟨rfl, rfl, rfl, rfl⟩ := H
  go_enter Try.func56, Try.ntmps56
  go_wp2_with (first | ((with_reducible refine gate_dst (N := 8) rfl ?_); refine box_event ?hg (N := 8) ?hd (cs := #[.int .i64 0, .string (⟨#[]⟩ : ByteArray), .string (⟨#[]⟩ : ByteArray), .int .i64 0]) (t := 97) ?hr ?_; (case hd => rfl); (case hg => rfl); (case hr => first | (go_simp; done) | (go_simp; rfl)); intro gb167 hg w5 hbox hb; have n0_ := Aside0.mk (below_step (by repeat (first | (with_reducible first | exact HB.out | apply below_alloc | apply pw_below_drewN | apply below_drew1) | exact HB.out)) hb); have n1_ := Aside0.mk (hbox); have n2_ := Aside0.mk ((by rw [hg]; exact (below_size (by repeat (first | (with_reducible first | exact HB.out | apply below_alloc | apply pw_below_drewN | apply below_drew1) | exact HB.out))) : w.heap.size ≤ gb167)); have n3_ := Aside0.mk ((by rw [hg]; exact (below_size (by repeat (first | (with_reducible first | exact HB.out | apply below_alloc | apply pw_below_drewN | apply below_drew1) | exact HB.out))) : w.heap.size ≤ gb167)); clear HB; have HB := n0_; have BK167 := n1_; have GW167 := n2_; have GE167 := n3_; clear n0_ n1_ n2_ n3_; clear hb hbox hg; have hcz6_0 : w5.cell? ⟨gb167, 0, none⟩ = some (.int .i64 0) := (blk_cell BK167.out 0).trans rfl; have hcz6_1 : w5.cell? ⟨gb167, 1, none⟩ = some (.string (⟨#[]⟩ : ByteArray)) := (blk_cell BK167.out 1).trans rfl; have hcz6_2 : w5.cell? ⟨gb167, 2, none⟩ = some (.string (⟨#[]⟩ : ByteArray)) := (blk_cell BK167.out 2).trans rfl; have hcz6_3 : w5.cell? ⟨gb167, 3, none⟩ = some (.int .i64 0) := (blk_cell BK167.out 3).trans rfl; have hfz6_0 := blk_frozen BK167.out 0; have hfz6_1 := blk_frozen BK167.out 1; have hfz6_2 := blk_frozen BK167.out 2; have hfz6_3 := blk_frozen BK167.out 3))
  refine bodyPost_ret (results_cell_row rfl _ _ gb167 97 #[.int .i64 a0, .string a1, .string a2, .int .i64 a3] (0, 0) _ rfl (by (with_reducible repeat (first | refine blk_drewN ?_ _ | refine blk_drew ?_ | refine blk_alloc ?_ _)); refine blk_put (cs := #[.int .i64 a0, .string a1, .string a2, .int .i64 0]) ?_ 3 _ rfl; (with_reducible repeat (first | refine blk_drewN ?_ _ | refine blk_drew ?_ | refine blk_alloc ?_ _)); refine blk_put (cs := #[.int .i64 a0, .string a1, .string (⟨#[]⟩ : ByteArray), .int .i64 0]) ?_ 2 _ rfl; (with_reducible repeat (first | refine blk_drewN ?_ _ | refine blk_drew ?_ | refine blk_alloc ?_ _)); refine blk_put (cs := #[.int .i64 a0, .string (⟨#[]⟩ : ByteArray), .string (⟨#[]⟩ : ByteArray), .int .i64 0]) ?_ 1 _ rfl; (with_reducible repeat (first | refine blk_drewN ?_ _ | refine blk_drew ?_ | refine blk_alloc ?_ _)); refine blk_put (cs := #[.int .i64 0, .string (⟨#[]⟩ : ByteArray), .string (⟨#[]⟩ : ByteArray), .int .i64 0]) ?_ 0 _ rfl; (with_reducible repeat (first | refine blk_drewN ?_ _ | refine blk_drew ?_ | refine blk_alloc ?_ _)); exact BK167.out) Try.underlying97 rfl (by kernel_rfl)) rfl ?_
  exact ⟨by first | rfl | (simp [errW_none, errW_some] <;> rfl) | (simp [*, errW_none, errW_some] <;> rfl), by repeat (first | (with_reducible first | exact HB.out | apply below_alloc | apply pw_below_drewN | apply below_drew1 | refine below_set ?_ GE167.out) | exact HB.out)⟩
end Go.Proofs.Ytnojcnmnkkgkgaa.Q
end
section
namespace Go.Proofs.Ytnojcnmnkkgkgaa.Q
open Go.RowKit Go.Proofs.YtnojcnmnkkgkgaaW.PrintWords Go.Proofs.YtnojcnmnkkgkgaaW.PrintLast Go.Proofs.YtnojcnmnkkgkgaaW.PrintMore
attribute [local go_sem] max2_int min2_int max_two min_two max_three min_three max_four min_four
set_option linter.unusedVariables false
set_option linter.unusedSimpArgs false
def interlockref18_base.f (a0 : Int) (a1 : Int) : Option ((List (S97))) := (interlockref18_want.f 1 (⟨#[]⟩ : ByteArray) (⟨#[]⟩ : ByteArray) a0).bind fun bt168 => ((interlockref18_want.f 2 (⟨#[]⟩ : ByteArray) (⟨#[]⟩ : ByteArray) a1).bind fun bt172 => (some (([(⟨(⟨bt168.1, bt168.2.1, bt168.2.2.1⟩ : S95), bt168.2.2.2⟩ : S97), (⟨(⟨bt172.1, bt172.2.1, bt172.2.2.1⟩ : S95), bt172.2.2.2⟩ : S97)] : List (S97)))))
set_option maxHeartbeats 8000000 in
set_option maxRecDepth 100000 in
theorem interlockref18_base.calls (a0 : Int) (a1 : Int) (r : List (S97)) (w : World) (h : interlockref18_base.f a0 a1 = some r) :
    Calls Try.prog 55 #[.int .i64 a0, .int .i64 a1] w fun e w' => ∃ v0_ : Value, e = .returned (v0_) ∧ Kd.R k97 97 w' w.heap.size (fun _ => True) v0_ r ∧ Below w.heap.size w w' := by
  have HB := Aside0.mk (Below.refl w.heap.size w)
  have H : ((interlockref18_want.f 1 (⟨#[]⟩ : ByteArray) (⟨#[]⟩ : ByteArray) a0).bind fun bt168 => ((interlockref18_want.f 2 (⟨#[]⟩ : ByteArray) (⟨#[]⟩ : ByteArray) a1).bind fun bt172 => (some (([(⟨(⟨bt168.1, bt168.2.1, bt168.2.2.1⟩ : S95), bt168.2.2.2⟩ : S97), (⟨(⟨bt172.1, bt172.2.1, bt172.2.2.1⟩ : S95), bt172.2.2.2⟩ : S97)] : List (S97)))))) = some r := h
  clear h
  replace H := Option.bind_eq_some_iff.mp H
  obtain ⟨⟨t168, t169, t170, t171⟩, A30, H⟩ := H
  replace H : ((interlockref18_want.f 2 (⟨#[]⟩ : ByteArray) (⟨#[]⟩ : ByteArray) a1).bind fun bt172 => (some (([(⟨(⟨t168, t169, t170⟩ : S95), t171⟩ : S97), (⟨(⟨bt172.1, bt172.2.1, bt172.2.2.1⟩ : S95), bt172.2.2.2⟩ : S97)] : List (S97))))) = some r := H
  have A3 := Aside0.mk A30
  clear A30
  replace H := Option.bind_eq_some_iff.mp H
  obtain ⟨⟨t172, t173, t174, t175⟩, A40, H⟩ := H
  replace H : (some (([(⟨(⟨t168, t169, t170⟩ : S95), t171⟩ : S97), (⟨(⟨t172, t173, t174⟩ : S95), t175⟩ : S97)] : List (S97)))) = some r := H
  have A4 := Aside0.mk A40
  clear A40
  obtain ⟨y176, hy176⟩ : ∃ y_ : List (S97), y_ = (([(⟨(⟨t168, t169, t170⟩ : S95), t171⟩ : S97), (⟨(⟨t172, t173, t174⟩ : S95), t175⟩ : S97)] : List (S97))) := ⟨_, rfl⟩
  replace H : (some y176) = some r := by first | (rw [hy176]; with_reducible exact H) | (have H2_ := (Option.bind_some _ _).symm.trans H; rw [hy176]; with_reducible exact H2_) | (have H2_ := (Option.bind_some _ _).symm.trans H; with_reducible exact H2_) | with_reducible exact H | (rw [hy176]; exact H) | exact H
  have Ny176 := Aside0.mk hy176
  clear hy176
  obtain rfl := Option.some.inj H
  go_enter Try.func55, Try.ntmps55
  go_wp2_with (first | ((with_reducible refine gate_callee (f := 56) rfl ?_); refine goesL_ (some 6) rfl rfl Try.func56 (by kernel_rfl) rfl #[.int .i64 1, .string (⟨#[]⟩ : ByteArray), .string (⟨#[]⟩ : ByteArray), .int .i64 a0] rfl (by (try simp only [List.map_toArray, List.map_cons, List.map_nil]); first | done | rfl | (simp only [List.length_drop, List.length_take]; rfl)) ?_; (with_reducible refine (interlockref18_want.calls 1 (⟨#[]⟩ : ByteArray) (⟨#[]⟩ : ByteArray) a0 t168 t169 t170 t171 _ A3.out).mono ?_); rintro e w5 ⟨rfl, hb⟩; refine ⟨_, rfl, ?_⟩; have n0_ := Aside0.mk (below_step (by repeat (first | (with_reducible first | exact HB.out | apply below_alloc | apply pw_below_drewN | apply below_drew1) | exact HB.out)) hb); clear HB; have HB := n0_; clear n0_; (try clear hb); (try clear hb2); (try clear hk); (try clear hi)) | ((with_reducible refine gate_callee (f := 56) rfl ?_); refine goesL_ (some 8) rfl rfl Try.func56 (by kernel_rfl) rfl #[.int .i64 2, .string (⟨#[]⟩ : ByteArray), .string (⟨#[]⟩ : ByteArray), .int .i64 a1] rfl (by (try simp only [List.map_toArray, List.map_cons, List.map_nil]); first | done | rfl | (simp only [List.length_drop, List.length_take]; rfl)) ?_; (with_reducible refine (interlockref18_want.calls 2 (⟨#[]⟩ : ByteArray) (⟨#[]⟩ : ByteArray) a1 t172 t173 t174 t175 _ A4.out).mono ?_); rintro e w6 ⟨rfl, hb⟩; refine ⟨_, rfl, ?_⟩; have n0_ := Aside0.mk (below_step (by repeat (first | (with_reducible first | exact HB.out | apply below_alloc | apply pw_below_drewN | apply below_drew1) | exact HB.out)) hb); clear HB; have HB := n0_; clear n0_; (try clear hb); (try clear hb2); (try clear hk); (try clear hi)) | ((with_reducible refine gate_dst (N := 9) rfl ?_); refine Kd.R_lit k97 _ 97 ?hg (N := 9) ?hd (xs := ([(⟨(⟨t168, t169, t170⟩ : S95), t171⟩ : S97), (⟨(⟨t172, t173, t174⟩ : S95), t175⟩ : S97)] : List (S97))) (inner := [.int .i64 t168, .string t169, .string t170, .int .i64 t171, .int .i64 t172, .string t173, .string t174, .int .i64 t175]) (ok := fun _ => True) (okp := fun _ => True) ?hr ?hp (fun _ hk => hk) trivial (Below.refl _ _) (Nat.le_refl _) (by simp) ?_; (case hd => rfl); (case hg => rfl); (case hr => first | (go_simp; done) | (go_simp; rfl)); (case hp => exact (Reps.c4 (show Kd.M k97 _ _ _ (⟨(⟨t168, t169, t170⟩ : S95), t171⟩ : S97) [.int .i64 t168, .string t169, .string t170, .int .i64 t171] from (k97_mkM _ _ _ (⟨(⟨t168, t169, t170⟩ : S95), t171⟩ : S97) )) (Reps.c4 (show Kd.M k97 _ _ _ (⟨(⟨t172, t173, t174⟩ : S95), t175⟩ : S97) [.int .i64 t172, .string t173, .string t174, .int .i64 t175] from (k97_mkM _ _ _ (⟨(⟨t172, t173, t174⟩ : S95), t175⟩ : S97) )) (Reps.none _ _)))); intro v177 w7 ho8 hb hg_ hnew_; clear hg_ hnew_; (first | rw [← Ny176.out] at ho8 | (simp only [Int.reduceToNat] at ho8; rw [← Ny176.out] at ho8)); have n0_ := Aside0.mk (Kd.R_lower ho8 (below_size (by repeat (first | (with_reducible first | exact HB.out | apply below_alloc | apply pw_below_drewN | apply below_drew1) | exact HB.out)))); have n1_ := Aside0.mk (below_step (by repeat (first | (with_reducible first | exact HB.out | apply below_alloc | apply pw_below_drewN | apply below_drew1) | exact HB.out)) hb); clear HB; have HO178 := n0_; have HB := n1_; clear n0_ n1_; clear hb ho8))
  go_ret
  exact ⟨_, by first | rfl | (simp [errW_none, errW_some] <;> rfl) | (simp [*, errW_none, errW_some] <;> rfl), by (with_reducible repeat (first | apply Kd.R_alloc | apply Kd.R_drewN | apply Kd.R_drew)); exact HO178.out, by repeat (first | (with_reducible first | exact HB.out | apply below_alloc | apply pw_below_drewN | apply below_drew1) | exact HB.out)⟩
end Go.Proofs.Ytnojcnmnkkgkgaa.Q
end
