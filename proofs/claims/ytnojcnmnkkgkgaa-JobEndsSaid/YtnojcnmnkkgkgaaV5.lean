/- Packed by shake.py: YtnojcnmnkkgkgaaJG1 -/
import Derived.Test.YtnojcnmnkkgkgaaV4
set_option linter.unusedSectionVars false
section
namespace Go.Proofs.Kb
open Go Go.RowKit Go.Proofs.Ytnojcnmnkkgkgaa.Q Go.Proofs.YtnojcnmnkkgkgaaW.PrintWords Go.Proofs.YtnojcnmnkkgkgaaW.PrintLast Go.Proofs.YtnojcnmnkkgkgaaW.PrintMore
set_option linter.unusedVariables false
set_option linter.unusedSimpArgs false
set_option maxRecDepth 100000
section
variable (a0 : Int) (a1 a2 a3 : ByteArray) (a4 : Int) (a5 : Bool) (l6 : List S60) (l7 : List S62) (l8 : List S64) (l9 : List S66) (l10 : List ByteArray)
structure Len20 : Prop where
  h6 : l6.length ≤ 20
  h7 : l7.length ≤ 20
  h8 : l8.length ≤ 20
  h9 : l9.length ≤ 20
  h10 : l10.length ≤ 20
variable {l6 l7 l8 l9 l10}
theorem gl4 (h : Len20 l6 l7 l8 l9 l10) : ∀ (m : Nat) (i : Int), 0 ≤ i → i + m = l10.length → ∃ k r, interlocklaw15_GreatStmt.l4 k i a0 a1 a2 a3 a4 a5 l6 l7 l8 l9 l10 = some r
  | 0, i, h0, hm => by
    exact ⟨1, false, by unfold interlocklaw15_GreatStmt.l4; rw [if_neg (by omega)]⟩
  | m + 1, i, h0, hm => by
    by_cases q0 : ((rdOf ByteArray.empty l10 i).size : Int) > 50
    · exact ⟨1, true, by unfold interlocklaw15_GreatStmt.l4; rw [if_pos (by omega), if_pos h0, if_pos q0]⟩
    obtain ⟨k, r, hk⟩ := gl4 h m (i + 1) (by omega) (by omega)
    exact ⟨k + 1, r, by unfold interlocklaw15_GreatStmt.l4; rw [if_pos (by omega), if_pos h0, if_neg q0, IntWalk.wrap64_in _ (by have := h.h10; omega)]; exact hk⟩
theorem gl3 (h : Len20 l6 l7 l8 l9 l10) : ∀ (m : Nat) (i : Int), 0 ≤ i → i + m = l9.length → ∃ k r, interlocklaw15_GreatStmt.l3 k i a0 a1 a2 a3 a4 a5 l6 l7 l8 l9 l10 = some r
  | 0, i, h0, hm => by
    obtain ⟨k, r, hk⟩ := gl4 a0 a1 a2 a3 a4 a5 h l10.length 0 (Int.le_refl _) (by omega)
    exact ⟨k + 1, r, by unfold interlocklaw15_GreatStmt.l3; rw [if_neg (by omega)]; exact hk⟩
  | m + 1, i, h0, hm => by
    by_cases q0 : (((rd_T66 l9 i).f0).size : Int) > 50
    · exact ⟨1, true, by unfold interlocklaw15_GreatStmt.l3; rw [if_pos (by omega), if_pos h0, if_pos q0]⟩
    obtain ⟨k, r, hk⟩ := gl3 h m (i + 1) (by omega) (by omega)
    exact ⟨k + 1, r, by unfold interlocklaw15_GreatStmt.l3; rw [if_pos (by omega), if_pos h0, if_neg q0, IntWalk.wrap64_in _ (by have := h.h9; omega)]; exact hk⟩
theorem gl2 (h : Len20 l6 l7 l8 l9 l10) : ∀ (m : Nat) (i : Int), 0 ≤ i → i + m = l8.length → ∃ k r, interlocklaw15_GreatStmt.l2 k i a0 a1 a2 a3 a4 a5 l6 l7 l8 l9 l10 = some r
  | 0, i, h0, hm => by
    obtain ⟨k, r, hk⟩ := gl3 a0 a1 a2 a3 a4 a5 h l9.length 0 (Int.le_refl _) (by omega)
    exact ⟨k + 1, r, by unfold interlocklaw15_GreatStmt.l2; rw [if_neg (by omega)]; exact hk⟩
  | m + 1, i, h0, hm => by
    by_cases q0 : (((rd_T64 l8 i).f2.f2).size : Int) > 50
    · exact ⟨1, true, by unfold interlocklaw15_GreatStmt.l2; rw [if_pos (by omega), if_pos h0, if_pos q0]⟩
    by_cases q1 : (((rd_T64 l8 i).f0).size : Int) > 50
    · exact ⟨1, true, by unfold interlocklaw15_GreatStmt.l2; rw [if_pos (by omega), if_pos h0, if_neg q0, if_pos q1]⟩
    obtain ⟨k, r, hk⟩ := gl2 h m (i + 1) (by omega) (by omega)
    exact ⟨k + 1, r, by unfold interlocklaw15_GreatStmt.l2; rw [if_pos (by omega), if_pos h0, if_neg q0, if_neg q1, IntWalk.wrap64_in _ (by have := h.h8; omega)]; exact hk⟩
theorem gl1 (h : Len20 l6 l7 l8 l9 l10) : ∀ (m : Nat) (i : Int), 0 ≤ i → i + m = l7.length → ∃ k r, interlocklaw15_GreatStmt.l1 k i a0 a1 a2 a3 a4 a5 l6 l7 l8 l9 l10 = some r
  | 0, i, h0, hm => by
    obtain ⟨k, r, hk⟩ := gl2 a0 a1 a2 a3 a4 a5 h l8.length 0 (Int.le_refl _) (by omega)
    exact ⟨k + 1, r, by unfold interlocklaw15_GreatStmt.l1; rw [if_neg (by omega)]; exact hk⟩
  | m + 1, i, h0, hm => by
    by_cases q0 : (((rd_T62 l7 i).f1.f2).size : Int) > 50
    · exact ⟨1, true, by unfold interlocklaw15_GreatStmt.l1; rw [if_pos (by omega), if_pos h0, if_pos q0]⟩
    by_cases q1 : (((rd_T62 l7 i).f0).size : Int) > 50
    · exact ⟨1, true, by unfold interlocklaw15_GreatStmt.l1; rw [if_pos (by omega), if_pos h0, if_neg q0, if_pos q1]⟩
    obtain ⟨k, r, hk⟩ := gl1 h m (i + 1) (by omega) (by omega)
    exact ⟨k + 1, r, by unfold interlocklaw15_GreatStmt.l1; rw [if_pos (by omega), if_pos h0, if_neg q0, if_neg q1, IntWalk.wrap64_in _ (by have := h.h7; omega)]; exact hk⟩
theorem gl0 (h : Len20 l6 l7 l8 l9 l10) : ∀ (m : Nat) (i : Int), 0 ≤ i → i + m = l6.length → ∃ k r, interlocklaw15_GreatStmt.l0 k i a0 a1 a2 a3 a4 a5 l6 l7 l8 l9 l10 = some r
  | 0, i, h0, hm => by
    obtain ⟨k, r, hk⟩ := gl1 a0 a1 a2 a3 a4 a5 h l7.length 0 (Int.le_refl _) (by omega)
    exact ⟨k + 1, r, by unfold interlocklaw15_GreatStmt.l0; rw [if_neg (by omega)]; exact hk⟩
  | m + 1, i, h0, hm => by
    by_cases q0 : (((rd_T60 l6 i).f2).size : Int) > 50
    · exact ⟨1, true, by unfold interlocklaw15_GreatStmt.l0; rw [if_pos (by omega), if_pos h0, if_pos q0]⟩
    obtain ⟨k, r, hk⟩ := gl0 h m (i + 1) (by omega) (by omega)
    exact ⟨k + 1, r, by unfold interlocklaw15_GreatStmt.l0; rw [if_pos (by omega), if_pos h0, if_neg q0, IntWalk.wrap64_in _ (by have := h.h6; omega)]; exact hk⟩
variable (l6 l7 l8 l9 l10)
structure Small : Prop where
  len : Len20 l6 l7 l8 l9 l10
  s1 : a1.size ≤ 50
  s2 : a2.size ≤ 50
  s3 : a3.size ≤ 50
theorem gstmt_some : ∃ k r, interlocklaw15_GreatStmt.f k a0 a1 a2 a3 a4 a5 l6 l7 l8 l9 l10 = some r ∧ (r = false → Small a1 a2 a3 l6 l7 l8 l9 l10) := by
  have hj : ∀ b, (b = false → Len20 l6 l7 l8 l9 l10) → ∃ k r, interlocklaw15_GreatStmt.j0 k b a0 a1 a2 a3 a4 a5 l6 l7 l8 l9 l10 = some r ∧ (r = false → b = false) := fun b hb => by
    cases b with
    | true => exact ⟨1, true, rfl, fun h => h⟩
    | false =>
      obtain ⟨k, r, hk⟩ := gl0 a0 a1 a2 a3 a4 a5 (hb rfl) l6.length 0 (Int.le_refl _) (by omega)
      exact ⟨k + 1, r, hk, fun _ => rfl⟩
  have ht : ∃ k r, interlocklaw15_GreatStmt.j0 k true a0 a1 a2 a3 a4 a5 l6 l7 l8 l9 l10 = some r ∧ (r = false → Small a1 a2 a3 l6 l7 l8 l9 l10) := ⟨1, true, rfl, fun h => by cases h⟩
  unfold interlocklaw15_GreatStmt.f
  by_cases c0 : (l6.length : Int) > 20
  · simp only [if_pos c0]
    exact ht
  by_cases c1 : (l7.length : Int) > 20
  · simp only [if_neg c0, if_pos c1]
    exact ht
  by_cases c2 : (l8.length : Int) > 20
  · simp only [if_neg c0, if_neg c1, if_pos c2]
    exact ht
  by_cases c3 : (l9.length : Int) > 20
  · simp only [if_neg c0, if_neg c1, if_neg c2, if_pos c3]
    exact ht
  by_cases c4 : (l10.length : Int) > 20
  · simp only [if_neg c0, if_neg c1, if_neg c2, if_neg c3, if_pos c4]
    exact ht
  by_cases c5 : (a1.size : Int) > 50
  · simp only [if_neg c0, if_neg c1, if_neg c2, if_neg c3, if_neg c4, if_pos c5]
    exact ht
  by_cases c6 : (a2.size : Int) > 50
  · simp only [if_neg c0, if_neg c1, if_neg c2, if_neg c3, if_neg c4, if_neg c5, if_pos c6]
    exact ht
  simp only [if_neg c0, if_neg c1, if_neg c2, if_neg c3, if_neg c4, if_neg c5, if_neg c6]
  obtain ⟨k, r, hk, hr⟩ := hj (decide ((a3.size : Int) > 50)) (fun _ => ⟨by omega, by omega, by omega, by omega, by omega⟩)
  exact ⟨k, r, hk, fun h => ⟨⟨by omega, by omega, by omega, by omega, by omega⟩, by omega, by omega, by have := of_decide_eq_false (hr h); omega⟩⟩
end
structure CK (w : World) (x : SV) (l6 : List S60) (l7 : List S62) (l8 : List S64) (l9 : List S66) (l10 : List ByteArray) : Prop where
  n6 : x.f6.n = l6.length ∧ l6.length ≤ x.f6.c ∧ Kd.C k60 w x.f6.A l6.length l6
  n7 : x.f7.n = l7.length ∧ l7.length ≤ x.f7.c ∧ Kd.C k62 w x.f7.A l7.length l7
  n8 : x.f8.n = l8.length ∧ l8.length ≤ x.f8.c ∧ Kd.C k64 w x.f8.A l8.length l8
  n9 : x.f9.n = l9.length ∧ l9.length ≤ x.f9.c ∧ Kd.C k66 w x.f9.A l9.length l9
  n10 : x.f10.n = l10.length ∧ l10.length ≤ x.f10.c ∧ Kd.C Kd.string w x.f10.A l10.length l10
section
variable {w w' : World} {x : SV} {l6 : List S60} {l7 : List S62} {l8 : List S64} {l9 : List S66} {l10 : List ByteArray}
theorem CK.below (h : CK w x l6 l7 l8 l9 l10) (hb : Below w.heap.size w w') : CK w' x l6 l7 l8 l9 l10 :=
  ⟨⟨h.n6.1, h.n6.2.1, Kd.C_below h.n6.2.2 hb⟩, ⟨h.n7.1, h.n7.2.1, Kd.C_below h.n7.2.2 hb⟩, ⟨h.n8.1, h.n8.2.1, Kd.C_below h.n8.2.2 hb⟩, ⟨h.n9.1, h.n9.2.1, Kd.C_below h.n9.2.2 hb⟩, ⟨h.n10.1, h.n10.2.1, Kd.C_below h.n10.2.2 hb⟩⟩
theorem CK.sr (h : CK w x l6 l7 l8 l9 l10) : SR w x l6 l7 l8 l9 l10 := by
  obtain ⟨⟨e6, c6, h6⟩, ⟨e7, c7, h7⟩, ⟨e8, c8, h8⟩, ⟨e9, c9, h9⟩, ⟨e10, c10, h10⟩⟩ := h
  refine ⟨?_, ?_, ?_, ?_, ?_⟩
  · show Src _ _ (.slice x.f6.A x.f6.n x.f6.c) _
    rw [e6]; exact Src.of_C k60 rfl (fun h => k60_open h) h6 c6
  · show Src _ _ (.slice x.f7.A x.f7.n x.f7.c) _
    rw [e7]; exact Src.of_C k62 rfl (fun h => k62_open h) h7 c7
  · show Src _ _ (.slice x.f8.A x.f8.n x.f8.c) _
    rw [e8]; exact Src.of_C k64 rfl (fun h => k64_open h) h8 c8
  · show Src _ _ (.slice x.f9.A x.f9.n x.f9.c) _
    rw [e9]; exact Src.of_C k66 rfl (fun h => k66_open h) h9 c9
  · show Src _ _ (.slice x.f10.A x.f10.n x.f10.c) _
    rw [e10]; exact Src.of_C (E := txtE) Kd.string rfl (fun h => h) h10 c10
theorem Small.sn {a1 a2 a3 : ByteArray} (h : Small a1 a2 a3 l6 l7 l8 l9 l10) : SN l6 l7 l8 l9 l10 := by
  have := h.len
  exact ⟨by have := this.h6; omega, by have := this.h7; omega, by have := this.h8; omega, by have := this.h9; omega, by have := this.h10; omega⟩
theorem gstmt_calls (b : Bool) (hb : ∃ k, interlocklaw15_GreatStmt.f k x.f0 x.f1 x.f2 x.f3 x.f4 x.f5 l6 l7 l8 l9 l10 = some b) (h : CK w x l6 l7 l8 l9 l10) :
    Calls Try.prog 8 #[.agg #[.int .i64 x.f0, .string x.f1, .string x.f2, .string x.f3, .int .i64 x.f4, .bool x.f5, .slice x.f6.A x.f6.n x.f6.c, .slice x.f7.A x.f7.n x.f7.c, .slice x.f8.A x.f8.n x.f8.c, .slice x.f9.A x.f9.n x.f9.c, .slice x.f10.A x.f10.n x.f10.c]] w fun E w' => E = .returned (.bool b) ∧ Below w.heap.size w w' := by
  obtain ⟨k, hk⟩ := hb
  have h1 := interlocklaw15_GreatStmt.calls k x.f0 x.f1 x.f2 x.f3 x.f4 x.f5 x.f6.A x.f6.c l6 x.f7.A x.f7.c l7 x.f8.A x.f8.c l8 x.f9.A x.f9.c l9 x.f10.A x.f10.c l10 b w h.n6.2.2 h.n6.2.1 h.n7.2.2 h.n7.2.1 h.n8.2.2 h.n8.2.1 h.n9.2.2 h.n9.2.1 h.n10.2.2 h.n10.2.1 hk
  rw [h.n6.1, h.n7.1, h.n8.1, h.n9.1, h.n10.1]
  exact h1.mono fun E w' ⟨e, hb⟩ => ⟨e, by first | exact hb | exact hb.below⟩
end
end Go.Proofs.Kb
end
