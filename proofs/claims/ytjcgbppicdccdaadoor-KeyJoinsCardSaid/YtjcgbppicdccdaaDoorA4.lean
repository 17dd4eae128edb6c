/- Plain law: KeyOrder: one row is below the other just if its key is. -/
import Derived.Test.YtjcgbppicdccdaaDoorA3
import Derived.Test.YtjcgbppicdccdaaDoorQ3
namespace Go.Proofs.YtjcgbppicdccdaaDoor.Q
open Go.RowKit Go.Proofs.YtjcgbppicdccdaaDoorW.PrintWords Go.Proofs.YtjcgbppicdccdaaDoorW.PrintLast Go.Proofs.YtjcgbppicdccdaaDoorW.PrintMore
set_option linter.unusedVariables false

/-- What comes in: numbers in their range. -/
def wfRow (l : List S43) : Prop := ∀ v ∈ l, wfS v
theorem not_long {l : List S43} (h : longL l = false) : l.length ≤ 100 ∧ ∀ v ∈ l, v.f2.size ≤ 1000 := by
  unfold longL at h
  rw [Bool.or_eq_false_iff] at h
  refine ⟨?_, fun v hv => ?_⟩
  · have := of_decide_eq_false h.1
    omega
  · have := List.any_eq_false.1 h.2 v hv
    simp at this
    omega

theorem KeyOrder_pure (a b : List S43) (ha : wfRow a) (hb : wfRow b) : ∃ k, interlocklaw05_KeyOrder.f k a b = some true := by
  apply Ev.rounds
  unfold interlocklaw05_KeyOrder.f
  simp only [alive_f, Option.bind_some, if_true]
  refine Ev.bind (long_f a) ?_
  have key : ∀ z, (z = false → longL a = false) → Ev (fun k => interlocklaw05_KeyOrder.j0 k a b z) true := by
    intro z hz
    cases z with
    | true => exact Ev.step (fun k => by simp only [interlocklaw05_KeyOrder.j0, if_true]) (Ev.some_ fun _ => rfl)
    | false =>
      by_cases h1 : rightRow a = true
      · by_cases h2 : rightRow b = true
        · have r1 : a.all rightV = true := by unfold rightRow at h1; rw [Bool.and_eq_true] at h1; exact h1.2
          have r2 : b.all rightV = true := by unfold rightRow at h2; rw [Bool.and_eq_true] at h2; exact h2.2
          have l1 : a.length ≤ 8 := by unfold rightRow at h1; rw [Bool.and_eq_true] at h1; exact of_decide_eq_true h1.1
          have hlen := encL_len a r1
          refine Ev.step (f := fun k => interlocklaw05_KeyOrder.j1 k a b ⟨(encL a).toArray⟩ ⟨(encL b).toArray⟩ false) (fun k => by simp [interlocklaw05_KeyOrder.j0, key_Encode.f, h1, h2]) ?_
          refine Ev.step (f := fun k => (interlockref04_OrderRows.f k a b).bind fun t137 => ((interlockref04_Texts.f k ⟨(encL a).toArray⟩ ⟨(encL b).toArray⟩).bind fun t138 => (some (t137 == t138)))) (fun k => by simp [interlocklaw05_KeyOrder.j1]) ?_
          have hnl := not_long (hz rfl)
          refine Ev.bind (rows_f a b (fun v hv => Nat.le_trans (hnl.2 v hv) (by decide)) (by omega)) ?_
          refine Ev.bind (texts_f _ _ (by simp [ByteArray.size]; omega)) (Ev.some_ fun _ => ?_)
          have := rows_cmp a b r1 r2 ha hb
          simp [this]
        · refine Ev.step (f := fun k => interlocklaw05_KeyOrder.j1 k a b ⟨(encL a).toArray⟩ ⟨#[]⟩ true) (fun k => by simp [interlocklaw05_KeyOrder.j0, key_Encode.f, h1, h2]) ?_
          exact Ev.step (fun k => by simp only [interlocklaw05_KeyOrder.j1, if_true]) (Ev.some_ fun _ => rfl)
      · refine Ev.step (f := fun k => interlocklaw05_KeyOrder.j1 k a b ⟨#[]⟩ (if rightRow b = true then (⟨(encL b).toArray⟩, true) else (⟨#[]⟩, false) : ByteArray × Bool).1 true) (fun k => by simp [interlocklaw05_KeyOrder.j0, key_Encode.f, h1]) ?_
        exact Ev.step (fun k => by simp only [interlocklaw05_KeyOrder.j1, if_true]) (Ev.some_ fun _ => rfl)
  cases hl : longL a with
  | true => exact key true (fun h => by cases h)
  | false =>
    simp only [Bool.false_eq_true, if_false]
    exact Ev.bind (long_f b) (key _ (fun _ => hl))
end Go.Proofs.YtjcgbppicdccdaaDoor.Q
