/- Plain laws: KeyJoins and KeyNext: the key of two rows together is their keys together; what is next is above all that begin so. -/
import Derived.Test.YtjcgbppicdccdaaDoorA5
import Derived.Test.YtjcgbppicdccdaaDoorQ4
import Derived.Test.YtjcgbppicdccdaaDoorQ5
namespace Go.Proofs.YtjcgbppicdccdaaDoor.Q
open Go.RowKit Go.Proofs.YtjcgbppicdccdaaDoorW.PrintWords Go.Proofs.YtjcgbppicdccdaaDoorW.PrintLast Go.Proofs.YtjcgbppicdccdaaDoorW.PrintMore
set_option linter.unusedVariables false

theorem encL_app (a b : List S43) : encL (a ++ b) = encL a ++ encL b := by simp [encL]
theorem right_app (a b : List S43) : rightRow (a ++ b) = (decide (a.length + b.length ≤ 8) && (a.all rightV && b.all rightV)) := by simp [rightRow]
theorem copy_f (l : List S43) (h : l.length ≤ 100) : interlockref00_CopyRow.f l = some l := by
  unfold interlockref00_CopyRow.f
  simp
  omega
theorem rightRow_all {a : List S43} (h : rightRow a = true) : a.length ≤ 8 ∧ a.all rightV = true := by
  unfold rightRow at h
  rw [Bool.and_eq_true] at h
  exact ⟨of_decide_eq_true h.1, h.2⟩
theorem rightRow_of {a : List S43} (h1 : a.length ≤ 8) (h2 : a.all rightV = true) : rightRow a = true := by
  unfold rightRow
  rw [h2, decide_eq_true h1]
  rfl
/-- A law behind its two guards. -/
theorem guarded {a b : List S43} {f0 : Nat → Bool → Option Bool} (ht : Ev (fun k => f0 k true) true) (hf : longL a = false → longL b = false → Ev (fun k => f0 k false) true) :
    Ev (fun k => (interlocklaw05_alive.f).bind fun t => if t = true then ((interlocklaw05_long.f k a).bind fun t1 => if t1 = true then f0 k true else ((interlocklaw05_long.f k b).bind fun t2 => f0 k t2)) else some false) true := by
  simp only [alive_f, Option.bind_some, if_true]
  refine Ev.bind (long_f a) ?_
  cases hl : longL a with
  | true => exact ht
  | false =>
    simp only [Bool.false_eq_true, if_false]
    refine Ev.bind (long_f b) ?_
    cases hb : longL b with
    | true => exact ht
    | false => exact hf hl hb

theorem KeyJoins_in (a b : List S43) (ha : a.length ≤ maxLen ∧ ∀ v ∈ a, wf43 v) (hb : b.length ≤ maxLen ∧ ∀ v ∈ b, wf43 v) : ∃ k, interlocklaw05_KeyJoins.f k a b = some true := by
  apply Ev.rounds
  refine guarded (f0 := fun k z => interlocklaw05_KeyJoins.j0 k a b z) (Ev.step (fun k => by simp only [interlocklaw05_KeyJoins.j0, if_true]) (Ev.some_ fun _ => rfl)) (fun hla hlb => ?_)
  have la := (not_long hla).1
  have lb := (not_long hlb).1
  refine Ev.step (f := fun k => some true) (fun k => ?_) (Ev.some_ fun _ => rfl)
  simp only [interlocklaw05_KeyJoins.j0, key_Encode.f, Option.bind_some, copy_f a la, Bool.false_eq_true, if_false]
  rw [if_pos (by omega)]
  have hra := right_app a b
  by_cases h1 : rightRow a = true
  · by_cases h2 : rightRow b = true
    · have r1 := rightRow_all h1
      have r2 := rightRow_all h2
      have e1 := encL_len a r1.2
      have e2 := encL_len b r2.2
      by_cases h8 : a.length + b.length ≤ 8
      · have h3 : rightRow (a ++ b) = true := by rw [hra, r1.2, r2.2, decide_eq_true h8]; rfl
        simp only [h1, h2, h3, if_true]
        rw [if_pos (by simp [ByteArray.size]; omega), encL_app]
        simp [Lib.toList_data]
      · have h3 : rightRow (a ++ b) = false := by rw [hra, decide_eq_false h8]; rfl
        have hw : wrap64 ((a.length : Int) + (b.length : Int)) = (a.length : Int) + (b.length : Int) := by unfold wrap64; omega
        simp only [h1, h2, h3, if_true, Bool.false_eq_true, if_false, hw]
        rw [if_pos (by omega)]
    · have h3 : rightRow (a ++ b) = false := by
        rw [Bool.eq_false_iff]
        intro h
        rw [hra, Bool.and_eq_true, Bool.and_eq_true] at h
        have := of_decide_eq_true h.1
        exact h2 (rightRow_of (by omega) h.2.2)
      simp only [h1, h3, if_true, Bool.false_eq_true, if_false]
      simp [h2]
  · have h3 : rightRow (a ++ b) = false := by
      rw [Bool.eq_false_iff]
      intro h
      rw [hra, Bool.and_eq_true, Bool.and_eq_true] at h
      have := of_decide_eq_true h.1
      exact h1 (rightRow_of (by omega) h.2.1)
    simp only [h3, Bool.false_eq_true, if_false]
    simp [h1]

theorem cmp_begins (x z : List UInt8) : cmpL x (x ++ z) ≤ 0 := by
  have := cmpL_app x [] z
  rw [List.append_nil] at this
  rw [this]
  cases z with
  | nil => decide
  | cons c z => simp [cmpL]
theorem cmp_above (x : List UInt8) (b : List S43) (hb : b.all rightV = true) : cmpL (x ++ encL b) (x ++ [255]) < 0 := by
  rw [cmpL_app]
  cases b with
  | nil => simp [encL, cmpL]
  | cons v b =>
    rw [List.all_cons, Bool.and_eq_true] at hb
    have hk : 0 ≤ v.f0 ∧ v.f0 ≤ 3 := by rcases right_cases hb.1 with ⟨h0, _⟩ | ⟨h0, _⟩ | ⟨h0, _⟩ | ⟨h0, _⟩ <;> omega
    have e1 : (UInt8.ofNat (v.f0 % 256).toNat).toNat = v.f0.toNat := by rw [u8_nat _ (by omega)]; omega
    have hne : ¬ UInt8.ofNat (v.f0 % 256).toNat = 255 := by
      intro e
      have h2 := congrArg UInt8.toNat e
      have h3 : (255 : UInt8).toNat = 255 := rfl
      omega
    simp only [encL, List.flatMap_cons, oneL, List.cons_append, cmpL]
    rw [if_neg hne, e1]
    have h3 : (255 : UInt8).toNat = 255 := rfl
    unfold cmpI
    rw [h3, if_pos (by omega)]
    decide

theorem KeyNext_in (a b : List S43) (ha : a.length ≤ maxLen ∧ ∀ v ∈ a, wf43 v) (hb : b.length ≤ maxLen ∧ ∀ v ∈ b, wf43 v) : ∃ k, interlocklaw05_KeyNext.f k a b = some true := by
  apply Ev.rounds
  refine guarded (f0 := fun k z => interlocklaw05_KeyNext.j0 k a b z) (Ev.step (fun k => by simp only [interlocklaw05_KeyNext.j0, if_true]) (Ev.some_ fun _ => rfl)) (fun hla hlb => ?_)
  have la := (not_long hla).1
  have lb := (not_long hlb).1
  have hra := right_app a b
  have hj : Ev (fun k => interlocklaw05_KeyNext.j1 k (if rightRow a = true then (⟨(encL a).toArray⟩, true) else (⟨#[]⟩, false) : ByteArray × Bool).1 (if rightRow (a ++ b) = true then (⟨(encL (a ++ b)).toArray⟩, true) else (⟨#[]⟩, false) : ByteArray × Bool).1 true) true :=
    Ev.step (fun k => by simp only [interlocklaw05_KeyNext.j1, if_true]) (Ev.some_ fun _ => rfl)
  by_cases h1 : rightRow a = true
  · by_cases h2 : rightRow (a ++ b) = true
    · have r1 := rightRow_all h1
      have r2 : b.all rightV = true := by rw [hra, Bool.and_eq_true, Bool.and_eq_true] at h2; exact h2.2.2
      have e1 := encL_len a r1.2
      have e2 := encL_len b r2
      refine Ev.step (f := fun k => interlocklaw05_KeyNext.j1 k ⟨(encL a).toArray⟩ ⟨(encL (a ++ b)).toArray⟩ false) (fun k => ?_) ?_
      · simp only [interlocklaw05_KeyNext.j0, key_Encode.f, Option.bind_some, copy_f a la, Bool.false_eq_true, if_false]
        rw [if_pos (by omega)]
        simp only [h1, h2, if_true, Bool.not_true]
      · have hn : key_Next.f ⟨(encL a).toArray⟩ = some ⟨(encL a ++ [255]).toArray⟩ := by
          unfold key_Next.f
          rw [if_pos (by simp [ByteArray.size]; omega)]
          congr 1
        refine Ev.step (f := fun k => (interlockref04_Texts.f k ⟨(encL a).toArray⟩ ⟨(encL (a ++ b)).toArray⟩).bind fun t159 => (if t159 ≤ 0 then ((interlockref04_Texts.f k ⟨(encL (a ++ b)).toArray⟩ ⟨(encL a ++ [255]).toArray⟩).bind fun t160 => (some (decide (t160 < 0)))) else (some false))) (fun k => by simp only [interlocklaw05_KeyNext.j1, Bool.false_eq_true, if_false, hn, Option.bind_some]) ?_
        refine Ev.bind (texts_f _ _ (by simp [ByteArray.size]; omega)) ?_
        simp only [encL_app]
        simp only [if_pos (cmp_begins (encL a) (encL b))]
        refine Ev.bind (texts_f _ _ (by simp [ByteArray.size]; omega)) (Ev.some_ fun _ => ?_)
        rw [decide_eq_true (cmp_above _ b r2)]
    · refine Ev.step (fun k => ?_) hj
      simp only [interlocklaw05_KeyNext.j0, key_Encode.f, Option.bind_some, copy_f a la, Bool.false_eq_true, if_false]
      rw [if_pos (by omega)]
      simp [h1, h2]
  · refine Ev.step (fun k => ?_) hj
    simp only [interlocklaw05_KeyNext.j0, key_Encode.f, Option.bind_some, copy_f a la, Bool.false_eq_true, if_false]
    rw [if_pos (by omega)]
    simp [h1]
end Go.Proofs.YtjcgbppicdccdaaDoor.Q
