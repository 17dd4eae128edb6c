/- Plain law: what the references compute of texts and rows; a row's order is its key's. -/
import Derived.Test.YtjcgbppicdccdaaDoorA1
import Derived.Test.YtjcgbppicdccdaaDoorQ12
import Derived.Test.YtjcgbppicdccdaaDoorQ10
import Derived.Test.YtjcgbppicdccdaaDoorQ9
namespace Go.Proofs.YtjcgbppicdccdaaDoor.Q
open Go.RowKit Go.Proofs.YtjcgbppicdccdaaDoorW.PrintWords Go.Proofs.YtjcgbppicdccdaaDoorW.PrintLast Go.Proofs.YtjcgbppicdccdaaDoorW.PrintMore
set_option linter.unusedVariables false

/-- A value whose number is one of Go's ints. -/
def wfS (v : S43) : Prop := -9223372036854775808 ≤ v.f1 ∧ v.f1 ≤ 9223372036854775807
def orderS (v w : S43) : Int := if v.f0 = w.f0 then (if v.f1 = w.f1 then cmpL v.f2.data.toList w.f2.data.toList else cmpI v.f1 w.f1) else cmpI v.f0 w.f0
def orderL : List S43 → List S43 → Int
  | [], [] => 0
  | [], _ :: _ => -1
  | _ :: _, [] => 1
  | v :: a, w :: b => if orderS v w = 0 then orderL a b else orderS v w

/-- What a right value is. -/
theorem right_cases {v : S43} (h : rightV v = true) :
    (v.f0 = 0 ∧ v.f1 = 0 ∧ v.f2.data.toList = []) ∨ (v.f0 = 1 ∧ v.f2.data.toList = []) ∨ (v.f0 = 2 ∧ (v.f1 = 0 ∨ v.f1 = 1) ∧ v.f2.data.toList = []) ∨ (v.f0 = 3 ∧ v.f1 = 0 ∧ v.f2.size ≤ 16) := by
  unfold rightV value_Right.f at h
  have ht : v.f2.toList = v.f2.data.toList := Lib.toList_data _
  rw [ht] at h
  by_cases h0 : v.f0 = 0
  · simp [h0] at h
    exact .inl ⟨h0, h.1, by simpa using h.2⟩
  · by_cases h1 : v.f0 = 1
    · simp [h1] at h
      exact .inr (.inl ⟨h1, by simpa using h⟩)
    · by_cases h2 : v.f0 = 2
      · by_cases hs : v.f2.data.toList = []
        · refine .inr (.inr (.inl ⟨h2, ?_, hs⟩))
          by_cases hz : v.f1 = 0
          · exact .inl hz
          · simp [h2, hs, hz] at h
            exact .inr h
        · rw [if_neg h0, if_neg h1, if_pos h2, if_neg hs] at h
          simp at h
      · by_cases h3 : v.f0 = 3
        · by_cases hz : v.f1 = 0
          · simp [h3, hz] at h
            exact .inr (.inr (.inr ⟨h3, hz, by omega⟩))
          · simp [h3, hz] at h
        · simp [h0, h1, h2, h3] at h

theorem one_cmp {v w : S43} (hv : rightV v = true) (hw : rightV w = true) (wv : wfS v) (ww : wfS w) (x y : List UInt8) :
    cmpL (oneL v ++ x) (oneL w ++ y) = if orderS v w = 0 then cmpL x y else orderS v w := by
  by_cases hk : v.f0 = w.f0
  · unfold orderS
    rw [if_pos hk]
    rcases right_cases hv with ⟨h0, h1, h2⟩ | ⟨h0, h2⟩ | ⟨h0, h1, h2⟩ | ⟨h0, h1, h2⟩
    · rcases right_cases hw with ⟨g0, g1, g2⟩ | ⟨g0, g2⟩ | ⟨g0, g1, g2⟩ | ⟨g0, g1, g2⟩
      · simp [oneL, h0, g0, h1, g1, h2, g2, cmpL]
      all_goals omega
    · rcases right_cases hw with ⟨g0, g1, g2⟩ | ⟨g0, g2⟩ | ⟨g0, g1, g2⟩ | ⟨g0, g1, g2⟩
      · omega
      · have hc := numL_cmp v.f1 w.f1 x y wv.1 wv.2 ww.1 ww.2
        simp only [oneL, h0, g0, if_true, List.cons_append, cmpL, hc, h2, g2]
        by_cases he : v.f1 = w.f1
        · simp [he]
        · rw [if_neg he, if_neg he, if_neg (cmpI_ne he)]
      all_goals omega
    · rcases right_cases hw with ⟨g0, g1, g2⟩ | ⟨g0, g2⟩ | ⟨g0, g1, g2⟩ | ⟨g0, g1, g2⟩
      · omega
      · omega
      · rcases h1 with h1 | h1 <;> rcases g1 with g1 | g1 <;> simp [oneL, h0, g0, h1, g1, h2, g2, cmpL, cmpI]
      · omega
    · rcases right_cases hw with ⟨g0, g1, g2⟩ | ⟨g0, g2⟩ | ⟨g0, g1, g2⟩ | ⟨g0, g1, g2⟩
      · omega
      · omega
      · omega
      · have hc := esc_cmp v.f2.data.toList w.f2.data.toList x y
        simp only [oneL, h0, g0, h1, g1, List.cons_append, cmpL]
        simp only [List.cons_append, List.nil_append] at hc
        simpa using hc
  · unfold orderS
    rw [if_neg hk, if_neg (cmpI_ne hk)]
    have hb : ∀ {z : S43}, rightV z = true → 0 ≤ z.f0 ∧ z.f0 ≤ 3 := by
      intro z hz
      rcases right_cases hz with ⟨h0, _⟩ | ⟨h0, _⟩ | ⟨h0, _⟩ | ⟨h0, _⟩ <;> omega
    have b1 := hb hv
    have b2 := hb hw
    have e1 : (UInt8.ofNat (v.f0 % 256).toNat).toNat = v.f0.toNat := by rw [u8_nat _ (by omega)]; omega
    have e2 : (UInt8.ofNat (w.f0 % 256).toNat).toNat = w.f0.toNat := by rw [u8_nat _ (by omega)]; omega
    have hne : ¬ UInt8.ofNat (v.f0 % 256).toNat = UInt8.ofNat (w.f0 % 256).toNat := by
      intro e
      have := congrArg UInt8.toNat e
      omega
    simp only [oneL, List.cons_append, cmpL]
    rw [if_neg hne, e1, e2, show ((v.f0.toNat : Nat) : Int) = v.f0 by omega, show ((w.f0.toNat : Nat) : Int) = w.f0 by omega]

theorem rows_cmp : ∀ (a b : List S43), a.all rightV = true → b.all rightV = true → (∀ v ∈ a, wfS v) → (∀ v ∈ b, wfS v) → cmpL (encL a) (encL b) = orderL a b
  | [], [], _, _, _, _ => rfl
  | [], w :: b, _, _, _, _ => by simp [encL, oneL, cmpL, orderL]
  | v :: a, [], _, _, _, _ => by simp [encL, oneL, cmpL, orderL]
  | v :: a, w :: b, ha, hb, wa, wb => by
    rw [List.all_cons, Bool.and_eq_true] at ha hb
    have ih := rows_cmp a b ha.2 hb.2 (fun z hz => wa z (List.mem_cons_of_mem _ hz)) (fun z hz => wb z (List.mem_cons_of_mem _ hz))
    have h1 := one_cmp ha.1 hb.1 (wa v (List.mem_cons_self ..)) (wb w (List.mem_cons_self ..)) (encL a) (encL b)
    simp only [encL, List.flatMap_cons] at h1 ih ⊢
    rw [h1, ih, orderL]
end Go.Proofs.YtjcgbppicdccdaaDoor.Q
