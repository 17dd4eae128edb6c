/- value.RightRow (function 25), with its closure and the library's IndexFunc and ContainsFunc at that closure. -/
import Derived.Test.YtjcgbppicdccdaaDoorQ0
import Derived.Test.YtjcgbppicdccdaaDoorQ37
namespace Go.Proofs.YtjcgbppicdccdaaDoor.Q
open Go.RowKit Go.Proofs.YtjcgbppicdccdaaDoorW.PrintWords Go.Proofs.YtjcgbppicdccdaaDoorW.PrintLast Go.Proofs.YtjcgbppicdccdaaDoorW.PrintMore
set_option linter.unusedVariables false
set_option linter.unusedSimpArgs false

/-- Is a value right? -/
def rightV (x : S43) : Bool := (value_Right.f x.f0 x.f1 x.f2).getD false
theorem right_some (x : S43) : value_Right.f x.f0 x.f1 x.f2 = some (rightV x) := by
  unfold rightV value_Right.f
  repeat' split
  all_goals simp
def rightRow (l : List S43) : Bool := decide (l.length ≤ 8) && l.all rightV
def value_RightRow.f (l0 : List (S43)) : Option (Bool) := some (rightRow l0)

theorem closure36 (a b : Int) (s : ByteArray) (w : World) (r : Bool) (h : value_Right.f a b s = some r) :
    Calls Tryd.prog 36 #[.agg #[.int .i64 a, .int .i64 b, .string s]] w fun e w' => e = .returned (.bool (!r)) ∧ Below w.heap.size w w' := by
  have hu43 := Tryd.underlying43
  have H := Aside0.mk h
  clear h
  go_enter Tryd.func36, Tryd.ntmps36
  go_wp2_with (go_at_call 37; refine (value_Right.calls _ _ _ _ _ H.out).mono ?_; rintro e w' ⟨rfl, hb⟩; have HB := Aside0.mk hb; clear hb)
  go_ret
  exact ⟨rfl, below_step (below_alloc (Below.refl _ _) _) HB.out⟩

/-- Where the first value stands that isn't right; -1. -/
def badFrom : Nat → List S43 → Int → Int
  | 0, _, _ => -1
  | d + 1, l, i => if rightV (rd_T43 l i) then badFrom d l (i + 1) else i

theorem indexFunc36 (A0 : Option Addr) (c0 : Nat) (l0 : List S43) (w : World) (hr0 : Kd.C k43 w A0 l0.length l0) (hc0 : l0.length ≤ c0) :
    Calls Tryd.prog 44 #[.slice A0 l0.length c0, .func (.func 36) #[] #[]] w fun e w' => e = .returned (.int .i64 (badFrom l0.length l0 0)) ∧ Below w.heap.size w w' := by
  have hu43 := Tryd.underlying43
  have hlen : l0.length ≤ 9223372036854775807 := hr0.2.1
  have HR0 := Aside0.mk hr0
  clear hr0 hc0
  have HB := Aside0.mk (Below.refl w.heap.size w)
  go_enter Tryd.func44, Tryd.ntmps44
  go_wp2
  go_loopg [8] l0.length (fun gq v8 w' => ∃ (i : Nat), v8 = .int .i64 i ∧ i + gq = l0.length ∧ Aside0 (badFrom gq l0 i = badFrom l0.length l0 0) ∧ Aside0 (Below w.heap.size w w'))
  case atStart => exact ⟨0, rfl, by omega, ⟨rfl⟩, HB⟩
  case round =>
    clear HB
    obtain ⟨i, rfl, hi, HA, HB⟩ := hrel
    cases gk with
    | zero =>
      have h0 : ¬ (i : Int) < (l0.length : Int) := by omega
      have HA' := Aside0.mk (show badFrom l0.length l0 0 = -1 by rw [← HA.out]; rfl)
      go_wp2
      go_ret
      exact ⟨by rw [HA'.out]; rfl, HB.out⟩
    | succ g =>
      have h0 : (i : Int) < (l0.length : Int) := by omega
      have h00 : (0 : Int) ≤ (i : Int) := by omega
      obtain ⟨ad, e177, hx_0, hx_1, hx_2⟩ := at_T43 HR0.out i h00 h0
      cases e177
      rw [Int.toNat_natCast] at hx_0 hx_1 hx_2
      replace hx_0 := (HB.out.cell (World.block_lt_of_cell? w _ hx_0)).trans hx_0
      replace hx_1 := (HB.out.cell (World.block_lt_of_cell? w _ hx_1)).trans hx_1
      replace hx_2 := (HB.out.cell (World.block_lt_of_cell? w _ hx_2)).trans hx_2
      have HV := Aside0.mk (right_some (rd_T43 l0 i))
      by_cases hv : rightV (rd_T43 l0 i) = true
      · have HA' : badFrom g l0 ((i : Int) + 1) = badFrom l0.length l0 0 := by rw [← HA.out, badFrom, if_pos hv]
        have HH := Aside0.mk hv
        clear hv HA
        have HA2 := Aside0.mk HA'
        clear HA'
        have hm : i < l0.length := by omega
        go_wp2_with (go_at_call 36; refine (closure36 _ _ _ _ _ HV.out).mono ?_; rintro e w1 ⟨rfl, hb⟩; rw [HH.out]; have HB1 := Aside0.mk (below_step HB.out hb); clear hb)
        go_roundg g
        case measure => omega
        case rel => exact ⟨i + 1, by go_num, by omega, ⟨HA2.out⟩, HB1⟩
      · replace hv := Bool.eq_false_iff.mpr hv
        have HA' : (i : Int) = badFrom l0.length l0 0 := by rw [← HA.out, badFrom, if_neg (by simp [hv])]
        have HH := Aside0.mk hv
        have HA2 := Aside0.mk HA'
        clear hv HA HA'
        have hm : i < l0.length := by omega
        go_wp2_with (go_at_call 36; refine (closure36 _ _ _ _ _ HV.out).mono ?_; rintro e w1 ⟨rfl, hb⟩; rw [HH.out]; have HB1 := Aside0.mk (below_step HB.out hb); clear hb)
        go_ret
        exact ⟨by rw [← HA2.out]; rfl, HB1.out⟩

theorem containsFunc36 (A0 : Option Addr) (c0 : Nat) (l0 : List S43) (w : World) (hr0 : Kd.C k43 w A0 l0.length l0) (hc0 : l0.length ≤ c0) :
    Calls Tryd.prog 35 #[.slice A0 l0.length c0, .func (.func 36) #[] #[]] w fun e w' => e = .returned (.bool (decide (badFrom l0.length l0 0 ≥ 0))) ∧ Below w.heap.size w w' := by
  have HR0 := Aside0.mk hr0
  have HC0 := Aside0.mk hc0
  clear hr0 hc0
  go_enter Tryd.func35, Tryd.ntmps35
  go_wp2_with (go_at_call 44; refine (indexFunc36 _ _ _ _ HR0.out HC0.out).mono ?_; rintro e w1 ⟨rfl, hb⟩; have HB1 := Aside0.mk hb; clear hb)
  go_ret
  exact ⟨rfl, HB1.out⟩

theorem bad_all (l : List S43) : ∀ (d i : Nat), i + d = l.length → (decide (badFrom d l i ≥ 0) = !(l.drop i).all rightV)
  | 0, i, h => by
    have : l.drop i = [] := by rw [List.drop_eq_nil_iff]; omega
    simp [badFrom, this]
  | d + 1, i, h => by
    have hi : i < l.length := by omega
    rw [List.drop_eq_getElem_cons hi, List.all_cons]
    have e : rd_T43 l (i : Int) = l[i] := by unfold rd_T43; simp [hi]
    unfold badFrom
    rw [e]
    by_cases hv : rightV l[i] = true
    · rw [if_pos hv, hv]
      have := bad_all l d (i + 1) (by omega)
      simpa using this
    · rw [if_neg hv]
      simp [hv]

theorem value_RightRow.calls (A0 : Option Addr) (c0 : Nat) (l0 : List (S43)) (r : Bool) (w : World) (hr0 : Kd.C k43 w A0 l0.length l0) (hc0 : l0.length ≤ c0) (h : value_RightRow.f l0 = some r) :
    Calls Tryd.prog 25 #[.slice A0 l0.length c0] w fun e w' => e = .returned (.bool r) ∧ Below w.heap.size w w' := by
  obtain rfl := Option.some.inj h
  have hb := bad_all l0 l0.length 0 (by omega)
  have HR0 := Aside0.mk hr0
  have HC0 := Aside0.mk hc0
  clear hr0 hc0
  by_cases h8 : (l0.length : Int) ≤ 8
  · have h8b : decide ((l0.length : Int) ≤ 8) = true := decide_eq_true h8
    have h8n : decide (l0.length ≤ 8) = true := decide_eq_true (by omega)
    have e : rightRow l0 = !decide (badFrom l0.length l0 0 ≥ 0) := by
      unfold rightRow
      rw [show badFrom l0.length l0 0 = badFrom l0.length l0 ((0 : Nat) : Int) from rfl, hb, h8n]
      simp
    have HE := Aside0.mk e
    clear e hb h8
    go_enter Tryd.func25, Tryd.ntmps25
    go_wp2_with (go_at_call 35; refine (containsFunc36 _ _ _ _ HR0.out HC0.out).mono ?_; rintro e w1 ⟨rfl, hb⟩; have HB1 := Aside0.mk hb; clear hb)
    go_ret
    exact ⟨by rw [HE.out]; rfl, HB1.out⟩
  · have h8b : decide ((l0.length : Int) ≤ 8) = false := decide_eq_false h8
    have h8n : decide (l0.length ≤ 8) = false := decide_eq_false (by omega)
    have e : rightRow l0 = false := by unfold rightRow; rw [h8n]; rfl
    have HE := Aside0.mk e
    clear e hb h8
    go_enter Tryd.func25, Tryd.ntmps25
    go_wp2
    go_ret
    exact ⟨by rw [HE.out]; rfl, Below.refl _ _⟩
end Go.Proofs.YtjcgbppicdccdaaDoor.Q
