/- Packed by chunk.py: YtjcgbppicdccdaaDoorQ21d YtjcgbppicdccdaaDoorQ22 YtjcgbppicdccdaaDoorQ23 YtjcgbppicdccdaaDoorQ24 YtjcgbppicdccdaaDoorA12 YtjcgbppicdccdaaDoorQ19 YtjcgbppicdccdaaDoorQ8d YtjcgbppicdccdaaDoorA13 -/
import Derived.Test.YtjcgbppicdccdaaDoorQ0
import Derived.LoopN
import Derived.Test.YtjcgbppicdccdaaDoorShelf
import Derived.Laws.BitsLemmas
import Derived.Deep.Slices
import Derived.ChangeArms
import Derived.DataReads
import Derived.Test.YtjcgbppicdccdaaDoorM5
section
/- What Go functions compute, as Lean functions, and that the machine's call comes to just that; no conditions beyond each theorem's own. (Written by pp.py of this repo, over the kit's print.py.) -/
namespace Go.Proofs.YtjcgbppicdccdaaDoor.Q
open Go.RowKit Go.Proofs.YtjcgbppicdccdaaDoorW.PrintWords Go.Proofs.YtjcgbppicdccdaaDoorW.PrintLast Go.Proofs.YtjcgbppicdccdaaDoorW.PrintMore
attribute [local go_sem] max2_int min2_int max_two min_two max_three min_three max_four min_four   -- for this text's walks alone
set_option linter.unusedVariables false
set_option linter.unusedSimpArgs false

/-! ### interlockref05_Decode: function 21 -/
def interlockref05_Decode.l0 : Nat → ByteArray → List (S43) → Option ((List (S43)) × Bool)
  | 0, _, _ => none
  | k + 1, x0, x4 => if (x0.size : Int) > 0 then ((interlockref05_first.f k x0).bind fun bt274 => (if bt274.2.2.2.2 = true then (if (x4.length : Int) > 8 then (some (([] : List (S43)), false)) else (if x4.length < 4398046511104 then (interlockref05_Decode.l0 k bt274.2.2.2.1 (x4 ++ [(⟨bt274.1, bt274.2.1, bt274.2.2.1⟩ : S43)])) else (none))) else (some (([] : List (S43)), false)))) else ((interlockref04_RightRow.f k x4).bind fun t283 => (if t283 = true then (some (x4, true)) else (some (([] : List (S43)), false))))
def interlockref05_Decode.f (k : Nat) (a0 : ByteArray) : Option ((List (S43)) × Bool) := interlockref05_Decode.l0 k a0 (([] : List (S43)))
theorem interlockref05_Decode.mono_l : ∀ k, (∀ y0 y1, LeO (interlockref05_Decode.l0 k y0 y1) (interlockref05_Decode.l0 (k + 1) y0 y1))
  | 0 => fun _ _ r h => by simp [interlockref05_Decode.l0] at h
  | k + 1 => by
    have ih0 := interlockref05_Decode.mono_l k
    · intro y0 y1
      unfold interlockref05_Decode.l0
      repeat' first
      | (with_reducible exact ih0 _ _)
      | (with_reducible exact interlockref04_RightRow.mono _ _)
      | (with_reducible exact interlockref05_first.mono _ _)
      | (with_reducible exact LeO.refl _)
      | (with_reducible exact LeO.none _)
      | (with_reducible refine LeO.ite ?_ ?_)
      | (with_reducible refine LeO.bind ?_ (fun _ => ?_))
      | exact ih0 _ _
      | exact interlockref04_RightRow.mono _ _
      | exact interlockref05_first.mono _ _
      | exact LeO.none _
      | refine LeO.ite ?_ ?_
      | refine LeO.bind ?_ (fun _ => ?_)
theorem interlockref05_Decode.mono : ∀ a0 k, LeO (interlockref05_Decode.f k a0) (interlockref05_Decode.f (k + 1) a0) := by
  intro a0 k
  have ih0 := interlockref05_Decode.mono_l k
  unfold interlockref05_Decode.f
  repeat' first
      | (with_reducible exact ih0 _ _)
      | (with_reducible exact interlockref04_RightRow.mono _ _)
      | (with_reducible exact interlockref05_first.mono _ _)
      | (with_reducible exact LeO.refl _)
      | (with_reducible exact LeO.none _)
      | (with_reducible refine LeO.ite ?_ ?_)
      | (with_reducible refine LeO.bind ?_ (fun _ => ?_))
      | exact ih0 _ _
      | exact interlockref04_RightRow.mono _ _
      | exact interlockref05_first.mono _ _
      | exact LeO.none _
      | refine LeO.ite ?_ ?_
      | refine LeO.bind ?_ (fun _ => ?_)
end Go.Proofs.YtjcgbppicdccdaaDoor.Q
end
section
/- What Go functions compute, as Lean functions, and that the machine's call comes to just that; no conditions beyond each theorem's own. (Written by pp.py of this repo, over the kit's print.py.) -/
namespace Go.Proofs.YtjcgbppicdccdaaDoor.Q
open Go.RowKit Go.Proofs.YtjcgbppicdccdaaDoorW.PrintWords Go.Proofs.YtjcgbppicdccdaaDoorW.PrintLast Go.Proofs.YtjcgbppicdccdaaDoorW.PrintMore
attribute [local go_sem] max2_int min2_int max_two min_two max_three min_three max_four min_four   -- for this text's walks alone
set_option linter.unusedVariables false
set_option linter.unusedSimpArgs false

/-! ### key_Pick: function 22 -/
def key_Pick.l0 : Nat → List (S43) → List (S43) → List Int → Int → Int → Option ((List (S43)) × Bool)
  | 0, _, _, _, _, _ => none
  | k + 1, x0, x6, x9, x10, x11 => if x11 < x10 then (if 0 ≤ x11 then (if x11 < (x9.length : Int) then (if (rd x9 x11) < 0 then (some (([] : List (S43)), false)) else (if (rd x9 x11) ≥ (x0.length : Int) then (some (([] : List (S43)), false)) else (if 0 ≤ (rd x9 x11) then (if (rd x9 x11) < (x0.length : Int) then (if x6.length < 4398046511104 then (key_Pick.l0 k x0 (x6 ++ [(⟨(rd_T43 x0 (rd x9 x11)).f0, (rd_T43 x0 (rd x9 x11)).f1, (rd_T43 x0 (rd x9 x11)).f2⟩ : S43)]) x9 x10 (wrap64 (x11 + 1))) else (none)) else (none)) else (none)))) else (none)) else (none)) else (some (x6, true))
def key_Pick.f (k : Nat) (l0 : List (S43)) (l1 : List Int) : Option ((List (S43)) × Bool) := key_Pick.l0 k l0 ([] : List (S43)) l1 (l1.length : Int) 0
theorem key_Pick.mono_l : ∀ k, (∀ y0 y1 y2 y3 y4, LeO (key_Pick.l0 k y0 y1 y2 y3 y4) (key_Pick.l0 (k + 1) y0 y1 y2 y3 y4))
  | 0 => fun _ _ _ _ _ r h => by simp [key_Pick.l0] at h
  | k + 1 => by
    have ih0 := key_Pick.mono_l k
    · intro y0 y1 y2 y3 y4
      unfold key_Pick.l0
      repeat' first
      | (with_reducible exact ih0 _ _ _ _ _)
      | (with_reducible exact LeO.refl _)
      | (with_reducible exact LeO.none _)
      | (with_reducible refine LeO.ite ?_ ?_)
      | (with_reducible refine LeO.bind ?_ (fun _ => ?_))
      | exact ih0 _ _ _ _ _
      | exact LeO.none _
      | refine LeO.ite ?_ ?_
      | refine LeO.bind ?_ (fun _ => ?_)
theorem key_Pick.mono : ∀ a0 a1 k, LeO (key_Pick.f k a0 a1) (key_Pick.f (k + 1) a0 a1) := by
  intro a0 a1 k
  have ih0 := key_Pick.mono_l k
  unfold key_Pick.f
  repeat' first
      | (with_reducible exact ih0 _ _ _ _ _)
      | (with_reducible exact LeO.refl _)
      | (with_reducible exact LeO.none _)
      | (with_reducible refine LeO.ite ?_ ?_)
      | (with_reducible refine LeO.bind ?_ (fun _ => ?_))
      | exact ih0 _ _ _ _ _
      | exact LeO.none _
      | refine LeO.ite ?_ ?_
      | refine LeO.bind ?_ (fun _ => ?_)
set_option maxHeartbeats 8000000 in
set_option maxRecDepth 100000 in
theorem key_Pick.calls (k : Nat) (A0 : Option Addr) (c0 : Nat) (l0 : List (S43)) (A1 : Option Addr) (c1 : Nat) (l1 : List Int) (r1 : List (S43)) (r2 : Bool) (w : World) (hr0 : Kd.C k43 w A0 l0.length l0) (hc0 : l0.length ≤ c0) (hr1 : Kd.C (Kd.int .i64) w A1 l1.length l1) (hc1 : l1.length ≤ c1) (h : key_Pick.f k l0 l1 = some (r1, r2)) :
    Calls Tryd.prog 22 #[.slice A0 l0.length c0, .slice A1 l1.length c1] w fun e w' => ∃ v0_ : Value, e = .returned (.tuple #[v0_, .bool r2]) ∧ Kd.R k43 43 w' w.heap.size (fun _ => True) v0_ r1 ∧ Below w.heap.size w w' := by
  have hu43 := Tryd.underlying43
  have HR0 := Aside0.mk hr0
  have HC0 := Aside0.mk hc0
  clear hr0 hc0
  have HR1 := Aside0.mk hr1
  have HC1 := Aside0.mk hc1
  clear hr1 hc1
  have HB := Aside0.mk (Below.refl w.heap.size w)
  have H : (key_Pick.l0 k l0 ([] : List (S43)) l1 (l1.length : Int) 0) = some (r1, r2) := h
  clear h
  have H' := Aside0.mk H
  clear H
  go_enter Tryd.func22, Tryd.ntmps22
  go_wp2
  go_loopg [6, 11] k (fun kq v6 v11 w' => ∃ (x6_1 : List (S43)) (x11_1 : Int), v11 = .int .i64 x11_1 ∧ Aside0 (key_Pick.l0 kq l0 x6_1 l1 (l1.length : Int) x11_1 = some (r1, r2)) ∧ Aside0 (kq ≤ k) ∧ Aside0 (Kd.R k43 43 w' w.heap.size (fun _ => True) v6 x6_1) ∧ Aside0 (Below w.heap.size w w'))
  case atStart => exact ⟨(([] : List (S43))), (0), (by first | rfl | (simp; done) | (simp [*]; done)), H', ⟨Nat.le_refl _⟩, ⟨by first | exact Kd.R_nil _ _ _ _ _ | exact Kd.N_nil _ _ _ _ _ | exact Kd.V_nil _ _ _ _ _ | exact Kd.Q_nil _ _ _ _ _ | exact Kd.S_nil _ _ _ _ _⟩, ⟨by repeat (first | (with_reducible first | exact HB.out | apply below_alloc | apply pw_below_drewN | apply below_drew1) | exact HB.out)⟩⟩
  case round =>
    clear H'
    try clear c1
    try clear c2
    try clear p2
    obtain ⟨x6_1, x11_1, rfl, HA, HK1, HO_6, HB⟩ := hrel
    cases gk with
    | zero => exact absurd HA.out (by simp [key_Pick.l0])
    | succ k1 =>
      have H := HA.out
      clear HA
      simp only [key_Pick.l0] at H
      by_cases c3 : x11_1 < (l1.length : Int)
      · rw [if_pos c3] at H
        have c3b0 : decide (x11_1 < (l1.length : Int)) = true := decide_eq_true c3
        clear c3
        by_cases c4 : 0 ≤ x11_1
        · rw [if_pos c4] at H
          have c4b0 : decide (0 ≤ x11_1) = true := decide_eq_true c4
          clear c4
          by_cases c5 : x11_1 < (l1.length : Int)
          · rw [if_pos c5] at H
            have c5b0 : decide (x11_1 < (l1.length : Int)) = true := decide_eq_true c5
            clear c5
            by_cases c6 : (rd l1 x11_1) < 0
            · rw [if_pos c6] at H
              have c6b0 : decide ((rd l1 x11_1) < 0) = true := decide_eq_true c6
              clear c6
              simp only [Option.some.injEq, Prod.mk.injEq] at H
              obtain ⟨rfl, rfl⟩ := H
              have p284 : 0 ≤ (x11_1 : Int) := of_decide_eq_true (by first | (with_reducible assumption) | assumption)
              have q284 : x11_1 < (l1.length : Int) := of_decide_eq_true (by first | (with_reducible assumption) | assumption)
              obtain ⟨ad284, e284, hx284_0⟩ := Kd.at_int HR1.out x11_1 p284 q284
              cases e284
              replace hx284_0 := (HB.out.cell (World.block_lt_of_cell? w _ hx284_0)).trans hx284_0
              replace p284 := eq_true p284
              replace q284 := eq_true q284
              go_wp2
              go_ret2
              exact ⟨_, by first | rfl | (simp [errW_none, errW_some] <;> rfl) | (simp [*, errW_none, errW_some] <;> rfl), by first | exact Kd.R_nil _ _ _ _ _ | exact Kd.N_nil _ _ _ _ _ | exact Kd.V_nil _ _ _ _ _ | exact Kd.Q_nil _ _ _ _ _ | exact Kd.S_nil _ _ _ _ _, by repeat (first | (with_reducible first | exact HB.out | apply below_alloc | apply pw_below_drewN | apply below_drew1) | exact HB.out)⟩
            · rw [if_neg c6] at H
              have c6b0 : decide ((rd l1 x11_1) < 0) = false := decide_eq_false c6
              clear c6
              by_cases c7 : (rd l1 x11_1) ≥ (l0.length : Int)
              · rw [if_pos c7] at H
                have c7b0 : decide ((l0.length : Int) ≤ (rd l1 x11_1)) = true := decide_eq_true c7
                clear c7
                simp only [Option.some.injEq, Prod.mk.injEq] at H
                obtain ⟨rfl, rfl⟩ := H
                have p284 : 0 ≤ (x11_1 : Int) := of_decide_eq_true (by first | (with_reducible assumption) | assumption)
                have q284 : x11_1 < (l1.length : Int) := of_decide_eq_true (by first | (with_reducible assumption) | assumption)
                obtain ⟨ad284, e284, hx284_0⟩ := Kd.at_int HR1.out x11_1 p284 q284
                cases e284
                replace hx284_0 := (HB.out.cell (World.block_lt_of_cell? w _ hx284_0)).trans hx284_0
                replace p284 := eq_true p284
                replace q284 := eq_true q284
                go_wp2
                go_ret2
                exact ⟨_, by first | rfl | (simp [errW_none, errW_some] <;> rfl) | (simp [*, errW_none, errW_some] <;> rfl), by first | exact Kd.R_nil _ _ _ _ _ | exact Kd.N_nil _ _ _ _ _ | exact Kd.V_nil _ _ _ _ _ | exact Kd.Q_nil _ _ _ _ _ | exact Kd.S_nil _ _ _ _ _, by repeat (first | (with_reducible first | exact HB.out | apply below_alloc | apply pw_below_drewN | apply below_drew1) | exact HB.out)⟩
              · rw [if_neg c7] at H
                have c7b0 : decide ((l0.length : Int) ≤ (rd l1 x11_1)) = false := decide_eq_false c7
                clear c7
                by_cases c8 : 0 ≤ (rd l1 x11_1)
                · rw [if_pos c8] at H
                  have c8b0 : decide (0 ≤ (rd l1 x11_1)) = true := decide_eq_true c8
                  clear c8
                  by_cases c9 : (rd l1 x11_1) < (l0.length : Int)
                  · rw [if_pos c9] at H
                    have c9b0 : decide ((rd l1 x11_1) < (l0.length : Int)) = true := decide_eq_true c9
                    clear c9
                    by_cases c10 : x6_1.length < 4398046511104
                    · rw [if_pos c10] at H
                      have LMc10 := Aside0.mk c10
                      clear c10
                      obtain ⟨y286, hy286⟩ : ∃ y_ : List (S43), y_ = (x6_1 ++ [(⟨(rd_T43 l0 (rd l1 x11_1)).f0, (rd_T43 l0 (rd l1 x11_1)).f1, (rd_T43 l0 (rd l1 x11_1)).f2⟩ : S43)]) := ⟨_, rfl⟩
                      replace H : (key_Pick.l0 k1 l0 y286 l1 (l1.length : Int) (wrap64 (x11_1 + 1))) = some (r1, r2) := by first | (rw [hy286]; with_reducible exact H) | (have H2_ := (Option.bind_some _ _).symm.trans H; rw [hy286]; with_reducible exact H2_) | (have H2_ := (Option.bind_some _ _).symm.trans H; with_reducible exact H2_) | with_reducible exact H | (rw [hy286]; exact H) | exact H
                      have Ny286 := Aside0.mk hy286
                      clear hy286
                      have H' := Aside0.mk H
                      clear H
                      have p284 : 0 ≤ (x11_1 : Int) := of_decide_eq_true (by first | (with_reducible assumption) | assumption)
                      have q284 : x11_1 < (l1.length : Int) := of_decide_eq_true (by first | (with_reducible assumption) | assumption)
                      obtain ⟨ad284, e284, hx284_0⟩ := Kd.at_int HR1.out x11_1 p284 q284
                      cases e284
                      replace hx284_0 := (HB.out.cell (World.block_lt_of_cell? w _ hx284_0)).trans hx284_0
                      replace p284 := eq_true p284
                      replace q284 := eq_true q284
                      have p285 : 0 ≤ ((rd l1 x11_1) : Int) := of_decide_eq_true (by first | (with_reducible assumption) | assumption)
                      have q285 : (rd l1 x11_1) < (l0.length : Int) := of_decide_eq_true (by first | (with_reducible assumption) | assumption)
                      obtain ⟨ad285, e285, hx285_0, hx285_1, hx285_2⟩ := at_T43 HR0.out (rd l1 x11_1) p285 q285
                      cases e285
                      replace hx285_0 := (HB.out.cell (World.block_lt_of_cell? w _ hx285_0)).trans hx285_0
                      replace hx285_1 := (HB.out.cell (World.block_lt_of_cell? w _ hx285_1)).trans hx285_1
                      replace hx285_2 := (HB.out.cell (World.block_lt_of_cell? w _ hx285_2)).trans hx285_2
                      replace p285 := eq_true p285
                      replace q285 := eq_true q285
                      go_wp2_with (first | ((with_reducible refine gate_builtin (b := .append) (xs := #[.tmp 23, .tmp 28]) rfl ?_); (try (refine gate_guard (by rfl) ?_; dsimp only)); at_builtin; refine Kd.R_append k43 (w0 := w) w.heap.size rfl (.tmp 23) (.tmp 28) 23 43 (.agg #[(.int .i64 0), (.int .i64 0), (.string ⟨#[]⟩)]) 32 rfl Tryd.underlying23 info43 rfl (by decide) (by omega) u6 x6_1 (⟨(rd_T43 l0 (rd l1 x11_1)).f0, (rd_T43 l0 (rd l1 x11_1)).f1, (rd_T43 l0 (rd l1 x11_1)).f2⟩ : S43) [.int .i64 ((rd_T43 l0 (rd l1 x11_1)).f0), .int .i64 ((rd_T43 l0 (rd l1 x11_1)).f1), .string ((rd_T43 l0 (rd l1 x11_1)).f2)] (fun _ => True) (fun _ => False) rfl rfl ?aP (fun _ hk => hk.elim) ?aF ?aO ?aB ?aS ?aL ?_; (case aP => exact k43_mkM _ _ _ (⟨(rd_T43 l0 (rd l1 x11_1)).f0, (rd_T43 l0 (rd l1 x11_1)).f1, (rd_T43 l0 (rd l1 x11_1)).f2⟩ : S43)); (case aB => exact (by repeat (first | (with_reducible first | exact HB.out | apply below_alloc | apply pw_below_drewN | apply below_drew1) | exact HB.out))); (case aF => exact (fun _ _ => trivial)); (case aO => exact (by (with_reducible repeat (first | apply Kd.R_alloc | apply Kd.R_drewN | apply Kd.R_drew)); exact HO_6.out)); (case aS => exact (below_size (by repeat (first | (with_reducible first | exact HB.out | apply below_alloc | apply pw_below_drewN | apply below_drew1) | exact HB.out)))); (case aL => have := LMc10.out; omega); intro v287 w11 ho hb hg hat; rw [← Ny286.out] at ho; have n0_ := Aside0.mk (hb); have n1_ := Aside0.mk (ho); clear HB; clear HO_6; have HB := n0_; have HO288 := n1_; clear n0_ n1_; clear ho hb hg hat))
                      go_roundg k1
                      case measure => have := HK1.out; omega
                      case rel => exact ⟨(y286), (wrap64 (x11_1 + 1)), (by first | rfl | (simp; done) | (simp [*]; done)), H', ⟨by have := HK1.out; omega⟩, ⟨by (with_reducible repeat (first | apply Kd.R_alloc | apply Kd.R_drewN | apply Kd.R_drew)); exact HO288.out⟩, ⟨by repeat (first | (with_reducible first | exact HB.out | apply below_alloc | apply pw_below_drewN | apply below_drew1) | exact HB.out)⟩⟩
                    · rw [if_neg c10] at H
                      exact absurd H (by simp)
                  · rw [if_neg c9] at H
                    exact absurd H (by simp)
                · rw [if_neg c8] at H
                  exact absurd H (by simp)
          · rw [if_neg c5] at H
            exact absurd H (by simp)
        · rw [if_neg c4] at H
          exact absurd H (by simp)
      · rw [if_neg c3] at H
        have c3b0 : decide (x11_1 < (l1.length : Int)) = false := decide_eq_false c3
        clear c3
        simp only [Option.some.injEq, Prod.mk.injEq] at H
        obtain ⟨rfl, rfl⟩ := H
        go_wp2
        go_ret2
        exact ⟨_, by first | rfl | (simp [errW_none, errW_some] <;> rfl) | (simp [*, errW_none, errW_some] <;> rfl), by (with_reducible repeat (first | apply Kd.R_alloc | apply Kd.R_drewN | apply Kd.R_drew)); exact HO_6.out, by repeat (first | (with_reducible first | exact HB.out | apply below_alloc | apply pw_below_drewN | apply below_drew1) | exact HB.out)⟩

end Go.Proofs.YtjcgbppicdccdaaDoor.Q
end
section
/- What Go functions compute, as Lean functions, and that the machine's call comes to just that; no conditions beyond each theorem's own. (Written by pp.py of this repo, over the kit's print.py.) -/
namespace Go.Proofs.YtjcgbppicdccdaaDoor.Q
open Go.RowKit Go.Proofs.YtjcgbppicdccdaaDoorW.PrintWords Go.Proofs.YtjcgbppicdccdaaDoorW.PrintLast Go.Proofs.YtjcgbppicdccdaaDoorW.PrintMore
attribute [local go_sem] max2_int min2_int max_two min_two max_three min_three max_four min_four   -- for this text's walks alone
set_option linter.unusedVariables false
set_option linter.unusedSimpArgs false

/-! ### interlockref05_Pick: function 23 -/
def interlockref05_Pick.l0 : Nat → List (S43) → List Int → List (S43) → Int → Option ((List (S43)) × Bool)
  | 0, _, _, _, _ => none
  | k + 1, x0, x1, x6, x7 => if x7 < (x1.length : Int) then (if 0 ≤ x7 then (if (rd x1 x7) < 0 then (some (([] : List (S43)), false)) else (if (rd x1 x7) ≥ (x0.length : Int) then (some (([] : List (S43)), false)) else (if 0 ≤ (rd x1 x7) then (if (rd x1 x7) < (x0.length : Int) then (if x6.length < 4398046511104 then (interlockref05_Pick.l0 k x0 x1 (x6 ++ [(⟨(rd_T43 x0 (rd x1 x7)).f0, (rd_T43 x0 (rd x1 x7)).f1, (rd_T43 x0 (rd x1 x7)).f2⟩ : S43)]) (wrap64 (x7 + 1))) else (none)) else (none)) else (none)))) else (none)) else (some (x6, true))
def interlockref05_Pick.f (k : Nat) (l0 : List (S43)) (l1 : List Int) : Option ((List (S43)) × Bool) := interlockref05_Pick.l0 k l0 l1 (([] : List (S43))) 0
theorem interlockref05_Pick.mono_l : ∀ k, (∀ y0 y1 y2 y3, LeO (interlockref05_Pick.l0 k y0 y1 y2 y3) (interlockref05_Pick.l0 (k + 1) y0 y1 y2 y3))
  | 0 => fun _ _ _ _ r h => by simp [interlockref05_Pick.l0] at h
  | k + 1 => by
    have ih0 := interlockref05_Pick.mono_l k
    · intro y0 y1 y2 y3
      unfold interlockref05_Pick.l0
      repeat' first
      | (with_reducible exact ih0 _ _ _ _)
      | (with_reducible exact LeO.refl _)
      | (with_reducible exact LeO.none _)
      | (with_reducible refine LeO.ite ?_ ?_)
      | (with_reducible refine LeO.bind ?_ (fun _ => ?_))
      | exact ih0 _ _ _ _
      | exact LeO.none _
      | refine LeO.ite ?_ ?_
      | refine LeO.bind ?_ (fun _ => ?_)
theorem interlockref05_Pick.mono : ∀ a0 a1 k, LeO (interlockref05_Pick.f k a0 a1) (interlockref05_Pick.f (k + 1) a0 a1) := by
  intro a0 a1 k
  have ih0 := interlockref05_Pick.mono_l k
  unfold interlockref05_Pick.f
  repeat' first
      | (with_reducible exact ih0 _ _ _ _)
      | (with_reducible exact LeO.refl _)
      | (with_reducible exact LeO.none _)
      | (with_reducible refine LeO.ite ?_ ?_)
      | (with_reducible refine LeO.bind ?_ (fun _ => ?_))
      | exact ih0 _ _ _ _
      | exact LeO.none _
      | refine LeO.ite ?_ ?_
      | refine LeO.bind ?_ (fun _ => ?_)
set_option maxHeartbeats 8000000 in
set_option maxRecDepth 100000 in
theorem interlockref05_Pick.calls (k : Nat) (A0 : Option Addr) (c0 : Nat) (l0 : List (S43)) (A1 : Option Addr) (c1 : Nat) (l1 : List Int) (r1 : List (S43)) (r2 : Bool) (w : World) (hr0 : Kd.C k43 w A0 l0.length l0) (hc0 : l0.length ≤ c0) (hr1 : Kd.C (Kd.int .i64) w A1 l1.length l1) (hc1 : l1.length ≤ c1) (h : interlockref05_Pick.f k l0 l1 = some (r1, r2)) :
    Calls Tryd.prog 23 #[.slice A0 l0.length c0, .slice A1 l1.length c1] w fun e w' => ∃ v0_ : Value, e = .returned (.tuple #[v0_, .bool r2]) ∧ Kd.R k43 43 w' w.heap.size (fun _ => True) v0_ r1 ∧ Below w.heap.size w w' := by
  have hu43 := Tryd.underlying43
  have HR0 := Aside0.mk hr0
  have HC0 := Aside0.mk hc0
  clear hr0 hc0
  have HR1 := Aside0.mk hr1
  have HC1 := Aside0.mk hc1
  clear hr1 hc1
  have HB := Aside0.mk (Below.refl w.heap.size w)
  have H : (interlockref05_Pick.l0 k l0 l1 (([] : List (S43))) 0) = some (r1, r2) := h
  clear h
  obtain ⟨y289, hy289⟩ : ∃ y_ : List (S43), y_ = (([] : List (S43))) := ⟨_, rfl⟩
  replace H : (interlockref05_Pick.l0 k l0 l1 y289 0) = some (r1, r2) := by first | (rw [hy289]; with_reducible exact H) | (have H2_ := (Option.bind_some _ _).symm.trans H; rw [hy289]; with_reducible exact H2_) | (have H2_ := (Option.bind_some _ _).symm.trans H; with_reducible exact H2_) | with_reducible exact H | (rw [hy289]; exact H) | exact H
  have Ny289 := Aside0.mk hy289
  clear hy289
  have H' := Aside0.mk H
  clear H
  go_enter Tryd.func23, Tryd.ntmps23
  go_wp2_with (first | ((with_reducible refine gate_dst (N := 8) rfl ?_); (try (refine gate_guard (by rfl) ?_; dsimp only)); refine Kd.R_lit k43 _ 43 ?hg (N := 8) ?hd (xs := ([] : List (S43))) (inner := []) (ok := fun _ => True) (okp := fun _ => True) ?hr ?hp (fun _ hk => hk) trivial (Below.refl _ _) (Nat.le_refl _) (by simp) ?_; (case hd => rfl); (case hg => rfl); (case hr => first | (go_simp; done) | (go_simp; rfl)); (case hp => exact (Reps.none _ _)); intro v290 w3 ho4 hb hg_ hnew_; clear hg_ hnew_; (first | rw [← Ny289.out] at ho4 | (simp only [Int.reduceToNat] at ho4; rw [← Ny289.out] at ho4)); have n0_ := Aside0.mk (Kd.R_lower ho4 (below_size (by repeat (first | (with_reducible first | exact HB.out | apply below_alloc | apply pw_below_drewN | apply below_drew1) | exact HB.out)))); have n1_ := Aside0.mk (below_step (by repeat (first | (with_reducible first | exact HB.out | apply below_alloc | apply pw_below_drewN | apply below_drew1) | exact HB.out)) hb); clear HB; have HO291 := n0_; have HB := n1_; clear n0_ n1_; clear hb ho4))
  go_loopg [6, 7] k (fun kq v6 v7 w' => ∃ (x6_1 : List (S43)) (x7_1 : Int), v7 = .int .i64 x7_1 ∧ Aside0 (interlockref05_Pick.l0 kq l0 l1 x6_1 x7_1 = some (r1, r2)) ∧ Aside0 (kq ≤ k) ∧ Aside0 (Kd.R k43 43 w' w.heap.size (fun _ => True) v6 x6_1) ∧ Aside0 (Below w.heap.size w w'))
  case atStart => exact ⟨(y289), (0), (by first | rfl | (simp; done) | (simp [*]; done)), H', ⟨Nat.le_refl _⟩, ⟨by (with_reducible repeat (first | apply Kd.R_alloc | apply Kd.R_drewN | apply Kd.R_drew)); exact HO291.out⟩, ⟨by repeat (first | (with_reducible first | exact HB.out | apply below_alloc | apply pw_below_drewN | apply below_drew1) | exact HB.out)⟩⟩
  case round =>
    clear H'
    try clear c1
    try clear c2
    try clear p2
    obtain ⟨x6_1, x7_1, rfl, HA, HK1, HO_6, HB⟩ := hrel
    cases gk with
    | zero => exact absurd HA.out (by simp [interlockref05_Pick.l0])
    | succ k1 =>
      have H := HA.out
      clear HA
      simp only [interlockref05_Pick.l0] at H
      by_cases c5 : x7_1 < (l1.length : Int)
      · rw [if_pos c5] at H
        have c5b0 : decide (x7_1 < (l1.length : Int)) = true := decide_eq_true c5
        clear c5
        by_cases c6 : 0 ≤ x7_1
        · rw [if_pos c6] at H
          have c6b0 : decide (0 ≤ x7_1) = true := decide_eq_true c6
          clear c6
          by_cases c7 : (rd l1 x7_1) < 0
          · rw [if_pos c7] at H
            have c7b0 : decide ((rd l1 x7_1) < 0) = true := decide_eq_true c7
            clear c7
            simp only [Option.some.injEq, Prod.mk.injEq] at H
            obtain ⟨rfl, rfl⟩ := H
            have p292 : 0 ≤ (x7_1 : Int) := of_decide_eq_true (by first | (with_reducible assumption) | assumption)
            have q292 : x7_1 < (l1.length : Int) := of_decide_eq_true (by first | (with_reducible assumption) | assumption)
            obtain ⟨ad292, e292, hx292_0⟩ := Kd.at_int HR1.out x7_1 p292 q292
            cases e292
            replace hx292_0 := (HB.out.cell (World.block_lt_of_cell? w _ hx292_0)).trans hx292_0
            replace p292 := eq_true p292
            replace q292 := eq_true q292
            go_wp2
            go_ret2
            exact ⟨_, by first | rfl | (simp [errW_none, errW_some] <;> rfl) | (simp [*, errW_none, errW_some] <;> rfl), by first | exact Kd.R_nil _ _ _ _ _ | exact Kd.N_nil _ _ _ _ _ | exact Kd.V_nil _ _ _ _ _ | exact Kd.Q_nil _ _ _ _ _ | exact Kd.S_nil _ _ _ _ _, by repeat (first | (with_reducible first | exact HB.out | apply below_alloc | apply pw_below_drewN | apply below_drew1) | exact HB.out)⟩
          · rw [if_neg c7] at H
            have c7b0 : decide ((rd l1 x7_1) < 0) = false := decide_eq_false c7
            clear c7
            by_cases c8 : (rd l1 x7_1) ≥ (l0.length : Int)
            · rw [if_pos c8] at H
              have c8b0 : decide ((l0.length : Int) ≤ (rd l1 x7_1)) = true := decide_eq_true c8
              clear c8
              simp only [Option.some.injEq, Prod.mk.injEq] at H
              obtain ⟨rfl, rfl⟩ := H
              have p292 : 0 ≤ (x7_1 : Int) := of_decide_eq_true (by first | (with_reducible assumption) | assumption)
              have q292 : x7_1 < (l1.length : Int) := of_decide_eq_true (by first | (with_reducible assumption) | assumption)
              obtain ⟨ad292, e292, hx292_0⟩ := Kd.at_int HR1.out x7_1 p292 q292
              cases e292
              replace hx292_0 := (HB.out.cell (World.block_lt_of_cell? w _ hx292_0)).trans hx292_0
              replace p292 := eq_true p292
              replace q292 := eq_true q292
              have p293 : 0 ≤ (x7_1 : Int) := of_decide_eq_true (by first | (with_reducible assumption) | assumption)
              have q293 : x7_1 < (l1.length : Int) := of_decide_eq_true (by first | (with_reducible assumption) | assumption)
              obtain ⟨ad293, e293, hx293_0⟩ := Kd.at_int HR1.out x7_1 p293 q293
              obtain rfl : ad292 = ad293 := (by injection e293)
              replace hx293_0 := (HB.out.cell (World.block_lt_of_cell? w _ hx293_0)).trans hx293_0
              replace p293 := eq_true p293
              replace q293 := eq_true q293
              go_wp2
              go_ret2
              exact ⟨_, by first | rfl | (simp [errW_none, errW_some] <;> rfl) | (simp [*, errW_none, errW_some] <;> rfl), by first | exact Kd.R_nil _ _ _ _ _ | exact Kd.N_nil _ _ _ _ _ | exact Kd.V_nil _ _ _ _ _ | exact Kd.Q_nil _ _ _ _ _ | exact Kd.S_nil _ _ _ _ _, by repeat (first | (with_reducible first | exact HB.out | apply below_alloc | apply pw_below_drewN | apply below_drew1) | exact HB.out)⟩
            · rw [if_neg c8] at H
              have c8b0 : decide ((l0.length : Int) ≤ (rd l1 x7_1)) = false := decide_eq_false c8
              clear c8
              by_cases c9 : 0 ≤ (rd l1 x7_1)
              · rw [if_pos c9] at H
                have c9b0 : decide (0 ≤ (rd l1 x7_1)) = true := decide_eq_true c9
                clear c9
                by_cases c10 : (rd l1 x7_1) < (l0.length : Int)
                · rw [if_pos c10] at H
                  have c10b0 : decide ((rd l1 x7_1) < (l0.length : Int)) = true := decide_eq_true c10
                  clear c10
                  by_cases c11 : x6_1.length < 4398046511104
                  · rw [if_pos c11] at H
                    have LMc11 := Aside0.mk c11
                    clear c11
                    obtain ⟨y296, hy296⟩ : ∃ y_ : List (S43), y_ = (x6_1 ++ [(⟨(rd_T43 l0 (rd l1 x7_1)).f0, (rd_T43 l0 (rd l1 x7_1)).f1, (rd_T43 l0 (rd l1 x7_1)).f2⟩ : S43)]) := ⟨_, rfl⟩
                    replace H : (interlockref05_Pick.l0 k1 l0 l1 y296 (wrap64 (x7_1 + 1))) = some (r1, r2) := by first | (rw [hy296]; with_reducible exact H) | (have H2_ := (Option.bind_some _ _).symm.trans H; rw [hy296]; with_reducible exact H2_) | (have H2_ := (Option.bind_some _ _).symm.trans H; with_reducible exact H2_) | with_reducible exact H | (rw [hy296]; exact H) | exact H
                    have Ny296 := Aside0.mk hy296
                    clear hy296
                    have H' := Aside0.mk H
                    clear H
                    have p292 : 0 ≤ (x7_1 : Int) := of_decide_eq_true (by first | (with_reducible assumption) | assumption)
                    have q292 : x7_1 < (l1.length : Int) := of_decide_eq_true (by first | (with_reducible assumption) | assumption)
                    obtain ⟨ad292, e292, hx292_0⟩ := Kd.at_int HR1.out x7_1 p292 q292
                    cases e292
                    replace hx292_0 := (HB.out.cell (World.block_lt_of_cell? w _ hx292_0)).trans hx292_0
                    replace p292 := eq_true p292
                    replace q292 := eq_true q292
                    have p293 : 0 ≤ (x7_1 : Int) := of_decide_eq_true (by first | (with_reducible assumption) | assumption)
                    have q293 : x7_1 < (l1.length : Int) := of_decide_eq_true (by first | (with_reducible assumption) | assumption)
                    obtain ⟨ad293, e293, hx293_0⟩ := Kd.at_int HR1.out x7_1 p293 q293
                    obtain rfl : ad292 = ad293 := (by injection e293)
                    replace hx293_0 := (HB.out.cell (World.block_lt_of_cell? w _ hx293_0)).trans hx293_0
                    replace p293 := eq_true p293
                    replace q293 := eq_true q293
                    have p294 : 0 ≤ (x7_1 : Int) := of_decide_eq_true (by first | (with_reducible assumption) | assumption)
                    have q294 : x7_1 < (l1.length : Int) := of_decide_eq_true (by first | (with_reducible assumption) | assumption)
                    obtain ⟨ad294, e294, hx294_0⟩ := Kd.at_int HR1.out x7_1 p294 q294
                    obtain rfl : ad292 = ad294 := (by injection e294)
                    replace hx294_0 := (HB.out.cell (World.block_lt_of_cell? w _ hx294_0)).trans hx294_0
                    replace p294 := eq_true p294
                    replace q294 := eq_true q294
                    have p295 : 0 ≤ ((rd l1 x7_1) : Int) := of_decide_eq_true (by first | (with_reducible assumption) | assumption)
                    have q295 : (rd l1 x7_1) < (l0.length : Int) := of_decide_eq_true (by first | (with_reducible assumption) | assumption)
                    obtain ⟨ad295, e295, hx295_0, hx295_1, hx295_2⟩ := at_T43 HR0.out (rd l1 x7_1) p295 q295
                    cases e295
                    replace hx295_0 := (HB.out.cell (World.block_lt_of_cell? w _ hx295_0)).trans hx295_0
                    replace hx295_1 := (HB.out.cell (World.block_lt_of_cell? w _ hx295_1)).trans hx295_1
                    replace hx295_2 := (HB.out.cell (World.block_lt_of_cell? w _ hx295_2)).trans hx295_2
                    replace p295 := eq_true p295
                    replace q295 := eq_true q295
                    go_wp2_with (first | ((with_reducible refine gate_builtin (b := .append) (xs := #[.tmp 29, .tmp 37]) rfl ?_); (try (refine gate_guard (by rfl) ?_; dsimp only)); at_builtin; refine Kd.R_append k43 (w0 := w) w.heap.size rfl (.tmp 29) (.tmp 37) 23 43 (.agg #[(.int .i64 0), (.int .i64 0), (.string ⟨#[]⟩)]) 32 rfl Tryd.underlying23 info43 rfl (by decide) (by omega) u6 x6_1 (⟨(rd_T43 l0 (rd l1 x7_1)).f0, (rd_T43 l0 (rd l1 x7_1)).f1, (rd_T43 l0 (rd l1 x7_1)).f2⟩ : S43) [.int .i64 ((rd_T43 l0 (rd l1 x7_1)).f0), .int .i64 ((rd_T43 l0 (rd l1 x7_1)).f1), .string ((rd_T43 l0 (rd l1 x7_1)).f2)] (fun _ => True) (fun _ => False) rfl rfl ?aP (fun _ hk => hk.elim) ?aF ?aO ?aB ?aS ?aL ?_; (case aP => exact k43_mkM _ _ _ (⟨(rd_T43 l0 (rd l1 x7_1)).f0, (rd_T43 l0 (rd l1 x7_1)).f1, (rd_T43 l0 (rd l1 x7_1)).f2⟩ : S43)); (case aB => exact (by repeat (first | (with_reducible first | exact HB.out | apply below_alloc | apply pw_below_drewN | apply below_drew1) | exact HB.out))); (case aF => exact (fun _ _ => trivial)); (case aO => exact (by (with_reducible repeat (first | apply Kd.R_alloc | apply Kd.R_drewN | apply Kd.R_drew)); exact HO_6.out)); (case aS => exact (below_size (by repeat (first | (with_reducible first | exact HB.out | apply below_alloc | apply pw_below_drewN | apply below_drew1) | exact HB.out)))); (case aL => have := LMc11.out; omega); intro v297 w12 ho hb hg hat; rw [← Ny296.out] at ho; have n0_ := Aside0.mk (hb); have n1_ := Aside0.mk (ho); clear HB; clear HO_6; have HB := n0_; have HO298 := n1_; clear n0_ n1_; clear ho hb hg hat))
                    go_roundg k1
                    case measure => have := HK1.out; omega
                    case rel => exact ⟨(y296), (wrap64 (x7_1 + 1)), (by first | rfl | (simp; done) | (simp [*]; done)), H', ⟨by have := HK1.out; omega⟩, ⟨by (with_reducible repeat (first | apply Kd.R_alloc | apply Kd.R_drewN | apply Kd.R_drew)); exact HO298.out⟩, ⟨by repeat (first | (with_reducible first | exact HB.out | apply below_alloc | apply pw_below_drewN | apply below_drew1) | exact HB.out)⟩⟩
                  · rw [if_neg c11] at H
                    exact absurd H (by simp)
                · rw [if_neg c10] at H
                  exact absurd H (by simp)
              · rw [if_neg c9] at H
                exact absurd H (by simp)
        · rw [if_neg c6] at H
          exact absurd H (by simp)
      · rw [if_neg c5] at H
        have c5b0 : decide (x7_1 < (l1.length : Int)) = false := decide_eq_false c5
        clear c5
        simp only [Option.some.injEq, Prod.mk.injEq] at H
        obtain ⟨rfl, rfl⟩ := H
        go_wp2
        go_ret2
        exact ⟨_, by first | rfl | (simp [errW_none, errW_some] <;> rfl) | (simp [*, errW_none, errW_some] <;> rfl), by (with_reducible repeat (first | apply Kd.R_alloc | apply Kd.R_drewN | apply Kd.R_drew)); exact HO_6.out, by repeat (first | (with_reducible first | exact HB.out | apply below_alloc | apply pw_below_drewN | apply below_drew1) | exact HB.out)⟩

end Go.Proofs.YtjcgbppicdccdaaDoor.Q
end
section
/- What Go functions compute, as Lean functions, and that the machine's call comes to just that; no conditions beyond each theorem's own. (Written by pp.py of this repo, over the kit's print.py.) -/
namespace Go.Proofs.YtjcgbppicdccdaaDoor.Q
open Go.RowKit Go.Proofs.YtjcgbppicdccdaaDoorW.PrintWords Go.Proofs.YtjcgbppicdccdaaDoorW.PrintLast Go.Proofs.YtjcgbppicdccdaaDoorW.PrintMore
attribute [local go_sem] max2_int min2_int max_two min_two max_three min_three max_four min_four   -- for this text's walks alone
set_option linter.unusedVariables false
set_option linter.unusedSimpArgs false

/-! ### interlockref00_SameInts: function 24 -/
def interlockref00_SameInts.l0 : Nat → List Int → List Int → Int → Option (Bool)
  | 0, _, _, _ => none
  | k + 1, x0, x1, x5 => if x5 < (x0.length : Int) then (if 0 ≤ x5 then (if x5 < (x1.length : Int) then (if (rd x0 x5) = (rd x1 x5) then (interlockref00_SameInts.l0 k x0 x1 (wrap64 (x5 + 1))) else (some false)) else (none)) else (none)) else (some true)
def interlockref00_SameInts.f (k : Nat) (l0 : List Int) (l1 : List Int) : Option (Bool) := if (l0.length : Int) = (l1.length : Int) then (interlockref00_SameInts.l0 k l0 l1 0) else (some false)
theorem interlockref00_SameInts.mono_l : ∀ k, (∀ y0 y1 y2, LeO (interlockref00_SameInts.l0 k y0 y1 y2) (interlockref00_SameInts.l0 (k + 1) y0 y1 y2))
  | 0 => fun _ _ _ r h => by simp [interlockref00_SameInts.l0] at h
  | k + 1 => by
    have ih0 := interlockref00_SameInts.mono_l k
    · intro y0 y1 y2
      unfold interlockref00_SameInts.l0
      repeat' first
      | (with_reducible exact ih0 _ _ _)
      | (with_reducible exact LeO.refl _)
      | (with_reducible exact LeO.none _)
      | (with_reducible refine LeO.ite ?_ ?_)
      | (with_reducible refine LeO.bind ?_ (fun _ => ?_))
      | exact ih0 _ _ _
      | exact LeO.none _
      | refine LeO.ite ?_ ?_
      | refine LeO.bind ?_ (fun _ => ?_)
theorem interlockref00_SameInts.mono : ∀ a0 a1 k, LeO (interlockref00_SameInts.f k a0 a1) (interlockref00_SameInts.f (k + 1) a0 a1) := by
  intro a0 a1 k
  have ih0 := interlockref00_SameInts.mono_l k
  unfold interlockref00_SameInts.f
  repeat' first
      | (with_reducible exact ih0 _ _ _)
      | (with_reducible exact LeO.refl _)
      | (with_reducible exact LeO.none _)
      | (with_reducible refine LeO.ite ?_ ?_)
      | (with_reducible refine LeO.bind ?_ (fun _ => ?_))
      | exact ih0 _ _ _
      | exact LeO.none _
      | refine LeO.ite ?_ ?_
      | refine LeO.bind ?_ (fun _ => ?_)
set_option maxHeartbeats 8000000 in
set_option maxRecDepth 100000 in
theorem interlockref00_SameInts.calls (k : Nat) (A0 : Option Addr) (c0 : Nat) (l0 : List Int) (A1 : Option Addr) (c1 : Nat) (l1 : List Int) (r : Bool) (w : World) (hr0 : Kd.C (Kd.int .i64) w A0 l0.length l0) (hc0 : l0.length ≤ c0) (hr1 : Kd.C (Kd.int .i64) w A1 l1.length l1) (hc1 : l1.length ≤ c1) (h : interlockref00_SameInts.f k l0 l1 = some r) :
    Calls Tryd.prog 24 #[.slice A0 l0.length c0, .slice A1 l1.length c1] w fun e w' => e = .returned (.bool r) ∧ Drawn0 w w' := by
  have HR0 := Aside0.mk hr0
  have HC0 := Aside0.mk hc0
  clear hr0 hc0
  have HR1 := Aside0.mk hr1
  have HC1 := Aside0.mk hc1
  clear hr1 hc1
  have H : (if (l0.length : Int) = (l1.length : Int) then (interlockref00_SameInts.l0 k l0 l1 0) else (some false)) = some r := h
  clear h
  by_cases c3 : (l0.length : Int) = (l1.length : Int)
  · rw [if_pos c3] at H
    have c3b0 : ((l0.length : Int) == (l1.length : Int)) = true := beq_iff_eq.mpr c3
    have c3b1 : ((l0.length : Int) != (l1.length : Int)) = false := bne_eq_false_iff_eq.mpr c3
    have c3b2 : (l0.length == l1.length) = true := by first | simpa using c3 | (simp at c3 ⊢; omega)
    clear c3
    have H' := Aside0.mk H
    clear H
    go_enter Tryd.func24, Tryd.ntmps24
    go_wp2
    repeat (go_quiet (fail); try go_wp2)
    go_loopg [5] k (fun kq v5 w' => ∃ (x5_1 : Int), v5 = .int .i64 x5_1 ∧ Aside0 (interlockref00_SameInts.l0 kq l0 l1 x5_1 = some r) ∧ Aside0 (kq ≤ k) ∧ Drawn0 w w')
    case atStart => exact ⟨(0), (by first | rfl | (simp; done) | (simp [*]; done)), H', ⟨Nat.le_refl _⟩, by repeat (first | exact Drawn0.refl _ | apply Drawn0.step)⟩
    case round =>
      clear H'
      try clear c1
      try clear c2
      try clear p2
      try clear c3
      try clear c3b0
      try clear c3b1
      try clear c3b2
      obtain ⟨x5_1, rfl, HA, HK1, ⟨m1, rfl⟩⟩ := hrel
      cases gk with
      | zero => exact absurd HA.out (by simp [interlockref00_SameInts.l0])
      | succ k1 =>
        have H := HA.out
        clear HA
        simp only [interlockref00_SameInts.l0] at H
        by_cases c4 : x5_1 < (l0.length : Int)
        · rw [if_pos c4] at H
          have c4b0 : decide (x5_1 < (l0.length : Int)) = true := decide_eq_true c4
          clear c4
          by_cases c5 : 0 ≤ x5_1
          · rw [if_pos c5] at H
            have c5b0 : decide (0 ≤ x5_1) = true := decide_eq_true c5
            clear c5
            by_cases c6 : x5_1 < (l1.length : Int)
            · rw [if_pos c6] at H
              have c6b0 : decide (x5_1 < (l1.length : Int)) = true := decide_eq_true c6
              clear c6
              by_cases c7 : (rd l0 x5_1) = (rd l1 x5_1)
              · rw [if_pos c7] at H
                have c7b0 : ((rd l0 x5_1) == (rd l1 x5_1)) = true := beq_iff_eq.mpr c7
                have c7b1 : ((rd l0 x5_1) != (rd l1 x5_1)) = false := bne_eq_false_iff_eq.mpr c7
                clear c7
                have H' := Aside0.mk H
                clear H
                have p299 : 0 ≤ (x5_1 : Int) := of_decide_eq_true (by first | (with_reducible assumption) | assumption)
                have q299 : x5_1 < (l0.length : Int) := of_decide_eq_true (by first | (with_reducible assumption) | assumption)
                obtain ⟨ad299, e299, hx299_0⟩ := Kd.at_int HR0.out x5_1 p299 q299
                cases e299
                replace p299 := eq_true p299
                replace q299 := eq_true q299
                have p300 : 0 ≤ (x5_1 : Int) := of_decide_eq_true (by first | (with_reducible assumption) | assumption)
                have q300 : x5_1 < (l1.length : Int) := of_decide_eq_true (by first | (with_reducible assumption) | assumption)
                obtain ⟨ad300, e300, hx300_0⟩ := Kd.at_int HR1.out x5_1 p300 q300
                cases e300
                replace p300 := eq_true p300
                replace q300 := eq_true q300
                go_wp2
                repeat (go_quiet (fail); try go_wp2)
                go_roundg k1
                case measure => have := HK1.out; omega
                case rel => exact ⟨(wrap64 (x5_1 + 1)), (by first | rfl | (simp; done) | (simp [*]; done)), H', ⟨by have := HK1.out; omega⟩, by repeat (first | exact Drawn0.refl _ | apply Drawn0.step)⟩
              · rw [if_neg c7] at H
                have c7b0 : ((rd l0 x5_1) == (rd l1 x5_1)) = false := beq_eq_false_iff_ne.mpr c7
                have c7b1 : ((rd l0 x5_1) != (rd l1 x5_1)) = true := bne_iff_ne.mpr c7
                obtain rfl := Option.some.inj H
                have p299 : 0 ≤ (x5_1 : Int) := of_decide_eq_true (by first | (with_reducible assumption) | assumption)
                have q299 : x5_1 < (l0.length : Int) := of_decide_eq_true (by first | (with_reducible assumption) | assumption)
                obtain ⟨ad299, e299, hx299_0⟩ := Kd.at_int HR0.out x5_1 p299 q299
                cases e299
                replace p299 := eq_true p299
                replace q299 := eq_true q299
                have p300 : 0 ≤ (x5_1 : Int) := of_decide_eq_true (by first | (with_reducible assumption) | assumption)
                have q300 : x5_1 < (l1.length : Int) := of_decide_eq_true (by first | (with_reducible assumption) | assumption)
                obtain ⟨ad300, e300, hx300_0⟩ := Kd.at_int HR1.out x5_1 p300 q300
                cases e300
                replace p300 := eq_true p300
                replace q300 := eq_true q300
                go_wp2
                repeat (go_quiet (fail); try go_wp2)
                go_ret
                exact ⟨by first | rfl | (simp; done) | (simp [*]; done), by repeat (first | exact Drawn0.refl _ | apply Drawn0.step)⟩
            · rw [if_neg c6] at H
              exact absurd H (by simp)
          · rw [if_neg c5] at H
            exact absurd H (by simp)
        · rw [if_neg c4] at H
          have c4b0 : decide (x5_1 < (l0.length : Int)) = false := decide_eq_false c4
          clear c4
          obtain rfl := Option.some.inj H
          go_wp2
          repeat (go_quiet (fail); try go_wp2)
          go_ret
          exact ⟨by first | rfl | (simp; done) | (simp [*]; done), by repeat (first | exact Drawn0.refl _ | apply Drawn0.step)⟩
  · rw [if_neg c3] at H
    have c3b0 : ((l0.length : Int) == (l1.length : Int)) = false := beq_eq_false_iff_ne.mpr c3
    have c3b1 : ((l0.length : Int) != (l1.length : Int)) = true := bne_iff_ne.mpr c3
    have c3b2 : (l0.length == l1.length) = false := by first | simpa using c3 | (simp at c3 ⊢; omega)
    obtain rfl := Option.some.inj H
    go_enter Tryd.func24, Tryd.ntmps24
    go_wp2
    repeat (go_quiet (fail); try go_wp2)
    go_ret
    exact ⟨by first | rfl | (simp; done) | (simp [*]; done), by repeat (first | exact Drawn0.refl _ | apply Drawn0.step)⟩

end Go.Proofs.YtjcgbppicdccdaaDoor.Q
end
section
/- Plain law: the document's key answers what the key does: a key's row, picked values. -/
namespace Go.Proofs.YtjcgbppicdccdaaDoor.Q
open Go.RowKit Go.Proofs.YtjcgbppicdccdaaDoorW.PrintWords Go.Proofs.YtjcgbppicdccdaaDoorW.PrintLast Go.Proofs.YtjcgbppicdccdaaDoorW.PrintMore
set_option linter.unusedVariables false
set_option linter.unusedSimpArgs false

theorem decGo_out : ∀ (n : Nat) (rest : List UInt8) (bad : Bool) (out : List S43), ∃ t, (decGo n rest bad out).1 = out ++ t
  | 0, rest, bad, out => ⟨[], by simp [decGo]⟩
  | n + 1, rest, bad, out => by
    rw [decGo]
    split
    · obtain ⟨t, ht⟩ := decGo_out n (valueL rest).2.1 (valueL rest).2.2 (out ++ [(valueL rest).1])
      exact ⟨(valueL rest).1 :: t, by rw [ht]; simp⟩
    · exact ⟨[], by simp⟩
def fin (p : List S43 × Bool) : List S43 × Bool := if p.2 = true then ([], false) else if rightRow p.1 = true then (p.1, true) else ([], false)
theorem decL_fin (s : List UInt8) : decL s = fin (decGo 10 s false []) := rfl
theorem fin_wrong {p : List S43 × Bool} (h : p.2 = true ∨ ¬ rightRow p.1 = true) : fin p = ([], false) := by
  unfold fin
  by_cases h1 : p.2 = true
  · rw [if_pos h1]
  · rw [if_neg h1, if_neg (h.resolve_left h1)]
theorem wrong_in {v : S43} (hv : 3 < v.f0) (a b : List S43) : ¬ rightRow (a ++ [v] ++ b) = true := by
  intro h
  obtain ⟨_, ha⟩ := rightRow_all h
  have := List.all_eq_true.1 ha v (by simp)
  rcases right_cases this with h | h | h | h <;> omega
theorem dec_ref_ev : ∀ (n : Nat) (rest : List UInt8) (out : List S43), out.length + n = 9 → rest.length ≤ 100000 → Ev (fun k => interlockref05_Decode.l0 k (bA rest) out) (fin (decGo (n + 1) rest false out)) := by
  have nil_case : ∀ (m : Nat) (out : List S43), out.length ≤ 9 → Ev (fun k => interlockref05_Decode.l0 k (bA []) out) (fin (decGo m [] false out)) := by
    intro m out ho
    have hd : decGo m [] false out = (out, false) := by
      cases m with
      | zero => rfl
      | succ m => rw [decGo, if_neg (by simp)]
    rw [hd]
    refine Ev.step (f := fun k => (interlockref04_RightRow.f k out).bind fun t => if t = true then some (out, true) else some ([], false)) (fun k => by simp only [interlockref05_Decode.l0]; rw [if_neg (by rw [bA_size]; decide)]) (Ev.bind (right_row_f out) ?_)
    unfold fin
    cases rightRow out with
    | true => exact Ev.some_ fun _ => rfl
    | false => exact Ev.some_ fun _ => rfl
  intro n
  induction n with
  | zero =>
    intro rest out ho hr
    cases rest with
    | nil => exact nil_case 1 out (by omega)
    | cons c r =>
      have hf : fin (decGo 1 (c :: r) false out) = ([], false) := by
        rw [decGo, if_neg (by omega)]
        exact fin_wrong (.inr fun h => by have := (rightRow_all h).1; simp at this; omega)
      rw [hf]
      refine Ev.step (f := fun k => (interlockref05_first.f k (bA (c :: r))).bind fun t => if t.2.2.2.2 = true then some ([], false) else some ([], false)) (fun k => ?_) (Ev.bind (first_ev c r (by simp at hr; omega)) (Ev.some_ fun _ => by simp))
      simp only [interlockref05_Decode.l0]
      rw [if_pos (by rw [bA_size]; simp)]
      simp only [if_pos (show (out.length : Int) > 8 by omega)]
  | succ n ih =>
    intro rest out ho hr
    cases rest with
    | nil => exact nil_case _ out (by omega)
    | cons c r =>
      have hd : decGo (n + 2) (c :: r) false out = decGo (n + 1) (valueL (c :: r)).2.1 (valueL (c :: r)).2.2 (out ++ [(valueL (c :: r)).1]) := by
        rw [decGo, if_pos ⟨by simp, rfl, by omega⟩]
      have hr' : r.length ≤ 100000 := by simp at hr; omega
      refine Ev.step (f := fun k => (interlockref05_first.f k (bA (c :: r))).bind fun t => if t.2.2.2.2 = true then interlockref05_Decode.l0 k t.2.2.2.1 (out ++ [⟨t.1, t.2.1, t.2.2.1⟩]) else some ([], false)) (fun k => ?_) (Ev.bind (first_ev c r hr') ?_)
      · simp only [interlockref05_Decode.l0]
        rw [if_pos (by rw [bA_size]; simp)]
        simp only [if_neg (show ¬ (out.length : Int) > 8 by omega), if_pos (show out.length < 4398046511104 by omega)]
      · rcases first_value c r with ⟨v, r', e1, e2⟩ | ⟨e1, v, r', b, e2, e3⟩
        · simp only [e2, if_true]
          rw [hd, e1]
          have hlen : r'.length ≤ 100000 := by
            have := valueL_len c r
            rw [e1] at this
            exact Nat.le_trans this hr'
          exact ih r' (out ++ [v]) (by simp; omega) hlen
        · simp only [e1, Bool.false_eq_true, if_false]
          refine Ev.some_ fun _ => ?_
          rw [hd, e2]
          congr 1
          rw [fin_wrong]
          rcases e3 with rfl | e3
          · rw [decGo_stop]
            exact .inl rfl
          · obtain ⟨t, ht⟩ := decGo_out (n + 1) r' b (out ++ [v])
            rw [ht]
            exact .inr (wrong_in e3 out t)
theorem Decode_ev (s : List UInt8) (h : s.length ≤ 100000) : Ev (fun k => interlockref05_Decode.f k (bA s)) (decL s) := dec_ref_ev 9 s [] rfl h

/-- Some values of a row. -/
def pickG (l : List S43) : List Int → List S43 → List S43 × Bool
  | [], out => (out, true)
  | a :: q, out => if a < 0 then ([], false) else if a ≥ (l.length : Int) then ([], false) else pickG l q (out ++ [rd_T43 l a])
theorem rdI_get (l : List Int) (i : Nat) (h : i < l.length) : rd l (i : Int) = l[i] := by unfold rd; simp [h]
theorem pick_ref_ev (l : List S43) (at_ : List Int) (hl : at_.length ≤ 100) : ∀ (d i : Nat) (out : List S43), i + d = at_.length → out.length ≤ i → Ev (fun k => interlockref05_Pick.l0 k l at_ out i) (pickG l (at_.drop i) out) := by
  intro d
  induction d with
  | zero =>
    intro i out hi ho
    refine Ev.step (f := fun k => some (out, true)) (fun k => by simp only [interlockref05_Pick.l0]; rw [if_neg (by omega)]) (Ev.some_ fun _ => ?_)
    rw [List.drop_eq_nil_iff.2 (by omega)]
    rfl
  | succ d ih =>
    intro i out hi ho
    have hlt : i < at_.length := by omega
    have e := rdI_get at_ i hlt
    rw [List.drop_eq_getElem_cons hlt]
    obtain ⟨a, ha⟩ : ∃ a, at_[i] = a := ⟨_, rfl⟩
    rw [ha] at e ⊢
    rw [pickG]
    by_cases h1 : a < 0
    · refine Ev.step (f := fun k => some ([], false)) (fun k => by simp only [interlockref05_Pick.l0]; rw [if_pos (by omega), if_pos (by omega), e, if_pos h1]) (Ev.some_ fun _ => by rw [if_pos h1])
    · by_cases h2 : a ≥ (l.length : Int)
      · refine Ev.step (f := fun k => some ([], false)) (fun k => by simp only [interlockref05_Pick.l0]; rw [if_pos (by omega), if_pos (by omega), e, if_neg h1, if_pos h2]) (Ev.some_ fun _ => by rw [if_neg h1, if_pos h2])
      · rw [if_neg h1, if_neg h2]
        refine Ev.step (f := fun k => interlockref05_Pick.l0 k l at_ (out ++ [rd_T43 l a]) ((i + 1 : Nat) : Int)) (fun k => ?_) (ih (i + 1) _ (by omega) (by simp; omega))
        simp only [interlockref05_Pick.l0]
        rw [if_pos (by omega), if_pos (by omega), e, if_neg h1, if_neg h2, if_pos (by omega), if_pos (by omega), if_pos (by omega), wrap_succ i (by omega)]
theorem pick_key_ev (l : List S43) (at_ : List Int) (hl : at_.length ≤ 100) : ∀ (d i : Nat) (out : List S43), i + d = at_.length → out.length ≤ i → Ev (fun k => key_Pick.l0 k l out at_ at_.length i) (pickG l (at_.drop i) out) := by
  intro d
  induction d with
  | zero =>
    intro i out hi ho
    refine Ev.step (f := fun k => some (out, true)) (fun k => by simp only [key_Pick.l0]; rw [if_neg (by omega)]) (Ev.some_ fun _ => ?_)
    rw [List.drop_eq_nil_iff.2 (by omega)]
    rfl
  | succ d ih =>
    intro i out hi ho
    have hlt : i < at_.length := by omega
    have e := rdI_get at_ i hlt
    rw [List.drop_eq_getElem_cons hlt]
    obtain ⟨a, ha⟩ : ∃ a, at_[i] = a := ⟨_, rfl⟩
    rw [ha] at e ⊢
    rw [pickG]
    by_cases h1 : a < 0
    · refine Ev.step (f := fun k => some ([], false)) (fun k => by simp only [key_Pick.l0]; rw [if_pos (by omega), if_pos (by omega), if_pos (by omega), e, if_pos h1]) (Ev.some_ fun _ => by rw [if_pos h1])
    · by_cases h2 : a ≥ (l.length : Int)
      · refine Ev.step (f := fun k => some ([], false)) (fun k => by simp only [key_Pick.l0]; rw [if_pos (by omega), if_pos (by omega), if_pos (by omega), e, if_neg h1, if_pos h2]) (Ev.some_ fun _ => by rw [if_neg h1, if_pos h2])
      · rw [if_neg h1, if_neg h2]
        refine Ev.step (f := fun k => key_Pick.l0 k l (out ++ [rd_T43 l a]) at_ at_.length ((i + 1 : Nat) : Int)) (fun k => ?_) (ih (i + 1) _ (by omega) (by simp; omega))
        simp only [key_Pick.l0]
        rw [if_pos (by omega), if_pos (by omega), if_pos (by omega), e, if_neg h1, if_neg h2, if_pos (by omega), if_pos (by omega), if_pos (by omega), wrap_succ i (by omega)]
theorem Pick_ref (l : List S43) (at_ : List Int) (hl : at_.length ≤ 100) : Ev (fun k => interlockref05_Pick.f k l at_) (pickG l at_ []) := pick_ref_ev l at_ hl at_.length 0 [] (by omega) (by simp)
theorem Pick_key (l : List S43) (at_ : List Int) (hl : at_.length ≤ 100) : Ev (fun k => key_Pick.f k l at_) (pickG l at_ []) := pick_key_ev l at_ hl at_.length 0 [] (by omega) (by simp)
theorem pickG_len (l : List S43) : ∀ (at_ : List Int) (out : List S43), (pickG l at_ out).1.length ≤ out.length + at_.length
  | [], out => by simp [pickG]
  | a :: q, out => by
    rw [pickG]
    split
    · simp
    · split
      · simp
      · have := pickG_len l q (out ++ [rd_T43 l a])
        simp only [List.length_append, List.length_cons, List.length_nil] at this ⊢
        omega
theorem ints_ev (x : List Int) (hl : x.length ≤ 100) : ∀ (d i : Nat), i + d = x.length → Ev (fun k => interlockref00_SameInts.l0 k x x i) true := by
  intro d
  induction d with
  | zero =>
    intro i hi
    exact Ev.step (f := fun k => some true) (fun k => by simp only [interlockref00_SameInts.l0]; rw [if_neg (by omega)]) (Ev.some_ fun _ => rfl)
  | succ d ih =>
    intro i hi
    refine Ev.step (f := fun k => interlockref00_SameInts.l0 k x x ((i + 1 : Nat) : Int)) (fun k => ?_) (ih (i + 1) (by omega))
    simp only [interlockref00_SameInts.l0]
    rw [if_pos (by omega), if_pos (by omega), if_pos (by omega), if_pos trivial, wrap_succ i (by omega)]
theorem ints_f (x : List Int) (hl : x.length ≤ 100) : Ev (fun k => interlockref00_SameInts.f k x x) true := by
  unfold interlockref00_SameInts.f
  simp only [if_true]
  exact ints_ev x hl x.length 0 (by omega)
end Go.Proofs.YtjcgbppicdccdaaDoor.Q
end
section
/- What Go functions compute, as Lean functions, and that the machine's call comes to just that; no conditions beyond each theorem's own. (Written by pp.py of this repo, over the kit's print.py.) -/
namespace Go.Proofs.YtjcgbppicdccdaaDoor.Q
open Go.RowKit Go.Proofs.YtjcgbppicdccdaaDoorW.PrintWords Go.Proofs.YtjcgbppicdccdaaDoorW.PrintLast Go.Proofs.YtjcgbppicdccdaaDoorW.PrintMore
attribute [local go_sem] max2_int min2_int max_two min_two max_three min_three max_four min_four   -- for this text's walks alone
set_option linter.unusedVariables false
set_option linter.unusedSimpArgs false

/-! ### interlockref00_CopyInts: function 19 -/
def interlockref00_CopyInts.f (l0 : List Int) : Option (List Int) := (some (([] : List Int) : List Int)).bind fun y221 => (if y221.length + l0.length < 17592186044416 then (some (y221 ++ l0)) else (none))
set_option maxHeartbeats 8000000 in
set_option maxRecDepth 100000 in
theorem interlockref00_CopyInts.calls (A0 : Option Addr) (c0 : Nat) (l0 : List Int) (r : List Int) (w : World) (hr0 : Kd.C (Kd.int .i64) w A0 l0.length l0) (hc0 : l0.length ≤ c0) (h : interlockref00_CopyInts.f l0 = some r) :
    Calls Tryd.prog 19 #[.slice A0 l0.length c0] w fun e w' => ∃ v0_ : Value, e = .returned (v0_) ∧ Kd.R (Kd.int .i64) 3 w' w.heap.size (fun _ => True) v0_ r ∧ Below w.heap.size w w' := by
  have HR0 := Aside0.mk hr0
  have HC0 := Aside0.mk hc0
  clear hr0 hc0
  have HB := Aside0.mk (Below.refl w.heap.size w)
  have H : ((some (([] : List Int) : List Int)).bind fun y221 => (if y221.length + l0.length < 17592186044416 then (some (y221 ++ l0)) else (none))) = some r := h
  clear h
  obtain ⟨y221, hy221⟩ : ∃ y_ : List Int, y_ = (([] : List Int)) := ⟨_, rfl⟩
  replace H : (if y221.length + l0.length < 17592186044416 then (some (y221 ++ l0)) else (none)) = some r := by first | (rw [hy221]; with_reducible exact H) | (have H2_ := (Option.bind_some _ _).symm.trans H; rw [hy221]; with_reducible exact H2_) | (have H2_ := (Option.bind_some _ _).symm.trans H; with_reducible exact H2_) | with_reducible exact H | (rw [hy221]; exact H) | exact H
  have Ny221 := Aside0.mk hy221
  clear hy221
  by_cases c2 : y221.length + l0.length < 17592186044416
  · rw [if_pos c2] at H
    have LMc2 := Aside0.mk c2
    clear c2
    obtain ⟨y224, hy224⟩ : ∃ y_ : List Int, y_ = (y221 ++ l0) := ⟨_, rfl⟩
    replace H : (some y224) = some r := by first | (rw [hy224]; with_reducible exact H) | (have H2_ := (Option.bind_some _ _).symm.trans H; rw [hy224]; with_reducible exact H2_) | (have H2_ := (Option.bind_some _ _).symm.trans H; with_reducible exact H2_) | with_reducible exact H | (rw [hy224]; exact H) | exact H
    have Ny224 := Aside0.mk hy224
    clear hy224
    obtain rfl := Option.some.inj H
    go_enter Tryd.func19, Tryd.ntmps19
    go_wp2_with (first | ((with_reducible refine gate_dst (N := 4) rfl ?_); refine Kd.R_lit (Kd.int .i64) _ 3 ?hg (N := 4) ?hd (xs := ([] : List Int)) (inner := []) (ok := fun _ => True) (okp := fun _ => True) ?hr ?hp (fun _ hk => hk) trivial (Below.refl _ _) (Nat.le_refl _) (by simp) ?_; (case hd => rfl); (case hg => rfl); (case hr => first | (go_simp; done) | (go_simp; rfl)); (case hp => exact (Reps.none _ _)); intro v222 w3 ho4 hb hg_ hnew_; clear hg_ hnew_; (first | rw [← Ny221.out] at ho4 | (simp only [Int.reduceToNat] at ho4; rw [← Ny221.out] at ho4)); have n0_ := Aside0.mk (Kd.R_lower ho4 (below_size (by repeat (first | (with_reducible first | exact HB.out | apply below_alloc | apply pw_below_drewN | apply below_drew1) | exact HB.out)))); have n1_ := Aside0.mk (below_step (by repeat (first | (with_reducible first | exact HB.out | apply below_alloc | apply pw_below_drewN | apply below_drew1) | exact HB.out)) hb); clear HB; have HO223 := n0_; have HB := n1_; clear n0_ n1_; clear hb ho4) | ((with_reducible refine gate_builtin (b := .append) (xs := #[.tmp 5, .tmp 6]) rfl ?_); at_builtin; refine Kd.R_append_rows (Kd.int .i64) (w0 := w) w.heap.size rfl (.tmp 5) (.tmp 6) 37 3 (.int .i64 0) 8 rfl Tryd.underlying37 info3 rfl (by decide) (by omega) v222 y221 l0 _ _ _ (fun _ => True) (fun _ => False) rfl rfl ?aO ?aR (fun _ _ h => h) (fun _ h => h.elim) ?aF ?aB ?aS ?aL ?_; (case aR => repeat (first | exact (Kd.C_below HR0.out HB.out) | (with_reducible refine Kd.C_alloc ?_ _) | (with_reducible refine Kd.C_drewN ?_ _) | (with_reducible refine Kd.C_drew ?_))); (case aB => exact (by repeat (first | (with_reducible first | exact HB.out | apply below_alloc | apply pw_below_drewN | apply below_drew1) | exact HB.out))); (case aF => exact (fun _ _ => trivial)); (case aO => exact (by (with_reducible repeat (first | apply Kd.R_alloc | apply Kd.R_drewN | apply Kd.R_drew)); exact HO223.out)); (case aS => exact (below_size (by repeat (first | (with_reducible first | exact HB.out | apply below_alloc | apply pw_below_drewN | apply below_drew1) | exact HB.out)))); (case aL => have := LMc2.out; omega); intro v225 w5 ho hb hg hat; rw [← Ny224.out] at ho; have n0_ := Aside0.mk (hb); have n1_ := Aside0.mk (ho); clear HB; clear HO223; have HB := n0_; have HO226 := n1_; clear n0_ n1_; clear ho hb hg hat))
    go_ret
    exact ⟨_, by first | rfl | (simp [errW_none, errW_some] <;> rfl) | (simp [*, errW_none, errW_some] <;> rfl), by (with_reducible repeat (first | apply Kd.R_alloc | apply Kd.R_drewN | apply Kd.R_drew)); exact HO226.out, by repeat (first | (with_reducible first | exact HB.out | apply below_alloc | apply pw_below_drewN | apply below_drew1) | exact HB.out)⟩
  · rw [if_neg c2] at H
    exact absurd H (by simp)

end Go.Proofs.YtjcgbppicdccdaaDoor.Q
end
section
/- What Go functions compute, as Lean functions, and that the machine's call comes to just that; no conditions beyond each theorem's own. (Written by pp.py of this repo, over the kit's print.py.) -/
namespace Go.Proofs.YtjcgbppicdccdaaDoor.Q
open Go.RowKit Go.Proofs.YtjcgbppicdccdaaDoorW.PrintWords Go.Proofs.YtjcgbppicdccdaaDoorW.PrintLast Go.Proofs.YtjcgbppicdccdaaDoorW.PrintMore
attribute [local go_sem] max2_int min2_int max_two min_two max_three min_three max_four min_four   -- for this text's walks alone
set_option linter.unusedVariables false
set_option linter.unusedSimpArgs false

/-! ### interlocklaw05_KeyAnswers: function 8 -/
def interlocklaw05_KeyAnswers.j0 : Nat → List (S43) → ByteArray → List Int → Bool → Option (Bool)
  | 0, _, _, _, _ => none
  | k + 1, x0, x1, x2, x34 => if x34 = true then (some true) else ((interlockref00_CopyRow.f x0).bind fun t303 => ((interlockref00_CopyInts.f x2).bind fun t306 => ((key_Encode.f t303).bind fun bt309 => ((interlockref05_Encode.f k x0).bind fun bt311 => ((key_Decode.f x1).bind fun bt313 => ((interlockref05_Decode.f k x1).bind fun bt317 => ((key_Pick.f k t303 t306).bind fun bt321 => ((interlockref05_Pick.f k x0 x2).bind fun bt325 => (if bt309.1.toList = bt311.1.toList then (if (bt309.2 == bt311.2) = true then ((interlockref00_SameRow.f k bt313.1 bt317.1).bind fun t329 => (if t329 = true then (if (bt313.2 == bt317.2) = true then ((interlockref00_SameRow.f k bt321.1 bt325.1).bind fun t330 => (if t330 = true then (if (bt321.2 == bt325.2) = true then ((key_Next.f x1).bind fun t331 => (if x1.size + 1 ≤ 9223372036854775807 then (if t331.toList = (x1 ++ (⟨#[255]⟩ : ByteArray)).toList then ((interlockref00_SameRow.f k t303 x0).bind fun t332 => (if t332 = true then ((interlockref00_SameInts.f k t306 x2).bind fun t333 => (some t333)) else (some false))) else (some false)) else (none))) else (some false)) else (some false))) else (some false)) else (some false))) else (some false)) else (some false))))))))))
def interlocklaw05_KeyAnswers.f (k : Nat) (l0 : List (S43)) (a1 : ByteArray) (l2 : List Int) : Option (Bool) := (interlocklaw05_alive.f).bind fun t301 => (if t301 = true then ((interlocklaw05_long.f k l0).bind fun t302 => (if t302 = true then (interlocklaw05_KeyAnswers.j0 k l0 a1 l2 true) else (if (a1.size : Int) > 1000 then (interlocklaw05_KeyAnswers.j0 k l0 a1 l2 true) else (interlocklaw05_KeyAnswers.j0 k l0 a1 l2 (decide ((l2.length : Int) > 100)))))) else (some false))
theorem interlocklaw05_KeyAnswers.mono_l : ∀ k, (∀ y0 y1 y2 y3, LeO (interlocklaw05_KeyAnswers.j0 k y0 y1 y2 y3) (interlocklaw05_KeyAnswers.j0 (k + 1) y0 y1 y2 y3))
  | 0 => fun _ _ _ _ r h => by simp [interlocklaw05_KeyAnswers.j0] at h
  | k + 1 => by
    have ih0 := interlocklaw05_KeyAnswers.mono_l k
    · intro y0 y1 y2 y3
      unfold interlocklaw05_KeyAnswers.j0
      repeat' first
      | (with_reducible exact ih0 _ _ _ _)
      | (with_reducible exact interlocklaw05_long.mono _ _)
      | (with_reducible exact interlockref00_SameInts.mono _ _ _)
      | (with_reducible exact interlockref00_SameRow.mono _ _ _)
      | (with_reducible exact interlockref05_Decode.mono _ _)
      | (with_reducible exact interlockref05_Encode.mono _ _)
      | (with_reducible exact interlockref05_Pick.mono _ _ _)
      | (with_reducible exact key_Pick.mono _ _ _)
      | (with_reducible exact LeO.refl _)
      | (with_reducible exact LeO.none _)
      | (with_reducible refine LeO.ite ?_ ?_)
      | (with_reducible refine LeO.bind ?_ (fun _ => ?_))
      | exact ih0 _ _ _ _
      | exact interlocklaw05_long.mono _ _
      | exact interlockref00_SameInts.mono _ _ _
      | exact interlockref00_SameRow.mono _ _ _
      | exact interlockref05_Decode.mono _ _
      | exact interlockref05_Encode.mono _ _
      | exact interlockref05_Pick.mono _ _ _
      | exact key_Pick.mono _ _ _
      | exact LeO.none _
      | refine LeO.ite ?_ ?_
      | refine LeO.bind ?_ (fun _ => ?_)
theorem interlocklaw05_KeyAnswers.mono : ∀ a0 a1 a2 k, LeO (interlocklaw05_KeyAnswers.f k a0 a1 a2) (interlocklaw05_KeyAnswers.f (k + 1) a0 a1 a2) := by
  intro a0 a1 a2 k
  have ih0 := interlocklaw05_KeyAnswers.mono_l k
  unfold interlocklaw05_KeyAnswers.f
  repeat' first
      | (with_reducible exact ih0 _ _ _ _)
      | (with_reducible exact interlocklaw05_long.mono _ _)
      | (with_reducible exact interlockref00_SameInts.mono _ _ _)
      | (with_reducible exact interlockref00_SameRow.mono _ _ _)
      | (with_reducible exact interlockref05_Decode.mono _ _)
      | (with_reducible exact interlockref05_Encode.mono _ _)
      | (with_reducible exact interlockref05_Pick.mono _ _ _)
      | (with_reducible exact key_Pick.mono _ _ _)
      | (with_reducible exact LeO.refl _)
      | (with_reducible exact LeO.none _)
      | (with_reducible refine LeO.ite ?_ ?_)
      | (with_reducible refine LeO.bind ?_ (fun _ => ?_))
      | exact ih0 _ _ _ _
      | exact interlocklaw05_long.mono _ _
      | exact interlockref00_SameInts.mono _ _ _
      | exact interlockref00_SameRow.mono _ _ _
      | exact interlockref05_Decode.mono _ _
      | exact interlockref05_Encode.mono _ _
      | exact interlockref05_Pick.mono _ _ _
      | exact key_Pick.mono _ _ _
      | exact LeO.none _
      | refine LeO.ite ?_ ?_
      | refine LeO.bind ?_ (fun _ => ?_)
end Go.Proofs.YtjcgbppicdccdaaDoor.Q
end
section
/- Plain law: KeyAnswers. -/
namespace Go.Proofs.YtjcgbppicdccdaaDoor.Q
open Go.RowKit Go.Proofs.YtjcgbppicdccdaaDoorW.PrintWords Go.Proofs.YtjcgbppicdccdaaDoorW.PrintLast Go.Proofs.YtjcgbppicdccdaaDoorW.PrintMore
set_option linter.unusedVariables false
set_option linter.unusedSimpArgs false

theorem copyInts_f (l : List Int) (h : l.length ≤ 100) : interlockref00_CopyInts.f l = some l := by
  unfold interlockref00_CopyInts.f
  simp
  omega
theorem next_f (s : ByteArray) (h : s.size ≤ 1000) : key_Next.f s = some (s ++ (⟨#[255]⟩ : ByteArray)) := by
  unfold key_Next.f
  first | rfl | (rw [if_pos (by omega)])
theorem same_some (a : List S43) (hb : a.length ≤ 100000) : Ev (fun k => interlockref00_SameRow.f k a a) true := Ev.to (same_f a a (by omega)) (by simp)
theorem decL_len (s : List UInt8) : (decL s).1.length ≤ 8 := by
  obtain ⟨p, hp⟩ : ∃ p, decL s = p := ⟨_, rfl⟩
  obtain ⟨r, b⟩ := p
  rw [hp]
  cases b with
  | true => exact (rightRow_all (decL_back hp).1).1
  | false => rw [decL_no hp]; simp

set_option maxHeartbeats 1000000 in
theorem KeyAnswers_in (l : List S43) (s : ByteArray) (at_ : List Int) (hl : l.length ≤ maxLen ∧ ∀ v ∈ l, wf43 v) (hs : s.size ≤ maxLen) (ha : at_.length ≤ maxLen ∧ ∀ v ∈ at_, (Lit.int .i64 v).wf = true) : ∃ k, interlocklaw05_KeyAnswers.f k l s at_ = some true := by
  have hw : ∀ v ∈ l, wfS v := fun v hv => wf_range (hl.2 v hv).2.1
  have jt : Ev (fun k => interlocklaw05_KeyAnswers.j0 k l s at_ true) true :=
    Ev.step (f := fun _ => some true) (fun k => by simp only [interlocklaw05_KeyAnswers.j0, if_true]) (Ev.some_ fun _ => rfl)
  apply Ev.rounds
  unfold interlocklaw05_KeyAnswers.f
  simp only [alive_f, Option.bind_some, if_true]
  refine Ev.bind (long_f l) ?_
  cases hlg : longL l with
  | true => simp only [if_true]; exact jt
  | false =>
    simp only [Bool.false_eq_true, if_false]
    obtain ⟨hl100, hsz⟩ := not_long hlg
    by_cases h1 : (s.size : Int) > 1000
    · simp only [if_pos h1]; exact jt
    · simp only [if_neg h1]
      by_cases h2 : (at_.length : Int) > 100
      · simp only [decide_eq_true h2]; exact jt
      · simp only [decide_eq_false h2]
        have hat : at_.length ≤ 100 := by omega
        have hs2 : s.size ≤ 1000 := by omega
        obtain ⟨S, rfl⟩ : ∃ S, s = bA S := ⟨s.data.toList, (bA_list s).symm⟩
        have hS : S.length ≤ 100000 := by rw [bA_size] at hs2; omega
        have e1 := copy_f l hl100
        have e2 := copyInts_f at_ hat
        have e4 := dec_some (bA S) (by omega)
        rw [list_bA] at e4
        have e5 := next_f (bA S) hs2
        obtain ⟨E, hE⟩ : ∃ E : ByteArray × Bool, (if rightRow l = true then (bA (encL l), true) else (⟨#[]⟩, false)) = E := ⟨_, rfl⟩
        have e3 : key_Encode.f l = some E := by rw [← hE]; rfl
        have e6 := Encode_ev l hw
        rw [hE] at e6
        refine Ev.step (fun k => by simp only [interlocklaw05_KeyAnswers.j0, Bool.false_eq_true, if_false, e1, e2, e3, e4, e5, Option.bind_some]; rfl) ?_
        refine Ev.bind e6 ?_
        refine Ev.bind (Decode_ev S hS) ?_
        refine Ev.bind (Pick_key l at_ hat) ?_
        refine Ev.bind (Pick_ref l at_ hat) ?_
        simp only [if_true, beq_self_eq_true]
        refine Ev.bind (same_some _ (by have := decL_len S; omega)) ?_
        simp only [if_true]
        refine Ev.bind (same_some _ (by have := pickG_len l at_ []; simp at this; omega)) ?_
        simp only [if_true, if_pos (show (bA S).size + 1 ≤ 9223372036854775807 by omega)]
        refine Ev.bind (same_some l (by omega)) ?_
        simp only [if_true]
        refine Ev.bind (ints_f at_ hat) ?_
        exact Ev.some_ fun _ => rfl
end Go.Proofs.YtjcgbppicdccdaaDoor.Q
end
