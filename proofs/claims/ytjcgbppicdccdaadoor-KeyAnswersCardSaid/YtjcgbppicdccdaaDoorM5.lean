/- Packed by chunk.py: YtjcgbppicdccdaaDoorQ20 YtjcgbppicdccdaaDoorA10 YtjcgbppicdccdaaDoorQ34d YtjcgbppicdccdaaDoorA11 -/
import Derived.Test.YtjcgbppicdccdaaDoorQ0
import Derived.LoopN
import Derived.Test.YtjcgbppicdccdaaDoorShelf
import Derived.Laws.BitsLemmas
import Derived.Deep.Slices
import Derived.ChangeArms
import Derived.DataReads
import Derived.Test.YtjcgbppicdccdaaDoorM4
section
/- What Go functions compute, as Lean functions, and that the machine's call comes to just that; no conditions beyond each theorem's own. (Written by pp.py of this repo, over the kit's print.py.) -/
namespace Go.Proofs.YtjcgbppicdccdaaDoor.Q
open Go.RowKit Go.Proofs.YtjcgbppicdccdaaDoorW.PrintWords Go.Proofs.YtjcgbppicdccdaaDoorW.PrintLast Go.Proofs.YtjcgbppicdccdaaDoorW.PrintMore
attribute [local go_sem] max2_int min2_int max_two min_two max_three min_three max_four min_four   -- for this text's walks alone
set_option linter.unusedVariables false
set_option linter.unusedSimpArgs false

/-! ### interlockref05_Encode: function 20 -/
def interlockref05_Encode.l0 : Nat → List (S43) → List Int → Int → Option (ByteArray × Bool)
  | 0, _, _, _ => none
  | k + 1, x0, x4, x5 => if x5 < (x0.length : Int) then (if 0 ≤ x5 then ((interlockref05_one.f k ((rd_T43 x0 x5).f0) ((rd_T43 x0 x5).f1) ((rd_T43 x0 x5).f2)).bind fun t254 => (if x4.length + t254.length < 140737488355328 then (interlockref05_Encode.l0 k x0 (x4 ++ t254) (wrap64 (x5 + 1))) else (none))) else (none)) else (some (strOfNums x4, true))
def interlockref05_Encode.f (k : Nat) (l0 : List (S43)) : Option (ByteArray × Bool) := (interlockref04_RightRow.f k l0).bind fun t249 => (if t249 = true then (interlockref05_Encode.l0 k l0 (([] : List Int)) 0) else (some ((⟨#[]⟩ : ByteArray), false)))
theorem interlockref05_Encode.mono_l : ∀ k, (∀ y0 y1 y2, LeO (interlockref05_Encode.l0 k y0 y1 y2) (interlockref05_Encode.l0 (k + 1) y0 y1 y2))
  | 0 => fun _ _ _ r h => by simp [interlockref05_Encode.l0] at h
  | k + 1 => by
    have ih0 := interlockref05_Encode.mono_l k
    · intro y0 y1 y2
      unfold interlockref05_Encode.l0
      repeat' first
      | (with_reducible exact ih0 _ _ _)
      | (with_reducible exact interlockref04_RightRow.mono _ _)
      | (with_reducible exact interlockref05_one.mono _ _ _ _)
      | (with_reducible exact LeO.refl _)
      | (with_reducible exact LeO.none _)
      | (with_reducible refine LeO.ite ?_ ?_)
      | (with_reducible refine LeO.bind ?_ (fun _ => ?_))
      | exact ih0 _ _ _
      | exact interlockref04_RightRow.mono _ _
      | exact interlockref05_one.mono _ _ _ _
      | exact LeO.none _
      | refine LeO.ite ?_ ?_
      | refine LeO.bind ?_ (fun _ => ?_)
theorem interlockref05_Encode.mono : ∀ a0 k, LeO (interlockref05_Encode.f k a0) (interlockref05_Encode.f (k + 1) a0) := by
  intro a0 k
  have ih0 := interlockref05_Encode.mono_l k
  unfold interlockref05_Encode.f
  repeat' first
      | (with_reducible exact ih0 _ _ _)
      | (with_reducible exact interlockref04_RightRow.mono _ _)
      | (with_reducible exact interlockref05_one.mono _ _ _ _)
      | (with_reducible exact LeO.refl _)
      | (with_reducible exact LeO.none _)
      | (with_reducible refine LeO.ite ?_ ?_)
      | (with_reducible refine LeO.bind ?_ (fun _ => ?_))
      | exact ih0 _ _ _
      | exact interlockref04_RightRow.mono _ _
      | exact interlockref05_one.mono _ _ _ _
      | exact LeO.none _
      | refine LeO.ite ?_ ?_
      | refine LeO.bind ?_ (fun _ => ?_)
set_option maxHeartbeats 8000000 in
set_option maxRecDepth 100000 in
theorem interlockref05_Encode.calls (k : Nat) (A0 : Option Addr) (c0 : Nat) (l0 : List (S43)) (r1 : ByteArray) (r2 : Bool) (w : World) (hr0 : Kd.C k43 w A0 l0.length l0) (hc0 : l0.length ≤ c0) (h : interlockref05_Encode.f k l0 = some (r1, r2)) :
    Calls Tryd.prog 20 #[.slice A0 l0.length c0] w fun e w' => e = .returned (.tuple #[.string r1, .bool r2]) ∧ Below w.heap.size w w' := by
  have hu43 := Tryd.underlying43
  have HR0 := Aside0.mk hr0
  have HC0 := Aside0.mk hc0
  clear hr0 hc0
  have HB := Aside0.mk (Below.refl w.heap.size w)
  have H : ((interlockref04_RightRow.f k l0).bind fun t249 => (if t249 = true then (interlockref05_Encode.l0 k l0 (([] : List Int)) 0) else (some ((⟨#[]⟩ : ByteArray), false)))) = some (r1, r2) := h
  clear h
  replace H := Option.bind_eq_some_iff.mp H
  obtain ⟨t249, A20, H⟩ := H
  replace H : (if t249 = true then (interlockref05_Encode.l0 k l0 (([] : List Int)) 0) else (some ((⟨#[]⟩ : ByteArray), false))) = some (r1, r2) := H
  have A2 := Aside0.mk A20
  clear A20
  by_cases c3 : t249 = true
  · subst c3
    have H1 : (interlockref05_Encode.l0 k l0 (([] : List Int)) 0) = some (r1, r2) := by rw [if_pos rfl] at H; exact H
    clear H
    have H := H1
    clear H1
    obtain ⟨y250, hy250⟩ : ∃ y_ : List Int, y_ = (([] : List Int)) := ⟨_, rfl⟩
    replace H : (interlockref05_Encode.l0 k l0 y250 0) = some (r1, r2) := by first | (rw [hy250]; with_reducible exact H) | (have H2_ := (Option.bind_some _ _).symm.trans H; rw [hy250]; with_reducible exact H2_) | (have H2_ := (Option.bind_some _ _).symm.trans H; with_reducible exact H2_) | with_reducible exact H | (rw [hy250]; exact H) | exact H
    have Ny250 := Aside0.mk hy250
    clear hy250
    have H' := Aside0.mk H
    clear H
    go_enter Tryd.func20, Tryd.ntmps20
    go_wp2_with (first | ((with_reducible refine gate_callee (f := 16) rfl ?_); refine goesL_ (some 7) rfl rfl Tryd.func16 (by kernel_rfl) rfl #[.slice A0 l0.length c0] rfl (by (try simp only [List.map_toArray, List.map_cons, List.map_nil]); first | done | rfl | (simp only [List.length_drop, List.length_take]; rfl)) ?_; (with_reducible refine (interlockref04_RightRow.calls k _ _ l0 true _ ?side1 ?side2 A2.out).mono ?_); (case side1 => repeat (first | exact HR0.out | (with_reducible refine Kd.C_alloc ?_ _) | (with_reducible refine Kd.C_drewN ?_ _) | (with_reducible refine Kd.C_drew ?_))); (case side2 => exact HC0.out); rintro e w4 ⟨rfl, hb⟩; refine ⟨_, rfl, ?_⟩; have n0_ := Aside0.mk (below_step (by repeat (first | (with_reducible first | exact HB.out | apply below_alloc | apply pw_below_drewN | apply below_drew1) | exact HB.out)) hb); clear HB; have HB := n0_; clear n0_; (try clear hb); (try clear hb2); (try clear hk); (try clear hi)) | ((with_reducible refine gate_dst (N := 9) rfl ?_); refine Kd.R_lit (Kd.int .u8) _ 5 ?hg (N := 9) ?hd (xs := ([] : List Int)) (inner := []) (ok := fun _ => True) (okp := fun _ => True) ?hr ?hp (fun _ hk => hk) trivial (Below.refl _ _) (Nat.le_refl _) (by simp) ?_; (case hd => rfl); (case hg => rfl); (case hr => first | (go_simp; done) | (go_simp; rfl)); (case hp => exact (Reps.none _ _)); intro v251 w5 ho6 hb hg_ hnew_; clear hg_ hnew_; (first | rw [← Ny250.out] at ho6 | (simp only [Int.reduceToNat] at ho6; rw [← Ny250.out] at ho6)); have n0_ := Aside0.mk (Kd.R_lower ho6 (below_size (by repeat (first | (with_reducible first | exact HB.out | apply below_alloc | apply pw_below_drewN | apply below_drew1) | exact HB.out)))); have n1_ := Aside0.mk (below_step (by repeat (first | (with_reducible first | exact HB.out | apply below_alloc | apply pw_below_drewN | apply below_drew1) | exact HB.out)) hb); clear HB; have HO252 := n0_; have HB := n1_; clear n0_ n1_; clear hb ho6))
    go_loopg [4, 5] k (fun kq v4 v5 w' => ∃ (x4_1 : List Int) (x5_1 : Int), v5 = .int .i64 x5_1 ∧ Aside0 (interlockref05_Encode.l0 kq l0 x4_1 x5_1 = some (r1, r2)) ∧ Aside0 (kq ≤ k) ∧ Aside0 (Kd.R (Kd.int .u8) 5 w' w.heap.size (fun _ => True) v4 x4_1) ∧ Aside0 (Below w.heap.size w w'))
    case atStart => exact ⟨(y250), (0), (by first | rfl | (simp; done) | (simp [*]; done)), H', ⟨Nat.le_refl _⟩, ⟨by (with_reducible repeat (first | apply Kd.R_alloc | apply Kd.R_drewN | apply Kd.R_drew)); exact HO252.out⟩, ⟨by repeat (first | (with_reducible first | exact HB.out | apply below_alloc | apply pw_below_drewN | apply below_drew1) | exact HB.out)⟩⟩
    case round =>
      clear H'
      try clear c1
      try clear c2
      try clear p2
      try clear c3
      obtain ⟨x4_1, x5_1, rfl, HA, HK1, HO_4, HB⟩ := hrel
      cases gk with
      | zero => exact absurd HA.out (by simp [interlockref05_Encode.l0])
      | succ k1 =>
        have H := HA.out
        clear HA
        simp only [interlockref05_Encode.l0] at H
        by_cases c7 : x5_1 < (l0.length : Int)
        · rw [if_pos c7] at H
          have c7b0 : decide (x5_1 < (l0.length : Int)) = true := decide_eq_true c7
          clear c7
          by_cases c8 : 0 ≤ x5_1
          · rw [if_pos c8] at H
            have c8b0 : decide (0 ≤ x5_1) = true := decide_eq_true c8
            clear c8
            replace H := Option.bind_eq_some_iff.mp H
            obtain ⟨t254, A90, H⟩ := H
            replace H : (if x4_1.length + t254.length < 140737488355328 then (interlockref05_Encode.l0 k1 l0 (x4_1 ++ t254) (wrap64 (x5_1 + 1))) else (none)) = some (r1, r2) := H
            have A9 := Aside0.mk A90
            clear A90
            by_cases c10 : x4_1.length + t254.length < 140737488355328
            · rw [if_pos c10] at H
              have LMc10 := Aside0.mk c10
              clear c10
              obtain ⟨y257, hy257⟩ : ∃ y_ : List Int, y_ = (x4_1 ++ t254) := ⟨_, rfl⟩
              replace H : (interlockref05_Encode.l0 k1 l0 y257 (wrap64 (x5_1 + 1))) = some (r1, r2) := by first | (rw [hy257]; with_reducible exact H) | (have H2_ := (Option.bind_some _ _).symm.trans H; rw [hy257]; with_reducible exact H2_) | (have H2_ := (Option.bind_some _ _).symm.trans H; with_reducible exact H2_) | with_reducible exact H | (rw [hy257]; exact H) | exact H
              have Ny257 := Aside0.mk hy257
              clear hy257
              have H' := Aside0.mk H
              clear H
              have p253 : 0 ≤ (x5_1 : Int) := of_decide_eq_true (by first | (with_reducible assumption) | assumption)
              have q253 : x5_1 < (l0.length : Int) := of_decide_eq_true (by first | (with_reducible assumption) | assumption)
              obtain ⟨ad253, e253, hx253_0, hx253_1, hx253_2⟩ := at_T43 HR0.out x5_1 p253 q253
              cases e253
              replace hx253_0 := (HB.out.cell (World.block_lt_of_cell? w _ hx253_0)).trans hx253_0
              replace hx253_1 := (HB.out.cell (World.block_lt_of_cell? w _ hx253_1)).trans hx253_1
              replace hx253_2 := (HB.out.cell (World.block_lt_of_cell? w _ hx253_2)).trans hx253_2
              replace p253 := eq_true p253
              replace q253 := eq_true q253
              go_wp2_with (first | ((with_reducible refine gate_callee (f := 33) rfl ?_); refine goesL_ (some 21) rfl rfl Tryd.func33 (by kernel_rfl) rfl #[.agg #[.int .i64 ((rd_T43 l0 x5_1).f0), .int .i64 ((rd_T43 l0 x5_1).f1), .string ((rd_T43 l0 x5_1).f2)]] rfl (by (try simp only [List.map_toArray, List.map_cons, List.map_nil]); first | done | rfl | (simp only [List.length_drop, List.length_take]; rfl)) ?_; (with_reducible refine (interlockref05_one.calls k1 ((rd_T43 l0 x5_1).f0) ((rd_T43 l0 x5_1).f1) ((rd_T43 l0 x5_1).f2) t254 _ A9.out).mono ?_); rintro e w11 ⟨v255, rfl, ho0, hb⟩; refine ⟨_, rfl, ?_⟩; have n0_ := Aside0.mk (Kd.R_elder' (by (with_reducible repeat (first | apply Kd.R_alloc | apply Kd.R_drewN | apply Kd.R_drew)); exact HO_4.out) (Kd.R_base ho0) hb); have n1_ := Aside0.mk (Kd.R_lower (Kd.R_new' ho0 (Kd.R_lt (by (with_reducible repeat (first | apply Kd.R_alloc | apply Kd.R_drewN | apply Kd.R_drew)); exact HO_4.out))) (below_size (by repeat (first | (with_reducible first | exact HB.out | apply below_alloc | apply pw_below_drewN | apply below_drew1) | exact HB.out)))); have n2_ := Aside0.mk (below_step (by repeat (first | (with_reducible first | exact HB.out | apply below_alloc | apply pw_below_drewN | apply below_drew1) | exact HB.out)) hb); clear HO_4; clear HB; have HO_4 := n0_; have HO256 := n1_; have HB := n2_; clear n0_ n1_ n2_; (try clear hb); (try clear hb2); (try clear hk); (try clear hi); (try clear ho0); obtain ⟨Ao13, co13, eo13⟩ := Kd.R_slice HO256.out; subst eo13) | ((with_reducible refine gate_builtin (b := .append) (xs := #[.tmp 16, .tmp 21]) rfl ?_); at_builtin; refine Kd.R_append_rows (Kd.int .u8) (w0 := w) w.heap.size rfl (.tmp 16) (.tmp 21) 45 5 (.int .u8 0) 1 rfl Tryd.underlying45 info5 rfl (by decide) (by omega) u4 x4_1 t254 _ _ _ (fun k_ => some k_ ≠ (.slice Ao13 t254.length co13 : Value).ownBlock) (fun _ => False) rfl rfl ?aO ?aR (fun _ _ h => h) (fun _ h => h.elim) ?aF ?aB ?aS ?aL ?_; (case aR => repeat (first | exact (Kd.R_reads' HO256.out).2.2 | (with_reducible refine Kd.C_alloc ?_ _) | (with_reducible refine Kd.C_drewN ?_ _) | (with_reducible refine Kd.C_drew ?_))); (case aB => exact (by repeat (first | (with_reducible first | exact HB.out | apply below_alloc | apply pw_below_drewN | apply below_drew1) | exact HB.out))); (case aF => exact (fun k_ hk => Kd.fresh' (Kd.R_lt (by (with_reducible repeat (first | apply Kd.R_alloc | apply Kd.R_drewN | apply Kd.R_drew)); exact HO256.out)) k_ hk)); (case aO => exact (by (with_reducible repeat (first | apply Kd.R_alloc | apply Kd.R_drewN | apply Kd.R_drew)); exact Kd.R_mono HO_4.out (fun _ hk => hk.2))); (case aS => exact (below_size (by repeat (first | (with_reducible first | exact HB.out | apply below_alloc | apply pw_below_drewN | apply below_drew1) | exact HB.out)))); (case aL => have := LMc10.out; omega); intro v258 w12 ho hb hg hat; rw [← Ny257.out] at ho; have n0_ := Aside0.mk (Kd.R_after (ok := (fun _ => True)) (by (with_reducible repeat (first | apply Kd.R_alloc | apply Kd.R_drewN | apply Kd.R_drew)); exact HO256.out) hg hat); have n1_ := Aside0.mk (hb); have n2_ := Aside0.mk (ho); clear HO256; clear HB; clear HO_4; have HO256 := n0_; have HB := n1_; have HO259 := n2_; clear n0_ n1_ n2_; clear ho hb hg hat))
              go_roundg k1
              case measure => have := HK1.out; omega
              case rel => exact ⟨(y257), (wrap64 (x5_1 + 1)), (by first | rfl | (simp; done) | (simp [*]; done)), H', ⟨by have := HK1.out; omega⟩, ⟨by (with_reducible repeat (first | apply Kd.R_alloc | apply Kd.R_drewN | apply Kd.R_drew)); exact Kd.R_mono HO259.out (fun _ hk => trivial)⟩, ⟨by repeat (first | (with_reducible first | exact HB.out | apply below_alloc | apply pw_below_drewN | apply below_drew1) | exact HB.out)⟩⟩
            · rw [if_neg c10] at H
              exact absurd H (by simp)
          · rw [if_neg c8] at H
            exact absurd H (by simp)
        · rw [if_neg c7] at H
          have c7b0 : decide (x5_1 < (l0.length : Int)) = false := decide_eq_false c7
          clear c7
          simp only [Option.some.injEq, Prod.mk.injEq] at H
          obtain ⟨rfl, rfl⟩ := H
          have hcv14 := own_string (P := Tryd.prog) Tryd.underlying45 Tryd.underlying5 Tryd.underlying9 (Kd.own_of_R HO_4.out)
          go_wp2
          go_ret2
          exact ⟨by first | rfl | (simp [errW_none, errW_some] <;> rfl) | (simp [*, errW_none, errW_some] <;> rfl), by repeat (first | (with_reducible first | exact HB.out | apply below_alloc | apply pw_below_drewN | apply below_drew1) | exact HB.out)⟩
  · replace c3 := Bool.eq_false_iff.mpr c3
    subst c3
    have H1 : (some ((⟨#[]⟩ : ByteArray), false)) = some (r1, r2) := by rw [if_neg (show ¬ (false = true) by decide)] at H; exact H
    clear H
    have H := H1
    clear H1
    simp only [Option.some.injEq, Prod.mk.injEq] at H
    obtain ⟨rfl, rfl⟩ := H
    go_enter Tryd.func20, Tryd.ntmps20
    go_wp2_with (first | ((with_reducible refine gate_callee (f := 16) rfl ?_); refine goesL_ (some 7) rfl rfl Tryd.func16 (by kernel_rfl) rfl #[.slice A0 l0.length c0] rfl (by (try simp only [List.map_toArray, List.map_cons, List.map_nil]); first | done | rfl | (simp only [List.length_drop, List.length_take]; rfl)) ?_; (with_reducible refine (interlockref04_RightRow.calls k _ _ l0 false _ ?side1 ?side2 A2.out).mono ?_); (case side1 => repeat (first | exact HR0.out | (with_reducible refine Kd.C_alloc ?_ _) | (with_reducible refine Kd.C_drewN ?_ _) | (with_reducible refine Kd.C_drew ?_))); (case side2 => exact HC0.out); rintro e w15 ⟨rfl, hb⟩; refine ⟨_, rfl, ?_⟩; have n0_ := Aside0.mk (below_step (by repeat (first | (with_reducible first | exact HB.out | apply below_alloc | apply pw_below_drewN | apply below_drew1) | exact HB.out)) hb); clear HB; have HB := n0_; clear n0_; (try clear hb); (try clear hb2); (try clear hk); (try clear hi)))
    go_ret2
    exact ⟨by first | rfl | (simp [errW_none, errW_some] <;> rfl) | (simp [*, errW_none, errW_some] <;> rfl), by repeat (first | (with_reducible first | exact HB.out | apply below_alloc | apply pw_below_drewN | apply below_drew1) | exact HB.out)⟩

end Go.Proofs.YtjcgbppicdccdaaDoor.Q
end
section
/- Plain law: the document's key answers what the key does: one value's bytes, a row's, and back. -/
namespace Go.Proofs.YtjcgbppicdccdaaDoor.Q
open Go.RowKit Go.Proofs.YtjcgbppicdccdaaDoorW.PrintWords Go.Proofs.YtjcgbppicdccdaaDoorW.PrintLast Go.Proofs.YtjcgbppicdccdaaDoorW.PrintMore
set_option linter.unusedVariables false
set_option linter.unusedSimpArgs false

def nums8 (l : List UInt8) : List Int := l.map fun c => (c.toNat : Int)
theorem nums8_len (l : List UInt8) : (nums8 l).length = l.length := by simp [nums8]
theorem nums8_app (a b : List UInt8) : nums8 (a ++ b) = nums8 a ++ nums8 b := by simp [nums8]
theorem str_nums (l : List UInt8) : strOfNums (nums8 l) = bA l := by
  have : ∀ l : List UInt8, (nums8 l).map (fun n => UInt8.ofNat n.toNat) = l := by
    intro l
    induction l with
    | nil => rfl
    | cons c l ih =>
      unfold nums8 at ih ⊢
      rw [List.map_cons, List.map_cons, ih]
      congr 1
      simp
  unfold strOfNums bA
  rw [this]
theorem byte_back (x : Int) : ((UInt8.ofNat (x % 256).toNat).toNat : Int) = x % 256 := by
  rw [u8_nat _ (by omega)]
  omega
theorem nums8_numL (n : Int) : nums8 (numL n) = numBytes (turned n) := by
  unfold nums8 numL numBytes
  simp only [List.map_cons, List.map_nil, byte_back]
theorem wrap_u (n : Int) : IntKind.u64.wrap n = n % 18446744073709551616 := by
  simp [IntKind.wrap, IntKind.bits, IntKind.signed]
theorem turn_ref (n : Int) (h0 : -9223372036854775808 ≤ n) (h1 : n ≤ 9223372036854775807) : IntKind.u64.wrap (IntKind.u64.wrap n + 9223372036854775808) = turned n := by
  rw [turned_eq n h0 h1, wrap_u, wrap_u]
  omega

theorem num_step (k : Nat) (x3 : List Int) (u : Int) (i : Nat) (hi : i < 8) (h : x3.length < 1000) : interlockref05_one.l0 (k + 1) x3 u i = interlockref05_one.l0 k (x3 ++ [u / 2 ^ (8 * i) % 256]) u ((i : Int) - 1) := by
  have e1 : wrap64 (8 * (i : Int)) = ((8 * i : Nat) : Int) := by unfold wrap64; omega
  have e2 : IntKind.u64.wrap ((8 * i : Nat) : Int) = ((8 * i : Nat) : Int) := by rw [wrap_u]; omega
  have e3 : shr .u64 u ((8 * i : Nat) : Int) = u / 2 ^ (8 * i) := by
    unfold shr
    rw [Int.toNat_natCast, Nat.min_eq_left (by simp [IntKind.bits]; omega)]
  have e4 : wrap64 ((i : Int) - 1) = (i : Int) - 1 := by unfold wrap64; omega
  simp only [interlockref05_one.l0]
  rw [if_pos (by omega), e1, e2, if_pos (by omega), if_pos (by omega), e3, e4]
theorem one_num_ev (x3 : List Int) (u : Int) (h : x3.length < 900) : Ev (fun k => interlockref05_one.l0 k x3 u 7) (x3 ++ numBytes u) := by
  refine ⟨9, fun k hk => ?_⟩
  obtain ⟨k, rfl⟩ := Nat.exists_eq_add_of_le' hk
  show interlockref05_one.l0 (k + 9) x3 u ((7 : Nat) : Int) = _
  rw [show k + 9 = (k + 8) + 1 from rfl, num_step _ _ _ 7 (by decide) (by omega), show ((7 : Nat) : Int) - 1 = ((6 : Nat) : Int) from rfl]
  rw [show k + 8 = (k + 7) + 1 from rfl, num_step _ _ _ 6 (by decide) (by simp; omega), show ((6 : Nat) : Int) - 1 = ((5 : Nat) : Int) from rfl]
  rw [show k + 7 = (k + 6) + 1 from rfl, num_step _ _ _ 5 (by decide) (by simp; omega), show ((5 : Nat) : Int) - 1 = ((4 : Nat) : Int) from rfl]
  rw [show k + 6 = (k + 5) + 1 from rfl, num_step _ _ _ 4 (by decide) (by simp; omega), show ((4 : Nat) : Int) - 1 = ((3 : Nat) : Int) from rfl]
  rw [show k + 5 = (k + 4) + 1 from rfl, num_step _ _ _ 3 (by decide) (by simp; omega), show ((3 : Nat) : Int) - 1 = ((2 : Nat) : Int) from rfl]
  rw [show k + 4 = (k + 3) + 1 from rfl, num_step _ _ _ 2 (by decide) (by simp; omega), show ((2 : Nat) : Int) - 1 = ((1 : Nat) : Int) from rfl]
  rw [show k + 3 = (k + 2) + 1 from rfl, num_step _ _ _ 1 (by decide) (by simp; omega), show ((1 : Nat) : Int) - 1 = ((0 : Nat) : Int) from rfl]
  rw [show k + 2 = (k + 1) + 1 from rfl, num_step _ _ _ 0 (by decide) (by simp; omega)]
  simp only [interlockref05_one.l0]
  rw [if_neg (by decide)]
  simp [numBytes]

theorem one_text_ev (s : ByteArray) (K n : Int) (hs : s.size ≤ 1000) : ∀ (d i : Nat) (x3 : List Int), i + d = s.size → x3.length + 2 * d < 100000 → Ev (fun k => interlockref05_one.l1 k x3 i K n s) (x3 ++ nums8 (escL (s.data.toList.drop i) ++ [0, 1])) := by
  intro d
  induction d with
  | zero =>
    intro i x3 hi hb
    refine Ev.step (f := fun _ => some (x3 ++ [0, 1])) (fun k => ?_) (Ev.some_ fun _ => ?_)
    · simp only [interlockref05_one.l1]
      rw [if_neg (by omega), Option.bind_some, if_pos (by simp; omega)]
    · rw [List.drop_eq_nil_iff.2 (by rw [size_list]; omega)]
      simp [escL, nums8]
  | succ d ih =>
    intro i x3 hi hb
    have hl : i < s.data.toList.length := by rw [size_list]; omega
    have hbt := bt_get s i hl
    have hw := wrap_succ i (by omega)
    by_cases hc : s.data.toList[i] = 0
    · refine Ev.step (f := fun k => interlockref05_one.l1 k ((x3 ++ [0]) ++ [255]) ((i + 1 : Nat) : Int) K n s) (fun k => ?_) (Ev.to (ih (i + 1) ((x3 ++ [0]) ++ [255]) (by omega) (by simp; omega)) ?_)
      · simp only [interlockref05_one.l1]
        rw [if_pos (by omega), if_pos (by omega), if_pos (by omega), hbt, hc, Option.bind_some, show ((UInt8.toNat 0 : Nat) : Int) = 0 from rfl, if_pos rfl, if_pos (by rw [List.length_append]; simp only [List.length_cons, List.length_nil]; omega), hw]
      · rw [List.drop_eq_getElem_cons hl, hc]
        simp [escL, nums8]
    · refine Ev.step (f := fun k => interlockref05_one.l1 k (x3 ++ [(s.data.toList[i].toNat : Int)]) ((i + 1 : Nat) : Int) K n s) (fun k => ?_) (Ev.to (ih (i + 1) (x3 ++ [(s.data.toList[i].toNat : Int)]) (by omega) (by rw [List.length_append]; simp only [List.length_cons, List.length_nil]; omega)) ?_)
      · have hne : ¬ ((s.data.toList[i].toNat : Int) = 0) := by
          intro e
          apply hc
          apply UInt8.toNat_inj.1
          simpa using e
        simp only [interlockref05_one.l1]
        rw [if_pos (by omega), if_pos (by omega), if_pos (by omega), hbt, Option.bind_some, if_neg hne, hw]
      · rw [List.drop_eq_getElem_cons hl]
        obtain ⟨c, hc2⟩ : ∃ c, s.data.toList[i] = c := ⟨_, rfl⟩
        rw [hc2] at hc ⊢
        simp [escL, nums8, hc]

theorem one_ev {v : S43} (hv : rightV v = true) (wv : wfS v) : Ev (fun k => interlockref05_one.f k v.f0 v.f1 v.f2) (nums8 (oneL v)) := by
  unfold interlockref05_one.f oneL
  simp only [Option.bind_some]
  have e0 : nums8 [UInt8.ofNat (v.f0 % 256).toNat] = [v.f0 % 256] := by simp only [nums8, List.map_cons, List.map_nil, byte_back]
  by_cases h1 : v.f0 = 1
  · simp only [if_pos h1]
    refine Ev.to (one_num_ev _ _ (by simp)) ?_
    rw [turn_ref _ wv.1 wv.2, ← nums8_numL, ← e0, ← nums8_app]
    rfl
  · simp only [if_neg h1]
    by_cases h2 : v.f0 = 2
    · simp only [if_pos h2]
      rw [if_pos (by simp)]
      refine Ev.some_ fun _ => ?_
      simp only [nums8, List.map_cons, List.map_nil, byte_back, List.cons_append, List.nil_append]
    · simp only [if_neg h2]
      by_cases h3 : v.f0 = 3
      · simp only [if_pos h3]
        have := right3 hv h3
        refine Ev.to (one_text_ev v.f2 v.f0 v.f1 (by omega) v.f2.size 0 _ (by omega) (by simp; omega)) ?_
        rw [← e0, List.drop_zero, ← nums8_app]
        rfl
      · simp only [if_neg h3]
        exact Ev.some_ fun _ => by rw [e0]

theorem enc_ev (l : List S43) (hl : l.length ≤ 8) (hr : l.all rightV = true) (hw : ∀ v ∈ l, wfS v) : ∀ (d i : Nat) (p : List UInt8), i + d = l.length → p.length ≤ 1000 * i → Ev (fun k => interlockref05_Encode.l0 k l (nums8 p) i) (bA (p ++ encL (l.drop i)), true) := by
  intro d
  induction d with
  | zero =>
    intro i p hi hp
    refine Ev.step (f := fun k => some (strOfNums (nums8 p), true)) (fun k => by simp only [interlockref05_Encode.l0]; rw [if_neg (by omega)]) (Ev.some_ fun _ => ?_)
    rw [List.drop_eq_nil_iff.2 (by omega), str_nums]
    simp [encL]
  | succ d ih =>
    intro i p hi hp
    have hlt : i < l.length := by omega
    have e := rd_get l i hlt
    have hmem : l[i] ∈ l := List.getElem_mem hlt
    have hv := List.all_eq_true.1 hr _ hmem
    have hlen := oneL_len hv
    have hrest : encL (l.drop i) = oneL l[i] ++ encL (l.drop (i + 1)) := by
      rw [List.drop_eq_getElem_cons hlt]
      rfl
    refine Ev.step (f := fun k => (interlockref05_one.f k l[i].f0 l[i].f1 l[i].f2).bind fun t => if (nums8 p).length + t.length < 140737488355328 then interlockref05_Encode.l0 k l (nums8 p ++ t) ((i + 1 : Nat) : Int) else none) (fun k => ?_) (Ev.bind (one_ev hv (hw _ hmem)) ?_)
    · simp only [interlockref05_Encode.l0]
      rw [if_pos (by omega), if_pos (by omega), e, wrap_succ i (by omega)]
    · simp only [nums8_len]
      simp only [if_pos (show p.length + (oneL l[i]).length < 140737488355328 by omega), ← nums8_app]
      refine Ev.to (ih (i + 1) (p ++ oneL l[i]) (by omega) (by simp; omega)) ?_
      rw [hrest, List.append_assoc]
theorem Encode_ev (l : List S43) (hw : ∀ v ∈ l, wfS v) : Ev (fun k => interlockref05_Encode.f k l) (if rightRow l = true then (bA (encL l), true) else (⟨#[]⟩, false)) := by
  unfold interlockref05_Encode.f
  refine Ev.bind (right_row_f l) ?_
  by_cases h : rightRow l = true
  · obtain ⟨h8, ha⟩ := rightRow_all h
    simp only [h, if_true]
    exact Ev.to (enc_ev l h8 ha hw l.length 0 [] (by omega) (by simp)) (by simp)
  · simp only [h, if_false]
    exact Ev.some_ fun _ => rfl
end Go.Proofs.YtjcgbppicdccdaaDoor.Q
end
section
/- What Go functions compute, as Lean functions, and that the machine's call comes to just that; no conditions beyond each theorem's own. (Written by pp.py of this repo, over the kit's print.py.) -/
namespace Go.Proofs.YtjcgbppicdccdaaDoor.Q
open Go.RowKit Go.Proofs.YtjcgbppicdccdaaDoorW.PrintWords Go.Proofs.YtjcgbppicdccdaaDoorW.PrintLast Go.Proofs.YtjcgbppicdccdaaDoorW.PrintMore
attribute [local go_sem] max2_int min2_int max_two min_two max_three min_three max_four min_four   -- for this text's walks alone
set_option linter.unusedVariables false
set_option linter.unusedSimpArgs false

/-! ### interlockref05_first: function 34 -/
mutual
def interlockref05_first.l0 : Nat → ByteArray → Int → Int → Int → Int → ByteArray → Option (Int × Int × ByteArray × ByteArray × Bool)
  | 0, _, _, _, _, _, _ => none
  | k + 1, x0, x6, x7, x262000, x262001, x262002 => if x7 < 8 then (if 0 ≤ x7 then (if x7 < (x0.size : Int) then (interlockref05_first.l0 k x0 (IntKind.u64.wrap ((IntKind.u64.wrap (x6 * 256)) + (IntKind.u64.wrap (bt x0 x7)))) (wrap64 (x7 + 1)) x262000 x262001 x262002) else (none)) else (none)) else (if 8 ≤ (x0.size : Int) then (some (x262000, wrap64 (IntKind.u64.wrap (x6 - 9223372036854775808)), x262002, x0.extract 8 x0.size, true)) else (none))
def interlockref05_first.l1 : Nat → ByteArray → List Int → Int → Int → Int → ByteArray → Option (Int × Int × ByteArray × ByteArray × Bool)
  | 0, _, _, _, _, _, _ => none
  | k + 1, x0, x8, x9, x262000, x262001, x262002 => if x9 < (x0.size : Int) then (if 0 ≤ x9 then (if (bt x0 x9) = 0 then (if (wrap64 (x9 + 1)) ≥ (x0.size : Int) then (some (x262000, x262001, x262002, x0, false)) else (if 0 ≤ (wrap64 (x9 + 1)) then (if (wrap64 (x9 + 1)) < (x0.size : Int) then (if (bt x0 (wrap64 (x9 + 1))) = 1 then (if 0 ≤ (wrap64 (x9 + 2)) then (if (wrap64 (x9 + 2)) ≤ (x0.size : Int) then (some (x262000, x262001, strOfNums x8, x0.extract ((wrap64 (x9 + 2)) : Int).toNat x0.size, true)) else (none)) else (none)) else (if (bt x0 (wrap64 (x9 + 1))) = 255 then (if x8.length < 140737488355328 then (interlockref05_first.l1 k x0 (x8 ++ [0]) (wrap64 ((wrap64 (x9 + 1)) + 1)) x262000 x262001 x262002) else (none)) else (some (x262000, x262001, x262002, x0, false)))) else (none)) else (none))) else (if x8.length < 140737488355328 then (interlockref05_first.l1 k x0 (x8 ++ [bt x0 x9]) (wrap64 (x9 + 1)) x262000 x262001 x262002) else (none))) else (none)) else (some (x262000, x262001, x262002, x0, false))
end
def interlockref05_first.f (k : Nat) (a0 : ByteArray) : Option (Int × Int × ByteArray × ByteArray × Bool) := if 0 < (a0.size : Int) then (if 1 ≤ (a0.size : Int) then (if (wrap64 (bt a0 0)) = 0 then (some (wrap64 (bt a0 0), 0, (⟨#[]⟩ : ByteArray), a0.extract 1 a0.size, true)) else (if (wrap64 (bt a0 0)) = 1 then (if ((a0.extract 1 a0.size).size : Int) < 8 then (some (wrap64 (bt a0 0), 0, (⟨#[]⟩ : ByteArray), a0.extract 1 a0.size, false)) else (interlockref05_first.l0 k (a0.extract 1 a0.size) 0 0 (wrap64 (bt a0 0)) 0 (⟨#[]⟩ : ByteArray))) else (if (wrap64 (bt a0 0)) = 2 then (if ((a0.extract 1 a0.size).size : Int) < 1 then (some (wrap64 (bt a0 0), 0, (⟨#[]⟩ : ByteArray), a0.extract 1 a0.size, false)) else (if 0 < ((a0.extract 1 a0.size).size : Int) then (if 1 ≤ ((a0.extract 1 a0.size).size : Int) then (some (wrap64 (bt a0 0), wrap64 (bt (a0.extract 1 a0.size) 0), (⟨#[]⟩ : ByteArray), (a0.extract 1 a0.size).extract 1 (a0.extract 1 a0.size).size, true)) else (none)) else (none))) else (if (wrap64 (bt a0 0)) = 3 then (interlockref05_first.l1 k (a0.extract 1 a0.size) (([] : List Int)) 0 (wrap64 (bt a0 0)) 0 (⟨#[]⟩ : ByteArray)) else (some (wrap64 (bt a0 0), 0, (⟨#[]⟩ : ByteArray), a0.extract 1 a0.size, false)))))) else (none)) else (none)
theorem interlockref05_first.mono_l : ∀ k, (∀ y0 y1 y2 y3 y4 y5, LeO (interlockref05_first.l0 k y0 y1 y2 y3 y4 y5) (interlockref05_first.l0 (k + 1) y0 y1 y2 y3 y4 y5)) ∧ (∀ y0 y1 y2 y3 y4 y5, LeO (interlockref05_first.l1 k y0 y1 y2 y3 y4 y5) (interlockref05_first.l1 (k + 1) y0 y1 y2 y3 y4 y5))
  | 0 => ⟨fun _ _ _ _ _ _ r h => by simp [interlockref05_first.l0] at h, fun _ _ _ _ _ _ r h => by simp [interlockref05_first.l1] at h⟩
  | k + 1 => by
    obtain ⟨ih0, ih1⟩ := interlockref05_first.mono_l k
    refine ⟨?_, ?_⟩
    · intro y0 y1 y2 y3 y4 y5
      unfold interlockref05_first.l0
      repeat' first
      | (with_reducible exact ih0 _ _ _ _ _ _)
      | (with_reducible exact ih1 _ _ _ _ _ _)
      | (with_reducible exact LeO.refl _)
      | (with_reducible exact LeO.none _)
      | (with_reducible refine LeO.ite ?_ ?_)
      | (with_reducible refine LeO.bind ?_ (fun _ => ?_))
      | exact ih0 _ _ _ _ _ _
      | exact ih1 _ _ _ _ _ _
      | exact LeO.none _
      | refine LeO.ite ?_ ?_
      | refine LeO.bind ?_ (fun _ => ?_)
    · intro y0 y1 y2 y3 y4 y5
      unfold interlockref05_first.l1
      repeat' first
      | (with_reducible exact ih0 _ _ _ _ _ _)
      | (with_reducible exact ih1 _ _ _ _ _ _)
      | (with_reducible exact LeO.refl _)
      | (with_reducible exact LeO.none _)
      | (with_reducible refine LeO.ite ?_ ?_)
      | (with_reducible refine LeO.bind ?_ (fun _ => ?_))
      | exact ih0 _ _ _ _ _ _
      | exact ih1 _ _ _ _ _ _
      | exact LeO.none _
      | refine LeO.ite ?_ ?_
      | refine LeO.bind ?_ (fun _ => ?_)
theorem interlockref05_first.mono : ∀ a0 k, LeO (interlockref05_first.f k a0) (interlockref05_first.f (k + 1) a0) := by
  intro a0 k
  obtain ⟨ih0, ih1⟩ := interlockref05_first.mono_l k
  unfold interlockref05_first.f
  repeat' first
      | (with_reducible exact ih0 _ _ _ _ _ _)
      | (with_reducible exact ih1 _ _ _ _ _ _)
      | (with_reducible exact LeO.refl _)
      | (with_reducible exact LeO.none _)
      | (with_reducible refine LeO.ite ?_ ?_)
      | (with_reducible refine LeO.bind ?_ (fun _ => ?_))
      | exact ih0 _ _ _ _ _ _
      | exact ih1 _ _ _ _ _ _
      | exact LeO.none _
      | refine LeO.ite ?_ ?_
      | refine LeO.bind ?_ (fun _ => ?_)
end Go.Proofs.YtjcgbppicdccdaaDoor.Q
end
section
/- Plain law: the document's key answers what the key does: what a key begins with. -/
namespace Go.Proofs.YtjcgbppicdccdaaDoor.Q
open Go.RowKit Go.Proofs.YtjcgbppicdccdaaDoorW.PrintWords Go.Proofs.YtjcgbppicdccdaaDoorW.PrintLast Go.Proofs.YtjcgbppicdccdaaDoorW.PrintMore
set_option linter.unusedVariables false
set_option linter.unusedSimpArgs false

/-- The text that bytes begin with, byte by byte, and what is left. -/
def txt : List UInt8 → Option (List UInt8 × List UInt8)
  | [] => none
  | [c] => none
  | c :: d :: r => if c ≠ 0 then (txt (d :: r)).map (fun p => (c :: p.1, p.2)) else if d = 1 then some ([], r) else if d = 255 then (txt r).map (fun p => (0 :: p.1, p.2)) else none
theorem txt_ne {c : UInt8} (h : c ≠ 0) (r : List UInt8) : txt (c :: r) = (txt r).map (fun p => (c :: p.1, p.2)) := by
  cases r with
  | nil => simp [txt]
  | cons d r => rw [txt, if_pos h]
theorem txt_esc : ∀ (t r : List UInt8), txt (escL t ++ ([0, 1] ++ r)) = some (t, r)
  | [], r => by simp [escL, txt]
  | c :: t, r => by
    unfold escL
    by_cases h : c = 0
    · subst h
      have := txt_esc t r
      simp only [if_pos]
      show txt (0 :: 255 :: (escL t ++ ([0, 1] ++ r))) = _
      rw [txt, if_neg (by simp), if_neg (by decide), if_pos rfl, this]
      rfl
    · rw [if_neg h]
      show txt (c :: (escL t ++ ([0, 1] ++ r))) = _
      rw [txt_ne h, txt_esc t r]
      rfl
theorem txt_back : ∀ (n : Nat) (s t r : List UInt8), s.length ≤ n → txt s = some (t, r) → s = escL t ++ ([0, 1] ++ r)
  | _, [], t, r, _, h => by simp [txt] at h
  | _, [c], t, r, _, h => by simp [txt] at h
  | 0, c :: d :: s, t, r, hn, h => by simp at hn
  | n + 1, c :: d :: s, t, r, hn, h => by
    by_cases hc : c = 0
    · subst hc
      rw [txt, if_neg (by simp)] at h
      by_cases h1 : d = 1
      · subst h1
        rw [if_pos rfl] at h
        simp only [Option.some.injEq, Prod.mk.injEq] at h
        obtain ⟨rfl, rfl⟩ := h
        rfl
      · rw [if_neg h1] at h
        by_cases h2 : d = 255
        · subst h2
          rw [if_pos rfl] at h
          obtain ⟨⟨t', r'⟩, hp, he⟩ := Option.map_eq_some_iff.1 h
          simp only [Prod.mk.injEq] at he
          obtain ⟨rfl, rfl⟩ := he
          have := txt_back n s t' r' (by simp at hn; omega) hp
          rw [this]
          simp [escL]
        · rw [if_neg h2] at h
          cases h
    · rw [txt_ne hc] at h
      obtain ⟨⟨t', r'⟩, hp, he⟩ := Option.map_eq_some_iff.1 h
      simp only [Prod.mk.injEq] at he
      obtain ⟨rfl, rfl⟩ := he
      have := txt_back n (d :: s) t' r' (by simp at hn ⊢; omega) hp
      rw [this]
      simp [escL, hc]
theorem textOf_txt (s : List UInt8) : (∃ t r, txt s = some (t, r) ∧ textOf s = (t, r, false)) ∨ (txt s = none ∧ (textOf s).2.2 = true) := by
  cases h : txt s with
  | some p =>
    obtain ⟨t, r⟩ := p
    refine .inl ⟨t, r, rfl, ?_⟩
    rw [txt_back s.length s t r (Nat.le_refl _) h, textOf_esc]
  | none =>
    refine .inr ⟨rfl, ?_⟩
    obtain ⟨q, hq⟩ : ∃ q, textOf s = q := ⟨_, rfl⟩
    obtain ⟨t, r, b⟩ := q
    rw [hq]
    cases b with
    | true => rfl
    | false =>
      rw [textOf_back hq, txt_esc] at h
      cases h

/-- What a key begins with, as the document's first tells it. -/
def textEnd (K n : Int) (s acc : List UInt8) : Option (List UInt8 × List UInt8) → Int × Int × ByteArray × ByteArray × Bool
  | none => (K, n, ⟨#[]⟩, bA s, false)
  | some (t, r) => (K, n, bA (acc ++ t), bA r, true)
theorem bt_bA (s : List UInt8) (i : Nat) (h : i < s.length) : bt (bA s) (i : Int) = (s[i].toNat : Int) := by
  have := bt_get (bA s) i (by rw [list_bA]; exact h)
  rw [this]
  rfl
theorem byte_ne {c : UInt8} {n : Nat} (h : c ≠ UInt8.ofNat n) (hn : n < 256) : ¬ ((c.toNat : Int) = (n : Int)) := by
  intro e
  apply h
  apply UInt8.toNat_inj.1
  rw [u8_nat n hn]
  exact Int.ofNat_inj.1 e
theorem first_text_ev (s : List UInt8) (K n : Int) (hs : s.length ≤ 100000) : ∀ (d i : Nat) (acc : List UInt8), i + d = s.length → acc.length ≤ i → Ev (fun k => interlockref05_first.l1 k (bA s) (nums8 acc) i K n ⟨#[]⟩) (textEnd K n s acc (txt (s.drop i))) := by
  have key : ∀ (m d i : Nat) (acc : List UInt8), d ≤ m → i + d = s.length → acc.length ≤ i → Ev (fun k => interlockref05_first.l1 k (bA s) (nums8 acc) i K n ⟨#[]⟩) (textEnd K n s acc (txt (s.drop i))) := by
    intro m
    induction m with
    | zero =>
      intro d i acc hd hi ha
      refine Ev.step (f := fun k => some (K, n, ⟨#[]⟩, bA s, false)) (fun k => by simp only [interlockref05_first.l1]; rw [if_neg (by rw [bA_size]; omega)]) (Ev.some_ fun _ => ?_)
      rw [List.drop_eq_nil_iff.2 (by omega)]
      rfl
    | succ m ih =>
      intro d i acc hd hi ha
      by_cases hlt : i < s.length
      · have hbt := bt_bA s i hlt
        have hw := wrap_succ i (by omega)
        rw [List.drop_eq_getElem_cons hlt]
        obtain ⟨c, hc⟩ : ∃ c, s[i] = c := ⟨_, rfl⟩
        rw [hc] at hbt ⊢
        by_cases h0 : c = 0
        · subst h0
          replace hbt : bt (bA s) (i : Int) = 0 := hbt
          by_cases hlt2 : i + 1 < s.length
          · have hbt2 := bt_bA s (i + 1) hlt2
            have hw2 := wrap_succ (i + 1) (by omega)
            rw [List.drop_eq_getElem_cons hlt2]
            obtain ⟨e, he⟩ : ∃ e, s[i + 1] = e := ⟨_, rfl⟩
            rw [he] at hbt2 ⊢
            rw [txt, if_neg (by simp)]
            by_cases h1 : e = 1
            · subst h1
              replace hbt2 : bt (bA s) ((i + 1 : Nat) : Int) = 1 := hbt2
              refine Ev.step (f := fun k => some (K, n, bA acc, bA (s.drop (i + 2)), true)) (fun k => ?_) (Ev.some_ fun _ => ?_)
              · have hw3 : wrap64 ((i : Int) + 2) = ((i + 2 : Nat) : Int) := by unfold wrap64; omega
                simp only [interlockref05_first.l1]
                rw [if_pos (by rw [bA_size]; omega), if_pos (by omega), hbt, if_pos rfl, hw, if_neg (by rw [bA_size]; omega), if_pos (by omega), if_pos (by rw [bA_size]; omega), hbt2, if_pos rfl, hw3, if_pos (by omega), if_pos (by rw [bA_size]; omega), Int.toNat_natCast, str_nums, bA_drop]
              · rw [if_pos rfl]
                simp [textEnd]
            · have hne1 : ¬ ((e.toNat : Int) = 1) := byte_ne (n := 1) (fun h => h1 h) (by decide)
              rw [if_neg h1]
              by_cases h2 : e = 255
              · subst h2
                replace hbt2 : bt (bA s) ((i + 1 : Nat) : Int) = 255 := hbt2
                rw [if_pos rfl]
                refine Ev.step (f := fun k => interlockref05_first.l1 k (bA s) (nums8 (acc ++ [0])) ((i + 1 + 1 : Nat) : Int) K n ⟨#[]⟩) (fun k => ?_) (Ev.to (ih (d - 2) (i + 1 + 1) (acc ++ [0]) (by omega) (by omega) (by simp; omega)) ?_)
                · simp only [interlockref05_first.l1]
                  rw [if_pos (by rw [bA_size]; omega), if_pos (by omega), hbt, if_pos rfl, hw, if_neg (by rw [bA_size]; omega), if_pos (by omega), if_pos (by rw [bA_size]; omega), hbt2, if_neg (by decide : ¬ (255 : Int) = 1), if_pos rfl, if_pos (by rw [nums8_len]; omega), hw2, nums8_app]
                  rfl
                · cases txt (s.drop (i + 1 + 1)) with
                  | none => rfl
                  | some p => simp [textEnd]
              · have hne2 : ¬ ((e.toNat : Int) = 255) := byte_ne (n := 255) (fun h => h2 h) (by decide)
                rw [if_neg h2]
                refine Ev.step (f := fun k => some (K, n, ⟨#[]⟩, bA s, false)) (fun k => ?_) (Ev.some_ fun _ => rfl)
                simp only [interlockref05_first.l1]
                rw [if_pos (by rw [bA_size]; omega), if_pos (by omega), hbt, if_pos rfl, hw, if_neg (by rw [bA_size]; omega), if_pos (by omega), if_pos (by rw [bA_size]; omega), hbt2, if_neg hne1, if_neg hne2]
          · refine Ev.step (f := fun k => some (K, n, ⟨#[]⟩, bA s, false)) (fun k => ?_) (Ev.some_ fun _ => ?_)
            · simp only [interlockref05_first.l1]
              rw [if_pos (by rw [bA_size]; omega), if_pos (by omega), hbt, if_pos rfl, hw, if_pos (by rw [bA_size]; omega)]
            · rw [List.drop_eq_nil_iff.2 (by omega)]
              rfl
        · have hne0 : ¬ ((c.toNat : Int) = 0) := byte_ne (n := 0) (fun h => h0 h) (by decide)
          rw [txt_ne h0]
          refine Ev.step (f := fun k => interlockref05_first.l1 k (bA s) (nums8 (acc ++ [c])) ((i + 1 : Nat) : Int) K n ⟨#[]⟩) (fun k => ?_) (Ev.to (ih (d - 1) (i + 1) (acc ++ [c]) (by omega) (by omega) (by simp; omega)) ?_)
          · simp only [interlockref05_first.l1]
            rw [if_pos (by rw [bA_size]; omega), if_pos (by omega), hbt, if_neg hne0, if_pos (by rw [nums8_len]; omega), hw, nums8_app]
            rfl
          · cases txt (s.drop (i + 1)) with
            | none => rfl
            | some p => simp [textEnd]
      · refine Ev.step (f := fun k => some (K, n, ⟨#[]⟩, bA s, false)) (fun k => by simp only [interlockref05_first.l1]; rw [if_neg (by rw [bA_size]; omega)]) (Ev.some_ fun _ => ?_)
        rw [List.drop_eq_nil_iff.2 (by omega)]
        rfl
  intro d i acc hi ha
  exact key d d i acc (Nat.le_refl _) hi ha

theorem first_num_ev (s : List UInt8) (K n : Int) (h8 : 8 ≤ s.length) (hs : s.length ≤ 100000) : ∀ (d i u : Nat), i + d = 8 → u < 256 ^ i → Ev (fun k => interlockref05_first.l0 k (bA s) u i K n ⟨#[]⟩) (K, (foldN ((s.take 8).drop i) u : Int) - 9223372036854775808, ⟨#[]⟩, bA (s.drop 8), true) := by
  intro d
  induction d with
  | zero =>
    intro i u hi hu
    obtain rfl : i = 8 := by omega
    refine Ev.step (f := fun k => some (K, (u : Int) - 9223372036854775808, ⟨#[]⟩, bA (s.drop 8), true)) (fun k => ?_) (Ev.some_ fun _ => ?_)
    · have hu' : u < 18446744073709551616 := by simpa using hu
      have hx : wrap64 (IntKind.u64.wrap ((u : Int) - 9223372036854775808)) = (u : Int) - 9223372036854775808 := by
        rw [wrap_u]
        unfold wrap64
        omega
      simp only [interlockref05_first.l0]
      rw [if_neg (by decide), if_pos (by rw [bA_size]; omega), hx, bA_drop]
    · have e8 : (s.take 8).drop 8 = [] := List.drop_eq_nil_iff.2 (by rw [List.length_take]; omega)
      rw [e8]
      rfl
  | succ d ih =>
    intro i u hi hu
    have hlt : i < s.length := by omega
    have hbt := bt_bA s i hlt
    have hl : i < (s.take 8).length := by simp; omega
    have hdrop : (s.take 8).drop i = s[i] :: (s.take 8).drop (i + 1) := by
      rw [List.drop_eq_getElem_cons hl]
      simp
    obtain ⟨c, hc⟩ : ∃ c, s[i] = c := ⟨_, rfl⟩
    rw [hc] at hbt hdrop
    have hc8 := c.toNat_lt
    have hu2 : u * 256 + c.toNat < 256 ^ (i + 1) := by rw [Nat.pow_succ]; omega
    have hp : 256 ^ (i + 1) ≤ 256 ^ 8 := Nat.pow_le_pow_right (by decide) (by omega)
    have hp2 : (256 : Nat) ^ 8 = 18446744073709551616 := by decide
    refine Ev.step (f := fun k => interlockref05_first.l0 k (bA s) ((u * 256 + c.toNat : Nat) : Int) ((i + 1 : Nat) : Int) K n ⟨#[]⟩) (fun k => ?_) (Ev.to (ih (i + 1) _ (by omega) hu2) ?_)
    · have hx : IntKind.u64.wrap (IntKind.u64.wrap ((u : Int) * 256) + IntKind.u64.wrap (c.toNat : Int)) = ((u * 256 + c.toNat : Nat) : Int) := by
        rw [wrap_u, wrap_u, wrap_u]
        omega
      simp only [interlockref05_first.l0]
      rw [if_pos (by omega), if_pos (by omega), if_pos (by rw [bA_size]; omega), hbt, hx, wrap_succ i (by omega)]
    · rw [hdrop]
      rfl

def firstL (c : UInt8) (r : List UInt8) : Int × Int × ByteArray × ByteArray × Bool :=
  if (c.toNat : Int) = 0 then (0, 0, ⟨#[]⟩, bA r, true)
  else if (c.toNat : Int) = 1 then (if r.length < 8 then (1, 0, ⟨#[]⟩, bA r, false) else (1, (foldN (r.take 8) 0 : Int) - 9223372036854775808, ⟨#[]⟩, bA (r.drop 8), true))
  else if (c.toNat : Int) = 2 then (match r with | [] => (2, 0, ⟨#[]⟩, bA r, false) | d :: r' => (2, (d.toNat : Int), ⟨#[]⟩, bA r', true))
  else if (c.toNat : Int) = 3 then textEnd 3 0 r [] (txt r)
  else ((c.toNat : Int), 0, ⟨#[]⟩, bA r, false)
theorem first_ev (c : UInt8) (r : List UInt8) (hr : r.length ≤ 100000) : Ev (fun k => interlockref05_first.f k (bA (c :: r))) (firstL c r) := by
  have e1 : (bA (c :: r)).extract 1 (bA (c :: r)).size = bA r := bA_drop (c :: r) 1
  have hsz : (bA (c :: r)).size = r.length + 1 := by rw [bA_size]; rfl
  unfold interlockref05_first.f firstL
  simp only [e1, bt_cons, wrap_byte]
  simp only [if_pos (show (0 : Int) < ((bA (c :: r)).size : Int) by omega), if_pos (show (1 : Int) ≤ ((bA (c :: r)).size : Int) by omega)]
  obtain ⟨K, hK⟩ : ∃ K, (c.toNat : Int) = K := ⟨_, rfl⟩
  simp only [hK]
  by_cases h0 : K = 0
  · simp only [if_pos h0]
    exact Ev.some_ fun _ => by rw [h0]
  · simp only [if_neg h0]
    by_cases h1 : K = 1
    · subst h1
      simp only [if_true]
      by_cases h8 : r.length < 8
      · simp only [if_pos (show ((bA r).size : Int) < 8 by rw [bA_size]; omega), if_pos h8]
        exact Ev.some_ fun _ => rfl
      · simp only [if_neg (show ¬ ((bA r).size : Int) < 8 by rw [bA_size]; omega), if_neg h8]
        exact first_num_ev r 1 0 (by omega) hr 8 0 0 (by omega) (by decide)
    · simp only [if_neg h1]
      by_cases h2 : K = 2
      · subst h2
        simp only [if_true]
        cases r with
        | nil =>
          simp only [if_pos (show ((bA []).size : Int) < 1 by rw [bA_size]; decide)]
          exact Ev.some_ fun _ => rfl
        | cons d r =>
          have e2 : (bA (d :: r)).extract 1 (bA (d :: r)).size = bA r := bA_drop (d :: r) 1
          have hsz2 : (bA (d :: r)).size = r.length + 1 := by rw [bA_size]; rfl
          simp only [if_neg (show ¬ ((bA (d :: r)).size : Int) < 1 by omega), if_pos (show (0 : Int) < ((bA (d :: r)).size : Int) by omega), if_pos (show (1 : Int) ≤ ((bA (d :: r)).size : Int) by omega), bt_cons, wrap_byte, e2]
          exact Ev.some_ fun _ => rfl
      · simp only [if_neg h2]
        by_cases h3 : K = 3
        · subst h3
          simp only [if_true]
          exact Ev.to (first_text_ev r 3 0 hr r.length 0 [] (by omega) (by simp)) (by rw [List.drop_zero])
        · simp only [if_neg h3]
          exact Ev.some_ fun _ => rfl
theorem first_value (c : UInt8) (r : List UInt8) : (∃ v r', valueL (c :: r) = (v, r', false) ∧ firstL c r = (v.f0, v.f1, v.f2, bA r', true)) ∨
    ((firstL c r).2.2.2.2 = false ∧ ∃ v r' b, valueL (c :: r) = (v, r', b) ∧ (b = true ∨ 3 < v.f0)) := by
  show (∃ v r', valueB (c.toNat : Int) r = (v, r', false) ∧ _) ∨ (_ ∧ ∃ v r' b, valueB (c.toNat : Int) r = (v, r', b) ∧ _)
  have hpos : 0 ≤ (c.toNat : Int) := by omega
  unfold firstL
  obtain ⟨K, hK⟩ : ∃ K, (c.toNat : Int) = K := ⟨_, rfl⟩
  rw [hK] at hpos ⊢
  by_cases h0 : K = 0
  · subst h0
    exact .inl ⟨_, _, vb0 (by decide) (by decide) (by decide), rfl⟩
  · rw [if_neg h0]
    by_cases h1 : K = 1
    · rw [if_pos h1]
      by_cases h8 : r.length < 8
      · rw [if_pos h8]
        exact .inr ⟨rfl, _, _, _, vb1s h1 h8, .inl rfl⟩
      · rw [if_neg h8]
        refine .inl ⟨_, _, vb1 h1 h8, ?_⟩
        rw [(numOf_eq (r.take 8) (by simp; omega)).1, h1]
    · rw [if_neg h1]
      by_cases h2 : K = 2
      · rw [if_pos h2]
        cases r with
        | nil => exact .inr ⟨rfl, _, _, _, vb2n h2, .inl rfl⟩
        | cons d r => exact .inl ⟨_, _, vb2 h2, by rw [h2]⟩
      · rw [if_neg h2]
        by_cases h3 : K = 3
        · rw [if_pos h3]
          rcases textOf_txt r with ⟨t, q, e1, e2⟩ | ⟨e1, e2⟩
          · rw [e1]
            refine .inl ⟨⟨K, 0, bA t⟩, q, ?_, ?_⟩
            · rw [vb3 h3, e2]
            · rw [h3]; rfl
          · rw [e1]
            exact .inr ⟨rfl, _, _, _, vb3 h3, .inl e2⟩
        · rw [if_neg h3]
          exact .inr ⟨rfl, _, _, _, vb0 h1 h2 h3, .inr (by show 3 < K; omega)⟩
end Go.Proofs.YtjcgbppicdccdaaDoor.Q
end
