/- What Go functions compute, as Lean functions, and that the machine's call comes to just that; no conditions beyond each theorem's own. (Written by pp.py of this repo, over the kit's print.py.) -/
import Derived.Test.YtjcgbppicdccdaaDoorQ0
import Derived.Test.YtjcgbppicdccdaaDoorH11
import Derived.Test.YtjcgbppicdccdaaDoorQ15
namespace Go.Proofs.YtjcgbppicdccdaaDoor.Q
open Go.RowKit Go.Proofs.YtjcgbppicdccdaaDoorW.PrintWords Go.Proofs.YtjcgbppicdccdaaDoorW.PrintLast Go.Proofs.YtjcgbppicdccdaaDoorW.PrintMore
attribute [local go_sem] max2_int min2_int max_two min_two max_three min_three max_four min_four   -- for this text's walks alone
set_option linter.unusedVariables false
set_option linter.unusedSimpArgs false

/-! ### interlocklaw05_alive: function 9 -/
def interlocklaw05_alive.f  : Option (Bool) := (key_Encode.f (([(⟨3, 0, (⟨#[97]⟩ : ByteArray)⟩ : S43), (⟨0, 0, (⟨#[]⟩ : ByteArray)⟩ : S43)] : List (S43)))).bind fun bt115 => (if bt115.2 = true then (if bt115.1.toList = ([3, 97, 0, 1, 0] : List UInt8) then ((key_Next.f (⟨#[97]⟩ : ByteArray)).bind fun t117 => (some (t117.toList == ([97, 255] : List UInt8)))) else (some false)) else (some false))
set_option maxHeartbeats 8000000 in
set_option maxRecDepth 100000 in
theorem interlocklaw05_alive.calls  (r : Bool) (w : World) (h : interlocklaw05_alive.f  = some r) :
    Calls Tryd.prog 9 #[] w fun e w' => e = .returned (.bool r) ∧ Below w.heap.size w w' := by
  have hu43 := Tryd.underlying43
  have HB := Aside0.mk (Below.refl w.heap.size w)
  have H : ((key_Encode.f (([(⟨3, 0, (⟨#[97]⟩ : ByteArray)⟩ : S43), (⟨0, 0, (⟨#[]⟩ : ByteArray)⟩ : S43)] : List (S43)))).bind fun bt115 => (if bt115.2 = true then (if bt115.1.toList = ([3, 97, 0, 1, 0] : List UInt8) then ((key_Next.f (⟨#[97]⟩ : ByteArray)).bind fun t117 => (some (t117.toList == ([97, 255] : List UInt8)))) else (some false)) else (some false))) = some r := h
  clear h
  obtain ⟨y112, hy112⟩ : ∃ y_ : List (S43), y_ = (([(⟨3, 0, (⟨#[97]⟩ : ByteArray)⟩ : S43), (⟨0, 0, (⟨#[]⟩ : ByteArray)⟩ : S43)] : List (S43))) := ⟨_, rfl⟩
  replace H : ((key_Encode.f y112).bind fun bt115 => (if bt115.2 = true then (if bt115.1.toList = ([3, 97, 0, 1, 0] : List UInt8) then ((key_Next.f (⟨#[97]⟩ : ByteArray)).bind fun t117 => (some (t117.toList == ([97, 255] : List UInt8)))) else (some false)) else (some false))) = some r := by first | (rw [hy112]; with_reducible exact H) | (have H2_ := (Option.bind_some _ _).symm.trans H; rw [hy112]; with_reducible exact H2_) | (have H2_ := (Option.bind_some _ _).symm.trans H; with_reducible exact H2_) | with_reducible exact H | (rw [hy112]; exact H) | exact H
  have Ny112 := Aside0.mk hy112
  clear hy112
  replace H := Option.bind_eq_some_iff.mp H
  obtain ⟨⟨t115, t116⟩, A10, H⟩ := H
  replace H : (if t116 = true then (if t115.toList = ([3, 97, 0, 1, 0] : List UInt8) then ((key_Next.f (⟨#[97]⟩ : ByteArray)).bind fun t117 => (some (t117.toList == ([97, 255] : List UInt8)))) else (some false)) else (some false)) = some r := H
  have A1 := Aside0.mk A10
  clear A10
  by_cases c2 : t116 = true
  · subst c2
    have H1 : (if t115.toList = ([3, 97, 0, 1, 0] : List UInt8) then ((key_Next.f (⟨#[97]⟩ : ByteArray)).bind fun t117 => (some (t117.toList == ([97, 255] : List UInt8)))) else (some false)) = some r := by rw [if_pos rfl] at H; exact H
    clear H
    have H := H1
    clear H1
    by_cases c3 : t115.toList = ([3, 97, 0, 1, 0] : List UInt8)
    · rw [if_pos c3] at H
      have c3b0 : (t115.toList == ([3, 97, 0, 1, 0] : List UInt8)) = true := beq_iff_eq.mpr c3
      have c3b1 : (t115.toList != ([3, 97, 0, 1, 0] : List UInt8)) = false := bne_eq_false_iff_eq.mpr c3
      clear c3
      replace H := Option.bind_eq_some_iff.mp H
      obtain ⟨t117, A40, H⟩ := H
      replace H : (some (t117.toList == ([97, 255] : List UInt8))) = some r := H
      have A4 := Aside0.mk A40
      clear A40
      obtain rfl := Option.some.inj H
      go_enter Tryd.func9, Tryd.ntmps9
      go_wp2_with (first | ((with_reducible refine gate_dst (N := 6) rfl ?_); refine Kd.R_lit k43 _ 43 ?hg (N := 6) ?hd (xs := ([(⟨3, 0, (⟨#[97]⟩ : ByteArray)⟩ : S43), (⟨0, 0, (⟨#[]⟩ : ByteArray)⟩ : S43)] : List (S43))) (inner := [.int .i64 3, .int .i64 0, .string (⟨#[97]⟩ : ByteArray), .int .i64 0, .int .i64 0, .string (⟨#[]⟩ : ByteArray)]) (ok := fun _ => True) (okp := fun _ => True) ?hr ?hp (fun _ hk => hk) trivial (Below.refl _ _) (Nat.le_refl _) (by simp) ?_; (case hd => rfl); (case hg => rfl); (case hr => first | (go_simp; done) | (go_simp; rfl)); (case hp => exact (Reps.c3 (show Kd.M k43 _ _ _ (⟨3, 0, (⟨#[97]⟩ : ByteArray)⟩ : S43) [.int .i64 3, .int .i64 0, .string (⟨#[97]⟩ : ByteArray)] from (k43_mkM _ _ _ (⟨3, 0, (⟨#[97]⟩ : ByteArray)⟩ : S43) )) (Reps.c3 (show Kd.M k43 _ _ _ (⟨0, 0, (⟨#[]⟩ : ByteArray)⟩ : S43) [.int .i64 0, .int .i64 0, .string (⟨#[]⟩ : ByteArray)] from (k43_mkM _ _ _ (⟨0, 0, (⟨#[]⟩ : ByteArray)⟩ : S43) )) (Reps.none _ _)))); intro v113 w5 ho6 hb hg_ hnew_; clear hg_ hnew_; (first | rw [← Ny112.out] at ho6 | (simp only [Int.reduceToNat] at ho6; rw [← Ny112.out] at ho6)); have n0_ := Aside0.mk (Kd.R_lower ho6 (below_size (by repeat (first | (with_reducible first | exact HB.out | apply below_alloc | apply pw_below_drewN | apply below_drew1) | exact HB.out)))); have n1_ := Aside0.mk (below_step (by repeat (first | (with_reducible first | exact HB.out | apply below_alloc | apply pw_below_drewN | apply below_drew1) | exact HB.out)) hb); clear HB; have HO114 := n0_; have HB := n1_; clear n0_ n1_; clear hb ho6; obtain ⟨Ao7, co7, eo7⟩ := Kd.R_slice HO114.out; subst eo7) | ((with_reducible refine gate_callee (f := 11) rfl ?_); refine goesL_ (some 7) rfl rfl Tryd.func11 (by kernel_rfl) rfl #[.slice Ao7 y112.length co7] rfl (by (try simp only [List.map_toArray, List.map_cons, List.map_nil]); first | done | rfl | (simp only [List.length_drop, List.length_take]; rfl)) ?_; (with_reducible refine (key_Encode.calls _ _ y112 t115 true _ ?side1 ?side2 A1.out).mono ?_); (case side1 => repeat (first | exact (Kd.R_reads' HO114.out).2.2 | (with_reducible refine Kd.C_alloc ?_ _) | (with_reducible refine Kd.C_drewN ?_ _) | (with_reducible refine Kd.C_drew ?_))); (case side2 => exact (Kd.R_reads' HO114.out).2.1); rintro e w8 ⟨rfl, hb⟩; refine ⟨_, rfl, ?_⟩; have n0_ := Aside0.mk (Kd.R_below (by (with_reducible repeat (first | apply Kd.R_alloc | apply Kd.R_drewN | apply Kd.R_drew)); exact HO114.out) hb); have n1_ := Aside0.mk (below_step (by repeat (first | (with_reducible first | exact HB.out | apply below_alloc | apply pw_below_drewN | apply below_drew1) | exact HB.out)) hb); clear HO114; clear HB; have HO114 := n0_; have HB := n1_; clear n0_ n1_; (try clear hb); (try clear hb2); (try clear hk); (try clear hi)) | (go_at_call 15; (with_reducible refine (key_Next.calls (⟨#[97]⟩ : ByteArray) t117 _ A4.out).mono ?_); rintro e w' ⟨rfl, ⟨nd, rfl⟩⟩))
      go_ret
      exact ⟨by first | rfl | (simp [errW_none, errW_some] <;> rfl) | (simp [*, errW_none, errW_some] <;> rfl), by repeat (first | (with_reducible first | exact HB.out | apply below_alloc | apply pw_below_drewN | apply below_drew1) | exact HB.out)⟩
    · rw [if_neg c3] at H
      have c3b0 : (t115.toList == ([3, 97, 0, 1, 0] : List UInt8)) = false := beq_eq_false_iff_ne.mpr c3
      have c3b1 : (t115.toList != ([3, 97, 0, 1, 0] : List UInt8)) = true := bne_iff_ne.mpr c3
      obtain rfl := Option.some.inj H
      go_enter Tryd.func9, Tryd.ntmps9
      go_wp2_with (first | ((with_reducible refine gate_dst (N := 6) rfl ?_); refine Kd.R_lit k43 _ 43 ?hg (N := 6) ?hd (xs := ([(⟨3, 0, (⟨#[97]⟩ : ByteArray)⟩ : S43), (⟨0, 0, (⟨#[]⟩ : ByteArray)⟩ : S43)] : List (S43))) (inner := [.int .i64 3, .int .i64 0, .string (⟨#[97]⟩ : ByteArray), .int .i64 0, .int .i64 0, .string (⟨#[]⟩ : ByteArray)]) (ok := fun _ => True) (okp := fun _ => True) ?hr ?hp (fun _ hk => hk) trivial (Below.refl _ _) (Nat.le_refl _) (by simp) ?_; (case hd => rfl); (case hg => rfl); (case hr => first | (go_simp; done) | (go_simp; rfl)); (case hp => exact (Reps.c3 (show Kd.M k43 _ _ _ (⟨3, 0, (⟨#[97]⟩ : ByteArray)⟩ : S43) [.int .i64 3, .int .i64 0, .string (⟨#[97]⟩ : ByteArray)] from (k43_mkM _ _ _ (⟨3, 0, (⟨#[97]⟩ : ByteArray)⟩ : S43) )) (Reps.c3 (show Kd.M k43 _ _ _ (⟨0, 0, (⟨#[]⟩ : ByteArray)⟩ : S43) [.int .i64 0, .int .i64 0, .string (⟨#[]⟩ : ByteArray)] from (k43_mkM _ _ _ (⟨0, 0, (⟨#[]⟩ : ByteArray)⟩ : S43) )) (Reps.none _ _)))); intro v113 w9 ho10 hb hg_ hnew_; clear hg_ hnew_; (first | rw [← Ny112.out] at ho10 | (simp only [Int.reduceToNat] at ho10; rw [← Ny112.out] at ho10)); have n0_ := Aside0.mk (Kd.R_lower ho10 (below_size (by repeat (first | (with_reducible first | exact HB.out | apply below_alloc | apply pw_below_drewN | apply below_drew1) | exact HB.out)))); have n1_ := Aside0.mk (below_step (by repeat (first | (with_reducible first | exact HB.out | apply below_alloc | apply pw_below_drewN | apply below_drew1) | exact HB.out)) hb); clear HB; have HO114 := n0_; have HB := n1_; clear n0_ n1_; clear hb ho10; obtain ⟨Ao11, co11, eo11⟩ := Kd.R_slice HO114.out; subst eo11) | ((with_reducible refine gate_callee (f := 11) rfl ?_); refine goesL_ (some 7) rfl rfl Tryd.func11 (by kernel_rfl) rfl #[.slice Ao11 y112.length co11] rfl (by (try simp only [List.map_toArray, List.map_cons, List.map_nil]); first | done | rfl | (simp only [List.length_drop, List.length_take]; rfl)) ?_; (with_reducible refine (key_Encode.calls _ _ y112 t115 true _ ?side1 ?side2 A1.out).mono ?_); (case side1 => repeat (first | exact (Kd.R_reads' HO114.out).2.2 | (with_reducible refine Kd.C_alloc ?_ _) | (with_reducible refine Kd.C_drewN ?_ _) | (with_reducible refine Kd.C_drew ?_))); (case side2 => exact (Kd.R_reads' HO114.out).2.1); rintro e w12 ⟨rfl, hb⟩; refine ⟨_, rfl, ?_⟩; have n0_ := Aside0.mk (Kd.R_below (by (with_reducible repeat (first | apply Kd.R_alloc | apply Kd.R_drewN | apply Kd.R_drew)); exact HO114.out) hb); have n1_ := Aside0.mk (below_step (by repeat (first | (with_reducible first | exact HB.out | apply below_alloc | apply pw_below_drewN | apply below_drew1) | exact HB.out)) hb); clear HO114; clear HB; have HO114 := n0_; have HB := n1_; clear n0_ n1_; (try clear hb); (try clear hb2); (try clear hk); (try clear hi)))
      go_ret
      exact ⟨by first | rfl | (simp [errW_none, errW_some] <;> rfl) | (simp [*, errW_none, errW_some] <;> rfl), by repeat (first | (with_reducible first | exact HB.out | apply below_alloc | apply pw_below_drewN | apply below_drew1) | exact HB.out)⟩
  · replace c2 := Bool.eq_false_iff.mpr c2
    subst c2
    have H1 : (some false) = some r := by rw [if_neg (show ¬ (false = true) by decide)] at H; exact H
    clear H
    have H := H1
    clear H1
    obtain rfl := Option.some.inj H
    go_enter Tryd.func9, Tryd.ntmps9
    go_wp2_with (first | ((with_reducible refine gate_dst (N := 6) rfl ?_); refine Kd.R_lit k43 _ 43 ?hg (N := 6) ?hd (xs := ([(⟨3, 0, (⟨#[97]⟩ : ByteArray)⟩ : S43), (⟨0, 0, (⟨#[]⟩ : ByteArray)⟩ : S43)] : List (S43))) (inner := [.int .i64 3, .int .i64 0, .string (⟨#[97]⟩ : ByteArray), .int .i64 0, .int .i64 0, .string (⟨#[]⟩ : ByteArray)]) (ok := fun _ => True) (okp := fun _ => True) ?hr ?hp (fun _ hk => hk) trivial (Below.refl _ _) (Nat.le_refl _) (by simp) ?_; (case hd => rfl); (case hg => rfl); (case hr => first | (go_simp; done) | (go_simp; rfl)); (case hp => exact (Reps.c3 (show Kd.M k43 _ _ _ (⟨3, 0, (⟨#[97]⟩ : ByteArray)⟩ : S43) [.int .i64 3, .int .i64 0, .string (⟨#[97]⟩ : ByteArray)] from (k43_mkM _ _ _ (⟨3, 0, (⟨#[97]⟩ : ByteArray)⟩ : S43) )) (Reps.c3 (show Kd.M k43 _ _ _ (⟨0, 0, (⟨#[]⟩ : ByteArray)⟩ : S43) [.int .i64 0, .int .i64 0, .string (⟨#[]⟩ : ByteArray)] from (k43_mkM _ _ _ (⟨0, 0, (⟨#[]⟩ : ByteArray)⟩ : S43) )) (Reps.none _ _)))); intro v113 w13 ho14 hb hg_ hnew_; clear hg_ hnew_; (first | rw [← Ny112.out] at ho14 | (simp only [Int.reduceToNat] at ho14; rw [← Ny112.out] at ho14)); have n0_ := Aside0.mk (Kd.R_lower ho14 (below_size (by repeat (first | (with_reducible first | exact HB.out | apply below_alloc | apply pw_below_drewN | apply below_drew1) | exact HB.out)))); have n1_ := Aside0.mk (below_step (by repeat (first | (with_reducible first | exact HB.out | apply below_alloc | apply pw_below_drewN | apply below_drew1) | exact HB.out)) hb); clear HB; have HO114 := n0_; have HB := n1_; clear n0_ n1_; clear hb ho14; obtain ⟨Ao15, co15, eo15⟩ := Kd.R_slice HO114.out; subst eo15) | ((with_reducible refine gate_callee (f := 11) rfl ?_); refine goesL_ (some 7) rfl rfl Tryd.func11 (by kernel_rfl) rfl #[.slice Ao15 y112.length co15] rfl (by (try simp only [List.map_toArray, List.map_cons, List.map_nil]); first | done | rfl | (simp only [List.length_drop, List.length_take]; rfl)) ?_; (with_reducible refine (key_Encode.calls _ _ y112 t115 false _ ?side1 ?side2 A1.out).mono ?_); (case side1 => repeat (first | exact (Kd.R_reads' HO114.out).2.2 | (with_reducible refine Kd.C_alloc ?_ _) | (with_reducible refine Kd.C_drewN ?_ _) | (with_reducible refine Kd.C_drew ?_))); (case side2 => exact (Kd.R_reads' HO114.out).2.1); rintro e w16 ⟨rfl, hb⟩; refine ⟨_, rfl, ?_⟩; have n0_ := Aside0.mk (Kd.R_below (by (with_reducible repeat (first | apply Kd.R_alloc | apply Kd.R_drewN | apply Kd.R_drew)); exact HO114.out) hb); have n1_ := Aside0.mk (below_step (by repeat (first | (with_reducible first | exact HB.out | apply below_alloc | apply pw_below_drewN | apply below_drew1) | exact HB.out)) hb); clear HO114; clear HB; have HO114 := n0_; have HB := n1_; clear n0_ n1_; (try clear hb); (try clear hb2); (try clear hk); (try clear hi)))
    go_ret
    exact ⟨by first | rfl | (simp [errW_none, errW_some] <;> rfl) | (simp [*, errW_none, errW_some] <;> rfl), by repeat (first | (with_reducible first | exact HB.out | apply below_alloc | apply pw_below_drewN | apply below_drew1) | exact HB.out)⟩

end Go.Proofs.YtjcgbppicdccdaaDoor.Q
