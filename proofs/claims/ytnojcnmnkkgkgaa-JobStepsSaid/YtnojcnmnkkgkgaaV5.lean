/- Packed by shake.py: YtnojcnmnkkgkgaaQ37 YtnojcnmnkkgkgaaQ35 YtnojcnmnkkgkgaaJU1 YtnojcnmnkkgkgaaJU2 YtnojcnmnkkgkgaaQ32 YtnojcnmnkkgkgaaQ33 YtnojcnmnkkgkgaaQ14 -/
import Derived.Test.YtnojcnmnkkgkgaaV4
set_option linter.unusedSectionVars false
section
namespace Go.Proofs.Ytnojcnmnkkgkgaa.Q
open Go.RowKit Go.Proofs.YtnojcnmnkkgkgaaW.PrintWords Go.Proofs.YtnojcnmnkkgkgaaW.PrintLast Go.Proofs.YtnojcnmnkkgkgaaW.PrintMore
attribute [local go_sem] max2_int min2_int max_two min_two max_three min_three max_four min_four
set_option linter.unusedVariables false
set_option linter.unusedSimpArgs false
def interlockref18_Register.f (a0 : ByteArray) : Option ((List (S97))) := (interlockref18_base.f 4 3).bind fun t212 => ((interlockref18_want.f 3 a0 (⟨#[]⟩ : ByteArray) 4).bind fun bt215 => (if t212.length < 2932031007402 then (some (t212 ++ [(⟨(⟨bt215.1, bt215.2.1, bt215.2.2.1⟩ : S95), bt215.2.2.2⟩ : S97)])) else (none)))
set_option maxHeartbeats 8000000 in
set_option maxRecDepth 100000 in
theorem interlockref18_Register.calls (a0 : ByteArray) (r : List (S97)) (w : World) (h : interlockref18_Register.f a0 = some r) :
    Calls Try.prog 37 #[.string a0] w fun e w' => ∃ v0_ : Value, e = .returned (v0_) ∧ Kd.R k97 97 w' w.heap.size (fun _ => True) v0_ r ∧ Below w.heap.size w w' := by
  have HB := Aside0.mk (Below.refl w.heap.size w)
  have H : ((interlockref18_base.f 4 3).bind fun t212 => ((interlockref18_want.f 3 a0 (⟨#[]⟩ : ByteArray) 4).bind fun bt215 => (if t212.length < 2932031007402 then (some (t212 ++ [(⟨(⟨bt215.1, bt215.2.1, bt215.2.2.1⟩ : S95), bt215.2.2.2⟩ : S97)])) else (none)))) = some r := h
  clear h
  replace H := Option.bind_eq_some_iff.mp H
  obtain ⟨t212, A20, H⟩ := H
  replace H : ((interlockref18_want.f 3 a0 (⟨#[]⟩ : ByteArray) 4).bind fun bt215 => (if t212.length < 2932031007402 then (some (t212 ++ [(⟨(⟨bt215.1, bt215.2.1, bt215.2.2.1⟩ : S95), bt215.2.2.2⟩ : S97)])) else (none))) = some r := H
  have A2 := Aside0.mk A20
  clear A20
  replace H := Option.bind_eq_some_iff.mp H
  obtain ⟨⟨t215, t216, t217, t218⟩, A30, H⟩ := H
  replace H : (if t212.length < 2932031007402 then (some (t212 ++ [(⟨(⟨t215, t216, t217⟩ : S95), t218⟩ : S97)])) else (none)) = some r := H
  have A3 := Aside0.mk A30
  clear A30
  by_cases c4 : t212.length < 2932031007402
  · rw [if_pos c4] at H
    have LMc4 := Aside0.mk c4
    clear c4
    obtain ⟨y219, hy219⟩ : ∃ y_ : List (S97), y_ = (t212 ++ [(⟨(⟨t215, t216, t217⟩ : S95), t218⟩ : S97)]) := ⟨_, rfl⟩
    replace H : (some y219) = some r := by first | (rw [hy219]; with_reducible exact H) | (have H2_ := (Option.bind_some _ _).symm.trans H; rw [hy219]; with_reducible exact H2_) | (have H2_ := (Option.bind_some _ _).symm.trans H; with_reducible exact H2_) | with_reducible exact H | (rw [hy219]; exact H) | exact H
    have Ny219 := Aside0.mk hy219
    clear hy219
    obtain rfl := Option.some.inj H
    go_enter Try.func37, Try.ntmps37
    go_wp2_with (first | ((with_reducible refine gate_callee (f := 55) rfl ?_); refine goesL_ (some 3) rfl rfl Try.func55 (by kernel_rfl) rfl #[.int .i64 4, .int .i64 3] rfl (by (try simp only [List.map_toArray, List.map_cons, List.map_nil]); first | done | rfl | (simp only [List.length_drop, List.length_take]; rfl)) ?_; (with_reducible refine (interlockref18_base.calls 4 3 t212 _ A2.out).mono ?_); rintro e w5 ⟨v213, rfl, ho0, hb⟩; refine ⟨_, rfl, ?_⟩; have n0_ := Aside0.mk (Kd.R_lower ho0 (below_size (by repeat (first | (with_reducible first | exact HB.out | apply below_alloc | apply pw_below_drewN | apply below_drew1) | exact HB.out)))); have n1_ := Aside0.mk (below_step (by repeat (first | (with_reducible first | exact HB.out | apply below_alloc | apply pw_below_drewN | apply below_drew1) | exact HB.out)) hb); clear HB; have HO214 := n0_; have HB := n1_; clear n0_ n1_; (try clear hb); (try clear hb2); (try clear hk); (try clear hi); (try clear ho0)) | ((with_reducible refine gate_callee (f := 56) rfl ?_); refine goesL_ (some 5) rfl rfl Try.func56 (by kernel_rfl) rfl #[.int .i64 3, .string a0, .string (⟨#[]⟩ : ByteArray), .int .i64 4] rfl (by (try simp only [List.map_toArray, List.map_cons, List.map_nil]); first | done | rfl | (simp only [List.length_drop, List.length_take]; rfl)) ?_; (with_reducible refine (interlockref18_want.calls 3 a0 (⟨#[]⟩ : ByteArray) 4 t215 t216 t217 t218 _ A3.out).mono ?_); rintro e w6 ⟨rfl, hb⟩; refine ⟨_, rfl, ?_⟩; have n0_ := Aside0.mk (Kd.R_below (by (with_reducible repeat (first | apply Kd.R_alloc | apply Kd.R_drewN | apply Kd.R_drew)); exact HO214.out) hb); have n1_ := Aside0.mk (below_step (by repeat (first | (with_reducible first | exact HB.out | apply below_alloc | apply pw_below_drewN | apply below_drew1) | exact HB.out)) hb); clear HO214; clear HB; have HO214 := n0_; have HB := n1_; clear n0_ n1_; (try clear hb); (try clear hb2); (try clear hk); (try clear hi)) | ((with_reducible refine gate_builtin (b := .append) (xs := #[.tmp 3, .tmp 6]) rfl ?_); at_builtin; refine Kd.R_append k97 (w0 := w) w.heap.size rfl (.tmp 3) (.tmp 6) 72 97 (.agg #[(.int .i64 0), (.string ⟨#[]⟩), (.string ⟨#[]⟩), (.int .i64 0)]) 48 rfl Try.underlying72 info97 rfl (by decide) (by omega) v213 t212 (⟨(⟨t215, t216, t217⟩ : S95), t218⟩ : S97) [.int .i64 t215, .string t216, .string t217, .int .i64 t218] (fun _ => True) (fun _ => False) rfl rfl ?aP (fun _ hk => hk.elim) ?aF ?aO ?aB ?aS ?aL ?_; (case aP => exact k97_mkM _ _ _ (⟨(⟨t215, t216, t217⟩ : S95), t218⟩ : S97)); (case aB => exact (by repeat (first | (with_reducible first | exact HB.out | apply below_alloc | apply pw_below_drewN | apply below_drew1) | exact HB.out))); (case aF => exact (fun _ _ => trivial)); (case aO => exact (by (with_reducible repeat (first | apply Kd.R_alloc | apply Kd.R_drewN | apply Kd.R_drew)); exact HO214.out)); (case aS => exact (below_size (by repeat (first | (with_reducible first | exact HB.out | apply below_alloc | apply pw_below_drewN | apply below_drew1) | exact HB.out)))); (case aL => have := LMc4.out; omega); intro v220 w7 ho hb hg hat; rw [← Ny219.out] at ho; have n0_ := Aside0.mk (hb); have n1_ := Aside0.mk (ho); clear HB; clear HO214; have HB := n0_; have HO221 := n1_; clear n0_ n1_; clear ho hb hg hat))
    go_ret
    exact ⟨_, by first | rfl | (simp [errW_none, errW_some] <;> rfl) | (simp [*, errW_none, errW_some] <;> rfl), by (with_reducible repeat (first | apply Kd.R_alloc | apply Kd.R_drewN | apply Kd.R_drew)); exact HO221.out, by repeat (first | (with_reducible first | exact HB.out | apply below_alloc | apply pw_below_drewN | apply below_drew1) | exact HB.out)⟩
  · rw [if_neg c4] at H
    exact absurd H (by simp)
end Go.Proofs.Ytnojcnmnkkgkgaa.Q
end
section
namespace Go.Proofs.Ytnojcnmnkkgkgaa.Q
open Go.RowKit Go.Proofs.YtnojcnmnkkgkgaaW.PrintWords Go.Proofs.YtnojcnmnkkgkgaaW.PrintLast Go.Proofs.YtnojcnmnkkgkgaaW.PrintMore
attribute [local go_sem] max2_int min2_int max_two min_two max_three min_three max_four min_four
set_option linter.unusedVariables false
set_option linter.unusedSimpArgs false
def interlockref18_Mark.f (a0 : ByteArray) : Option ((List (S97))) := (interlockref18_base.f 4 3).bind fun t179 => ((interlockref18_want.f 3 a0 (⟨#[]⟩ : ByteArray) 3).bind fun bt182 => (if t179.length < 2932031007402 then (some (t179 ++ [(⟨(⟨bt182.1, bt182.2.1, bt182.2.2.1⟩ : S95), bt182.2.2.2⟩ : S97)])) else (none)))
set_option maxHeartbeats 8000000 in
set_option maxRecDepth 100000 in
theorem interlockref18_Mark.calls (a0 : ByteArray) (r : List (S97)) (w : World) (h : interlockref18_Mark.f a0 = some r) :
    Calls Try.prog 35 #[.string a0] w fun e w' => ∃ v0_ : Value, e = .returned (v0_) ∧ Kd.R k97 97 w' w.heap.size (fun _ => True) v0_ r ∧ Below w.heap.size w w' := by
  have HB := Aside0.mk (Below.refl w.heap.size w)
  have H : ((interlockref18_base.f 4 3).bind fun t179 => ((interlockref18_want.f 3 a0 (⟨#[]⟩ : ByteArray) 3).bind fun bt182 => (if t179.length < 2932031007402 then (some (t179 ++ [(⟨(⟨bt182.1, bt182.2.1, bt182.2.2.1⟩ : S95), bt182.2.2.2⟩ : S97)])) else (none)))) = some r := h
  clear h
  replace H := Option.bind_eq_some_iff.mp H
  obtain ⟨t179, A20, H⟩ := H
  replace H : ((interlockref18_want.f 3 a0 (⟨#[]⟩ : ByteArray) 3).bind fun bt182 => (if t179.length < 2932031007402 then (some (t179 ++ [(⟨(⟨bt182.1, bt182.2.1, bt182.2.2.1⟩ : S95), bt182.2.2.2⟩ : S97)])) else (none))) = some r := H
  have A2 := Aside0.mk A20
  clear A20
  replace H := Option.bind_eq_some_iff.mp H
  obtain ⟨⟨t182, t183, t184, t185⟩, A30, H⟩ := H
  replace H : (if t179.length < 2932031007402 then (some (t179 ++ [(⟨(⟨t182, t183, t184⟩ : S95), t185⟩ : S97)])) else (none)) = some r := H
  have A3 := Aside0.mk A30
  clear A30
  by_cases c4 : t179.length < 2932031007402
  · rw [if_pos c4] at H
    have LMc4 := Aside0.mk c4
    clear c4
    obtain ⟨y186, hy186⟩ : ∃ y_ : List (S97), y_ = (t179 ++ [(⟨(⟨t182, t183, t184⟩ : S95), t185⟩ : S97)]) := ⟨_, rfl⟩
    replace H : (some y186) = some r := by first | (rw [hy186]; with_reducible exact H) | (have H2_ := (Option.bind_some _ _).symm.trans H; rw [hy186]; with_reducible exact H2_) | (have H2_ := (Option.bind_some _ _).symm.trans H; with_reducible exact H2_) | with_reducible exact H | (rw [hy186]; exact H) | exact H
    have Ny186 := Aside0.mk hy186
    clear hy186
    obtain rfl := Option.some.inj H
    go_enter Try.func35, Try.ntmps35
    go_wp2_with (first | ((with_reducible refine gate_callee (f := 55) rfl ?_); refine goesL_ (some 3) rfl rfl Try.func55 (by kernel_rfl) rfl #[.int .i64 4, .int .i64 3] rfl (by (try simp only [List.map_toArray, List.map_cons, List.map_nil]); first | done | rfl | (simp only [List.length_drop, List.length_take]; rfl)) ?_; (with_reducible refine (interlockref18_base.calls 4 3 t179 _ A2.out).mono ?_); rintro e w5 ⟨v180, rfl, ho0, hb⟩; refine ⟨_, rfl, ?_⟩; have n0_ := Aside0.mk (Kd.R_lower ho0 (below_size (by repeat (first | (with_reducible first | exact HB.out | apply below_alloc | apply pw_below_drewN | apply below_drew1) | exact HB.out)))); have n1_ := Aside0.mk (below_step (by repeat (first | (with_reducible first | exact HB.out | apply below_alloc | apply pw_below_drewN | apply below_drew1) | exact HB.out)) hb); clear HB; have HO181 := n0_; have HB := n1_; clear n0_ n1_; (try clear hb); (try clear hb2); (try clear hk); (try clear hi); (try clear ho0)) | ((with_reducible refine gate_callee (f := 56) rfl ?_); refine goesL_ (some 5) rfl rfl Try.func56 (by kernel_rfl) rfl #[.int .i64 3, .string a0, .string (⟨#[]⟩ : ByteArray), .int .i64 3] rfl (by (try simp only [List.map_toArray, List.map_cons, List.map_nil]); first | done | rfl | (simp only [List.length_drop, List.length_take]; rfl)) ?_; (with_reducible refine (interlockref18_want.calls 3 a0 (⟨#[]⟩ : ByteArray) 3 t182 t183 t184 t185 _ A3.out).mono ?_); rintro e w6 ⟨rfl, hb⟩; refine ⟨_, rfl, ?_⟩; have n0_ := Aside0.mk (Kd.R_below (by (with_reducible repeat (first | apply Kd.R_alloc | apply Kd.R_drewN | apply Kd.R_drew)); exact HO181.out) hb); have n1_ := Aside0.mk (below_step (by repeat (first | (with_reducible first | exact HB.out | apply below_alloc | apply pw_below_drewN | apply below_drew1) | exact HB.out)) hb); clear HO181; clear HB; have HO181 := n0_; have HB := n1_; clear n0_ n1_; (try clear hb); (try clear hb2); (try clear hk); (try clear hi)) | ((with_reducible refine gate_builtin (b := .append) (xs := #[.tmp 3, .tmp 6]) rfl ?_); at_builtin; refine Kd.R_append k97 (w0 := w) w.heap.size rfl (.tmp 3) (.tmp 6) 72 97 (.agg #[(.int .i64 0), (.string ⟨#[]⟩), (.string ⟨#[]⟩), (.int .i64 0)]) 48 rfl Try.underlying72 info97 rfl (by decide) (by omega) v180 t179 (⟨(⟨t182, t183, t184⟩ : S95), t185⟩ : S97) [.int .i64 t182, .string t183, .string t184, .int .i64 t185] (fun _ => True) (fun _ => False) rfl rfl ?aP (fun _ hk => hk.elim) ?aF ?aO ?aB ?aS ?aL ?_; (case aP => exact k97_mkM _ _ _ (⟨(⟨t182, t183, t184⟩ : S95), t185⟩ : S97)); (case aB => exact (by repeat (first | (with_reducible first | exact HB.out | apply below_alloc | apply pw_below_drewN | apply below_drew1) | exact HB.out))); (case aF => exact (fun _ _ => trivial)); (case aO => exact (by (with_reducible repeat (first | apply Kd.R_alloc | apply Kd.R_drewN | apply Kd.R_drew)); exact HO181.out)); (case aS => exact (below_size (by repeat (first | (with_reducible first | exact HB.out | apply below_alloc | apply pw_below_drewN | apply below_drew1) | exact HB.out)))); (case aL => have := LMc4.out; omega); intro v187 w7 ho hb hg hat; rw [← Ny186.out] at ho; have n0_ := Aside0.mk (hb); have n1_ := Aside0.mk (ho); clear HB; clear HO181; have HB := n0_; have HO188 := n1_; clear n0_ n1_; clear ho hb hg hat))
    go_ret
    exact ⟨_, by first | rfl | (simp [errW_none, errW_some] <;> rfl) | (simp [*, errW_none, errW_some] <;> rfl), by (with_reducible repeat (first | apply Kd.R_alloc | apply Kd.R_drewN | apply Kd.R_drew)); exact HO188.out, by repeat (first | (with_reducible first | exact HB.out | apply below_alloc | apply pw_below_drewN | apply below_drew1) | exact HB.out)⟩
  · rw [if_neg c4] at H
    exact absurd H (by simp)
end Go.Proofs.Ytnojcnmnkkgkgaa.Q
end
section
namespace Go.Proofs.Kb
open Go Go.RowKit Go.Proofs.Ytnojcnmnkkgkgaa.Q Go.Proofs.YtnojcnmnkkgkgaaW.PrintWords Go.Proofs.YtnojcnmnkkgkgaaW.PrintLast Go.Proofs.YtnojcnmnkkgkgaaW.PrintMore
set_option linter.unusedVariables false
set_option linter.unusedSimpArgs false
set_option maxRecDepth 100000
def RT (w0 : World) (F : Nat → Prop) (jp tp : Nat) (x : SV) (s : JS) (R : List Chunk) (W : World) : Prop :=
  ∃ A c, TL w0 F tp s.ans s.txt s.held (blkC jp (.cells #[.int .i64 x.f0, .string x.f1, .string x.f2, .string x.f3, .int .i64 x.f4, .bool x.f5, .slice x.f6.A x.f6.n x.f6.c, .slice x.f7.A x.f7.n x.f7.c, .slice x.f8.A x.f8.n x.f8.c, .slice x.f9.A x.f9.n x.f9.c, .slice x.f10.A x.f10.n x.f10.c, .int .i64 s.ph, .slice A s.af.length c, .int .i64 s.tr, .int .i64 s.er] 50 (0, 0)) :: rowXC valE (.slice A s.af.length c) s.af :: R) W
section
variable {w0 w w' : World} {F : Nat → Prop} {jp tp : Nat} {x : SV} {s : JS} {R R' : List Chunk}
theorem RT.below (h : RT w0 F jp tp x s R w) (hb : Below w.heap.size w w') : RT w0 F jp tp x s R w' := by
  obtain ⟨A, c, h⟩ := h
  exact ⟨A, c, h.below hb⟩
theorem RT.drew (h : RT w0 F jp tp x s R w) : RT w0 F jp tp x s R w.drew := by
  obtain ⟨A, c, h⟩ := h
  exact ⟨A, c, h.drew⟩
theorem RT.rest (h : RT w0 F jp tp x s R w) : St w0 F w R := by
  obtain ⟨A, c, h⟩ := h
  exact St.drop (A := [_, _]) h.rest
theorem RT.blk (h : RT w0 F jp tp x s R w) : ∃ A c, w.heap[jp]? = some (.cells #[.int .i64 x.f0, .string x.f1, .string x.f2, .string x.f3, .int .i64 x.f4, .bool x.f5, .slice x.f6.A x.f6.n x.f6.c, .slice x.f7.A x.f7.n x.f7.c, .slice x.f8.A x.f8.n x.f8.c, .slice x.f9.A x.f9.n x.f9.c, .slice x.f10.A x.f10.n x.f10.c, .int .i64 s.ph, .slice A s.af.length c, .int .i64 s.tr, .int .i64 s.er] 50 (0, 0)) := by
  obtain ⟨A, c, h⟩ := h
  exact ⟨A, c, h.rest.blk 0 rfl⟩
theorem RT.sub (h : RT w0 F jp tp x s R w) (f : ∀ cs : List Chunk, St w0 F w (R ++ cs) → St w0 F w' (R' ++ cs)) : RT w0 F jp tp x s R' w' := by
  obtain ⟨A, c, h⟩ := h
  refine ⟨A, c, h.sub fun cs hs => ?_⟩
  have h1 := f ([_, _] ++ cs) (hs.perm (B := R ++ ([_, _] ++ cs)) (by rw [← List.append_assoc]; exact List.Perm.append_right _ (List.perm_append_comm (l₁ := [_, _]) (l₂ := R))))
  exact h1.perm (by rw [← List.append_assoc]; exact List.Perm.append_right _ (List.perm_append_comm (l₁ := R') (l₂ := [_, _])))
theorem RT.stmt (h : RT w0 F jp tp x s R w) : w.cell? ⟨jp, 0, none⟩ = some (.int .i64 x.f0) ∧ w.cell? ⟨jp, 1, none⟩ = some (.string x.f1) ∧ w.cell? ⟨jp, 2, none⟩ = some (.string x.f2) ∧ w.cell? ⟨jp, 3, none⟩ = some (.string x.f3) ∧ w.cell? ⟨jp, 4, none⟩ = some (.int .i64 x.f4) ∧ w.cell? ⟨jp, 5, none⟩ = some (.bool x.f5) ∧ w.cell? ⟨jp, 6, none⟩ = some (.slice x.f6.A x.f6.n x.f6.c) ∧ w.cell? ⟨jp, 7, none⟩ = some (.slice x.f7.A x.f7.n x.f7.c) ∧ w.cell? ⟨jp, 8, none⟩ = some (.slice x.f8.A x.f8.n x.f8.c) ∧ w.cell? ⟨jp, 9, none⟩ = some (.slice x.f9.A x.f9.n x.f9.c) ∧ w.cell? ⟨jp, 10, none⟩ = some (.slice x.f10.A x.f10.n x.f10.c) := by
  obtain ⟨A, c, hb⟩ := h.blk
  exact ⟨(blk_cell hb 0).trans rfl, (blk_cell hb 1).trans rfl, (blk_cell hb 2).trans rfl, (blk_cell hb 3).trans rfl, (blk_cell hb 4).trans rfl, (blk_cell hb 5).trans rfl, (blk_cell hb 6).trans rfl, (blk_cell hb 7).trans rfl, (blk_cell hb 8).trans rfl, (blk_cell hb 9).trans rfl, (blk_cell hb 10).trans rfl⟩
theorem settleR (h : RT w0 F jp tp x s R w) (hn : s.txt.length < 999999) (hx : x.f2.size ≤ 1000) : Calls Try.prog 44 #[.pointer (some ⟨tp, 0, none⟩), .string x.f2] w fun E w' => E = .returned (.int .i64 (errN (s.ans.headD 0))) ∧ RT w0 F jp tp x (s.said ((⟨#[115, 101, 116, 116, 108, 101, 32]⟩ : ByteArray) ++ x.f2)) R w' := by
  obtain ⟨A, c, h⟩ := h
  exact (settle_calls h hn x.f2 hx).mono fun E w' ⟨e, h'⟩ => ⟨e, A, c, h'⟩
theorem abandonR (h : RT w0 F jp tp x s R w) (hn : s.txt.length < 999999) (hx : x.f2.size ≤ 1000) : Calls Try.prog 45 #[.pointer (some ⟨tp, 0, none⟩), .string x.f2] w fun E w' => E = .returned (.bool (!(bits .and .i64 (s.ans.headD 0) 3 == 3))) ∧ RT w0 F jp tp x (s.said ((⟨#[97, 98, 97, 110, 100, 111, 110, 32]⟩ : ByteArray) ++ x.f2)) R w' := by
  obtain ⟨A, c, h⟩ := h
  exact (abandon_calls h hn x.f2 hx).mono fun E w' ⟨e, h'⟩ => ⟨e, A, c, h'⟩
theorem registerR (h : RT w0 F jp tp x s R w) (hn : s.txt.length < 999999) (hx : x.f2.size ≤ 1000) : Calls Try.prog 39 #[.pointer (some ⟨tp, 0, none⟩), .agg #[.int .i64 x.f0, .string x.f1, .string x.f2, .string x.f3, .int .i64 x.f4, .bool x.f5, .slice x.f6.A x.f6.n x.f6.c, .slice x.f7.A x.f7.n x.f7.c, .slice x.f8.A x.f8.n x.f8.c, .slice x.f9.A x.f9.n x.f9.c, .slice x.f10.A x.f10.n x.f10.c]] w fun E w' => E = .returned (.int .i64 (errN (s.ans.headD 0))) ∧ RT w0 F jp tp x (s.said ((⟨#[114, 101, 103, 105, 115, 116, 101, 114, 32]⟩ : ByteArray) ++ x.f2)) R w' := by
  obtain ⟨A, c, h⟩ := h
  exact (register_calls h hn x hx).mono fun E w' ⟨e, h'⟩ => ⟨e, A, c, h'⟩
theorem elderR (h : RT w0 F jp tp x s R w) (hn : s.txt.length < 999999) : Calls Try.prog 41 #[.pointer (some ⟨tp, 0, none⟩)] w fun E w' => E = .returned (.bool (bits .and .i64 (s.ans.headD 0) 1 == 1)) ∧ RT w0 F jp tp x (s.said (⟨#[101, 108, 100, 101, 114]⟩ : ByteArray)) R w' := by
  obtain ⟨A, c, h⟩ := h
  exact (elder_calls h hn).mono fun E w' ⟨e, h'⟩ => ⟨e, A, c, h'⟩
theorem tokenR (h : RT w0 F jp tp x s R w) (hn : s.txt.length < 999999) : Calls Try.prog 42 #[.pointer (some ⟨tp, 0, none⟩)] w fun E w' => E = .returned (.bool (bits .and .i64 (s.ans.headD 0) 1 == 1)) ∧ RT w0 F jp tp x (s.said (⟨#[116, 111, 107, 101, 110]⟩ : ByteArray)) R w' := by
  obtain ⟨A, c, h⟩ := h
  exact (token_calls h hn).mono fun E w' ⟨e, h'⟩ => ⟨e, A, c, h'⟩
theorem tryR {A : Option Addr} {c : Nat} {ws : List S97} (h : RT w0 F jp tp x s (rowXC wntE (.slice A ws.length c) ws :: R) w) (hn : s.txt.length < 999999) (hh : -1000000 ≤ s.held ∧ s.held ≤ 1000000) (hw : ∀ x ∈ ws, WfW x) (hl : ws.length ≤ 10) :
    Calls Try.prog 36 #[.pointer (some ⟨tp, 0, none⟩), .slice A ws.length c] w fun E w' => E = .returned (.bool (bits .and .i64 (s.ans.headD 0) 1 == 1)) ∧ RT w0 F jp tp x (s.tried ws) R w' := by
  obtain ⟨A1, c1, h⟩ := h
  refine (try_calls A c ws (h.perm (perm3 _ _ _ _)) hn hh hw hl).mono fun E w' ⟨e, h'⟩ => ⟨e, A1, c1, ?_⟩
  exact TL.drop (R := [_]) h'
theorem RT.fresh (h : RT w0 F jp tp x s R w) (hb : Below w.heap.size w w') (c : Chunk) (hc : c.H w') (hnd : ND c.bs) (hs : ∀ b ∈ c.bs, w.heap.size ≤ b) : RT w0 F jp tp x s (c :: R) w' := by
  obtain ⟨A, k, h⟩ := h
  exact ⟨A, k, (h.fresh hb c hc hnd hs).perm (perm3' _ _ _ _)⟩
theorem RT.c1 (h : RT w0 F jp tp x s R w) : w.cell? ⟨jp, 1, none⟩ = some (.string x.f1) := by
  obtain ⟨A, c, hb⟩ := h.blk
  exact (blk_cell hb 1).trans rfl
theorem RT.c11 (h : RT w0 F jp tp x s R w) : w.cell? ⟨jp, 11, none⟩ = some (.int .i64 s.ph) := by
  obtain ⟨A, c, hb⟩ := h.blk
  exact (blk_cell hb 11).trans rfl
theorem RT.c14 (h : RT w0 F jp tp x s R w) : w.cell? ⟨jp, 14, none⟩ = some (.int .i64 s.er) := by
  obtain ⟨A, c, hb⟩ := h.blk
  exact (blk_cell hb 14).trans rfl
theorem RT.lt (h : RT w0 F jp tp x s R w) : jp < w.heap.size := by
  obtain ⟨A, c, hb⟩ := h.blk
  exact lt_of_some hb
theorem RT.fz (h : RT w0 F jp tp x s R w) (j : Nat) : w.frozen? ⟨jp, j, none⟩ = false := by
  obtain ⟨A, c, hb⟩ := h.blk
  exact frozen_of_row w jp j _ _ hb
theorem RT.phase (h : RT w0 F jp tp x s R w) (p : Int) : RT w0 F jp tp x { s with ph := p } R (w.setCell ⟨jp, 11, none⟩ (.int .i64 p)) := by
  obtain ⟨A, c, h⟩ := h
  exact ⟨A, c, h.putBlk 0 rfl 11 (.int .i64 p) rfl⟩
set_option maxHeartbeats 4000000
theorem failedR_calls (h : RT w0 F jp tp x s R w) (p : Int) (ht : 1 ≤ s.tr ∧ s.tr ≤ 9223372036854775807) :
    Calls Try.prog 38 #[.pointer (some ⟨jp, 0, none⟩), .int .i64 p] w fun E w' => E = .returned (.tuple #[]) ∧ RT w0 F jp tp x (s.failed p) R w' := by
  have hu68 := Try.underlying50
  obtain ⟨A, c, h⟩ := h
  have hb := h.rest.blk 0 rfl
  have c11 : w.cell? ⟨jp, 11, none⟩ = some (.int .i64 s.ph) := (blk_cell hb 11).trans rfl
  have c13 : w.cell? ⟨jp, 13, none⟩ = some (.int .i64 s.tr) := (blk_cell hb 13).trans rfl
  have c14 : w.cell? ⟨jp, 14, none⟩ = some (.int .i64 s.er) := (blk_cell hb 14).trans rfl
  have pl := lt_of_some hb
  have fz := fun j => frozen_of_row w jp j _ _ hb
  have h1 := h.putBlk 0 rfl 13 (.int .i64 (s.tr - 1)) rfl
  have HS := Aside0.mk h1
  have HS2 := Aside0.mk ((h1.putBlk 0 rfl 11 (.int .i64 p) rfl).putBlk 0 rfl 14 (.int .i64 34) rfl)
  clear h h1 hb
  by_cases h0 : s.tr = 1
  · have h2 : s.tr - 1 = 0 := by omega
    have HS2 := Aside0.mk (h2 ▸ HS2.out)
    go_enter Try.func38, Try.ntmps38
    go_wp2
    go_end0
    refine ⟨rfl, A, c, ?_⟩
    unfold JS.failed
    rw [if_pos h0]
    exact HS2.out
  · have h2 : ¬ (s.tr - 1 < 1) := by omega
    go_enter Try.func38, Try.ntmps38
    go_wp2
    go_end0
    refine ⟨rfl, A, c, ?_⟩
    unfold JS.failed
    rw [if_neg h0]
    exact HS.out
theorem freeR (h : RT w0 F jp tp x s R w) (hn : s.txt.length < 999999) (hh : -1000000 ≤ s.held ∧ s.held ≤ 1000000) :
    Calls Try.prog 40 #[.pointer (some ⟨tp, 0, none⟩)] w fun E w' => E = .returned (.tuple #[]) ∧ RT w0 F jp tp x s.free R w' := by
  obtain ⟨A1, c1, h⟩ := h
  exact (free_calls h hn hh).mono fun E w' ⟨e, h'⟩ => ⟨e, A1, c1, h'⟩
theorem RT.err (h : RT w0 F jp tp x s R w) (e : Int) : RT w0 F jp tp x { s with er := e } R (w.setCell ⟨jp, 14, none⟩ (.int .i64 e)) := by
  obtain ⟨A, c, h⟩ := h
  exact ⟨A, c, h.putBlk 0 rfl 14 (.int .i64 e) rfl⟩
end
theorem planRegR_calls (w : World) (t : ByteArray) :
    Calls Try.prog 37 #[.string t] w fun E w' => ∃ A c, E = .returned (.slice A 3 c) ∧ RowX wntE w' (.slice A 3 c) (planW t 4) ∧ Below w.heap.size w w' ∧ ∀ b ∈ bl (.slice A 3 c), w.heap.size ≤ b := by
  refine (interlockref18_Register.calls t (planW t 4) w (by kernel_rfl)).mono fun E w' ⟨v, e, hr, hb⟩ => ?_
  obtain ⟨h1, h2⟩ := RowX.of_R (E := wntE) rfl (fun h => k97_openM h) hr
  obtain ⟨A, c, hv⟩ := Kd.R_slice hr
  have hv' : v = .slice A 3 c := hv
  subst hv'
  exact ⟨A, c, e, h1, hb, h2⟩
theorem planMarkR_calls (w : World) (t : ByteArray) :
    Calls Try.prog 35 #[.string t] w fun E w' => ∃ A c, E = .returned (.slice A 3 c) ∧ RowX wntE w' (.slice A 3 c) (planW t 3) ∧ Below w.heap.size w w' ∧ ∀ b ∈ bl (.slice A 3 c), w.heap.size ≤ b := by
  refine (interlockref18_Mark.calls t (planW t 3) w (by kernel_rfl)).mono fun E w' ⟨v, e, hr, hb⟩ => ?_
  obtain ⟨h1, h2⟩ := RowX.of_R (E := wntE) rfl (fun h => k97_openM h) hr
  obtain ⟨A, c, hv⟩ := Kd.R_slice hr
  have hv' : v = .slice A 3 c := hv
  subst hv'
  exact ⟨A, c, e, h1, hb, h2⟩
end Go.Proofs.Kb
end
section
namespace Go.Proofs.Kb
open Go Go.RowKit Go.Proofs.Ytnojcnmnkkgkgaa.Q Go.Proofs.YtnojcnmnkkgkgaaW.PrintWords Go.Proofs.YtnojcnmnkkgkgaaW.PrintLast Go.Proofs.YtnojcnmnkkgkgaaW.PrintMore
set_option linter.unusedVariables false
set_option linter.unusedSimpArgs false
set_option maxRecDepth 100000
section
variable {w0 w w' : World} {F : Nat → Prop} {jp tp : Nat} {x : SV} {s : JS} {R R' : List Chunk}
set_option maxHeartbeats 8000000
theorem rstep1_calls (h : RT w0 F jp tp x s R w) (ok : OkJ s x) (hp : s.ph = 1) (htr : 1 ≤ s.tr) :
    Calls Try.prog 17 #[.pointer (some ⟨jp, 0, none⟩), .pointer (some ⟨tp, 0, none⟩)] w fun E w' => E = StepE (s.step x) ∧ RT w0 F jp tp x (s.step x) R w' := by
  have hu50 := Try.underlying50
  have hu28 := Try.underlying28
  have hu72 := Try.underlying72
  have c1 := h.c1
  have pl := h.lt
  have A35 := Aside0.mk (planMarkR_calls w x.f1)
  have A36 := Aside0.mk (fun W A c (h : RT w0 F jp tp x s (rowXC wntE (.slice A 3 c) (planW x.f1 4) :: R) W) => tryR (ws := planW x.f1 4) h (Nat.lt_of_lt_of_le ok.n (by decide)) (by have := ok.h; omega) (planW_wf ok.x1 (by decide)) (show (3 : Nat) ≤ 10 by decide))
  have hst : s.step x = (if (bits .and .i64 (s.ans.headD 0) 1 == 1) = true then ((s.tried (planW x.f1 4)).register x).free else (s.tried (planW x.f1 4)).failed 6) := by
    unfold JS.step
    rw [if_pos hp]
    unfold JS.with_
    split <;> rfl
  rw [hst]
  have htn : (s.tried (planW x.f1 4)).txt.length < 990001 := by
    have := ok.n
    show (s.txt ++ [_]).length < _
    rw [List.length_append, List.length_singleton]
    omega
  have hth : -1001 ≤ (s.tried (planW x.f1 4)).held ∧ (s.tried (planW x.f1 4)).held ≤ 1001 := by
    have e : (s.tried (planW x.f1 4)).held = if (bits .and .i64 (s.ans.headD 0) 1 == 1) = true then s.held + 1 else s.held := rfl
    have := ok.h
    rw [e]
    split <;> omega
  have htt : (s.tried (planW x.f1 4)).tr = s.tr := rfl
  have htp : (s.tried (planW x.f1 4)).ph = 1 := hp
  obtain ⟨t, ht⟩ : ∃ t, s.tried (planW x.f1 4) = t := ⟨_, rfl⟩
  rw [ht] at A36 htn hth htt htp ⊢
  have A39 := Aside0.mk (fun W (h : RT w0 F jp tp x t R W) => registerR h (Nat.lt_of_lt_of_le htn (by decide)) ok.x2)
  have A38 := Aside0.mk (fun W (h : RT w0 F jp tp x t R W) => failedR_calls h 6 (by rw [htt]; exact ⟨htr, ok.t.2⟩))
  have HS := Aside0.mk h
  clear h hst ht
  cases hb : (bits .and .i64 (s.ans.headD 0) 1 == 1) with
  | true =>
    rw [hb] at A36
    rw [if_pos rfl]
    clear A38
    have hbb : t.register x = (t.said ((⟨#[114, 101, 103, 105, 115, 116, 101, 114, 32]⟩ : ByteArray) ++ x.f2)).turn (errN (t.ans.headD 0)) 2 6 := rfl
    rw [hbb]
    obtain ⟨u, hu⟩ : ∃ u, t.said ((⟨#[114, 101, 103, 105, 115, 116, 101, 114, 32]⟩ : ByteArray) ++ x.f2) = u := ⟨_, rfl⟩
    have hun : u.txt.length < 999999 := by
      rw [← hu]
      show (t.txt ++ [_]).length < _
      rw [List.length_append, List.length_singleton]
      omega
    have huh : -1000000 ≤ u.held ∧ u.held ≤ 1000000 := by
      rw [← hu]
      show -1000000 ≤ t.held ∧ t.held ≤ 1000000
      omega
    rw [hu] at A39 ⊢
    obtain ⟨e, he⟩ : ∃ e, errN (t.ans.headD 0) = e := ⟨_, rfl⟩
    rw [he] at A39 ⊢
    clear hbb hu he ok htr htt htn hth htp
    have A40 := Aside0.mk (fun W (h : RT w0 F jp tp x (u.turn e 2 6) R W) => freeR h hun huh)
    by_cases h0 : e = 0
    · subst h0
      have hz : u.turn 0 2 6 = { { u with er := 0 } with ph := 2 } := rfl
      rw [hz] at A40 ⊢
      have hph : (({ { u with er := 0 } with ph := 2 } : JS).free).ph = 2 := rfl
      have her : (({ { u with er := 0 } with ph := 2 } : JS).free).er = 0 := rfl
      have hE : StepE (({ { u with er := 0 } with ph := 2 } : JS).free) = .returned (.tuple #[.int .i64 0, .bool false]) := rfl
      obtain ⟨z, hz2⟩ : ∃ z, (({ { u with er := 0 } with ph := 2 } : JS).free) = z := ⟨_, rfl⟩
      rw [hz2] at A40 hph her hE ⊢
      rw [hE]
      clear hz hz2 hun huh hE
      go_enter Try.func17, Try.ntmps17
      go_wp2_with (first
        | (go_at_call 35; refine A35.out.mono ?_; rintro E w1 ⟨A0, k0, rfl, hr, hbb, hf⟩; have h := HS.out.below hbb; clear c1 pl; have c1 := h.c1; have c11 := h.c11; rw [hp] at c11; have pl := h.lt; have HS1 := Aside0.mk h; clear h hr hbb hf HS A35)
        | (go_at_call 37; refine (planRegR_calls _ x.f1).mono ?_; rintro E w2 ⟨A, c, rfl, hr, hbb, hf⟩; have HW := Aside0.mk (HS1.out.fresh hbb (rowXC wntE _ _) hr (nd_bl _) hf); clear hr hbb hf HS1 c1 c11 pl)
        | (go_at_call 36; refine (A36.out _ _ _ HW.out).mono ?_; rintro E w3 ⟨rfl, h⟩; obtain ⟨s0, s1, s2, s3, s4, s5, s6, s7, s8, s9, s10⟩ := h.stmt; have pl3 := h.lt; have HT := Aside0.mk h; clear h HW A36)
        | (go_at_call 39; refine (A39.out _ HT.out).mono ?_; rintro E w4 ⟨rfl, h⟩; clear s0 s1 s2 s3 s4 s5 s6 s7 s8 s9 s10 pl3; have r1 := h.c11; have r2 := h.c14; have r3 := h.lt; have fz := h.fz; have HU := Aside0.mk ((h.err 0).phase 2); clear h HT A39)
        | (go_at_call 40; refine (A40.out _ HU.out).mono ?_; rintro E w5 ⟨rfl, h⟩; clear r1 r2 r3 fz; have q1 := h.c11; have q2 := h.c14; rw [hph] at q1; rw [her] at q2; have q3 := h.lt; have HV := Aside0.mk h; clear h HU A40))
      go_ret2
      refine ⟨?_, HV.out⟩
      rfl
    · have hz : u.turn e 2 6 = { { { u with er := e } with ph := 2 } with ph := 6 } := by
        unfold JS.turn
        rw [if_neg h0]
      rw [hz] at A40 ⊢
      have hph : (({ { { u with er := e } with ph := 2 } with ph := 6 } : JS).free).ph = 6 := rfl
      have her : (({ { { u with er := e } with ph := 2 } with ph := 6 } : JS).free).er = e := rfl
      have hE : StepE (({ { { u with er := e } with ph := 2 } with ph := 6 } : JS).free) = .returned (.tuple #[.int .i64 e, .bool true]) := rfl
      obtain ⟨z, hz2⟩ : ∃ z, (({ { { u with er := e } with ph := 2 } with ph := 6 } : JS).free) = z := ⟨_, rfl⟩
      rw [hz2] at A40 hph her hE ⊢
      rw [hE]
      clear hz hz2 hun huh hE
      go_enter Try.func17, Try.ntmps17
      go_wp2_with (first
        | (go_at_call 35; refine A35.out.mono ?_; rintro E w1 ⟨A0, k0, rfl, hr, hbb, hf⟩; have h := HS.out.below hbb; clear c1 pl; have c1 := h.c1; have c11 := h.c11; rw [hp] at c11; have pl := h.lt; have HS1 := Aside0.mk h; clear h hr hbb hf HS A35)
        | (go_at_call 37; refine (planRegR_calls _ x.f1).mono ?_; rintro E w2 ⟨A, c, rfl, hr, hbb, hf⟩; have HW := Aside0.mk (HS1.out.fresh hbb (rowXC wntE _ _) hr (nd_bl _) hf); clear hr hbb hf HS1 c1 c11 pl)
        | (go_at_call 36; refine (A36.out _ _ _ HW.out).mono ?_; rintro E w3 ⟨rfl, h⟩; obtain ⟨s0, s1, s2, s3, s4, s5, s6, s7, s8, s9, s10⟩ := h.stmt; have pl3 := h.lt; have HT := Aside0.mk h; clear h HW A36)
        | (go_at_call 39; refine (A39.out _ HT.out).mono ?_; rintro E w4 ⟨rfl, h⟩; clear s0 s1 s2 s3 s4 s5 s6 s7 s8 s9 s10 pl3; have r1 := h.c11; have r2 := h.c14; have r3 := h.lt; have fz := h.fz; have HU := Aside0.mk (((h.err e).phase 2).phase 6); clear h HT A39)
        | (go_at_call 40; refine (A40.out _ HU.out).mono ?_; rintro E w5 ⟨rfl, h⟩; clear r1 r2 r3 fz; have q1 := h.c11; have q2 := h.c14; rw [hph] at q1; rw [her] at q2; have q3 := h.lt; have HV := Aside0.mk h; clear h HU A40))
      go_ret2
      refine ⟨?_, HV.out⟩
      rfl
  | false =>
    rw [hb] at A36
    rw [if_neg (by decide)]
    clear A39
    obtain ⟨t2, ht2⟩ : ∃ t2, t.failed 6 = t2 := ⟨_, rfl⟩
    rw [ht2] at A38 ⊢
    clear ht2 ok htr htt htn hth htp
    by_cases h5 : t2.ph > 4
    · have e5 : decide (5 ≤ t2.ph) = true := decide_eq_true (by omega)
      go_enter Try.func17, Try.ntmps17
      go_wp2_with (first
        | (go_at_call 35; refine A35.out.mono ?_; rintro E w1 ⟨A0, k0, rfl, hr, hbb, hf⟩; have h := HS.out.below hbb; clear c1 pl; have c1 := h.c1; have c11 := h.c11; rw [hp] at c11; have pl := h.lt; have HS1 := Aside0.mk h; clear h hr hbb hf HS A35)
        | (go_at_call 37; refine (planRegR_calls _ x.f1).mono ?_; rintro E w2 ⟨A, c, rfl, hr, hbb, hf⟩; have HW := Aside0.mk (HS1.out.fresh hbb (rowXC wntE _ _) hr (nd_bl _) hf); clear hr hbb hf HS1 c1 c11 pl)
        | (go_at_call 36; refine (A36.out _ _ _ HW.out).mono ?_; rintro E w3 ⟨rfl, h⟩; obtain ⟨s0, s1, s2, s3, s4, s5, s6, s7, s8, s9, s10⟩ := h.stmt; have pl3 := h.lt; have HT := Aside0.mk h; clear h HW A36)
        | (go_at_call 38; refine (A38.out _ HT.out).mono ?_; rintro E w4 ⟨rfl, h⟩; clear s0 s1 s2 s3 s4 s5 s6 s7 s8 s9 s10 pl3; have q1 := h.c11; have q2 := h.c14; have q3 := h.lt; have HV := Aside0.mk h; clear h HT A38))
      go_ret2
      refine ⟨?_, HV.out⟩
      unfold StepE
      rw [if_neg (by omega), e5]
      rfl
    · have e5 : decide (5 ≤ t2.ph) = false := decide_eq_false (by omega)
      go_enter Try.func17, Try.ntmps17
      go_wp2_with (first
        | (go_at_call 35; refine A35.out.mono ?_; rintro E w1 ⟨A0, k0, rfl, hr, hbb, hf⟩; have h := HS.out.below hbb; clear c1 pl; have c1 := h.c1; have c11 := h.c11; rw [hp] at c11; have pl := h.lt; have HS1 := Aside0.mk h; clear h hr hbb hf HS A35)
        | (go_at_call 37; refine (planRegR_calls _ x.f1).mono ?_; rintro E w2 ⟨A, c, rfl, hr, hbb, hf⟩; have HW := Aside0.mk (HS1.out.fresh hbb (rowXC wntE _ _) hr (nd_bl _) hf); clear hr hbb hf HS1 c1 c11 pl)
        | (go_at_call 36; refine (A36.out _ _ _ HW.out).mono ?_; rintro E w3 ⟨rfl, h⟩; obtain ⟨s0, s1, s2, s3, s4, s5, s6, s7, s8, s9, s10⟩ := h.stmt; have pl3 := h.lt; have HT := Aside0.mk h; clear h HW A36)
        | (go_at_call 38; refine (A38.out _ HT.out).mono ?_; rintro E w4 ⟨rfl, h⟩; clear s0 s1 s2 s3 s4 s5 s6 s7 s8 s9 s10 pl3; have q1 := h.c11; have q2 := h.c14; have q3 := h.lt; have HV := Aside0.mk h; clear h HT A38))
      go_ret2
      refine ⟨?_, HV.out⟩
      unfold StepE
      rw [if_pos (by omega), e5]
      rfl
theorem rstep4_calls (h : RT w0 F jp tp x s R w) (ok : OkJ s x) (hp : s.ph = 4) (htr : 1 ≤ s.tr) :
    Calls Try.prog 17 #[.pointer (some ⟨jp, 0, none⟩), .pointer (some ⟨tp, 0, none⟩)] w fun E w' => E = StepE (s.step x) ∧ RT w0 F jp tp x (s.step x) R w' := by
  have hu50 := Try.underlying50
  have hu28 := Try.underlying28
  have hu72 := Try.underlying72
  have c1 := h.c1
  have pl := h.lt
  have A35 := Aside0.mk (planMarkR_calls w x.f1)
  have A36 := Aside0.mk (fun W A c (h : RT w0 F jp tp x s (rowXC wntE (.slice A 3 c) (planW x.f1 3) :: R) W) => tryR (ws := planW x.f1 3) h (Nat.lt_of_lt_of_le ok.n (by decide)) (by have := ok.h; omega) (planW_wf ok.x1 (by decide)) (show (3 : Nat) ≤ 10 by decide))
  have hst : s.step x = (if (bits .and .i64 (s.ans.headD 0) 1 == 1) = true then ((s.tried (planW x.f1 3)).settle x).free else (s.tried (planW x.f1 3)).failed 5) := by
    unfold JS.step
    rw [if_neg (by omega), if_neg (by omega), if_neg (by omega), if_pos hp]
    unfold JS.with_
    split <;> rfl
  rw [hst]
  have htn : (s.tried (planW x.f1 3)).txt.length < 990001 := by
    have := ok.n
    show (s.txt ++ [_]).length < _
    rw [List.length_append, List.length_singleton]
    omega
  have hth : -1001 ≤ (s.tried (planW x.f1 3)).held ∧ (s.tried (planW x.f1 3)).held ≤ 1001 := by
    have e : (s.tried (planW x.f1 3)).held = if (bits .and .i64 (s.ans.headD 0) 1 == 1) = true then s.held + 1 else s.held := rfl
    have := ok.h
    rw [e]
    split <;> omega
  have htt : (s.tried (planW x.f1 3)).tr = s.tr := rfl
  have htp : (s.tried (planW x.f1 3)).ph = 4 := hp
  obtain ⟨t, ht⟩ : ∃ t, s.tried (planW x.f1 3) = t := ⟨_, rfl⟩
  rw [ht] at A36 htn hth htt htp ⊢
  have A39 := Aside0.mk (fun W (h : RT w0 F jp tp x t R W) => settleR h (Nat.lt_of_lt_of_le htn (by decide)) ok.x2)
  have A38 := Aside0.mk (fun W (h : RT w0 F jp tp x t R W) => failedR_calls h 5 (by rw [htt]; exact ⟨htr, ok.t.2⟩))
  have HS := Aside0.mk h
  clear h hst ht
  cases hb : (bits .and .i64 (s.ans.headD 0) 1 == 1) with
  | true =>
    rw [hb] at A36
    rw [if_pos rfl]
    clear A38
    have hbb : t.settle x = (t.said ((⟨#[115, 101, 116, 116, 108, 101, 32]⟩ : ByteArray) ++ x.f2)).turn (errN (t.ans.headD 0)) 6 5 := rfl
    rw [hbb]
    obtain ⟨u, hu⟩ : ∃ u, t.said ((⟨#[115, 101, 116, 116, 108, 101, 32]⟩ : ByteArray) ++ x.f2) = u := ⟨_, rfl⟩
    have hun : u.txt.length < 999999 := by
      rw [← hu]
      show (t.txt ++ [_]).length < _
      rw [List.length_append, List.length_singleton]
      omega
    have huh : -1000000 ≤ u.held ∧ u.held ≤ 1000000 := by
      rw [← hu]
      show -1000000 ≤ t.held ∧ t.held ≤ 1000000
      omega
    rw [hu] at A39 ⊢
    obtain ⟨e, he⟩ : ∃ e, errN (t.ans.headD 0) = e := ⟨_, rfl⟩
    rw [he] at A39 ⊢
    clear hbb hu he ok htr htt htn hth htp
    have A40 := Aside0.mk (fun W (h : RT w0 F jp tp x (u.turn e 6 5) R W) => freeR h hun huh)
    by_cases h0 : e = 0
    · subst h0
      have hz : u.turn 0 6 5 = { { u with er := 0 } with ph := 6 } := rfl
      rw [hz] at A40 ⊢
      have hph : (({ { u with er := 0 } with ph := 6 } : JS).free).ph = 6 := rfl
      have her : (({ { u with er := 0 } with ph := 6 } : JS).free).er = 0 := rfl
      have hE : StepE (({ { u with er := 0 } with ph := 6 } : JS).free) = .returned (.tuple #[.int .i64 0, .bool true]) := rfl
      obtain ⟨z, hz2⟩ : ∃ z, (({ { u with er := 0 } with ph := 6 } : JS).free) = z := ⟨_, rfl⟩
      rw [hz2] at A40 hph her hE ⊢
      rw [hE]
      clear hz hz2 hun huh hE
      go_enter Try.func17, Try.ntmps17
      go_wp2_with (first
        | (go_at_call 35; refine A35.out.mono ?_; rintro E w1 ⟨A0, k0, rfl, hr, hbb, hf⟩; have h := HS.out.below hbb; clear c1 pl; have c1 := h.c1; have c11 := h.c11; rw [hp] at c11; have pl := h.lt; have HS1 := Aside0.mk (HS.out.fresh hbb (rowXC wntE _ _) hr (nd_bl _) hf); clear h hr hbb hf HS A35)
        | (go_at_call 36; refine (A36.out _ _ _ HS1.out).mono ?_; rintro E w3 ⟨rfl, h⟩; obtain ⟨s0, s1, s2, s3, s4, s5, s6, s7, s8, s9, s10⟩ := h.stmt; have pl3 := h.lt; have HT := Aside0.mk h; clear h HS1 A36 c1 c11 pl)
        | (go_at_call 44; refine (A39.out _ HT.out).mono ?_; rintro E w4 ⟨rfl, h⟩; clear s0 s1 s2 s3 s4 s5 s6 s7 s8 s9 s10 pl3; have r1 := h.c11; have r2 := h.c14; have r3 := h.lt; have fz := h.fz; have HU := Aside0.mk ((h.err 0).phase 6); clear h HT A39)
        | (go_at_call 40; refine (A40.out _ HU.out).mono ?_; rintro E w5 ⟨rfl, h⟩; clear r1 r2 r3 fz; have q1 := h.c11; have q2 := h.c14; rw [hph] at q1; rw [her] at q2; have q3 := h.lt; have HV := Aside0.mk h; clear h HU A40))
      go_ret2
      refine ⟨?_, HV.out⟩
      rfl
    · have hz : u.turn e 6 5 = { { { u with er := e } with ph := 6 } with ph := 5 } := by
        unfold JS.turn
        rw [if_neg h0]
      rw [hz] at A40 ⊢
      have hph : (({ { { u with er := e } with ph := 6 } with ph := 5 } : JS).free).ph = 5 := rfl
      have her : (({ { { u with er := e } with ph := 6 } with ph := 5 } : JS).free).er = e := rfl
      have hE : StepE (({ { { u with er := e } with ph := 6 } with ph := 5 } : JS).free) = .returned (.tuple #[.int .i64 e, .bool true]) := rfl
      obtain ⟨z, hz2⟩ : ∃ z, (({ { { u with er := e } with ph := 6 } with ph := 5 } : JS).free) = z := ⟨_, rfl⟩
      rw [hz2] at A40 hph her hE ⊢
      rw [hE]
      clear hz hz2 hun huh hE
      go_enter Try.func17, Try.ntmps17
      go_wp2_with (first
        | (go_at_call 35; refine A35.out.mono ?_; rintro E w1 ⟨A0, k0, rfl, hr, hbb, hf⟩; have h := HS.out.below hbb; clear c1 pl; have c1 := h.c1; have c11 := h.c11; rw [hp] at c11; have pl := h.lt; have HS1 := Aside0.mk (HS.out.fresh hbb (rowXC wntE _ _) hr (nd_bl _) hf); clear h hr hbb hf HS A35)
        | (go_at_call 36; refine (A36.out _ _ _ HS1.out).mono ?_; rintro E w3 ⟨rfl, h⟩; obtain ⟨s0, s1, s2, s3, s4, s5, s6, s7, s8, s9, s10⟩ := h.stmt; have pl3 := h.lt; have HT := Aside0.mk h; clear h HS1 A36 c1 c11 pl)
        | (go_at_call 44; refine (A39.out _ HT.out).mono ?_; rintro E w4 ⟨rfl, h⟩; clear s0 s1 s2 s3 s4 s5 s6 s7 s8 s9 s10 pl3; have r1 := h.c11; have r2 := h.c14; have r3 := h.lt; have fz := h.fz; have HU := Aside0.mk (((h.err e).phase 6).phase 5); clear h HT A39)
        | (go_at_call 40; refine (A40.out _ HU.out).mono ?_; rintro E w5 ⟨rfl, h⟩; clear r1 r2 r3 fz; have q1 := h.c11; have q2 := h.c14; rw [hph] at q1; rw [her] at q2; have q3 := h.lt; have HV := Aside0.mk h; clear h HU A40))
      go_ret2
      refine ⟨?_, HV.out⟩
      rfl
  | false =>
    rw [hb] at A36
    rw [if_neg (by decide)]
    clear A39
    obtain ⟨t2, ht2⟩ : ∃ t2, t.failed 5 = t2 := ⟨_, rfl⟩
    rw [ht2] at A38 ⊢
    clear ht2 ok htr htt htn hth htp
    by_cases h5 : t2.ph > 4
    · have e5 : decide (5 ≤ t2.ph) = true := decide_eq_true (by omega)
      go_enter Try.func17, Try.ntmps17
      go_wp2_with (first
        | (go_at_call 35; refine A35.out.mono ?_; rintro E w1 ⟨A0, k0, rfl, hr, hbb, hf⟩; have h := HS.out.below hbb; clear c1 pl; have c1 := h.c1; have c11 := h.c11; rw [hp] at c11; have pl := h.lt; have HS1 := Aside0.mk (HS.out.fresh hbb (rowXC wntE _ _) hr (nd_bl _) hf); clear h hr hbb hf HS A35)
        | (go_at_call 36; refine (A36.out _ _ _ HS1.out).mono ?_; rintro E w3 ⟨rfl, h⟩; obtain ⟨s0, s1, s2, s3, s4, s5, s6, s7, s8, s9, s10⟩ := h.stmt; have pl3 := h.lt; have HT := Aside0.mk h; clear h HS1 A36 c1 c11 pl)
        | (go_at_call 38; refine (A38.out _ HT.out).mono ?_; rintro E w4 ⟨rfl, h⟩; clear s0 s1 s2 s3 s4 s5 s6 s7 s8 s9 s10 pl3; have q1 := h.c11; have q2 := h.c14; have q3 := h.lt; have HV := Aside0.mk h; clear h HT A38))
      go_ret2
      refine ⟨?_, HV.out⟩
      unfold StepE
      rw [if_neg (by omega), e5]
      rfl
    · have e5 : decide (5 ≤ t2.ph) = false := decide_eq_false (by omega)
      go_enter Try.func17, Try.ntmps17
      go_wp2_with (first
        | (go_at_call 35; refine A35.out.mono ?_; rintro E w1 ⟨A0, k0, rfl, hr, hbb, hf⟩; have h := HS.out.below hbb; clear c1 pl; have c1 := h.c1; have c11 := h.c11; rw [hp] at c11; have pl := h.lt; have HS1 := Aside0.mk (HS.out.fresh hbb (rowXC wntE _ _) hr (nd_bl _) hf); clear h hr hbb hf HS A35)
        | (go_at_call 36; refine (A36.out _ _ _ HS1.out).mono ?_; rintro E w3 ⟨rfl, h⟩; obtain ⟨s0, s1, s2, s3, s4, s5, s6, s7, s8, s9, s10⟩ := h.stmt; have pl3 := h.lt; have HT := Aside0.mk h; clear h HS1 A36 c1 c11 pl)
        | (go_at_call 38; refine (A38.out _ HT.out).mono ?_; rintro E w4 ⟨rfl, h⟩; clear s0 s1 s2 s3 s4 s5 s6 s7 s8 s9 s10 pl3; have q1 := h.c11; have q2 := h.c14; have q3 := h.lt; have HV := Aside0.mk h; clear h HT A38))
      go_ret2
      refine ⟨?_, HV.out⟩
      unfold StepE
      rw [if_pos (by omega), e5]
      rfl
theorem rstep2_calls (h : RT w0 F jp tp x s R w) (ok : OkJ s x) (hp : s.ph = 2) :
    Calls Try.prog 17 #[.pointer (some ⟨jp, 0, none⟩), .pointer (some ⟨tp, 0, none⟩)] w fun E w' => E = StepE (s.step x) ∧ RT w0 F jp tp x (s.step x) R w' := by
  have hu50 := Try.underlying50
  have hu28 := Try.underlying28
  have hu72 := Try.underlying72
  have c1 := h.c1
  have pl := h.lt
  have A35 := Aside0.mk (planMarkR_calls w x.f1)
  have A41 := Aside0.mk (fun W (h : RT w0 F jp tp x s R W) => elderR h (Nat.lt_of_lt_of_le ok.n (by decide)))
  have hst : s.step x = (if (bits .and .i64 (s.ans.headD 0) 1 == 1) = true then s.said (⟨#[101, 108, 100, 101, 114]⟩ : ByteArray) else { s.said (⟨#[101, 108, 100, 101, 114]⟩ : ByteArray) with ph := 3 }) := by
    unfold JS.step
    rw [if_neg (by omega), if_pos hp]
  rw [hst]
  obtain ⟨t, ht⟩ : ∃ t, s.said (⟨#[101, 108, 100, 101, 114]⟩ : ByteArray) = t := ⟨_, rfl⟩
  have htp : t.ph = 2 := by rw [← ht]; exact hp
  rw [ht] at A41 ⊢
  have HS := Aside0.mk h
  clear h ok hst ht
  cases hb : (bits .and .i64 (s.ans.headD 0) 1 == 1) with
  | true =>
    rw [hb] at A41
    rw [if_pos rfl]
    have h5 : ¬ t.ph > 4 := by omega
    have e5 : decide (5 ≤ t.ph) = false := decide_eq_false (by omega)
    go_enter Try.func17, Try.ntmps17
    go_wp2_with (first
      | (go_at_call 35; refine A35.out.mono ?_; rintro E w1 ⟨A0, k0, rfl, hr, hbb, hf⟩; have h := HS.out.below hbb; clear c1 pl; have c1 := h.c1; have c11 := h.c11; rw [hp] at c11; have pl := h.lt; have HS1 := Aside0.mk h; clear h hr hbb hf HS A35)
      | (go_at_call 41; refine (A41.out _ HS1.out).mono ?_; rintro E w2 ⟨rfl, h⟩; clear c1 c11 pl; have q1 := h.c11; have q2 := h.c14; have q3 := h.lt; rw [htp] at q1; have HT := Aside0.mk (h); clear h HS1 A41))
    go_ret2
    refine ⟨?_, HT.out⟩
    unfold StepE
    rw [if_pos (by omega), e5]
    rfl
  | false =>
    rw [hb] at A41
    rw [if_neg (by decide)]
    have hE : StepE ({ t with ph := 3 } : JS) = .returned (.tuple #[.int .i64 0, .bool false]) := rfl
    rw [hE]
    clear hE
    go_enter Try.func17, Try.ntmps17
    go_wp2_with (first
      | (go_at_call 35; refine A35.out.mono ?_; rintro E w1 ⟨A0, k0, rfl, hr, hbb, hf⟩; have h := HS.out.below hbb; clear c1 pl; have c1 := h.c1; have c11 := h.c11; rw [hp] at c11; have pl := h.lt; have HS1 := Aside0.mk h; clear h hr hbb hf HS A35)
      | (go_at_call 41; refine (A41.out _ HS1.out).mono ?_; rintro E w2 ⟨rfl, h⟩; clear c1 c11 pl; have q1 := h.c11; have q2 := h.c14; have q3 := h.lt; have fz := h.fz; rw [htp] at q1; have HT := Aside0.mk (h.phase 3); clear h HS1 A41))
    go_ret2
    refine ⟨?_, HT.out⟩
    rfl
theorem rstep5_calls (h : RT w0 F jp tp x s R w) (ok : OkJ s x) (hp : s.ph = 5) :
    Calls Try.prog 17 #[.pointer (some ⟨jp, 0, none⟩), .pointer (some ⟨tp, 0, none⟩)] w fun E w' => E = StepE (s.step x) ∧ RT w0 F jp tp x (s.step x) R w' := by
  have hu50 := Try.underlying50
  have hu28 := Try.underlying28
  have hu72 := Try.underlying72
  have c1 := h.c1
  have pl := h.lt
  have A35 := Aside0.mk (planMarkR_calls w x.f1)
  have A36 := Aside0.mk (fun W A c (h : RT w0 F jp tp x s (rowXC wntE (.slice A 2 c) ((planW x.f1 3).take 2) :: R) W) => tryR (ws := (planW x.f1 3).take 2) h (Nat.lt_of_lt_of_le ok.n (by decide)) (by have := ok.h; omega) (fun y hy => planW_wf ok.x1 (by decide) y (List.mem_of_mem_take hy)) (show (2 : Nat) ≤ 10 by decide))
  have hst : s.step x = (if (bits .and .i64 (s.ans.headD 0) 1 == 1) = true then ((s.tried ((planW x.f1 3).take 2)).abandon x).free else s.tried ((planW x.f1 3).take 2)) := by
    unfold JS.step
    rw [if_neg (by omega), if_neg (by omega), if_neg (by omega), if_neg (by omega), if_pos hp]
    unfold JS.with_
    split <;> rfl
  rw [hst]
  have htn : (s.tried ((planW x.f1 3).take 2)).txt.length < 990001 := by
    have := ok.n
    show (s.txt ++ [_]).length < _
    rw [List.length_append, List.length_singleton]
    omega
  have hth : -1001 ≤ (s.tried ((planW x.f1 3).take 2)).held ∧ (s.tried ((planW x.f1 3).take 2)).held ≤ 1001 := by
    have e : (s.tried ((planW x.f1 3).take 2)).held = if (bits .and .i64 (s.ans.headD 0) 1 == 1) = true then s.held + 1 else s.held := rfl
    have := ok.h
    rw [e]
    split <;> omega
  have htp : (s.tried ((planW x.f1 3).take 2)).ph = 5 := hp
  obtain ⟨t, ht⟩ : ∃ t, s.tried ((planW x.f1 3).take 2) = t := ⟨_, rfl⟩
  rw [ht] at A36 htn hth htp ⊢
  have A45 := Aside0.mk (fun W (h : RT w0 F jp tp x t R W) => abandonR h (Nat.lt_of_lt_of_le htn (by decide)) ok.x2)
  have HS := Aside0.mk h
  clear h hst ht
  cases hb : (bits .and .i64 (s.ans.headD 0) 1 == 1) with
  | true =>
    rw [hb] at A36
    rw [if_pos rfl]
    obtain ⟨u, hu⟩ : ∃ u, t.said ((⟨#[97, 98, 97, 110, 100, 111, 110, 32]⟩ : ByteArray) ++ x.f2) = u := ⟨_, rfl⟩
    have hun : u.txt.length < 999999 := by
      rw [← hu]
      show (t.txt ++ [_]).length < _
      rw [List.length_append, List.length_singleton]
      omega
    have huh : -1000000 ≤ u.held ∧ u.held ≤ 1000000 := by
      rw [← hu]
      show -1000000 ≤ t.held ∧ t.held ≤ 1000000
      omega
    have hup : u.ph = 5 := by rw [← hu]; exact htp
    unfold JS.abandon
    rw [hu] at A45 ⊢
    clear hu ok htn hth htp
    cases hb3 : (bits .and .i64 (t.ans.headD 0) 3 == 3) with
    | true =>
      rw [hb3] at A45
      rw [if_pos rfl]
      have A40 := Aside0.mk (fun W (h : RT w0 F jp tp x u R W) => freeR h hun huh)
      have hph : u.free.ph = 5 := hup
      have her : u.free.er = u.er := rfl
      have hE : StepE u.free = .returned (.tuple #[.int .i64 u.er, .bool true]) := by
        unfold StepE
        rw [hph, her]
        rfl
      obtain ⟨z, hz2⟩ : ∃ z, u.free = z := ⟨_, rfl⟩
      rw [hz2] at A40 hph her hE ⊢
      rw [hE]
      clear hz2 hun huh hE
      go_enter Try.func17, Try.ntmps17
      go_wp2_with (first
        | (go_at_call 35; refine A35.out.mono ?_; rintro E w1 ⟨A0, k0, rfl, hr, hbb, hf⟩; have h := HS.out.below hbb; clear c1 pl; have c1 := h.c1; have c11 := h.c11; rw [hp] at c11; have pl := h.lt; obtain ⟨g, c', hv, hle⟩ := row_slice (n := 3) hr (by decide); obtain ⟨rfl, rfl⟩ : A0 = some ⟨g, 0, none⟩ ∧ k0 = c' := (by injection hv with e1 e2 e3; exact ⟨e1, e3⟩); have hr2 := RowX.cut hr 2 k0 (show (2 : Nat) ≤ 3 by decide) (by omega) (Nat.le_refl _); have HS1 := Aside0.mk (HS.out.fresh hbb (rowXC wntE _ _) hr2 (nd_bl (.slice (some ⟨g, 0, none⟩) 2 k0)) hf); clear h hr hr2 hv hbb hf HS A35)
        | (go_at_call 36; refine (A36.out _ _ _ HS1.out).mono ?_; rintro E w3 ⟨rfl, h⟩; clear c1 c11 pl; obtain ⟨s0, s1, s2, s3, s4, s5, s6, s7, s8, s9, s10⟩ := h.stmt; have pl3 := h.lt; have HT := Aside0.mk h; clear h HS1 A36)
        | (go_at_call 45; refine (A45.out _ HT.out).mono ?_; rintro E w4 ⟨rfl, h⟩; clear s0 s1 s2 s3 s4 s5 s6 s7 s8 s9 s10 pl3; have r1 := h.c11; have r2 := h.c14; have r3 := h.lt; have fz := h.fz; have HU := Aside0.mk (h); clear h HT A45)
        | (go_at_call 40; refine (A40.out _ HU.out).mono ?_; rintro E w5 ⟨rfl, h⟩; clear r1 r2 r3 fz; have q1 := h.c11; have q2 := h.c14; have q3 := h.lt; rw [hph] at q1; rw [her] at q2; have HV := Aside0.mk h; clear h HU A40))
      go_ret2
      refine ⟨?_, HV.out⟩
      rfl
    | false =>
      rw [hb3] at A45
      rw [if_neg (by decide)]
      have A40 := Aside0.mk (fun W (h : RT w0 F jp tp x { u with ph := 6 } R W) => freeR h hun huh)
      have hph : (({ u with ph := 6 } : JS).free).ph = 6 := rfl
      have her : (({ u with ph := 6 } : JS).free).er = u.er := rfl
      have hE : StepE (({ u with ph := 6 } : JS).free) = .returned (.tuple #[.int .i64 u.er, .bool true]) := rfl
      obtain ⟨z, hz2⟩ : ∃ z, (({ u with ph := 6 } : JS).free) = z := ⟨_, rfl⟩
      rw [hz2] at A40 hph her hE ⊢
      rw [hE]
      clear hz2 hun huh hE
      go_enter Try.func17, Try.ntmps17
      go_wp2_with (first
        | (go_at_call 35; refine A35.out.mono ?_; rintro E w1 ⟨A0, k0, rfl, hr, hbb, hf⟩; have h := HS.out.below hbb; clear c1 pl; have c1 := h.c1; have c11 := h.c11; rw [hp] at c11; have pl := h.lt; obtain ⟨g, c', hv, hle⟩ := row_slice (n := 3) hr (by decide); obtain ⟨rfl, rfl⟩ : A0 = some ⟨g, 0, none⟩ ∧ k0 = c' := (by injection hv with e1 e2 e3; exact ⟨e1, e3⟩); have hr2 := RowX.cut hr 2 k0 (show (2 : Nat) ≤ 3 by decide) (by omega) (Nat.le_refl _); have HS1 := Aside0.mk (HS.out.fresh hbb (rowXC wntE _ _) hr2 (nd_bl (.slice (some ⟨g, 0, none⟩) 2 k0)) hf); clear h hr hr2 hv hbb hf HS A35)
        | (go_at_call 36; refine (A36.out _ _ _ HS1.out).mono ?_; rintro E w3 ⟨rfl, h⟩; clear c1 c11 pl; obtain ⟨s0, s1, s2, s3, s4, s5, s6, s7, s8, s9, s10⟩ := h.stmt; have pl3 := h.lt; have HT := Aside0.mk h; clear h HS1 A36)
        | (go_at_call 45; refine (A45.out _ HT.out).mono ?_; rintro E w4 ⟨rfl, h⟩; clear s0 s1 s2 s3 s4 s5 s6 s7 s8 s9 s10 pl3; have r1 := h.c11; have r2 := h.c14; have r3 := h.lt; have fz := h.fz; have HU := Aside0.mk (h.phase 6); clear h HT A45)
        | (go_at_call 40; refine (A40.out _ HU.out).mono ?_; rintro E w5 ⟨rfl, h⟩; clear r1 r2 r3 fz; have q1 := h.c11; have q2 := h.c14; have q3 := h.lt; rw [hph] at q1; rw [her] at q2; have HV := Aside0.mk h; clear h HU A40))
      go_ret2
      refine ⟨?_, HV.out⟩
      rfl
  | false =>
    rw [hb] at A36
    rw [if_neg (by decide)]
    have h5 : t.ph > 4 := by omega
    have e5 : decide (5 ≤ t.ph) = true := decide_eq_true (by omega)
    clear A45
    go_enter Try.func17, Try.ntmps17
    go_wp2_with (first
      | (go_at_call 35; refine A35.out.mono ?_; rintro E w1 ⟨A0, k0, rfl, hr, hbb, hf⟩; have h := HS.out.below hbb; clear c1 pl; have c1 := h.c1; have c11 := h.c11; rw [hp] at c11; have pl := h.lt; obtain ⟨g, c', hv, hle⟩ := row_slice (n := 3) hr (by decide); obtain ⟨rfl, rfl⟩ : A0 = some ⟨g, 0, none⟩ ∧ k0 = c' := (by injection hv with e1 e2 e3; exact ⟨e1, e3⟩); have hr2 := RowX.cut hr 2 k0 (show (2 : Nat) ≤ 3 by decide) (by omega) (Nat.le_refl _); have HS1 := Aside0.mk (HS.out.fresh hbb (rowXC wntE _ _) hr2 (nd_bl (.slice (some ⟨g, 0, none⟩) 2 k0)) hf); clear h hr hr2 hv hbb hf HS A35)
      | (go_at_call 36; refine (A36.out _ _ _ HS1.out).mono ?_; rintro E w3 ⟨rfl, h⟩; clear c1 c11 pl; have q1 := h.c11; have q2 := h.c14; have q3 := h.lt; rw [htp] at q1; have HT := Aside0.mk h; clear h HS1 A36))
    go_ret2
    refine ⟨?_, HT.out⟩
    unfold StepE
    rw [if_neg (by omega), e5]
    rfl
theorem rstep6_calls (h : RT w0 F jp tp x s R w) (ok : OkJ s x) (hp : s.ph < 1 ∨ 5 < s.ph) :
    Calls Try.prog 17 #[.pointer (some ⟨jp, 0, none⟩), .pointer (some ⟨tp, 0, none⟩)] w fun E w' => E = StepE (s.step x) ∧ RT w0 F jp tp x (s.step x) R w' := by
  have hu50 := Try.underlying50
  have hu28 := Try.underlying28
  have hu72 := Try.underlying72
  have c1 := h.c1
  have pl := h.lt
  have A35 := Aside0.mk (planMarkR_calls w x.f1)
  have HS := Aside0.mk h
  have hst : s.step x = s := by
    unfold JS.step
    rw [if_neg (by omega), if_neg (by omega), if_neg (by omega), if_neg (by omega), if_neg (by omega)]
  rw [hst]
  clear h ok hst
  have h1 : ¬ s.ph = 1 := by omega
  have h2 : ¬ s.ph = 2 := by omega
  have h3 : ¬ s.ph = 3 := by omega
  have h4 : ¬ s.ph = 4 := by omega
  have h5' : ¬ s.ph = 5 := by omega
  by_cases h5 : s.ph > 4
  · have e5 : decide (5 ≤ s.ph) = true := decide_eq_true (by omega)
    go_enter Try.func17, Try.ntmps17
    go_wp2_with (first
      | (go_at_call 35; refine A35.out.mono ?_; rintro E w1 ⟨A0, k0, rfl, hr, hbb, hf⟩; have h := HS.out.below hbb; clear c1 pl; have q1 := h.c11; have q2 := h.c14; have q3 := h.lt; have HT := Aside0.mk h; clear h hr hbb hf HS A35))
    go_ret2
    refine ⟨?_, HT.out⟩
    unfold StepE
    rw [if_neg (by omega), e5]
    rfl
  · have e5 : decide (5 ≤ s.ph) = false := decide_eq_false (by omega)
    go_enter Try.func17, Try.ntmps17
    go_wp2_with (first
      | (go_at_call 35; refine A35.out.mono ?_; rintro E w1 ⟨A0, k0, rfl, hr, hbb, hf⟩; have h := HS.out.below hbb; clear c1 pl; have q1 := h.c11; have q2 := h.c14; have q3 := h.lt; have HT := Aside0.mk h; clear h hr hbb hf HS A35))
    go_ret2
    refine ⟨?_, HT.out⟩
    unfold StepE
    rw [if_pos (by omega), e5]
    rfl
theorem rstep3_calls (h : RT w0 F jp tp x s R w) (ok : OkJ s x) (hp : s.ph = 3) :
    Calls Try.prog 17 #[.pointer (some ⟨jp, 0, none⟩), .pointer (some ⟨tp, 0, none⟩)] w fun E w' => E = StepE (s.step x) ∧ RT w0 F jp tp x (s.step x) R w' := by
  have hu50 := Try.underlying50
  have hu28 := Try.underlying28
  have hu72 := Try.underlying72
  have c1 := h.c1
  have pl := h.lt
  have A35 := Aside0.mk (planMarkR_calls w x.f1)
  have A41 := Aside0.mk (fun W (h : RT w0 F jp tp x s R W) => tokenR h (Nat.lt_of_lt_of_le ok.n (by decide)))
  have hst : s.step x = (if (bits .and .i64 (s.ans.headD 0) 1 == 1) = true then (s.said (⟨#[116, 111, 107, 101, 110]⟩ : ByteArray)).fill x else s.said (⟨#[116, 111, 107, 101, 110]⟩ : ByteArray)) := by
    unfold JS.step
    rw [if_neg (by omega), if_neg (by omega), if_pos hp]
  rw [hst]
  have htn : (s.said (⟨#[116, 111, 107, 101, 110]⟩ : ByteArray)).txt.length < 999999 := by
    have := ok.n
    show (s.txt ++ [_]).length < _
    rw [List.length_append, List.length_singleton]
    omega
  have hta : ∀ y ∈ (s.said (⟨#[116, 111, 107, 101, 110]⟩ : ByteArray)).af, (Lit.int .i64 y.f1).wf = true := ok.a
  have htl : (s.said (⟨#[116, 111, 107, 101, 110]⟩ : ByteArray)).af.length ≤ 1000 := ok.l
  obtain ⟨t, ht⟩ : ∃ t, s.said (⟨#[116, 111, 107, 101, 110]⟩ : ByteArray) = t := ⟨_, rfl⟩
  have htp : t.ph = 3 := by rw [← ht]; exact hp
  rw [ht] at A41 htn hta htl ⊢
  have HS := Aside0.mk h
  clear h hst ht
  cases hb : (bits .and .i64 (s.ans.headD 0) 1 == 1) with
  | true =>
    rw [hb] at A41
    rw [if_pos rfl]
    obtain ⟨a, ha⟩ : ∃ a, t.ans.headD 0 = a := ⟨_, rfl⟩
    have B43 := Aside0.mk (fun W A2 c2 R2 (h : TL w0 F tp t.ans t.txt t.held (rowXC valE (.slice A2 t.af.length c2) t.af :: R2) W) => batch_calls A2 c2 t.af h htn hta htl x.f2 ok.x2)
    rw [ha] at B43
    unfold Bat43 JS.fill at *
    rw [ha]
    obtain ⟨m, hm⟩ : ∃ m, t.af.length = m := ⟨_, rfl⟩
    rw [hm] at B43
    have HM := Aside0.mk hm
    clear ok htn hta htl hm ha
    cases hb2 : (bits .and .i64 a 1 == 0) with
    | true =>
      rw [hb2] at B43
      simp only [Bool.not_true, ↓reduceIte] at B43
      rw [if_pos rfl]
      have hE : StepE ({ t.said (batS x.f2 t.af) with ph := 4 } : JS) = .returned (.tuple #[.int .i64 0, .bool false]) := rfl
      rw [hE]
      clear hE
      go_enter Try.func17, Try.ntmps17
      go_wp2_with (first
        | (go_at_call 35; refine A35.out.mono ?_; rintro E w1 ⟨A0, k0, rfl, hr, hbb, hf⟩; have h := HS.out.below hbb; clear c1 pl; have c1 := h.c1; have c11 := h.c11; rw [hp] at c11; have pl := h.lt; have HS1 := Aside0.mk h; clear h hr hbb hf HS A35)
        | (go_at_call 42; refine (A41.out _ HS1.out).mono ?_; rintro E w2 ⟨rfl, h⟩; clear c1 c11 pl; obtain ⟨A, c, h⟩ := h; rw [HM.out] at h; have HT := Aside0.mk h; clear h HS1 A41))
      refine start_ (n := 16) (S := fun w' => w'.cell? ⟨jp, 2, none⟩ = some (.string x.f2) ∧ w'.cell? ⟨jp, 12, none⟩ = some (.slice A m c)) (ds := []) #[false, false, false, false, false, false, false, false, false, false, false, false, false, false, false, false] (by kernel_rfl) rfl rfl ⟨(blk_cell (HT.out.rest.blk 0 rfl) 2).trans rfl, (blk_cell (HT.out.rest.blk 0 rfl) 12).trans rfl⟩ (fun hHeld => ?_)
      have HS11 := Aside0.mk (HT.out.drew)
      clear HT
      generalize w2.drew = w11 at HS11 hHeld  ⊢
      refine pure_ (i := 0) (N := (some 68)) (v := ?_) (a' := ?_) #[true, false, false, false, false, false, false, false, false, false, false, false, false, false, false, false] rfl rfl (by kernel_rfl) (fun _ _ _ h => h) (Or.inl ⟨by rfl, ?_⟩) ?_ ?_
      rotate_left
      · intro w'
        go_simp
        with_reducible rfl
      rotate_left
      · simp only [Act.put, List.setIfInBounds_toArray, List.set_cons_zero, List.set_cons_succ, i64_w, i32_w]
        rfl
      refine pure_ (i := 1) (N := (some 69)) (v := ?_) (a' := ?_) #[true, true, false, false, false, false, false, false, false, false, false, false, false, false, false, false] rfl rfl (by kernel_rfl) (fun _ _ _ h => h) (Or.inl ⟨by rfl, ?_⟩) ?_ ?_
      rotate_left
      · intro w'
        go_simp
        with_reducible rfl
      rotate_left
      · simp only [Act.put, List.setIfInBounds_toArray, List.set_cons_zero, List.set_cons_succ, i64_w, i32_w]
        rfl
      refine pure_ (i := 2) (N := (some 70)) (v := ?_) (a' := ?_) #[true, true, true, false, false, false, false, false, false, false, false, false, false, false, false, false] rfl rfl (by kernel_rfl) (fun _ _ _ h => h) (Or.inl ⟨by rfl, ?_⟩) ?_ ?_
      rotate_left
      · intro w'
        go_simp
        with_reducible rfl
      rotate_left
      · simp only [Act.put, List.setIfInBounds_toArray, List.set_cons_zero, List.set_cons_succ, i64_w, i32_w]
        rfl
      refine pure_ (i := 3) (N := (some 71)) (v := ?_) (a' := ?_) #[true, true, true, true, false, false, false, false, false, false, false, false, false, false, false, false] rfl rfl (by kernel_rfl) (fun _ _ _ h => h) (Or.inl ⟨by rfl, ?_⟩) ?_ ?_
      rotate_left
      · intro w'
        go_simp
        with_reducible rfl
      rotate_left
      · simp only [Act.put, List.setIfInBounds_toArray, List.set_cons_zero, List.set_cons_succ, i64_w, i32_w]
        rfl
      refine pure_ (i := 4) (N := (some 72)) (v := ?_) (a' := ?_) #[true, true, true, true, true, false, false, false, false, false, false, false, false, false, false, false] rfl rfl (by kernel_rfl) (fun _ _ _ h => h) (Or.inl ⟨by rfl, ?_⟩) ?_ ?_
      rotate_left
      · intro w'
        go_simp
        with_reducible rfl
      rotate_left
      · simp only [Act.put, List.setIfInBounds_toArray, List.set_cons_zero, List.set_cons_succ, i64_w, i32_w]
        rfl
      refine pure_ (i := 6) (N := (some 74)) (v := ?_) (a' := ?_) #[true, true, true, true, true, false, true, false, false, false, false, false, false, false, false, false] rfl rfl (by kernel_rfl) (fun _ _ _ h => h) (Or.inl ⟨by rfl, ?_⟩) ?_ ?_
      rotate_left
      · intro w'
        go_simp
        with_reducible rfl
      rotate_left
      · simp only [Act.put, List.setIfInBounds_toArray, List.set_cons_zero, List.set_cons_succ, i64_w, i32_w]
        rfl
      refine pure_ (i := 7) (N := (some 75)) (v := ?_) (a' := ?_) #[true, true, true, true, true, false, true, true, false, false, false, false, false, false, false, false] rfl rfl (by kernel_rfl) (fun _ _ _ h => h) (Or.inl ⟨by rfl, ?_⟩) ?_ ?_
      rotate_left
      · intro w'
        go_simp
        with_reducible rfl
      rotate_left
      · simp only [Act.put, List.setIfInBounds_toArray, List.set_cons_zero, List.set_cons_succ, i64_w, i32_w]
        rfl
      refine pure_ (i := 8) (N := (some 76)) (v := ?_) (a' := ?_) #[true, true, true, true, true, false, true, true, true, false, false, false, false, false, false, false] rfl rfl (by kernel_rfl) (fun _ _ _ h => h) (Or.inl ⟨by rfl, ?_⟩) ?_ ?_
      rotate_left
      · intro w'
        go_simp
        with_reducible rfl
      rotate_left
      · simp only [Act.put, List.setIfInBounds_toArray, List.set_cons_zero, List.set_cons_succ, i64_w, i32_w]
        rfl
      refine take_ (i := 5) (N := (some 73)) (v := ?_) (a' := ?_) #[true, true, true, true, true, true, true, true, true, false, false, false, false, false, false, false] rfl rfl (by kernel_rfl) (fun _ _ _ h => h) (Or.inl ⟨by rfl, ?_⟩) hHeld ?_ ?_
      rotate_left
      · rintro w' ⟨s0, s1⟩
        go_simp
        with_reducible rfl
      rotate_left
      · simp only [Act.put, List.setIfInBounds_toArray, List.set_cons_zero, List.set_cons_succ, i64_w, i32_w]
        rfl
      refine take_ (i := 9) (N := (some 77)) (v := ?_) (a' := ?_) #[true, true, true, true, true, true, true, true, true, true, false, false, false, false, false, false] rfl rfl (by kernel_rfl) (fun _ _ _ h => h) (Or.inl ⟨by rfl, ?_⟩) hHeld ?_ ?_
      rotate_left
      · rintro w' ⟨s0, s1⟩
        go_simp
        with_reducible rfl
      rotate_left
      · simp only [Act.put, List.setIfInBounds_toArray, List.set_cons_zero, List.set_cons_succ, i64_w, i32_w]
        rfl
      refine one_ (i := 10) (N := (some 78)) #[true, true, true, true, true, true, true, true, true, true, true, false, false, false, false, false] rfl rfl (by kernel_rfl) (by decide) (fun K_ hK => ?_)
      refine goes_ Try.func43 (by kernel_rfl) rfl #[.pointer (some ⟨tp, 0, none⟩), .string x.f2, .slice A m c] (by rfl) rfl rfl (by (try simp only [List.map_toArray, List.map_cons, List.map_nil]); first | done | rfl) ?_
      refine (B43.out _ A c _ (TL.perm HS11.out (List.Perm.swap _ _ _))).mono ?_
      rintro E w13 ⟨A2, n2, c2, rfl, h⟩
      have HS12 := Aside0.mk (TL.perm (R' := (blkC jp (.cells #[.int .i64 x.f0, .string x.f1, .string x.f2, .string x.f3, .int .i64 x.f4, .bool x.f5, .slice x.f6.A x.f6.n x.f6.c, .slice x.f7.A x.f7.n x.f7.c, .slice x.f8.A x.f8.n x.f8.c, .slice x.f9.A x.f9.n x.f9.c, .slice x.f10.A x.f10.n x.f10.c, .int .i64 t.ph, .slice A m c, .int .i64 t.tr, .int .i64 t.er] 50 (0, 0)) :: rowXC valE (.slice A m c) t.af :: R)) h (List.Perm.swap _ _ _))
      clear HS11
      clear h
      refine ⟨_, rfl, ?_⟩
      clear hHeld
      refine hK.out _ _ ⟨(blk_cell (HS12.out.rest.blk 0 rfl) 2).trans rfl, (blk_cell (HS12.out.rest.blk 0 rfl) 12).trans rfl⟩ (fun hHeld => ?_)
      clear hK K_
      refine norm_ (a' := ?_) ?_ ?_
      rotate_left
      · show Act.put _ (some 78) _ = _
        simp only [Act.put, List.setIfInBounds_toArray, List.set_cons_zero, List.set_cons_succ, i64_w, i32_w]
        rfl
      refine pure_ (i := 11) (N := (some 67)) (v := ?_) (a' := ?_) #[true, true, true, true, true, true, true, true, true, true, true, true, false, false, false, false] rfl rfl (by kernel_rfl) (fun _ _ _ h => h) (Or.inl ⟨by rfl, ?_⟩) ?_ ?_
      rotate_left
      · intro w'
        go_simp
        with_reducible rfl
      rotate_left
      · simp only [Act.put, List.setIfInBounds_toArray, List.set_cons_zero, List.set_cons_succ, i64_w, i32_w]
        rfl
      refine pure_ (i := 12) (N := (some 79)) (v := ?_) (a' := ?_) #[true, true, true, true, true, true, true, true, true, true, true, true, true, false, false, false] rfl rfl (by kernel_rfl) (fun _ _ _ h => h) (Or.inl ⟨by rfl, ?_⟩) ?_ ?_
      rotate_left
      · intro w'
        go_simp
        with_reducible rfl
      rotate_left
      · simp only [Act.put, List.setIfInBounds_toArray, List.set_cons_zero, List.set_cons_succ, i64_w, i32_w]
        rfl
      refine pure_ (i := 13) (N := (some 80)) (v := ?_) (a' := ?_) #[true, true, true, true, true, true, true, true, true, true, true, true, true, true, false, false] rfl rfl (by kernel_rfl) (fun _ _ _ h => h) (Or.inl ⟨by rfl, ?_⟩) ?_ ?_
      rotate_left
      · intro w'
        go_simp
        with_reducible rfl
      rotate_left
      · simp only [Act.put, List.setIfInBounds_toArray, List.set_cons_zero, List.set_cons_succ, i64_w, i32_w]
        rfl
      refine pure_ (i := 14) (N := (some 7)) (v := ?_) (a' := ?_) #[true, true, true, true, true, true, true, true, true, true, true, true, true, true, true, false] rfl rfl (by kernel_rfl) (fun _ _ _ h => h) (Or.inl ⟨by rfl, ?_⟩) ?_ ?_
      rotate_left
      · intro w'
        go_simp
        with_reducible rfl
      rotate_left
      · simp only [Act.put, List.setIfInBounds_toArray, List.set_cons_zero, List.set_cons_succ, i64_w, i32_w]
        rfl
      refine pure_ (i := 15) (N := (some 8)) (v := ?_) (a' := ?_) #[true, true, true, true, true, true, true, true, true, true, true, true, true, true, true, true] rfl rfl (by kernel_rfl) (fun _ _ _ h => h) (Or.inl ⟨by rfl, ?_⟩) ?_ ?_
      rotate_left
      · intro w'
        go_simp
        with_reducible rfl
      rotate_left
      · simp only [Act.put, List.setIfInBounds_toArray, List.set_cons_zero, List.set_cons_succ, i64_w, i32_w]
        rfl
      refine done_ (by kernel_rfl) ?_
      clear hHeld
      have h := HS12.out
      have hbk := h.rest.blk 0 rfl
      have q1 : w13.cell? ⟨jp, 11, none⟩ = some (.int .i64 t.ph) := (blk_cell hbk 11).trans rfl
      have q3 := lt_of_some hbk
      have fz := fun j => frozen_of_row w13 jp j _ _ hbk
      have HF := Aside0.mk (h.putBlk 0 rfl 11 (.int .i64 4) rfl)
      clear h hbk HS12
      go_wp2
      go_ret2
      refine ⟨rfl, A, c, ?_⟩
      have e := HM.out
      subst e
      exact HF.out
    | false =>
      rw [hb2] at B43
      simp only [Bool.not_false, Bool.false_eq_true, ↓reduceIte] at B43
      rw [if_neg (by decide)]
      have hE : StepE ({ t.said (batS x.f2 t.af) with af := nextRow a } : JS) = .returned (.tuple #[.int .i64 0, .bool false]) := by
        unfold StepE
        rw [show ({ t.said (batS x.f2 t.af) with af := nextRow a } : JS).ph = 3 from htp]
        rfl
      rw [hE]
      clear hE
      go_enter Try.func17, Try.ntmps17
      go_wp2_with (first
        | (go_at_call 35; refine A35.out.mono ?_; rintro E w1 ⟨A0, k0, rfl, hr, hbb, hf⟩; have h := HS.out.below hbb; clear c1 pl; have c1 := h.c1; have c11 := h.c11; rw [hp] at c11; have pl := h.lt; have HS1 := Aside0.mk h; clear h hr hbb hf HS A35)
        | (go_at_call 42; refine (A41.out _ HS1.out).mono ?_; rintro E w2 ⟨rfl, h⟩; clear c1 c11 pl; obtain ⟨A, c, h⟩ := h; rw [HM.out] at h; have HT := Aside0.mk h; clear h HS1 A41))
      refine start_ (n := 16) (S := fun w' => w'.cell? ⟨jp, 2, none⟩ = some (.string x.f2) ∧ w'.cell? ⟨jp, 12, none⟩ = some (.slice A m c)) (ds := []) #[false, false, false, false, false, false, false, false, false, false, false, false, false, false, false, false] (by kernel_rfl) rfl rfl ⟨(blk_cell (HT.out.rest.blk 0 rfl) 2).trans rfl, (blk_cell (HT.out.rest.blk 0 rfl) 12).trans rfl⟩ (fun hHeld => ?_)
      have HS11 := Aside0.mk (HT.out.drew)
      clear HT
      generalize w2.drew = w11 at HS11 hHeld  ⊢
      refine pure_ (i := 0) (N := (some 68)) (v := ?_) (a' := ?_) #[true, false, false, false, false, false, false, false, false, false, false, false, false, false, false, false] rfl rfl (by kernel_rfl) (fun _ _ _ h => h) (Or.inl ⟨by rfl, ?_⟩) ?_ ?_
      rotate_left
      · intro w'
        go_simp
        with_reducible rfl
      rotate_left
      · simp only [Act.put, List.setIfInBounds_toArray, List.set_cons_zero, List.set_cons_succ, i64_w, i32_w]
        rfl
      refine pure_ (i := 1) (N := (some 69)) (v := ?_) (a' := ?_) #[true, true, false, false, false, false, false, false, false, false, false, false, false, false, false, false] rfl rfl (by kernel_rfl) (fun _ _ _ h => h) (Or.inl ⟨by rfl, ?_⟩) ?_ ?_
      rotate_left
      · intro w'
        go_simp
        with_reducible rfl
      rotate_left
      · simp only [Act.put, List.setIfInBounds_toArray, List.set_cons_zero, List.set_cons_succ, i64_w, i32_w]
        rfl
      refine pure_ (i := 2) (N := (some 70)) (v := ?_) (a' := ?_) #[true, true, true, false, false, false, false, false, false, false, false, false, false, false, false, false] rfl rfl (by kernel_rfl) (fun _ _ _ h => h) (Or.inl ⟨by rfl, ?_⟩) ?_ ?_
      rotate_left
      · intro w'
        go_simp
        with_reducible rfl
      rotate_left
      · simp only [Act.put, List.setIfInBounds_toArray, List.set_cons_zero, List.set_cons_succ, i64_w, i32_w]
        rfl
      refine pure_ (i := 3) (N := (some 71)) (v := ?_) (a' := ?_) #[true, true, true, true, false, false, false, false, false, false, false, false, false, false, false, false] rfl rfl (by kernel_rfl) (fun _ _ _ h => h) (Or.inl ⟨by rfl, ?_⟩) ?_ ?_
      rotate_left
      · intro w'
        go_simp
        with_reducible rfl
      rotate_left
      · simp only [Act.put, List.setIfInBounds_toArray, List.set_cons_zero, List.set_cons_succ, i64_w, i32_w]
        rfl
      refine pure_ (i := 4) (N := (some 72)) (v := ?_) (a' := ?_) #[true, true, true, true, true, false, false, false, false, false, false, false, false, false, false, false] rfl rfl (by kernel_rfl) (fun _ _ _ h => h) (Or.inl ⟨by rfl, ?_⟩) ?_ ?_
      rotate_left
      · intro w'
        go_simp
        with_reducible rfl
      rotate_left
      · simp only [Act.put, List.setIfInBounds_toArray, List.set_cons_zero, List.set_cons_succ, i64_w, i32_w]
        rfl
      refine pure_ (i := 6) (N := (some 74)) (v := ?_) (a' := ?_) #[true, true, true, true, true, false, true, false, false, false, false, false, false, false, false, false] rfl rfl (by kernel_rfl) (fun _ _ _ h => h) (Or.inl ⟨by rfl, ?_⟩) ?_ ?_
      rotate_left
      · intro w'
        go_simp
        with_reducible rfl
      rotate_left
      · simp only [Act.put, List.setIfInBounds_toArray, List.set_cons_zero, List.set_cons_succ, i64_w, i32_w]
        rfl
      refine pure_ (i := 7) (N := (some 75)) (v := ?_) (a' := ?_) #[true, true, true, true, true, false, true, true, false, false, false, false, false, false, false, false] rfl rfl (by kernel_rfl) (fun _ _ _ h => h) (Or.inl ⟨by rfl, ?_⟩) ?_ ?_
      rotate_left
      · intro w'
        go_simp
        with_reducible rfl
      rotate_left
      · simp only [Act.put, List.setIfInBounds_toArray, List.set_cons_zero, List.set_cons_succ, i64_w, i32_w]
        rfl
      refine pure_ (i := 8) (N := (some 76)) (v := ?_) (a' := ?_) #[true, true, true, true, true, false, true, true, true, false, false, false, false, false, false, false] rfl rfl (by kernel_rfl) (fun _ _ _ h => h) (Or.inl ⟨by rfl, ?_⟩) ?_ ?_
      rotate_left
      · intro w'
        go_simp
        with_reducible rfl
      rotate_left
      · simp only [Act.put, List.setIfInBounds_toArray, List.set_cons_zero, List.set_cons_succ, i64_w, i32_w]
        rfl
      refine take_ (i := 5) (N := (some 73)) (v := ?_) (a' := ?_) #[true, true, true, true, true, true, true, true, true, false, false, false, false, false, false, false] rfl rfl (by kernel_rfl) (fun _ _ _ h => h) (Or.inl ⟨by rfl, ?_⟩) hHeld ?_ ?_
      rotate_left
      · rintro w' ⟨s0, s1⟩
        go_simp
        with_reducible rfl
      rotate_left
      · simp only [Act.put, List.setIfInBounds_toArray, List.set_cons_zero, List.set_cons_succ, i64_w, i32_w]
        rfl
      refine take_ (i := 9) (N := (some 77)) (v := ?_) (a' := ?_) #[true, true, true, true, true, true, true, true, true, true, false, false, false, false, false, false] rfl rfl (by kernel_rfl) (fun _ _ _ h => h) (Or.inl ⟨by rfl, ?_⟩) hHeld ?_ ?_
      rotate_left
      · rintro w' ⟨s0, s1⟩
        go_simp
        with_reducible rfl
      rotate_left
      · simp only [Act.put, List.setIfInBounds_toArray, List.set_cons_zero, List.set_cons_succ, i64_w, i32_w]
        rfl
      refine one_ (i := 10) (N := (some 78)) #[true, true, true, true, true, true, true, true, true, true, true, false, false, false, false, false] rfl rfl (by kernel_rfl) (by decide) (fun K_ hK => ?_)
      refine goes_ Try.func43 (by kernel_rfl) rfl #[.pointer (some ⟨tp, 0, none⟩), .string x.f2, .slice A m c] (by rfl) rfl rfl (by (try simp only [List.map_toArray, List.map_cons, List.map_nil]); first | done | rfl) ?_
      refine (B43.out _ A c _ (TL.perm HS11.out (List.Perm.swap _ _ _))).mono ?_
      rintro E w13 ⟨A2, n2, c2, rfl, h⟩
      have h1 : TL w0 F tp _ _ _ ((rowXC valE (.slice A m c) t.af :: blkC jp (.cells #[.int .i64 x.f0, .string x.f1, .string x.f2, .string x.f3, .int .i64 x.f4, .bool x.f5, .slice x.f6.A x.f6.n x.f6.c, .slice x.f7.A x.f7.n x.f7.c, .slice x.f8.A x.f8.n x.f8.c, .slice x.f9.A x.f9.n x.f9.c, .slice x.f10.A x.f10.n x.f10.c, .int .i64 t.ph, .slice A m c, .int .i64 t.tr, .int .i64 t.er] 50 (0, 0)) :: R) ++ [rowXC valE (.slice A2 n2 c2) (nextRow a)]) _ := h
      have HS12 := Aside0.mk (h1.perm (R' := rowXC valE (.slice A2 n2 c2) (nextRow a) :: (blkC jp (.cells #[.int .i64 x.f0, .string x.f1, .string x.f2, .string x.f3, .int .i64 x.f4, .bool x.f5, .slice x.f6.A x.f6.n x.f6.c, .slice x.f7.A x.f7.n x.f7.c, .slice x.f8.A x.f8.n x.f8.c, .slice x.f9.A x.f9.n x.f9.c, .slice x.f10.A x.f10.n x.f10.c, .int .i64 t.ph, .slice A m c, .int .i64 t.tr, .int .i64 t.er] 50 (0, 0)) :: rowXC valE (.slice A m c) t.af :: R)) ((List.perm_append_comm (l₂ := [_])).trans ((List.Perm.swap _ _ _).cons _)))
      clear HS11
      clear h h1
      obtain rfl : n2 = 1 := (HS12.out.rest.rowX 0 rfl).capOk.1
      refine ⟨_, rfl, ?_⟩
      clear hHeld
      refine hK.out _ _ ⟨(blk_cell (HS12.out.rest.blk 1 rfl) 2).trans rfl, (blk_cell (HS12.out.rest.blk 1 rfl) 12).trans rfl⟩ (fun hHeld => ?_)
      clear hK K_
      refine norm_ (a' := ?_) ?_ ?_
      rotate_left
      · show Act.put _ (some 78) _ = _
        simp only [Act.put, List.setIfInBounds_toArray, List.set_cons_zero, List.set_cons_succ, i64_w, i32_w]
        rfl
      refine pure_ (i := 11) (N := (some 67)) (v := ?_) (a' := ?_) #[true, true, true, true, true, true, true, true, true, true, true, true, false, false, false, false] rfl rfl (by kernel_rfl) (fun _ _ _ h => h) (Or.inl ⟨by rfl, ?_⟩) ?_ ?_
      rotate_left
      · intro w'
        go_simp
        with_reducible rfl
      rotate_left
      · simp only [Act.put, List.setIfInBounds_toArray, List.set_cons_zero, List.set_cons_succ, i64_w, i32_w]
        rfl
      refine pure_ (i := 12) (N := (some 79)) (v := ?_) (a' := ?_) #[true, true, true, true, true, true, true, true, true, true, true, true, true, false, false, false] rfl rfl (by kernel_rfl) (fun _ _ _ h => h) (Or.inl ⟨by rfl, ?_⟩) ?_ ?_
      rotate_left
      · intro w'
        go_simp
        with_reducible rfl
      rotate_left
      · simp only [Act.put, List.setIfInBounds_toArray, List.set_cons_zero, List.set_cons_succ, i64_w, i32_w]
        rfl
      refine pure_ (i := 13) (N := (some 80)) (v := ?_) (a' := ?_) #[true, true, true, true, true, true, true, true, true, true, true, true, true, true, false, false] rfl rfl (by kernel_rfl) (fun _ _ _ h => h) (Or.inl ⟨by rfl, ?_⟩) ?_ ?_
      rotate_left
      · intro w'
        go_simp
        with_reducible rfl
      rotate_left
      · simp only [Act.put, List.setIfInBounds_toArray, List.set_cons_zero, List.set_cons_succ, i64_w, i32_w]
        rfl
      refine pure_ (i := 14) (N := (some 7)) (v := ?_) (a' := ?_) #[true, true, true, true, true, true, true, true, true, true, true, true, true, true, true, false] rfl rfl (by kernel_rfl) (fun _ _ _ h => h) (Or.inl ⟨by rfl, ?_⟩) ?_ ?_
      rotate_left
      · intro w'
        go_simp
        with_reducible rfl
      rotate_left
      · simp only [Act.put, List.setIfInBounds_toArray, List.set_cons_zero, List.set_cons_succ, i64_w, i32_w]
        rfl
      refine pure_ (i := 15) (N := (some 8)) (v := ?_) (a' := ?_) #[true, true, true, true, true, true, true, true, true, true, true, true, true, true, true, true] rfl rfl (by kernel_rfl) (fun _ _ _ h => h) (Or.inl ⟨by rfl, ?_⟩) ?_ ?_
      rotate_left
      · intro w'
        go_simp
        with_reducible rfl
      rotate_left
      · simp only [Act.put, List.setIfInBounds_toArray, List.set_cons_zero, List.set_cons_succ, i64_w, i32_w]
        rfl
      refine done_ (by kernel_rfl) ?_
      clear hHeld
      have h := HS12.out
      have hbk := h.rest.blk 1 rfl
      have q0 : w13.cell? ⟨jp, 12, none⟩ = some (.slice A m c) := (blk_cell hbk 12).trans rfl
      have q1 : w13.cell? ⟨jp, 11, none⟩ = some (.int .i64 t.ph) := (blk_cell hbk 11).trans rfl
      rw [htp] at q1
      have q3 := lt_of_some hbk
      have fz := fun j => frozen_of_row w13 jp j _ _ hbk
      have HF := Aside0.mk (h.putBlk 1 rfl 12 (.slice A2 1 c2) rfl)
      clear h hbk HS12
      go_wp2
      go_ret2
      refine ⟨rfl, A2, c2, ?_⟩
      have hf : TL w0 F tp _ _ _ (rowXC valE (.slice A2 1 c2) (nextRow a) :: blkC jp _ :: rowXC valE _ _ :: R) _ := HF.out
      exact TL.drop (R := [rowXC valE _ _]) (hf.perm (((perm3 _ _ _ _)).trans ((List.Perm.swap _ _ _).cons _)))
  | false =>
    rw [hb] at A41
    rw [if_neg (by decide)]
    have h5 : ¬ t.ph > 4 := by omega
    have e5 : decide (5 ≤ t.ph) = false := decide_eq_false (by omega)
    clear ok htn hta htl
    go_enter Try.func17, Try.ntmps17
    go_wp2_with (first
      | (go_at_call 35; refine A35.out.mono ?_; rintro E w1 ⟨A0, k0, rfl, hr, hbb, hf⟩; have h := HS.out.below hbb; clear c1 pl; have c1 := h.c1; have c11 := h.c11; rw [hp] at c11; have pl := h.lt; have HS1 := Aside0.mk h; clear h hr hbb hf HS A35)
      | (go_at_call 42; refine (A41.out _ HS1.out).mono ?_; rintro E w2 ⟨rfl, h⟩; clear c1 c11 pl; have q1 := h.c11; have q2 := h.c14; have q3 := h.lt; rw [htp] at q1; have HT := Aside0.mk (h); clear h HS1 A41))
    go_ret2
    refine ⟨?_, HT.out⟩
    unfold StepE
    rw [if_pos (by omega), e5]
    rfl
theorem rstep_calls (h : RT w0 F jp tp x s R w) (ok : OkJ s x) (htr : s.ph = 1 ∨ s.ph = 4 → 1 ≤ s.tr) :
    Calls Try.prog 17 #[.pointer (some ⟨jp, 0, none⟩), .pointer (some ⟨tp, 0, none⟩)] w fun E w' => E = StepE (s.step x) ∧ RT w0 F jp tp x (s.step x) R w' := by
  by_cases h1 : s.ph = 1
  · exact rstep1_calls h ok h1 (htr (.inl h1))
  by_cases h2 : s.ph = 2
  · exact rstep2_calls h ok h2
  by_cases h3 : s.ph = 3
  · exact rstep3_calls h ok h3
  by_cases h4 : s.ph = 4
  · exact rstep4_calls h ok h4 (htr (.inr h4))
  by_cases h5 : s.ph = 5
  · exact rstep5_calls h ok h5
  exact rstep6_calls h ok (by omega)
end
end Go.Proofs.Kb
end
section
namespace Go.Proofs.Ytnojcnmnkkgkgaa.Q
open Go.RowKit Go.Proofs.YtnojcnmnkkgkgaaW.PrintWords Go.Proofs.YtnojcnmnkkgkgaaW.PrintLast Go.Proofs.YtnojcnmnkkgkgaaW.PrintMore
attribute [local go_sem] max2_int min2_int max_two min_two max_three min_three max_four min_four
set_option linter.unusedVariables false
set_option linter.unusedSimpArgs false
def interlockref00_CopyConds.f (l0 : List (S64)) : Option ((List (S64))) := (some (([] : List (S64)) : List (S64))).bind fun y130 => (if y130.length + l0.length < 2513169434916 then (some (y130 ++ l0)) else (none))
set_option maxHeartbeats 8000000 in
set_option maxRecDepth 100000 in
theorem interlockref00_CopyConds.calls (A0 : Option Addr) (c0 : Nat) (l0 : List (S64)) (r : List (S64)) (w : World) (hr0 : Kd.C k64 w A0 l0.length l0) (hc0 : l0.length ≤ c0) (h : interlockref00_CopyConds.f l0 = some r) :
    Calls Try.prog 32 #[.slice A0 l0.length c0] w fun e w' => ∃ v0_ : Value, e = .returned (v0_) ∧ Kd.R k64 64 w' w.heap.size (fun _ => True) v0_ r ∧ Below w.heap.size w w' := by
  have HR0 := Aside0.mk hr0
  have HC0 := Aside0.mk hc0
  clear hr0 hc0
  have HB := Aside0.mk (Below.refl w.heap.size w)
  have H : ((some (([] : List (S64)) : List (S64))).bind fun y130 => (if y130.length + l0.length < 2513169434916 then (some (y130 ++ l0)) else (none))) = some r := h
  clear h
  obtain ⟨y130, hy130⟩ : ∃ y_ : List (S64), y_ = (([] : List (S64))) := ⟨_, rfl⟩
  replace H : (if y130.length + l0.length < 2513169434916 then (some (y130 ++ l0)) else (none)) = some r := by first | (rw [hy130]; with_reducible exact H) | (have H2_ := (Option.bind_some _ _).symm.trans H; rw [hy130]; with_reducible exact H2_) | (have H2_ := (Option.bind_some _ _).symm.trans H; with_reducible exact H2_) | with_reducible exact H | (rw [hy130]; exact H) | exact H
  have Ny130 := Aside0.mk hy130
  clear hy130
  by_cases c2 : y130.length + l0.length < 2513169434916
  · rw [if_pos c2] at H
    have LMc2 := Aside0.mk c2
    clear c2
    obtain ⟨y133, hy133⟩ : ∃ y_ : List (S64), y_ = (y130 ++ l0) := ⟨_, rfl⟩
    replace H : (some y133) = some r := by first | (rw [hy133]; with_reducible exact H) | (have H2_ := (Option.bind_some _ _).symm.trans H; rw [hy133]; with_reducible exact H2_) | (have H2_ := (Option.bind_some _ _).symm.trans H; with_reducible exact H2_) | with_reducible exact H | (rw [hy133]; exact H) | exact H
    have Ny133 := Aside0.mk hy133
    clear hy133
    obtain rfl := Option.some.inj H
    go_enter Try.func32, Try.ntmps32
    go_wp2_with (first | ((with_reducible refine gate_dst (N := 4) rfl ?_); refine Kd.R_lit k64 _ 64 ?hg (N := 4) ?hd (xs := ([] : List (S64))) (inner := []) (ok := fun _ => True) (okp := fun _ => True) ?hr ?hp (fun _ hk => hk) trivial (Below.refl _ _) (Nat.le_refl _) (by simp) ?_; (case hd => rfl); (case hg => rfl); (case hr => first | (go_simp; done) | (go_simp; rfl)); (case hp => exact (Reps.none _ _)); intro v131 w3 ho4 hb hg_ hnew_; clear hg_ hnew_; (first | rw [← Ny130.out] at ho4 | (simp only [Int.reduceToNat] at ho4; rw [← Ny130.out] at ho4)); have n0_ := Aside0.mk (Kd.R_lower ho4 (below_size (by repeat (first | (with_reducible first | exact HB.out | apply below_alloc | apply pw_below_drewN | apply below_drew1) | exact HB.out)))); have n1_ := Aside0.mk (below_step (by repeat (first | (with_reducible first | exact HB.out | apply below_alloc | apply pw_below_drewN | apply below_drew1) | exact HB.out)) hb); clear HB; have HO132 := n0_; have HB := n1_; clear n0_ n1_; clear hb ho4) | ((with_reducible refine gate_builtin (b := .append) (xs := #[.tmp 5, .tmp 6]) rfl ?_); at_builtin; refine Kd.R_append_rows k64 (w0 := w) w.heap.size rfl (.tmp 5) (.tmp 6) 24 64 (.agg #[(.string ⟨#[]⟩), (.int .i64 0), (.int .i64 0), (.int .i64 0), (.string ⟨#[]⟩)]) 56 rfl Try.underlying24 info64 rfl (by decide) (by omega) v131 y130 l0 _ _ _ (fun _ => True) (fun _ => False) rfl rfl ?aO ?aR (fun _ _ h => h) (fun _ h => h.elim) ?aF ?aB ?aS ?aL ?_; (case aR => repeat (first | exact (Kd.C_below HR0.out HB.out) | (with_reducible refine Kd.C_alloc ?_ _) | (with_reducible refine Kd.C_drewN ?_ _) | (with_reducible refine Kd.C_drew ?_))); (case aB => exact (by repeat (first | (with_reducible first | exact HB.out | apply below_alloc | apply pw_below_drewN | apply below_drew1) | exact HB.out))); (case aF => exact (fun _ _ => trivial)); (case aO => exact (by (with_reducible repeat (first | apply Kd.R_alloc | apply Kd.R_drewN | apply Kd.R_drew)); exact HO132.out)); (case aS => exact (below_size (by repeat (first | (with_reducible first | exact HB.out | apply below_alloc | apply pw_below_drewN | apply below_drew1) | exact HB.out)))); (case aL => have := LMc2.out; omega); intro v134 w5 ho hb hg hat; rw [← Ny133.out] at ho; have n0_ := Aside0.mk (hb); have n1_ := Aside0.mk (ho); clear HB; clear HO132; have HB := n0_; have HO135 := n1_; clear n0_ n1_; clear ho hb hg hat))
    go_ret
    exact ⟨_, by first | rfl | (simp [errW_none, errW_some] <;> rfl) | (simp [*, errW_none, errW_some] <;> rfl), by (with_reducible repeat (first | apply Kd.R_alloc | apply Kd.R_drewN | apply Kd.R_drew)); exact HO135.out, by repeat (first | (with_reducible first | exact HB.out | apply below_alloc | apply pw_below_drewN | apply below_drew1) | exact HB.out)⟩
  · rw [if_neg c2] at H
    exact absurd H (by simp)
end Go.Proofs.Ytnojcnmnkkgkgaa.Q
end
section
namespace Go.Proofs.Ytnojcnmnkkgkgaa.Q
open Go.RowKit Go.Proofs.YtnojcnmnkkgkgaaW.PrintWords Go.Proofs.YtnojcnmnkkgkgaaW.PrintLast Go.Proofs.YtnojcnmnkkgkgaaW.PrintMore
attribute [local go_sem] max2_int min2_int max_two min_two max_three min_three max_four min_four
set_option linter.unusedVariables false
set_option linter.unusedSimpArgs false
def interlockref00_CopyTexts.f (l0 : List ByteArray) : Option (List ByteArray) := (some (([] : List ByteArray) : List ByteArray)).bind fun y136 => (if y136.length + l0.length < 8796093022208 then (some (y136 ++ l0)) else (none))
set_option maxHeartbeats 8000000 in
set_option maxRecDepth 100000 in
theorem interlockref00_CopyTexts.calls (A0 : Option Addr) (c0 : Nat) (l0 : List ByteArray) (r : List ByteArray) (w : World) (hr0 : Kd.C Kd.string w A0 l0.length l0) (hc0 : l0.length ≤ c0) (h : interlockref00_CopyTexts.f l0 = some r) :
    Calls Try.prog 33 #[.slice A0 l0.length c0] w fun e w' => ∃ v0_ : Value, e = .returned (v0_) ∧ Kd.R Kd.string 9 w' w.heap.size (fun _ => True) v0_ r ∧ Below w.heap.size w w' := by
  have HR0 := Aside0.mk hr0
  have HC0 := Aside0.mk hc0
  clear hr0 hc0
  have HB := Aside0.mk (Below.refl w.heap.size w)
  have H : ((some (([] : List ByteArray) : List ByteArray)).bind fun y136 => (if y136.length + l0.length < 8796093022208 then (some (y136 ++ l0)) else (none))) = some r := h
  clear h
  obtain ⟨y136, hy136⟩ : ∃ y_ : List ByteArray, y_ = (([] : List ByteArray)) := ⟨_, rfl⟩
  replace H : (if y136.length + l0.length < 8796093022208 then (some (y136 ++ l0)) else (none)) = some r := by first | (rw [hy136]; with_reducible exact H) | (have H2_ := (Option.bind_some _ _).symm.trans H; rw [hy136]; with_reducible exact H2_) | (have H2_ := (Option.bind_some _ _).symm.trans H; with_reducible exact H2_) | with_reducible exact H | (rw [hy136]; exact H) | exact H
  have Ny136 := Aside0.mk hy136
  clear hy136
  by_cases c2 : y136.length + l0.length < 8796093022208
  · rw [if_pos c2] at H
    have LMc2 := Aside0.mk c2
    clear c2
    obtain ⟨y139, hy139⟩ : ∃ y_ : List ByteArray, y_ = (y136 ++ l0) := ⟨_, rfl⟩
    replace H : (some y139) = some r := by first | (rw [hy139]; with_reducible exact H) | (have H2_ := (Option.bind_some _ _).symm.trans H; rw [hy139]; with_reducible exact H2_) | (have H2_ := (Option.bind_some _ _).symm.trans H; with_reducible exact H2_) | with_reducible exact H | (rw [hy139]; exact H) | exact H
    have Ny139 := Aside0.mk hy139
    clear hy139
    obtain rfl := Option.some.inj H
    go_enter Try.func33, Try.ntmps33
    go_wp2_with (first | ((with_reducible refine gate_dst (N := 4) rfl ?_); refine Kd.R_lit Kd.string _ 9 ?hg (N := 4) ?hd (xs := ([] : List ByteArray)) (inner := []) (ok := fun _ => True) (okp := fun _ => True) ?hr ?hp (fun _ hk => hk) trivial (Below.refl _ _) (Nat.le_refl _) (by simp) ?_; (case hd => rfl); (case hg => rfl); (case hr => first | (go_simp; done) | (go_simp; rfl)); (case hp => exact (Reps.none _ _)); intro v137 w3 ho4 hb hg_ hnew_; clear hg_ hnew_; (first | rw [← Ny136.out] at ho4 | (simp only [Int.reduceToNat] at ho4; rw [← Ny136.out] at ho4)); have n0_ := Aside0.mk (Kd.R_lower ho4 (below_size (by repeat (first | (with_reducible first | exact HB.out | apply below_alloc | apply pw_below_drewN | apply below_drew1) | exact HB.out)))); have n1_ := Aside0.mk (below_step (by repeat (first | (with_reducible first | exact HB.out | apply below_alloc | apply pw_below_drewN | apply below_drew1) | exact HB.out)) hb); clear HB; have HO138 := n0_; have HB := n1_; clear n0_ n1_; clear hb ho4) | ((with_reducible refine gate_builtin (b := .append) (xs := #[.tmp 5, .tmp 6]) rfl ?_); at_builtin; refine Kd.R_append_rows Kd.string (w0 := w) w.heap.size rfl (.tmp 5) (.tmp 6) 26 9 (.string ⟨#[]⟩) 16 rfl Try.underlying26 info9 rfl (by decide) (by omega) v137 y136 l0 _ _ _ (fun _ => True) (fun _ => False) rfl rfl ?aO ?aR (fun _ _ h => h) (fun _ h => h.elim) ?aF ?aB ?aS ?aL ?_; (case aR => repeat (first | exact (Kd.C_below HR0.out HB.out) | (with_reducible refine Kd.C_alloc ?_ _) | (with_reducible refine Kd.C_drewN ?_ _) | (with_reducible refine Kd.C_drew ?_))); (case aB => exact (by repeat (first | (with_reducible first | exact HB.out | apply below_alloc | apply pw_below_drewN | apply below_drew1) | exact HB.out))); (case aF => exact (fun _ _ => trivial)); (case aO => exact (by (with_reducible repeat (first | apply Kd.R_alloc | apply Kd.R_drewN | apply Kd.R_drew)); exact HO138.out)); (case aS => exact (below_size (by repeat (first | (with_reducible first | exact HB.out | apply below_alloc | apply pw_below_drewN | apply below_drew1) | exact HB.out)))); (case aL => have := LMc2.out; omega); intro v140 w5 ho hb hg hat; rw [← Ny139.out] at ho; have n0_ := Aside0.mk (hb); have n1_ := Aside0.mk (ho); clear HB; clear HO138; have HB := n0_; have HO141 := n1_; clear n0_ n1_; clear ho hb hg hat))
    go_ret
    exact ⟨_, by first | rfl | (simp [errW_none, errW_some] <;> rfl) | (simp [*, errW_none, errW_some] <;> rfl), by (with_reducible repeat (first | apply Kd.R_alloc | apply Kd.R_drewN | apply Kd.R_drew)); exact HO141.out, by repeat (first | (with_reducible first | exact HB.out | apply below_alloc | apply pw_below_drewN | apply below_drew1) | exact HB.out)⟩
  · rw [if_neg c2] at H
    exact absurd H (by simp)
end Go.Proofs.Ytnojcnmnkkgkgaa.Q
end
section
namespace Go.Proofs.Ytnojcnmnkkgkgaa.Q
open Go.RowKit Go.Proofs.YtnojcnmnkkgkgaaW.PrintWords Go.Proofs.YtnojcnmnkkgkgaaW.PrintLast Go.Proofs.YtnojcnmnkkgkgaaW.PrintMore
attribute [local go_sem] max2_int min2_int max_two min_two max_three min_three max_four min_four
set_option linter.unusedVariables false
set_option linter.unusedSimpArgs false
def interlockref00_CopyStmt.f (a0_0 : Int) (a0_1 : ByteArray) (a0_2 : ByteArray) (a0_3 : ByteArray) (a0_4 : Int) (a0_5 : Bool) (l0_6 : List (S60)) (l0_7 : List (S62)) (l0_8 : List (S64)) (l0_9 : List (S66)) (l0_10 : List ByteArray) : Option (Int × ByteArray × ByteArray × ByteArray × Int × Bool × (List (S60)) × (List (S62)) × (List (S64)) × (List (S66)) × List ByteArray) := (interlockref00_CopyRow.f l0_6).bind fun t145 => ((some (([] : List (S62)) : List (S62))).bind fun y148 => (if y148.length + l0_7.length < 2932031007402 then ((interlockref00_CopyConds.f l0_8).bind fun t154 => ((some (([] : List (S66)) : List (S66))).bind fun y157 => (if y157.length + l0_9.length < 4398046511104 then ((interlockref00_CopyTexts.f l0_10).bind fun t163 => (some (a0_0, a0_1, a0_2, a0_3, a0_4, a0_5, t145, (y148 ++ l0_7), t154, (y157 ++ l0_9), t163))) else (none)))) else (none)))
set_option maxHeartbeats 8000000 in
set_option maxRecDepth 100000 in
theorem interlockref00_CopyStmt.calls (a0_0 : Int) (a0_1 : ByteArray) (a0_2 : ByteArray) (a0_3 : ByteArray) (a0_4 : Int) (a0_5 : Bool) (A0_6 : Option Addr) (c0_6 : Nat) (l0_6 : List (S60)) (A0_7 : Option Addr) (c0_7 : Nat) (l0_7 : List (S62)) (A0_8 : Option Addr) (c0_8 : Nat) (l0_8 : List (S64)) (A0_9 : Option Addr) (c0_9 : Nat) (l0_9 : List (S66)) (A0_10 : Option Addr) (c0_10 : Nat) (l0_10 : List ByteArray) (r1 : Int) (r2 : ByteArray) (r3 : ByteArray) (r4 : ByteArray) (r5 : Int) (r6 : Bool) (r7 : List (S60)) (r8 : List (S62)) (r9 : List (S64)) (r10 : List (S66)) (r11 : List ByteArray) (w : World) (hr0_6 : Kd.C k60 w A0_6 l0_6.length l0_6) (hc0_6 : l0_6.length ≤ c0_6) (hr0_7 : Kd.C k62 w A0_7 l0_7.length l0_7) (hc0_7 : l0_7.length ≤ c0_7) (hr0_8 : Kd.C k64 w A0_8 l0_8.length l0_8) (hc0_8 : l0_8.length ≤ c0_8) (hr0_9 : Kd.C k66 w A0_9 l0_9.length l0_9) (hc0_9 : l0_9.length ≤ c0_9) (hr0_10 : Kd.C Kd.string w A0_10 l0_10.length l0_10) (hc0_10 : l0_10.length ≤ c0_10) (h : interlockref00_CopyStmt.f a0_0 a0_1 a0_2 a0_3 a0_4 a0_5 l0_6 l0_7 l0_8 l0_9 l0_10 = some (r1, r2, r3, r4, r5, r6, r7, r8, r9, r10, r11)) :
    Calls Try.prog 14 #[.agg #[.int .i64 a0_0, .string a0_1, .string a0_2, .string a0_3, .int .i64 a0_4, .bool a0_5, .slice A0_6 l0_6.length c0_6, .slice A0_7 l0_7.length c0_7, .slice A0_8 l0_8.length c0_8, .slice A0_9 l0_9.length c0_9, .slice A0_10 l0_10.length c0_10]] w fun e w' => ∃ v6_ v7_ v8_ v9_ v10_ : Value, e = .returned (.agg #[.int .i64 r1, .string r2, .string r3, .string r4, .int .i64 r5, .bool r6, v6_, v7_, v8_, v9_, v10_]) ∧ Kd.R k60 60 w' w.heap.size (fun _ => True) v6_ r7 ∧ Kd.R k62 62 w' w.heap.size (fun _ => True) v7_ r8 ∧ Kd.R k64 64 w' w.heap.size (fun _ => True) v8_ r9 ∧ Kd.R k66 66 w' w.heap.size (fun _ => True) v9_ r10 ∧ Kd.R Kd.string 9 w' w.heap.size (fun _ => True) v10_ r11 ∧ Below w.heap.size w w' := by
  have hu28 := Try.underlying28
  have HR0_6 := Aside0.mk hr0_6
  have HC0_6 := Aside0.mk hc0_6
  clear hr0_6 hc0_6
  have HR0_7 := Aside0.mk hr0_7
  have HC0_7 := Aside0.mk hc0_7
  clear hr0_7 hc0_7
  have HR0_8 := Aside0.mk hr0_8
  have HC0_8 := Aside0.mk hc0_8
  clear hr0_8 hc0_8
  have HR0_9 := Aside0.mk hr0_9
  have HC0_9 := Aside0.mk hc0_9
  clear hr0_9 hc0_9
  have HR0_10 := Aside0.mk hr0_10
  have HC0_10 := Aside0.mk hc0_10
  clear hr0_10 hc0_10
  have HB := Aside0.mk (Below.refl w.heap.size w)
  have H : ((interlockref00_CopyRow.f l0_6).bind fun t145 => ((some (([] : List (S62)) : List (S62))).bind fun y148 => (if y148.length + l0_7.length < 2932031007402 then ((interlockref00_CopyConds.f l0_8).bind fun t154 => ((some (([] : List (S66)) : List (S66))).bind fun y157 => (if y157.length + l0_9.length < 4398046511104 then ((interlockref00_CopyTexts.f l0_10).bind fun t163 => (some (a0_0, a0_1, a0_2, a0_3, a0_4, a0_5, t145, (y148 ++ l0_7), t154, (y157 ++ l0_9), t163))) else (none)))) else (none)))) = some (r1, r2, r3, r4, r5, r6, r7, r8, r9, r10, r11) := h
  clear h
  replace H := Option.bind_eq_some_iff.mp H
  obtain ⟨t145, A20, H⟩ := H
  replace H : ((some (([] : List (S62)) : List (S62))).bind fun y148 => (if y148.length + l0_7.length < 2932031007402 then ((interlockref00_CopyConds.f l0_8).bind fun t154 => ((some (([] : List (S66)) : List (S66))).bind fun y157 => (if y157.length + l0_9.length < 4398046511104 then ((interlockref00_CopyTexts.f l0_10).bind fun t163 => (some (a0_0, a0_1, a0_2, a0_3, a0_4, a0_5, t145, (y148 ++ l0_7), t154, (y157 ++ l0_9), t163))) else (none)))) else (none))) = some (r1, r2, r3, r4, r5, r6, r7, r8, r9, r10, r11) := H
  have A2 := Aside0.mk A20
  clear A20
  obtain ⟨y148, hy148⟩ : ∃ y_ : List (S62), y_ = (([] : List (S62))) := ⟨_, rfl⟩
  replace H : (if y148.length + l0_7.length < 2932031007402 then ((interlockref00_CopyConds.f l0_8).bind fun t154 => ((some (([] : List (S66)) : List (S66))).bind fun y157 => (if y157.length + l0_9.length < 4398046511104 then ((interlockref00_CopyTexts.f l0_10).bind fun t163 => (some (a0_0, a0_1, a0_2, a0_3, a0_4, a0_5, t145, (y148 ++ l0_7), t154, (y157 ++ l0_9), t163))) else (none)))) else (none)) = some (r1, r2, r3, r4, r5, r6, r7, r8, r9, r10, r11) := by first | (rw [hy148]; with_reducible exact H) | (have H2_ := (Option.bind_some _ _).symm.trans H; rw [hy148]; with_reducible exact H2_) | (have H2_ := (Option.bind_some _ _).symm.trans H; with_reducible exact H2_) | with_reducible exact H | (rw [hy148]; exact H) | exact H
  have Ny148 := Aside0.mk hy148
  clear hy148
  by_cases c3 : y148.length + l0_7.length < 2932031007402
  · rw [if_pos c3] at H
    have LMc3 := Aside0.mk c3
    clear c3
    obtain ⟨y151, hy151⟩ : ∃ y_ : List (S62), y_ = (y148 ++ l0_7) := ⟨_, rfl⟩
    replace H : ((interlockref00_CopyConds.f l0_8).bind fun t154 => ((some (([] : List (S66)) : List (S66))).bind fun y157 => (if y157.length + l0_9.length < 4398046511104 then ((interlockref00_CopyTexts.f l0_10).bind fun t163 => (some (a0_0, a0_1, a0_2, a0_3, a0_4, a0_5, t145, y151, t154, (y157 ++ l0_9), t163))) else (none)))) = some (r1, r2, r3, r4, r5, r6, r7, r8, r9, r10, r11) := by first | (rw [hy151]; with_reducible exact H) | (have H2_ := (Option.bind_some _ _).symm.trans H; rw [hy151]; with_reducible exact H2_) | (have H2_ := (Option.bind_some _ _).symm.trans H; with_reducible exact H2_) | with_reducible exact H | (rw [hy151]; exact H) | exact H
    have Ny151 := Aside0.mk hy151
    clear hy151
    replace H := Option.bind_eq_some_iff.mp H
    obtain ⟨t154, A40, H⟩ := H
    replace H : ((some (([] : List (S66)) : List (S66))).bind fun y157 => (if y157.length + l0_9.length < 4398046511104 then ((interlockref00_CopyTexts.f l0_10).bind fun t163 => (some (a0_0, a0_1, a0_2, a0_3, a0_4, a0_5, t145, y151, t154, (y157 ++ l0_9), t163))) else (none))) = some (r1, r2, r3, r4, r5, r6, r7, r8, r9, r10, r11) := H
    have A4 := Aside0.mk A40
    clear A40
    obtain ⟨y157, hy157⟩ : ∃ y_ : List (S66), y_ = (([] : List (S66))) := ⟨_, rfl⟩
    replace H : (if y157.length + l0_9.length < 4398046511104 then ((interlockref00_CopyTexts.f l0_10).bind fun t163 => (some (a0_0, a0_1, a0_2, a0_3, a0_4, a0_5, t145, y151, t154, (y157 ++ l0_9), t163))) else (none)) = some (r1, r2, r3, r4, r5, r6, r7, r8, r9, r10, r11) := by first | (rw [hy157]; with_reducible exact H) | (have H2_ := (Option.bind_some _ _).symm.trans H; rw [hy157]; with_reducible exact H2_) | (have H2_ := (Option.bind_some _ _).symm.trans H; with_reducible exact H2_) | with_reducible exact H | (rw [hy157]; exact H) | exact H
    have Ny157 := Aside0.mk hy157
    clear hy157
    by_cases c5 : y157.length + l0_9.length < 4398046511104
    · rw [if_pos c5] at H
      have LMc5 := Aside0.mk c5
      clear c5
      obtain ⟨y160, hy160⟩ : ∃ y_ : List (S66), y_ = (y157 ++ l0_9) := ⟨_, rfl⟩
      replace H : ((interlockref00_CopyTexts.f l0_10).bind fun t163 => (some (a0_0, a0_1, a0_2, a0_3, a0_4, a0_5, t145, y151, t154, y160, t163))) = some (r1, r2, r3, r4, r5, r6, r7, r8, r9, r10, r11) := by first | (rw [hy160]; with_reducible exact H) | (have H2_ := (Option.bind_some _ _).symm.trans H; rw [hy160]; with_reducible exact H2_) | (have H2_ := (Option.bind_some _ _).symm.trans H; with_reducible exact H2_) | with_reducible exact H | (rw [hy160]; exact H) | exact H
      have Ny160 := Aside0.mk hy160
      clear hy160
      replace H := Option.bind_eq_some_iff.mp H
      obtain ⟨t163, A60, H⟩ := H
      replace H : (some (a0_0, a0_1, a0_2, a0_3, a0_4, a0_5, t145, y151, t154, y160, t163)) = some (r1, r2, r3, r4, r5, r6, r7, r8, r9, r10, r11) := H
      have A6 := Aside0.mk A60
      clear A60
      simp only [Option.some.injEq, Prod.mk.injEq] at H
      obtain ⟨rfl, rfl, rfl, rfl, rfl, rfl, rfl, rfl, rfl, rfl, rfl⟩ := H
      go_enter Try.func14, Try.ntmps14
      go_wp2_with (first | ((with_reducible refine gate_dst (N := 1) rfl ?_); refine box_event ?hg (N := 1) ?hd (cs := #[.int .i64 a0_0, .string a0_1, .string a0_2, .string a0_3, .int .i64 a0_4, .bool a0_5, .slice A0_6 l0_6.length c0_6, .slice A0_7 l0_7.length c0_7, .slice A0_8 l0_8.length c0_8, .slice A0_9 l0_9.length c0_9, .slice A0_10 l0_10.length c0_10]) (t := 28) ?hr ?_; (case hd => rfl); (case hg => rfl); (case hr => first | (go_simp; done) | (go_simp; rfl)); intro gb142 hg w7 hbox hb; have n0_ := Aside0.mk (below_step (by repeat (first | (with_reducible first | exact HB.out | apply below_alloc | apply pw_below_drewN | apply below_drew1) | exact HB.out)) hb); have n1_ := Aside0.mk (hbox); have n2_ := Aside0.mk ((by rw [hg]; exact (below_size (by repeat (first | (with_reducible first | exact HB.out | apply below_alloc | apply pw_below_drewN | apply below_drew1) | exact HB.out))) : w.heap.size ≤ gb142)); have n3_ := Aside0.mk ((by rw [hg]; exact (below_size (by repeat (first | (with_reducible first | exact HB.out | apply below_alloc | apply pw_below_drewN | apply below_drew1) | exact HB.out))) : w.heap.size ≤ gb142)); clear HB; have HB := n0_; have BK142 := n1_; have GW142 := n2_; have GE142 := n3_; clear n0_ n1_ n2_ n3_; clear hb hbox hg) | ((with_reducible refine gate_dst (N := 2) rfl ?_); refine box_event ?hg (N := 2) ?hd (cs := #[.int .i64 0, .string (⟨#[]⟩ : ByteArray), .string (⟨#[]⟩ : ByteArray), .string (⟨#[]⟩ : ByteArray), .int .i64 0, .bool false, .slice none 0 0, .slice none 0 0, .slice none 0 0, .slice none 0 0, .slice none 0 0]) (t := 28) ?hr ?_; (case hd => rfl); (case hg => rfl); (case hr => first | (go_simp; done) | (go_simp; rfl)); intro gb143 hg w8 hbox hb; have n0_ := Aside0.mk (blk_below (g := gb142) (o := .cells #[.int .i64 a0_0, .string a0_1, .string a0_2, .string a0_3, .int .i64 a0_4, .bool a0_5, .slice A0_6 l0_6.length c0_6, .slice A0_7 l0_7.length c0_7, .slice A0_8 l0_8.length c0_8, .slice A0_9 l0_9.length c0_9, .slice A0_10 l0_10.length c0_10] 28 (0, 0)) (by (with_reducible repeat (first | refine blk_drewN ?_ _ | refine blk_drew ?_ | refine blk_alloc ?_ _)); exact BK142.out) hb); have n1_ := Aside0.mk (below_step (by repeat (first | (with_reducible first | exact HB.out | apply below_alloc | apply pw_below_drewN | apply below_drew1 | refine below_set ?_ GE142.out) | exact HB.out)) hb); have n2_ := Aside0.mk (hbox); have n3_ := Aside0.mk ((by rw [hg]; exact (below_size (by repeat (first | (with_reducible first | exact HB.out | apply below_alloc | apply pw_below_drewN | apply below_drew1 | refine below_set ?_ GE142.out) | exact HB.out))) : w.heap.size ≤ gb143)); have n4_ := Aside0.mk ((by rw [hg]; exact (below_size (by repeat (first | (with_reducible first | exact HB.out | apply below_alloc | apply pw_below_drewN | apply below_drew1 | refine below_set ?_ GE142.out) | exact HB.out))) : w.heap.size ≤ gb143)); have n5_ := Aside0.mk ((by rw [hg]; exact Nat.ne_of_lt (blk_lt (g := gb142) (o := .cells #[.int .i64 a0_0, .string a0_1, .string a0_2, .string a0_3, .int .i64 a0_4, .bool a0_5, .slice A0_6 l0_6.length c0_6, .slice A0_7 l0_7.length c0_7, .slice A0_8 l0_8.length c0_8, .slice A0_9 l0_9.length c0_9, .slice A0_10 l0_10.length c0_10] 28 (0, 0)) (by (with_reducible repeat (first | refine blk_drewN ?_ _ | refine blk_drew ?_ | refine blk_alloc ?_ _)); exact BK142.out)) : gb142 ≠ gb143)); have n6_ := Aside0.mk ((by rw [hg]; exact Nat.ne_of_gt (blk_lt (g := gb142) (o := .cells #[.int .i64 a0_0, .string a0_1, .string a0_2, .string a0_3, .int .i64 a0_4, .bool a0_5, .slice A0_6 l0_6.length c0_6, .slice A0_7 l0_7.length c0_7, .slice A0_8 l0_8.length c0_8, .slice A0_9 l0_9.length c0_9, .slice A0_10 l0_10.length c0_10] 28 (0, 0)) (by (with_reducible repeat (first | refine blk_drewN ?_ _ | refine blk_drew ?_ | refine blk_alloc ?_ _)); exact BK142.out)) : gb143 ≠ gb142)); clear BK142; clear HB; have BK142 := n0_; have HB := n1_; have BK143 := n2_; have GW143 := n3_; have GE143 := n4_; have NB142_143 := n5_; have NB143_142 := n6_; clear n0_ n1_ n2_ n3_ n4_ n5_ n6_; clear hb hbox hg; have hnb9 := NB142_143.out; have hnc9 := NB143_142.out; have hcz10_0 : w8.cell? ⟨gb142, 0, none⟩ = some (.int .i64 a0_0) := (blk_cell BK142.out 0).trans rfl; have hcz10_1 : w8.cell? ⟨gb142, 1, none⟩ = some (.string a0_1) := (blk_cell BK142.out 1).trans rfl; have hcz10_2 : w8.cell? ⟨gb142, 2, none⟩ = some (.string a0_2) := (blk_cell BK142.out 2).trans rfl; have hcz10_3 : w8.cell? ⟨gb142, 3, none⟩ = some (.string a0_3) := (blk_cell BK142.out 3).trans rfl; have hcz10_4 : w8.cell? ⟨gb142, 4, none⟩ = some (.int .i64 a0_4) := (blk_cell BK142.out 4).trans rfl; have hcz10_5 : w8.cell? ⟨gb142, 5, none⟩ = some (.bool a0_5) := (blk_cell BK142.out 5).trans rfl; have hcz10_6 : w8.cell? ⟨gb142, 6, none⟩ = some (.slice A0_6 l0_6.length c0_6) := (blk_cell BK142.out 6).trans rfl; have hcz10_7 : w8.cell? ⟨gb142, 7, none⟩ = some (.slice A0_7 l0_7.length c0_7) := (blk_cell BK142.out 7).trans rfl; have hcz10_8 : w8.cell? ⟨gb142, 8, none⟩ = some (.slice A0_8 l0_8.length c0_8) := (blk_cell BK142.out 8).trans rfl; have hcz10_9 : w8.cell? ⟨gb142, 9, none⟩ = some (.slice A0_9 l0_9.length c0_9) := (blk_cell BK142.out 9).trans rfl; have hcz10_10 : w8.cell? ⟨gb142, 10, none⟩ = some (.slice A0_10 l0_10.length c0_10) := (blk_cell BK142.out 10).trans rfl; have hfz10_0 := blk_frozen BK142.out 0; have hfz10_1 := blk_frozen BK142.out 1; have hfz10_2 := blk_frozen BK142.out 2; have hfz10_3 := blk_frozen BK142.out 3; have hfz10_4 := blk_frozen BK142.out 4; have hfz10_5 := blk_frozen BK142.out 5; have hfz10_6 := blk_frozen BK142.out 6; have hfz10_7 := blk_frozen BK142.out 7; have hfz10_8 := blk_frozen BK142.out 8; have hfz10_9 := blk_frozen BK142.out 9; have hfz10_10 := blk_frozen BK142.out 10) | ((with_reducible refine gate_dst (N := 3) rfl ?_); refine box_event ?hg (N := 3) ?hd (cs := #[.int .i64 0, .string (⟨#[]⟩ : ByteArray), .string (⟨#[]⟩ : ByteArray), .string (⟨#[]⟩ : ByteArray), .int .i64 0, .bool false, .slice none 0 0, .slice none 0 0, .slice none 0 0, .slice none 0 0, .slice none 0 0]) (t := 28) ?hr ?_; (case hd => rfl); (case hg => rfl); (case hr => first | (go_simp; done) | (go_simp; rfl)); intro gb144 hg w11 hbox hb; have n0_ := Aside0.mk (blk_below (g := gb142) (o := .cells #[.int .i64 a0_0, .string a0_1, .string a0_2, .string a0_3, .int .i64 a0_4, .bool a0_5, .slice A0_6 l0_6.length c0_6, .slice A0_7 l0_7.length c0_7, .slice A0_8 l0_8.length c0_8, .slice A0_9 l0_9.length c0_9, .slice A0_10 l0_10.length c0_10] 28 (0, 0)) (by (with_reducible repeat (first | refine blk_drewN ?_ _ | refine blk_drew ?_ | refine blk_alloc ?_ _)); exact BK142.out) hb); have n1_ := Aside0.mk (blk_below (g := gb143) (o := .cells #[.int .i64 0, .string (⟨#[]⟩ : ByteArray), .string (⟨#[]⟩ : ByteArray), .string (⟨#[]⟩ : ByteArray), .int .i64 0, .bool false, .slice none 0 0, .slice none 0 0, .slice none 0 0, .slice none 0 0, .slice none 0 0] 28 (0, 0)) (by (with_reducible repeat (first | refine blk_drewN ?_ _ | refine blk_drew ?_ | refine blk_alloc ?_ _)); exact BK143.out) hb); have n2_ := Aside0.mk (below_step (by repeat (first | (with_reducible first | exact HB.out | apply below_alloc | apply pw_below_drewN | apply below_drew1 | refine below_set ?_ GE142.out | refine below_set ?_ GE143.out) | exact HB.out)) hb); have n3_ := Aside0.mk (hbox); have n4_ := Aside0.mk ((by rw [hg]; exact (below_size (by repeat (first | (with_reducible first | exact HB.out | apply below_alloc | apply pw_below_drewN | apply below_drew1 | refine below_set ?_ GE142.out | refine below_set ?_ GE143.out) | exact HB.out))) : w.heap.size ≤ gb144)); have n5_ := Aside0.mk ((by rw [hg]; exact (below_size (by repeat (first | (with_reducible first | exact HB.out | apply below_alloc | apply pw_below_drewN | apply below_drew1 | refine below_set ?_ GE142.out | refine below_set ?_ GE143.out) | exact HB.out))) : w.heap.size ≤ gb144)); have n6_ := Aside0.mk ((by rw [hg]; exact Nat.ne_of_lt (blk_lt (g := gb142) (o := .cells #[.int .i64 a0_0, .string a0_1, .string a0_2, .string a0_3, .int .i64 a0_4, .bool a0_5, .slice A0_6 l0_6.length c0_6, .slice A0_7 l0_7.length c0_7, .slice A0_8 l0_8.length c0_8, .slice A0_9 l0_9.length c0_9, .slice A0_10 l0_10.length c0_10] 28 (0, 0)) (by (with_reducible repeat (first | refine blk_drewN ?_ _ | refine blk_drew ?_ | refine blk_alloc ?_ _)); exact BK142.out)) : gb142 ≠ gb144)); have n7_ := Aside0.mk ((by rw [hg]; exact Nat.ne_of_gt (blk_lt (g := gb142) (o := .cells #[.int .i64 a0_0, .string a0_1, .string a0_2, .string a0_3, .int .i64 a0_4, .bool a0_5, .slice A0_6 l0_6.length c0_6, .slice A0_7 l0_7.length c0_7, .slice A0_8 l0_8.length c0_8, .slice A0_9 l0_9.length c0_9, .slice A0_10 l0_10.length c0_10] 28 (0, 0)) (by (with_reducible repeat (first | refine blk_drewN ?_ _ | refine blk_drew ?_ | refine blk_alloc ?_ _)); exact BK142.out)) : gb144 ≠ gb142)); have n8_ := Aside0.mk ((by rw [hg]; exact Nat.ne_of_lt (blk_lt (g := gb143) (o := .cells #[.int .i64 0, .string (⟨#[]⟩ : ByteArray), .string (⟨#[]⟩ : ByteArray), .string (⟨#[]⟩ : ByteArray), .int .i64 0, .bool false, .slice none 0 0, .slice none 0 0, .slice none 0 0, .slice none 0 0, .slice none 0 0] 28 (0, 0)) (by (with_reducible repeat (first | refine blk_drewN ?_ _ | refine blk_drew ?_ | refine blk_alloc ?_ _)); exact BK143.out)) : gb143 ≠ gb144)); have n9_ := Aside0.mk ((by rw [hg]; exact Nat.ne_of_gt (blk_lt (g := gb143) (o := .cells #[.int .i64 0, .string (⟨#[]⟩ : ByteArray), .string (⟨#[]⟩ : ByteArray), .string (⟨#[]⟩ : ByteArray), .int .i64 0, .bool false, .slice none 0 0, .slice none 0 0, .slice none 0 0, .slice none 0 0, .slice none 0 0] 28 (0, 0)) (by (with_reducible repeat (first | refine blk_drewN ?_ _ | refine blk_drew ?_ | refine blk_alloc ?_ _)); exact BK143.out)) : gb144 ≠ gb143)); clear BK142; clear BK143; clear HB; have BK142 := n0_; have BK143 := n1_; have HB := n2_; have BK144 := n3_; have GW144 := n4_; have GE144 := n5_; have NB142_144 := n6_; have NB144_142 := n7_; have NB143_144 := n8_; have NB144_143 := n9_; clear n0_ n1_ n2_ n3_ n4_ n5_ n6_ n7_ n8_ n9_; clear hb hbox hg; have hnb12 := NB144_142.out; have hnc12 := NB142_144.out; have hnb13 := NB144_143.out; have hnc13 := NB143_144.out; have hcz14_0 : w11.cell? ⟨gb144, 0, none⟩ = some (.int .i64 0) := (blk_cell BK144.out 0).trans rfl; have hcz14_1 : w11.cell? ⟨gb144, 1, none⟩ = some (.string (⟨#[]⟩ : ByteArray)) := (blk_cell BK144.out 1).trans rfl; have hcz14_2 : w11.cell? ⟨gb144, 2, none⟩ = some (.string (⟨#[]⟩ : ByteArray)) := (blk_cell BK144.out 2).trans rfl; have hcz14_3 : w11.cell? ⟨gb144, 3, none⟩ = some (.string (⟨#[]⟩ : ByteArray)) := (blk_cell BK144.out 3).trans rfl; have hcz14_4 : w11.cell? ⟨gb144, 4, none⟩ = some (.int .i64 0) := (blk_cell BK144.out 4).trans rfl; have hcz14_5 : w11.cell? ⟨gb144, 5, none⟩ = some (.bool false) := (blk_cell BK144.out 5).trans rfl; have hcz14_6 : w11.cell? ⟨gb144, 6, none⟩ = some (.slice none 0 0) := (blk_cell BK144.out 6).trans rfl; have hcz14_7 : w11.cell? ⟨gb144, 7, none⟩ = some (.slice none 0 0) := (blk_cell BK144.out 7).trans rfl; have hcz14_8 : w11.cell? ⟨gb144, 8, none⟩ = some (.slice none 0 0) := (blk_cell BK144.out 8).trans rfl; have hcz14_9 : w11.cell? ⟨gb144, 9, none⟩ = some (.slice none 0 0) := (blk_cell BK144.out 9).trans rfl; have hcz14_10 : w11.cell? ⟨gb144, 10, none⟩ = some (.slice none 0 0) := (blk_cell BK144.out 10).trans rfl; have hfz14_0 := blk_frozen BK144.out 0; have hfz14_1 := blk_frozen BK144.out 1; have hfz14_2 := blk_frozen BK144.out 2; have hfz14_3 := blk_frozen BK144.out 3; have hfz14_4 := blk_frozen BK144.out 4; have hfz14_5 := blk_frozen BK144.out 5; have hfz14_6 := blk_frozen BK144.out 6; have hfz14_7 := blk_frozen BK144.out 7; have hfz14_8 := blk_frozen BK144.out 8; have hfz14_9 := blk_frozen BK144.out 9; have hfz14_10 := blk_frozen BK144.out 10; have hcz15_0 : w11.cell? ⟨gb142, 0, none⟩ = some (.int .i64 a0_0) := (blk_cell BK142.out 0).trans rfl; have hcz15_1 : w11.cell? ⟨gb142, 1, none⟩ = some (.string a0_1) := (blk_cell BK142.out 1).trans rfl; have hcz15_2 : w11.cell? ⟨gb142, 2, none⟩ = some (.string a0_2) := (blk_cell BK142.out 2).trans rfl; have hcz15_3 : w11.cell? ⟨gb142, 3, none⟩ = some (.string a0_3) := (blk_cell BK142.out 3).trans rfl; have hcz15_4 : w11.cell? ⟨gb142, 4, none⟩ = some (.int .i64 a0_4) := (blk_cell BK142.out 4).trans rfl; have hcz15_5 : w11.cell? ⟨gb142, 5, none⟩ = some (.bool a0_5) := (blk_cell BK142.out 5).trans rfl; have hcz15_6 : w11.cell? ⟨gb142, 6, none⟩ = some (.slice A0_6 l0_6.length c0_6) := (blk_cell BK142.out 6).trans rfl; have hcz15_7 : w11.cell? ⟨gb142, 7, none⟩ = some (.slice A0_7 l0_7.length c0_7) := (blk_cell BK142.out 7).trans rfl; have hcz15_8 : w11.cell? ⟨gb142, 8, none⟩ = some (.slice A0_8 l0_8.length c0_8) := (blk_cell BK142.out 8).trans rfl; have hcz15_9 : w11.cell? ⟨gb142, 9, none⟩ = some (.slice A0_9 l0_9.length c0_9) := (blk_cell BK142.out 9).trans rfl; have hcz15_10 : w11.cell? ⟨gb142, 10, none⟩ = some (.slice A0_10 l0_10.length c0_10) := (blk_cell BK142.out 10).trans rfl; have hfz15_0 := blk_frozen BK142.out 0; have hfz15_1 := blk_frozen BK142.out 1; have hfz15_2 := blk_frozen BK142.out 2; have hfz15_3 := blk_frozen BK142.out 3; have hfz15_4 := blk_frozen BK142.out 4; have hfz15_5 := blk_frozen BK142.out 5; have hfz15_6 := blk_frozen BK142.out 6; have hfz15_7 := blk_frozen BK142.out 7; have hfz15_8 := blk_frozen BK142.out 8; have hfz15_9 := blk_frozen BK142.out 9; have hfz15_10 := blk_frozen BK142.out 10) | ((with_reducible refine gate_callee (f := 15) rfl ?_); refine goesL_ (some 7) rfl rfl Try.func15 (by kernel_rfl) rfl #[.slice A0_6 l0_6.length c0_6] rfl (by (try simp only [List.map_toArray, List.map_cons, List.map_nil]); first | done | rfl | (simp only [List.length_drop, List.length_take]; rfl)) ?_; (with_reducible refine (interlockref00_CopyRow.calls _ _ l0_6 t145 _ ?side1 ?side2 A2.out).mono ?_); (case side1 => exact Kd.C_below HR0_6.out (by repeat (first | (with_reducible first | exact HB.out | apply below_alloc | apply pw_below_drewN | apply below_drew1 | refine below_set ?_ GE142.out | refine below_set ?_ GE143.out | refine below_set ?_ GE144.out) | exact HB.out))); (case side2 => exact HC0_6.out); rintro e w16 ⟨v146, rfl, ho0, hb⟩; refine ⟨_, rfl, ?_⟩; have n0_ := Aside0.mk (Kd.R_lower ho0 (below_size (by repeat (first | (with_reducible first | exact HB.out | apply below_alloc | apply pw_below_drewN | apply below_drew1 | refine below_set ?_ GE142.out | refine below_set ?_ GE143.out | refine below_set ?_ GE144.out) | exact HB.out)))); have n1_ := Aside0.mk (blk_below (g := gb142) (o := .cells #[.int .i64 a0_0, .string a0_1, .string a0_2, .string a0_3, .int .i64 a0_4, .bool a0_5, .slice A0_6 l0_6.length c0_6, .slice A0_7 l0_7.length c0_7, .slice A0_8 l0_8.length c0_8, .slice A0_9 l0_9.length c0_9, .slice A0_10 l0_10.length c0_10] 28 (0, 0)) (by (with_reducible repeat (first | refine blk_drewN ?_ _ | refine blk_drew ?_ | refine blk_alloc ?_ _)); refine blk_far ?_ NB142_144.out _; (with_reducible repeat (first | refine blk_drewN ?_ _ | refine blk_drew ?_ | refine blk_alloc ?_ _)); refine blk_far ?_ NB142_144.out _; (with_reducible repeat (first | refine blk_drewN ?_ _ | refine blk_drew ?_ | refine blk_alloc ?_ _)); refine blk_far ?_ NB142_144.out _; (with_reducible repeat (first | refine blk_drewN ?_ _ | refine blk_drew ?_ | refine blk_alloc ?_ _)); refine blk_far ?_ NB142_144.out _; (with_reducible repeat (first | refine blk_drewN ?_ _ | refine blk_drew ?_ | refine blk_alloc ?_ _)); refine blk_far ?_ NB142_144.out _; (with_reducible repeat (first | refine blk_drewN ?_ _ | refine blk_drew ?_ | refine blk_alloc ?_ _)); refine blk_far ?_ NB142_144.out _; (with_reducible repeat (first | refine blk_drewN ?_ _ | refine blk_drew ?_ | refine blk_alloc ?_ _)); refine blk_far ?_ NB142_144.out _; (with_reducible repeat (first | refine blk_drewN ?_ _ | refine blk_drew ?_ | refine blk_alloc ?_ _)); refine blk_far ?_ NB142_144.out _; (with_reducible repeat (first | refine blk_drewN ?_ _ | refine blk_drew ?_ | refine blk_alloc ?_ _)); refine blk_far ?_ NB142_144.out _; (with_reducible repeat (first | refine blk_drewN ?_ _ | refine blk_drew ?_ | refine blk_alloc ?_ _)); refine blk_far ?_ NB142_144.out _; (with_reducible repeat (first | refine blk_drewN ?_ _ | refine blk_drew ?_ | refine blk_alloc ?_ _)); refine blk_far ?_ NB142_144.out _; (with_reducible repeat (first | refine blk_drewN ?_ _ | refine blk_drew ?_ | refine blk_alloc ?_ _)); exact BK142.out) hb); have n2_ := Aside0.mk (blk_below (g := gb143) (o := .cells #[.int .i64 0, .string (⟨#[]⟩ : ByteArray), .string (⟨#[]⟩ : ByteArray), .string (⟨#[]⟩ : ByteArray), .int .i64 0, .bool false, .slice none 0 0, .slice none 0 0, .slice none 0 0, .slice none 0 0, .slice none 0 0] 28 (0, 0)) (by (with_reducible repeat (first | refine blk_drewN ?_ _ | refine blk_drew ?_ | refine blk_alloc ?_ _)); refine blk_far ?_ NB143_144.out _; (with_reducible repeat (first | refine blk_drewN ?_ _ | refine blk_drew ?_ | refine blk_alloc ?_ _)); refine blk_far ?_ NB143_144.out _; (with_reducible repeat (first | refine blk_drewN ?_ _ | refine blk_drew ?_ | refine blk_alloc ?_ _)); refine blk_far ?_ NB143_144.out _; (with_reducible repeat (first | refine blk_drewN ?_ _ | refine blk_drew ?_ | refine blk_alloc ?_ _)); refine blk_far ?_ NB143_144.out _; (with_reducible repeat (first | refine blk_drewN ?_ _ | refine blk_drew ?_ | refine blk_alloc ?_ _)); refine blk_far ?_ NB143_144.out _; (with_reducible repeat (first | refine blk_drewN ?_ _ | refine blk_drew ?_ | refine blk_alloc ?_ _)); refine blk_far ?_ NB143_144.out _; (with_reducible repeat (first | refine blk_drewN ?_ _ | refine blk_drew ?_ | refine blk_alloc ?_ _)); refine blk_far ?_ NB143_144.out _; (with_reducible repeat (first | refine blk_drewN ?_ _ | refine blk_drew ?_ | refine blk_alloc ?_ _)); refine blk_far ?_ NB143_144.out _; (with_reducible repeat (first | refine blk_drewN ?_ _ | refine blk_drew ?_ | refine blk_alloc ?_ _)); refine blk_far ?_ NB143_144.out _; (with_reducible repeat (first | refine blk_drewN ?_ _ | refine blk_drew ?_ | refine blk_alloc ?_ _)); refine blk_far ?_ NB143_144.out _; (with_reducible repeat (first | refine blk_drewN ?_ _ | refine blk_drew ?_ | refine blk_alloc ?_ _)); refine blk_far ?_ NB143_144.out _; (with_reducible repeat (first | refine blk_drewN ?_ _ | refine blk_drew ?_ | refine blk_alloc ?_ _)); exact BK143.out) hb); have n3_ := Aside0.mk (blk_below (g := gb144) (o := .cells #[.int .i64 a0_0, .string a0_1, .string a0_2, .string a0_3, .int .i64 a0_4, .bool a0_5, .slice A0_6 l0_6.length c0_6, .slice A0_7 l0_7.length c0_7, .slice A0_8 l0_8.length c0_8, .slice A0_9 l0_9.length c0_9, .slice A0_10 l0_10.length c0_10] 28 (0, 0)) (by (with_reducible repeat (first | refine blk_drewN ?_ _ | refine blk_drew ?_ | refine blk_alloc ?_ _)); refine blk_put (cs := #[.int .i64 a0_0, .string a0_1, .string a0_2, .string a0_3, .int .i64 a0_4, .bool a0_5, .slice A0_6 l0_6.length c0_6, .slice A0_7 l0_7.length c0_7, .slice A0_8 l0_8.length c0_8, .slice A0_9 l0_9.length c0_9, .slice none 0 0]) ?_ 10 _ rfl; (with_reducible repeat (first | refine blk_drewN ?_ _ | refine blk_drew ?_ | refine blk_alloc ?_ _)); refine blk_put (cs := #[.int .i64 a0_0, .string a0_1, .string a0_2, .string a0_3, .int .i64 a0_4, .bool a0_5, .slice A0_6 l0_6.length c0_6, .slice A0_7 l0_7.length c0_7, .slice A0_8 l0_8.length c0_8, .slice none 0 0, .slice none 0 0]) ?_ 9 _ rfl; (with_reducible repeat (first | refine blk_drewN ?_ _ | refine blk_drew ?_ | refine blk_alloc ?_ _)); refine blk_put (cs := #[.int .i64 a0_0, .string a0_1, .string a0_2, .string a0_3, .int .i64 a0_4, .bool a0_5, .slice A0_6 l0_6.length c0_6, .slice A0_7 l0_7.length c0_7, .slice none 0 0, .slice none 0 0, .slice none 0 0]) ?_ 8 _ rfl; (with_reducible repeat (first | refine blk_drewN ?_ _ | refine blk_drew ?_ | refine blk_alloc ?_ _)); refine blk_put (cs := #[.int .i64 a0_0, .string a0_1, .string a0_2, .string a0_3, .int .i64 a0_4, .bool a0_5, .slice A0_6 l0_6.length c0_6, .slice none 0 0, .slice none 0 0, .slice none 0 0, .slice none 0 0]) ?_ 7 _ rfl; (with_reducible repeat (first | refine blk_drewN ?_ _ | refine blk_drew ?_ | refine blk_alloc ?_ _)); refine blk_put (cs := #[.int .i64 a0_0, .string a0_1, .string a0_2, .string a0_3, .int .i64 a0_4, .bool a0_5, .slice none 0 0, .slice none 0 0, .slice none 0 0, .slice none 0 0, .slice none 0 0]) ?_ 6 _ rfl; (with_reducible repeat (first | refine blk_drewN ?_ _ | refine blk_drew ?_ | refine blk_alloc ?_ _)); refine blk_put (cs := #[.int .i64 a0_0, .string a0_1, .string a0_2, .string a0_3, .int .i64 a0_4, .bool false, .slice none 0 0, .slice none 0 0, .slice none 0 0, .slice none 0 0, .slice none 0 0]) ?_ 5 _ rfl; (with_reducible repeat (first | refine blk_drewN ?_ _ | refine blk_drew ?_ | refine blk_alloc ?_ _)); refine blk_put (cs := #[.int .i64 a0_0, .string a0_1, .string a0_2, .string a0_3, .int .i64 0, .bool false, .slice none 0 0, .slice none 0 0, .slice none 0 0, .slice none 0 0, .slice none 0 0]) ?_ 4 _ rfl; (with_reducible repeat (first | refine blk_drewN ?_ _ | refine blk_drew ?_ | refine blk_alloc ?_ _)); refine blk_put (cs := #[.int .i64 a0_0, .string a0_1, .string a0_2, .string (⟨#[]⟩ : ByteArray), .int .i64 0, .bool false, .slice none 0 0, .slice none 0 0, .slice none 0 0, .slice none 0 0, .slice none 0 0]) ?_ 3 _ rfl; (with_reducible repeat (first | refine blk_drewN ?_ _ | refine blk_drew ?_ | refine blk_alloc ?_ _)); refine blk_put (cs := #[.int .i64 a0_0, .string a0_1, .string (⟨#[]⟩ : ByteArray), .string (⟨#[]⟩ : ByteArray), .int .i64 0, .bool false, .slice none 0 0, .slice none 0 0, .slice none 0 0, .slice none 0 0, .slice none 0 0]) ?_ 2 _ rfl; (with_reducible repeat (first | refine blk_drewN ?_ _ | refine blk_drew ?_ | refine blk_alloc ?_ _)); refine blk_put (cs := #[.int .i64 a0_0, .string (⟨#[]⟩ : ByteArray), .string (⟨#[]⟩ : ByteArray), .string (⟨#[]⟩ : ByteArray), .int .i64 0, .bool false, .slice none 0 0, .slice none 0 0, .slice none 0 0, .slice none 0 0, .slice none 0 0]) ?_ 1 _ rfl; (with_reducible repeat (first | refine blk_drewN ?_ _ | refine blk_drew ?_ | refine blk_alloc ?_ _)); refine blk_put (cs := #[.int .i64 0, .string (⟨#[]⟩ : ByteArray), .string (⟨#[]⟩ : ByteArray), .string (⟨#[]⟩ : ByteArray), .int .i64 0, .bool false, .slice none 0 0, .slice none 0 0, .slice none 0 0, .slice none 0 0, .slice none 0 0]) ?_ 0 _ rfl; (with_reducible repeat (first | refine blk_drewN ?_ _ | refine blk_drew ?_ | refine blk_alloc ?_ _)); exact BK144.out) hb); have n4_ := Aside0.mk (below_step (by repeat (first | (with_reducible first | exact HB.out | apply below_alloc | apply pw_below_drewN | apply below_drew1 | refine below_set ?_ GE142.out | refine below_set ?_ GE143.out | refine below_set ?_ GE144.out) | exact HB.out)) hb); clear BK142; clear BK143; clear BK144; clear HB; have HO147 := n0_; have BK142 := n1_; have BK143 := n2_; have BK144 := n3_; have HB := n4_; clear n0_ n1_ n2_ n3_ n4_; (try clear hb); (try clear hb2); (try clear hk); (try clear hi); (try clear ho0); obtain ⟨Ao17, co17, eo17⟩ := Kd.R_slice HO147.out; subst eo17; have hcz18_0 : w16.cell? ⟨gb144, 0, none⟩ = some (.int .i64 a0_0) := (blk_cell BK144.out 0).trans rfl; have hcz18_1 : w16.cell? ⟨gb144, 1, none⟩ = some (.string a0_1) := (blk_cell BK144.out 1).trans rfl; have hcz18_2 : w16.cell? ⟨gb144, 2, none⟩ = some (.string a0_2) := (blk_cell BK144.out 2).trans rfl; have hcz18_3 : w16.cell? ⟨gb144, 3, none⟩ = some (.string a0_3) := (blk_cell BK144.out 3).trans rfl; have hcz18_4 : w16.cell? ⟨gb144, 4, none⟩ = some (.int .i64 a0_4) := (blk_cell BK144.out 4).trans rfl; have hcz18_5 : w16.cell? ⟨gb144, 5, none⟩ = some (.bool a0_5) := (blk_cell BK144.out 5).trans rfl; have hcz18_6 : w16.cell? ⟨gb144, 6, none⟩ = some (.slice A0_6 l0_6.length c0_6) := (blk_cell BK144.out 6).trans rfl; have hcz18_7 : w16.cell? ⟨gb144, 7, none⟩ = some (.slice A0_7 l0_7.length c0_7) := (blk_cell BK144.out 7).trans rfl; have hcz18_8 : w16.cell? ⟨gb144, 8, none⟩ = some (.slice A0_8 l0_8.length c0_8) := (blk_cell BK144.out 8).trans rfl; have hcz18_9 : w16.cell? ⟨gb144, 9, none⟩ = some (.slice A0_9 l0_9.length c0_9) := (blk_cell BK144.out 9).trans rfl; have hcz18_10 : w16.cell? ⟨gb144, 10, none⟩ = some (.slice A0_10 l0_10.length c0_10) := (blk_cell BK144.out 10).trans rfl; have hfz18_0 := blk_frozen BK144.out 0; have hfz18_1 := blk_frozen BK144.out 1; have hfz18_2 := blk_frozen BK144.out 2; have hfz18_3 := blk_frozen BK144.out 3; have hfz18_4 := blk_frozen BK144.out 4; have hfz18_5 := blk_frozen BK144.out 5; have hfz18_6 := blk_frozen BK144.out 6; have hfz18_7 := blk_frozen BK144.out 7; have hfz18_8 := blk_frozen BK144.out 8; have hfz18_9 := blk_frozen BK144.out 9; have hfz18_10 := blk_frozen BK144.out 10) | ((with_reducible refine gate_dst (N := 9) rfl ?_); refine Kd.R_lit k62 _ 62 ?hg (N := 9) ?hd (xs := ([] : List (S62))) (inner := []) (ok := fun _ => True) (okp := fun _ => True) ?hr ?hp (fun _ hk => hk) trivial (Below.refl _ _) (Nat.le_refl _) (by simp) ?_; (case hd => rfl); (case hg => rfl); (case hr => first | (go_simp; done) | (go_simp; rfl)); (case hp => exact (Reps.none _ _)); intro v149 w19 ho20 hb hg_ hnew_; clear hg_ hnew_; (first | rw [← Ny148.out] at ho20 | (simp only [Int.reduceToNat] at ho20; rw [← Ny148.out] at ho20)); have n0_ := Aside0.mk (Kd.R_below (by (with_reducible repeat (first | apply Kd.R_alloc | apply Kd.R_drewN | apply Kd.R_drew)); exact (Kd.R_mono (Kd.R_far (p := ⟨gb144, 6, none⟩) (Kd.R_types HO147.out BK144.out (by decide)) (fun _ hk => hk.2) (.slice Ao17 t145.length co17)) (fun _ h_ => h_.1))) hb); have n1_ := Aside0.mk (Kd.R_lower ho20 (below_size (by repeat (first | (with_reducible first | exact HB.out | apply below_alloc | apply pw_below_drewN | apply below_drew1 | refine below_set ?_ GE142.out | refine below_set ?_ GE143.out | refine below_set ?_ GE144.out) | exact HB.out)))); have n2_ := Aside0.mk (blk_below (g := gb142) (o := .cells #[.int .i64 a0_0, .string a0_1, .string a0_2, .string a0_3, .int .i64 a0_4, .bool a0_5, .slice A0_6 l0_6.length c0_6, .slice A0_7 l0_7.length c0_7, .slice A0_8 l0_8.length c0_8, .slice A0_9 l0_9.length c0_9, .slice A0_10 l0_10.length c0_10] 28 (0, 0)) (by (with_reducible repeat (first | refine blk_drewN ?_ _ | refine blk_drew ?_ | refine blk_alloc ?_ _)); refine blk_far ?_ NB142_144.out _; (with_reducible repeat (first | refine blk_drewN ?_ _ | refine blk_drew ?_ | refine blk_alloc ?_ _)); exact BK142.out) hb); have n3_ := Aside0.mk (blk_below (g := gb143) (o := .cells #[.int .i64 0, .string (⟨#[]⟩ : ByteArray), .string (⟨#[]⟩ : ByteArray), .string (⟨#[]⟩ : ByteArray), .int .i64 0, .bool false, .slice none 0 0, .slice none 0 0, .slice none 0 0, .slice none 0 0, .slice none 0 0] 28 (0, 0)) (by (with_reducible repeat (first | refine blk_drewN ?_ _ | refine blk_drew ?_ | refine blk_alloc ?_ _)); refine blk_far ?_ NB143_144.out _; (with_reducible repeat (first | refine blk_drewN ?_ _ | refine blk_drew ?_ | refine blk_alloc ?_ _)); exact BK143.out) hb); have n4_ := Aside0.mk (blk_below (g := gb144) (o := .cells #[.int .i64 a0_0, .string a0_1, .string a0_2, .string a0_3, .int .i64 a0_4, .bool a0_5, .slice Ao17 t145.length co17, .slice A0_7 l0_7.length c0_7, .slice A0_8 l0_8.length c0_8, .slice A0_9 l0_9.length c0_9, .slice A0_10 l0_10.length c0_10] 28 (0, 0)) (by (with_reducible repeat (first | refine blk_drewN ?_ _ | refine blk_drew ?_ | refine blk_alloc ?_ _)); refine blk_put (cs := #[.int .i64 a0_0, .string a0_1, .string a0_2, .string a0_3, .int .i64 a0_4, .bool a0_5, .slice A0_6 l0_6.length c0_6, .slice A0_7 l0_7.length c0_7, .slice A0_8 l0_8.length c0_8, .slice A0_9 l0_9.length c0_9, .slice A0_10 l0_10.length c0_10]) ?_ 6 _ rfl; (with_reducible repeat (first | refine blk_drewN ?_ _ | refine blk_drew ?_ | refine blk_alloc ?_ _)); exact BK144.out) hb); have n5_ := Aside0.mk (below_step (by repeat (first | (with_reducible first | exact HB.out | apply below_alloc | apply pw_below_drewN | apply below_drew1 | refine below_set ?_ GE142.out | refine below_set ?_ GE143.out | refine below_set ?_ GE144.out) | exact HB.out)) hb); clear HO147; clear BK142; clear BK143; clear BK144; clear HB; have HO147 := n0_; have HO150 := n1_; have BK142 := n2_; have BK143 := n3_; have BK144 := n4_; have HB := n5_; clear n0_ n1_ n2_ n3_ n4_ n5_; clear hb ho20; have hcz21_0 : w19.cell? ⟨gb142, 0, none⟩ = some (.int .i64 a0_0) := (blk_cell BK142.out 0).trans rfl; have hcz21_1 : w19.cell? ⟨gb142, 1, none⟩ = some (.string a0_1) := (blk_cell BK142.out 1).trans rfl; have hcz21_2 : w19.cell? ⟨gb142, 2, none⟩ = some (.string a0_2) := (blk_cell BK142.out 2).trans rfl; have hcz21_3 : w19.cell? ⟨gb142, 3, none⟩ = some (.string a0_3) := (blk_cell BK142.out 3).trans rfl; have hcz21_4 : w19.cell? ⟨gb142, 4, none⟩ = some (.int .i64 a0_4) := (blk_cell BK142.out 4).trans rfl; have hcz21_5 : w19.cell? ⟨gb142, 5, none⟩ = some (.bool a0_5) := (blk_cell BK142.out 5).trans rfl; have hcz21_6 : w19.cell? ⟨gb142, 6, none⟩ = some (.slice A0_6 l0_6.length c0_6) := (blk_cell BK142.out 6).trans rfl; have hcz21_7 : w19.cell? ⟨gb142, 7, none⟩ = some (.slice A0_7 l0_7.length c0_7) := (blk_cell BK142.out 7).trans rfl; have hcz21_8 : w19.cell? ⟨gb142, 8, none⟩ = some (.slice A0_8 l0_8.length c0_8) := (blk_cell BK142.out 8).trans rfl; have hcz21_9 : w19.cell? ⟨gb142, 9, none⟩ = some (.slice A0_9 l0_9.length c0_9) := (blk_cell BK142.out 9).trans rfl; have hcz21_10 : w19.cell? ⟨gb142, 10, none⟩ = some (.slice A0_10 l0_10.length c0_10) := (blk_cell BK142.out 10).trans rfl; have hfz21_0 := blk_frozen BK142.out 0; have hfz21_1 := blk_frozen BK142.out 1; have hfz21_2 := blk_frozen BK142.out 2; have hfz21_3 := blk_frozen BK142.out 3; have hfz21_4 := blk_frozen BK142.out 4; have hfz21_5 := blk_frozen BK142.out 5; have hfz21_6 := blk_frozen BK142.out 6; have hfz21_7 := blk_frozen BK142.out 7; have hfz21_8 := blk_frozen BK142.out 8; have hfz21_9 := blk_frozen BK142.out 9; have hfz21_10 := blk_frozen BK142.out 10) | ((with_reducible refine gate_builtin (b := .append) (xs := #[.tmp 9, .tmp 11]) rfl ?_); at_builtin; refine Kd.R_append_rows k62 (w0 := w) w.heap.size rfl (.tmp 9) (.tmp 11) 23 62 (.agg #[(.string ⟨#[]⟩), (.int .i64 0), (.int .i64 0), (.string ⟨#[]⟩)]) 48 rfl Try.underlying23 info62 rfl (by decide) (by omega) v149 y148 l0_7 _ _ _ (fun _ => True) (fun _ => False) rfl rfl ?aO ?aR (fun _ _ h => h) (fun _ h => h.elim) ?aF ?aB ?aS ?aL ?_; (case aR => repeat (first | exact (Kd.C_below HR0_7.out HB.out) | (with_reducible refine Kd.C_alloc ?_ _) | (with_reducible refine Kd.C_drewN ?_ _) | (with_reducible refine Kd.C_drew ?_))); (case aB => exact (by repeat (first | (with_reducible first | exact HB.out | apply below_alloc | apply pw_below_drewN | apply below_drew1 | refine below_set ?_ GE142.out | refine below_set ?_ GE143.out | refine below_set ?_ GE144.out) | exact HB.out))); (case aF => exact (fun _ _ => trivial)); (case aO => exact (by (with_reducible repeat (first | apply Kd.R_alloc | apply Kd.R_drewN | apply Kd.R_drew)); exact HO150.out)); (case aS => exact (below_size (by repeat (first | (with_reducible first | exact HB.out | apply below_alloc | apply pw_below_drewN | apply below_drew1 | refine below_set ?_ GE142.out | refine below_set ?_ GE143.out | refine below_set ?_ GE144.out) | exact HB.out)))); (case aL => have := LMc3.out; omega); intro v152 w22 ho hb hg hat; rw [← Ny151.out] at ho; have n0_ := Aside0.mk (blk_grown (g := gb142) (o := .cells #[.int .i64 a0_0, .string a0_1, .string a0_2, .string a0_3, .int .i64 a0_4, .bool a0_5, .slice A0_6 l0_6.length c0_6, .slice A0_7 l0_7.length c0_7, .slice A0_8 l0_8.length c0_8, .slice A0_9 l0_9.length c0_9, .slice A0_10 l0_10.length c0_10] 28 (0, 0)) (by (with_reducible repeat (first | refine blk_drewN ?_ _ | refine blk_drew ?_ | refine blk_alloc ?_ _)); exact BK142.out) hg (Kd.R_ne HO150.out BK142.out (by decide))); have n1_ := Aside0.mk (blk_grown (g := gb143) (o := .cells #[.int .i64 0, .string (⟨#[]⟩ : ByteArray), .string (⟨#[]⟩ : ByteArray), .string (⟨#[]⟩ : ByteArray), .int .i64 0, .bool false, .slice none 0 0, .slice none 0 0, .slice none 0 0, .slice none 0 0, .slice none 0 0] 28 (0, 0)) (by (with_reducible repeat (first | refine blk_drewN ?_ _ | refine blk_drew ?_ | refine blk_alloc ?_ _)); exact BK143.out) hg (Kd.R_ne HO150.out BK143.out (by decide))); have n2_ := Aside0.mk (blk_grown (g := gb144) (o := .cells #[.int .i64 a0_0, .string a0_1, .string a0_2, .string a0_3, .int .i64 a0_4, .bool a0_5, .slice Ao17 t145.length co17, .slice A0_7 l0_7.length c0_7, .slice A0_8 l0_8.length c0_8, .slice A0_9 l0_9.length c0_9, .slice A0_10 l0_10.length c0_10] 28 (0, 0)) (by (with_reducible repeat (first | refine blk_drewN ?_ _ | refine blk_drew ?_ | refine blk_alloc ?_ _)); exact BK144.out) hg (Kd.R_ne HO150.out BK144.out (by decide))); have n3_ := Aside0.mk (Kd.R_over' (by (with_reducible repeat (first | apply Kd.R_alloc | apply Kd.R_drewN | apply Kd.R_drew)); exact HO147.out) (Kd.R_typed (by (with_reducible repeat (first | apply Kd.R_alloc | apply Kd.R_drewN | apply Kd.R_drew)); exact HO150.out)) (by decide) hg); have n4_ := Aside0.mk (hb); have n5_ := Aside0.mk (ho); clear BK142; clear BK143; clear BK144; clear HO147; clear HB; clear HO150; have BK142 := n0_; have BK143 := n1_; have BK144 := n2_; have HO147 := n3_; have HB := n4_; have HO153 := n5_; clear n0_ n1_ n2_ n3_ n4_ n5_; clear ho hb hg hat; obtain ⟨Ao23, co23, eo23⟩ := Kd.R_slice HO153.out; subst eo23; have hcz24_0 : w22.cell? ⟨gb144, 0, none⟩ = some (.int .i64 a0_0) := (blk_cell BK144.out 0).trans rfl; have hcz24_1 : w22.cell? ⟨gb144, 1, none⟩ = some (.string a0_1) := (blk_cell BK144.out 1).trans rfl; have hcz24_2 : w22.cell? ⟨gb144, 2, none⟩ = some (.string a0_2) := (blk_cell BK144.out 2).trans rfl; have hcz24_3 : w22.cell? ⟨gb144, 3, none⟩ = some (.string a0_3) := (blk_cell BK144.out 3).trans rfl; have hcz24_4 : w22.cell? ⟨gb144, 4, none⟩ = some (.int .i64 a0_4) := (blk_cell BK144.out 4).trans rfl; have hcz24_5 : w22.cell? ⟨gb144, 5, none⟩ = some (.bool a0_5) := (blk_cell BK144.out 5).trans rfl; have hcz24_6 : w22.cell? ⟨gb144, 6, none⟩ = some (.slice Ao17 t145.length co17) := (blk_cell BK144.out 6).trans rfl; have hcz24_7 : w22.cell? ⟨gb144, 7, none⟩ = some (.slice A0_7 l0_7.length c0_7) := (blk_cell BK144.out 7).trans rfl; have hcz24_8 : w22.cell? ⟨gb144, 8, none⟩ = some (.slice A0_8 l0_8.length c0_8) := (blk_cell BK144.out 8).trans rfl; have hcz24_9 : w22.cell? ⟨gb144, 9, none⟩ = some (.slice A0_9 l0_9.length c0_9) := (blk_cell BK144.out 9).trans rfl; have hcz24_10 : w22.cell? ⟨gb144, 10, none⟩ = some (.slice A0_10 l0_10.length c0_10) := (blk_cell BK144.out 10).trans rfl; have hfz24_0 := blk_frozen BK144.out 0; have hfz24_1 := blk_frozen BK144.out 1; have hfz24_2 := blk_frozen BK144.out 2; have hfz24_3 := blk_frozen BK144.out 3; have hfz24_4 := blk_frozen BK144.out 4; have hfz24_5 := blk_frozen BK144.out 5; have hfz24_6 := blk_frozen BK144.out 6; have hfz24_7 := blk_frozen BK144.out 7; have hfz24_8 := blk_frozen BK144.out 8; have hfz24_9 := blk_frozen BK144.out 9; have hfz24_10 := blk_frozen BK144.out 10; have hcz25_0 : w22.cell? ⟨gb142, 0, none⟩ = some (.int .i64 a0_0) := (blk_cell BK142.out 0).trans rfl; have hcz25_1 : w22.cell? ⟨gb142, 1, none⟩ = some (.string a0_1) := (blk_cell BK142.out 1).trans rfl; have hcz25_2 : w22.cell? ⟨gb142, 2, none⟩ = some (.string a0_2) := (blk_cell BK142.out 2).trans rfl; have hcz25_3 : w22.cell? ⟨gb142, 3, none⟩ = some (.string a0_3) := (blk_cell BK142.out 3).trans rfl; have hcz25_4 : w22.cell? ⟨gb142, 4, none⟩ = some (.int .i64 a0_4) := (blk_cell BK142.out 4).trans rfl; have hcz25_5 : w22.cell? ⟨gb142, 5, none⟩ = some (.bool a0_5) := (blk_cell BK142.out 5).trans rfl; have hcz25_6 : w22.cell? ⟨gb142, 6, none⟩ = some (.slice A0_6 l0_6.length c0_6) := (blk_cell BK142.out 6).trans rfl; have hcz25_7 : w22.cell? ⟨gb142, 7, none⟩ = some (.slice A0_7 l0_7.length c0_7) := (blk_cell BK142.out 7).trans rfl; have hcz25_8 : w22.cell? ⟨gb142, 8, none⟩ = some (.slice A0_8 l0_8.length c0_8) := (blk_cell BK142.out 8).trans rfl; have hcz25_9 : w22.cell? ⟨gb142, 9, none⟩ = some (.slice A0_9 l0_9.length c0_9) := (blk_cell BK142.out 9).trans rfl; have hcz25_10 : w22.cell? ⟨gb142, 10, none⟩ = some (.slice A0_10 l0_10.length c0_10) := (blk_cell BK142.out 10).trans rfl; have hfz25_0 := blk_frozen BK142.out 0; have hfz25_1 := blk_frozen BK142.out 1; have hfz25_2 := blk_frozen BK142.out 2; have hfz25_3 := blk_frozen BK142.out 3; have hfz25_4 := blk_frozen BK142.out 4; have hfz25_5 := blk_frozen BK142.out 5; have hfz25_6 := blk_frozen BK142.out 6; have hfz25_7 := blk_frozen BK142.out 7; have hfz25_8 := blk_frozen BK142.out 8; have hfz25_9 := blk_frozen BK142.out 9; have hfz25_10 := blk_frozen BK142.out 10) | ((with_reducible refine gate_callee (f := 32) rfl ?_); refine goesL_ (some 16) rfl rfl Try.func32 (by kernel_rfl) rfl #[.slice A0_8 l0_8.length c0_8] rfl (by (try simp only [List.map_toArray, List.map_cons, List.map_nil]); first | done | rfl | (simp only [List.length_drop, List.length_take]; rfl)) ?_; (with_reducible refine (interlockref00_CopyConds.calls _ _ l0_8 t154 _ ?side1 ?side2 A4.out).mono ?_); (case side1 => exact Kd.C_below HR0_8.out (by repeat (first | (with_reducible first | exact HB.out | apply below_alloc | apply pw_below_drewN | apply below_drew1 | refine below_set ?_ GE142.out | refine below_set ?_ GE143.out | refine below_set ?_ GE144.out) | exact HB.out))); (case side2 => exact HC0_8.out); rintro e w26 ⟨v155, rfl, ho0, hb⟩; refine ⟨_, rfl, ?_⟩; have n0_ := Aside0.mk (Kd.R_below (by (with_reducible repeat (first | apply Kd.R_alloc | apply Kd.R_drewN | apply Kd.R_drew)); exact (Kd.R_mono (Kd.R_far (p := ⟨gb144, 7, none⟩) (Kd.R_types HO147.out BK144.out (by decide)) (fun _ hk => hk.2) (.slice Ao23 y151.length co23)) (fun _ h_ => h_.1))) hb); have n1_ := Aside0.mk (Kd.R_below (by (with_reducible repeat (first | apply Kd.R_alloc | apply Kd.R_drewN | apply Kd.R_drew)); exact (Kd.R_mono (Kd.R_far (p := ⟨gb144, 7, none⟩) (Kd.R_types HO153.out BK144.out (by decide)) (fun _ hk => hk.2) (.slice Ao23 y151.length co23)) (fun _ h_ => h_.1))) hb); have n2_ := Aside0.mk (Kd.R_lower ho0 (below_size (by repeat (first | (with_reducible first | exact HB.out | apply below_alloc | apply pw_below_drewN | apply below_drew1 | refine below_set ?_ GE142.out | refine below_set ?_ GE143.out | refine below_set ?_ GE144.out) | exact HB.out)))); have n3_ := Aside0.mk (blk_below (g := gb142) (o := .cells #[.int .i64 a0_0, .string a0_1, .string a0_2, .string a0_3, .int .i64 a0_4, .bool a0_5, .slice A0_6 l0_6.length c0_6, .slice A0_7 l0_7.length c0_7, .slice A0_8 l0_8.length c0_8, .slice A0_9 l0_9.length c0_9, .slice A0_10 l0_10.length c0_10] 28 (0, 0)) (by (with_reducible repeat (first | refine blk_drewN ?_ _ | refine blk_drew ?_ | refine blk_alloc ?_ _)); refine blk_far ?_ NB142_144.out _; (with_reducible repeat (first | refine blk_drewN ?_ _ | refine blk_drew ?_ | refine blk_alloc ?_ _)); exact BK142.out) hb); have n4_ := Aside0.mk (blk_below (g := gb143) (o := .cells #[.int .i64 0, .string (⟨#[]⟩ : ByteArray), .string (⟨#[]⟩ : ByteArray), .string (⟨#[]⟩ : ByteArray), .int .i64 0, .bool false, .slice none 0 0, .slice none 0 0, .slice none 0 0, .slice none 0 0, .slice none 0 0] 28 (0, 0)) (by (with_reducible repeat (first | refine blk_drewN ?_ _ | refine blk_drew ?_ | refine blk_alloc ?_ _)); refine blk_far ?_ NB143_144.out _; (with_reducible repeat (first | refine blk_drewN ?_ _ | refine blk_drew ?_ | refine blk_alloc ?_ _)); exact BK143.out) hb); have n5_ := Aside0.mk (blk_below (g := gb144) (o := .cells #[.int .i64 a0_0, .string a0_1, .string a0_2, .string a0_3, .int .i64 a0_4, .bool a0_5, .slice Ao17 t145.length co17, .slice Ao23 y151.length co23, .slice A0_8 l0_8.length c0_8, .slice A0_9 l0_9.length c0_9, .slice A0_10 l0_10.length c0_10] 28 (0, 0)) (by (with_reducible repeat (first | refine blk_drewN ?_ _ | refine blk_drew ?_ | refine blk_alloc ?_ _)); refine blk_put (cs := #[.int .i64 a0_0, .string a0_1, .string a0_2, .string a0_3, .int .i64 a0_4, .bool a0_5, .slice Ao17 t145.length co17, .slice A0_7 l0_7.length c0_7, .slice A0_8 l0_8.length c0_8, .slice A0_9 l0_9.length c0_9, .slice A0_10 l0_10.length c0_10]) ?_ 7 _ rfl; (with_reducible repeat (first | refine blk_drewN ?_ _ | refine blk_drew ?_ | refine blk_alloc ?_ _)); exact BK144.out) hb); have n6_ := Aside0.mk (below_step (by repeat (first | (with_reducible first | exact HB.out | apply below_alloc | apply pw_below_drewN | apply below_drew1 | refine below_set ?_ GE142.out | refine below_set ?_ GE143.out | refine below_set ?_ GE144.out) | exact HB.out)) hb); clear HO147; clear HO153; clear BK142; clear BK143; clear BK144; clear HB; have HO147 := n0_; have HO153 := n1_; have HO156 := n2_; have BK142 := n3_; have BK143 := n4_; have BK144 := n5_; have HB := n6_; clear n0_ n1_ n2_ n3_ n4_ n5_ n6_; (try clear hb); (try clear hb2); (try clear hk); (try clear hi); (try clear ho0); obtain ⟨Ao27, co27, eo27⟩ := Kd.R_slice HO156.out; subst eo27; have hcz28_0 : w26.cell? ⟨gb144, 0, none⟩ = some (.int .i64 a0_0) := (blk_cell BK144.out 0).trans rfl; have hcz28_1 : w26.cell? ⟨gb144, 1, none⟩ = some (.string a0_1) := (blk_cell BK144.out 1).trans rfl; have hcz28_2 : w26.cell? ⟨gb144, 2, none⟩ = some (.string a0_2) := (blk_cell BK144.out 2).trans rfl; have hcz28_3 : w26.cell? ⟨gb144, 3, none⟩ = some (.string a0_3) := (blk_cell BK144.out 3).trans rfl; have hcz28_4 : w26.cell? ⟨gb144, 4, none⟩ = some (.int .i64 a0_4) := (blk_cell BK144.out 4).trans rfl; have hcz28_5 : w26.cell? ⟨gb144, 5, none⟩ = some (.bool a0_5) := (blk_cell BK144.out 5).trans rfl; have hcz28_6 : w26.cell? ⟨gb144, 6, none⟩ = some (.slice Ao17 t145.length co17) := (blk_cell BK144.out 6).trans rfl; have hcz28_7 : w26.cell? ⟨gb144, 7, none⟩ = some (.slice Ao23 y151.length co23) := (blk_cell BK144.out 7).trans rfl; have hcz28_8 : w26.cell? ⟨gb144, 8, none⟩ = some (.slice A0_8 l0_8.length c0_8) := (blk_cell BK144.out 8).trans rfl; have hcz28_9 : w26.cell? ⟨gb144, 9, none⟩ = some (.slice A0_9 l0_9.length c0_9) := (blk_cell BK144.out 9).trans rfl; have hcz28_10 : w26.cell? ⟨gb144, 10, none⟩ = some (.slice A0_10 l0_10.length c0_10) := (blk_cell BK144.out 10).trans rfl; have hfz28_0 := blk_frozen BK144.out 0; have hfz28_1 := blk_frozen BK144.out 1; have hfz28_2 := blk_frozen BK144.out 2; have hfz28_3 := blk_frozen BK144.out 3; have hfz28_4 := blk_frozen BK144.out 4; have hfz28_5 := blk_frozen BK144.out 5; have hfz28_6 := blk_frozen BK144.out 6; have hfz28_7 := blk_frozen BK144.out 7; have hfz28_8 := blk_frozen BK144.out 8; have hfz28_9 := blk_frozen BK144.out 9; have hfz28_10 := blk_frozen BK144.out 10) | ((with_reducible refine gate_dst (N := 18) rfl ?_); refine Kd.R_lit k66 _ 66 ?hg (N := 18) ?hd (xs := ([] : List (S66))) (inner := []) (ok := fun _ => True) (okp := fun _ => True) ?hr ?hp (fun _ hk => hk) trivial (Below.refl _ _) (Nat.le_refl _) (by simp) ?_; (case hd => rfl); (case hg => rfl); (case hr => first | (go_simp; done) | (go_simp; rfl)); (case hp => exact (Reps.none _ _)); intro v158 w29 ho30 hb hg_ hnew_; clear hg_ hnew_; (first | rw [← Ny157.out] at ho30 | (simp only [Int.reduceToNat] at ho30; rw [← Ny157.out] at ho30)); have n0_ := Aside0.mk (Kd.R_below (by (with_reducible repeat (first | apply Kd.R_alloc | apply Kd.R_drewN | apply Kd.R_drew)); exact (Kd.R_mono (Kd.R_far (p := ⟨gb144, 8, none⟩) (Kd.R_types HO147.out BK144.out (by decide)) (fun _ hk => hk.2) (.slice Ao27 t154.length co27)) (fun _ h_ => h_.1))) hb); have n1_ := Aside0.mk (Kd.R_below (by (with_reducible repeat (first | apply Kd.R_alloc | apply Kd.R_drewN | apply Kd.R_drew)); exact (Kd.R_mono (Kd.R_far (p := ⟨gb144, 8, none⟩) (Kd.R_types HO153.out BK144.out (by decide)) (fun _ hk => hk.2) (.slice Ao27 t154.length co27)) (fun _ h_ => h_.1))) hb); have n2_ := Aside0.mk (Kd.R_below (by (with_reducible repeat (first | apply Kd.R_alloc | apply Kd.R_drewN | apply Kd.R_drew)); exact (Kd.R_mono (Kd.R_far (p := ⟨gb144, 8, none⟩) (Kd.R_types HO156.out BK144.out (by decide)) (fun _ hk => hk.2) (.slice Ao27 t154.length co27)) (fun _ h_ => h_.1))) hb); have n3_ := Aside0.mk (Kd.R_lower ho30 (below_size (by repeat (first | (with_reducible first | exact HB.out | apply below_alloc | apply pw_below_drewN | apply below_drew1 | refine below_set ?_ GE142.out | refine below_set ?_ GE143.out | refine below_set ?_ GE144.out) | exact HB.out)))); have n4_ := Aside0.mk (blk_below (g := gb142) (o := .cells #[.int .i64 a0_0, .string a0_1, .string a0_2, .string a0_3, .int .i64 a0_4, .bool a0_5, .slice A0_6 l0_6.length c0_6, .slice A0_7 l0_7.length c0_7, .slice A0_8 l0_8.length c0_8, .slice A0_9 l0_9.length c0_9, .slice A0_10 l0_10.length c0_10] 28 (0, 0)) (by (with_reducible repeat (first | refine blk_drewN ?_ _ | refine blk_drew ?_ | refine blk_alloc ?_ _)); refine blk_far ?_ NB142_144.out _; (with_reducible repeat (first | refine blk_drewN ?_ _ | refine blk_drew ?_ | refine blk_alloc ?_ _)); exact BK142.out) hb); have n5_ := Aside0.mk (blk_below (g := gb143) (o := .cells #[.int .i64 0, .string (⟨#[]⟩ : ByteArray), .string (⟨#[]⟩ : ByteArray), .string (⟨#[]⟩ : ByteArray), .int .i64 0, .bool false, .slice none 0 0, .slice none 0 0, .slice none 0 0, .slice none 0 0, .slice none 0 0] 28 (0, 0)) (by (with_reducible repeat (first | refine blk_drewN ?_ _ | refine blk_drew ?_ | refine blk_alloc ?_ _)); refine blk_far ?_ NB143_144.out _; (with_reducible repeat (first | refine blk_drewN ?_ _ | refine blk_drew ?_ | refine blk_alloc ?_ _)); exact BK143.out) hb); have n6_ := Aside0.mk (blk_below (g := gb144) (o := .cells #[.int .i64 a0_0, .string a0_1, .string a0_2, .string a0_3, .int .i64 a0_4, .bool a0_5, .slice Ao17 t145.length co17, .slice Ao23 y151.length co23, .slice Ao27 t154.length co27, .slice A0_9 l0_9.length c0_9, .slice A0_10 l0_10.length c0_10] 28 (0, 0)) (by (with_reducible repeat (first | refine blk_drewN ?_ _ | refine blk_drew ?_ | refine blk_alloc ?_ _)); refine blk_put (cs := #[.int .i64 a0_0, .string a0_1, .string a0_2, .string a0_3, .int .i64 a0_4, .bool a0_5, .slice Ao17 t145.length co17, .slice Ao23 y151.length co23, .slice A0_8 l0_8.length c0_8, .slice A0_9 l0_9.length c0_9, .slice A0_10 l0_10.length c0_10]) ?_ 8 _ rfl; (with_reducible repeat (first | refine blk_drewN ?_ _ | refine blk_drew ?_ | refine blk_alloc ?_ _)); exact BK144.out) hb); have n7_ := Aside0.mk (below_step (by repeat (first | (with_reducible first | exact HB.out | apply below_alloc | apply pw_below_drewN | apply below_drew1 | refine below_set ?_ GE142.out | refine below_set ?_ GE143.out | refine below_set ?_ GE144.out) | exact HB.out)) hb); clear HO147; clear HO153; clear HO156; clear BK142; clear BK143; clear BK144; clear HB; have HO147 := n0_; have HO153 := n1_; have HO156 := n2_; have HO159 := n3_; have BK142 := n4_; have BK143 := n5_; have BK144 := n6_; have HB := n7_; clear n0_ n1_ n2_ n3_ n4_ n5_ n6_ n7_; clear hb ho30; have hcz31_0 : w29.cell? ⟨gb142, 0, none⟩ = some (.int .i64 a0_0) := (blk_cell BK142.out 0).trans rfl; have hcz31_1 : w29.cell? ⟨gb142, 1, none⟩ = some (.string a0_1) := (blk_cell BK142.out 1).trans rfl; have hcz31_2 : w29.cell? ⟨gb142, 2, none⟩ = some (.string a0_2) := (blk_cell BK142.out 2).trans rfl; have hcz31_3 : w29.cell? ⟨gb142, 3, none⟩ = some (.string a0_3) := (blk_cell BK142.out 3).trans rfl; have hcz31_4 : w29.cell? ⟨gb142, 4, none⟩ = some (.int .i64 a0_4) := (blk_cell BK142.out 4).trans rfl; have hcz31_5 : w29.cell? ⟨gb142, 5, none⟩ = some (.bool a0_5) := (blk_cell BK142.out 5).trans rfl; have hcz31_6 : w29.cell? ⟨gb142, 6, none⟩ = some (.slice A0_6 l0_6.length c0_6) := (blk_cell BK142.out 6).trans rfl; have hcz31_7 : w29.cell? ⟨gb142, 7, none⟩ = some (.slice A0_7 l0_7.length c0_7) := (blk_cell BK142.out 7).trans rfl; have hcz31_8 : w29.cell? ⟨gb142, 8, none⟩ = some (.slice A0_8 l0_8.length c0_8) := (blk_cell BK142.out 8).trans rfl; have hcz31_9 : w29.cell? ⟨gb142, 9, none⟩ = some (.slice A0_9 l0_9.length c0_9) := (blk_cell BK142.out 9).trans rfl; have hcz31_10 : w29.cell? ⟨gb142, 10, none⟩ = some (.slice A0_10 l0_10.length c0_10) := (blk_cell BK142.out 10).trans rfl; have hfz31_0 := blk_frozen BK142.out 0; have hfz31_1 := blk_frozen BK142.out 1; have hfz31_2 := blk_frozen BK142.out 2; have hfz31_3 := blk_frozen BK142.out 3; have hfz31_4 := blk_frozen BK142.out 4; have hfz31_5 := blk_frozen BK142.out 5; have hfz31_6 := blk_frozen BK142.out 6; have hfz31_7 := blk_frozen BK142.out 7; have hfz31_8 := blk_frozen BK142.out 8; have hfz31_9 := blk_frozen BK142.out 9; have hfz31_10 := blk_frozen BK142.out 10) | ((with_reducible refine gate_builtin (b := .append) (xs := #[.tmp 18, .tmp 20]) rfl ?_); at_builtin; refine Kd.R_append_rows k66 (w0 := w) w.heap.size rfl (.tmp 18) (.tmp 20) 25 66 (.agg #[(.string ⟨#[]⟩), (.int .i64 0), (.bool false)]) 32 rfl Try.underlying25 info66 rfl (by decide) (by omega) v158 y157 l0_9 _ _ _ (fun _ => True) (fun _ => False) rfl rfl ?aO ?aR (fun _ _ h => h) (fun _ h => h.elim) ?aF ?aB ?aS ?aL ?_; (case aR => repeat (first | exact (Kd.C_below HR0_9.out HB.out) | (with_reducible refine Kd.C_alloc ?_ _) | (with_reducible refine Kd.C_drewN ?_ _) | (with_reducible refine Kd.C_drew ?_))); (case aB => exact (by repeat (first | (with_reducible first | exact HB.out | apply below_alloc | apply pw_below_drewN | apply below_drew1 | refine below_set ?_ GE142.out | refine below_set ?_ GE143.out | refine below_set ?_ GE144.out) | exact HB.out))); (case aF => exact (fun _ _ => trivial)); (case aO => exact (by (with_reducible repeat (first | apply Kd.R_alloc | apply Kd.R_drewN | apply Kd.R_drew)); exact HO159.out)); (case aS => exact (below_size (by repeat (first | (with_reducible first | exact HB.out | apply below_alloc | apply pw_below_drewN | apply below_drew1 | refine below_set ?_ GE142.out | refine below_set ?_ GE143.out | refine below_set ?_ GE144.out) | exact HB.out)))); (case aL => have := LMc5.out; omega); intro v161 w32 ho hb hg hat; rw [← Ny160.out] at ho; have n0_ := Aside0.mk (blk_grown (g := gb142) (o := .cells #[.int .i64 a0_0, .string a0_1, .string a0_2, .string a0_3, .int .i64 a0_4, .bool a0_5, .slice A0_6 l0_6.length c0_6, .slice A0_7 l0_7.length c0_7, .slice A0_8 l0_8.length c0_8, .slice A0_9 l0_9.length c0_9, .slice A0_10 l0_10.length c0_10] 28 (0, 0)) (by (with_reducible repeat (first | refine blk_drewN ?_ _ | refine blk_drew ?_ | refine blk_alloc ?_ _)); exact BK142.out) hg (Kd.R_ne HO159.out BK142.out (by decide))); have n1_ := Aside0.mk (blk_grown (g := gb143) (o := .cells #[.int .i64 0, .string (⟨#[]⟩ : ByteArray), .string (⟨#[]⟩ : ByteArray), .string (⟨#[]⟩ : ByteArray), .int .i64 0, .bool false, .slice none 0 0, .slice none 0 0, .slice none 0 0, .slice none 0 0, .slice none 0 0] 28 (0, 0)) (by (with_reducible repeat (first | refine blk_drewN ?_ _ | refine blk_drew ?_ | refine blk_alloc ?_ _)); exact BK143.out) hg (Kd.R_ne HO159.out BK143.out (by decide))); have n2_ := Aside0.mk (blk_grown (g := gb144) (o := .cells #[.int .i64 a0_0, .string a0_1, .string a0_2, .string a0_3, .int .i64 a0_4, .bool a0_5, .slice Ao17 t145.length co17, .slice Ao23 y151.length co23, .slice Ao27 t154.length co27, .slice A0_9 l0_9.length c0_9, .slice A0_10 l0_10.length c0_10] 28 (0, 0)) (by (with_reducible repeat (first | refine blk_drewN ?_ _ | refine blk_drew ?_ | refine blk_alloc ?_ _)); exact BK144.out) hg (Kd.R_ne HO159.out BK144.out (by decide))); have n3_ := Aside0.mk (Kd.R_over' (by (with_reducible repeat (first | apply Kd.R_alloc | apply Kd.R_drewN | apply Kd.R_drew)); exact HO147.out) (Kd.R_typed (by (with_reducible repeat (first | apply Kd.R_alloc | apply Kd.R_drewN | apply Kd.R_drew)); exact HO159.out)) (by decide) hg); have n4_ := Aside0.mk (Kd.R_over' (by (with_reducible repeat (first | apply Kd.R_alloc | apply Kd.R_drewN | apply Kd.R_drew)); exact HO153.out) (Kd.R_typed (by (with_reducible repeat (first | apply Kd.R_alloc | apply Kd.R_drewN | apply Kd.R_drew)); exact HO159.out)) (by decide) hg); have n5_ := Aside0.mk (Kd.R_over' (by (with_reducible repeat (first | apply Kd.R_alloc | apply Kd.R_drewN | apply Kd.R_drew)); exact HO156.out) (Kd.R_typed (by (with_reducible repeat (first | apply Kd.R_alloc | apply Kd.R_drewN | apply Kd.R_drew)); exact HO159.out)) (by decide) hg); have n6_ := Aside0.mk (hb); have n7_ := Aside0.mk (ho); clear BK142; clear BK143; clear BK144; clear HO147; clear HO153; clear HO156; clear HB; clear HO159; have BK142 := n0_; have BK143 := n1_; have BK144 := n2_; have HO147 := n3_; have HO153 := n4_; have HO156 := n5_; have HB := n6_; have HO162 := n7_; clear n0_ n1_ n2_ n3_ n4_ n5_ n6_ n7_; clear ho hb hg hat; obtain ⟨Ao33, co33, eo33⟩ := Kd.R_slice HO162.out; subst eo33; have hcz34_0 : w32.cell? ⟨gb144, 0, none⟩ = some (.int .i64 a0_0) := (blk_cell BK144.out 0).trans rfl; have hcz34_1 : w32.cell? ⟨gb144, 1, none⟩ = some (.string a0_1) := (blk_cell BK144.out 1).trans rfl; have hcz34_2 : w32.cell? ⟨gb144, 2, none⟩ = some (.string a0_2) := (blk_cell BK144.out 2).trans rfl; have hcz34_3 : w32.cell? ⟨gb144, 3, none⟩ = some (.string a0_3) := (blk_cell BK144.out 3).trans rfl; have hcz34_4 : w32.cell? ⟨gb144, 4, none⟩ = some (.int .i64 a0_4) := (blk_cell BK144.out 4).trans rfl; have hcz34_5 : w32.cell? ⟨gb144, 5, none⟩ = some (.bool a0_5) := (blk_cell BK144.out 5).trans rfl; have hcz34_6 : w32.cell? ⟨gb144, 6, none⟩ = some (.slice Ao17 t145.length co17) := (blk_cell BK144.out 6).trans rfl; have hcz34_7 : w32.cell? ⟨gb144, 7, none⟩ = some (.slice Ao23 y151.length co23) := (blk_cell BK144.out 7).trans rfl; have hcz34_8 : w32.cell? ⟨gb144, 8, none⟩ = some (.slice Ao27 t154.length co27) := (blk_cell BK144.out 8).trans rfl; have hcz34_9 : w32.cell? ⟨gb144, 9, none⟩ = some (.slice A0_9 l0_9.length c0_9) := (blk_cell BK144.out 9).trans rfl; have hcz34_10 : w32.cell? ⟨gb144, 10, none⟩ = some (.slice A0_10 l0_10.length c0_10) := (blk_cell BK144.out 10).trans rfl; have hfz34_0 := blk_frozen BK144.out 0; have hfz34_1 := blk_frozen BK144.out 1; have hfz34_2 := blk_frozen BK144.out 2; have hfz34_3 := blk_frozen BK144.out 3; have hfz34_4 := blk_frozen BK144.out 4; have hfz34_5 := blk_frozen BK144.out 5; have hfz34_6 := blk_frozen BK144.out 6; have hfz34_7 := blk_frozen BK144.out 7; have hfz34_8 := blk_frozen BK144.out 8; have hfz34_9 := blk_frozen BK144.out 9; have hfz34_10 := blk_frozen BK144.out 10; have hcz35_0 : w32.cell? ⟨gb142, 0, none⟩ = some (.int .i64 a0_0) := (blk_cell BK142.out 0).trans rfl; have hcz35_1 : w32.cell? ⟨gb142, 1, none⟩ = some (.string a0_1) := (blk_cell BK142.out 1).trans rfl; have hcz35_2 : w32.cell? ⟨gb142, 2, none⟩ = some (.string a0_2) := (blk_cell BK142.out 2).trans rfl; have hcz35_3 : w32.cell? ⟨gb142, 3, none⟩ = some (.string a0_3) := (blk_cell BK142.out 3).trans rfl; have hcz35_4 : w32.cell? ⟨gb142, 4, none⟩ = some (.int .i64 a0_4) := (blk_cell BK142.out 4).trans rfl; have hcz35_5 : w32.cell? ⟨gb142, 5, none⟩ = some (.bool a0_5) := (blk_cell BK142.out 5).trans rfl; have hcz35_6 : w32.cell? ⟨gb142, 6, none⟩ = some (.slice A0_6 l0_6.length c0_6) := (blk_cell BK142.out 6).trans rfl; have hcz35_7 : w32.cell? ⟨gb142, 7, none⟩ = some (.slice A0_7 l0_7.length c0_7) := (blk_cell BK142.out 7).trans rfl; have hcz35_8 : w32.cell? ⟨gb142, 8, none⟩ = some (.slice A0_8 l0_8.length c0_8) := (blk_cell BK142.out 8).trans rfl; have hcz35_9 : w32.cell? ⟨gb142, 9, none⟩ = some (.slice A0_9 l0_9.length c0_9) := (blk_cell BK142.out 9).trans rfl; have hcz35_10 : w32.cell? ⟨gb142, 10, none⟩ = some (.slice A0_10 l0_10.length c0_10) := (blk_cell BK142.out 10).trans rfl; have hfz35_0 := blk_frozen BK142.out 0; have hfz35_1 := blk_frozen BK142.out 1; have hfz35_2 := blk_frozen BK142.out 2; have hfz35_3 := blk_frozen BK142.out 3; have hfz35_4 := blk_frozen BK142.out 4; have hfz35_5 := blk_frozen BK142.out 5; have hfz35_6 := blk_frozen BK142.out 6; have hfz35_7 := blk_frozen BK142.out 7; have hfz35_8 := blk_frozen BK142.out 8; have hfz35_9 := blk_frozen BK142.out 9; have hfz35_10 := blk_frozen BK142.out 10) | ((with_reducible refine gate_callee (f := 33) rfl ?_); refine goesL_ (some 25) rfl rfl Try.func33 (by kernel_rfl) rfl #[.slice A0_10 l0_10.length c0_10] rfl (by (try simp only [List.map_toArray, List.map_cons, List.map_nil]); first | done | rfl | (simp only [List.length_drop, List.length_take]; rfl)) ?_; (with_reducible refine (interlockref00_CopyTexts.calls _ _ l0_10 t163 _ ?side1 ?side2 A6.out).mono ?_); (case side1 => exact Kd.C_below HR0_10.out (by repeat (first | (with_reducible first | exact HB.out | apply below_alloc | apply pw_below_drewN | apply below_drew1 | refine below_set ?_ GE142.out | refine below_set ?_ GE143.out | refine below_set ?_ GE144.out) | exact HB.out))); (case side2 => exact HC0_10.out); rintro e w36 ⟨v164, rfl, ho0, hb⟩; refine ⟨_, rfl, ?_⟩; have n0_ := Aside0.mk (Kd.R_below (by (with_reducible repeat (first | apply Kd.R_alloc | apply Kd.R_drewN | apply Kd.R_drew)); exact (Kd.R_mono (Kd.R_far (p := ⟨gb144, 9, none⟩) (Kd.R_types HO147.out BK144.out (by decide)) (fun _ hk => hk.2) (.slice Ao33 y160.length co33)) (fun _ h_ => h_.1))) hb); have n1_ := Aside0.mk (Kd.R_below (by (with_reducible repeat (first | apply Kd.R_alloc | apply Kd.R_drewN | apply Kd.R_drew)); exact (Kd.R_mono (Kd.R_far (p := ⟨gb144, 9, none⟩) (Kd.R_types HO153.out BK144.out (by decide)) (fun _ hk => hk.2) (.slice Ao33 y160.length co33)) (fun _ h_ => h_.1))) hb); have n2_ := Aside0.mk (Kd.R_below (by (with_reducible repeat (first | apply Kd.R_alloc | apply Kd.R_drewN | apply Kd.R_drew)); exact (Kd.R_mono (Kd.R_far (p := ⟨gb144, 9, none⟩) (Kd.R_types HO156.out BK144.out (by decide)) (fun _ hk => hk.2) (.slice Ao33 y160.length co33)) (fun _ h_ => h_.1))) hb); have n3_ := Aside0.mk (Kd.R_below (by (with_reducible repeat (first | apply Kd.R_alloc | apply Kd.R_drewN | apply Kd.R_drew)); exact (Kd.R_mono (Kd.R_far (p := ⟨gb144, 9, none⟩) (Kd.R_types HO162.out BK144.out (by decide)) (fun _ hk => hk.2) (.slice Ao33 y160.length co33)) (fun _ h_ => h_.1))) hb); have n4_ := Aside0.mk (Kd.R_lower ho0 (below_size (by repeat (first | (with_reducible first | exact HB.out | apply below_alloc | apply pw_below_drewN | apply below_drew1 | refine below_set ?_ GE142.out | refine below_set ?_ GE143.out | refine below_set ?_ GE144.out) | exact HB.out)))); have n5_ := Aside0.mk (blk_below (g := gb142) (o := .cells #[.int .i64 a0_0, .string a0_1, .string a0_2, .string a0_3, .int .i64 a0_4, .bool a0_5, .slice A0_6 l0_6.length c0_6, .slice A0_7 l0_7.length c0_7, .slice A0_8 l0_8.length c0_8, .slice A0_9 l0_9.length c0_9, .slice A0_10 l0_10.length c0_10] 28 (0, 0)) (by (with_reducible repeat (first | refine blk_drewN ?_ _ | refine blk_drew ?_ | refine blk_alloc ?_ _)); refine blk_far ?_ NB142_144.out _; (with_reducible repeat (first | refine blk_drewN ?_ _ | refine blk_drew ?_ | refine blk_alloc ?_ _)); exact BK142.out) hb); have n6_ := Aside0.mk (blk_below (g := gb143) (o := .cells #[.int .i64 0, .string (⟨#[]⟩ : ByteArray), .string (⟨#[]⟩ : ByteArray), .string (⟨#[]⟩ : ByteArray), .int .i64 0, .bool false, .slice none 0 0, .slice none 0 0, .slice none 0 0, .slice none 0 0, .slice none 0 0] 28 (0, 0)) (by (with_reducible repeat (first | refine blk_drewN ?_ _ | refine blk_drew ?_ | refine blk_alloc ?_ _)); refine blk_far ?_ NB143_144.out _; (with_reducible repeat (first | refine blk_drewN ?_ _ | refine blk_drew ?_ | refine blk_alloc ?_ _)); exact BK143.out) hb); have n7_ := Aside0.mk (blk_below (g := gb144) (o := .cells #[.int .i64 a0_0, .string a0_1, .string a0_2, .string a0_3, .int .i64 a0_4, .bool a0_5, .slice Ao17 t145.length co17, .slice Ao23 y151.length co23, .slice Ao27 t154.length co27, .slice Ao33 y160.length co33, .slice A0_10 l0_10.length c0_10] 28 (0, 0)) (by (with_reducible repeat (first | refine blk_drewN ?_ _ | refine blk_drew ?_ | refine blk_alloc ?_ _)); refine blk_put (cs := #[.int .i64 a0_0, .string a0_1, .string a0_2, .string a0_3, .int .i64 a0_4, .bool a0_5, .slice Ao17 t145.length co17, .slice Ao23 y151.length co23, .slice Ao27 t154.length co27, .slice A0_9 l0_9.length c0_9, .slice A0_10 l0_10.length c0_10]) ?_ 9 _ rfl; (with_reducible repeat (first | refine blk_drewN ?_ _ | refine blk_drew ?_ | refine blk_alloc ?_ _)); exact BK144.out) hb); have n8_ := Aside0.mk (below_step (by repeat (first | (with_reducible first | exact HB.out | apply below_alloc | apply pw_below_drewN | apply below_drew1 | refine below_set ?_ GE142.out | refine below_set ?_ GE143.out | refine below_set ?_ GE144.out) | exact HB.out)) hb); clear HO147; clear HO153; clear HO156; clear HO162; clear BK142; clear BK143; clear BK144; clear HB; have HO147 := n0_; have HO153 := n1_; have HO156 := n2_; have HO162 := n3_; have HO165 := n4_; have BK142 := n5_; have BK143 := n6_; have BK144 := n7_; have HB := n8_; clear n0_ n1_ n2_ n3_ n4_ n5_ n6_ n7_ n8_; (try clear hb); (try clear hb2); (try clear hk); (try clear hi); (try clear ho0); obtain ⟨Ao37, co37, eo37⟩ := Kd.R_slice HO165.out; subst eo37; have hcz38_0 : w36.cell? ⟨gb144, 0, none⟩ = some (.int .i64 a0_0) := (blk_cell BK144.out 0).trans rfl; have hcz38_1 : w36.cell? ⟨gb144, 1, none⟩ = some (.string a0_1) := (blk_cell BK144.out 1).trans rfl; have hcz38_2 : w36.cell? ⟨gb144, 2, none⟩ = some (.string a0_2) := (blk_cell BK144.out 2).trans rfl; have hcz38_3 : w36.cell? ⟨gb144, 3, none⟩ = some (.string a0_3) := (blk_cell BK144.out 3).trans rfl; have hcz38_4 : w36.cell? ⟨gb144, 4, none⟩ = some (.int .i64 a0_4) := (blk_cell BK144.out 4).trans rfl; have hcz38_5 : w36.cell? ⟨gb144, 5, none⟩ = some (.bool a0_5) := (blk_cell BK144.out 5).trans rfl; have hcz38_6 : w36.cell? ⟨gb144, 6, none⟩ = some (.slice Ao17 t145.length co17) := (blk_cell BK144.out 6).trans rfl; have hcz38_7 : w36.cell? ⟨gb144, 7, none⟩ = some (.slice Ao23 y151.length co23) := (blk_cell BK144.out 7).trans rfl; have hcz38_8 : w36.cell? ⟨gb144, 8, none⟩ = some (.slice Ao27 t154.length co27) := (blk_cell BK144.out 8).trans rfl; have hcz38_9 : w36.cell? ⟨gb144, 9, none⟩ = some (.slice Ao33 y160.length co33) := (blk_cell BK144.out 9).trans rfl; have hcz38_10 : w36.cell? ⟨gb144, 10, none⟩ = some (.slice A0_10 l0_10.length c0_10) := (blk_cell BK144.out 10).trans rfl; have hfz38_0 := blk_frozen BK144.out 0; have hfz38_1 := blk_frozen BK144.out 1; have hfz38_2 := blk_frozen BK144.out 2; have hfz38_3 := blk_frozen BK144.out 3; have hfz38_4 := blk_frozen BK144.out 4; have hfz38_5 := blk_frozen BK144.out 5; have hfz38_6 := blk_frozen BK144.out 6; have hfz38_7 := blk_frozen BK144.out 7; have hfz38_8 := blk_frozen BK144.out 8; have hfz38_9 := blk_frozen BK144.out 9; have hfz38_10 := blk_frozen BK144.out 10; have hcz39_0 : w36.cell? ⟨gb143, 0, none⟩ = some (.int .i64 0) := (blk_cell BK143.out 0).trans rfl; have hcz39_1 : w36.cell? ⟨gb143, 1, none⟩ = some (.string (⟨#[]⟩ : ByteArray)) := (blk_cell BK143.out 1).trans rfl; have hcz39_2 : w36.cell? ⟨gb143, 2, none⟩ = some (.string (⟨#[]⟩ : ByteArray)) := (blk_cell BK143.out 2).trans rfl; have hcz39_3 : w36.cell? ⟨gb143, 3, none⟩ = some (.string (⟨#[]⟩ : ByteArray)) := (blk_cell BK143.out 3).trans rfl; have hcz39_4 : w36.cell? ⟨gb143, 4, none⟩ = some (.int .i64 0) := (blk_cell BK143.out 4).trans rfl; have hcz39_5 : w36.cell? ⟨gb143, 5, none⟩ = some (.bool false) := (blk_cell BK143.out 5).trans rfl; have hcz39_6 : w36.cell? ⟨gb143, 6, none⟩ = some (.slice none 0 0) := (blk_cell BK143.out 6).trans rfl; have hcz39_7 : w36.cell? ⟨gb143, 7, none⟩ = some (.slice none 0 0) := (blk_cell BK143.out 7).trans rfl; have hcz39_8 : w36.cell? ⟨gb143, 8, none⟩ = some (.slice none 0 0) := (blk_cell BK143.out 8).trans rfl; have hcz39_9 : w36.cell? ⟨gb143, 9, none⟩ = some (.slice none 0 0) := (blk_cell BK143.out 9).trans rfl; have hcz39_10 : w36.cell? ⟨gb143, 10, none⟩ = some (.slice none 0 0) := (blk_cell BK143.out 10).trans rfl; have hfz39_0 := blk_frozen BK143.out 0; have hfz39_1 := blk_frozen BK143.out 1; have hfz39_2 := blk_frozen BK143.out 2; have hfz39_3 := blk_frozen BK143.out 3; have hfz39_4 := blk_frozen BK143.out 4; have hfz39_5 := blk_frozen BK143.out 5; have hfz39_6 := blk_frozen BK143.out 6; have hfz39_7 := blk_frozen BK143.out 7; have hfz39_8 := blk_frozen BK143.out 8; have hfz39_9 := blk_frozen BK143.out 9; have hfz39_10 := blk_frozen BK143.out 10))
      refine bodyPost_ret (results_cell_row rfl _ _ gb143 28 #[.int .i64 a0_0, .string a0_1, .string a0_2, .string a0_3, .int .i64 a0_4, .bool a0_5, .slice Ao17 t145.length co17, .slice Ao23 y151.length co23, .slice Ao27 t154.length co27, .slice Ao33 y160.length co33, .slice Ao37 t163.length co37] (0, 0) _ rfl (by (with_reducible repeat (first | refine blk_drewN ?_ _ | refine blk_drew ?_ | refine blk_alloc ?_ _)); refine blk_put (cs := #[.int .i64 a0_0, .string a0_1, .string a0_2, .string a0_3, .int .i64 a0_4, .bool a0_5, .slice Ao17 t145.length co17, .slice Ao23 y151.length co23, .slice Ao27 t154.length co27, .slice Ao33 y160.length co33, .slice none 0 0]) ?_ 10 _ rfl; (with_reducible repeat (first | refine blk_drewN ?_ _ | refine blk_drew ?_ | refine blk_alloc ?_ _)); refine blk_put (cs := #[.int .i64 a0_0, .string a0_1, .string a0_2, .string a0_3, .int .i64 a0_4, .bool a0_5, .slice Ao17 t145.length co17, .slice Ao23 y151.length co23, .slice Ao27 t154.length co27, .slice none 0 0, .slice none 0 0]) ?_ 9 _ rfl; (with_reducible repeat (first | refine blk_drewN ?_ _ | refine blk_drew ?_ | refine blk_alloc ?_ _)); refine blk_put (cs := #[.int .i64 a0_0, .string a0_1, .string a0_2, .string a0_3, .int .i64 a0_4, .bool a0_5, .slice Ao17 t145.length co17, .slice Ao23 y151.length co23, .slice none 0 0, .slice none 0 0, .slice none 0 0]) ?_ 8 _ rfl; (with_reducible repeat (first | refine blk_drewN ?_ _ | refine blk_drew ?_ | refine blk_alloc ?_ _)); refine blk_put (cs := #[.int .i64 a0_0, .string a0_1, .string a0_2, .string a0_3, .int .i64 a0_4, .bool a0_5, .slice Ao17 t145.length co17, .slice none 0 0, .slice none 0 0, .slice none 0 0, .slice none 0 0]) ?_ 7 _ rfl; (with_reducible repeat (first | refine blk_drewN ?_ _ | refine blk_drew ?_ | refine blk_alloc ?_ _)); refine blk_put (cs := #[.int .i64 a0_0, .string a0_1, .string a0_2, .string a0_3, .int .i64 a0_4, .bool a0_5, .slice none 0 0, .slice none 0 0, .slice none 0 0, .slice none 0 0, .slice none 0 0]) ?_ 6 _ rfl; (with_reducible repeat (first | refine blk_drewN ?_ _ | refine blk_drew ?_ | refine blk_alloc ?_ _)); refine blk_put (cs := #[.int .i64 a0_0, .string a0_1, .string a0_2, .string a0_3, .int .i64 a0_4, .bool false, .slice none 0 0, .slice none 0 0, .slice none 0 0, .slice none 0 0, .slice none 0 0]) ?_ 5 _ rfl; (with_reducible repeat (first | refine blk_drewN ?_ _ | refine blk_drew ?_ | refine blk_alloc ?_ _)); refine blk_put (cs := #[.int .i64 a0_0, .string a0_1, .string a0_2, .string a0_3, .int .i64 0, .bool false, .slice none 0 0, .slice none 0 0, .slice none 0 0, .slice none 0 0, .slice none 0 0]) ?_ 4 _ rfl; (with_reducible repeat (first | refine blk_drewN ?_ _ | refine blk_drew ?_ | refine blk_alloc ?_ _)); refine blk_put (cs := #[.int .i64 a0_0, .string a0_1, .string a0_2, .string (⟨#[]⟩ : ByteArray), .int .i64 0, .bool false, .slice none 0 0, .slice none 0 0, .slice none 0 0, .slice none 0 0, .slice none 0 0]) ?_ 3 _ rfl; (with_reducible repeat (first | refine blk_drewN ?_ _ | refine blk_drew ?_ | refine blk_alloc ?_ _)); refine blk_put (cs := #[.int .i64 a0_0, .string a0_1, .string (⟨#[]⟩ : ByteArray), .string (⟨#[]⟩ : ByteArray), .int .i64 0, .bool false, .slice none 0 0, .slice none 0 0, .slice none 0 0, .slice none 0 0, .slice none 0 0]) ?_ 2 _ rfl; (with_reducible repeat (first | refine blk_drewN ?_ _ | refine blk_drew ?_ | refine blk_alloc ?_ _)); refine blk_put (cs := #[.int .i64 a0_0, .string (⟨#[]⟩ : ByteArray), .string (⟨#[]⟩ : ByteArray), .string (⟨#[]⟩ : ByteArray), .int .i64 0, .bool false, .slice none 0 0, .slice none 0 0, .slice none 0 0, .slice none 0 0, .slice none 0 0]) ?_ 1 _ rfl; (with_reducible repeat (first | refine blk_drewN ?_ _ | refine blk_drew ?_ | refine blk_alloc ?_ _)); refine blk_put (cs := #[.int .i64 0, .string (⟨#[]⟩ : ByteArray), .string (⟨#[]⟩ : ByteArray), .string (⟨#[]⟩ : ByteArray), .int .i64 0, .bool false, .slice none 0 0, .slice none 0 0, .slice none 0 0, .slice none 0 0, .slice none 0 0]) ?_ 0 _ rfl; (with_reducible repeat (first | refine blk_drewN ?_ _ | refine blk_drew ?_ | refine blk_alloc ?_ _)); refine blk_far ?_ NB143_144.out _; (with_reducible repeat (first | refine blk_drewN ?_ _ | refine blk_drew ?_ | refine blk_alloc ?_ _)); exact BK143.out) Try.underlying28 rfl (by kernel_rfl)) rfl ?_
      exact ⟨_, _, _, _, _, by first | rfl | (simp [errW_none, errW_some] <;> rfl) | (simp [*, errW_none, errW_some] <;> rfl), by (with_reducible repeat (first | apply Kd.R_alloc | apply Kd.R_drewN | apply Kd.R_drew)); exact Kd.R_mono (Kd.R_far (p := ⟨gb143, 10, none⟩) (Kd.R_far (p := ⟨gb143, 9, none⟩) (Kd.R_far (p := ⟨gb143, 8, none⟩) (Kd.R_far (p := ⟨gb143, 7, none⟩) (Kd.R_far (p := ⟨gb143, 6, none⟩) (Kd.R_far (p := ⟨gb143, 5, none⟩) (Kd.R_far (p := ⟨gb143, 4, none⟩) (Kd.R_far (p := ⟨gb143, 3, none⟩) (Kd.R_far (p := ⟨gb143, 2, none⟩) (Kd.R_far (p := ⟨gb143, 1, none⟩) (Kd.R_far (p := ⟨gb143, 0, none⟩) (Kd.R_far (p := ⟨gb144, 10, none⟩) (Kd.R_types (Kd.R_types HO147.out BK144.out (by decide)) BK143.out (by decide)) (fun _ hk => hk.1.2) (.slice Ao37 t163.length co37)) (fun _ hk => hk.2) (.int .i64 a0_0)) (fun _ hk => hk.2) (.string a0_1)) (fun _ hk => hk.2) (.string a0_2)) (fun _ hk => hk.2) (.string a0_3)) (fun _ hk => hk.2) (.int .i64 a0_4)) (fun _ hk => hk.2) (.bool a0_5)) (fun _ hk => hk.2) (.slice Ao17 t145.length co17)) (fun _ hk => hk.2) (.slice Ao23 y151.length co23)) (fun _ hk => hk.2) (.slice Ao27 t154.length co27)) (fun _ hk => hk.2) (.slice Ao33 y160.length co33)) (fun _ hk => hk.2) (.slice Ao37 t163.length co37)) (fun _ hk => trivial), by (with_reducible repeat (first | apply Kd.R_alloc | apply Kd.R_drewN | apply Kd.R_drew)); exact Kd.R_mono (Kd.R_far (p := ⟨gb143, 10, none⟩) (Kd.R_far (p := ⟨gb143, 9, none⟩) (Kd.R_far (p := ⟨gb143, 8, none⟩) (Kd.R_far (p := ⟨gb143, 7, none⟩) (Kd.R_far (p := ⟨gb143, 6, none⟩) (Kd.R_far (p := ⟨gb143, 5, none⟩) (Kd.R_far (p := ⟨gb143, 4, none⟩) (Kd.R_far (p := ⟨gb143, 3, none⟩) (Kd.R_far (p := ⟨gb143, 2, none⟩) (Kd.R_far (p := ⟨gb143, 1, none⟩) (Kd.R_far (p := ⟨gb143, 0, none⟩) (Kd.R_far (p := ⟨gb144, 10, none⟩) (Kd.R_types (Kd.R_types HO153.out BK144.out (by decide)) BK143.out (by decide)) (fun _ hk => hk.1.2) (.slice Ao37 t163.length co37)) (fun _ hk => hk.2) (.int .i64 a0_0)) (fun _ hk => hk.2) (.string a0_1)) (fun _ hk => hk.2) (.string a0_2)) (fun _ hk => hk.2) (.string a0_3)) (fun _ hk => hk.2) (.int .i64 a0_4)) (fun _ hk => hk.2) (.bool a0_5)) (fun _ hk => hk.2) (.slice Ao17 t145.length co17)) (fun _ hk => hk.2) (.slice Ao23 y151.length co23)) (fun _ hk => hk.2) (.slice Ao27 t154.length co27)) (fun _ hk => hk.2) (.slice Ao33 y160.length co33)) (fun _ hk => hk.2) (.slice Ao37 t163.length co37)) (fun _ hk => trivial), by (with_reducible repeat (first | apply Kd.R_alloc | apply Kd.R_drewN | apply Kd.R_drew)); exact Kd.R_mono (Kd.R_far (p := ⟨gb143, 10, none⟩) (Kd.R_far (p := ⟨gb143, 9, none⟩) (Kd.R_far (p := ⟨gb143, 8, none⟩) (Kd.R_far (p := ⟨gb143, 7, none⟩) (Kd.R_far (p := ⟨gb143, 6, none⟩) (Kd.R_far (p := ⟨gb143, 5, none⟩) (Kd.R_far (p := ⟨gb143, 4, none⟩) (Kd.R_far (p := ⟨gb143, 3, none⟩) (Kd.R_far (p := ⟨gb143, 2, none⟩) (Kd.R_far (p := ⟨gb143, 1, none⟩) (Kd.R_far (p := ⟨gb143, 0, none⟩) (Kd.R_far (p := ⟨gb144, 10, none⟩) (Kd.R_types (Kd.R_types HO156.out BK144.out (by decide)) BK143.out (by decide)) (fun _ hk => hk.1.2) (.slice Ao37 t163.length co37)) (fun _ hk => hk.2) (.int .i64 a0_0)) (fun _ hk => hk.2) (.string a0_1)) (fun _ hk => hk.2) (.string a0_2)) (fun _ hk => hk.2) (.string a0_3)) (fun _ hk => hk.2) (.int .i64 a0_4)) (fun _ hk => hk.2) (.bool a0_5)) (fun _ hk => hk.2) (.slice Ao17 t145.length co17)) (fun _ hk => hk.2) (.slice Ao23 y151.length co23)) (fun _ hk => hk.2) (.slice Ao27 t154.length co27)) (fun _ hk => hk.2) (.slice Ao33 y160.length co33)) (fun _ hk => hk.2) (.slice Ao37 t163.length co37)) (fun _ hk => trivial), by (with_reducible repeat (first | apply Kd.R_alloc | apply Kd.R_drewN | apply Kd.R_drew)); exact Kd.R_mono (Kd.R_far (p := ⟨gb143, 10, none⟩) (Kd.R_far (p := ⟨gb143, 9, none⟩) (Kd.R_far (p := ⟨gb143, 8, none⟩) (Kd.R_far (p := ⟨gb143, 7, none⟩) (Kd.R_far (p := ⟨gb143, 6, none⟩) (Kd.R_far (p := ⟨gb143, 5, none⟩) (Kd.R_far (p := ⟨gb143, 4, none⟩) (Kd.R_far (p := ⟨gb143, 3, none⟩) (Kd.R_far (p := ⟨gb143, 2, none⟩) (Kd.R_far (p := ⟨gb143, 1, none⟩) (Kd.R_far (p := ⟨gb143, 0, none⟩) (Kd.R_far (p := ⟨gb144, 10, none⟩) (Kd.R_types (Kd.R_types HO162.out BK144.out (by decide)) BK143.out (by decide)) (fun _ hk => hk.1.2) (.slice Ao37 t163.length co37)) (fun _ hk => hk.2) (.int .i64 a0_0)) (fun _ hk => hk.2) (.string a0_1)) (fun _ hk => hk.2) (.string a0_2)) (fun _ hk => hk.2) (.string a0_3)) (fun _ hk => hk.2) (.int .i64 a0_4)) (fun _ hk => hk.2) (.bool a0_5)) (fun _ hk => hk.2) (.slice Ao17 t145.length co17)) (fun _ hk => hk.2) (.slice Ao23 y151.length co23)) (fun _ hk => hk.2) (.slice Ao27 t154.length co27)) (fun _ hk => hk.2) (.slice Ao33 y160.length co33)) (fun _ hk => hk.2) (.slice Ao37 t163.length co37)) (fun _ hk => trivial), by (with_reducible repeat (first | apply Kd.R_alloc | apply Kd.R_drewN | apply Kd.R_drew)); exact Kd.R_mono (Kd.R_far (p := ⟨gb143, 10, none⟩) (Kd.R_far (p := ⟨gb143, 9, none⟩) (Kd.R_far (p := ⟨gb143, 8, none⟩) (Kd.R_far (p := ⟨gb143, 7, none⟩) (Kd.R_far (p := ⟨gb143, 6, none⟩) (Kd.R_far (p := ⟨gb143, 5, none⟩) (Kd.R_far (p := ⟨gb143, 4, none⟩) (Kd.R_far (p := ⟨gb143, 3, none⟩) (Kd.R_far (p := ⟨gb143, 2, none⟩) (Kd.R_far (p := ⟨gb143, 1, none⟩) (Kd.R_far (p := ⟨gb143, 0, none⟩) (Kd.R_far (p := ⟨gb144, 10, none⟩) (Kd.R_types (Kd.R_types HO165.out BK144.out (by decide)) BK143.out (by decide)) (fun _ hk => hk.1.2) (.slice Ao37 t163.length co37)) (fun _ hk => hk.2) (.int .i64 a0_0)) (fun _ hk => hk.2) (.string a0_1)) (fun _ hk => hk.2) (.string a0_2)) (fun _ hk => hk.2) (.string a0_3)) (fun _ hk => hk.2) (.int .i64 a0_4)) (fun _ hk => hk.2) (.bool a0_5)) (fun _ hk => hk.2) (.slice Ao17 t145.length co17)) (fun _ hk => hk.2) (.slice Ao23 y151.length co23)) (fun _ hk => hk.2) (.slice Ao27 t154.length co27)) (fun _ hk => hk.2) (.slice Ao33 y160.length co33)) (fun _ hk => hk.2) (.slice Ao37 t163.length co37)) (fun _ hk => trivial), by repeat (first | (with_reducible first | exact HB.out | apply below_alloc | apply pw_below_drewN | apply below_drew1 | refine below_set ?_ GE142.out | refine below_set ?_ GE143.out | refine below_set ?_ GE144.out) | exact HB.out)⟩
    · rw [if_neg c5] at H
      exact absurd H (by simp)
  · rw [if_neg c3] at H
    exact absurd H (by simp)
end Go.Proofs.Ytnojcnmnkkgkgaa.Q
end
