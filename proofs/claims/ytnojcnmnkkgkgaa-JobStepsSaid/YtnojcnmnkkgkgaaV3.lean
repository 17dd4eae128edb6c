/- Packed by shake.py: YtnojcnmnkkgkgaaJN2 YtnojcnmnkkgkgaaJL1 YtnojcnmnkkgkgaaJL2 YtnojcnmnkkgkgaaQ8 -/
import Derived.Test.YtnojcnmnkkgkgaaV2
set_option linter.unusedSectionVars false
section
namespace Go.Proofs.Kb
open Go Go.RowKit Go.Proofs.Ytnojcnmnkkgkgaa.Q Go.Proofs.YtnojcnmnkkgkgaaW.PrintWords Go.Proofs.YtnojcnmnkkgkgaaW.PrintLast Go.Proofs.YtnojcnmnkkgkgaaW.PrintMore
set_option linter.unusedVariables false
set_option linter.unusedSimpArgs false
set_option maxRecDepth 100000
attribute [local go_sem] max2_int min2_int max_two min_two max_three min_three max_four min_four
theorem St.base {w W1 w2 : World} {cs : List Chunk} (s : St W1 NoF w2 cs) (hb : Below w.heap.size w W1) : St w NoF w2 cs :=
  ⟨(Keep.of_below hb NoF).trans s.keep (fun b h => .inl h), s.h, s.nd, fun b h => (s.own b h).imp_right fun h => Nat.le_trans hb.size h⟩
def maxT (t : Int) : Int := if t < 1 then 1 else t
def New9 (w : World) (x : SV) (t : Int) (l6 : List S60) (l7 : List S62) (l8 : List S64) (l9 : List S66) (l10 : List ByteArray) (E : Ending) (w' : World) : Prop :=
  ∃ (jp : Nat) (y : SV), (y.f0 = x.f0 ∧ y.f1 = x.f1 ∧ y.f2 = x.f2 ∧ y.f3 = x.f3 ∧ y.f4 = x.f4 ∧ y.f5 = x.f5) ∧ E = .returned (.pointer (some ⟨jp, 0, none⟩)) ∧ St w NoF w' (blkC jp (.cells #[.int .i64 y.f0, .string y.f1, .string y.f2, .string y.f3, .int .i64 y.f4, .bool y.f5, .slice y.f6.A y.f6.n y.f6.c, .slice y.f7.A y.f7.n y.f7.c, .slice y.f8.A y.f8.n y.f8.c, .slice y.f9.A y.f9.n y.f9.c, .slice y.f10.A y.f10.n y.f10.c, .int .i64 1, .slice none 0 0, .int .i64 (maxT t), .int .i64 0] 68 (0, 0)) :: srC y l6 l7 l8 l9 l10)
set_option maxHeartbeats 8000000 in
theorem new_calls (w : World) (x : SV) (t : Int) (l6 : List S60) (l7 : List S62) (l8 : List S64) (l9 : List S66) (l10 : List ByteArray) (h : SR w x l6 l7 l8 l9 l10) (hn : SN l6 l7 l8 l9 l10) :
    Calls Try.prog 9 #[.agg #[.int .i64 x.f0, .string x.f1, .string x.f2, .string x.f3, .int .i64 x.f4, .bool x.f5, .slice x.f6.A x.f6.n x.f6.c, .slice x.f7.A x.f7.n x.f7.c, .slice x.f8.A x.f8.n x.f8.c, .slice x.f9.A x.f9.n x.f9.c, .slice x.f10.A x.f10.n x.f10.c], .int .i64 t] w (New9 w x t l6 l7 l8 l9 l10) := by
  obtain ⟨Q, hQ⟩ : ∃ Q, New9 w x t l6 l7 l8 l9 l10 = Q := ⟨_, rfl⟩
  have HQ := Aside0.mk hQ
  rw [hQ]
  have hu28 := Try.underlying28
  obtain ⟨n0, hn0⟩ : ∃ n, w.heap.size = n := ⟨_, rfl⟩
  have h1 := (St.nil0 w NoF).alloc #[.int .i64 x.f0, .string x.f1, .string x.f2, .string x.f3, .int .i64 x.f4, .bool x.f5, .slice x.f6.A x.f6.n x.f6.c, .slice x.f7.A x.f7.n x.f7.c, .slice x.f8.A x.f8.n x.f8.c, .slice x.f9.A x.f9.n x.f9.c, .slice x.f10.A x.f10.n x.f10.c] 28 hn0
  obtain ⟨W1, hW1⟩ : ∃ W, w.alloc (.cells #[.int .i64 x.f0, .string x.f1, .string x.f2, .string x.f3, .int .i64 x.f4, .bool x.f5, .slice x.f6.A x.f6.n x.f6.c, .slice x.f7.A x.f7.n x.f7.c, .slice x.f8.A x.f8.n x.f8.c, .slice x.f9.A x.f9.n x.f9.c, .slice x.f10.A x.f10.n x.f10.c] 28) = W := ⟨_, rfl⟩
  rw [hW1] at h1
  have hb := h1.blk 0 rfl
  have p0 : W1.cell? ⟨n0, 0, none⟩ = some (.int .i64 x.f0) := (blk_cell hb 0).trans rfl
  have p1 : W1.cell? ⟨n0, 1, none⟩ = some (.string x.f1) := (blk_cell hb 1).trans rfl
  have p2 : W1.cell? ⟨n0, 2, none⟩ = some (.string x.f2) := (blk_cell hb 2).trans rfl
  have p3 : W1.cell? ⟨n0, 3, none⟩ = some (.string x.f3) := (blk_cell hb 3).trans rfl
  have p4 : W1.cell? ⟨n0, 4, none⟩ = some (.int .i64 x.f4) := (blk_cell hb 4).trans rfl
  have p5 : W1.cell? ⟨n0, 5, none⟩ = some (.bool x.f5) := (blk_cell hb 5).trans rfl
  have p6 : W1.cell? ⟨n0, 6, none⟩ = some (.slice x.f6.A x.f6.n x.f6.c) := (blk_cell hb 6).trans rfl
  have p7 : W1.cell? ⟨n0, 7, none⟩ = some (.slice x.f7.A x.f7.n x.f7.c) := (blk_cell hb 7).trans rfl
  have p8 : W1.cell? ⟨n0, 8, none⟩ = some (.slice x.f8.A x.f8.n x.f8.c) := (blk_cell hb 8).trans rfl
  have p9 : W1.cell? ⟨n0, 9, none⟩ = some (.slice x.f9.A x.f9.n x.f9.c) := (blk_cell hb 9).trans rfl
  have p10 : W1.cell? ⟨n0, 10, none⟩ = some (.slice x.f10.A x.f10.n x.f10.c) := (blk_cell hb 10).trans rfl
  have hbl := keep_below h1.keep
  have HB := Aside0.mk hbl
  have A23 := Aside0.mk (cloned_calls W1 x l6 l7 l8 l9 l10 (h.below hbl) hn)
  clear h hn h1 hQ hb hbl
  go_enter Try.func9, Try.ntmps9
  go_wp2_with (go_at_call 23; refine A23.out.mono ?_; rintro E w2 ⟨y, hy, rfl, h⟩; obtain ⟨n9, hn9⟩ : ∃ n, w2.heap.size = n := ⟨_, rfl⟩; have HY := Aside0.mk hy; have HS := Aside0.mk ((h.base HB.out).alloc #[.int .i64 y.f0, .string y.f1, .string y.f2, .string y.f3, .int .i64 y.f4, .bool y.f5, .slice y.f6.A y.f6.n y.f6.c, .slice y.f7.A y.f7.n y.f7.c, .slice y.f8.A y.f8.n y.f8.c, .slice y.f9.A y.f9.n y.f9.c, .slice y.f10.A y.f10.n y.f10.c, .int .i64 1, .slice none 0 0, .int .i64 (maxT t), .int .i64 0] 68 hn9); clear h hy A23 p0 p1 p2 p3 p4 p5 p6 p7 p8 p9 p10)
  all_goals
    rw [← HQ.out]
    refine ⟨n9, y, HY.out, rfl, ?_⟩
    first
      | (have e : maxT t = t := (by unfold maxT; split <;> omega)
         rw [e] at HS ⊢
         exact HS.out.perm (List.perm_append_comm (l₂ := [_])))
      | (have e : maxT t = 1 := (by unfold maxT; split <;> omega)
         rw [e] at HS ⊢
         exact HS.out.perm (List.perm_append_comm (l₂ := [_])))
theorem phase_calls {w0 w : World} {F : Nat → Prop} {jp tp : Nat} {x : SV} {s : JS} {R : List Chunk} (h : JT w0 F jp tp x s R w) :
    Calls Try.prog 11 #[.pointer (some ⟨jp, 0, none⟩)] w fun E w' => E = .returned (.int .i64 s.ph) ∧ w' = w := by
  have hu68 := Try.underlying68
  have c11 := h.c11
  have pl := h.lt
  clear h
  go_enter Try.func11, Try.ntmps11
  go_wp2
  go_ret
  exact ⟨rfl, rfl⟩
end Go.Proofs.Kb
end
section
namespace Go.Proofs.Kb
open Go Go.RowKit Go.Proofs.Ytnojcnmnkkgkgaa.Q Go.Proofs.YtnojcnmnkkgkgaaW.PrintWords Go.Proofs.YtnojcnmnkkgkgaaW.PrintLast Go.Proofs.YtnojcnmnkkgkgaaW.PrintMore
set_option linter.unusedVariables false
set_option linter.unusedSimpArgs false
set_option maxRecDepth 100000
structure StepR (s s' : JS) : Prop where
  held : s'.held = s.held
  txt : s'.txt.length ≤ s.txt.length + 3
  tr : s.tr - 1 ≤ s'.tr ∧ s'.tr ≤ s.tr
  ans : ∀ a ∈ s'.ans, a ∈ s.ans
  af : s'.af = s.af ∨ s'.af = nextRow (s.ans.headD 0) ∨ s'.af = nextRow (s.ans.tail.headD 0)
theorem mem_tail {α : Type} {a : α} {l : List α} (h : a ∈ l.tail) : a ∈ l := List.mem_of_mem_tail h
section
variable {s : JS} {x : SV}
theorem abandon_said : (s.abandon x).held = s.held ∧ (s.abandon x).txt.length = s.txt.length + 1 ∧ (s.abandon x).tr = s.tr ∧ (s.abandon x).ans = s.ans.tail ∧ (s.abandon x).af = s.af ∧ (s.abandon x).er = s.er ∧ ((s.abandon x).ph = s.ph ∨ (s.abandon x).ph = 6) := by
  unfold JS.abandon
  split
  · exact ⟨rfl, List.length_append, rfl, rfl, rfl, rfl, .inl rfl⟩
  · exact ⟨rfl, List.length_append, rfl, rfl, rfl, rfl, .inr rfl⟩
theorem with_r (ws : List S97) (f : JS → JS) (hf : ∀ s : JS, (f s).held = s.held ∧ (f s).txt.length = s.txt.length + 1 ∧ (f s).tr = s.tr ∧ (f s).ans = s.ans.tail ∧ (f s).af = s.af) :
    (s.with_ ws f).held = s.held ∧ (s.with_ ws f).txt.length ≤ s.txt.length + 3 ∧ (s.with_ ws f).tr = s.tr ∧ (∀ a ∈ (s.with_ ws f).ans, a ∈ s.ans) ∧ (s.with_ ws f).af = s.af := by
  unfold JS.with_
  split
  · next h =>
    obtain ⟨h1, h2, h3, h4, h5⟩ := hf (s.tried ws)
    have hh : (s.tried ws).held = s.held + 1 := by
      show (if _ then _ else _) = _
      rw [if_pos h]
    refine ⟨?_, ?_, h3, fun a ha => ?_, h5⟩
    · show (f (s.tried ws)).held - 1 = _
      omega
    · show ((f (s.tried ws)).txt ++ [_]).length ≤ _
      rw [List.length_append, h2]
      show (s.txt ++ [_]).length + 1 + 1 ≤ _
      rw [List.length_append]
      exact Nat.le_refl _
    · have ha' : a ∈ (f (s.tried ws)).ans := ha
      rw [h4] at ha'
      exact mem_tail (mem_tail ha')
  · next h =>
    refine ⟨?_, ?_, rfl, fun a ha => mem_tail ha, rfl⟩
    · show (if _ then _ else _) = _
      rw [if_neg h]
    · show (s.txt ++ [_]).length ≤ _
      rw [List.length_append]
      simp
theorem failed_r (p : Int) : (s.failed p).held = s.held ∧ (s.failed p).txt = s.txt ∧ (s.tr - 1 ≤ (s.failed p).tr ∧ (s.failed p).tr ≤ s.tr) ∧ (s.failed p).ans = s.ans ∧ (s.failed p).af = s.af ∧ ((s.failed p).ph = s.ph ∨ (s.failed p).ph = p) := by
  unfold JS.failed
  split
  · next h => exact ⟨rfl, rfl, ⟨by show s.tr - 1 ≤ 0; omega, by show 0 ≤ s.tr; omega⟩, rfl, rfl, .inr rfl⟩
  · exact ⟨rfl, rfl, ⟨Int.le_refl _, by show s.tr - 1 ≤ s.tr; omega⟩, rfl, rfl, .inl rfl⟩
theorem register_f (s : JS) : (s.register x).held = s.held ∧ (s.register x).txt.length = s.txt.length + 1 ∧ (s.register x).tr = s.tr ∧ (s.register x).ans = s.ans.tail ∧ (s.register x).af = s.af := ⟨rfl, List.length_append, rfl, rfl, rfl⟩
theorem settle_f (s : JS) : (s.settle x).held = s.held ∧ (s.settle x).txt.length = s.txt.length + 1 ∧ (s.settle x).tr = s.tr ∧ (s.settle x).ans = s.ans.tail ∧ (s.settle x).af = s.af := ⟨rfl, List.length_append, rfl, rfl, rfl⟩
theorem abandon_f (s : JS) : (s.abandon x).held = s.held ∧ (s.abandon x).txt.length = s.txt.length + 1 ∧ (s.abandon x).tr = s.tr ∧ (s.abandon x).ans = s.ans.tail ∧ (s.abandon x).af = s.af :=
  let ⟨a, b, c, d, e, _⟩ := abandon_said (s := s) (x := x); ⟨a, b, c, d, e⟩
theorem step_r : StepR s (s.step x) := by
  unfold JS.step
  split
  · obtain ⟨a, b, c, d, e⟩ := with_r (s := s) (planW x.f1 4) (fun s => s.register x) register_f
    split
    · exact ⟨a, b, by omega, d, .inl e⟩
    · obtain ⟨a', b', c', d', e', _⟩ := failed_r (s := s.with_ (planW x.f1 4) (fun s => s.register x)) 6
      exact ⟨by omega, by rw [b']; exact b, by omega, by rw [d']; exact d, .inl (e'.trans e)⟩
  split
  · split
    · exact ⟨rfl, by show (s.txt ++ [_]).length ≤ _; rw [List.length_append]; simp, by show s.tr - 1 ≤ s.tr ∧ s.tr ≤ s.tr; omega, fun a h => mem_tail h, .inl rfl⟩
    · exact ⟨rfl, by show (s.txt ++ [_]).length ≤ _; rw [List.length_append]; simp, by show s.tr - 1 ≤ s.tr ∧ s.tr ≤ s.tr; omega, fun a h => mem_tail h, .inl rfl⟩
  split
  · split
    · unfold JS.fill
      split
      · exact ⟨rfl, by show ((s.txt ++ [_]) ++ [_]).length ≤ _; rw [List.length_append, List.length_append]; simp, by show s.tr - 1 ≤ s.tr ∧ s.tr ≤ s.tr; omega, fun a h => mem_tail (mem_tail h), .inl rfl⟩
      · exact ⟨rfl, by show ((s.txt ++ [_]) ++ [_]).length ≤ _; rw [List.length_append, List.length_append]; simp, by show s.tr - 1 ≤ s.tr ∧ s.tr ≤ s.tr; omega, fun a h => mem_tail (mem_tail h), .inr (.inr rfl)⟩
    · exact ⟨rfl, by show (s.txt ++ [_]).length ≤ _; rw [List.length_append]; simp, by show s.tr - 1 ≤ s.tr ∧ s.tr ≤ s.tr; omega, fun a h => mem_tail h, .inl rfl⟩
  split
  · obtain ⟨a, b, c, d, e⟩ := with_r (s := s) (planW x.f1 3) (fun s => s.settle x) settle_f
    split
    · exact ⟨a, b, by omega, d, .inl e⟩
    · obtain ⟨a', b', c', d', e', _⟩ := failed_r (s := s.with_ (planW x.f1 3) (fun s => s.settle x)) 5
      exact ⟨by omega, by rw [b']; exact b, by omega, by rw [d']; exact d, .inl (e'.trans e)⟩
  split
  · obtain ⟨a, b, c, d, e⟩ := with_r (s := s) ((planW x.f1 3).take 2) (fun s => s.abandon x) abandon_f
    exact ⟨a, b, by omega, d, .inl e⟩
  · exact ⟨rfl, by omega, by omega, fun a h => h, .inl rfl⟩
noncomputable def JS.steps (s : JS) (x : SV) : Nat → JS
  | 0 => s
  | n + 1 => (s.steps x n).step x
def WfI (a : Int) : Prop := (Lit.int .i64 a).wf = true
theorem headD_wf {l : List Int} (h : ∀ a ∈ l, WfI a) : WfI (l.headD 0) := by
  cases l with
  | nil => exact (by decide : (Lit.int .i64 0).wf = true)
  | cons a l => exact h a (by simp)
structure Beg (s : JS) (x : SV) : Prop where
  txt : s.txt = []
  held : s.held = 0
  tr : 1 ≤ s.tr ∧ s.tr ≤ 9223372036854775807
  x1 : x.f1.size ≤ 1000
  x2 : x.f2.size ≤ 1000
  ans : ∀ a ∈ s.ans, WfI a
  af : ∀ y ∈ s.af, WfI y.f1
  l : s.af.length ≤ 1000
theorem steps_r (h : Beg s x) : ∀ n, (s.steps x n).held = 0 ∧ (s.steps x n).txt.length ≤ 3 * n ∧ (1 - (n : Int) ≤ (s.steps x n).tr ∧ (s.steps x n).tr ≤ s.tr) ∧ (∀ a ∈ (s.steps x n).ans, WfI a) ∧ (∀ y ∈ (s.steps x n).af, WfI y.f1) ∧ (s.steps x n).af.length ≤ 1000
  | 0 => ⟨h.held, by show s.txt.length ≤ _; rw [h.txt]; exact Nat.zero_le _, by have := h.tr; exact ⟨by show _ ≤ s.tr; omega, Int.le_refl _⟩, h.ans, h.af, h.l⟩
  | n + 1 => by
    obtain ⟨a, b, c, d, e, f⟩ := steps_r h n
    have r := step_r (s := s.steps x n) (x := x)
    refine ⟨r.held.trans a, Nat.le_trans r.txt (by omega), ?_, fun y hy => d y (r.ans y hy), ?_⟩
    · have := r.tr
      show _ ≤ ((s.steps x n).step x).tr ∧ ((s.steps x n).step x).tr ≤ _
      omega
    · have q : ∀ z, WfI z → (∀ y ∈ nextRow z, WfI y.f1) ∧ (nextRow z).length ≤ 1000 := fun z hz => ⟨fun y hy => by
        obtain rfl := List.mem_singleton.1 hy
        exact hz, (show 1 ≤ 1000 by decide)⟩
      show (∀ y ∈ ((s.steps x n).step x).af, WfI y.f1) ∧ ((s.steps x n).step x).af.length ≤ 1000
      rcases r.af with h1 | h1 | h1
      · rw [h1]; exact ⟨e, f⟩
      · rw [h1]; exact q _ (headD_wf d)
      · rw [h1]; exact q _ (headD_wf fun a ha => d a (mem_tail ha))
theorem steps_ok (h : Beg s x) (n : Nat) (hn : n < 300000) : OkJ (s.steps x n) x := by
  obtain ⟨a, b, c, d, e, f⟩ := steps_r h n
  have := h.tr
  exact ⟨by omega, by rw [a]; decide, by omega, h.x1, h.x2, e, f⟩
end
theorem JT.mk {w0 W : World} {jp tp : Nat} {y : SV} {ph tr er : Int} {af : List S60} {A : Option Addr} {c : Nat} {av : Value} {ans : List Int} {R : List Chunk}
    (h : St w0 NoF W (ansC av ans :: blkC tp (.cells #[av, .slice none 0 0, .int .i64 0] 36 (0, 0)) :: blkC jp (.cells #[.int .i64 y.f0, .string y.f1, .string y.f2, .string y.f3, .int .i64 y.f4, .bool y.f5, .slice y.f6.A y.f6.n y.f6.c, .slice y.f7.A y.f7.n y.f7.c, .slice y.f8.A y.f8.n y.f8.c, .slice y.f9.A y.f9.n y.f9.c, .slice y.f10.A y.f10.n y.f10.c, .int .i64 ph, .slice A af.length c, .int .i64 tr, .int .i64 er] 68 (0, 0)) :: rowXC valE (.slice A af.length c) af :: R)) :
    JT w0 NoF jp tp y ⟨ph, af, tr, er, ans, [], 0⟩ R W := by
  refine ⟨A, c, av, .slice none 0 0, ?_⟩
  exact (St.fresh h (Below.refl _ _) (rowXC txtE (.slice none 0 0) []) RowX.nil (nd_bl (.slice none 0 0)) (fun b hb => by simp [rowXC, bl] at hb; cases hb)).perm (perm3' _ _ _ _)
end Go.Proofs.Kb
end
section
namespace Go.Proofs.Kb
open Go Go.RowKit Go.Proofs.Ytnojcnmnkkgkgaa.Q Go.Proofs.YtnojcnmnkkgkgaaW.PrintWords Go.Proofs.YtnojcnmnkkgkgaaW.PrintLast Go.Proofs.YtnojcnmnkkgkgaaW.PrintMore
set_option linter.unusedVariables false
set_option linter.unusedSimpArgs false
set_option maxRecDepth 100000
theorem JT.start {w0 W : World} {jp tp : Nat} {y : SV} {tr : Int} {av : Value} {ans : List Int} {R : List Chunk} (h : St w0 NoF W (ansC av ans :: blkC jp (.cells #[.int .i64 y.f0, .string y.f1, .string y.f2, .string y.f3, .int .i64 y.f4, .bool y.f5, .slice y.f6.A y.f6.n y.f6.c, .slice y.f7.A y.f7.n y.f7.c, .slice y.f8.A y.f8.n y.f8.c, .slice y.f9.A y.f9.n y.f9.c, .slice y.f10.A y.f10.n y.f10.c, .int .i64 1, .slice none 0 0, .int .i64 tr, .int .i64 0] 68 (0, 0)) :: R)) (hn : W.heap.size = tp) :
    JT w0 NoF jp tp y ⟨1, [], tr, 0, ans, [], 0⟩ R (W.alloc (.cells #[av, .slice none 0 0, .int .i64 0] 36)) := by
  have h1 := (h.alloc #[av, .slice none 0 0, .int .i64 0] 36 hn).perm (B := blkC tp _ :: ansC av ans :: blkC jp _ :: R) (List.perm_append_comm (l₂ := [_]))
  have h2 := St.fresh h1 (Below.refl _ _) (rowXC valE (.slice none 0 0) []) RowX.nil (nd_bl (.slice none 0 0)) (fun b hb => by simp [rowXC, bl] at hb; cases hb)
  have h3 := h2.perm (B := ansC av ans :: blkC tp _ :: blkC jp _ :: rowXC valE (.slice none 0 0) [] :: R) (by
    refine (List.Perm.append_right R (l₁ := [_, _, _, _]) (l₂ := [_, _, _, _]) ?_)
    exact perm_ix _ [2, 1, 3, 0] 4 rfl (by decide))
  exact JT.mk (A := none) (c := 0) h3
theorem JT.asked {w0 w : World} {F : Nat → Prop} {jp tp : Nat} {x : SV} {s : JS} {R : List Chunk} (h : JT w0 F jp tp x s R w) : ∃ A c, w.cell? ⟨tp, 1, none⟩ = some (.slice A s.txt.length c) ∧ w.cell? ⟨tp, 2, none⟩ = some (.int .i64 s.held) ∧ tp < w.heap.size ∧ RowX txtE w (.slice A s.txt.length c) s.txt := by
  obtain ⟨A1, c1, av, kv, h⟩ := h
  have hb := h.blk 1 rfl
  have hr := h.rowX 2 rfl
  obtain ⟨A, c, rfl⟩ := hr.form
  exact ⟨A, c, (blk_cell hb 1).trans rfl, (blk_cell hb 2).trans rfl, lt_of_some hb, hr⟩
theorem SR.none_ (w : World) (f0 : Int) (f1 f2 f3 : ByteArray) (f4 : Int) (f5 : Bool) : SR w ⟨f0, f1, f2, f3, f4, f5, ⟨none, 0, 0⟩, ⟨none, 0, 0⟩, ⟨none, 0, 0⟩, ⟨none, 0, 0⟩, ⟨none, 0, 0⟩⟩ [] [] [] [] [] := ⟨Src.nil, Src.nil, Src.nil, Src.nil, Src.nil⟩
theorem SN.none_ : SN [] [] [] [] [] := ⟨by decide, by decide, by decide, by decide, by decide⟩
def alS : JS := ⟨1, [], 3, 0, [1, 0, 0, 1, 0, 1, 0], [], 0⟩
theorem al_e1 (y : SV) : StepE (alS.steps y 1) = .returned (.tuple #[.int .i64 0, .bool false]) := by kernel_rfl
theorem al_e2 (y : SV) : StepE (alS.steps y 2) = .returned (.tuple #[.int .i64 0, .bool false]) := by kernel_rfl
theorem al_e3 (y : SV) : StepE (alS.steps y 3) = .returned (.tuple #[.int .i64 0, .bool false]) := by kernel_rfl
theorem al_e4 (y : SV) : StepE (alS.steps y 4) = .returned (.tuple #[.int .i64 0, .bool true]) := by kernel_rfl
theorem al_e (y : SV) (i : Nat) (h : i < 4) : StepE (alS.steps y (i + 1)) = .returned (.tuple #[.int .i64 0, .bool (decide (i = 3))]) := by
  match i, h with
  | 0, _ => exact al_e1 y
  | 1, _ => exact al_e2 y
  | 2, _ => exact al_e3 y
  | 3, _ => exact al_e4 y
theorem al_p (y : SV) : (alS.steps y 4).ph = 6 := by kernel_rfl
theorem al_t (y : SV) : (alS.steps y 4).txt.length = 9 := by kernel_rfl
theorem al_ans : ∀ a ∈ alS.ans, WfI a := by
  intro a ha
  have : a = 0 ∨ a = 1 := by
    simp only [alS, List.mem_cons, List.not_mem_nil, or_false] at ha
    omega
  rcases this with rfl | rfl
  · exact (by decide : (Lit.int .i64 0).wf = true)
  · exact (by decide : (Lit.int .i64 1).wf = true)
theorem al_beg (y : SV) (h1 : y.f1.size ≤ 1000) (h2 : y.f2.size ≤ 1000) : Beg alS y :=
  ⟨rfl, rfl, by decide, h1, h2, al_ans, fun y hy => (by cases hy), Nat.zero_le _⟩
set_option maxHeartbeats 8000000 in
theorem alive_calls (w : World) : Calls Try.prog 7 #[] w fun E w' => E = .returned (.bool true) ∧ Below w.heap.size w w' := by
  obtain ⟨Q, hQ⟩ : ∃ Q, (fun E w' => E = Ending.returned (.bool true) ∧ Below w.heap.size w w') = Q := ⟨_, rfl⟩
  have HQ := Aside0.mk hQ
  rw [hQ]
  clear hQ
  have hu28 := Try.underlying28
  have hu31 := Try.underlying31
  have hu36 := Try.underlying36
  have hu34 := Try.underlying34
  have hu32 := Try.underlying32
  have A9 := Aside0.mk (new_calls w ⟨0, (⟨#[116]⟩ : ByteArray), (⟨#[120]⟩ : ByteArray), ⟨#[]⟩, 0, false, ⟨none, 0, 0⟩, ⟨none, 0, 0⟩, ⟨none, 0, 0⟩, ⟨none, 0, 0⟩, ⟨none, 0, 0⟩⟩ 3 [] [] [] [] [] (SR.none_ _ _ _ _ _ _ _) SN.none_)
  go_enter Try.func7, Try.ntmps7
  go_wp2_with (first
    | (go_at_call 9; refine A9.out.mono ?_; rintro E w1 ⟨jp, y, hy, rfl, h⟩; obtain ⟨R, hR⟩ : ∃ R, srC y [] [] [] [] [] = R := ⟨_, rfl⟩; rw [hR] at h; obtain ⟨n8, hn8⟩ : ∃ n, w1.heap.size = n := ⟨_, rfl⟩; have h8 := h.alloc #[.int .i64 1, .int .i64 0, .int .i64 0, .int .i64 1, .int .i64 0, .int .i64 1, .int .i64 0] 3 hn8; obtain ⟨W8, hW8⟩ : ∃ W, w1.alloc (.cells #[.int .i64 1, .int .i64 0, .int .i64 0, .int .i64 1, .int .i64 0, .int .i64 1, .int .i64 0] 3) = W := ⟨_, rfl⟩; rw [hW8] at h8; obtain ⟨tp, htp⟩ : ∃ n, W8.heap.size = n := ⟨_, rfl⟩; have h9 := (St.as (h8.perm (B := blkC n8 _ :: blkC jp _ :: R) (List.perm_append_comm (l₂ := [_]))) 0 rfl (ansC (.slice (some ⟨n8, 0, none⟩) 7 7) [1, 0, 0, 1, 0, 1, 0]) (fun hh => RowX.ans (rowX_blk (E := intE) (l := [1, 0, 0, 1, 0, 1, 0]) hh rfl (by simp [maxLen]))) rfl); have HS := Aside0.mk (show JT w NoF jp tp y alS R _ from JT.start h9 htp); have HJ := Aside0.mk (al_beg y (by rw [hy.2.1]; decide) (by rw [hy.2.2.1]; decide)); obtain ⟨W9, hW9⟩ : ∃ W, W8.alloc (.cells #[.slice (some ⟨n8, 0, none⟩) 7 7, .slice none 0 0, .int .i64 0] 36) = W := ⟨_, rfl⟩; rw [hW9] at HS; have A11 := Aside0.mk (phase_calls HS.out); clear h h8 h9 hy hR A9)
    | (go_at_call 11; refine A11.out.mono ?_; rintro E w3 ⟨rfl, rfl⟩; clear A11))
  go_loopg [3] 4 (fun gq v3 wx => ∃ i : Nat, v3 = .int .i64 i ∧ i + gq = 4 ∧ Aside0 (JT w NoF jp tp y (alS.steps y i) R wx))
  case atStart => exact ⟨0, rfl, by omega, HS⟩
  case round =>
    clear HS
    obtain ⟨i, rfl, hi, HS⟩ := hrel
    cases gk with
    | zero =>
      obtain rfl : i = 4 := by omega
      have h := HS.out
      have hp := phase_calls h
      rw [al_p] at hp
      have A11 := Aside0.mk hp
      obtain ⟨A, c, q1, q2, q3, _⟩ := h.asked
      rw [al_t] at q1
      clear h hp
      go_wp2_with (go_at_call 11; refine A11.out.mono ?_; rintro E w3 ⟨rfl, rfl⟩; clear A11)
      rw [← HQ.out]
      exact ⟨rfl, keep_below HS.out.rest.keep⟩
    | succ gq =>
      have hi4 : i < 4 := by omega
      have hin : (i : Int) < 4 := by omega
      have A10 := Aside0.mk (step_calls HS.out (steps_ok HJ.out i (by omega)))
      have he := al_e y i hi4
      rw [show (alS.steps y i).step y = alS.steps y (i + 1) from rfl, he] at A10
      clear he HS
      by_cases h3 : i = 3
      · subst h3
        go_wp2_with (go_at_call 10; refine A10.out.mono ?_; rintro E w3 ⟨rfl, h⟩; have HS2 := Aside0.mk h; clear h A10)
        go_roundg gq
        case measure => omega
        case rel => exact ⟨3 + 1, by go_num, by omega, HS2⟩
      · have h3i : ¬ (i : Int) = 3 := by omega
        rw [decide_eq_false h3] at A10
        go_wp2_with (go_at_call 10; refine A10.out.mono ?_; rintro E w3 ⟨rfl, h⟩; have HS2 := Aside0.mk h; clear h A10)
        go_roundg gq
        case measure => omega
        case rel => exact ⟨i + 1, by go_num, by omega, HS2⟩
end Go.Proofs.Kb
end
section
namespace Go.Proofs.Ytnojcnmnkkgkgaa.Q
open Go.RowKit Go.Proofs.YtnojcnmnkkgkgaaW.PrintWords Go.Proofs.YtnojcnmnkkgkgaaW.PrintLast Go.Proofs.YtnojcnmnkkgkgaaW.PrintMore
attribute [local go_sem] max2_int min2_int max_two min_two max_three min_three max_four min_four
set_option linter.unusedVariables false
set_option linter.unusedSimpArgs false
mutual
def interlocklaw15_GreatStmt.j0 : Nat → Bool → Int → ByteArray → ByteArray → ByteArray → Int → Bool → List (S60) → List (S62) → List (S64) → List (S66) → List ByteArray → Option (Bool)
  | 0, _, _, _, _, _, _, _, _, _, _, _, _ => none
  | k + 1, x53, x105000, x105001, x105002, x105003, x105004, x105005, x105006, x105007, x105008, x105009, x105010 => if x53 = true then (some true) else (interlocklaw15_GreatStmt.l0 k 0 x105000 x105001 x105002 x105003 x105004 x105005 x105006 x105007 x105008 x105009 x105010)
def interlocklaw15_GreatStmt.l0 : Nat → Int → Int → ByteArray → ByteArray → ByteArray → Int → Bool → List (S60) → List (S62) → List (S64) → List (S66) → List ByteArray → Option (Bool)
  | 0, _, _, _, _, _, _, _, _, _, _, _, _ => none
  | k + 1, x3, x105000, x105001, x105002, x105003, x105004, x105005, x105006, x105007, x105008, x105009, x105010 => if x3 < (x105006.length : Int) then (if 0 ≤ x3 then (if (((rd_T60 x105006 x3).f2).size : Int) > 50 then (some true) else (interlocklaw15_GreatStmt.l0 k (wrap64 (x3 + 1)) x105000 x105001 x105002 x105003 x105004 x105005 x105006 x105007 x105008 x105009 x105010)) else (none)) else (interlocklaw15_GreatStmt.l1 k 0 x105000 x105001 x105002 x105003 x105004 x105005 x105006 x105007 x105008 x105009 x105010)
def interlocklaw15_GreatStmt.l1 : Nat → Int → Int → ByteArray → ByteArray → ByteArray → Int → Bool → List (S60) → List (S62) → List (S64) → List (S66) → List ByteArray → Option (Bool)
  | 0, _, _, _, _, _, _, _, _, _, _, _, _ => none
  | k + 1, x4, x105000, x105001, x105002, x105003, x105004, x105005, x105006, x105007, x105008, x105009, x105010 => if x4 < (x105007.length : Int) then (if 0 ≤ x4 then (if (((rd_T62 x105007 x4).f1.f2).size : Int) > 50 then (some true) else (if (((rd_T62 x105007 x4).f0).size : Int) > 50 then (some true) else (interlocklaw15_GreatStmt.l1 k (wrap64 (x4 + 1)) x105000 x105001 x105002 x105003 x105004 x105005 x105006 x105007 x105008 x105009 x105010))) else (none)) else (interlocklaw15_GreatStmt.l2 k 0 x105000 x105001 x105002 x105003 x105004 x105005 x105006 x105007 x105008 x105009 x105010)
def interlocklaw15_GreatStmt.l2 : Nat → Int → Int → ByteArray → ByteArray → ByteArray → Int → Bool → List (S60) → List (S62) → List (S64) → List (S66) → List ByteArray → Option (Bool)
  | 0, _, _, _, _, _, _, _, _, _, _, _, _ => none
  | k + 1, x5, x105000, x105001, x105002, x105003, x105004, x105005, x105006, x105007, x105008, x105009, x105010 => if x5 < (x105008.length : Int) then (if 0 ≤ x5 then (if (((rd_T64 x105008 x5).f2.f2).size : Int) > 50 then (some true) else (if (((rd_T64 x105008 x5).f0).size : Int) > 50 then (some true) else (interlocklaw15_GreatStmt.l2 k (wrap64 (x5 + 1)) x105000 x105001 x105002 x105003 x105004 x105005 x105006 x105007 x105008 x105009 x105010))) else (none)) else (interlocklaw15_GreatStmt.l3 k 0 x105000 x105001 x105002 x105003 x105004 x105005 x105006 x105007 x105008 x105009 x105010)
def interlocklaw15_GreatStmt.l3 : Nat → Int → Int → ByteArray → ByteArray → ByteArray → Int → Bool → List (S60) → List (S62) → List (S64) → List (S66) → List ByteArray → Option (Bool)
  | 0, _, _, _, _, _, _, _, _, _, _, _, _ => none
  | k + 1, x6, x105000, x105001, x105002, x105003, x105004, x105005, x105006, x105007, x105008, x105009, x105010 => if x6 < (x105009.length : Int) then (if 0 ≤ x6 then (if (((rd_T66 x105009 x6).f0).size : Int) > 50 then (some true) else (interlocklaw15_GreatStmt.l3 k (wrap64 (x6 + 1)) x105000 x105001 x105002 x105003 x105004 x105005 x105006 x105007 x105008 x105009 x105010)) else (none)) else (interlocklaw15_GreatStmt.l4 k 0 x105000 x105001 x105002 x105003 x105004 x105005 x105006 x105007 x105008 x105009 x105010)
def interlocklaw15_GreatStmt.l4 : Nat → Int → Int → ByteArray → ByteArray → ByteArray → Int → Bool → List (S60) → List (S62) → List (S64) → List (S66) → List ByteArray → Option (Bool)
  | 0, _, _, _, _, _, _, _, _, _, _, _, _ => none
  | k + 1, x7, x105000, x105001, x105002, x105003, x105004, x105005, x105006, x105007, x105008, x105009, x105010 => if x7 < (x105010.length : Int) then (if 0 ≤ x7 then (if ((rdOf ByteArray.empty x105010 x7).size : Int) > 50 then (some true) else (interlocklaw15_GreatStmt.l4 k (wrap64 (x7 + 1)) x105000 x105001 x105002 x105003 x105004 x105005 x105006 x105007 x105008 x105009 x105010)) else (none)) else (some false)
end
def interlocklaw15_GreatStmt.f (k : Nat) (a0_0 : Int) (a0_1 : ByteArray) (a0_2 : ByteArray) (a0_3 : ByteArray) (a0_4 : Int) (a0_5 : Bool) (l0_6 : List (S60)) (l0_7 : List (S62)) (l0_8 : List (S64)) (l0_9 : List (S66)) (l0_10 : List ByteArray) : Option (Bool) := if (l0_6.length : Int) > 20 then (interlocklaw15_GreatStmt.j0 k true a0_0 a0_1 a0_2 a0_3 a0_4 a0_5 l0_6 l0_7 l0_8 l0_9 l0_10) else (if (l0_7.length : Int) > 20 then (interlocklaw15_GreatStmt.j0 k true a0_0 a0_1 a0_2 a0_3 a0_4 a0_5 l0_6 l0_7 l0_8 l0_9 l0_10) else (if (l0_8.length : Int) > 20 then (interlocklaw15_GreatStmt.j0 k true a0_0 a0_1 a0_2 a0_3 a0_4 a0_5 l0_6 l0_7 l0_8 l0_9 l0_10) else (if (l0_9.length : Int) > 20 then (interlocklaw15_GreatStmt.j0 k true a0_0 a0_1 a0_2 a0_3 a0_4 a0_5 l0_6 l0_7 l0_8 l0_9 l0_10) else (if (l0_10.length : Int) > 20 then (interlocklaw15_GreatStmt.j0 k true a0_0 a0_1 a0_2 a0_3 a0_4 a0_5 l0_6 l0_7 l0_8 l0_9 l0_10) else (if (a0_1.size : Int) > 50 then (interlocklaw15_GreatStmt.j0 k true a0_0 a0_1 a0_2 a0_3 a0_4 a0_5 l0_6 l0_7 l0_8 l0_9 l0_10) else (if (a0_2.size : Int) > 50 then (interlocklaw15_GreatStmt.j0 k true a0_0 a0_1 a0_2 a0_3 a0_4 a0_5 l0_6 l0_7 l0_8 l0_9 l0_10) else (interlocklaw15_GreatStmt.j0 k (decide ((a0_3.size : Int) > 50)) a0_0 a0_1 a0_2 a0_3 a0_4 a0_5 l0_6 l0_7 l0_8 l0_9 l0_10)))))))
theorem interlocklaw15_GreatStmt.mono_l : ∀ k, (∀ y0 y1 y2 y3 y4 y5 y6 y7 y8 y9 y10 y11, LeO (interlocklaw15_GreatStmt.j0 k y0 y1 y2 y3 y4 y5 y6 y7 y8 y9 y10 y11) (interlocklaw15_GreatStmt.j0 (k + 1) y0 y1 y2 y3 y4 y5 y6 y7 y8 y9 y10 y11)) ∧ (∀ y0 y1 y2 y3 y4 y5 y6 y7 y8 y9 y10 y11, LeO (interlocklaw15_GreatStmt.l0 k y0 y1 y2 y3 y4 y5 y6 y7 y8 y9 y10 y11) (interlocklaw15_GreatStmt.l0 (k + 1) y0 y1 y2 y3 y4 y5 y6 y7 y8 y9 y10 y11)) ∧ (∀ y0 y1 y2 y3 y4 y5 y6 y7 y8 y9 y10 y11, LeO (interlocklaw15_GreatStmt.l1 k y0 y1 y2 y3 y4 y5 y6 y7 y8 y9 y10 y11) (interlocklaw15_GreatStmt.l1 (k + 1) y0 y1 y2 y3 y4 y5 y6 y7 y8 y9 y10 y11)) ∧ (∀ y0 y1 y2 y3 y4 y5 y6 y7 y8 y9 y10 y11, LeO (interlocklaw15_GreatStmt.l2 k y0 y1 y2 y3 y4 y5 y6 y7 y8 y9 y10 y11) (interlocklaw15_GreatStmt.l2 (k + 1) y0 y1 y2 y3 y4 y5 y6 y7 y8 y9 y10 y11)) ∧ (∀ y0 y1 y2 y3 y4 y5 y6 y7 y8 y9 y10 y11, LeO (interlocklaw15_GreatStmt.l3 k y0 y1 y2 y3 y4 y5 y6 y7 y8 y9 y10 y11) (interlocklaw15_GreatStmt.l3 (k + 1) y0 y1 y2 y3 y4 y5 y6 y7 y8 y9 y10 y11)) ∧ (∀ y0 y1 y2 y3 y4 y5 y6 y7 y8 y9 y10 y11, LeO (interlocklaw15_GreatStmt.l4 k y0 y1 y2 y3 y4 y5 y6 y7 y8 y9 y10 y11) (interlocklaw15_GreatStmt.l4 (k + 1) y0 y1 y2 y3 y4 y5 y6 y7 y8 y9 y10 y11))
  | 0 => ⟨fun _ _ _ _ _ _ _ _ _ _ _ _ r h => by simp [interlocklaw15_GreatStmt.j0] at h, fun _ _ _ _ _ _ _ _ _ _ _ _ r h => by simp [interlocklaw15_GreatStmt.l0] at h, fun _ _ _ _ _ _ _ _ _ _ _ _ r h => by simp [interlocklaw15_GreatStmt.l1] at h, fun _ _ _ _ _ _ _ _ _ _ _ _ r h => by simp [interlocklaw15_GreatStmt.l2] at h, fun _ _ _ _ _ _ _ _ _ _ _ _ r h => by simp [interlocklaw15_GreatStmt.l3] at h, fun _ _ _ _ _ _ _ _ _ _ _ _ r h => by simp [interlocklaw15_GreatStmt.l4] at h⟩
  | k + 1 => by
    obtain ⟨ih0, ih1, ih2, ih3, ih4, ih5⟩ := interlocklaw15_GreatStmt.mono_l k
    refine ⟨?_, ?_, ?_, ?_, ?_, ?_⟩
    · intro y0 y1 y2 y3 y4 y5 y6 y7 y8 y9 y10 y11
      unfold interlocklaw15_GreatStmt.j0
      repeat' first
      | (with_reducible exact ih0 _ _ _ _ _ _ _ _ _ _ _ _)
      | (with_reducible exact ih1 _ _ _ _ _ _ _ _ _ _ _ _)
      | (with_reducible exact ih2 _ _ _ _ _ _ _ _ _ _ _ _)
      | (with_reducible exact ih3 _ _ _ _ _ _ _ _ _ _ _ _)
      | (with_reducible exact ih4 _ _ _ _ _ _ _ _ _ _ _ _)
      | (with_reducible exact ih5 _ _ _ _ _ _ _ _ _ _ _ _)
      | (with_reducible exact LeO.refl _)
      | (with_reducible exact LeO.none _)
      | (with_reducible refine LeO.ite ?_ ?_)
      | (with_reducible refine LeO.bind ?_ (fun _ => ?_))
      | exact ih0 _ _ _ _ _ _ _ _ _ _ _ _
      | exact ih1 _ _ _ _ _ _ _ _ _ _ _ _
      | exact ih2 _ _ _ _ _ _ _ _ _ _ _ _
      | exact ih3 _ _ _ _ _ _ _ _ _ _ _ _
      | exact ih4 _ _ _ _ _ _ _ _ _ _ _ _
      | exact ih5 _ _ _ _ _ _ _ _ _ _ _ _
      | exact LeO.none _
      | refine LeO.ite ?_ ?_
      | refine LeO.bind ?_ (fun _ => ?_)
    · intro y0 y1 y2 y3 y4 y5 y6 y7 y8 y9 y10 y11
      unfold interlocklaw15_GreatStmt.l0
      repeat' first
      | (with_reducible exact ih0 _ _ _ _ _ _ _ _ _ _ _ _)
      | (with_reducible exact ih1 _ _ _ _ _ _ _ _ _ _ _ _)
      | (with_reducible exact ih2 _ _ _ _ _ _ _ _ _ _ _ _)
      | (with_reducible exact ih3 _ _ _ _ _ _ _ _ _ _ _ _)
      | (with_reducible exact ih4 _ _ _ _ _ _ _ _ _ _ _ _)
      | (with_reducible exact ih5 _ _ _ _ _ _ _ _ _ _ _ _)
      | (with_reducible exact LeO.refl _)
      | (with_reducible exact LeO.none _)
      | (with_reducible refine LeO.ite ?_ ?_)
      | (with_reducible refine LeO.bind ?_ (fun _ => ?_))
      | exact ih0 _ _ _ _ _ _ _ _ _ _ _ _
      | exact ih1 _ _ _ _ _ _ _ _ _ _ _ _
      | exact ih2 _ _ _ _ _ _ _ _ _ _ _ _
      | exact ih3 _ _ _ _ _ _ _ _ _ _ _ _
      | exact ih4 _ _ _ _ _ _ _ _ _ _ _ _
      | exact ih5 _ _ _ _ _ _ _ _ _ _ _ _
      | exact LeO.none _
      | refine LeO.ite ?_ ?_
      | refine LeO.bind ?_ (fun _ => ?_)
    · intro y0 y1 y2 y3 y4 y5 y6 y7 y8 y9 y10 y11
      unfold interlocklaw15_GreatStmt.l1
      repeat' first
      | (with_reducible exact ih0 _ _ _ _ _ _ _ _ _ _ _ _)
      | (with_reducible exact ih1 _ _ _ _ _ _ _ _ _ _ _ _)
      | (with_reducible exact ih2 _ _ _ _ _ _ _ _ _ _ _ _)
      | (with_reducible exact ih3 _ _ _ _ _ _ _ _ _ _ _ _)
      | (with_reducible exact ih4 _ _ _ _ _ _ _ _ _ _ _ _)
      | (with_reducible exact ih5 _ _ _ _ _ _ _ _ _ _ _ _)
      | (with_reducible exact LeO.refl _)
      | (with_reducible exact LeO.none _)
      | (with_reducible refine LeO.ite ?_ ?_)
      | (with_reducible refine LeO.bind ?_ (fun _ => ?_))
      | exact ih0 _ _ _ _ _ _ _ _ _ _ _ _
      | exact ih1 _ _ _ _ _ _ _ _ _ _ _ _
      | exact ih2 _ _ _ _ _ _ _ _ _ _ _ _
      | exact ih3 _ _ _ _ _ _ _ _ _ _ _ _
      | exact ih4 _ _ _ _ _ _ _ _ _ _ _ _
      | exact ih5 _ _ _ _ _ _ _ _ _ _ _ _
      | exact LeO.none _
      | refine LeO.ite ?_ ?_
      | refine LeO.bind ?_ (fun _ => ?_)
    · intro y0 y1 y2 y3 y4 y5 y6 y7 y8 y9 y10 y11
      unfold interlocklaw15_GreatStmt.l2
      repeat' first
      | (with_reducible exact ih0 _ _ _ _ _ _ _ _ _ _ _ _)
      | (with_reducible exact ih1 _ _ _ _ _ _ _ _ _ _ _ _)
      | (with_reducible exact ih2 _ _ _ _ _ _ _ _ _ _ _ _)
      | (with_reducible exact ih3 _ _ _ _ _ _ _ _ _ _ _ _)
      | (with_reducible exact ih4 _ _ _ _ _ _ _ _ _ _ _ _)
      | (with_reducible exact ih5 _ _ _ _ _ _ _ _ _ _ _ _)
      | (with_reducible exact LeO.refl _)
      | (with_reducible exact LeO.none _)
      | (with_reducible refine LeO.ite ?_ ?_)
      | (with_reducible refine LeO.bind ?_ (fun _ => ?_))
      | exact ih0 _ _ _ _ _ _ _ _ _ _ _ _
      | exact ih1 _ _ _ _ _ _ _ _ _ _ _ _
      | exact ih2 _ _ _ _ _ _ _ _ _ _ _ _
      | exact ih3 _ _ _ _ _ _ _ _ _ _ _ _
      | exact ih4 _ _ _ _ _ _ _ _ _ _ _ _
      | exact ih5 _ _ _ _ _ _ _ _ _ _ _ _
      | exact LeO.none _
      | refine LeO.ite ?_ ?_
      | refine LeO.bind ?_ (fun _ => ?_)
    · intro y0 y1 y2 y3 y4 y5 y6 y7 y8 y9 y10 y11
      unfold interlocklaw15_GreatStmt.l3
      repeat' first
      | (with_reducible exact ih0 _ _ _ _ _ _ _ _ _ _ _ _)
      | (with_reducible exact ih1 _ _ _ _ _ _ _ _ _ _ _ _)
      | (with_reducible exact ih2 _ _ _ _ _ _ _ _ _ _ _ _)
      | (with_reducible exact ih3 _ _ _ _ _ _ _ _ _ _ _ _)
      | (with_reducible exact ih4 _ _ _ _ _ _ _ _ _ _ _ _)
      | (with_reducible exact ih5 _ _ _ _ _ _ _ _ _ _ _ _)
      | (with_reducible exact LeO.refl _)
      | (with_reducible exact LeO.none _)
      | (with_reducible refine LeO.ite ?_ ?_)
      | (with_reducible refine LeO.bind ?_ (fun _ => ?_))
      | exact ih0 _ _ _ _ _ _ _ _ _ _ _ _
      | exact ih1 _ _ _ _ _ _ _ _ _ _ _ _
      | exact ih2 _ _ _ _ _ _ _ _ _ _ _ _
      | exact ih3 _ _ _ _ _ _ _ _ _ _ _ _
      | exact ih4 _ _ _ _ _ _ _ _ _ _ _ _
      | exact ih5 _ _ _ _ _ _ _ _ _ _ _ _
      | exact LeO.none _
      | refine LeO.ite ?_ ?_
      | refine LeO.bind ?_ (fun _ => ?_)
    · intro y0 y1 y2 y3 y4 y5 y6 y7 y8 y9 y10 y11
      unfold interlocklaw15_GreatStmt.l4
      repeat' first
      | (with_reducible exact ih0 _ _ _ _ _ _ _ _ _ _ _ _)
      | (with_reducible exact ih1 _ _ _ _ _ _ _ _ _ _ _ _)
      | (with_reducible exact ih2 _ _ _ _ _ _ _ _ _ _ _ _)
      | (with_reducible exact ih3 _ _ _ _ _ _ _ _ _ _ _ _)
      | (with_reducible exact ih4 _ _ _ _ _ _ _ _ _ _ _ _)
      | (with_reducible exact ih5 _ _ _ _ _ _ _ _ _ _ _ _)
      | (with_reducible exact LeO.refl _)
      | (with_reducible exact LeO.none _)
      | (with_reducible refine LeO.ite ?_ ?_)
      | (with_reducible refine LeO.bind ?_ (fun _ => ?_))
      | exact ih0 _ _ _ _ _ _ _ _ _ _ _ _
      | exact ih1 _ _ _ _ _ _ _ _ _ _ _ _
      | exact ih2 _ _ _ _ _ _ _ _ _ _ _ _
      | exact ih3 _ _ _ _ _ _ _ _ _ _ _ _
      | exact ih4 _ _ _ _ _ _ _ _ _ _ _ _
      | exact ih5 _ _ _ _ _ _ _ _ _ _ _ _
      | exact LeO.none _
      | refine LeO.ite ?_ ?_
      | refine LeO.bind ?_ (fun _ => ?_)
theorem interlocklaw15_GreatStmt.mono : ∀ a0 a1 a2 a3 a4 a5 a6 a7 a8 a9 a10 k, LeO (interlocklaw15_GreatStmt.f k a0 a1 a2 a3 a4 a5 a6 a7 a8 a9 a10) (interlocklaw15_GreatStmt.f (k + 1) a0 a1 a2 a3 a4 a5 a6 a7 a8 a9 a10) := by
  intro a0 a1 a2 a3 a4 a5 a6 a7 a8 a9 a10 k
  obtain ⟨ih0, ih1, ih2, ih3, ih4, ih5⟩ := interlocklaw15_GreatStmt.mono_l k
  unfold interlocklaw15_GreatStmt.f
  repeat' first
      | (with_reducible exact ih0 _ _ _ _ _ _ _ _ _ _ _ _)
      | (with_reducible exact ih1 _ _ _ _ _ _ _ _ _ _ _ _)
      | (with_reducible exact ih2 _ _ _ _ _ _ _ _ _ _ _ _)
      | (with_reducible exact ih3 _ _ _ _ _ _ _ _ _ _ _ _)
      | (with_reducible exact ih4 _ _ _ _ _ _ _ _ _ _ _ _)
      | (with_reducible exact ih5 _ _ _ _ _ _ _ _ _ _ _ _)
      | (with_reducible exact LeO.refl _)
      | (with_reducible exact LeO.none _)
      | (with_reducible refine LeO.ite ?_ ?_)
      | (with_reducible refine LeO.bind ?_ (fun _ => ?_))
      | exact ih0 _ _ _ _ _ _ _ _ _ _ _ _
      | exact ih1 _ _ _ _ _ _ _ _ _ _ _ _
      | exact ih2 _ _ _ _ _ _ _ _ _ _ _ _
      | exact ih3 _ _ _ _ _ _ _ _ _ _ _ _
      | exact ih4 _ _ _ _ _ _ _ _ _ _ _ _
      | exact ih5 _ _ _ _ _ _ _ _ _ _ _ _
      | exact LeO.none _
      | refine LeO.ite ?_ ?_
      | refine LeO.bind ?_ (fun _ => ?_)
set_option maxHeartbeats 8000000 in
set_option maxRecDepth 100000 in
theorem interlocklaw15_GreatStmt.calls (k : Nat) (a0_0 : Int) (a0_1 : ByteArray) (a0_2 : ByteArray) (a0_3 : ByteArray) (a0_4 : Int) (a0_5 : Bool) (A0_6 : Option Addr) (c0_6 : Nat) (l0_6 : List (S60)) (A0_7 : Option Addr) (c0_7 : Nat) (l0_7 : List (S62)) (A0_8 : Option Addr) (c0_8 : Nat) (l0_8 : List (S64)) (A0_9 : Option Addr) (c0_9 : Nat) (l0_9 : List (S66)) (A0_10 : Option Addr) (c0_10 : Nat) (l0_10 : List ByteArray) (r : Bool) (w : World) (hr0_6 : Kd.C k60 w A0_6 l0_6.length l0_6) (hc0_6 : l0_6.length ≤ c0_6) (hr0_7 : Kd.C k62 w A0_7 l0_7.length l0_7) (hc0_7 : l0_7.length ≤ c0_7) (hr0_8 : Kd.C k64 w A0_8 l0_8.length l0_8) (hc0_8 : l0_8.length ≤ c0_8) (hr0_9 : Kd.C k66 w A0_9 l0_9.length l0_9) (hc0_9 : l0_9.length ≤ c0_9) (hr0_10 : Kd.C Kd.string w A0_10 l0_10.length l0_10) (hc0_10 : l0_10.length ≤ c0_10) (h : interlocklaw15_GreatStmt.f k a0_0 a0_1 a0_2 a0_3 a0_4 a0_5 l0_6 l0_7 l0_8 l0_9 l0_10 = some r) :
    Calls Try.prog 8 #[.agg #[.int .i64 a0_0, .string a0_1, .string a0_2, .string a0_3, .int .i64 a0_4, .bool a0_5, .slice A0_6 l0_6.length c0_6, .slice A0_7 l0_7.length c0_7, .slice A0_8 l0_8.length c0_8, .slice A0_9 l0_9.length c0_9, .slice A0_10 l0_10.length c0_10]] w fun e w' => e = .returned (.bool r) ∧ Below w.heap.size w w' := by
  have hu28 := Try.underlying28
  have HR0_6 := Aside0.mk hr0_6
  have HC0_6 := Aside0.mk hc0_6
  clear hr0_6 hc0_6
  have HR0_7 := Aside0.mk hr0_7
  have HC0_7 := Aside0.mk hc0_7
  clear hr0_7 hc0_7
  have HR0_8 := Aside0.mk hr0_8
  have HC0_8 := Aside0.mk hc0_8
  clear hr0_8 hc0_8
  have HR0_9 := Aside0.mk hr0_9
  have HC0_9 := Aside0.mk hc0_9
  clear hr0_9 hc0_9
  have HR0_10 := Aside0.mk hr0_10
  have HC0_10 := Aside0.mk hc0_10
  clear hr0_10 hc0_10
  have HB := Aside0.mk (Below.refl w.heap.size w)
  have H : (if (l0_6.length : Int) > 20 then (interlocklaw15_GreatStmt.j0 k true a0_0 a0_1 a0_2 a0_3 a0_4 a0_5 l0_6 l0_7 l0_8 l0_9 l0_10) else (if (l0_7.length : Int) > 20 then (interlocklaw15_GreatStmt.j0 k true a0_0 a0_1 a0_2 a0_3 a0_4 a0_5 l0_6 l0_7 l0_8 l0_9 l0_10) else (if (l0_8.length : Int) > 20 then (interlocklaw15_GreatStmt.j0 k true a0_0 a0_1 a0_2 a0_3 a0_4 a0_5 l0_6 l0_7 l0_8 l0_9 l0_10) else (if (l0_9.length : Int) > 20 then (interlocklaw15_GreatStmt.j0 k true a0_0 a0_1 a0_2 a0_3 a0_4 a0_5 l0_6 l0_7 l0_8 l0_9 l0_10) else (if (l0_10.length : Int) > 20 then (interlocklaw15_GreatStmt.j0 k true a0_0 a0_1 a0_2 a0_3 a0_4 a0_5 l0_6 l0_7 l0_8 l0_9 l0_10) else (if (a0_1.size : Int) > 50 then (interlocklaw15_GreatStmt.j0 k true a0_0 a0_1 a0_2 a0_3 a0_4 a0_5 l0_6 l0_7 l0_8 l0_9 l0_10) else (if (a0_2.size : Int) > 50 then (interlocklaw15_GreatStmt.j0 k true a0_0 a0_1 a0_2 a0_3 a0_4 a0_5 l0_6 l0_7 l0_8 l0_9 l0_10) else (interlocklaw15_GreatStmt.j0 k (decide ((a0_3.size : Int) > 50)) a0_0 a0_1 a0_2 a0_3 a0_4 a0_5 l0_6 l0_7 l0_8 l0_9 l0_10)))))))) = some r := h
  clear h
  have HC2 := Aside0.mk H
  clear H
  go_enter Try.func8, Try.ntmps8
  go_upto_region 1 with (first | ((with_reducible refine gate_dst (N := 1) rfl ?_); (try (refine gate_guard (by rfl) ?_; dsimp only)); refine box_event ?hg (N := 1) ?hd (cs := #[.int .i64 a0_0, .string a0_1, .string a0_2, .string a0_3, .int .i64 a0_4, .bool a0_5, .slice A0_6 l0_6.length c0_6, .slice A0_7 l0_7.length c0_7, .slice A0_8 l0_8.length c0_8, .slice A0_9 l0_9.length c0_9, .slice A0_10 l0_10.length c0_10]) (t := 28) ?hr ?_; (case hd => rfl); (case hg => rfl); (case hr => first | (go_simp; done) | (go_simp; rfl)); intro gb104 hg w3 hbox hb; have n0_ := Aside0.mk (below_step (by repeat (first | (with_reducible first | exact HB.out | apply below_alloc | apply pw_below_drewN | apply below_drew1) | exact HB.out)) hb); have n1_ := Aside0.mk (hbox); have n2_ := Aside0.mk ((by rw [hg]; exact (below_size (by repeat (first | (with_reducible first | exact HB.out | apply below_alloc | apply pw_below_drewN | apply below_drew1) | exact HB.out))) : w.heap.size ≤ gb104)); have n3_ := Aside0.mk ((by rw [hg]; exact (below_size (by repeat (first | (with_reducible first | exact HB.out | apply below_alloc | apply pw_below_drewN | apply below_drew1) | exact HB.out))) : w.heap.size ≤ gb104)); clear HB; have HB := n0_; have BK104 := n1_; have GW104 := n2_; have GE104 := n3_; clear n0_ n1_ n2_ n3_; clear hb hbox hg))
  (try simp only [Act.put, List.setIfInBounds_toArray, List.set_cons_zero, List.set_cons_succ])
  go_cut [53] (fun v53 wc => ∃ (kq : Nat) (x53_1 : Bool), v53 = .bool x53_1 ∧ Aside0 (interlocklaw15_GreatStmt.j0 kq x53_1 a0_0 a0_1 a0_2 a0_3 a0_4 a0_5 l0_6 l0_7 l0_8 l0_9 l0_10 = some r) ∧ Aside0 (kq ≤ k) ∧ Aside0 (wc.heap[gb104]? = some (.cells #[.int .i64 a0_0, .string a0_1, .string a0_2, .string a0_3, .int .i64 a0_4, .bool a0_5, (.slice A0_6 l0_6.length c0_6), (.slice A0_7 l0_7.length c0_7), (.slice A0_8 l0_8.length c0_8), (.slice A0_9 l0_9.length c0_9), (.slice A0_10 l0_10.length c0_10)] 28 (0, 0))) ∧ Aside0 (Below w.heap.size w wc))
  case first =>
    have H := HC2.out
    clear HC2
    by_cases c4 : (l0_6.length : Int) > 20
    · rw [if_pos c4] at H
      have c4b0 : decide (20 < (l0_6.length : Int)) = true := decide_eq_true c4
      have c4b1 : decide (20 < l0_6.length) = true := decide_eq_true (by omega)
      clear c4
      (first | rw [c4b0] | (simp only [i64_w, i32_w]; rw [c4b0]) | skip)
      have H' := Aside0.mk H
      clear H
      have hcz5_0 : w3.cell? ⟨gb104, 0, none⟩ = some (.int .i64 a0_0) := (blk_cell BK104.out 0).trans rfl
      have hcz5_1 : w3.cell? ⟨gb104, 1, none⟩ = some (.string a0_1) := (blk_cell BK104.out 1).trans rfl
      have hcz5_2 : w3.cell? ⟨gb104, 2, none⟩ = some (.string a0_2) := (blk_cell BK104.out 2).trans rfl
      have hcz5_3 : w3.cell? ⟨gb104, 3, none⟩ = some (.string a0_3) := (blk_cell BK104.out 3).trans rfl
      have hcz5_4 : w3.cell? ⟨gb104, 4, none⟩ = some (.int .i64 a0_4) := (blk_cell BK104.out 4).trans rfl
      have hcz5_5 : w3.cell? ⟨gb104, 5, none⟩ = some (.bool a0_5) := (blk_cell BK104.out 5).trans rfl
      have hcz5_6 : w3.cell? ⟨gb104, 6, none⟩ = some (.slice A0_6 l0_6.length c0_6) := (blk_cell BK104.out 6).trans rfl
      have hcz5_7 : w3.cell? ⟨gb104, 7, none⟩ = some (.slice A0_7 l0_7.length c0_7) := (blk_cell BK104.out 7).trans rfl
      have hcz5_8 : w3.cell? ⟨gb104, 8, none⟩ = some (.slice A0_8 l0_8.length c0_8) := (blk_cell BK104.out 8).trans rfl
      have hcz5_9 : w3.cell? ⟨gb104, 9, none⟩ = some (.slice A0_9 l0_9.length c0_9) := (blk_cell BK104.out 9).trans rfl
      have hcz5_10 : w3.cell? ⟨gb104, 10, none⟩ = some (.slice A0_10 l0_10.length c0_10) := (blk_cell BK104.out 10).trans rfl
      have hfz5_0 := blk_frozen BK104.out 0
      have hfz5_1 := blk_frozen BK104.out 1
      have hfz5_2 := blk_frozen BK104.out 2
      have hfz5_3 := blk_frozen BK104.out 3
      have hfz5_4 := blk_frozen BK104.out 4
      have hfz5_5 := blk_frozen BK104.out 5
      have hfz5_6 := blk_frozen BK104.out 6
      have hfz5_7 := blk_frozen BK104.out 7
      have hfz5_8 := blk_frozen BK104.out 8
      have hfz5_9 := blk_frozen BK104.out 9
      have hfz5_10 := blk_frozen BK104.out 10
      go_wp2
      go_meet
      case rel => exact ⟨_, (true), (by first | rfl | (simp; done) | (simp [*]; done)), H', ⟨by first | omega | exact Nat.le_refl _⟩, ⟨by (with_reducible repeat (first | refine blk_drewN ?_ _ | refine blk_drew ?_ | refine blk_alloc ?_ _)); exact BK104.out⟩, ⟨by repeat (first | (with_reducible first | exact HB.out | apply below_alloc | apply pw_below_drewN | apply below_drew1 | refine below_set ?_ GE104.out) | exact HB.out)⟩⟩
    · rw [if_neg c4] at H
      have c4b0 : decide (20 < (l0_6.length : Int)) = false := decide_eq_false c4
      have c4b1 : decide (20 < l0_6.length) = false := decide_eq_false (by omega)
      clear c4
      (first | rw [c4b0] | (simp only [i64_w, i32_w]; rw [c4b0]) | skip)
      by_cases c6 : (l0_7.length : Int) > 20
      · rw [if_pos c6] at H
        have c6b0 : decide (20 < (l0_7.length : Int)) = true := decide_eq_true c6
        have c6b1 : decide (20 < l0_7.length) = true := decide_eq_true (by omega)
        clear c6
        have H' := Aside0.mk H
        clear H
        have hcz7_0 : w3.cell? ⟨gb104, 0, none⟩ = some (.int .i64 a0_0) := (blk_cell BK104.out 0).trans rfl
        have hcz7_1 : w3.cell? ⟨gb104, 1, none⟩ = some (.string a0_1) := (blk_cell BK104.out 1).trans rfl
        have hcz7_2 : w3.cell? ⟨gb104, 2, none⟩ = some (.string a0_2) := (blk_cell BK104.out 2).trans rfl
        have hcz7_3 : w3.cell? ⟨gb104, 3, none⟩ = some (.string a0_3) := (blk_cell BK104.out 3).trans rfl
        have hcz7_4 : w3.cell? ⟨gb104, 4, none⟩ = some (.int .i64 a0_4) := (blk_cell BK104.out 4).trans rfl
        have hcz7_5 : w3.cell? ⟨gb104, 5, none⟩ = some (.bool a0_5) := (blk_cell BK104.out 5).trans rfl
        have hcz7_6 : w3.cell? ⟨gb104, 6, none⟩ = some (.slice A0_6 l0_6.length c0_6) := (blk_cell BK104.out 6).trans rfl
        have hcz7_7 : w3.cell? ⟨gb104, 7, none⟩ = some (.slice A0_7 l0_7.length c0_7) := (blk_cell BK104.out 7).trans rfl
        have hcz7_8 : w3.cell? ⟨gb104, 8, none⟩ = some (.slice A0_8 l0_8.length c0_8) := (blk_cell BK104.out 8).trans rfl
        have hcz7_9 : w3.cell? ⟨gb104, 9, none⟩ = some (.slice A0_9 l0_9.length c0_9) := (blk_cell BK104.out 9).trans rfl
        have hcz7_10 : w3.cell? ⟨gb104, 10, none⟩ = some (.slice A0_10 l0_10.length c0_10) := (blk_cell BK104.out 10).trans rfl
        have hfz7_0 := blk_frozen BK104.out 0
        have hfz7_1 := blk_frozen BK104.out 1
        have hfz7_2 := blk_frozen BK104.out 2
        have hfz7_3 := blk_frozen BK104.out 3
        have hfz7_4 := blk_frozen BK104.out 4
        have hfz7_5 := blk_frozen BK104.out 5
        have hfz7_6 := blk_frozen BK104.out 6
        have hfz7_7 := blk_frozen BK104.out 7
        have hfz7_8 := blk_frozen BK104.out 8
        have hfz7_9 := blk_frozen BK104.out 9
        have hfz7_10 := blk_frozen BK104.out 10
        go_wp2
        go_meet
        case rel => exact ⟨_, (true), (by first | rfl | (simp; done) | (simp [*]; done)), H', ⟨by first | omega | exact Nat.le_refl _⟩, ⟨by (with_reducible repeat (first | refine blk_drewN ?_ _ | refine blk_drew ?_ | refine blk_alloc ?_ _)); exact BK104.out⟩, ⟨by repeat (first | (with_reducible first | exact HB.out | apply below_alloc | apply pw_below_drewN | apply below_drew1 | refine below_set ?_ GE104.out) | exact HB.out)⟩⟩
      · rw [if_neg c6] at H
        have c6b0 : decide (20 < (l0_7.length : Int)) = false := decide_eq_false c6
        have c6b1 : decide (20 < l0_7.length) = false := decide_eq_false (by omega)
        clear c6
        by_cases c8 : (l0_8.length : Int) > 20
        · rw [if_pos c8] at H
          have c8b0 : decide (20 < (l0_8.length : Int)) = true := decide_eq_true c8
          have c8b1 : decide (20 < l0_8.length) = true := decide_eq_true (by omega)
          clear c8
          have H' := Aside0.mk H
          clear H
          have hcz9_0 : w3.cell? ⟨gb104, 0, none⟩ = some (.int .i64 a0_0) := (blk_cell BK104.out 0).trans rfl
          have hcz9_1 : w3.cell? ⟨gb104, 1, none⟩ = some (.string a0_1) := (blk_cell BK104.out 1).trans rfl
          have hcz9_2 : w3.cell? ⟨gb104, 2, none⟩ = some (.string a0_2) := (blk_cell BK104.out 2).trans rfl
          have hcz9_3 : w3.cell? ⟨gb104, 3, none⟩ = some (.string a0_3) := (blk_cell BK104.out 3).trans rfl
          have hcz9_4 : w3.cell? ⟨gb104, 4, none⟩ = some (.int .i64 a0_4) := (blk_cell BK104.out 4).trans rfl
          have hcz9_5 : w3.cell? ⟨gb104, 5, none⟩ = some (.bool a0_5) := (blk_cell BK104.out 5).trans rfl
          have hcz9_6 : w3.cell? ⟨gb104, 6, none⟩ = some (.slice A0_6 l0_6.length c0_6) := (blk_cell BK104.out 6).trans rfl
          have hcz9_7 : w3.cell? ⟨gb104, 7, none⟩ = some (.slice A0_7 l0_7.length c0_7) := (blk_cell BK104.out 7).trans rfl
          have hcz9_8 : w3.cell? ⟨gb104, 8, none⟩ = some (.slice A0_8 l0_8.length c0_8) := (blk_cell BK104.out 8).trans rfl
          have hcz9_9 : w3.cell? ⟨gb104, 9, none⟩ = some (.slice A0_9 l0_9.length c0_9) := (blk_cell BK104.out 9).trans rfl
          have hcz9_10 : w3.cell? ⟨gb104, 10, none⟩ = some (.slice A0_10 l0_10.length c0_10) := (blk_cell BK104.out 10).trans rfl
          have hfz9_0 := blk_frozen BK104.out 0
          have hfz9_1 := blk_frozen BK104.out 1
          have hfz9_2 := blk_frozen BK104.out 2
          have hfz9_3 := blk_frozen BK104.out 3
          have hfz9_4 := blk_frozen BK104.out 4
          have hfz9_5 := blk_frozen BK104.out 5
          have hfz9_6 := blk_frozen BK104.out 6
          have hfz9_7 := blk_frozen BK104.out 7
          have hfz9_8 := blk_frozen BK104.out 8
          have hfz9_9 := blk_frozen BK104.out 9
          have hfz9_10 := blk_frozen BK104.out 10
          go_wp2
          go_meet
          case rel => exact ⟨_, (true), (by first | rfl | (simp; done) | (simp [*]; done)), H', ⟨by first | omega | exact Nat.le_refl _⟩, ⟨by (with_reducible repeat (first | refine blk_drewN ?_ _ | refine blk_drew ?_ | refine blk_alloc ?_ _)); exact BK104.out⟩, ⟨by repeat (first | (with_reducible first | exact HB.out | apply below_alloc | apply pw_below_drewN | apply below_drew1 | refine below_set ?_ GE104.out) | exact HB.out)⟩⟩
        · rw [if_neg c8] at H
          have c8b0 : decide (20 < (l0_8.length : Int)) = false := decide_eq_false c8
          have c8b1 : decide (20 < l0_8.length) = false := decide_eq_false (by omega)
          clear c8
          by_cases c10 : (l0_9.length : Int) > 20
          · rw [if_pos c10] at H
            have c10b0 : decide (20 < (l0_9.length : Int)) = true := decide_eq_true c10
            have c10b1 : decide (20 < l0_9.length) = true := decide_eq_true (by omega)
            clear c10
            have H' := Aside0.mk H
            clear H
            have hcz11_0 : w3.cell? ⟨gb104, 0, none⟩ = some (.int .i64 a0_0) := (blk_cell BK104.out 0).trans rfl
            have hcz11_1 : w3.cell? ⟨gb104, 1, none⟩ = some (.string a0_1) := (blk_cell BK104.out 1).trans rfl
            have hcz11_2 : w3.cell? ⟨gb104, 2, none⟩ = some (.string a0_2) := (blk_cell BK104.out 2).trans rfl
            have hcz11_3 : w3.cell? ⟨gb104, 3, none⟩ = some (.string a0_3) := (blk_cell BK104.out 3).trans rfl
            have hcz11_4 : w3.cell? ⟨gb104, 4, none⟩ = some (.int .i64 a0_4) := (blk_cell BK104.out 4).trans rfl
            have hcz11_5 : w3.cell? ⟨gb104, 5, none⟩ = some (.bool a0_5) := (blk_cell BK104.out 5).trans rfl
            have hcz11_6 : w3.cell? ⟨gb104, 6, none⟩ = some (.slice A0_6 l0_6.length c0_6) := (blk_cell BK104.out 6).trans rfl
            have hcz11_7 : w3.cell? ⟨gb104, 7, none⟩ = some (.slice A0_7 l0_7.length c0_7) := (blk_cell BK104.out 7).trans rfl
            have hcz11_8 : w3.cell? ⟨gb104, 8, none⟩ = some (.slice A0_8 l0_8.length c0_8) := (blk_cell BK104.out 8).trans rfl
            have hcz11_9 : w3.cell? ⟨gb104, 9, none⟩ = some (.slice A0_9 l0_9.length c0_9) := (blk_cell BK104.out 9).trans rfl
            have hcz11_10 : w3.cell? ⟨gb104, 10, none⟩ = some (.slice A0_10 l0_10.length c0_10) := (blk_cell BK104.out 10).trans rfl
            have hfz11_0 := blk_frozen BK104.out 0
            have hfz11_1 := blk_frozen BK104.out 1
            have hfz11_2 := blk_frozen BK104.out 2
            have hfz11_3 := blk_frozen BK104.out 3
            have hfz11_4 := blk_frozen BK104.out 4
            have hfz11_5 := blk_frozen BK104.out 5
            have hfz11_6 := blk_frozen BK104.out 6
            have hfz11_7 := blk_frozen BK104.out 7
            have hfz11_8 := blk_frozen BK104.out 8
            have hfz11_9 := blk_frozen BK104.out 9
            have hfz11_10 := blk_frozen BK104.out 10
            go_wp2
            go_meet
            case rel => exact ⟨_, (true), (by first | rfl | (simp; done) | (simp [*]; done)), H', ⟨by first | omega | exact Nat.le_refl _⟩, ⟨by (with_reducible repeat (first | refine blk_drewN ?_ _ | refine blk_drew ?_ | refine blk_alloc ?_ _)); exact BK104.out⟩, ⟨by repeat (first | (with_reducible first | exact HB.out | apply below_alloc | apply pw_below_drewN | apply below_drew1 | refine below_set ?_ GE104.out) | exact HB.out)⟩⟩
          · rw [if_neg c10] at H
            have c10b0 : decide (20 < (l0_9.length : Int)) = false := decide_eq_false c10
            have c10b1 : decide (20 < l0_9.length) = false := decide_eq_false (by omega)
            clear c10
            by_cases c12 : (l0_10.length : Int) > 20
            · rw [if_pos c12] at H
              have c12b0 : decide (20 < (l0_10.length : Int)) = true := decide_eq_true c12
              have c12b1 : decide (20 < l0_10.length) = true := decide_eq_true (by omega)
              clear c12
              have H' := Aside0.mk H
              clear H
              have hcz13_0 : w3.cell? ⟨gb104, 0, none⟩ = some (.int .i64 a0_0) := (blk_cell BK104.out 0).trans rfl
              have hcz13_1 : w3.cell? ⟨gb104, 1, none⟩ = some (.string a0_1) := (blk_cell BK104.out 1).trans rfl
              have hcz13_2 : w3.cell? ⟨gb104, 2, none⟩ = some (.string a0_2) := (blk_cell BK104.out 2).trans rfl
              have hcz13_3 : w3.cell? ⟨gb104, 3, none⟩ = some (.string a0_3) := (blk_cell BK104.out 3).trans rfl
              have hcz13_4 : w3.cell? ⟨gb104, 4, none⟩ = some (.int .i64 a0_4) := (blk_cell BK104.out 4).trans rfl
              have hcz13_5 : w3.cell? ⟨gb104, 5, none⟩ = some (.bool a0_5) := (blk_cell BK104.out 5).trans rfl
              have hcz13_6 : w3.cell? ⟨gb104, 6, none⟩ = some (.slice A0_6 l0_6.length c0_6) := (blk_cell BK104.out 6).trans rfl
              have hcz13_7 : w3.cell? ⟨gb104, 7, none⟩ = some (.slice A0_7 l0_7.length c0_7) := (blk_cell BK104.out 7).trans rfl
              have hcz13_8 : w3.cell? ⟨gb104, 8, none⟩ = some (.slice A0_8 l0_8.length c0_8) := (blk_cell BK104.out 8).trans rfl
              have hcz13_9 : w3.cell? ⟨gb104, 9, none⟩ = some (.slice A0_9 l0_9.length c0_9) := (blk_cell BK104.out 9).trans rfl
              have hcz13_10 : w3.cell? ⟨gb104, 10, none⟩ = some (.slice A0_10 l0_10.length c0_10) := (blk_cell BK104.out 10).trans rfl
              have hfz13_0 := blk_frozen BK104.out 0
              have hfz13_1 := blk_frozen BK104.out 1
              have hfz13_2 := blk_frozen BK104.out 2
              have hfz13_3 := blk_frozen BK104.out 3
              have hfz13_4 := blk_frozen BK104.out 4
              have hfz13_5 := blk_frozen BK104.out 5
              have hfz13_6 := blk_frozen BK104.out 6
              have hfz13_7 := blk_frozen BK104.out 7
              have hfz13_8 := blk_frozen BK104.out 8
              have hfz13_9 := blk_frozen BK104.out 9
              have hfz13_10 := blk_frozen BK104.out 10
              go_wp2
              go_meet
              case rel => exact ⟨_, (true), (by first | rfl | (simp; done) | (simp [*]; done)), H', ⟨by first | omega | exact Nat.le_refl _⟩, ⟨by (with_reducible repeat (first | refine blk_drewN ?_ _ | refine blk_drew ?_ | refine blk_alloc ?_ _)); exact BK104.out⟩, ⟨by repeat (first | (with_reducible first | exact HB.out | apply below_alloc | apply pw_below_drewN | apply below_drew1 | refine below_set ?_ GE104.out) | exact HB.out)⟩⟩
            · rw [if_neg c12] at H
              have c12b0 : decide (20 < (l0_10.length : Int)) = false := decide_eq_false c12
              have c12b1 : decide (20 < l0_10.length) = false := decide_eq_false (by omega)
              clear c12
              by_cases c14 : (a0_1.size : Int) > 50
              · rw [if_pos c14] at H
                have c14b0 : decide (50 < (a0_1.size : Int)) = true := decide_eq_true c14
                have c14b1 : decide (50 < a0_1.size) = true := decide_eq_true (by omega)
                clear c14
                have H' := Aside0.mk H
                clear H
                have hcz15_0 : w3.cell? ⟨gb104, 0, none⟩ = some (.int .i64 a0_0) := (blk_cell BK104.out 0).trans rfl
                have hcz15_1 : w3.cell? ⟨gb104, 1, none⟩ = some (.string a0_1) := (blk_cell BK104.out 1).trans rfl
                have hcz15_2 : w3.cell? ⟨gb104, 2, none⟩ = some (.string a0_2) := (blk_cell BK104.out 2).trans rfl
                have hcz15_3 : w3.cell? ⟨gb104, 3, none⟩ = some (.string a0_3) := (blk_cell BK104.out 3).trans rfl
                have hcz15_4 : w3.cell? ⟨gb104, 4, none⟩ = some (.int .i64 a0_4) := (blk_cell BK104.out 4).trans rfl
                have hcz15_5 : w3.cell? ⟨gb104, 5, none⟩ = some (.bool a0_5) := (blk_cell BK104.out 5).trans rfl
                have hcz15_6 : w3.cell? ⟨gb104, 6, none⟩ = some (.slice A0_6 l0_6.length c0_6) := (blk_cell BK104.out 6).trans rfl
                have hcz15_7 : w3.cell? ⟨gb104, 7, none⟩ = some (.slice A0_7 l0_7.length c0_7) := (blk_cell BK104.out 7).trans rfl
                have hcz15_8 : w3.cell? ⟨gb104, 8, none⟩ = some (.slice A0_8 l0_8.length c0_8) := (blk_cell BK104.out 8).trans rfl
                have hcz15_9 : w3.cell? ⟨gb104, 9, none⟩ = some (.slice A0_9 l0_9.length c0_9) := (blk_cell BK104.out 9).trans rfl
                have hcz15_10 : w3.cell? ⟨gb104, 10, none⟩ = some (.slice A0_10 l0_10.length c0_10) := (blk_cell BK104.out 10).trans rfl
                have hfz15_0 := blk_frozen BK104.out 0
                have hfz15_1 := blk_frozen BK104.out 1
                have hfz15_2 := blk_frozen BK104.out 2
                have hfz15_3 := blk_frozen BK104.out 3
                have hfz15_4 := blk_frozen BK104.out 4
                have hfz15_5 := blk_frozen BK104.out 5
                have hfz15_6 := blk_frozen BK104.out 6
                have hfz15_7 := blk_frozen BK104.out 7
                have hfz15_8 := blk_frozen BK104.out 8
                have hfz15_9 := blk_frozen BK104.out 9
                have hfz15_10 := blk_frozen BK104.out 10
                go_wp2
                go_meet
                case rel => exact ⟨_, (true), (by first | rfl | (simp; done) | (simp [*]; done)), H', ⟨by first | omega | exact Nat.le_refl _⟩, ⟨by (with_reducible repeat (first | refine blk_drewN ?_ _ | refine blk_drew ?_ | refine blk_alloc ?_ _)); exact BK104.out⟩, ⟨by repeat (first | (with_reducible first | exact HB.out | apply below_alloc | apply pw_below_drewN | apply below_drew1 | refine below_set ?_ GE104.out) | exact HB.out)⟩⟩
              · rw [if_neg c14] at H
                have c14b0 : decide (50 < (a0_1.size : Int)) = false := decide_eq_false c14
                have c14b1 : decide (50 < a0_1.size) = false := decide_eq_false (by omega)
                clear c14
                by_cases c16 : (a0_2.size : Int) > 50
                · rw [if_pos c16] at H
                  have c16b0 : decide (50 < (a0_2.size : Int)) = true := decide_eq_true c16
                  have c16b1 : decide (50 < a0_2.size) = true := decide_eq_true (by omega)
                  clear c16
                  have H' := Aside0.mk H
                  clear H
                  have hcz17_0 : w3.cell? ⟨gb104, 0, none⟩ = some (.int .i64 a0_0) := (blk_cell BK104.out 0).trans rfl
                  have hcz17_1 : w3.cell? ⟨gb104, 1, none⟩ = some (.string a0_1) := (blk_cell BK104.out 1).trans rfl
                  have hcz17_2 : w3.cell? ⟨gb104, 2, none⟩ = some (.string a0_2) := (blk_cell BK104.out 2).trans rfl
                  have hcz17_3 : w3.cell? ⟨gb104, 3, none⟩ = some (.string a0_3) := (blk_cell BK104.out 3).trans rfl
                  have hcz17_4 : w3.cell? ⟨gb104, 4, none⟩ = some (.int .i64 a0_4) := (blk_cell BK104.out 4).trans rfl
                  have hcz17_5 : w3.cell? ⟨gb104, 5, none⟩ = some (.bool a0_5) := (blk_cell BK104.out 5).trans rfl
                  have hcz17_6 : w3.cell? ⟨gb104, 6, none⟩ = some (.slice A0_6 l0_6.length c0_6) := (blk_cell BK104.out 6).trans rfl
                  have hcz17_7 : w3.cell? ⟨gb104, 7, none⟩ = some (.slice A0_7 l0_7.length c0_7) := (blk_cell BK104.out 7).trans rfl
                  have hcz17_8 : w3.cell? ⟨gb104, 8, none⟩ = some (.slice A0_8 l0_8.length c0_8) := (blk_cell BK104.out 8).trans rfl
                  have hcz17_9 : w3.cell? ⟨gb104, 9, none⟩ = some (.slice A0_9 l0_9.length c0_9) := (blk_cell BK104.out 9).trans rfl
                  have hcz17_10 : w3.cell? ⟨gb104, 10, none⟩ = some (.slice A0_10 l0_10.length c0_10) := (blk_cell BK104.out 10).trans rfl
                  have hfz17_0 := blk_frozen BK104.out 0
                  have hfz17_1 := blk_frozen BK104.out 1
                  have hfz17_2 := blk_frozen BK104.out 2
                  have hfz17_3 := blk_frozen BK104.out 3
                  have hfz17_4 := blk_frozen BK104.out 4
                  have hfz17_5 := blk_frozen BK104.out 5
                  have hfz17_6 := blk_frozen BK104.out 6
                  have hfz17_7 := blk_frozen BK104.out 7
                  have hfz17_8 := blk_frozen BK104.out 8
                  have hfz17_9 := blk_frozen BK104.out 9
                  have hfz17_10 := blk_frozen BK104.out 10
                  go_wp2
                  go_meet
                  case rel => exact ⟨_, (true), (by first | rfl | (simp; done) | (simp [*]; done)), H', ⟨by first | omega | exact Nat.le_refl _⟩, ⟨by (with_reducible repeat (first | refine blk_drewN ?_ _ | refine blk_drew ?_ | refine blk_alloc ?_ _)); exact BK104.out⟩, ⟨by repeat (first | (with_reducible first | exact HB.out | apply below_alloc | apply pw_below_drewN | apply below_drew1 | refine below_set ?_ GE104.out) | exact HB.out)⟩⟩
                · rw [if_neg c16] at H
                  have c16b0 : decide (50 < (a0_2.size : Int)) = false := decide_eq_false c16
                  have c16b1 : decide (50 < a0_2.size) = false := decide_eq_false (by omega)
                  clear c16
                  have H' := Aside0.mk H
                  clear H
                  have hcz18_0 : w3.cell? ⟨gb104, 0, none⟩ = some (.int .i64 a0_0) := (blk_cell BK104.out 0).trans rfl
                  have hcz18_1 : w3.cell? ⟨gb104, 1, none⟩ = some (.string a0_1) := (blk_cell BK104.out 1).trans rfl
                  have hcz18_2 : w3.cell? ⟨gb104, 2, none⟩ = some (.string a0_2) := (blk_cell BK104.out 2).trans rfl
                  have hcz18_3 : w3.cell? ⟨gb104, 3, none⟩ = some (.string a0_3) := (blk_cell BK104.out 3).trans rfl
                  have hcz18_4 : w3.cell? ⟨gb104, 4, none⟩ = some (.int .i64 a0_4) := (blk_cell BK104.out 4).trans rfl
                  have hcz18_5 : w3.cell? ⟨gb104, 5, none⟩ = some (.bool a0_5) := (blk_cell BK104.out 5).trans rfl
                  have hcz18_6 : w3.cell? ⟨gb104, 6, none⟩ = some (.slice A0_6 l0_6.length c0_6) := (blk_cell BK104.out 6).trans rfl
                  have hcz18_7 : w3.cell? ⟨gb104, 7, none⟩ = some (.slice A0_7 l0_7.length c0_7) := (blk_cell BK104.out 7).trans rfl
                  have hcz18_8 : w3.cell? ⟨gb104, 8, none⟩ = some (.slice A0_8 l0_8.length c0_8) := (blk_cell BK104.out 8).trans rfl
                  have hcz18_9 : w3.cell? ⟨gb104, 9, none⟩ = some (.slice A0_9 l0_9.length c0_9) := (blk_cell BK104.out 9).trans rfl
                  have hcz18_10 : w3.cell? ⟨gb104, 10, none⟩ = some (.slice A0_10 l0_10.length c0_10) := (blk_cell BK104.out 10).trans rfl
                  have hfz18_0 := blk_frozen BK104.out 0
                  have hfz18_1 := blk_frozen BK104.out 1
                  have hfz18_2 := blk_frozen BK104.out 2
                  have hfz18_3 := blk_frozen BK104.out 3
                  have hfz18_4 := blk_frozen BK104.out 4
                  have hfz18_5 := blk_frozen BK104.out 5
                  have hfz18_6 := blk_frozen BK104.out 6
                  have hfz18_7 := blk_frozen BK104.out 7
                  have hfz18_8 := blk_frozen BK104.out 8
                  have hfz18_9 := blk_frozen BK104.out 9
                  have hfz18_10 := blk_frozen BK104.out 10
                  go_wp2
                  go_meet
                  case rel => exact ⟨_, (decide ((a0_3.size : Int) > 50)), (by first | rfl | (simp; done) | (simp [*]; done)), H', ⟨by first | omega | exact Nat.le_refl _⟩, ⟨by (with_reducible repeat (first | refine blk_drewN ?_ _ | refine blk_drew ?_ | refine blk_alloc ?_ _)); exact BK104.out⟩, ⟨by repeat (first | (with_reducible first | exact HB.out | apply below_alloc | apply pw_below_drewN | apply below_drew1 | refine below_set ?_ GE104.out) | exact HB.out)⟩⟩
  case rest =>
    clear HC2
    try clear c1
    try clear p2
    try clear c4
    try clear c4b0
    try clear c4b1
    try clear c6
    try clear c6b0
    try clear c6b1
    try clear c8
    try clear c8b0
    try clear c8b1
    try clear c10
    try clear c10b0
    try clear c10b1
    try clear c12
    try clear c12b0
    try clear c12b1
    try clear c14
    try clear c14b0
    try clear c14b1
    try clear c16
    try clear c16b0
    try clear c16b1
    try clear hcz11_0
    try clear hcz11_1
    try clear hcz11_10
    try clear hcz11_2
    try clear hcz11_3
    try clear hcz11_4
    try clear hcz11_5
    try clear hcz11_6
    try clear hcz11_7
    try clear hcz11_8
    try clear hcz11_9
    try clear hcz13_0
    try clear hcz13_1
    try clear hcz13_10
    try clear hcz13_2
    try clear hcz13_3
    try clear hcz13_4
    try clear hcz13_5
    try clear hcz13_6
    try clear hcz13_7
    try clear hcz13_8
    try clear hcz13_9
    try clear hcz15_0
    try clear hcz15_1
    try clear hcz15_10
    try clear hcz15_2
    try clear hcz15_3
    try clear hcz15_4
    try clear hcz15_5
    try clear hcz15_6
    try clear hcz15_7
    try clear hcz15_8
    try clear hcz15_9
    try clear hcz17_0
    try clear hcz17_1
    try clear hcz17_10
    try clear hcz17_2
    try clear hcz17_3
    try clear hcz17_4
    try clear hcz17_5
    try clear hcz17_6
    try clear hcz17_7
    try clear hcz17_8
    try clear hcz17_9
    try clear hcz18_0
    try clear hcz18_1
    try clear hcz18_10
    try clear hcz18_2
    try clear hcz18_3
    try clear hcz18_4
    try clear hcz18_5
    try clear hcz18_6
    try clear hcz18_7
    try clear hcz18_8
    try clear hcz18_9
    try clear hcz5_0
    try clear hcz5_1
    try clear hcz5_10
    try clear hcz5_2
    try clear hcz5_3
    try clear hcz5_4
    try clear hcz5_5
    try clear hcz5_6
    try clear hcz5_7
    try clear hcz5_8
    try clear hcz5_9
    try clear hcz7_0
    try clear hcz7_1
    try clear hcz7_10
    try clear hcz7_2
    try clear hcz7_3
    try clear hcz7_4
    try clear hcz7_5
    try clear hcz7_6
    try clear hcz7_7
    try clear hcz7_8
    try clear hcz7_9
    try clear hcz9_0
    try clear hcz9_1
    try clear hcz9_10
    try clear hcz9_2
    try clear hcz9_3
    try clear hcz9_4
    try clear hcz9_5
    try clear hcz9_6
    try clear hcz9_7
    try clear hcz9_8
    try clear hcz9_9
    try clear hfz11_0
    try clear hfz11_1
    try clear hfz11_10
    try clear hfz11_2
    try clear hfz11_3
    try clear hfz11_4
    try clear hfz11_5
    try clear hfz11_6
    try clear hfz11_7
    try clear hfz11_8
    try clear hfz11_9
    try clear hfz13_0
    try clear hfz13_1
    try clear hfz13_10
    try clear hfz13_2
    try clear hfz13_3
    try clear hfz13_4
    try clear hfz13_5
    try clear hfz13_6
    try clear hfz13_7
    try clear hfz13_8
    try clear hfz13_9
    try clear hfz15_0
    try clear hfz15_1
    try clear hfz15_10
    try clear hfz15_2
    try clear hfz15_3
    try clear hfz15_4
    try clear hfz15_5
    try clear hfz15_6
    try clear hfz15_7
    try clear hfz15_8
    try clear hfz15_9
    try clear hfz17_0
    try clear hfz17_1
    try clear hfz17_10
    try clear hfz17_2
    try clear hfz17_3
    try clear hfz17_4
    try clear hfz17_5
    try clear hfz17_6
    try clear hfz17_7
    try clear hfz17_8
    try clear hfz17_9
    try clear hfz18_0
    try clear hfz18_1
    try clear hfz18_10
    try clear hfz18_2
    try clear hfz18_3
    try clear hfz18_4
    try clear hfz18_5
    try clear hfz18_6
    try clear hfz18_7
    try clear hfz18_8
    try clear hfz18_9
    try clear hfz5_0
    try clear hfz5_1
    try clear hfz5_10
    try clear hfz5_2
    try clear hfz5_3
    try clear hfz5_4
    try clear hfz5_5
    try clear hfz5_6
    try clear hfz5_7
    try clear hfz5_8
    try clear hfz5_9
    try clear hfz7_0
    try clear hfz7_1
    try clear hfz7_10
    try clear hfz7_2
    try clear hfz7_3
    try clear hfz7_4
    try clear hfz7_5
    try clear hfz7_6
    try clear hfz7_7
    try clear hfz7_8
    try clear hfz7_9
    try clear hfz9_0
    try clear hfz9_1
    try clear hfz9_10
    try clear hfz9_2
    try clear hfz9_3
    try clear hfz9_4
    try clear hfz9_5
    try clear hfz9_6
    try clear hfz9_7
    try clear hfz9_8
    try clear hfz9_9
    obtain ⟨kq, x53_1, rfl, HA, HJ1, BK104, HB⟩ := hcut
    cases kq with
    | zero => exact absurd HA.out (by simp [interlocklaw15_GreatStmt.j0])
    | succ kj1 =>
      have H := HA.out
      clear HA
      simp only [interlocklaw15_GreatStmt.j0] at H
      by_cases c19 : x53_1 = true
      · subst c19
        have H1 : (some true) = some r := by rw [if_pos rfl] at H; exact H
        clear H
        have H := H1
        clear H1
        obtain rfl := Option.some.inj H
        go_wp2
        go_ret
        exact ⟨by first | rfl | (simp [errW_none, errW_some] <;> rfl) | (simp [*, errW_none, errW_some] <;> rfl), by repeat (first | (with_reducible first | exact HB.out | apply below_alloc | apply pw_below_drewN | apply below_drew1 | refine below_set ?_ GE104.out) | exact HB.out)⟩
      · replace c19 := Bool.eq_false_iff.mpr c19
        subst c19
        have H1 : (interlocklaw15_GreatStmt.l0 kj1 0 a0_0 a0_1 a0_2 a0_3 a0_4 a0_5 l0_6 l0_7 l0_8 l0_9 l0_10) = some r := by rw [if_neg (show ¬ (false = true) by decide)] at H; exact H
        clear H
        have H := H1
        clear H1
        have H' := Aside0.mk H
        clear H
        go_wp2
        go_loopg [3] kj1 (fun kq v3 w' => ∃ (x3_2 : Int), v3 = .int .i64 x3_2 ∧ Aside0 (interlocklaw15_GreatStmt.l0 kq x3_2 a0_0 a0_1 a0_2 a0_3 a0_4 a0_5 l0_6 l0_7 l0_8 l0_9 l0_10 = some r) ∧ Aside0 (kq ≤ kj1) ∧ Aside0 (w'.heap[gb104]? = some (.cells #[.int .i64 a0_0, .string a0_1, .string a0_2, .string a0_3, .int .i64 a0_4, .bool a0_5, (.slice A0_6 l0_6.length c0_6), (.slice A0_7 l0_7.length c0_7), (.slice A0_8 l0_8.length c0_8), (.slice A0_9 l0_9.length c0_9), (.slice A0_10 l0_10.length c0_10)] 28 (0, 0))) ∧ Aside0 (Below w.heap.size w w'))
        case atStart => exact ⟨(0), (by first | rfl | (simp; done) | (simp [*]; done)), H', ⟨Nat.le_refl _⟩, ⟨by (with_reducible repeat (first | refine blk_drewN ?_ _ | refine blk_drew ?_ | refine blk_alloc ?_ _)); exact BK104.out⟩, ⟨by repeat (first | (with_reducible first | exact HB.out | apply below_alloc | apply pw_below_drewN | apply below_drew1 | refine below_set ?_ GE104.out) | exact HB.out)⟩⟩
        case round =>
          clear H'
          try clear c1
          try clear p2
          try clear c4
          try clear c4b0
          try clear c4b1
          try clear c6
          try clear c6b0
          try clear c6b1
          try clear c8
          try clear c8b0
          try clear c8b1
          try clear c10
          try clear c10b0
          try clear c10b1
          try clear c12
          try clear c12b0
          try clear c12b1
          try clear c14
          try clear c14b0
          try clear c14b1
          try clear c16
          try clear c16b0
          try clear c16b1
          try clear c19
          try clear hcz11_0
          try clear hcz11_1
          try clear hcz11_10
          try clear hcz11_2
          try clear hcz11_3
          try clear hcz11_4
          try clear hcz11_5
          try clear hcz11_6
          try clear hcz11_7
          try clear hcz11_8
          try clear hcz11_9
          try clear hcz13_0
          try clear hcz13_1
          try clear hcz13_10
          try clear hcz13_2
          try clear hcz13_3
          try clear hcz13_4
          try clear hcz13_5
          try clear hcz13_6
          try clear hcz13_7
          try clear hcz13_8
          try clear hcz13_9
          try clear hcz15_0
          try clear hcz15_1
          try clear hcz15_10
          try clear hcz15_2
          try clear hcz15_3
          try clear hcz15_4
          try clear hcz15_5
          try clear hcz15_6
          try clear hcz15_7
          try clear hcz15_8
          try clear hcz15_9
          try clear hcz17_0
          try clear hcz17_1
          try clear hcz17_10
          try clear hcz17_2
          try clear hcz17_3
          try clear hcz17_4
          try clear hcz17_5
          try clear hcz17_6
          try clear hcz17_7
          try clear hcz17_8
          try clear hcz17_9
          try clear hcz18_0
          try clear hcz18_1
          try clear hcz18_10
          try clear hcz18_2
          try clear hcz18_3
          try clear hcz18_4
          try clear hcz18_5
          try clear hcz18_6
          try clear hcz18_7
          try clear hcz18_8
          try clear hcz18_9
          try clear hcz5_0
          try clear hcz5_1
          try clear hcz5_10
          try clear hcz5_2
          try clear hcz5_3
          try clear hcz5_4
          try clear hcz5_5
          try clear hcz5_6
          try clear hcz5_7
          try clear hcz5_8
          try clear hcz5_9
          try clear hcz7_0
          try clear hcz7_1
          try clear hcz7_10
          try clear hcz7_2
          try clear hcz7_3
          try clear hcz7_4
          try clear hcz7_5
          try clear hcz7_6
          try clear hcz7_7
          try clear hcz7_8
          try clear hcz7_9
          try clear hcz9_0
          try clear hcz9_1
          try clear hcz9_10
          try clear hcz9_2
          try clear hcz9_3
          try clear hcz9_4
          try clear hcz9_5
          try clear hcz9_6
          try clear hcz9_7
          try clear hcz9_8
          try clear hcz9_9
          try clear hfz11_0
          try clear hfz11_1
          try clear hfz11_10
          try clear hfz11_2
          try clear hfz11_3
          try clear hfz11_4
          try clear hfz11_5
          try clear hfz11_6
          try clear hfz11_7
          try clear hfz11_8
          try clear hfz11_9
          try clear hfz13_0
          try clear hfz13_1
          try clear hfz13_10
          try clear hfz13_2
          try clear hfz13_3
          try clear hfz13_4
          try clear hfz13_5
          try clear hfz13_6
          try clear hfz13_7
          try clear hfz13_8
          try clear hfz13_9
          try clear hfz15_0
          try clear hfz15_1
          try clear hfz15_10
          try clear hfz15_2
          try clear hfz15_3
          try clear hfz15_4
          try clear hfz15_5
          try clear hfz15_6
          try clear hfz15_7
          try clear hfz15_8
          try clear hfz15_9
          try clear hfz17_0
          try clear hfz17_1
          try clear hfz17_10
          try clear hfz17_2
          try clear hfz17_3
          try clear hfz17_4
          try clear hfz17_5
          try clear hfz17_6
          try clear hfz17_7
          try clear hfz17_8
          try clear hfz17_9
          try clear hfz18_0
          try clear hfz18_1
          try clear hfz18_10
          try clear hfz18_2
          try clear hfz18_3
          try clear hfz18_4
          try clear hfz18_5
          try clear hfz18_6
          try clear hfz18_7
          try clear hfz18_8
          try clear hfz18_9
          try clear hfz5_0
          try clear hfz5_1
          try clear hfz5_10
          try clear hfz5_2
          try clear hfz5_3
          try clear hfz5_4
          try clear hfz5_5
          try clear hfz5_6
          try clear hfz5_7
          try clear hfz5_8
          try clear hfz5_9
          try clear hfz7_0
          try clear hfz7_1
          try clear hfz7_10
          try clear hfz7_2
          try clear hfz7_3
          try clear hfz7_4
          try clear hfz7_5
          try clear hfz7_6
          try clear hfz7_7
          try clear hfz7_8
          try clear hfz7_9
          try clear hfz9_0
          try clear hfz9_1
          try clear hfz9_10
          try clear hfz9_2
          try clear hfz9_3
          try clear hfz9_4
          try clear hfz9_5
          try clear hfz9_6
          try clear hfz9_7
          try clear hfz9_8
          try clear hfz9_9
          try clear p2
          obtain ⟨x3_2, rfl, HA, HK2, BK104, HB⟩ := hrel
          cases gk with
          | zero => exact absurd HA.out (by simp [interlocklaw15_GreatStmt.l0])
          | succ k2 =>
            have H := HA.out
            clear HA
            simp only [interlocklaw15_GreatStmt.l0] at H
            by_cases c20 : x3_2 < (l0_6.length : Int)
            · rw [if_pos c20] at H
              have c20b0 : decide (x3_2 < (l0_6.length : Int)) = true := decide_eq_true c20
              clear c20
              by_cases c21 : 0 ≤ x3_2
              · rw [if_pos c21] at H
                have c21b0 : decide (0 ≤ x3_2) = true := decide_eq_true c21
                clear c21
                by_cases c22 : (((rd_T60 l0_6 x3_2).f2).size : Int) > 50
                · rw [if_pos c22] at H
                  have c22b0 : decide (50 < (((rd_T60 l0_6 x3_2).f2).size : Int)) = true := decide_eq_true c22
                  have c22b1 : decide (50 < ((rd_T60 l0_6 x3_2).f2).size) = true := decide_eq_true (by omega)
                  clear c22
                  obtain rfl := Option.some.inj H
                  have hcz23_0 : wr.cell? ⟨gb104, 0, none⟩ = some (.int .i64 a0_0) := (blk_cell BK104.out 0).trans rfl
                  have hcz23_1 : wr.cell? ⟨gb104, 1, none⟩ = some (.string a0_1) := (blk_cell BK104.out 1).trans rfl
                  have hcz23_2 : wr.cell? ⟨gb104, 2, none⟩ = some (.string a0_2) := (blk_cell BK104.out 2).trans rfl
                  have hcz23_3 : wr.cell? ⟨gb104, 3, none⟩ = some (.string a0_3) := (blk_cell BK104.out 3).trans rfl
                  have hcz23_4 : wr.cell? ⟨gb104, 4, none⟩ = some (.int .i64 a0_4) := (blk_cell BK104.out 4).trans rfl
                  have hcz23_5 : wr.cell? ⟨gb104, 5, none⟩ = some (.bool a0_5) := (blk_cell BK104.out 5).trans rfl
                  have hcz23_6 : wr.cell? ⟨gb104, 6, none⟩ = some (.slice A0_6 l0_6.length c0_6) := (blk_cell BK104.out 6).trans rfl
                  have hcz23_7 : wr.cell? ⟨gb104, 7, none⟩ = some (.slice A0_7 l0_7.length c0_7) := (blk_cell BK104.out 7).trans rfl
                  have hcz23_8 : wr.cell? ⟨gb104, 8, none⟩ = some (.slice A0_8 l0_8.length c0_8) := (blk_cell BK104.out 8).trans rfl
                  have hcz23_9 : wr.cell? ⟨gb104, 9, none⟩ = some (.slice A0_9 l0_9.length c0_9) := (blk_cell BK104.out 9).trans rfl
                  have hcz23_10 : wr.cell? ⟨gb104, 10, none⟩ = some (.slice A0_10 l0_10.length c0_10) := (blk_cell BK104.out 10).trans rfl
                  have hfz23_0 := blk_frozen BK104.out 0
                  have hfz23_1 := blk_frozen BK104.out 1
                  have hfz23_2 := blk_frozen BK104.out 2
                  have hfz23_3 := blk_frozen BK104.out 3
                  have hfz23_4 := blk_frozen BK104.out 4
                  have hfz23_5 := blk_frozen BK104.out 5
                  have hfz23_6 := blk_frozen BK104.out 6
                  have hfz23_7 := blk_frozen BK104.out 7
                  have hfz23_8 := blk_frozen BK104.out 8
                  have hfz23_9 := blk_frozen BK104.out 9
                  have hfz23_10 := blk_frozen BK104.out 10
                  have p105 : 0 ≤ (x3_2 : Int) := of_decide_eq_true (by first | (with_reducible assumption) | assumption)
                  have q105 : x3_2 < (l0_6.length : Int) := of_decide_eq_true (by first | (with_reducible assumption) | assumption)
                  obtain ⟨ad105, e105, hx105_0, hx105_1, hx105_2⟩ := at_T60 HR0_6.out x3_2 p105 q105
                  cases e105
                  replace hx105_0 := (HB.out.cell (World.block_lt_of_cell? w _ hx105_0)).trans hx105_0
                  replace hx105_1 := (HB.out.cell (World.block_lt_of_cell? w _ hx105_1)).trans hx105_1
                  replace hx105_2 := (HB.out.cell (World.block_lt_of_cell? w _ hx105_2)).trans hx105_2
                  replace p105 := eq_true p105
                  replace q105 := eq_true q105
                  go_wp2
                  go_ret
                  exact ⟨by first | rfl | (simp [errW_none, errW_some] <;> rfl) | (simp [*, errW_none, errW_some] <;> rfl), by repeat (first | (with_reducible first | exact HB.out | apply below_alloc | apply pw_below_drewN | apply below_drew1 | refine below_set ?_ GE104.out) | exact HB.out)⟩
                · rw [if_neg c22] at H
                  have c22b0 : decide (50 < (((rd_T60 l0_6 x3_2).f2).size : Int)) = false := decide_eq_false c22
                  have c22b1 : decide (50 < ((rd_T60 l0_6 x3_2).f2).size) = false := decide_eq_false (by omega)
                  clear c22
                  have H' := Aside0.mk H
                  clear H
                  have hcz24_0 : wr.cell? ⟨gb104, 0, none⟩ = some (.int .i64 a0_0) := (blk_cell BK104.out 0).trans rfl
                  have hcz24_1 : wr.cell? ⟨gb104, 1, none⟩ = some (.string a0_1) := (blk_cell BK104.out 1).trans rfl
                  have hcz24_2 : wr.cell? ⟨gb104, 2, none⟩ = some (.string a0_2) := (blk_cell BK104.out 2).trans rfl
                  have hcz24_3 : wr.cell? ⟨gb104, 3, none⟩ = some (.string a0_3) := (blk_cell BK104.out 3).trans rfl
                  have hcz24_4 : wr.cell? ⟨gb104, 4, none⟩ = some (.int .i64 a0_4) := (blk_cell BK104.out 4).trans rfl
                  have hcz24_5 : wr.cell? ⟨gb104, 5, none⟩ = some (.bool a0_5) := (blk_cell BK104.out 5).trans rfl
                  have hcz24_6 : wr.cell? ⟨gb104, 6, none⟩ = some (.slice A0_6 l0_6.length c0_6) := (blk_cell BK104.out 6).trans rfl
                  have hcz24_7 : wr.cell? ⟨gb104, 7, none⟩ = some (.slice A0_7 l0_7.length c0_7) := (blk_cell BK104.out 7).trans rfl
                  have hcz24_8 : wr.cell? ⟨gb104, 8, none⟩ = some (.slice A0_8 l0_8.length c0_8) := (blk_cell BK104.out 8).trans rfl
                  have hcz24_9 : wr.cell? ⟨gb104, 9, none⟩ = some (.slice A0_9 l0_9.length c0_9) := (blk_cell BK104.out 9).trans rfl
                  have hcz24_10 : wr.cell? ⟨gb104, 10, none⟩ = some (.slice A0_10 l0_10.length c0_10) := (blk_cell BK104.out 10).trans rfl
                  have hfz24_0 := blk_frozen BK104.out 0
                  have hfz24_1 := blk_frozen BK104.out 1
                  have hfz24_2 := blk_frozen BK104.out 2
                  have hfz24_3 := blk_frozen BK104.out 3
                  have hfz24_4 := blk_frozen BK104.out 4
                  have hfz24_5 := blk_frozen BK104.out 5
                  have hfz24_6 := blk_frozen BK104.out 6
                  have hfz24_7 := blk_frozen BK104.out 7
                  have hfz24_8 := blk_frozen BK104.out 8
                  have hfz24_9 := blk_frozen BK104.out 9
                  have hfz24_10 := blk_frozen BK104.out 10
                  have p105 : 0 ≤ (x3_2 : Int) := of_decide_eq_true (by first | (with_reducible assumption) | assumption)
                  have q105 : x3_2 < (l0_6.length : Int) := of_decide_eq_true (by first | (with_reducible assumption) | assumption)
                  obtain ⟨ad105, e105, hx105_0, hx105_1, hx105_2⟩ := at_T60 HR0_6.out x3_2 p105 q105
                  cases e105
                  replace hx105_0 := (HB.out.cell (World.block_lt_of_cell? w _ hx105_0)).trans hx105_0
                  replace hx105_1 := (HB.out.cell (World.block_lt_of_cell? w _ hx105_1)).trans hx105_1
                  replace hx105_2 := (HB.out.cell (World.block_lt_of_cell? w _ hx105_2)).trans hx105_2
                  replace p105 := eq_true p105
                  replace q105 := eq_true q105
                  go_wp2
                  go_roundg k2
                  case measure => have := HJ1.out; have := HK2.out; omega
                  case rel => exact ⟨(wrap64 (x3_2 + 1)), (by first | rfl | (simp; done) | (simp [*]; done)), H', ⟨by have := HJ1.out; have := HK2.out; omega⟩, ⟨by (with_reducible repeat (first | refine blk_drewN ?_ _ | refine blk_drew ?_ | refine blk_alloc ?_ _)); exact BK104.out⟩, ⟨by repeat (first | (with_reducible first | exact HB.out | apply below_alloc | apply pw_below_drewN | apply below_drew1 | refine below_set ?_ GE104.out) | exact HB.out)⟩⟩
              · rw [if_neg c21] at H
                exact absurd H (by simp)
            · rw [if_neg c20] at H
              have c20b0 : decide (x3_2 < (l0_6.length : Int)) = false := decide_eq_false c20
              clear c20
              have H' := Aside0.mk H
              clear H
              have hcz25_0 : wr.cell? ⟨gb104, 0, none⟩ = some (.int .i64 a0_0) := (blk_cell BK104.out 0).trans rfl
              have hcz25_1 : wr.cell? ⟨gb104, 1, none⟩ = some (.string a0_1) := (blk_cell BK104.out 1).trans rfl
              have hcz25_2 : wr.cell? ⟨gb104, 2, none⟩ = some (.string a0_2) := (blk_cell BK104.out 2).trans rfl
              have hcz25_3 : wr.cell? ⟨gb104, 3, none⟩ = some (.string a0_3) := (blk_cell BK104.out 3).trans rfl
              have hcz25_4 : wr.cell? ⟨gb104, 4, none⟩ = some (.int .i64 a0_4) := (blk_cell BK104.out 4).trans rfl
              have hcz25_5 : wr.cell? ⟨gb104, 5, none⟩ = some (.bool a0_5) := (blk_cell BK104.out 5).trans rfl
              have hcz25_6 : wr.cell? ⟨gb104, 6, none⟩ = some (.slice A0_6 l0_6.length c0_6) := (blk_cell BK104.out 6).trans rfl
              have hcz25_7 : wr.cell? ⟨gb104, 7, none⟩ = some (.slice A0_7 l0_7.length c0_7) := (blk_cell BK104.out 7).trans rfl
              have hcz25_8 : wr.cell? ⟨gb104, 8, none⟩ = some (.slice A0_8 l0_8.length c0_8) := (blk_cell BK104.out 8).trans rfl
              have hcz25_9 : wr.cell? ⟨gb104, 9, none⟩ = some (.slice A0_9 l0_9.length c0_9) := (blk_cell BK104.out 9).trans rfl
              have hcz25_10 : wr.cell? ⟨gb104, 10, none⟩ = some (.slice A0_10 l0_10.length c0_10) := (blk_cell BK104.out 10).trans rfl
              have hfz25_0 := blk_frozen BK104.out 0
              have hfz25_1 := blk_frozen BK104.out 1
              have hfz25_2 := blk_frozen BK104.out 2
              have hfz25_3 := blk_frozen BK104.out 3
              have hfz25_4 := blk_frozen BK104.out 4
              have hfz25_5 := blk_frozen BK104.out 5
              have hfz25_6 := blk_frozen BK104.out 6
              have hfz25_7 := blk_frozen BK104.out 7
              have hfz25_8 := blk_frozen BK104.out 8
              have hfz25_9 := blk_frozen BK104.out 9
              have hfz25_10 := blk_frozen BK104.out 10
              go_wp2
              go_loopg [4] k2 (fun kq v4 w' => ∃ (x4_3 : Int), v4 = .int .i64 x4_3 ∧ Aside0 (interlocklaw15_GreatStmt.l1 kq x4_3 a0_0 a0_1 a0_2 a0_3 a0_4 a0_5 l0_6 l0_7 l0_8 l0_9 l0_10 = some r) ∧ Aside0 (kq ≤ k2) ∧ Aside0 (w'.heap[gb104]? = some (.cells #[.int .i64 a0_0, .string a0_1, .string a0_2, .string a0_3, .int .i64 a0_4, .bool a0_5, (.slice A0_6 l0_6.length c0_6), (.slice A0_7 l0_7.length c0_7), (.slice A0_8 l0_8.length c0_8), (.slice A0_9 l0_9.length c0_9), (.slice A0_10 l0_10.length c0_10)] 28 (0, 0))) ∧ Aside0 (Below w.heap.size w w'))
              case atStart => exact ⟨(0), (by first | rfl | (simp; done) | (simp [*]; done)), H', ⟨Nat.le_refl _⟩, ⟨by (with_reducible repeat (first | refine blk_drewN ?_ _ | refine blk_drew ?_ | refine blk_alloc ?_ _)); exact BK104.out⟩, ⟨by repeat (first | (with_reducible first | exact HB.out | apply below_alloc | apply pw_below_drewN | apply below_drew1 | refine below_set ?_ GE104.out) | exact HB.out)⟩⟩
              case round =>
                clear H'
                try clear c1
                try clear p1
                try clear q1
                try clear hx1
                try clear c2
                try clear p2
                try clear c4
                try clear c4b0
                try clear c4b1
                try clear c6
                try clear c6b0
                try clear c6b1
                try clear p6
                try clear c8
                try clear c8b0
                try clear c8b1
                try clear c10
                try clear c10b0
                try clear c10b1
                try clear p10
                try clear q10
                try clear hx10
                try clear c12
                try clear c12b0
                try clear c12b1
                try clear c14
                try clear c14b0
                try clear c14b1
                try clear c16
                try clear c16b0
                try clear c16b1
                try clear c19
                try clear c20
                try clear c20b0
                try clear c21
                try clear c21b0
                try clear c22
                try clear c22b0
                try clear c22b1
                try clear hcz11_0
                try clear hcz11_1
                try clear hcz11_10
                try clear hcz11_2
                try clear hcz11_3
                try clear hcz11_4
                try clear hcz11_5
                try clear hcz11_6
                try clear hcz11_7
                try clear hcz11_8
                try clear hcz11_9
                try clear hcz13_0
                try clear hcz13_1
                try clear hcz13_10
                try clear hcz13_2
                try clear hcz13_3
                try clear hcz13_4
                try clear hcz13_5
                try clear hcz13_6
                try clear hcz13_7
                try clear hcz13_8
                try clear hcz13_9
                try clear hcz15_0
                try clear hcz15_1
                try clear hcz15_10
                try clear hcz15_2
                try clear hcz15_3
                try clear hcz15_4
                try clear hcz15_5
                try clear hcz15_6
                try clear hcz15_7
                try clear hcz15_8
                try clear hcz15_9
                try clear hcz17_0
                try clear hcz17_1
                try clear hcz17_10
                try clear hcz17_2
                try clear hcz17_3
                try clear hcz17_4
                try clear hcz17_5
                try clear hcz17_6
                try clear hcz17_7
                try clear hcz17_8
                try clear hcz17_9
                try clear hcz18_0
                try clear hcz18_1
                try clear hcz18_10
                try clear hcz18_2
                try clear hcz18_3
                try clear hcz18_4
                try clear hcz18_5
                try clear hcz18_6
                try clear hcz18_7
                try clear hcz18_8
                try clear hcz18_9
                try clear hcz23_0
                try clear hcz23_1
                try clear hcz23_10
                try clear hcz23_2
                try clear hcz23_3
                try clear hcz23_4
                try clear hcz23_5
                try clear hcz23_6
                try clear hcz23_7
                try clear hcz23_8
                try clear hcz23_9
                try clear hcz24_0
                try clear hcz24_1
                try clear hcz24_10
                try clear hcz24_2
                try clear hcz24_3
                try clear hcz24_4
                try clear hcz24_5
                try clear hcz24_6
                try clear hcz24_7
                try clear hcz24_8
                try clear hcz24_9
                try clear hcz25_0
                try clear hcz25_1
                try clear hcz25_10
                try clear hcz25_2
                try clear hcz25_3
                try clear hcz25_4
                try clear hcz25_5
                try clear hcz25_6
                try clear hcz25_7
                try clear hcz25_8
                try clear hcz25_9
                try clear hcz5_0
                try clear hcz5_1
                try clear hcz5_10
                try clear hcz5_2
                try clear hcz5_3
                try clear hcz5_4
                try clear hcz5_5
                try clear hcz5_6
                try clear hcz5_7
                try clear hcz5_8
                try clear hcz5_9
                try clear hcz7_0
                try clear hcz7_1
                try clear hcz7_10
                try clear hcz7_2
                try clear hcz7_3
                try clear hcz7_4
                try clear hcz7_5
                try clear hcz7_6
                try clear hcz7_7
                try clear hcz7_8
                try clear hcz7_9
                try clear hcz9_0
                try clear hcz9_1
                try clear hcz9_10
                try clear hcz9_2
                try clear hcz9_3
                try clear hcz9_4
                try clear hcz9_5
                try clear hcz9_6
                try clear hcz9_7
                try clear hcz9_8
                try clear hcz9_9
                try clear hfz11_0
                try clear hfz11_1
                try clear hfz11_10
                try clear hfz11_2
                try clear hfz11_3
                try clear hfz11_4
                try clear hfz11_5
                try clear hfz11_6
                try clear hfz11_7
                try clear hfz11_8
                try clear hfz11_9
                try clear hfz13_0
                try clear hfz13_1
                try clear hfz13_10
                try clear hfz13_2
                try clear hfz13_3
                try clear hfz13_4
                try clear hfz13_5
                try clear hfz13_6
                try clear hfz13_7
                try clear hfz13_8
                try clear hfz13_9
                try clear hfz15_0
                try clear hfz15_1
                try clear hfz15_10
                try clear hfz15_2
                try clear hfz15_3
                try clear hfz15_4
                try clear hfz15_5
                try clear hfz15_6
                try clear hfz15_7
                try clear hfz15_8
                try clear hfz15_9
                try clear hfz17_0
                try clear hfz17_1
                try clear hfz17_10
                try clear hfz17_2
                try clear hfz17_3
                try clear hfz17_4
                try clear hfz17_5
                try clear hfz17_6
                try clear hfz17_7
                try clear hfz17_8
                try clear hfz17_9
                try clear hfz18_0
                try clear hfz18_1
                try clear hfz18_10
                try clear hfz18_2
                try clear hfz18_3
                try clear hfz18_4
                try clear hfz18_5
                try clear hfz18_6
                try clear hfz18_7
                try clear hfz18_8
                try clear hfz18_9
                try clear hfz23_0
                try clear hfz23_1
                try clear hfz23_10
                try clear hfz23_2
                try clear hfz23_3
                try clear hfz23_4
                try clear hfz23_5
                try clear hfz23_6
                try clear hfz23_7
                try clear hfz23_8
                try clear hfz23_9
                try clear hfz24_0
                try clear hfz24_1
                try clear hfz24_10
                try clear hfz24_2
                try clear hfz24_3
                try clear hfz24_4
                try clear hfz24_5
                try clear hfz24_6
                try clear hfz24_7
                try clear hfz24_8
                try clear hfz24_9
                try clear hfz25_0
                try clear hfz25_1
                try clear hfz25_10
                try clear hfz25_2
                try clear hfz25_3
                try clear hfz25_4
                try clear hfz25_5
                try clear hfz25_6
                try clear hfz25_7
                try clear hfz25_8
                try clear hfz25_9
                try clear hfz5_0
                try clear hfz5_1
                try clear hfz5_10
                try clear hfz5_2
                try clear hfz5_3
                try clear hfz5_4
                try clear hfz5_5
                try clear hfz5_6
                try clear hfz5_7
                try clear hfz5_8
                try clear hfz5_9
                try clear hfz7_0
                try clear hfz7_1
                try clear hfz7_10
                try clear hfz7_2
                try clear hfz7_3
                try clear hfz7_4
                try clear hfz7_5
                try clear hfz7_6
                try clear hfz7_7
                try clear hfz7_8
                try clear hfz7_9
                try clear hfz9_0
                try clear hfz9_1
                try clear hfz9_10
                try clear hfz9_2
                try clear hfz9_3
                try clear hfz9_4
                try clear hfz9_5
                try clear hfz9_6
                try clear hfz9_7
                try clear hfz9_8
                try clear hfz9_9
                try clear hx105_0
                try clear hx105_1
                try clear hx105_2
                try clear p105
                try clear p2
                try clear q105
                obtain ⟨x4_3, rfl, HA, HK3, BK104, HB⟩ := hrel
                cases gk with
                | zero => exact absurd HA.out (by simp [interlocklaw15_GreatStmt.l1])
                | succ k3 =>
                  have H := HA.out
                  clear HA
                  simp only [interlocklaw15_GreatStmt.l1] at H
                  by_cases c26 : x4_3 < (l0_7.length : Int)
                  · rw [if_pos c26] at H
                    have c26b0 : decide (x4_3 < (l0_7.length : Int)) = true := decide_eq_true c26
                    clear c26
                    by_cases c27 : 0 ≤ x4_3
                    · rw [if_pos c27] at H
                      have c27b0 : decide (0 ≤ x4_3) = true := decide_eq_true c27
                      clear c27
                      by_cases c28 : (((rd_T62 l0_7 x4_3).f1.f2).size : Int) > 50
                      · rw [if_pos c28] at H
                        have c28b0 : decide (50 < (((rd_T62 l0_7 x4_3).f1.f2).size : Int)) = true := decide_eq_true c28
                        have c28b1 : decide (50 < ((rd_T62 l0_7 x4_3).f1.f2).size) = true := decide_eq_true (by omega)
                        clear c28
                        obtain rfl := Option.some.inj H
                        have hcz29_0 : wr.cell? ⟨gb104, 0, none⟩ = some (.int .i64 a0_0) := (blk_cell BK104.out 0).trans rfl
                        have hcz29_1 : wr.cell? ⟨gb104, 1, none⟩ = some (.string a0_1) := (blk_cell BK104.out 1).trans rfl
                        have hcz29_2 : wr.cell? ⟨gb104, 2, none⟩ = some (.string a0_2) := (blk_cell BK104.out 2).trans rfl
                        have hcz29_3 : wr.cell? ⟨gb104, 3, none⟩ = some (.string a0_3) := (blk_cell BK104.out 3).trans rfl
                        have hcz29_4 : wr.cell? ⟨gb104, 4, none⟩ = some (.int .i64 a0_4) := (blk_cell BK104.out 4).trans rfl
                        have hcz29_5 : wr.cell? ⟨gb104, 5, none⟩ = some (.bool a0_5) := (blk_cell BK104.out 5).trans rfl
                        have hcz29_6 : wr.cell? ⟨gb104, 6, none⟩ = some (.slice A0_6 l0_6.length c0_6) := (blk_cell BK104.out 6).trans rfl
                        have hcz29_7 : wr.cell? ⟨gb104, 7, none⟩ = some (.slice A0_7 l0_7.length c0_7) := (blk_cell BK104.out 7).trans rfl
                        have hcz29_8 : wr.cell? ⟨gb104, 8, none⟩ = some (.slice A0_8 l0_8.length c0_8) := (blk_cell BK104.out 8).trans rfl
                        have hcz29_9 : wr.cell? ⟨gb104, 9, none⟩ = some (.slice A0_9 l0_9.length c0_9) := (blk_cell BK104.out 9).trans rfl
                        have hcz29_10 : wr.cell? ⟨gb104, 10, none⟩ = some (.slice A0_10 l0_10.length c0_10) := (blk_cell BK104.out 10).trans rfl
                        have hfz29_0 := blk_frozen BK104.out 0
                        have hfz29_1 := blk_frozen BK104.out 1
                        have hfz29_2 := blk_frozen BK104.out 2
                        have hfz29_3 := blk_frozen BK104.out 3
                        have hfz29_4 := blk_frozen BK104.out 4
                        have hfz29_5 := blk_frozen BK104.out 5
                        have hfz29_6 := blk_frozen BK104.out 6
                        have hfz29_7 := blk_frozen BK104.out 7
                        have hfz29_8 := blk_frozen BK104.out 8
                        have hfz29_9 := blk_frozen BK104.out 9
                        have hfz29_10 := blk_frozen BK104.out 10
                        have p106 : 0 ≤ (x4_3 : Int) := of_decide_eq_true (by first | (with_reducible assumption) | assumption)
                        have q106 : x4_3 < (l0_7.length : Int) := of_decide_eq_true (by first | (with_reducible assumption) | assumption)
                        obtain ⟨ad106, e106, hx106_0, hx106_1, hx106_2, hx106_3⟩ := at_T62 HR0_7.out x4_3 p106 q106
                        cases e106
                        replace hx106_0 := (HB.out.cell (World.block_lt_of_cell? w _ hx106_0)).trans hx106_0
                        replace hx106_1 := (HB.out.cell (World.block_lt_of_cell? w _ hx106_1)).trans hx106_1
                        replace hx106_2 := (HB.out.cell (World.block_lt_of_cell? w _ hx106_2)).trans hx106_2
                        replace hx106_3 := (HB.out.cell (World.block_lt_of_cell? w _ hx106_3)).trans hx106_3
                        replace p106 := eq_true p106
                        replace q106 := eq_true q106
                        go_wp2
                        go_ret
                        exact ⟨by first | rfl | (simp [errW_none, errW_some] <;> rfl) | (simp [*, errW_none, errW_some] <;> rfl), by repeat (first | (with_reducible first | exact HB.out | apply below_alloc | apply pw_below_drewN | apply below_drew1 | refine below_set ?_ GE104.out) | exact HB.out)⟩
                      · rw [if_neg c28] at H
                        have c28b0 : decide (50 < (((rd_T62 l0_7 x4_3).f1.f2).size : Int)) = false := decide_eq_false c28
                        have c28b1 : decide (50 < ((rd_T62 l0_7 x4_3).f1.f2).size) = false := decide_eq_false (by omega)
                        clear c28
                        by_cases c30 : (((rd_T62 l0_7 x4_3).f0).size : Int) > 50
                        · rw [if_pos c30] at H
                          have c30b0 : decide (50 < (((rd_T62 l0_7 x4_3).f0).size : Int)) = true := decide_eq_true c30
                          have c30b1 : decide (50 < ((rd_T62 l0_7 x4_3).f0).size) = true := decide_eq_true (by omega)
                          clear c30
                          obtain rfl := Option.some.inj H
                          have hcz31_0 : wr.cell? ⟨gb104, 0, none⟩ = some (.int .i64 a0_0) := (blk_cell BK104.out 0).trans rfl
                          have hcz31_1 : wr.cell? ⟨gb104, 1, none⟩ = some (.string a0_1) := (blk_cell BK104.out 1).trans rfl
                          have hcz31_2 : wr.cell? ⟨gb104, 2, none⟩ = some (.string a0_2) := (blk_cell BK104.out 2).trans rfl
                          have hcz31_3 : wr.cell? ⟨gb104, 3, none⟩ = some (.string a0_3) := (blk_cell BK104.out 3).trans rfl
                          have hcz31_4 : wr.cell? ⟨gb104, 4, none⟩ = some (.int .i64 a0_4) := (blk_cell BK104.out 4).trans rfl
                          have hcz31_5 : wr.cell? ⟨gb104, 5, none⟩ = some (.bool a0_5) := (blk_cell BK104.out 5).trans rfl
                          have hcz31_6 : wr.cell? ⟨gb104, 6, none⟩ = some (.slice A0_6 l0_6.length c0_6) := (blk_cell BK104.out 6).trans rfl
                          have hcz31_7 : wr.cell? ⟨gb104, 7, none⟩ = some (.slice A0_7 l0_7.length c0_7) := (blk_cell BK104.out 7).trans rfl
                          have hcz31_8 : wr.cell? ⟨gb104, 8, none⟩ = some (.slice A0_8 l0_8.length c0_8) := (blk_cell BK104.out 8).trans rfl
                          have hcz31_9 : wr.cell? ⟨gb104, 9, none⟩ = some (.slice A0_9 l0_9.length c0_9) := (blk_cell BK104.out 9).trans rfl
                          have hcz31_10 : wr.cell? ⟨gb104, 10, none⟩ = some (.slice A0_10 l0_10.length c0_10) := (blk_cell BK104.out 10).trans rfl
                          have hfz31_0 := blk_frozen BK104.out 0
                          have hfz31_1 := blk_frozen BK104.out 1
                          have hfz31_2 := blk_frozen BK104.out 2
                          have hfz31_3 := blk_frozen BK104.out 3
                          have hfz31_4 := blk_frozen BK104.out 4
                          have hfz31_5 := blk_frozen BK104.out 5
                          have hfz31_6 := blk_frozen BK104.out 6
                          have hfz31_7 := blk_frozen BK104.out 7
                          have hfz31_8 := blk_frozen BK104.out 8
                          have hfz31_9 := blk_frozen BK104.out 9
                          have hfz31_10 := blk_frozen BK104.out 10
                          have p106 : 0 ≤ (x4_3 : Int) := of_decide_eq_true (by first | (with_reducible assumption) | assumption)
                          have q106 : x4_3 < (l0_7.length : Int) := of_decide_eq_true (by first | (with_reducible assumption) | assumption)
                          obtain ⟨ad106, e106, hx106_0, hx106_1, hx106_2, hx106_3⟩ := at_T62 HR0_7.out x4_3 p106 q106
                          cases e106
                          replace hx106_0 := (HB.out.cell (World.block_lt_of_cell? w _ hx106_0)).trans hx106_0
                          replace hx106_1 := (HB.out.cell (World.block_lt_of_cell? w _ hx106_1)).trans hx106_1
                          replace hx106_2 := (HB.out.cell (World.block_lt_of_cell? w _ hx106_2)).trans hx106_2
                          replace hx106_3 := (HB.out.cell (World.block_lt_of_cell? w _ hx106_3)).trans hx106_3
                          replace p106 := eq_true p106
                          replace q106 := eq_true q106
                          have p107 : 0 ≤ (x4_3 : Int) := of_decide_eq_true (by first | (with_reducible assumption) | assumption)
                          have q107 : x4_3 < (l0_7.length : Int) := of_decide_eq_true (by first | (with_reducible assumption) | assumption)
                          obtain ⟨ad107, e107, hx107_0, hx107_1, hx107_2, hx107_3⟩ := at_T62 HR0_7.out x4_3 p107 q107
                          obtain rfl : ad106 = ad107 := (by injection e107)
                          replace hx107_0 := (HB.out.cell (World.block_lt_of_cell? w _ hx107_0)).trans hx107_0
                          replace hx107_1 := (HB.out.cell (World.block_lt_of_cell? w _ hx107_1)).trans hx107_1
                          replace hx107_2 := (HB.out.cell (World.block_lt_of_cell? w _ hx107_2)).trans hx107_2
                          replace hx107_3 := (HB.out.cell (World.block_lt_of_cell? w _ hx107_3)).trans hx107_3
                          replace p107 := eq_true p107
                          replace q107 := eq_true q107
                          go_wp2
                          go_ret
                          exact ⟨by first | rfl | (simp [errW_none, errW_some] <;> rfl) | (simp [*, errW_none, errW_some] <;> rfl), by repeat (first | (with_reducible first | exact HB.out | apply below_alloc | apply pw_below_drewN | apply below_drew1 | refine below_set ?_ GE104.out) | exact HB.out)⟩
                        · rw [if_neg c30] at H
                          have c30b0 : decide (50 < (((rd_T62 l0_7 x4_3).f0).size : Int)) = false := decide_eq_false c30
                          have c30b1 : decide (50 < ((rd_T62 l0_7 x4_3).f0).size) = false := decide_eq_false (by omega)
                          clear c30
                          have H' := Aside0.mk H
                          clear H
                          have hcz32_0 : wr.cell? ⟨gb104, 0, none⟩ = some (.int .i64 a0_0) := (blk_cell BK104.out 0).trans rfl
                          have hcz32_1 : wr.cell? ⟨gb104, 1, none⟩ = some (.string a0_1) := (blk_cell BK104.out 1).trans rfl
                          have hcz32_2 : wr.cell? ⟨gb104, 2, none⟩ = some (.string a0_2) := (blk_cell BK104.out 2).trans rfl
                          have hcz32_3 : wr.cell? ⟨gb104, 3, none⟩ = some (.string a0_3) := (blk_cell BK104.out 3).trans rfl
                          have hcz32_4 : wr.cell? ⟨gb104, 4, none⟩ = some (.int .i64 a0_4) := (blk_cell BK104.out 4).trans rfl
                          have hcz32_5 : wr.cell? ⟨gb104, 5, none⟩ = some (.bool a0_5) := (blk_cell BK104.out 5).trans rfl
                          have hcz32_6 : wr.cell? ⟨gb104, 6, none⟩ = some (.slice A0_6 l0_6.length c0_6) := (blk_cell BK104.out 6).trans rfl
                          have hcz32_7 : wr.cell? ⟨gb104, 7, none⟩ = some (.slice A0_7 l0_7.length c0_7) := (blk_cell BK104.out 7).trans rfl
                          have hcz32_8 : wr.cell? ⟨gb104, 8, none⟩ = some (.slice A0_8 l0_8.length c0_8) := (blk_cell BK104.out 8).trans rfl
                          have hcz32_9 : wr.cell? ⟨gb104, 9, none⟩ = some (.slice A0_9 l0_9.length c0_9) := (blk_cell BK104.out 9).trans rfl
                          have hcz32_10 : wr.cell? ⟨gb104, 10, none⟩ = some (.slice A0_10 l0_10.length c0_10) := (blk_cell BK104.out 10).trans rfl
                          have hfz32_0 := blk_frozen BK104.out 0
                          have hfz32_1 := blk_frozen BK104.out 1
                          have hfz32_2 := blk_frozen BK104.out 2
                          have hfz32_3 := blk_frozen BK104.out 3
                          have hfz32_4 := blk_frozen BK104.out 4
                          have hfz32_5 := blk_frozen BK104.out 5
                          have hfz32_6 := blk_frozen BK104.out 6
                          have hfz32_7 := blk_frozen BK104.out 7
                          have hfz32_8 := blk_frozen BK104.out 8
                          have hfz32_9 := blk_frozen BK104.out 9
                          have hfz32_10 := blk_frozen BK104.out 10
                          have p106 : 0 ≤ (x4_3 : Int) := of_decide_eq_true (by first | (with_reducible assumption) | assumption)
                          have q106 : x4_3 < (l0_7.length : Int) := of_decide_eq_true (by first | (with_reducible assumption) | assumption)
                          obtain ⟨ad106, e106, hx106_0, hx106_1, hx106_2, hx106_3⟩ := at_T62 HR0_7.out x4_3 p106 q106
                          cases e106
                          replace hx106_0 := (HB.out.cell (World.block_lt_of_cell? w _ hx106_0)).trans hx106_0
                          replace hx106_1 := (HB.out.cell (World.block_lt_of_cell? w _ hx106_1)).trans hx106_1
                          replace hx106_2 := (HB.out.cell (World.block_lt_of_cell? w _ hx106_2)).trans hx106_2
                          replace hx106_3 := (HB.out.cell (World.block_lt_of_cell? w _ hx106_3)).trans hx106_3
                          replace p106 := eq_true p106
                          replace q106 := eq_true q106
                          have p107 : 0 ≤ (x4_3 : Int) := of_decide_eq_true (by first | (with_reducible assumption) | assumption)
                          have q107 : x4_3 < (l0_7.length : Int) := of_decide_eq_true (by first | (with_reducible assumption) | assumption)
                          obtain ⟨ad107, e107, hx107_0, hx107_1, hx107_2, hx107_3⟩ := at_T62 HR0_7.out x4_3 p107 q107
                          obtain rfl : ad106 = ad107 := (by injection e107)
                          replace hx107_0 := (HB.out.cell (World.block_lt_of_cell? w _ hx107_0)).trans hx107_0
                          replace hx107_1 := (HB.out.cell (World.block_lt_of_cell? w _ hx107_1)).trans hx107_1
                          replace hx107_2 := (HB.out.cell (World.block_lt_of_cell? w _ hx107_2)).trans hx107_2
                          replace hx107_3 := (HB.out.cell (World.block_lt_of_cell? w _ hx107_3)).trans hx107_3
                          replace p107 := eq_true p107
                          replace q107 := eq_true q107
                          go_wp2
                          go_roundg k3
                          case measure => have := HJ1.out; have := HK2.out; have := HK3.out; omega
                          case rel => exact ⟨(wrap64 (x4_3 + 1)), (by first | rfl | (simp; done) | (simp [*]; done)), H', ⟨by have := HJ1.out; have := HK2.out; have := HK3.out; omega⟩, ⟨by (with_reducible repeat (first | refine blk_drewN ?_ _ | refine blk_drew ?_ | refine blk_alloc ?_ _)); exact BK104.out⟩, ⟨by repeat (first | (with_reducible first | exact HB.out | apply below_alloc | apply pw_below_drewN | apply below_drew1 | refine below_set ?_ GE104.out) | exact HB.out)⟩⟩
                    · rw [if_neg c27] at H
                      exact absurd H (by simp)
                  · rw [if_neg c26] at H
                    have c26b0 : decide (x4_3 < (l0_7.length : Int)) = false := decide_eq_false c26
                    clear c26
                    have H' := Aside0.mk H
                    clear H
                    have hcz33_0 : wr.cell? ⟨gb104, 0, none⟩ = some (.int .i64 a0_0) := (blk_cell BK104.out 0).trans rfl
                    have hcz33_1 : wr.cell? ⟨gb104, 1, none⟩ = some (.string a0_1) := (blk_cell BK104.out 1).trans rfl
                    have hcz33_2 : wr.cell? ⟨gb104, 2, none⟩ = some (.string a0_2) := (blk_cell BK104.out 2).trans rfl
                    have hcz33_3 : wr.cell? ⟨gb104, 3, none⟩ = some (.string a0_3) := (blk_cell BK104.out 3).trans rfl
                    have hcz33_4 : wr.cell? ⟨gb104, 4, none⟩ = some (.int .i64 a0_4) := (blk_cell BK104.out 4).trans rfl
                    have hcz33_5 : wr.cell? ⟨gb104, 5, none⟩ = some (.bool a0_5) := (blk_cell BK104.out 5).trans rfl
                    have hcz33_6 : wr.cell? ⟨gb104, 6, none⟩ = some (.slice A0_6 l0_6.length c0_6) := (blk_cell BK104.out 6).trans rfl
                    have hcz33_7 : wr.cell? ⟨gb104, 7, none⟩ = some (.slice A0_7 l0_7.length c0_7) := (blk_cell BK104.out 7).trans rfl
                    have hcz33_8 : wr.cell? ⟨gb104, 8, none⟩ = some (.slice A0_8 l0_8.length c0_8) := (blk_cell BK104.out 8).trans rfl
                    have hcz33_9 : wr.cell? ⟨gb104, 9, none⟩ = some (.slice A0_9 l0_9.length c0_9) := (blk_cell BK104.out 9).trans rfl
                    have hcz33_10 : wr.cell? ⟨gb104, 10, none⟩ = some (.slice A0_10 l0_10.length c0_10) := (blk_cell BK104.out 10).trans rfl
                    have hfz33_0 := blk_frozen BK104.out 0
                    have hfz33_1 := blk_frozen BK104.out 1
                    have hfz33_2 := blk_frozen BK104.out 2
                    have hfz33_3 := blk_frozen BK104.out 3
                    have hfz33_4 := blk_frozen BK104.out 4
                    have hfz33_5 := blk_frozen BK104.out 5
                    have hfz33_6 := blk_frozen BK104.out 6
                    have hfz33_7 := blk_frozen BK104.out 7
                    have hfz33_8 := blk_frozen BK104.out 8
                    have hfz33_9 := blk_frozen BK104.out 9
                    have hfz33_10 := blk_frozen BK104.out 10
                    go_wp2
                    go_loopg [5] k3 (fun kq v5 w' => ∃ (x5_4 : Int), v5 = .int .i64 x5_4 ∧ Aside0 (interlocklaw15_GreatStmt.l2 kq x5_4 a0_0 a0_1 a0_2 a0_3 a0_4 a0_5 l0_6 l0_7 l0_8 l0_9 l0_10 = some r) ∧ Aside0 (kq ≤ k3) ∧ Aside0 (w'.heap[gb104]? = some (.cells #[.int .i64 a0_0, .string a0_1, .string a0_2, .string a0_3, .int .i64 a0_4, .bool a0_5, (.slice A0_6 l0_6.length c0_6), (.slice A0_7 l0_7.length c0_7), (.slice A0_8 l0_8.length c0_8), (.slice A0_9 l0_9.length c0_9), (.slice A0_10 l0_10.length c0_10)] 28 (0, 0))) ∧ Aside0 (Below w.heap.size w w'))
                    case atStart => exact ⟨(0), (by first | rfl | (simp; done) | (simp [*]; done)), H', ⟨Nat.le_refl _⟩, ⟨by (with_reducible repeat (first | refine blk_drewN ?_ _ | refine blk_drew ?_ | refine blk_alloc ?_ _)); exact BK104.out⟩, ⟨by repeat (first | (with_reducible first | exact HB.out | apply below_alloc | apply pw_below_drewN | apply below_drew1 | refine below_set ?_ GE104.out) | exact HB.out)⟩⟩
                    case round =>
                      clear H'
                      try clear c1
                      try clear p1
                      try clear q1
                      try clear hx1
                      try clear c2
                      try clear p2
                      try clear c3
                      try clear c4
                      try clear c4b0
                      try clear c4b1
                      try clear c6
                      try clear c6b0
                      try clear c6b1
                      try clear p6
                      try clear c8
                      try clear c8b0
                      try clear c8b1
                      try clear c10
                      try clear c10b0
                      try clear c10b1
                      try clear p10
                      try clear q10
                      try clear hx10
                      try clear c12
                      try clear c12b0
                      try clear c12b1
                      try clear c14
                      try clear c14b0
                      try clear c14b1
                      try clear c16
                      try clear c16b0
                      try clear c16b1
                      try clear c19
                      try clear c20
                      try clear c20b0
                      try clear c21
                      try clear c21b0
                      try clear c22
                      try clear c22b0
                      try clear c22b1
                      try clear c26
                      try clear c26b0
                      try clear c27
                      try clear c27b0
                      try clear c28
                      try clear c28b0
                      try clear c28b1
                      try clear c30
                      try clear c30b0
                      try clear c30b1
                      try clear hcz11_0
                      try clear hcz11_1
                      try clear hcz11_10
                      try clear hcz11_2
                      try clear hcz11_3
                      try clear hcz11_4
                      try clear hcz11_5
                      try clear hcz11_6
                      try clear hcz11_7
                      try clear hcz11_8
                      try clear hcz11_9
                      try clear hcz13_0
                      try clear hcz13_1
                      try clear hcz13_10
                      try clear hcz13_2
                      try clear hcz13_3
                      try clear hcz13_4
                      try clear hcz13_5
                      try clear hcz13_6
                      try clear hcz13_7
                      try clear hcz13_8
                      try clear hcz13_9
                      try clear hcz15_0
                      try clear hcz15_1
                      try clear hcz15_10
                      try clear hcz15_2
                      try clear hcz15_3
                      try clear hcz15_4
                      try clear hcz15_5
                      try clear hcz15_6
                      try clear hcz15_7
                      try clear hcz15_8
                      try clear hcz15_9
                      try clear hcz17_0
                      try clear hcz17_1
                      try clear hcz17_10
                      try clear hcz17_2
                      try clear hcz17_3
                      try clear hcz17_4
                      try clear hcz17_5
                      try clear hcz17_6
                      try clear hcz17_7
                      try clear hcz17_8
                      try clear hcz17_9
                      try clear hcz18_0
                      try clear hcz18_1
                      try clear hcz18_10
                      try clear hcz18_2
                      try clear hcz18_3
                      try clear hcz18_4
                      try clear hcz18_5
                      try clear hcz18_6
                      try clear hcz18_7
                      try clear hcz18_8
                      try clear hcz18_9
                      try clear hcz23_0
                      try clear hcz23_1
                      try clear hcz23_10
                      try clear hcz23_2
                      try clear hcz23_3
                      try clear hcz23_4
                      try clear hcz23_5
                      try clear hcz23_6
                      try clear hcz23_7
                      try clear hcz23_8
                      try clear hcz23_9
                      try clear hcz24_0
                      try clear hcz24_1
                      try clear hcz24_10
                      try clear hcz24_2
                      try clear hcz24_3
                      try clear hcz24_4
                      try clear hcz24_5
                      try clear hcz24_6
                      try clear hcz24_7
                      try clear hcz24_8
                      try clear hcz24_9
                      try clear hcz25_0
                      try clear hcz25_1
                      try clear hcz25_10
                      try clear hcz25_2
                      try clear hcz25_3
                      try clear hcz25_4
                      try clear hcz25_5
                      try clear hcz25_6
                      try clear hcz25_7
                      try clear hcz25_8
                      try clear hcz25_9
                      try clear hcz29_0
                      try clear hcz29_1
                      try clear hcz29_10
                      try clear hcz29_2
                      try clear hcz29_3
                      try clear hcz29_4
                      try clear hcz29_5
                      try clear hcz29_6
                      try clear hcz29_7
                      try clear hcz29_8
                      try clear hcz29_9
                      try clear hcz31_0
                      try clear hcz31_1
                      try clear hcz31_10
                      try clear hcz31_2
                      try clear hcz31_3
                      try clear hcz31_4
                      try clear hcz31_5
                      try clear hcz31_6
                      try clear hcz31_7
                      try clear hcz31_8
                      try clear hcz31_9
                      try clear hcz32_0
                      try clear hcz32_1
                      try clear hcz32_10
                      try clear hcz32_2
                      try clear hcz32_3
                      try clear hcz32_4
                      try clear hcz32_5
                      try clear hcz32_6
                      try clear hcz32_7
                      try clear hcz32_8
                      try clear hcz32_9
                      try clear hcz33_0
                      try clear hcz33_1
                      try clear hcz33_10
                      try clear hcz33_2
                      try clear hcz33_3
                      try clear hcz33_4
                      try clear hcz33_5
                      try clear hcz33_6
                      try clear hcz33_7
                      try clear hcz33_8
                      try clear hcz33_9
                      try clear hcz5_0
                      try clear hcz5_1
                      try clear hcz5_10
                      try clear hcz5_2
                      try clear hcz5_3
                      try clear hcz5_4
                      try clear hcz5_5
                      try clear hcz5_6
                      try clear hcz5_7
                      try clear hcz5_8
                      try clear hcz5_9
                      try clear hcz7_0
                      try clear hcz7_1
                      try clear hcz7_10
                      try clear hcz7_2
                      try clear hcz7_3
                      try clear hcz7_4
                      try clear hcz7_5
                      try clear hcz7_6
                      try clear hcz7_7
                      try clear hcz7_8
                      try clear hcz7_9
                      try clear hcz9_0
                      try clear hcz9_1
                      try clear hcz9_10
                      try clear hcz9_2
                      try clear hcz9_3
                      try clear hcz9_4
                      try clear hcz9_5
                      try clear hcz9_6
                      try clear hcz9_7
                      try clear hcz9_8
                      try clear hcz9_9
                      try clear hfz11_0
                      try clear hfz11_1
                      try clear hfz11_10
                      try clear hfz11_2
                      try clear hfz11_3
                      try clear hfz11_4
                      try clear hfz11_5
                      try clear hfz11_6
                      try clear hfz11_7
                      try clear hfz11_8
                      try clear hfz11_9
                      try clear hfz13_0
                      try clear hfz13_1
                      try clear hfz13_10
                      try clear hfz13_2
                      try clear hfz13_3
                      try clear hfz13_4
                      try clear hfz13_5
                      try clear hfz13_6
                      try clear hfz13_7
                      try clear hfz13_8
                      try clear hfz13_9
                      try clear hfz15_0
                      try clear hfz15_1
                      try clear hfz15_10
                      try clear hfz15_2
                      try clear hfz15_3
                      try clear hfz15_4
                      try clear hfz15_5
                      try clear hfz15_6
                      try clear hfz15_7
                      try clear hfz15_8
                      try clear hfz15_9
                      try clear hfz17_0
                      try clear hfz17_1
                      try clear hfz17_10
                      try clear hfz17_2
                      try clear hfz17_3
                      try clear hfz17_4
                      try clear hfz17_5
                      try clear hfz17_6
                      try clear hfz17_7
                      try clear hfz17_8
                      try clear hfz17_9
                      try clear hfz18_0
                      try clear hfz18_1
                      try clear hfz18_10
                      try clear hfz18_2
                      try clear hfz18_3
                      try clear hfz18_4
                      try clear hfz18_5
                      try clear hfz18_6
                      try clear hfz18_7
                      try clear hfz18_8
                      try clear hfz18_9
                      try clear hfz23_0
                      try clear hfz23_1
                      try clear hfz23_10
                      try clear hfz23_2
                      try clear hfz23_3
                      try clear hfz23_4
                      try clear hfz23_5
                      try clear hfz23_6
                      try clear hfz23_7
                      try clear hfz23_8
                      try clear hfz23_9
                      try clear hfz24_0
                      try clear hfz24_1
                      try clear hfz24_10
                      try clear hfz24_2
                      try clear hfz24_3
                      try clear hfz24_4
                      try clear hfz24_5
                      try clear hfz24_6
                      try clear hfz24_7
                      try clear hfz24_8
                      try clear hfz24_9
                      try clear hfz25_0
                      try clear hfz25_1
                      try clear hfz25_10
                      try clear hfz25_2
                      try clear hfz25_3
                      try clear hfz25_4
                      try clear hfz25_5
                      try clear hfz25_6
                      try clear hfz25_7
                      try clear hfz25_8
                      try clear hfz25_9
                      try clear hfz29_0
                      try clear hfz29_1
                      try clear hfz29_10
                      try clear hfz29_2
                      try clear hfz29_3
                      try clear hfz29_4
                      try clear hfz29_5
                      try clear hfz29_6
                      try clear hfz29_7
                      try clear hfz29_8
                      try clear hfz29_9
                      try clear hfz31_0
                      try clear hfz31_1
                      try clear hfz31_10
                      try clear hfz31_2
                      try clear hfz31_3
                      try clear hfz31_4
                      try clear hfz31_5
                      try clear hfz31_6
                      try clear hfz31_7
                      try clear hfz31_8
                      try clear hfz31_9
                      try clear hfz32_0
                      try clear hfz32_1
                      try clear hfz32_10
                      try clear hfz32_2
                      try clear hfz32_3
                      try clear hfz32_4
                      try clear hfz32_5
                      try clear hfz32_6
                      try clear hfz32_7
                      try clear hfz32_8
                      try clear hfz32_9
                      try clear hfz33_0
                      try clear hfz33_1
                      try clear hfz33_10
                      try clear hfz33_2
                      try clear hfz33_3
                      try clear hfz33_4
                      try clear hfz33_5
                      try clear hfz33_6
                      try clear hfz33_7
                      try clear hfz33_8
                      try clear hfz33_9
                      try clear hfz5_0
                      try clear hfz5_1
                      try clear hfz5_10
                      try clear hfz5_2
                      try clear hfz5_3
                      try clear hfz5_4
                      try clear hfz5_5
                      try clear hfz5_6
                      try clear hfz5_7
                      try clear hfz5_8
                      try clear hfz5_9
                      try clear hfz7_0
                      try clear hfz7_1
                      try clear hfz7_10
                      try clear hfz7_2
                      try clear hfz7_3
                      try clear hfz7_4
                      try clear hfz7_5
                      try clear hfz7_6
                      try clear hfz7_7
                      try clear hfz7_8
                      try clear hfz7_9
                      try clear hfz9_0
                      try clear hfz9_1
                      try clear hfz9_10
                      try clear hfz9_2
                      try clear hfz9_3
                      try clear hfz9_4
                      try clear hfz9_5
                      try clear hfz9_6
                      try clear hfz9_7
                      try clear hfz9_8
                      try clear hfz9_9
                      try clear hx105_0
                      try clear hx105_1
                      try clear hx105_2
                      try clear hx106_0
                      try clear hx106_1
                      try clear hx106_2
                      try clear hx106_3
                      try clear hx107_0
                      try clear hx107_1
                      try clear hx107_2
                      try clear hx107_3
                      try clear p1
                      try clear p10
                      try clear p105
                      try clear p106
                      try clear p107
                      try clear p2
                      try clear p6
                      try clear q1
                      try clear q10
                      try clear q105
                      try clear q106
                      try clear q107
                      obtain ⟨x5_4, rfl, HA, HK4, BK104, HB⟩ := hrel
                      cases gk with
                      | zero => exact absurd HA.out (by simp [interlocklaw15_GreatStmt.l2])
                      | succ k4 =>
                        have H := HA.out
                        clear HA
                        simp only [interlocklaw15_GreatStmt.l2] at H
                        by_cases c34 : x5_4 < (l0_8.length : Int)
                        · rw [if_pos c34] at H
                          have c34b0 : decide (x5_4 < (l0_8.length : Int)) = true := decide_eq_true c34
                          clear c34
                          by_cases c35 : 0 ≤ x5_4
                          · rw [if_pos c35] at H
                            have c35b0 : decide (0 ≤ x5_4) = true := decide_eq_true c35
                            clear c35
                            by_cases c36 : (((rd_T64 l0_8 x5_4).f2.f2).size : Int) > 50
                            · rw [if_pos c36] at H
                              have c36b0 : decide (50 < (((rd_T64 l0_8 x5_4).f2.f2).size : Int)) = true := decide_eq_true c36
                              have c36b1 : decide (50 < ((rd_T64 l0_8 x5_4).f2.f2).size) = true := decide_eq_true (by omega)
                              clear c36
                              obtain rfl := Option.some.inj H
                              have hcz37_0 : wr.cell? ⟨gb104, 0, none⟩ = some (.int .i64 a0_0) := (blk_cell BK104.out 0).trans rfl
                              have hcz37_1 : wr.cell? ⟨gb104, 1, none⟩ = some (.string a0_1) := (blk_cell BK104.out 1).trans rfl
                              have hcz37_2 : wr.cell? ⟨gb104, 2, none⟩ = some (.string a0_2) := (blk_cell BK104.out 2).trans rfl
                              have hcz37_3 : wr.cell? ⟨gb104, 3, none⟩ = some (.string a0_3) := (blk_cell BK104.out 3).trans rfl
                              have hcz37_4 : wr.cell? ⟨gb104, 4, none⟩ = some (.int .i64 a0_4) := (blk_cell BK104.out 4).trans rfl
                              have hcz37_5 : wr.cell? ⟨gb104, 5, none⟩ = some (.bool a0_5) := (blk_cell BK104.out 5).trans rfl
                              have hcz37_6 : wr.cell? ⟨gb104, 6, none⟩ = some (.slice A0_6 l0_6.length c0_6) := (blk_cell BK104.out 6).trans rfl
                              have hcz37_7 : wr.cell? ⟨gb104, 7, none⟩ = some (.slice A0_7 l0_7.length c0_7) := (blk_cell BK104.out 7).trans rfl
                              have hcz37_8 : wr.cell? ⟨gb104, 8, none⟩ = some (.slice A0_8 l0_8.length c0_8) := (blk_cell BK104.out 8).trans rfl
                              have hcz37_9 : wr.cell? ⟨gb104, 9, none⟩ = some (.slice A0_9 l0_9.length c0_9) := (blk_cell BK104.out 9).trans rfl
                              have hcz37_10 : wr.cell? ⟨gb104, 10, none⟩ = some (.slice A0_10 l0_10.length c0_10) := (blk_cell BK104.out 10).trans rfl
                              have hfz37_0 := blk_frozen BK104.out 0
                              have hfz37_1 := blk_frozen BK104.out 1
                              have hfz37_2 := blk_frozen BK104.out 2
                              have hfz37_3 := blk_frozen BK104.out 3
                              have hfz37_4 := blk_frozen BK104.out 4
                              have hfz37_5 := blk_frozen BK104.out 5
                              have hfz37_6 := blk_frozen BK104.out 6
                              have hfz37_7 := blk_frozen BK104.out 7
                              have hfz37_8 := blk_frozen BK104.out 8
                              have hfz37_9 := blk_frozen BK104.out 9
                              have hfz37_10 := blk_frozen BK104.out 10
                              have p108 : 0 ≤ (x5_4 : Int) := of_decide_eq_true (by first | (with_reducible assumption) | assumption)
                              have q108 : x5_4 < (l0_8.length : Int) := of_decide_eq_true (by first | (with_reducible assumption) | assumption)
                              obtain ⟨ad108, e108, hx108_0, hx108_1, hx108_2, hx108_3, hx108_4⟩ := at_T64 HR0_8.out x5_4 p108 q108
                              cases e108
                              replace hx108_0 := (HB.out.cell (World.block_lt_of_cell? w _ hx108_0)).trans hx108_0
                              replace hx108_1 := (HB.out.cell (World.block_lt_of_cell? w _ hx108_1)).trans hx108_1
                              replace hx108_2 := (HB.out.cell (World.block_lt_of_cell? w _ hx108_2)).trans hx108_2
                              replace hx108_3 := (HB.out.cell (World.block_lt_of_cell? w _ hx108_3)).trans hx108_3
                              replace hx108_4 := (HB.out.cell (World.block_lt_of_cell? w _ hx108_4)).trans hx108_4
                              replace p108 := eq_true p108
                              replace q108 := eq_true q108
                              go_wp2
                              go_ret
                              exact ⟨by first | rfl | (simp [errW_none, errW_some] <;> rfl) | (simp [*, errW_none, errW_some] <;> rfl), by repeat (first | (with_reducible first | exact HB.out | apply below_alloc | apply pw_below_drewN | apply below_drew1 | refine below_set ?_ GE104.out) | exact HB.out)⟩
                            · rw [if_neg c36] at H
                              have c36b0 : decide (50 < (((rd_T64 l0_8 x5_4).f2.f2).size : Int)) = false := decide_eq_false c36
                              have c36b1 : decide (50 < ((rd_T64 l0_8 x5_4).f2.f2).size) = false := decide_eq_false (by omega)
                              clear c36
                              by_cases c38 : (((rd_T64 l0_8 x5_4).f0).size : Int) > 50
                              · rw [if_pos c38] at H
                                have c38b0 : decide (50 < (((rd_T64 l0_8 x5_4).f0).size : Int)) = true := decide_eq_true c38
                                have c38b1 : decide (50 < ((rd_T64 l0_8 x5_4).f0).size) = true := decide_eq_true (by omega)
                                clear c38
                                obtain rfl := Option.some.inj H
                                have hcz39_0 : wr.cell? ⟨gb104, 0, none⟩ = some (.int .i64 a0_0) := (blk_cell BK104.out 0).trans rfl
                                have hcz39_1 : wr.cell? ⟨gb104, 1, none⟩ = some (.string a0_1) := (blk_cell BK104.out 1).trans rfl
                                have hcz39_2 : wr.cell? ⟨gb104, 2, none⟩ = some (.string a0_2) := (blk_cell BK104.out 2).trans rfl
                                have hcz39_3 : wr.cell? ⟨gb104, 3, none⟩ = some (.string a0_3) := (blk_cell BK104.out 3).trans rfl
                                have hcz39_4 : wr.cell? ⟨gb104, 4, none⟩ = some (.int .i64 a0_4) := (blk_cell BK104.out 4).trans rfl
                                have hcz39_5 : wr.cell? ⟨gb104, 5, none⟩ = some (.bool a0_5) := (blk_cell BK104.out 5).trans rfl
                                have hcz39_6 : wr.cell? ⟨gb104, 6, none⟩ = some (.slice A0_6 l0_6.length c0_6) := (blk_cell BK104.out 6).trans rfl
                                have hcz39_7 : wr.cell? ⟨gb104, 7, none⟩ = some (.slice A0_7 l0_7.length c0_7) := (blk_cell BK104.out 7).trans rfl
                                have hcz39_8 : wr.cell? ⟨gb104, 8, none⟩ = some (.slice A0_8 l0_8.length c0_8) := (blk_cell BK104.out 8).trans rfl
                                have hcz39_9 : wr.cell? ⟨gb104, 9, none⟩ = some (.slice A0_9 l0_9.length c0_9) := (blk_cell BK104.out 9).trans rfl
                                have hcz39_10 : wr.cell? ⟨gb104, 10, none⟩ = some (.slice A0_10 l0_10.length c0_10) := (blk_cell BK104.out 10).trans rfl
                                have hfz39_0 := blk_frozen BK104.out 0
                                have hfz39_1 := blk_frozen BK104.out 1
                                have hfz39_2 := blk_frozen BK104.out 2
                                have hfz39_3 := blk_frozen BK104.out 3
                                have hfz39_4 := blk_frozen BK104.out 4
                                have hfz39_5 := blk_frozen BK104.out 5
                                have hfz39_6 := blk_frozen BK104.out 6
                                have hfz39_7 := blk_frozen BK104.out 7
                                have hfz39_8 := blk_frozen BK104.out 8
                                have hfz39_9 := blk_frozen BK104.out 9
                                have hfz39_10 := blk_frozen BK104.out 10
                                have p108 : 0 ≤ (x5_4 : Int) := of_decide_eq_true (by first | (with_reducible assumption) | assumption)
                                have q108 : x5_4 < (l0_8.length : Int) := of_decide_eq_true (by first | (with_reducible assumption) | assumption)
                                obtain ⟨ad108, e108, hx108_0, hx108_1, hx108_2, hx108_3, hx108_4⟩ := at_T64 HR0_8.out x5_4 p108 q108
                                cases e108
                                replace hx108_0 := (HB.out.cell (World.block_lt_of_cell? w _ hx108_0)).trans hx108_0
                                replace hx108_1 := (HB.out.cell (World.block_lt_of_cell? w _ hx108_1)).trans hx108_1
                                replace hx108_2 := (HB.out.cell (World.block_lt_of_cell? w _ hx108_2)).trans hx108_2
                                replace hx108_3 := (HB.out.cell (World.block_lt_of_cell? w _ hx108_3)).trans hx108_3
                                replace hx108_4 := (HB.out.cell (World.block_lt_of_cell? w _ hx108_4)).trans hx108_4
                                replace p108 := eq_true p108
                                replace q108 := eq_true q108
                                have p109 : 0 ≤ (x5_4 : Int) := of_decide_eq_true (by first | (with_reducible assumption) | assumption)
                                have q109 : x5_4 < (l0_8.length : Int) := of_decide_eq_true (by first | (with_reducible assumption) | assumption)
                                obtain ⟨ad109, e109, hx109_0, hx109_1, hx109_2, hx109_3, hx109_4⟩ := at_T64 HR0_8.out x5_4 p109 q109
                                obtain rfl : ad108 = ad109 := (by injection e109)
                                replace hx109_0 := (HB.out.cell (World.block_lt_of_cell? w _ hx109_0)).trans hx109_0
                                replace hx109_1 := (HB.out.cell (World.block_lt_of_cell? w _ hx109_1)).trans hx109_1
                                replace hx109_2 := (HB.out.cell (World.block_lt_of_cell? w _ hx109_2)).trans hx109_2
                                replace hx109_3 := (HB.out.cell (World.block_lt_of_cell? w _ hx109_3)).trans hx109_3
                                replace hx109_4 := (HB.out.cell (World.block_lt_of_cell? w _ hx109_4)).trans hx109_4
                                replace p109 := eq_true p109
                                replace q109 := eq_true q109
                                go_wp2
                                go_ret
                                exact ⟨by first | rfl | (simp [errW_none, errW_some] <;> rfl) | (simp [*, errW_none, errW_some] <;> rfl), by repeat (first | (with_reducible first | exact HB.out | apply below_alloc | apply pw_below_drewN | apply below_drew1 | refine below_set ?_ GE104.out) | exact HB.out)⟩
                              · rw [if_neg c38] at H
                                have c38b0 : decide (50 < (((rd_T64 l0_8 x5_4).f0).size : Int)) = false := decide_eq_false c38
                                have c38b1 : decide (50 < ((rd_T64 l0_8 x5_4).f0).size) = false := decide_eq_false (by omega)
                                clear c38
                                have H' := Aside0.mk H
                                clear H
                                have hcz40_0 : wr.cell? ⟨gb104, 0, none⟩ = some (.int .i64 a0_0) := (blk_cell BK104.out 0).trans rfl
                                have hcz40_1 : wr.cell? ⟨gb104, 1, none⟩ = some (.string a0_1) := (blk_cell BK104.out 1).trans rfl
                                have hcz40_2 : wr.cell? ⟨gb104, 2, none⟩ = some (.string a0_2) := (blk_cell BK104.out 2).trans rfl
                                have hcz40_3 : wr.cell? ⟨gb104, 3, none⟩ = some (.string a0_3) := (blk_cell BK104.out 3).trans rfl
                                have hcz40_4 : wr.cell? ⟨gb104, 4, none⟩ = some (.int .i64 a0_4) := (blk_cell BK104.out 4).trans rfl
                                have hcz40_5 : wr.cell? ⟨gb104, 5, none⟩ = some (.bool a0_5) := (blk_cell BK104.out 5).trans rfl
                                have hcz40_6 : wr.cell? ⟨gb104, 6, none⟩ = some (.slice A0_6 l0_6.length c0_6) := (blk_cell BK104.out 6).trans rfl
                                have hcz40_7 : wr.cell? ⟨gb104, 7, none⟩ = some (.slice A0_7 l0_7.length c0_7) := (blk_cell BK104.out 7).trans rfl
                                have hcz40_8 : wr.cell? ⟨gb104, 8, none⟩ = some (.slice A0_8 l0_8.length c0_8) := (blk_cell BK104.out 8).trans rfl
                                have hcz40_9 : wr.cell? ⟨gb104, 9, none⟩ = some (.slice A0_9 l0_9.length c0_9) := (blk_cell BK104.out 9).trans rfl
                                have hcz40_10 : wr.cell? ⟨gb104, 10, none⟩ = some (.slice A0_10 l0_10.length c0_10) := (blk_cell BK104.out 10).trans rfl
                                have hfz40_0 := blk_frozen BK104.out 0
                                have hfz40_1 := blk_frozen BK104.out 1
                                have hfz40_2 := blk_frozen BK104.out 2
                                have hfz40_3 := blk_frozen BK104.out 3
                                have hfz40_4 := blk_frozen BK104.out 4
                                have hfz40_5 := blk_frozen BK104.out 5
                                have hfz40_6 := blk_frozen BK104.out 6
                                have hfz40_7 := blk_frozen BK104.out 7
                                have hfz40_8 := blk_frozen BK104.out 8
                                have hfz40_9 := blk_frozen BK104.out 9
                                have hfz40_10 := blk_frozen BK104.out 10
                                have p108 : 0 ≤ (x5_4 : Int) := of_decide_eq_true (by first | (with_reducible assumption) | assumption)
                                have q108 : x5_4 < (l0_8.length : Int) := of_decide_eq_true (by first | (with_reducible assumption) | assumption)
                                obtain ⟨ad108, e108, hx108_0, hx108_1, hx108_2, hx108_3, hx108_4⟩ := at_T64 HR0_8.out x5_4 p108 q108
                                cases e108
                                replace hx108_0 := (HB.out.cell (World.block_lt_of_cell? w _ hx108_0)).trans hx108_0
                                replace hx108_1 := (HB.out.cell (World.block_lt_of_cell? w _ hx108_1)).trans hx108_1
                                replace hx108_2 := (HB.out.cell (World.block_lt_of_cell? w _ hx108_2)).trans hx108_2
                                replace hx108_3 := (HB.out.cell (World.block_lt_of_cell? w _ hx108_3)).trans hx108_3
                                replace hx108_4 := (HB.out.cell (World.block_lt_of_cell? w _ hx108_4)).trans hx108_4
                                replace p108 := eq_true p108
                                replace q108 := eq_true q108
                                have p109 : 0 ≤ (x5_4 : Int) := of_decide_eq_true (by first | (with_reducible assumption) | assumption)
                                have q109 : x5_4 < (l0_8.length : Int) := of_decide_eq_true (by first | (with_reducible assumption) | assumption)
                                obtain ⟨ad109, e109, hx109_0, hx109_1, hx109_2, hx109_3, hx109_4⟩ := at_T64 HR0_8.out x5_4 p109 q109
                                obtain rfl : ad108 = ad109 := (by injection e109)
                                replace hx109_0 := (HB.out.cell (World.block_lt_of_cell? w _ hx109_0)).trans hx109_0
                                replace hx109_1 := (HB.out.cell (World.block_lt_of_cell? w _ hx109_1)).trans hx109_1
                                replace hx109_2 := (HB.out.cell (World.block_lt_of_cell? w _ hx109_2)).trans hx109_2
                                replace hx109_3 := (HB.out.cell (World.block_lt_of_cell? w _ hx109_3)).trans hx109_3
                                replace hx109_4 := (HB.out.cell (World.block_lt_of_cell? w _ hx109_4)).trans hx109_4
                                replace p109 := eq_true p109
                                replace q109 := eq_true q109
                                go_wp2
                                go_roundg k4
                                case measure => have := HJ1.out; have := HK2.out; have := HK3.out; have := HK4.out; omega
                                case rel => exact ⟨(wrap64 (x5_4 + 1)), (by first | rfl | (simp; done) | (simp [*]; done)), H', ⟨by have := HJ1.out; have := HK2.out; have := HK3.out; have := HK4.out; omega⟩, ⟨by (with_reducible repeat (first | refine blk_drewN ?_ _ | refine blk_drew ?_ | refine blk_alloc ?_ _)); exact BK104.out⟩, ⟨by repeat (first | (with_reducible first | exact HB.out | apply below_alloc | apply pw_below_drewN | apply below_drew1 | refine below_set ?_ GE104.out) | exact HB.out)⟩⟩
                          · rw [if_neg c35] at H
                            exact absurd H (by simp)
                        · rw [if_neg c34] at H
                          have c34b0 : decide (x5_4 < (l0_8.length : Int)) = false := decide_eq_false c34
                          clear c34
                          have H' := Aside0.mk H
                          clear H
                          have hcz41_0 : wr.cell? ⟨gb104, 0, none⟩ = some (.int .i64 a0_0) := (blk_cell BK104.out 0).trans rfl
                          have hcz41_1 : wr.cell? ⟨gb104, 1, none⟩ = some (.string a0_1) := (blk_cell BK104.out 1).trans rfl
                          have hcz41_2 : wr.cell? ⟨gb104, 2, none⟩ = some (.string a0_2) := (blk_cell BK104.out 2).trans rfl
                          have hcz41_3 : wr.cell? ⟨gb104, 3, none⟩ = some (.string a0_3) := (blk_cell BK104.out 3).trans rfl
                          have hcz41_4 : wr.cell? ⟨gb104, 4, none⟩ = some (.int .i64 a0_4) := (blk_cell BK104.out 4).trans rfl
                          have hcz41_5 : wr.cell? ⟨gb104, 5, none⟩ = some (.bool a0_5) := (blk_cell BK104.out 5).trans rfl
                          have hcz41_6 : wr.cell? ⟨gb104, 6, none⟩ = some (.slice A0_6 l0_6.length c0_6) := (blk_cell BK104.out 6).trans rfl
                          have hcz41_7 : wr.cell? ⟨gb104, 7, none⟩ = some (.slice A0_7 l0_7.length c0_7) := (blk_cell BK104.out 7).trans rfl
                          have hcz41_8 : wr.cell? ⟨gb104, 8, none⟩ = some (.slice A0_8 l0_8.length c0_8) := (blk_cell BK104.out 8).trans rfl
                          have hcz41_9 : wr.cell? ⟨gb104, 9, none⟩ = some (.slice A0_9 l0_9.length c0_9) := (blk_cell BK104.out 9).trans rfl
                          have hcz41_10 : wr.cell? ⟨gb104, 10, none⟩ = some (.slice A0_10 l0_10.length c0_10) := (blk_cell BK104.out 10).trans rfl
                          have hfz41_0 := blk_frozen BK104.out 0
                          have hfz41_1 := blk_frozen BK104.out 1
                          have hfz41_2 := blk_frozen BK104.out 2
                          have hfz41_3 := blk_frozen BK104.out 3
                          have hfz41_4 := blk_frozen BK104.out 4
                          have hfz41_5 := blk_frozen BK104.out 5
                          have hfz41_6 := blk_frozen BK104.out 6
                          have hfz41_7 := blk_frozen BK104.out 7
                          have hfz41_8 := blk_frozen BK104.out 8
                          have hfz41_9 := blk_frozen BK104.out 9
                          have hfz41_10 := blk_frozen BK104.out 10
                          go_wp2
                          go_loopg [6] k4 (fun kq v6 w' => ∃ (x6_5 : Int), v6 = .int .i64 x6_5 ∧ Aside0 (interlocklaw15_GreatStmt.l3 kq x6_5 a0_0 a0_1 a0_2 a0_3 a0_4 a0_5 l0_6 l0_7 l0_8 l0_9 l0_10 = some r) ∧ Aside0 (kq ≤ k4) ∧ Aside0 (w'.heap[gb104]? = some (.cells #[.int .i64 a0_0, .string a0_1, .string a0_2, .string a0_3, .int .i64 a0_4, .bool a0_5, (.slice A0_6 l0_6.length c0_6), (.slice A0_7 l0_7.length c0_7), (.slice A0_8 l0_8.length c0_8), (.slice A0_9 l0_9.length c0_9), (.slice A0_10 l0_10.length c0_10)] 28 (0, 0))) ∧ Aside0 (Below w.heap.size w w'))
                          case atStart => exact ⟨(0), (by first | rfl | (simp; done) | (simp [*]; done)), H', ⟨Nat.le_refl _⟩, ⟨by (with_reducible repeat (first | refine blk_drewN ?_ _ | refine blk_drew ?_ | refine blk_alloc ?_ _)); exact BK104.out⟩, ⟨by repeat (first | (with_reducible first | exact HB.out | apply below_alloc | apply pw_below_drewN | apply below_drew1 | refine below_set ?_ GE104.out) | exact HB.out)⟩⟩
                          case round =>
                            clear H'
                            try clear c1
                            try clear p1
                            try clear q1
                            try clear hx1
                            try clear c2
                            try clear p2
                            try clear c3
                            try clear c4
                            try clear c4b0
                            try clear c4b1
                            try clear c6
                            try clear c6b0
                            try clear c6b1
                            try clear p6
                            try clear c8
                            try clear c8b0
                            try clear c8b1
                            try clear c10
                            try clear c10b0
                            try clear c10b1
                            try clear p10
                            try clear q10
                            try clear hx10
                            try clear c12
                            try clear c12b0
                            try clear c12b1
                            try clear c14
                            try clear c14b0
                            try clear c14b1
                            try clear c16
                            try clear c16b0
                            try clear c16b1
                            try clear c19
                            try clear c20
                            try clear c20b0
                            try clear c21
                            try clear c21b0
                            try clear c22
                            try clear c22b0
                            try clear c22b1
                            try clear c26
                            try clear c26b0
                            try clear c27
                            try clear c27b0
                            try clear c28
                            try clear c28b0
                            try clear c28b1
                            try clear c30
                            try clear c30b0
                            try clear c30b1
                            try clear c34
                            try clear c34b0
                            try clear c35
                            try clear c35b0
                            try clear c36
                            try clear c36b0
                            try clear c36b1
                            try clear c38
                            try clear c38b0
                            try clear c38b1
                            try clear hcz11_0
                            try clear hcz11_1
                            try clear hcz11_10
                            try clear hcz11_2
                            try clear hcz11_3
                            try clear hcz11_4
                            try clear hcz11_5
                            try clear hcz11_6
                            try clear hcz11_7
                            try clear hcz11_8
                            try clear hcz11_9
                            try clear hcz13_0
                            try clear hcz13_1
                            try clear hcz13_10
                            try clear hcz13_2
                            try clear hcz13_3
                            try clear hcz13_4
                            try clear hcz13_5
                            try clear hcz13_6
                            try clear hcz13_7
                            try clear hcz13_8
                            try clear hcz13_9
                            try clear hcz15_0
                            try clear hcz15_1
                            try clear hcz15_10
                            try clear hcz15_2
                            try clear hcz15_3
                            try clear hcz15_4
                            try clear hcz15_5
                            try clear hcz15_6
                            try clear hcz15_7
                            try clear hcz15_8
                            try clear hcz15_9
                            try clear hcz17_0
                            try clear hcz17_1
                            try clear hcz17_10
                            try clear hcz17_2
                            try clear hcz17_3
                            try clear hcz17_4
                            try clear hcz17_5
                            try clear hcz17_6
                            try clear hcz17_7
                            try clear hcz17_8
                            try clear hcz17_9
                            try clear hcz18_0
                            try clear hcz18_1
                            try clear hcz18_10
                            try clear hcz18_2
                            try clear hcz18_3
                            try clear hcz18_4
                            try clear hcz18_5
                            try clear hcz18_6
                            try clear hcz18_7
                            try clear hcz18_8
                            try clear hcz18_9
                            try clear hcz23_0
                            try clear hcz23_1
                            try clear hcz23_10
                            try clear hcz23_2
                            try clear hcz23_3
                            try clear hcz23_4
                            try clear hcz23_5
                            try clear hcz23_6
                            try clear hcz23_7
                            try clear hcz23_8
                            try clear hcz23_9
                            try clear hcz24_0
                            try clear hcz24_1
                            try clear hcz24_10
                            try clear hcz24_2
                            try clear hcz24_3
                            try clear hcz24_4
                            try clear hcz24_5
                            try clear hcz24_6
                            try clear hcz24_7
                            try clear hcz24_8
                            try clear hcz24_9
                            try clear hcz25_0
                            try clear hcz25_1
                            try clear hcz25_10
                            try clear hcz25_2
                            try clear hcz25_3
                            try clear hcz25_4
                            try clear hcz25_5
                            try clear hcz25_6
                            try clear hcz25_7
                            try clear hcz25_8
                            try clear hcz25_9
                            try clear hcz29_0
                            try clear hcz29_1
                            try clear hcz29_10
                            try clear hcz29_2
                            try clear hcz29_3
                            try clear hcz29_4
                            try clear hcz29_5
                            try clear hcz29_6
                            try clear hcz29_7
                            try clear hcz29_8
                            try clear hcz29_9
                            try clear hcz31_0
                            try clear hcz31_1
                            try clear hcz31_10
                            try clear hcz31_2
                            try clear hcz31_3
                            try clear hcz31_4
                            try clear hcz31_5
                            try clear hcz31_6
                            try clear hcz31_7
                            try clear hcz31_8
                            try clear hcz31_9
                            try clear hcz32_0
                            try clear hcz32_1
                            try clear hcz32_10
                            try clear hcz32_2
                            try clear hcz32_3
                            try clear hcz32_4
                            try clear hcz32_5
                            try clear hcz32_6
                            try clear hcz32_7
                            try clear hcz32_8
                            try clear hcz32_9
                            try clear hcz33_0
                            try clear hcz33_1
                            try clear hcz33_10
                            try clear hcz33_2
                            try clear hcz33_3
                            try clear hcz33_4
                            try clear hcz33_5
                            try clear hcz33_6
                            try clear hcz33_7
                            try clear hcz33_8
                            try clear hcz33_9
                            try clear hcz37_0
                            try clear hcz37_1
                            try clear hcz37_10
                            try clear hcz37_2
                            try clear hcz37_3
                            try clear hcz37_4
                            try clear hcz37_5
                            try clear hcz37_6
                            try clear hcz37_7
                            try clear hcz37_8
                            try clear hcz37_9
                            try clear hcz39_0
                            try clear hcz39_1
                            try clear hcz39_10
                            try clear hcz39_2
                            try clear hcz39_3
                            try clear hcz39_4
                            try clear hcz39_5
                            try clear hcz39_6
                            try clear hcz39_7
                            try clear hcz39_8
                            try clear hcz39_9
                            try clear hcz40_0
                            try clear hcz40_1
                            try clear hcz40_10
                            try clear hcz40_2
                            try clear hcz40_3
                            try clear hcz40_4
                            try clear hcz40_5
                            try clear hcz40_6
                            try clear hcz40_7
                            try clear hcz40_8
                            try clear hcz40_9
                            try clear hcz41_0
                            try clear hcz41_1
                            try clear hcz41_10
                            try clear hcz41_2
                            try clear hcz41_3
                            try clear hcz41_4
                            try clear hcz41_5
                            try clear hcz41_6
                            try clear hcz41_7
                            try clear hcz41_8
                            try clear hcz41_9
                            try clear hcz5_0
                            try clear hcz5_1
                            try clear hcz5_10
                            try clear hcz5_2
                            try clear hcz5_3
                            try clear hcz5_4
                            try clear hcz5_5
                            try clear hcz5_6
                            try clear hcz5_7
                            try clear hcz5_8
                            try clear hcz5_9
                            try clear hcz7_0
                            try clear hcz7_1
                            try clear hcz7_10
                            try clear hcz7_2
                            try clear hcz7_3
                            try clear hcz7_4
                            try clear hcz7_5
                            try clear hcz7_6
                            try clear hcz7_7
                            try clear hcz7_8
                            try clear hcz7_9
                            try clear hcz9_0
                            try clear hcz9_1
                            try clear hcz9_10
                            try clear hcz9_2
                            try clear hcz9_3
                            try clear hcz9_4
                            try clear hcz9_5
                            try clear hcz9_6
                            try clear hcz9_7
                            try clear hcz9_8
                            try clear hcz9_9
                            try clear hfz11_0
                            try clear hfz11_1
                            try clear hfz11_10
                            try clear hfz11_2
                            try clear hfz11_3
                            try clear hfz11_4
                            try clear hfz11_5
                            try clear hfz11_6
                            try clear hfz11_7
                            try clear hfz11_8
                            try clear hfz11_9
                            try clear hfz13_0
                            try clear hfz13_1
                            try clear hfz13_10
                            try clear hfz13_2
                            try clear hfz13_3
                            try clear hfz13_4
                            try clear hfz13_5
                            try clear hfz13_6
                            try clear hfz13_7
                            try clear hfz13_8
                            try clear hfz13_9
                            try clear hfz15_0
                            try clear hfz15_1
                            try clear hfz15_10
                            try clear hfz15_2
                            try clear hfz15_3
                            try clear hfz15_4
                            try clear hfz15_5
                            try clear hfz15_6
                            try clear hfz15_7
                            try clear hfz15_8
                            try clear hfz15_9
                            try clear hfz17_0
                            try clear hfz17_1
                            try clear hfz17_10
                            try clear hfz17_2
                            try clear hfz17_3
                            try clear hfz17_4
                            try clear hfz17_5
                            try clear hfz17_6
                            try clear hfz17_7
                            try clear hfz17_8
                            try clear hfz17_9
                            try clear hfz18_0
                            try clear hfz18_1
                            try clear hfz18_10
                            try clear hfz18_2
                            try clear hfz18_3
                            try clear hfz18_4
                            try clear hfz18_5
                            try clear hfz18_6
                            try clear hfz18_7
                            try clear hfz18_8
                            try clear hfz18_9
                            try clear hfz23_0
                            try clear hfz23_1
                            try clear hfz23_10
                            try clear hfz23_2
                            try clear hfz23_3
                            try clear hfz23_4
                            try clear hfz23_5
                            try clear hfz23_6
                            try clear hfz23_7
                            try clear hfz23_8
                            try clear hfz23_9
                            try clear hfz24_0
                            try clear hfz24_1
                            try clear hfz24_10
                            try clear hfz24_2
                            try clear hfz24_3
                            try clear hfz24_4
                            try clear hfz24_5
                            try clear hfz24_6
                            try clear hfz24_7
                            try clear hfz24_8
                            try clear hfz24_9
                            try clear hfz25_0
                            try clear hfz25_1
                            try clear hfz25_10
                            try clear hfz25_2
                            try clear hfz25_3
                            try clear hfz25_4
                            try clear hfz25_5
                            try clear hfz25_6
                            try clear hfz25_7
                            try clear hfz25_8
                            try clear hfz25_9
                            try clear hfz29_0
                            try clear hfz29_1
                            try clear hfz29_10
                            try clear hfz29_2
                            try clear hfz29_3
                            try clear hfz29_4
                            try clear hfz29_5
                            try clear hfz29_6
                            try clear hfz29_7
                            try clear hfz29_8
                            try clear hfz29_9
                            try clear hfz31_0
                            try clear hfz31_1
                            try clear hfz31_10
                            try clear hfz31_2
                            try clear hfz31_3
                            try clear hfz31_4
                            try clear hfz31_5
                            try clear hfz31_6
                            try clear hfz31_7
                            try clear hfz31_8
                            try clear hfz31_9
                            try clear hfz32_0
                            try clear hfz32_1
                            try clear hfz32_10
                            try clear hfz32_2
                            try clear hfz32_3
                            try clear hfz32_4
                            try clear hfz32_5
                            try clear hfz32_6
                            try clear hfz32_7
                            try clear hfz32_8
                            try clear hfz32_9
                            try clear hfz33_0
                            try clear hfz33_1
                            try clear hfz33_10
                            try clear hfz33_2
                            try clear hfz33_3
                            try clear hfz33_4
                            try clear hfz33_5
                            try clear hfz33_6
                            try clear hfz33_7
                            try clear hfz33_8
                            try clear hfz33_9
                            try clear hfz37_0
                            try clear hfz37_1
                            try clear hfz37_10
                            try clear hfz37_2
                            try clear hfz37_3
                            try clear hfz37_4
                            try clear hfz37_5
                            try clear hfz37_6
                            try clear hfz37_7
                            try clear hfz37_8
                            try clear hfz37_9
                            try clear hfz39_0
                            try clear hfz39_1
                            try clear hfz39_10
                            try clear hfz39_2
                            try clear hfz39_3
                            try clear hfz39_4
                            try clear hfz39_5
                            try clear hfz39_6
                            try clear hfz39_7
                            try clear hfz39_8
                            try clear hfz39_9
                            try clear hfz40_0
                            try clear hfz40_1
                            try clear hfz40_10
                            try clear hfz40_2
                            try clear hfz40_3
                            try clear hfz40_4
                            try clear hfz40_5
                            try clear hfz40_6
                            try clear hfz40_7
                            try clear hfz40_8
                            try clear hfz40_9
                            try clear hfz41_0
                            try clear hfz41_1
                            try clear hfz41_10
                            try clear hfz41_2
                            try clear hfz41_3
                            try clear hfz41_4
                            try clear hfz41_5
                            try clear hfz41_6
                            try clear hfz41_7
                            try clear hfz41_8
                            try clear hfz41_9
                            try clear hfz5_0
                            try clear hfz5_1
                            try clear hfz5_10
                            try clear hfz5_2
                            try clear hfz5_3
                            try clear hfz5_4
                            try clear hfz5_5
                            try clear hfz5_6
                            try clear hfz5_7
                            try clear hfz5_8
                            try clear hfz5_9
                            try clear hfz7_0
                            try clear hfz7_1
                            try clear hfz7_10
                            try clear hfz7_2
                            try clear hfz7_3
                            try clear hfz7_4
                            try clear hfz7_5
                            try clear hfz7_6
                            try clear hfz7_7
                            try clear hfz7_8
                            try clear hfz7_9
                            try clear hfz9_0
                            try clear hfz9_1
                            try clear hfz9_10
                            try clear hfz9_2
                            try clear hfz9_3
                            try clear hfz9_4
                            try clear hfz9_5
                            try clear hfz9_6
                            try clear hfz9_7
                            try clear hfz9_8
                            try clear hfz9_9
                            try clear hx105_0
                            try clear hx105_1
                            try clear hx105_2
                            try clear hx106_0
                            try clear hx106_1
                            try clear hx106_2
                            try clear hx106_3
                            try clear hx107_0
                            try clear hx107_1
                            try clear hx107_2
                            try clear hx107_3
                            try clear hx108_0
                            try clear hx108_1
                            try clear hx108_2
                            try clear hx108_3
                            try clear hx108_4
                            try clear hx109_0
                            try clear hx109_1
                            try clear hx109_2
                            try clear hx109_3
                            try clear hx109_4
                            try clear p1
                            try clear p10
                            try clear p105
                            try clear p106
                            try clear p107
                            try clear p108
                            try clear p109
                            try clear p2
                            try clear p6
                            try clear q1
                            try clear q10
                            try clear q105
                            try clear q106
                            try clear q107
                            try clear q108
                            try clear q109
                            obtain ⟨x6_5, rfl, HA, HK5, BK104, HB⟩ := hrel
                            cases gk with
                            | zero => exact absurd HA.out (by simp [interlocklaw15_GreatStmt.l3])
                            | succ k5 =>
                              have H := HA.out
                              clear HA
                              simp only [interlocklaw15_GreatStmt.l3] at H
                              by_cases c42 : x6_5 < (l0_9.length : Int)
                              · rw [if_pos c42] at H
                                have c42b0 : decide (x6_5 < (l0_9.length : Int)) = true := decide_eq_true c42
                                clear c42
                                by_cases c43 : 0 ≤ x6_5
                                · rw [if_pos c43] at H
                                  have c43b0 : decide (0 ≤ x6_5) = true := decide_eq_true c43
                                  clear c43
                                  by_cases c44 : (((rd_T66 l0_9 x6_5).f0).size : Int) > 50
                                  · rw [if_pos c44] at H
                                    have c44b0 : decide (50 < (((rd_T66 l0_9 x6_5).f0).size : Int)) = true := decide_eq_true c44
                                    have c44b1 : decide (50 < ((rd_T66 l0_9 x6_5).f0).size) = true := decide_eq_true (by omega)
                                    clear c44
                                    obtain rfl := Option.some.inj H
                                    have hcz45_0 : wr.cell? ⟨gb104, 0, none⟩ = some (.int .i64 a0_0) := (blk_cell BK104.out 0).trans rfl
                                    have hcz45_1 : wr.cell? ⟨gb104, 1, none⟩ = some (.string a0_1) := (blk_cell BK104.out 1).trans rfl
                                    have hcz45_2 : wr.cell? ⟨gb104, 2, none⟩ = some (.string a0_2) := (blk_cell BK104.out 2).trans rfl
                                    have hcz45_3 : wr.cell? ⟨gb104, 3, none⟩ = some (.string a0_3) := (blk_cell BK104.out 3).trans rfl
                                    have hcz45_4 : wr.cell? ⟨gb104, 4, none⟩ = some (.int .i64 a0_4) := (blk_cell BK104.out 4).trans rfl
                                    have hcz45_5 : wr.cell? ⟨gb104, 5, none⟩ = some (.bool a0_5) := (blk_cell BK104.out 5).trans rfl
                                    have hcz45_6 : wr.cell? ⟨gb104, 6, none⟩ = some (.slice A0_6 l0_6.length c0_6) := (blk_cell BK104.out 6).trans rfl
                                    have hcz45_7 : wr.cell? ⟨gb104, 7, none⟩ = some (.slice A0_7 l0_7.length c0_7) := (blk_cell BK104.out 7).trans rfl
                                    have hcz45_8 : wr.cell? ⟨gb104, 8, none⟩ = some (.slice A0_8 l0_8.length c0_8) := (blk_cell BK104.out 8).trans rfl
                                    have hcz45_9 : wr.cell? ⟨gb104, 9, none⟩ = some (.slice A0_9 l0_9.length c0_9) := (blk_cell BK104.out 9).trans rfl
                                    have hcz45_10 : wr.cell? ⟨gb104, 10, none⟩ = some (.slice A0_10 l0_10.length c0_10) := (blk_cell BK104.out 10).trans rfl
                                    have hfz45_0 := blk_frozen BK104.out 0
                                    have hfz45_1 := blk_frozen BK104.out 1
                                    have hfz45_2 := blk_frozen BK104.out 2
                                    have hfz45_3 := blk_frozen BK104.out 3
                                    have hfz45_4 := blk_frozen BK104.out 4
                                    have hfz45_5 := blk_frozen BK104.out 5
                                    have hfz45_6 := blk_frozen BK104.out 6
                                    have hfz45_7 := blk_frozen BK104.out 7
                                    have hfz45_8 := blk_frozen BK104.out 8
                                    have hfz45_9 := blk_frozen BK104.out 9
                                    have hfz45_10 := blk_frozen BK104.out 10
                                    have p110 : 0 ≤ (x6_5 : Int) := of_decide_eq_true (by first | (with_reducible assumption) | assumption)
                                    have q110 : x6_5 < (l0_9.length : Int) := of_decide_eq_true (by first | (with_reducible assumption) | assumption)
                                    obtain ⟨ad110, e110, hx110_0, hx110_1, hx110_2⟩ := at_T66 HR0_9.out x6_5 p110 q110
                                    cases e110
                                    replace hx110_0 := (HB.out.cell (World.block_lt_of_cell? w _ hx110_0)).trans hx110_0
                                    replace hx110_1 := (HB.out.cell (World.block_lt_of_cell? w _ hx110_1)).trans hx110_1
                                    replace hx110_2 := (HB.out.cell (World.block_lt_of_cell? w _ hx110_2)).trans hx110_2
                                    replace p110 := eq_true p110
                                    replace q110 := eq_true q110
                                    go_wp2
                                    go_ret
                                    exact ⟨by first | rfl | (simp [errW_none, errW_some] <;> rfl) | (simp [*, errW_none, errW_some] <;> rfl), by repeat (first | (with_reducible first | exact HB.out | apply below_alloc | apply pw_below_drewN | apply below_drew1 | refine below_set ?_ GE104.out) | exact HB.out)⟩
                                  · rw [if_neg c44] at H
                                    have c44b0 : decide (50 < (((rd_T66 l0_9 x6_5).f0).size : Int)) = false := decide_eq_false c44
                                    have c44b1 : decide (50 < ((rd_T66 l0_9 x6_5).f0).size) = false := decide_eq_false (by omega)
                                    clear c44
                                    have H' := Aside0.mk H
                                    clear H
                                    have hcz46_0 : wr.cell? ⟨gb104, 0, none⟩ = some (.int .i64 a0_0) := (blk_cell BK104.out 0).trans rfl
                                    have hcz46_1 : wr.cell? ⟨gb104, 1, none⟩ = some (.string a0_1) := (blk_cell BK104.out 1).trans rfl
                                    have hcz46_2 : wr.cell? ⟨gb104, 2, none⟩ = some (.string a0_2) := (blk_cell BK104.out 2).trans rfl
                                    have hcz46_3 : wr.cell? ⟨gb104, 3, none⟩ = some (.string a0_3) := (blk_cell BK104.out 3).trans rfl
                                    have hcz46_4 : wr.cell? ⟨gb104, 4, none⟩ = some (.int .i64 a0_4) := (blk_cell BK104.out 4).trans rfl
                                    have hcz46_5 : wr.cell? ⟨gb104, 5, none⟩ = some (.bool a0_5) := (blk_cell BK104.out 5).trans rfl
                                    have hcz46_6 : wr.cell? ⟨gb104, 6, none⟩ = some (.slice A0_6 l0_6.length c0_6) := (blk_cell BK104.out 6).trans rfl
                                    have hcz46_7 : wr.cell? ⟨gb104, 7, none⟩ = some (.slice A0_7 l0_7.length c0_7) := (blk_cell BK104.out 7).trans rfl
                                    have hcz46_8 : wr.cell? ⟨gb104, 8, none⟩ = some (.slice A0_8 l0_8.length c0_8) := (blk_cell BK104.out 8).trans rfl
                                    have hcz46_9 : wr.cell? ⟨gb104, 9, none⟩ = some (.slice A0_9 l0_9.length c0_9) := (blk_cell BK104.out 9).trans rfl
                                    have hcz46_10 : wr.cell? ⟨gb104, 10, none⟩ = some (.slice A0_10 l0_10.length c0_10) := (blk_cell BK104.out 10).trans rfl
                                    have hfz46_0 := blk_frozen BK104.out 0
                                    have hfz46_1 := blk_frozen BK104.out 1
                                    have hfz46_2 := blk_frozen BK104.out 2
                                    have hfz46_3 := blk_frozen BK104.out 3
                                    have hfz46_4 := blk_frozen BK104.out 4
                                    have hfz46_5 := blk_frozen BK104.out 5
                                    have hfz46_6 := blk_frozen BK104.out 6
                                    have hfz46_7 := blk_frozen BK104.out 7
                                    have hfz46_8 := blk_frozen BK104.out 8
                                    have hfz46_9 := blk_frozen BK104.out 9
                                    have hfz46_10 := blk_frozen BK104.out 10
                                    have p110 : 0 ≤ (x6_5 : Int) := of_decide_eq_true (by first | (with_reducible assumption) | assumption)
                                    have q110 : x6_5 < (l0_9.length : Int) := of_decide_eq_true (by first | (with_reducible assumption) | assumption)
                                    obtain ⟨ad110, e110, hx110_0, hx110_1, hx110_2⟩ := at_T66 HR0_9.out x6_5 p110 q110
                                    cases e110
                                    replace hx110_0 := (HB.out.cell (World.block_lt_of_cell? w _ hx110_0)).trans hx110_0
                                    replace hx110_1 := (HB.out.cell (World.block_lt_of_cell? w _ hx110_1)).trans hx110_1
                                    replace hx110_2 := (HB.out.cell (World.block_lt_of_cell? w _ hx110_2)).trans hx110_2
                                    replace p110 := eq_true p110
                                    replace q110 := eq_true q110
                                    go_wp2
                                    go_roundg k5
                                    case measure => have := HJ1.out; have := HK2.out; have := HK3.out; have := HK4.out; have := HK5.out; omega
                                    case rel => exact ⟨(wrap64 (x6_5 + 1)), (by first | rfl | (simp; done) | (simp [*]; done)), H', ⟨by have := HJ1.out; have := HK2.out; have := HK3.out; have := HK4.out; have := HK5.out; omega⟩, ⟨by (with_reducible repeat (first | refine blk_drewN ?_ _ | refine blk_drew ?_ | refine blk_alloc ?_ _)); exact BK104.out⟩, ⟨by repeat (first | (with_reducible first | exact HB.out | apply below_alloc | apply pw_below_drewN | apply below_drew1 | refine below_set ?_ GE104.out) | exact HB.out)⟩⟩
                                · rw [if_neg c43] at H
                                  exact absurd H (by simp)
                              · rw [if_neg c42] at H
                                have c42b0 : decide (x6_5 < (l0_9.length : Int)) = false := decide_eq_false c42
                                clear c42
                                have H' := Aside0.mk H
                                clear H
                                have hcz47_0 : wr.cell? ⟨gb104, 0, none⟩ = some (.int .i64 a0_0) := (blk_cell BK104.out 0).trans rfl
                                have hcz47_1 : wr.cell? ⟨gb104, 1, none⟩ = some (.string a0_1) := (blk_cell BK104.out 1).trans rfl
                                have hcz47_2 : wr.cell? ⟨gb104, 2, none⟩ = some (.string a0_2) := (blk_cell BK104.out 2).trans rfl
                                have hcz47_3 : wr.cell? ⟨gb104, 3, none⟩ = some (.string a0_3) := (blk_cell BK104.out 3).trans rfl
                                have hcz47_4 : wr.cell? ⟨gb104, 4, none⟩ = some (.int .i64 a0_4) := (blk_cell BK104.out 4).trans rfl
                                have hcz47_5 : wr.cell? ⟨gb104, 5, none⟩ = some (.bool a0_5) := (blk_cell BK104.out 5).trans rfl
                                have hcz47_6 : wr.cell? ⟨gb104, 6, none⟩ = some (.slice A0_6 l0_6.length c0_6) := (blk_cell BK104.out 6).trans rfl
                                have hcz47_7 : wr.cell? ⟨gb104, 7, none⟩ = some (.slice A0_7 l0_7.length c0_7) := (blk_cell BK104.out 7).trans rfl
                                have hcz47_8 : wr.cell? ⟨gb104, 8, none⟩ = some (.slice A0_8 l0_8.length c0_8) := (blk_cell BK104.out 8).trans rfl
                                have hcz47_9 : wr.cell? ⟨gb104, 9, none⟩ = some (.slice A0_9 l0_9.length c0_9) := (blk_cell BK104.out 9).trans rfl
                                have hcz47_10 : wr.cell? ⟨gb104, 10, none⟩ = some (.slice A0_10 l0_10.length c0_10) := (blk_cell BK104.out 10).trans rfl
                                have hfz47_0 := blk_frozen BK104.out 0
                                have hfz47_1 := blk_frozen BK104.out 1
                                have hfz47_2 := blk_frozen BK104.out 2
                                have hfz47_3 := blk_frozen BK104.out 3
                                have hfz47_4 := blk_frozen BK104.out 4
                                have hfz47_5 := blk_frozen BK104.out 5
                                have hfz47_6 := blk_frozen BK104.out 6
                                have hfz47_7 := blk_frozen BK104.out 7
                                have hfz47_8 := blk_frozen BK104.out 8
                                have hfz47_9 := blk_frozen BK104.out 9
                                have hfz47_10 := blk_frozen BK104.out 10
                                go_wp2
                                go_loopg [7] k5 (fun kq v7 w' => ∃ (x7_6 : Int), v7 = .int .i64 x7_6 ∧ Aside0 (interlocklaw15_GreatStmt.l4 kq x7_6 a0_0 a0_1 a0_2 a0_3 a0_4 a0_5 l0_6 l0_7 l0_8 l0_9 l0_10 = some r) ∧ Aside0 (kq ≤ k5) ∧ Aside0 (w'.heap[gb104]? = some (.cells #[.int .i64 a0_0, .string a0_1, .string a0_2, .string a0_3, .int .i64 a0_4, .bool a0_5, (.slice A0_6 l0_6.length c0_6), (.slice A0_7 l0_7.length c0_7), (.slice A0_8 l0_8.length c0_8), (.slice A0_9 l0_9.length c0_9), (.slice A0_10 l0_10.length c0_10)] 28 (0, 0))) ∧ Aside0 (Below w.heap.size w w'))
                                case atStart => exact ⟨(0), (by first | rfl | (simp; done) | (simp [*]; done)), H', ⟨Nat.le_refl _⟩, ⟨by (with_reducible repeat (first | refine blk_drewN ?_ _ | refine blk_drew ?_ | refine blk_alloc ?_ _)); exact BK104.out⟩, ⟨by repeat (first | (with_reducible first | exact HB.out | apply below_alloc | apply pw_below_drewN | apply below_drew1 | refine below_set ?_ GE104.out) | exact HB.out)⟩⟩
                                case round =>
                                  clear H'
                                  try clear p1
                                  try clear q1
                                  try clear hx1
                                  try clear c2
                                  try clear p2
                                  try clear c3
                                  try clear c4
                                  try clear p6
                                  try clear p10
                                  try clear q10
                                  try clear hx10
                                  try clear p11
                                  try clear q11
                                  try clear hx11
                                  try clear c28
                                  try clear c28b0
                                  try clear c28b1
                                  try clear c30
                                  try clear c30b0
                                  try clear c30b1
                                  try clear c34
                                  try clear c34b0
                                  try clear c35
                                  try clear c35b0
                                  try clear c36
                                  try clear c36b0
                                  try clear c36b1
                                  try clear c38
                                  try clear c38b0
                                  try clear c38b1
                                  try clear c42
                                  try clear c42b0
                                  try clear c43
                                  try clear c43b0
                                  try clear c44
                                  try clear c44b0
                                  try clear c44b1
                                  try clear hcz11_0
                                  try clear hcz11_1
                                  try clear hcz11_10
                                  try clear hcz11_2
                                  try clear hcz11_3
                                  try clear hcz11_4
                                  try clear hcz11_5
                                  try clear hcz11_6
                                  try clear hcz11_7
                                  try clear hcz11_8
                                  try clear hcz11_9
                                  try clear hcz13_0
                                  try clear hcz13_1
                                  try clear hcz13_10
                                  try clear hcz13_2
                                  try clear hcz13_3
                                  try clear hcz13_4
                                  try clear hcz13_5
                                  try clear hcz13_6
                                  try clear hcz13_7
                                  try clear hcz13_8
                                  try clear hcz13_9
                                  try clear hcz15_0
                                  try clear hcz15_1
                                  try clear hcz15_10
                                  try clear hcz15_2
                                  try clear hcz15_3
                                  try clear hcz15_4
                                  try clear hcz15_5
                                  try clear hcz15_6
                                  try clear hcz15_7
                                  try clear hcz15_8
                                  try clear hcz15_9
                                  try clear hcz17_0
                                  try clear hcz17_1
                                  try clear hcz17_10
                                  try clear hcz17_2
                                  try clear hcz17_3
                                  try clear hcz17_4
                                  try clear hcz17_5
                                  try clear hcz17_6
                                  try clear hcz17_7
                                  try clear hcz17_8
                                  try clear hcz17_9
                                  try clear hcz18_0
                                  try clear hcz18_1
                                  try clear hcz18_10
                                  try clear hcz18_2
                                  try clear hcz18_3
                                  try clear hcz18_4
                                  try clear hcz18_5
                                  try clear hcz18_6
                                  try clear hcz18_7
                                  try clear hcz18_8
                                  try clear hcz18_9
                                  try clear hcz23_0
                                  try clear hcz23_1
                                  try clear hcz23_10
                                  try clear hcz23_2
                                  try clear hcz23_3
                                  try clear hcz23_4
                                  try clear hcz23_5
                                  try clear hcz23_6
                                  try clear hcz23_7
                                  try clear hcz23_8
                                  try clear hcz23_9
                                  try clear hcz24_0
                                  try clear hcz24_1
                                  try clear hcz24_10
                                  try clear hcz24_2
                                  try clear hcz24_3
                                  try clear hcz24_4
                                  try clear hcz24_5
                                  try clear hcz24_6
                                  try clear hcz24_7
                                  try clear hcz24_8
                                  try clear hcz24_9
                                  try clear hcz25_0
                                  try clear hcz25_1
                                  try clear hcz25_10
                                  try clear hcz25_2
                                  try clear hcz25_3
                                  try clear hcz25_4
                                  try clear hcz25_5
                                  try clear hcz25_6
                                  try clear hcz25_7
                                  try clear hcz25_8
                                  try clear hcz25_9
                                  try clear hcz29_0
                                  try clear hcz29_1
                                  try clear hcz29_10
                                  try clear hcz29_2
                                  try clear hcz29_3
                                  try clear hcz29_4
                                  try clear hcz29_5
                                  try clear hcz29_6
                                  try clear hcz29_7
                                  try clear hcz29_8
                                  try clear hcz29_9
                                  try clear hcz31_0
                                  try clear hcz31_1
                                  try clear hcz31_10
                                  try clear hcz31_2
                                  try clear hcz31_3
                                  try clear hcz31_4
                                  try clear hcz31_5
                                  try clear hcz31_6
                                  try clear hcz31_7
                                  try clear hcz31_8
                                  try clear hcz31_9
                                  try clear hcz32_0
                                  try clear hcz32_1
                                  try clear hcz32_10
                                  try clear hcz32_2
                                  try clear hcz32_3
                                  try clear hcz32_4
                                  try clear hcz32_5
                                  try clear hcz32_6
                                  try clear hcz32_7
                                  try clear hcz32_8
                                  try clear hcz32_9
                                  try clear hcz33_0
                                  try clear hcz33_1
                                  try clear hcz33_10
                                  try clear hcz33_2
                                  try clear hcz33_3
                                  try clear hcz33_4
                                  try clear hcz33_5
                                  try clear hcz33_6
                                  try clear hcz33_7
                                  try clear hcz33_8
                                  try clear hcz33_9
                                  try clear hcz37_0
                                  try clear hcz37_1
                                  try clear hcz37_10
                                  try clear hcz37_2
                                  try clear hcz37_3
                                  try clear hcz37_4
                                  try clear hcz37_5
                                  try clear hcz37_6
                                  try clear hcz37_7
                                  try clear hcz37_8
                                  try clear hcz37_9
                                  try clear hcz39_0
                                  try clear hcz39_1
                                  try clear hcz39_10
                                  try clear hcz39_2
                                  try clear hcz39_3
                                  try clear hcz39_4
                                  try clear hcz39_5
                                  try clear hcz39_6
                                  try clear hcz39_7
                                  try clear hcz39_8
                                  try clear hcz39_9
                                  try clear hcz40_0
                                  try clear hcz40_1
                                  try clear hcz40_10
                                  try clear hcz40_2
                                  try clear hcz40_3
                                  try clear hcz40_4
                                  try clear hcz40_5
                                  try clear hcz40_6
                                  try clear hcz40_7
                                  try clear hcz40_8
                                  try clear hcz40_9
                                  try clear hcz41_0
                                  try clear hcz41_1
                                  try clear hcz41_10
                                  try clear hcz41_2
                                  try clear hcz41_3
                                  try clear hcz41_4
                                  try clear hcz41_5
                                  try clear hcz41_6
                                  try clear hcz41_7
                                  try clear hcz41_8
                                  try clear hcz41_9
                                  try clear hcz45_0
                                  try clear hcz45_1
                                  try clear hcz45_10
                                  try clear hcz45_2
                                  try clear hcz45_3
                                  try clear hcz45_4
                                  try clear hcz45_5
                                  try clear hcz45_6
                                  try clear hcz45_7
                                  try clear hcz45_8
                                  try clear hcz45_9
                                  try clear hcz46_0
                                  try clear hcz46_1
                                  try clear hcz46_10
                                  try clear hcz46_2
                                  try clear hcz46_3
                                  try clear hcz46_4
                                  try clear hcz46_5
                                  try clear hcz46_6
                                  try clear hcz46_7
                                  try clear hcz46_8
                                  try clear hcz46_9
                                  try clear hcz47_0
                                  try clear hcz47_1
                                  try clear hcz47_10
                                  try clear hcz47_2
                                  try clear hcz47_3
                                  try clear hcz47_4
                                  try clear hcz47_5
                                  try clear hcz47_6
                                  try clear hcz47_7
                                  try clear hcz47_8
                                  try clear hcz47_9
                                  try clear hcz5_0
                                  try clear hcz5_1
                                  try clear hcz5_10
                                  try clear hcz5_2
                                  try clear hcz5_3
                                  try clear hcz5_4
                                  try clear hcz5_5
                                  try clear hcz5_6
                                  try clear hcz5_7
                                  try clear hcz5_8
                                  try clear hcz5_9
                                  try clear hcz7_0
                                  try clear hcz7_1
                                  try clear hcz7_10
                                  try clear hcz7_2
                                  try clear hcz7_3
                                  try clear hcz7_4
                                  try clear hcz7_5
                                  try clear hcz7_6
                                  try clear hcz7_7
                                  try clear hcz7_8
                                  try clear hcz7_9
                                  try clear hcz9_0
                                  try clear hcz9_1
                                  try clear hcz9_10
                                  try clear hcz9_2
                                  try clear hcz9_3
                                  try clear hcz9_4
                                  try clear hcz9_5
                                  try clear hcz9_6
                                  try clear hcz9_7
                                  try clear hcz9_8
                                  try clear hcz9_9
                                  try clear hfz11_0
                                  try clear hfz11_1
                                  try clear hfz11_10
                                  try clear hfz11_2
                                  try clear hfz11_3
                                  try clear hfz11_4
                                  try clear hfz11_5
                                  try clear hfz11_6
                                  try clear hfz11_7
                                  try clear hfz11_8
                                  try clear hfz11_9
                                  try clear hfz13_0
                                  try clear hfz13_1
                                  try clear hfz13_10
                                  try clear hfz13_2
                                  try clear hfz13_3
                                  try clear hfz13_4
                                  try clear hfz13_5
                                  try clear hfz13_6
                                  try clear hfz13_7
                                  try clear hfz13_8
                                  try clear hfz13_9
                                  try clear hfz15_0
                                  try clear hfz15_1
                                  try clear hfz15_10
                                  try clear hfz15_2
                                  try clear hfz15_3
                                  try clear hfz15_4
                                  try clear hfz15_5
                                  try clear hfz15_6
                                  try clear hfz15_7
                                  try clear hfz15_8
                                  try clear hfz15_9
                                  try clear hfz17_0
                                  try clear hfz17_1
                                  try clear hfz17_10
                                  try clear hfz17_2
                                  try clear hfz17_3
                                  try clear hfz17_4
                                  try clear hfz17_5
                                  try clear hfz17_6
                                  try clear hfz17_7
                                  try clear hfz17_8
                                  try clear hfz17_9
                                  try clear hfz18_0
                                  try clear hfz18_1
                                  try clear hfz18_10
                                  try clear hfz18_2
                                  try clear hfz18_3
                                  try clear hfz18_4
                                  try clear hfz18_5
                                  try clear hfz18_6
                                  try clear hfz18_7
                                  try clear hfz18_8
                                  try clear hfz18_9
                                  try clear hfz23_0
                                  try clear hfz23_1
                                  try clear hfz23_10
                                  try clear hfz23_2
                                  try clear hfz23_3
                                  try clear hfz23_4
                                  try clear hfz23_5
                                  try clear hfz23_6
                                  try clear hfz23_7
                                  try clear hfz23_8
                                  try clear hfz23_9
                                  try clear hfz24_0
                                  try clear hfz24_1
                                  try clear hfz24_10
                                  try clear hfz24_2
                                  try clear hfz24_3
                                  try clear hfz24_4
                                  try clear hfz24_5
                                  try clear hfz24_6
                                  try clear hfz24_7
                                  try clear hfz24_8
                                  try clear hfz24_9
                                  try clear hfz25_0
                                  try clear hfz25_1
                                  try clear hfz25_10
                                  try clear hfz25_2
                                  try clear hfz25_3
                                  try clear hfz25_4
                                  try clear hfz25_5
                                  try clear hfz25_6
                                  try clear hfz25_7
                                  try clear hfz25_8
                                  try clear hfz25_9
                                  try clear hfz29_0
                                  try clear hfz29_1
                                  try clear hfz29_10
                                  try clear hfz29_2
                                  try clear hfz29_3
                                  try clear hfz29_4
                                  try clear hfz29_5
                                  try clear hfz29_6
                                  try clear hfz29_7
                                  try clear hfz29_8
                                  try clear hfz29_9
                                  try clear hfz31_0
                                  try clear hfz31_1
                                  try clear hfz31_10
                                  try clear hfz31_2
                                  try clear hfz31_3
                                  try clear hfz31_4
                                  try clear hfz31_5
                                  try clear hfz31_6
                                  try clear hfz31_7
                                  try clear hfz31_8
                                  try clear hfz31_9
                                  try clear hfz32_0
                                  try clear hfz32_1
                                  try clear hfz32_10
                                  try clear hfz32_2
                                  try clear hfz32_3
                                  try clear hfz32_4
                                  try clear hfz32_5
                                  try clear hfz32_6
                                  try clear hfz32_7
                                  try clear hfz32_8
                                  try clear hfz32_9
                                  try clear hfz33_0
                                  try clear hfz33_1
                                  try clear hfz33_10
                                  try clear hfz33_2
                                  try clear hfz33_3
                                  try clear hfz33_4
                                  try clear hfz33_5
                                  try clear hfz33_6
                                  try clear hfz33_7
                                  try clear hfz33_8
                                  try clear hfz33_9
                                  try clear hfz37_0
                                  try clear hfz37_1
                                  try clear hfz37_10
                                  try clear hfz37_2
                                  try clear hfz37_3
                                  try clear hfz37_4
                                  try clear hfz37_5
                                  try clear hfz37_6
                                  try clear hfz37_7
                                  try clear hfz37_8
                                  try clear hfz37_9
                                  try clear hfz39_0
                                  try clear hfz39_1
                                  try clear hfz39_10
                                  try clear hfz39_2
                                  try clear hfz39_3
                                  try clear hfz39_4
                                  try clear hfz39_5
                                  try clear hfz39_6
                                  try clear hfz39_7
                                  try clear hfz39_8
                                  try clear hfz39_9
                                  try clear hfz40_0
                                  try clear hfz40_1
                                  try clear hfz40_10
                                  try clear hfz40_2
                                  try clear hfz40_3
                                  try clear hfz40_4
                                  try clear hfz40_5
                                  try clear hfz40_6
                                  try clear hfz40_7
                                  try clear hfz40_8
                                  try clear hfz40_9
                                  try clear hfz41_0
                                  try clear hfz41_1
                                  try clear hfz41_10
                                  try clear hfz41_2
                                  try clear hfz41_3
                                  try clear hfz41_4
                                  try clear hfz41_5
                                  try clear hfz41_6
                                  try clear hfz41_7
                                  try clear hfz41_8
                                  try clear hfz41_9
                                  try clear hfz45_0
                                  try clear hfz45_1
                                  try clear hfz45_10
                                  try clear hfz45_2
                                  try clear hfz45_3
                                  try clear hfz45_4
                                  try clear hfz45_5
                                  try clear hfz45_6
                                  try clear hfz45_7
                                  try clear hfz45_8
                                  try clear hfz45_9
                                  try clear hfz46_0
                                  try clear hfz46_1
                                  try clear hfz46_10
                                  try clear hfz46_2
                                  try clear hfz46_3
                                  try clear hfz46_4
                                  try clear hfz46_5
                                  try clear hfz46_6
                                  try clear hfz46_7
                                  try clear hfz46_8
                                  try clear hfz46_9
                                  try clear hfz47_0
                                  try clear hfz47_1
                                  try clear hfz47_10
                                  try clear hfz47_2
                                  try clear hfz47_3
                                  try clear hfz47_4
                                  try clear hfz47_5
                                  try clear hfz47_6
                                  try clear hfz47_7
                                  try clear hfz47_8
                                  try clear hfz47_9
                                  try clear hfz5_0
                                  try clear hfz5_1
                                  try clear hfz5_10
                                  try clear hfz5_2
                                  try clear hfz5_3
                                  try clear hfz5_4
                                  try clear hfz5_5
                                  try clear hfz5_6
                                  try clear hfz5_7
                                  try clear hfz5_8
                                  try clear hfz5_9
                                  try clear hfz7_0
                                  try clear hfz7_1
                                  try clear hfz7_10
                                  try clear hfz7_2
                                  try clear hfz7_3
                                  try clear hfz7_4
                                  try clear hfz7_5
                                  try clear hfz7_6
                                  try clear hfz7_7
                                  try clear hfz7_8
                                  try clear hfz7_9
                                  try clear hfz9_0
                                  try clear hfz9_1
                                  try clear hfz9_10
                                  try clear hfz9_2
                                  try clear hfz9_3
                                  try clear hfz9_4
                                  try clear hfz9_5
                                  try clear hfz9_6
                                  try clear hfz9_7
                                  try clear hfz9_8
                                  try clear hfz9_9
                                  try clear hx105_0
                                  try clear hx105_1
                                  try clear hx105_2
                                  try clear hx106_0
                                  try clear hx106_1
                                  try clear hx106_2
                                  try clear hx106_3
                                  try clear hx107_0
                                  try clear hx107_1
                                  try clear hx107_2
                                  try clear hx107_3
                                  try clear hx108_0
                                  try clear hx108_1
                                  try clear hx108_2
                                  try clear hx108_3
                                  try clear hx108_4
                                  try clear hx109_0
                                  try clear hx109_1
                                  try clear hx109_2
                                  try clear hx109_3
                                  try clear hx109_4
                                  try clear hx110_0
                                  try clear hx110_1
                                  try clear hx110_2
                                  try clear p1
                                  try clear p10
                                  try clear p105
                                  try clear p106
                                  try clear p107
                                  try clear p108
                                  try clear p109
                                  try clear p110
                                  try clear p2
                                  try clear p6
                                  try clear q1
                                  try clear q10
                                  try clear q105
                                  try clear q106
                                  try clear q107
                                  try clear q108
                                  try clear q109
                                  try clear q110
                                  obtain ⟨x7_6, rfl, HA, HK6, BK104, HB⟩ := hrel
                                  cases gk with
                                  | zero => exact absurd HA.out (by simp [interlocklaw15_GreatStmt.l4])
                                  | succ k6 =>
                                    have H := HA.out
                                    clear HA
                                    simp only [interlocklaw15_GreatStmt.l4] at H
                                    by_cases c48 : x7_6 < (l0_10.length : Int)
                                    · rw [if_pos c48] at H
                                      have c48b0 : decide (x7_6 < (l0_10.length : Int)) = true := decide_eq_true c48
                                      clear c48
                                      by_cases c49 : 0 ≤ x7_6
                                      · rw [if_pos c49] at H
                                        have c49b0 : decide (0 ≤ x7_6) = true := decide_eq_true c49
                                        clear c49
                                        by_cases c50 : ((rdOf ByteArray.empty l0_10 x7_6).size : Int) > 50
                                        · rw [if_pos c50] at H
                                          have c50b0 : decide (50 < ((rdOf ByteArray.empty l0_10 x7_6).size : Int)) = true := decide_eq_true c50
                                          have c50b1 : decide (50 < (rdOf ByteArray.empty l0_10 x7_6).size) = true := decide_eq_true (by omega)
                                          clear c50
                                          obtain rfl := Option.some.inj H
                                          have hcz51_0 : wr.cell? ⟨gb104, 0, none⟩ = some (.int .i64 a0_0) := (blk_cell BK104.out 0).trans rfl
                                          have hcz51_1 : wr.cell? ⟨gb104, 1, none⟩ = some (.string a0_1) := (blk_cell BK104.out 1).trans rfl
                                          have hcz51_2 : wr.cell? ⟨gb104, 2, none⟩ = some (.string a0_2) := (blk_cell BK104.out 2).trans rfl
                                          have hcz51_3 : wr.cell? ⟨gb104, 3, none⟩ = some (.string a0_3) := (blk_cell BK104.out 3).trans rfl
                                          have hcz51_4 : wr.cell? ⟨gb104, 4, none⟩ = some (.int .i64 a0_4) := (blk_cell BK104.out 4).trans rfl
                                          have hcz51_5 : wr.cell? ⟨gb104, 5, none⟩ = some (.bool a0_5) := (blk_cell BK104.out 5).trans rfl
                                          have hcz51_6 : wr.cell? ⟨gb104, 6, none⟩ = some (.slice A0_6 l0_6.length c0_6) := (blk_cell BK104.out 6).trans rfl
                                          have hcz51_7 : wr.cell? ⟨gb104, 7, none⟩ = some (.slice A0_7 l0_7.length c0_7) := (blk_cell BK104.out 7).trans rfl
                                          have hcz51_8 : wr.cell? ⟨gb104, 8, none⟩ = some (.slice A0_8 l0_8.length c0_8) := (blk_cell BK104.out 8).trans rfl
                                          have hcz51_9 : wr.cell? ⟨gb104, 9, none⟩ = some (.slice A0_9 l0_9.length c0_9) := (blk_cell BK104.out 9).trans rfl
                                          have hcz51_10 : wr.cell? ⟨gb104, 10, none⟩ = some (.slice A0_10 l0_10.length c0_10) := (blk_cell BK104.out 10).trans rfl
                                          have hfz51_0 := blk_frozen BK104.out 0
                                          have hfz51_1 := blk_frozen BK104.out 1
                                          have hfz51_2 := blk_frozen BK104.out 2
                                          have hfz51_3 := blk_frozen BK104.out 3
                                          have hfz51_4 := blk_frozen BK104.out 4
                                          have hfz51_5 := blk_frozen BK104.out 5
                                          have hfz51_6 := blk_frozen BK104.out 6
                                          have hfz51_7 := blk_frozen BK104.out 7
                                          have hfz51_8 := blk_frozen BK104.out 8
                                          have hfz51_9 := blk_frozen BK104.out 9
                                          have hfz51_10 := blk_frozen BK104.out 10
                                          have p111 : 0 ≤ (x7_6 : Int) := of_decide_eq_true (by first | (with_reducible assumption) | assumption)
                                          have q111 : x7_6 < (l0_10.length : Int) := of_decide_eq_true (by first | (with_reducible assumption) | assumption)
                                          obtain ⟨ad111, e111, hx111_0⟩ := Kd.at_string HR0_10.out x7_6 p111 q111
                                          cases e111
                                          replace hx111_0 := (HB.out.cell (World.block_lt_of_cell? w _ hx111_0)).trans hx111_0
                                          replace p111 := eq_true p111
                                          replace q111 := eq_true q111
                                          go_wp2
                                          go_ret
                                          exact ⟨by first | rfl | (simp [errW_none, errW_some] <;> rfl) | (simp [*, errW_none, errW_some] <;> rfl), by repeat (first | (with_reducible first | exact HB.out | apply below_alloc | apply pw_below_drewN | apply below_drew1 | refine below_set ?_ GE104.out) | exact HB.out)⟩
                                        · rw [if_neg c50] at H
                                          have c50b0 : decide (50 < ((rdOf ByteArray.empty l0_10 x7_6).size : Int)) = false := decide_eq_false c50
                                          have c50b1 : decide (50 < (rdOf ByteArray.empty l0_10 x7_6).size) = false := decide_eq_false (by omega)
                                          clear c50
                                          have H' := Aside0.mk H
                                          clear H
                                          have hcz52_0 : wr.cell? ⟨gb104, 0, none⟩ = some (.int .i64 a0_0) := (blk_cell BK104.out 0).trans rfl
                                          have hcz52_1 : wr.cell? ⟨gb104, 1, none⟩ = some (.string a0_1) := (blk_cell BK104.out 1).trans rfl
                                          have hcz52_2 : wr.cell? ⟨gb104, 2, none⟩ = some (.string a0_2) := (blk_cell BK104.out 2).trans rfl
                                          have hcz52_3 : wr.cell? ⟨gb104, 3, none⟩ = some (.string a0_3) := (blk_cell BK104.out 3).trans rfl
                                          have hcz52_4 : wr.cell? ⟨gb104, 4, none⟩ = some (.int .i64 a0_4) := (blk_cell BK104.out 4).trans rfl
                                          have hcz52_5 : wr.cell? ⟨gb104, 5, none⟩ = some (.bool a0_5) := (blk_cell BK104.out 5).trans rfl
                                          have hcz52_6 : wr.cell? ⟨gb104, 6, none⟩ = some (.slice A0_6 l0_6.length c0_6) := (blk_cell BK104.out 6).trans rfl
                                          have hcz52_7 : wr.cell? ⟨gb104, 7, none⟩ = some (.slice A0_7 l0_7.length c0_7) := (blk_cell BK104.out 7).trans rfl
                                          have hcz52_8 : wr.cell? ⟨gb104, 8, none⟩ = some (.slice A0_8 l0_8.length c0_8) := (blk_cell BK104.out 8).trans rfl
                                          have hcz52_9 : wr.cell? ⟨gb104, 9, none⟩ = some (.slice A0_9 l0_9.length c0_9) := (blk_cell BK104.out 9).trans rfl
                                          have hcz52_10 : wr.cell? ⟨gb104, 10, none⟩ = some (.slice A0_10 l0_10.length c0_10) := (blk_cell BK104.out 10).trans rfl
                                          have hfz52_0 := blk_frozen BK104.out 0
                                          have hfz52_1 := blk_frozen BK104.out 1
                                          have hfz52_2 := blk_frozen BK104.out 2
                                          have hfz52_3 := blk_frozen BK104.out 3
                                          have hfz52_4 := blk_frozen BK104.out 4
                                          have hfz52_5 := blk_frozen BK104.out 5
                                          have hfz52_6 := blk_frozen BK104.out 6
                                          have hfz52_7 := blk_frozen BK104.out 7
                                          have hfz52_8 := blk_frozen BK104.out 8
                                          have hfz52_9 := blk_frozen BK104.out 9
                                          have hfz52_10 := blk_frozen BK104.out 10
                                          have p111 : 0 ≤ (x7_6 : Int) := of_decide_eq_true (by first | (with_reducible assumption) | assumption)
                                          have q111 : x7_6 < (l0_10.length : Int) := of_decide_eq_true (by first | (with_reducible assumption) | assumption)
                                          obtain ⟨ad111, e111, hx111_0⟩ := Kd.at_string HR0_10.out x7_6 p111 q111
                                          cases e111
                                          replace hx111_0 := (HB.out.cell (World.block_lt_of_cell? w _ hx111_0)).trans hx111_0
                                          replace p111 := eq_true p111
                                          replace q111 := eq_true q111
                                          go_wp2
                                          go_roundg k6
                                          case measure => have := HJ1.out; have := HK2.out; have := HK3.out; have := HK4.out; have := HK5.out; have := HK6.out; omega
                                          case rel => exact ⟨(wrap64 (x7_6 + 1)), (by first | rfl | (simp; done) | (simp [*]; done)), H', ⟨by have := HJ1.out; have := HK2.out; have := HK3.out; have := HK4.out; have := HK5.out; have := HK6.out; omega⟩, ⟨by (with_reducible repeat (first | refine blk_drewN ?_ _ | refine blk_drew ?_ | refine blk_alloc ?_ _)); exact BK104.out⟩, ⟨by repeat (first | (with_reducible first | exact HB.out | apply below_alloc | apply pw_below_drewN | apply below_drew1 | refine below_set ?_ GE104.out) | exact HB.out)⟩⟩
                                      · rw [if_neg c49] at H
                                        exact absurd H (by simp)
                                    · rw [if_neg c48] at H
                                      have c48b0 : decide (x7_6 < (l0_10.length : Int)) = false := decide_eq_false c48
                                      clear c48
                                      obtain rfl := Option.some.inj H
                                      have hcz53_0 : wr.cell? ⟨gb104, 0, none⟩ = some (.int .i64 a0_0) := (blk_cell BK104.out 0).trans rfl
                                      have hcz53_1 : wr.cell? ⟨gb104, 1, none⟩ = some (.string a0_1) := (blk_cell BK104.out 1).trans rfl
                                      have hcz53_2 : wr.cell? ⟨gb104, 2, none⟩ = some (.string a0_2) := (blk_cell BK104.out 2).trans rfl
                                      have hcz53_3 : wr.cell? ⟨gb104, 3, none⟩ = some (.string a0_3) := (blk_cell BK104.out 3).trans rfl
                                      have hcz53_4 : wr.cell? ⟨gb104, 4, none⟩ = some (.int .i64 a0_4) := (blk_cell BK104.out 4).trans rfl
                                      have hcz53_5 : wr.cell? ⟨gb104, 5, none⟩ = some (.bool a0_5) := (blk_cell BK104.out 5).trans rfl
                                      have hcz53_6 : wr.cell? ⟨gb104, 6, none⟩ = some (.slice A0_6 l0_6.length c0_6) := (blk_cell BK104.out 6).trans rfl
                                      have hcz53_7 : wr.cell? ⟨gb104, 7, none⟩ = some (.slice A0_7 l0_7.length c0_7) := (blk_cell BK104.out 7).trans rfl
                                      have hcz53_8 : wr.cell? ⟨gb104, 8, none⟩ = some (.slice A0_8 l0_8.length c0_8) := (blk_cell BK104.out 8).trans rfl
                                      have hcz53_9 : wr.cell? ⟨gb104, 9, none⟩ = some (.slice A0_9 l0_9.length c0_9) := (blk_cell BK104.out 9).trans rfl
                                      have hcz53_10 : wr.cell? ⟨gb104, 10, none⟩ = some (.slice A0_10 l0_10.length c0_10) := (blk_cell BK104.out 10).trans rfl
                                      have hfz53_0 := blk_frozen BK104.out 0
                                      have hfz53_1 := blk_frozen BK104.out 1
                                      have hfz53_2 := blk_frozen BK104.out 2
                                      have hfz53_3 := blk_frozen BK104.out 3
                                      have hfz53_4 := blk_frozen BK104.out 4
                                      have hfz53_5 := blk_frozen BK104.out 5
                                      have hfz53_6 := blk_frozen BK104.out 6
                                      have hfz53_7 := blk_frozen BK104.out 7
                                      have hfz53_8 := blk_frozen BK104.out 8
                                      have hfz53_9 := blk_frozen BK104.out 9
                                      have hfz53_10 := blk_frozen BK104.out 10
                                      go_wp2
                                      go_ret
                                      exact ⟨by first | rfl | (simp [errW_none, errW_some] <;> rfl) | (simp [*, errW_none, errW_some] <;> rfl), by repeat (first | (with_reducible first | exact HB.out | apply below_alloc | apply pw_below_drewN | apply below_drew1 | refine below_set ?_ GE104.out) | exact HB.out)⟩
end Go.Proofs.Ytnojcnmnkkgkgaa.Q
end
