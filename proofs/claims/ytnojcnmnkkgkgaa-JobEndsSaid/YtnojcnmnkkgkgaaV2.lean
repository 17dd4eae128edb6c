/- Packed by shake.py: YtnojcnmnkkgkgaaQ60 YtnojcnmnkkgkgaaJT1 YtnojcnmnkkgkgaaJT2 YtnojcnmnkkgkgaaJT3 YtnojcnmnkkgkgaaJT4 YtnojcnmnkkgkgaaJT5 YtnojcnmnkkgkgaaQ15 YtnojcnmnkkgkgaaJT6 YtnojcnmnkkgkgaaJP1 YtnojcnmnkkgkgaaJP2 YtnojcnmnkkgkgaaJJ1 YtnojcnmnkkgkgaaJJ2 YtnojcnmnkkgkgaaJJ3 -/
import Derived.Defers
import Derived.Test.YtnojcnmnkkgkgaaV1
set_option linter.unusedSectionVars false
section
namespace Go.Proofs.Ytnojcnmnkkgkgaa.Q
open Go.RowKit Go.Proofs.YtnojcnmnkkgkgaaW.PrintWords Go.Proofs.YtnojcnmnkkgkgaaW.PrintLast Go.Proofs.YtnojcnmnkkgkgaaW.PrintMore
attribute [local go_sem] max2_int min2_int max_two min_two max_three min_three max_four min_four
set_option linter.unusedVariables false
set_option linter.unusedSimpArgs false
def interlockref22_errno.f (a0 : Int) : Option (Int) := if (Go.bits .and .i64 a0 3) = 3 then (some 12) else (some 0)
set_option maxHeartbeats 8000000 in
set_option maxRecDepth 100000 in
theorem interlockref22_errno.calls (a0 : Int) (r : Int) (w : World) (h : interlockref22_errno.f a0 = some r) :
    Calls Try.prog 60 #[.int .i64 a0] w fun e w' => e = .returned (.int .i64 r) ∧ Drawn0 w w' := by
  have H : (if (Go.bits .and .i64 a0 3) = 3 then (some 12) else (some 0)) = some r := h
  clear h
  by_cases c2 : (Go.bits .and .i64 a0 3) = 3
  · rw [if_pos c2] at H
    have c2b0 : ((Go.bits .and .i64 a0 3) == 3) = true := beq_iff_eq.mpr c2
    have c2b1 : ((Go.bits .and .i64 a0 3) != 3) = false := bne_eq_false_iff_eq.mpr c2
    clear c2
    obtain rfl := Option.some.inj H
    go_enter Try.func60, Try.ntmps60
    go_wp2
    go_ret
    exact ⟨by first | rfl | (simp; done) | (simp [*]; done), by repeat (first | exact Drawn0.refl _ | apply Drawn0.step)⟩
  · rw [if_neg c2] at H
    have c2b0 : ((Go.bits .and .i64 a0 3) == 3) = false := beq_eq_false_iff_ne.mpr c2
    have c2b1 : ((Go.bits .and .i64 a0 3) != 3) = true := bne_iff_ne.mpr c2
    obtain rfl := Option.some.inj H
    go_enter Try.func60, Try.ntmps60
    go_wp2
    go_ret
    exact ⟨by first | rfl | (simp; done) | (simp [*]; done), by repeat (first | exact Drawn0.refl _ | apply Drawn0.step)⟩
end Go.Proofs.Ytnojcnmnkkgkgaa.Q
end
section
namespace Go.Proofs.Kb
open Go Go.RowKit Go.Proofs.Ytnojcnmnkkgkgaa.Q Go.Proofs.YtnojcnmnkkgkgaaW.PrintWords Go.Proofs.YtnojcnmnkkgkgaaW.PrintLast Go.Proofs.YtnojcnmnkkgkgaaW.PrintMore
set_option linter.unusedVariables false
set_option linter.unusedSimpArgs false
set_option maxRecDepth 100000
noncomputable def txtI : InfoX Try.prog txtE 26 := Classical.choice (infoX_of Try.underlying26 txtE_info (by simp [Value.cells, txtE]) (by decide) (by decide))
noncomputable def intI : InfoX Try.prog intE 31 := Classical.choice (infoX_of Try.underlying31 intE_info (by simp [Value.cells, intE]) (by decide) (by decide))
noncomputable def wntI : InfoX Try.prog wntE 91 := Classical.choice (infoX_of Try.underlying91 wntE_info (by simp [Value.cells, wntE]) (by decide) (by decide))
theorem St.putBlk {w0 w : World} {F : Nat → Prop} {cs : List Chunk} {b : Nat} {C C' : Array Value} {t : TypeId} (s : St w0 F w cs) (i : Nat) (hi : cs[i]? = some (blkC b (.cells C t (0, 0)))) (j : Nat) (v : Value) (e : C.setIfInBounds j v = C') :
    St w0 F (w.setCell ⟨b, j, none⟩ v) (cs.set i (blkC b (.cells C' t (0, 0)))) :=
  s.upd i hi (blkC b (.cells C' t (0, 0))) (keep_set w b j _ _ (by simp [blkC])) (blk_put (s.blk i hi) j v e) (nd_one b) (fun x hx => .inl hx)
def Ans (w : World) (v : Value) (l : List Int) : Prop := (v = .slice none 0 0 ∧ l = []) ∨ ∃ g o c C t, v = .slice (some ⟨g, o, none⟩) l.length c ∧ l.length ≤ c ∧ w.heap[g]? = some (.cells C t (0, 0)) ∧ ∀ j x, l[j]? = some x → C[o + j]? = some (.int .i64 x)
def ab : Value → List Nat
  | .slice (some a) _ _ => [a.block]
  | _ => []
def ansC (v : Value) (l : List Int) : Chunk := ⟨fun w => Ans w v l, ab v, fun h b hb => by
  rcases h with ⟨rfl, _⟩ | ⟨g, o, c, C, t, rfl, _, hg, _⟩
  · simp [ab] at hb
  · simp [ab] at hb
    subst hb
    exact lt_of_some hg, fun h hm => by
  rcases h with h | ⟨g, o, c, C, t, rfl, hc, hg, hx⟩
  · exact .inl h
  · exact .inr ⟨g, o, c, C, t, rfl, hc, (hm g (by simp [ab])).trans hg, hx⟩⟩
theorem Ans.none_ {w : World} {v : Value} (h : Ans w v []) : ∃ A c, v = .slice A 0 c := by
  rcases h with ⟨rfl, _⟩ | ⟨g, o, c, C, t, rfl, _⟩
  · exact ⟨_, _, rfl⟩
  · exact ⟨_, _, rfl⟩
theorem Ans.cons_ {w : World} {v : Value} {x : Int} {l : List Int} (h : Ans w v (x :: l)) : ∃ g o c, v = .slice (some ⟨g, o, none⟩) (l.length + 1) (c + 1) ∧ l.length ≤ c ∧ w.cell? ⟨g, o, none⟩ = some (.int .i64 x) ∧ g < w.heap.size ∧
    Ans w (.slice (if c = 0 then some ⟨g, o, none⟩ else some ⟨g, o + 1, none⟩) l.length c) l := by
  rcases h with ⟨_, h⟩ | ⟨g, o, c, C, t, rfl, hc, hg, hx⟩
  · cases h
  · simp only [List.length_cons] at hc
    obtain ⟨c, rfl⟩ : ∃ k, c = k + 1 := ⟨c - 1, by omega⟩
    refine ⟨g, o, c, rfl, by omega, ?_, lt_of_some hg, ?_⟩
    · rw [blk_cell hg]
      exact hx 0 x rfl
    · by_cases h0 : c = 0
      · rw [if_pos h0]
        refine .inr ⟨g, o, c, C, t, rfl, by omega, hg, fun j y hy => ?_⟩
        have := (List.getElem?_eq_some_iff.1 hy).1
        omega
      · rw [if_neg h0]
        refine .inr ⟨g, o + 1, c, C, t, rfl, by omega, hg, fun j y hy => ?_⟩
        have := hx (j + 1) y hy
        rwa [show o + 1 + j = o + (j + 1) by omega]
theorem RowX.ans {w : World} {v : Value} {l : List Int} (h : RowX intE w v l) : Ans w v l := by
  rcases h.2.2 with ⟨rfl, h0⟩ | ⟨g, cap, cur, rfl, hg, hn, hm, hs, ht⟩
  · exact .inl ⟨rfl, List.eq_nil_of_length_eq_zero h0⟩
  · refine .inr ⟨g, 0, cap, cur, 3, rfl, hn, hg, fun j x hx => ?_⟩
    have h1 : (intE.all l)[j]? = some (.int .i64 x) := by
      have := intE.all_get hx (j := 0) (by decide)
      rw [show j * intE.sz + 0 = j from Nat.mul_one j] at this
      exact this.trans rfl
    rw [← ht, List.getElem?_take_of_lt (by have := (List.getElem?_eq_some_iff.1 hx).1; show j < l.length * 1; omega)] at h1
    rw [Nat.zero_add]
    simpa using h1
def tpV (tp : Nat) : Value := .pointer (some ⟨tp, 0, none⟩)
def TL (w0 : World) (F : Nat → Prop) (tp : Nat) (ans : List Int) (txt : List ByteArray) (held : Int) (R : List Chunk) (W : World) : Prop :=
  ∃ av kv, St w0 F W (ansC av ans :: blkC tp (.cells #[av, kv, .int .i64 held] 36 (0, 0)) :: rowXC txtE kv txt :: R)
section
variable {w0 w w' : World} {F : Nat → Prop} {tp : Nat} {ans : List Int} {txt : List ByteArray} {held : Int} {R R' : List Chunk}
theorem TL.below (h : TL w0 F tp ans txt held R w) (hb : Below w.heap.size w w') : TL w0 F tp ans txt held R w' := by
  obtain ⟨av, kv, h⟩ := h
  exact ⟨av, kv, h.below hb⟩
theorem TL.drew (h : TL w0 F tp ans txt held R w) : TL w0 F tp ans txt held R w.drew := by
  obtain ⟨av, kv, h⟩ := h
  exact ⟨av, kv, h.drew⟩
theorem TL.rest (h : TL w0 F tp ans txt held R w) : St w0 F w R := by
  obtain ⟨av, kv, h⟩ := h
  exact St.drop (A := [_, _, _]) h
theorem TL.perm (h : TL w0 F tp ans txt held R w) (hp : R.Perm R') : TL w0 F tp ans txt held R' w := by
  obtain ⟨av, kv, h⟩ := h
  exact ⟨av, kv, h.perm (((hp.cons _).cons _).cons _)⟩
theorem TL.sub (h : TL w0 F tp ans txt held R w) (f : ∀ cs : List Chunk, St w0 F w (R ++ cs) → St w0 F w' (R' ++ cs)) : TL w0 F tp ans txt held R' w' := by
  obtain ⟨av, kv, h⟩ := h
  exact ⟨av, kv, (f [_, _, _] (h.perm (List.perm_append_comm (l₁ := [_, _, _]) (l₂ := R)))).perm (List.perm_append_comm (l₁ := R') (l₂ := [_, _, _]))⟩
theorem TL.drop (h : TL w0 F tp ans txt held (R ++ R') w) : TL w0 F tp ans txt held R' w :=
  h.sub fun cs hs => by rw [List.append_assoc] at hs; exact hs.drop
theorem TL.alloc (h : TL w0 F tp ans txt held R w) (C : Array Value) (T : TypeId) {n : Nat} (hn : w.heap.size = n) : TL w0 F tp ans txt held (R ++ [blkC n (.cells C T (0, 0))]) (w.alloc (.cells C T)) := by
  obtain ⟨av, kv, h⟩ := h
  exact ⟨av, kv, h.alloc C T hn⟩
end
set_option maxHeartbeats 2000000 in
theorem next_calls (w0 w : World) (F : Nat → Prop) (tp : Nat) (ans : List Int) (txt : List ByteArray) (held : Int) (R : List Chunk) (h : TL w0 F tp ans txt held R w) :
    Calls Try.prog 59 #[tpV tp] w fun E w' => E = .returned (.int .i64 (ans.headD 0)) ∧ TL w0 F tp ans.tail txt held R w' := by
  have hu31 := Try.underlying31
  have hu36 := Try.underlying36
  obtain ⟨av, kv, h⟩ := h
  have hb := h.blk 1 rfl
  have c0 : w.cell? ⟨tp, 0, none⟩ = some av := (blk_cell hb 0).trans rfl
  have pl := lt_of_some hb
  have fz := fun j => frozen_of_row w tp j _ _ hb
  unfold tpV
  cases ans with
  | nil =>
    obtain ⟨A, c, rfl⟩ := Ans.none_ (h.get 0 rfl)
    have HS := Aside0.mk h
    clear h hb
    go_enter Try.func59, Try.ntmps59
    go_wp2
    go_ret
    exact ⟨rfl, _, _, HS.out⟩
  | cons x l =>
    obtain ⟨g, o, c, rfl, hc, hcell, hg, ha⟩ := Ans.cons_ (h.get 0 rfl)
    obtain ⟨A2, hA2⟩ : ∃ A, (if c = 0 then some ⟨g, o, none⟩ else some ⟨g, o + 1, none⟩ : Option Addr) = A := ⟨_, rfl⟩
    rw [hA2] at ha
    have h2 : St w0 F w (ansC (.slice A2 l.length c) l :: blkC tp (.cells #[.slice (some ⟨g, o, none⟩) (l.length + 1) (c + 1), kv, .int .i64 held] 36 (0, 0)) :: rowXC txtE kv txt :: R) :=
      St.tell (A := [_]) (B := [_]) h (fun _ y hy => by
        obtain rfl := List.mem_singleton.1 hy
        exact ha) (fun b => by
        have e : ab (.slice A2 l.length c) = [g] := by
          rw [← hA2]
          split <;> rfl
        show ((ab (.slice A2 l.length c)) ++ []).count b ≤ _
        rw [e]
        exact Nat.le_refl _)
    have h3 := h2.putBlk 1 rfl 0 (.slice A2 l.length c) rfl
    have HS := Aside0.mk h3
    have HL : (l.length + 1 : Nat) ≠ 0 := by omega
    clear h h2 h3 hb ha
    by_cases h0 : c = 0
    · subst h0
      obtain rfl : l = [] := List.eq_nil_of_length_eq_zero (by omega)
      rw [if_pos rfl] at hA2
      subst hA2
      go_enter Try.func59, Try.ntmps59
      go_wp2
      go_ret
      exact ⟨rfl, _, _, HS.out⟩
    · rw [if_neg h0] at hA2
      subst hA2
      go_enter Try.func59, Try.ntmps59
      go_wp2
      go_ret
      exact ⟨rfl, _, _, HS.out⟩
end Go.Proofs.Kb
end
section
namespace Go.Proofs.Kb
open Go Go.RowKit Go.Proofs.Ytnojcnmnkkgkgaa.Q Go.Proofs.YtnojcnmnkkgkgaaW.PrintWords Go.Proofs.YtnojcnmnkkgkgaaW.PrintLast Go.Proofs.YtnojcnmnkkgkgaaW.PrintMore
set_option linter.unusedVariables false
set_option linter.unusedSimpArgs false
set_option maxRecDepth 100000
section
variable {w0 w : World} {F : Nat → Prop} {tp : Nat} {ans : List Int} {txt : List ByteArray} {held : Int} {R : List Chunk}
set_option maxHeartbeats 2000000 in
theorem note_calls (h : TL w0 F tp ans txt held R w) (s : ByteArray) (hn : txt.length < 999999) :
    Calls Try.prog 58 #[tpV tp, .string s] w fun E w' => E = .returned (.tuple #[]) ∧ TL w0 F tp ans (txt ++ [s]) held R w' := by
  have hu26 := Try.underlying26
  have hu36 := Try.underlying36
  obtain ⟨av, kv, h⟩ := h
  have hb := h.blk 1 rfl
  have c1 : w.cell? ⟨tp, 1, none⟩ = some kv := (blk_cell hb 1).trans rfl
  have pl := lt_of_some hb
  obtain ⟨n9, hn9⟩ : ∃ n, w.heap.size = n := ⟨_, rfl⟩
  have h9 := h.alloc #[.string s] 9 hn9
  obtain ⟨W9, hW9⟩ : ∃ W, w.alloc (.cells #[.string s] 9) = W := ⟨_, rfl⟩
  rw [hW9] at h9
  have h9p := h9.perm (B := ansC av ans :: blkC tp (.cells #[av, kv, .int .i64 held] 36 (0, 0)) :: rowXC txtE kv txt :: blkC n9 (.cells #[.string s] 9 (0, 0)) :: R) ((((List.perm_append_comm (l₁ := R) (l₂ := [_])).cons _).cons _).cons _)
  obtain ⟨g2, c2, w6, hrun, hrow, hgrow, hown⟩ := appendX txtI (l := txt) (v := kv) s n9 #[.string s] 26 (h9p.rowX 2 rfl) (h9p.blk 3 rfl) rfl hn
  have h6 := h9p.rowTo 2 rfl hrow hgrow hown
  have h7 := h6.putBlk 1 rfl 1 (.slice (some ⟨g2, 0, none⟩) (txt.length + 1) c2) rfl
  have hb6 := h6.blk 1 rfl
  have pl6 := lt_of_some hb6
  have c6 : w6.cell? ⟨tp, 1, none⟩ = some kv := (blk_cell hb6 1).trans rfl
  have fz := fun j => frozen_of_row w6 tp j _ _ hb6
  have HS := Aside0.mk h7
  unfold tpV
  clear h h9 h9p hrow hgrow hown h6 h7 hb hb6
  go_enter Try.func58, Try.ntmps58
  go_wp2_with (at_builtin; refine wpList_append_run rfl (.tmp 8) (.tmp 10) 26 26 rfl _ _ rfl rfl hrun ?_)
  go_end0
  have h8 : St w0 F _ ([ansC av ans, blkC tp _, rowXC txtE _ _] ++ (blkC n9 _ :: R)) := HS.out
  exact ⟨rfl, av, _, (h8.perm (B := blkC n9 _ :: ([ansC av ans, blkC tp _, rowXC txtE _ _] ++ R)) (List.perm_middle)).drop (A := [_])⟩
end
end Go.Proofs.Kb
end
section
namespace Go.Proofs.Kb
open Go Go.RowKit Go.Proofs.Ytnojcnmnkkgkgaa.Q Go.Proofs.YtnojcnmnkkgkgaaW.PrintWords Go.Proofs.YtnojcnmnkkgkgaaW.PrintLast Go.Proofs.YtnojcnmnkkgkgaaW.PrintMore
set_option linter.unusedVariables false
set_option linter.unusedSimpArgs false
set_option maxRecDepth 100000
def errN (x : Int) : Int := if bits .and .i64 x 3 = 3 then 12 else 0
theorem errno_calls (a : Int) (w : World) : Calls Try.prog 60 #[.int .i64 a] w fun E w' => E = .returned (.int .i64 (errN a)) ∧ Below w.heap.size w w' :=
  (interlockref22_errno.calls a (errN a) w (by unfold interlockref22_errno.f errN; split <;> rfl)).mono fun E w' ⟨e, h⟩ => ⟨e, h.below⟩
section
variable {w0 w : World} {F : Nat → Prop} {tp : Nat} {ans : List Int} {txt : List ByteArray} {held : Int} {R : List Chunk}
set_option maxHeartbeats 2000000
theorem freeD_calls (h : TL w0 F tp ans txt held R w) (hn : txt.length < 999999) (hh : -1000000 ≤ held ∧ held ≤ 1000000) (u : FrameMode) :
    CallsD Try.prog 40 #[tpV tp] u w fun E u' w' => u' = u ∧ (E = .returned (.tuple #[]) ∧ TL w0 F tp ans (txt ++ [(⟨#[102, 114, 101, 101]⟩ : ByteArray)]) (held - 1) R w') := by
  have hu36 := Try.underlying36
  have HS := Aside0.mk h
  clear h
  unfold tpV
  go_enter_d Try.func40, Try.ntmps40
  go_wp2_with (go_at_call 58; refine (note_calls HS.out (⟨#[102, 114, 101, 101]⟩ : ByteArray) hn).mono ?_; rintro E w1 ⟨rfl, av, kv, h⟩; have hb := h.blk 1 rfl; have c2 : w1.cell? ⟨tp, 2, none⟩ = some (.int .i64 held) := ((blk_cell hb 2).trans rfl); have pl := lt_of_some hb; have fz := (fun j => frozen_of_row w1 tp j _ _ hb); have HS1 := Aside0.mk (h.putBlk 1 rfl 2 (.int .i64 (held - 1)) rfl); clear h HS hb)
  go_end0
  exact ⟨rfl, _, _, HS1.out⟩
theorem elder_calls (h : TL w0 F tp ans txt held R w) (hn : txt.length < 999999) :
    Calls Try.prog 41 #[tpV tp] w fun E w' => E = .returned (.bool (bits .and .i64 (ans.headD 0) 1 == 1)) ∧ TL w0 F tp ans.tail (txt ++ [(⟨#[101, 108, 100, 101, 114]⟩ : ByteArray)]) held R w' := by
  have HS := Aside0.mk h
  obtain ⟨x, hx⟩ : ∃ x, ans.headD 0 = x := ⟨_, rfl⟩
  have HX := Aside0.mk hx
  rw [hx]
  clear h hx
  unfold tpV
  go_enter Try.func41, Try.ntmps41
  go_wp2_with (first
    | (go_at_call 58; refine (note_calls HS.out (⟨#[101, 108, 100, 101, 114]⟩ : ByteArray) hn).mono ?_; rintro E w1 ⟨rfl, h⟩; have HS1 := Aside0.mk h; clear h HS)
    | (go_at_call 59; refine (next_calls _ _ _ _ _ _ _ _ HS1.out).mono ?_; rintro E w2 ⟨rfl, h⟩; rw [HX.out]; have HS2 := Aside0.mk h; clear h HS1))
  go_ret
  exact ⟨rfl, HS2.out⟩
theorem token_calls (h : TL w0 F tp ans txt held R w) (hn : txt.length < 999999) :
    Calls Try.prog 42 #[tpV tp] w fun E w' => E = .returned (.bool (bits .and .i64 (ans.headD 0) 1 == 1)) ∧ TL w0 F tp ans.tail (txt ++ [(⟨#[116, 111, 107, 101, 110]⟩ : ByteArray)]) held R w' := by
  have HS := Aside0.mk h
  obtain ⟨x, hx⟩ : ∃ x, ans.headD 0 = x := ⟨_, rfl⟩
  have HX := Aside0.mk hx
  rw [hx]
  clear h hx
  unfold tpV
  go_enter Try.func42, Try.ntmps42
  go_wp2_with (first
    | (go_at_call 58; refine (note_calls HS.out (⟨#[116, 111, 107, 101, 110]⟩ : ByteArray) hn).mono ?_; rintro E w1 ⟨rfl, h⟩; have HS1 := Aside0.mk h; clear h HS)
    | (go_at_call 59; refine (next_calls _ _ _ _ _ _ _ _ HS1.out).mono ?_; rintro E w2 ⟨rfl, h⟩; rw [HX.out]; have HS2 := Aside0.mk h; clear h HS1))
  go_ret
  exact ⟨rfl, HS2.out⟩
theorem settle_calls (h : TL w0 F tp ans txt held R w) (hn : txt.length < 999999) (s : ByteArray) (hs : s.size ≤ 1000) :
    Calls Try.prog 44 #[tpV tp, .string s] w fun E w' => E = .returned (.int .i64 (errN (ans.headD 0))) ∧ TL w0 F tp ans.tail (txt ++ [(⟨#[115, 101, 116, 116, 108, 101, 32]⟩ : ByteArray) ++ s]) held R w' := by
  have HS := Aside0.mk h
  obtain ⟨x, hx⟩ : ∃ x, ans.headD 0 = x := ⟨_, rfl⟩
  have HX := Aside0.mk hx
  have hsz : ¬ ((⟨#[115, 101, 116, 116, 108, 101, 32]⟩ : ByteArray).size + s.size > 9223372036854775807) := by rw [show (⟨#[115, 101, 116, 116, 108, 101, 32]⟩ : ByteArray).size = 7 by rfl]; omega
  rw [hx]
  clear h hx
  unfold tpV
  go_enter Try.func44, Try.ntmps44
  go_wp2_with (first
    | (go_at_call 58; refine (note_calls HS.out _ hn).mono ?_; rintro E w1 ⟨rfl, h⟩; have HS1 := Aside0.mk h; clear h HS)
    | (go_at_call 59; refine (next_calls _ _ _ _ _ _ _ _ HS1.out).mono ?_; rintro E w2 ⟨rfl, h⟩; rw [HX.out]; have HS2 := Aside0.mk h; clear h HS1)
    | (go_at_call 60; refine (errno_calls _ _).mono ?_; rintro E w3 ⟨rfl, hb⟩; have HS3 := Aside0.mk (HS2.out.below hb); clear hb HS2))
  go_ret
  exact ⟨rfl, HS3.out⟩
theorem abandon_calls (h : TL w0 F tp ans txt held R w) (hn : txt.length < 999999) (s : ByteArray) (hs : s.size ≤ 1000) :
    Calls Try.prog 45 #[tpV tp, .string s] w fun E w' => E = .returned (.bool (!(bits .and .i64 (ans.headD 0) 3 == 3))) ∧ TL w0 F tp ans.tail (txt ++ [(⟨#[97, 98, 97, 110, 100, 111, 110, 32]⟩ : ByteArray) ++ s]) held R w' := by
  have HS := Aside0.mk h
  obtain ⟨x, hx⟩ : ∃ x, ans.headD 0 = x := ⟨_, rfl⟩
  have HX := Aside0.mk hx
  have hsz : ¬ ((⟨#[97, 98, 97, 110, 100, 111, 110, 32]⟩ : ByteArray).size + s.size > 9223372036854775807) := by rw [show (⟨#[97, 98, 97, 110, 100, 111, 110, 32]⟩ : ByteArray).size = 8 by rfl]; omega
  rw [hx]
  clear h hx
  unfold tpV
  go_enter Try.func45, Try.ntmps45
  go_wp2_with (first
    | (go_at_call 58; refine (note_calls HS.out _ hn).mono ?_; rintro E w1 ⟨rfl, h⟩; have HS1 := Aside0.mk h; clear h HS)
    | (go_at_call 59; refine (next_calls _ _ _ _ _ _ _ _ HS1.out).mono ?_; rintro E w2 ⟨rfl, h⟩; rw [HX.out]; have HS2 := Aside0.mk h; clear h HS1))
  go_ret
  exact ⟨rfl, HS2.out⟩
end
end Go.Proofs.Kb
end
section
namespace Go.Proofs.Kb
open Go Go.RowKit Go.Proofs.Ytnojcnmnkkgkgaa.Q Go.Proofs.YtnojcnmnkkgkgaaW.PrintWords Go.Proofs.YtnojcnmnkkgkgaaW.PrintLast Go.Proofs.YtnojcnmnkkgkgaaW.PrintMore
set_option linter.unusedVariables false
set_option linter.unusedSimpArgs false
set_option maxRecDepth 100000
structure Sl where
  A : Option Addr
  n : Nat
  c : Nat
def Sl.v (s : Sl) : Value := .slice s.A s.n s.c
structure SV where
  f0 : Int
  f1 : ByteArray
  f2 : ByteArray
  f3 : ByteArray
  f4 : Int
  f5 : Bool
  f6 : Sl
  f7 : Sl
  f8 : Sl
  f9 : Sl
  f10 : Sl
section
variable {w0 w : World} {F : Nat → Prop} {tp : Nat} {ans : List Int} {txt : List ByteArray} {held : Int} {R : List Chunk}
set_option maxHeartbeats 2000000
theorem register_calls (h : TL w0 F tp ans txt held R w) (hn : txt.length < 999999) (x : SV) (hs : x.f2.size ≤ 1000) :
    Calls Try.prog 39 #[tpV tp, .agg #[.int .i64 x.f0, .string x.f1, .string x.f2, .string x.f3, .int .i64 x.f4, .bool x.f5, .slice x.f6.A x.f6.n x.f6.c, .slice x.f7.A x.f7.n x.f7.c, .slice x.f8.A x.f8.n x.f8.c, .slice x.f9.A x.f9.n x.f9.c, .slice x.f10.A x.f10.n x.f10.c]] w fun E w' => E = .returned (.int .i64 (errN (ans.headD 0))) ∧ TL w0 F tp ans.tail (txt ++ [(⟨#[114, 101, 103, 105, 115, 116, 101, 114, 32]⟩ : ByteArray) ++ x.f2]) held R w' := by
  have hu28 := Try.underlying28
  obtain ⟨n9, hn9⟩ : ∃ n, w.heap.size = n := ⟨_, rfl⟩
  have h9 := h.alloc #[.int .i64 x.f0, .string x.f1, .string x.f2, .string x.f3, .int .i64 x.f4, .bool x.f5, .slice x.f6.A x.f6.n x.f6.c, .slice x.f7.A x.f7.n x.f7.c, .slice x.f8.A x.f8.n x.f8.c, .slice x.f9.A x.f9.n x.f9.c, .slice x.f10.A x.f10.n x.f10.c] 28 hn9
  obtain ⟨W9, hW9⟩ : ∃ W, w.alloc (.cells #[.int .i64 x.f0, .string x.f1, .string x.f2, .string x.f3, .int .i64 x.f4, .bool x.f5, .slice x.f6.A x.f6.n x.f6.c, .slice x.f7.A x.f7.n x.f7.c, .slice x.f8.A x.f8.n x.f8.c, .slice x.f9.A x.f9.n x.f9.c, .slice x.f10.A x.f10.n x.f10.c] 28) = W := ⟨_, rfl⟩
  rw [hW9] at h9
  have hb := h9.rest.get R.length (c := blkC n9 (.cells #[.int .i64 x.f0, .string x.f1, .string x.f2, .string x.f3, .int .i64 x.f4, .bool x.f5, .slice x.f6.A x.f6.n x.f6.c, .slice x.f7.A x.f7.n x.f7.c, .slice x.f8.A x.f8.n x.f8.c, .slice x.f9.A x.f9.n x.f9.c, .slice x.f10.A x.f10.n x.f10.c] 28 (0, 0))) (by simp)
  have p2 : W9.cell? ⟨n9, 2, none⟩ = some (.string x.f2) := (blk_cell hb 2).trans rfl
  have HS := Aside0.mk (show TL w0 F tp ans txt held R W9 from (h9.perm (R' := [blkC n9 _] ++ R) List.perm_append_comm).drop)
  obtain ⟨y, hy⟩ : ∃ y, ans.headD 0 = y := ⟨_, rfl⟩
  have HX := Aside0.mk hy
  have hsz : ¬ ((⟨#[114, 101, 103, 105, 115, 116, 101, 114, 32]⟩ : ByteArray).size + x.f2.size > 9223372036854775807) := by rw [show (⟨#[114, 101, 103, 105, 115, 116, 101, 114, 32]⟩ : ByteArray).size = 9 by rfl]; omega
  rw [hy]
  clear h h9 hb hy
  unfold tpV
  go_enter Try.func39, Try.ntmps39
  go_wp2_with (first
    | (go_at_call 58; refine (note_calls HS.out _ hn).mono ?_; rintro E w1 ⟨rfl, h⟩; have HS1 := Aside0.mk h; clear h HS p2)
    | (go_at_call 59; refine (next_calls _ _ _ _ _ _ _ _ HS1.out).mono ?_; rintro E w2 ⟨rfl, h⟩; rw [HX.out]; have HS2 := Aside0.mk h; clear h HS1)
    | (go_at_call 60; refine (errno_calls _ _).mono ?_; rintro E w3 ⟨rfl, hb⟩; have HS3 := Aside0.mk (HS2.out.below hb); clear hb HS2))
  go_ret
  exact ⟨rfl, HS3.out⟩
end
noncomputable def wantS (x : S97) : ByteArray := (⟨#[32]⟩ : ByteArray) ++ showB x.f0.f0 ++ x.f0.f1 ++ x.f0.f2 ++ (⟨#[58]⟩ : ByteArray) ++ showB x.f1
noncomputable def tryS (l : List S97) : ByteArray := l.foldl (fun s x => s ++ wantS x) (⟨#[116, 114, 121]⟩ : ByteArray)
theorem tryS_snoc (l : List S97) (x : S97) : tryS (l ++ [x]) = tryS l ++ wantS x := by
  unfold tryS
  rw [List.foldl_append]
  rfl
def WfW (x : S97) : Prop := (Lit.int .i64 x.f0.f0).wf = true ∧ x.f0.f1.size ≤ 1000 ∧ x.f0.f2.size ≤ 1000 ∧ (Lit.int .i64 x.f1).wf = true
theorem wantS_size {x : S97} (h : WfW x) : (wantS x).size ≤ 3000 := by
  obtain ⟨_, h1, h2, _⟩ := h
  have h3 := showB_size x.f0.f0
  have h4 := showB_size x.f1
  unfold wantS
  simp only [ByteArray.size_append]
  have e1 : (⟨#[32]⟩ : ByteArray).size = 1 := rfl
  have e2 : (⟨#[58]⟩ : ByteArray).size = 1 := rfl
  omega
theorem tryS_size_ : ∀ (l : List S97) (s : ByteArray), (∀ x ∈ l, WfW x) → (l.foldl (fun s x => s ++ wantS x) s).size ≤ s.size + 3000 * l.length
  | [], s, _ => by simp
  | x :: l, s, h => by
    have h1 := tryS_size_ l (s ++ wantS x) fun y hy => h y (by simp [hy])
    have h2 := wantS_size (h x (by simp))
    rw [ByteArray.size_append] at h1
    simp only [List.foldl_cons, List.length_cons]
    omega
theorem tryS_size (l : List S97) (h : ∀ x ∈ l, WfW x) : (tryS l).size ≤ 3 + 3000 * l.length := tryS_size_ l _ h
end Go.Proofs.Kb
end
section
namespace Go.Proofs.Kb
open Go Go.RowKit Go.Proofs.Ytnojcnmnkkgkgaa.Q Go.Proofs.YtnojcnmnkkgkgaaW.PrintWords Go.Proofs.YtnojcnmnkkgkgaaW.PrintLast Go.Proofs.YtnojcnmnkkgkgaaW.PrintMore
set_option linter.unusedVariables false
set_option linter.unusedSimpArgs false
set_option maxRecDepth 100000
theorem RowX.wnt {w : World} {g n c : Nat} {l : List S97} (h : RowX wntE w (.slice (some ⟨g, 0, none⟩) n c) l) {i : Nat} {x : S97} (hx : l[i]? = some x) :
    w.cell? ⟨g, i * 4, none⟩ = some (.int .i64 x.f0.f0) ∧ w.cell? ⟨g, i * 4 + 1, none⟩ = some (.string x.f0.f1) ∧ w.cell? ⟨g, i * 4 + 2, none⟩ = some (.string x.f0.f2) ∧ w.cell? ⟨g, i * 4 + 3, none⟩ = some (.int .i64 x.f1) :=
  ⟨h.cell hx 0 (by decide) _ rfl, h.cell hx 1 (by decide) _ rfl, h.cell hx 2 (by decide) _ rfl, h.cell hx 3 (by decide) _ rfl⟩
section
variable {w0 w : World} {F : Nat → Prop} {tp : Nat} {ans : List Int} {txt : List ByteArray} {held : Int} {R : List Chunk}
def Try36 (w0 : World) (F : Nat → Prop) (tp : Nat) (ans : List Int) (txt : List ByteArray) (held : Int) (R : List Chunk) (E : Ending) (W : World) : Prop :=
  E = .returned (.bool (bits .and .i64 (ans.headD 0) 1 == 1)) ∧ TL w0 F tp ans.tail txt (if (bits .and .i64 (ans.headD 0) 1 == 1) = true then held + 1 else held) R W
set_option maxHeartbeats 8000000 in
theorem try_calls (A : Option Addr) (c : Nat) (ws : List S97) (h : TL w0 F tp ans txt held (rowXC wntE (.slice A ws.length c) ws :: R) w) (hn : txt.length < 999999) (hh : -1000000 ≤ held ∧ held ≤ 1000000) (hw : ∀ x ∈ ws, WfW x) (hl : ws.length ≤ 10) :
    Calls Try.prog 36 #[tpV tp, .slice A ws.length c] w (Try36 w0 F tp ans (txt ++ [tryS ws]) held (rowXC wntE (.slice A ws.length c) ws :: R)) := by
  obtain ⟨Q, hQ⟩ : ∃ Q, Try36 w0 F tp ans (txt ++ [tryS ws]) held (rowXC wntE (.slice A ws.length c) ws :: R) = Q := ⟨_, rfl⟩
  have HQ := Aside0.mk hQ
  rw [hQ]
  have hu72 := Try.underlying72
  have hu97 := Try.underlying97
  have hu95 := Try.underlying95
  have hu36 := Try.underlying36
  have hz97 := Try.sizeOf97
  obtain ⟨n, hnn⟩ : ∃ n, ws.length = n := ⟨_, rfl⟩
  rw [hnn] at hl
  have HN := Aside0.mk hnn
  have HW := Aside0.mk hw
  have HS := Aside0.mk (show TL w0 F tp ans txt held (rowXC wntE (.slice A n c) ws :: R) w by rw [← hnn]; exact h)
  rw [hnn]
  clear h hQ hnn hw
  unfold tpV
  go_enter Try.func36, Try.ntmps36
  go_wp2
  go_loopg [5, 6] n (fun gq v5 v6 wx => ∃ i : Nat, v6 = .int .i64 i ∧ v5 = .string (tryS (ws.take i)) ∧ i + gq = n ∧ Aside0 (TL w0 F tp ans txt held (rowXC wntE (.slice A n c) ws :: R) wx))
  case atStart => exact ⟨0, rfl, rfl, by omega, HS⟩
  case round =>
    clear HS
    obtain ⟨i, rfl, rfl, hi, HS⟩ := hrel
    cases gk with
    | zero =>
      obtain rfl : i = n := by omega
      have ht : ws.take i = ws := List.take_of_length_le (by rw [HN.out]; exact Nat.le_refl _)
      rw [ht]
      have hin : ¬ (i : Int) < (i : Int) := by omega
      obtain ⟨x, hx⟩ : ∃ x, ans.headD 0 = x := ⟨_, rfl⟩
      have HX := Aside0.mk hx
      obtain ⟨s, hs⟩ : ∃ s, tryS ws = s := ⟨_, rfl⟩
      have HSS := Aside0.mk hs
      rw [hs]
      clear ht hx hs
      cases hb : (bits .and .i64 x 1 == 1) with
      | true =>
        go_wp2_with (first
          | (go_at_call 58; refine (note_calls HS.out s hn).mono ?_; rintro E w1 ⟨rfl, h⟩; have HS1 := Aside0.mk h; clear h HS)
          | (go_at_call 59; refine (next_calls _ _ _ _ _ _ _ _ HS1.out).mono ?_; rintro E w2 ⟨rfl, av, kv, h⟩; rw [HX.out]; have hb := h.blk 1 rfl; have c2 : w2.cell? ⟨tp, 2, none⟩ = some (.int .i64 held) := ((blk_cell hb 2).trans rfl); have pl := lt_of_some hb; have fz := (fun j => frozen_of_row w2 tp j _ _ hb); have HS2 := Aside0.mk (h.putBlk 1 rfl 2 (.int .i64 (held + 1)) rfl); clear h HS1 hb))
        rw [← HQ.out]
        refine ⟨by rw [HX.out, hb]; rfl, ?_⟩
        rw [HX.out, if_pos hb]
        exact ⟨_, _, (by rw [HN.out, HSS.out]; exact HS2.out)⟩
      | false =>
        go_wp2_with (first
          | (go_at_call 58; refine (note_calls HS.out s hn).mono ?_; rintro E w1 ⟨rfl, h⟩; have HS1 := Aside0.mk h; clear h HS)
          | (go_at_call 59; refine (next_calls _ _ _ _ _ _ _ _ HS1.out).mono ?_; rintro E w2 ⟨rfl, h⟩; rw [HX.out]; have HS2 := Aside0.mk h; clear h HS1))
        rw [← HQ.out]
        refine ⟨by rw [HX.out, hb]; rfl, ?_⟩
        rw [HX.out, if_neg (by rw [hb]; decide), HN.out, HSS.out]
        exact HS2.out
    | succ gq =>
      have hin : (i : Int) < (n : Int) := by omega
      have hi0 : (0 : Int) ≤ (i : Int) := by omega
      have hi9 : (i : Int) ≤ 1000000 := by omega
      obtain ⟨x, hx⟩ : ∃ x, ws[i]? = some x := ⟨_, List.getElem?_eq_getElem (by rw [HN.out]; omega)⟩
      have hrow := HS.out.rest.rowX 0 rfl
      obtain ⟨g, c', hv, _⟩ := row_slice (n := ws.length) (by rw [← HN.out] at hrow; exact hrow) (by rw [HN.out]; omega)
      obtain ⟨rfl, rfl⟩ : A = some ⟨g, 0, none⟩ ∧ c = c' := by
        injection hv with e1 e2 e3
        exact ⟨e1, e3⟩
      have hwx := HW.out x (List.mem_of_getElem? hx)
      have HX := Aside0.mk hx
      obtain ⟨s, hs⟩ : ∃ s, tryS (ws.take i) = s := ⟨_, rfl⟩
      have hss : s.size ≤ 100000 := by
        have h := tryS_size (ws.take i) fun y hy => HW.out y (List.mem_of_mem_take hy)
        rw [hs, List.length_take] at h
        omega
      have HT := Aside0.mk (show tryS (ws.take (i + 1)) = s ++ wantS x by rw [List.take_add_one, hx, ← hs]; exact tryS_snoc _ _)
      rw [hs]
      obtain ⟨⟨k0, t0, u0⟩, m0⟩ := x
      obtain ⟨z1, hz1⟩ : ∃ z, showB k0 = z := ⟨_, rfl⟩
      obtain ⟨z2, hz2⟩ : ∃ z, showB m0 = z := ⟨_, rfl⟩
      have hq1 := showB_size k0
      have hq2 := showB_size m0
      rw [hz1] at hq1
      rw [hz2] at hq2
      obtain ⟨hf1, hf2, hf3, hf4⟩ := hwx
      have HZ1 := Aside0.mk hz1
      have HZ2 := Aside0.mk hz2
      have HC1 := Aside0.mk (fun W => hz1 ▸ show_calls k0 W hf1)
      have HC2 := Aside0.mk (fun W => hz2 ▸ show_calls m0 W hf4)
      dsimp only at hf2 hf3
      have e1 : (⟨#[32]⟩ : ByteArray).size = 1 := rfl
      have e2 : (⟨#[58]⟩ : ByteArray).size = 1 := rfl
      have a1 : ¬ (9223372036854775807 < 1 + z1.size) := by omega
      have a2 : ¬ (9223372036854775807 < 1 + z1.size + t0.size) := by omega
      have a3 : ¬ (9223372036854775807 < 1 + z1.size + t0.size + u0.size) := by omega
      have a4 : ¬ (9223372036854775807 < 1 + z1.size + t0.size + u0.size + 1) := by omega
      have a5 : ¬ (9223372036854775807 < 1 + z1.size + t0.size + u0.size + 1 + z2.size) := by omega
      have a6 : ¬ (9223372036854775807 < s.size + (1 + z1.size + t0.size + u0.size + 1 + z2.size)) := by omega
      clear hx hrow hv hs hz1 hz2 hf1 hf4 e1 e2
      go_wp2
      refine start_ (n := 33) (S := fun w' => w'.cell? ⟨g, i * 4, none⟩ = some (.int .i64 k0) ∧ w'.cell? ⟨g, i * 4 + 1, none⟩ = some (.string t0) ∧ w'.cell? ⟨g, i * 4 + 2, none⟩ = some (.string u0) ∧ w'.cell? ⟨g, i * 4 + 3, none⟩ = some (.int .i64 m0)) (ds := []) #[false, false, false, false, false, false, false, false, false, false, false, false, false, false, false, false, false, false, false, false, false, false, false, false, false, false, false, false, false, false, false, false, false] (by kernel_rfl) rfl rfl ⟨((HS.out.rest.rowX 0 rfl).wnt HX.out).1, ((HS.out.rest.rowX 0 rfl).wnt HX.out).2.1, ((HS.out.rest.rowX 0 rfl).wnt HX.out).2.2.1, ((HS.out.rest.rowX 0 rfl).wnt HX.out).2.2.2⟩ (fun hHeld => ?_)
      have HS11 := Aside0.mk (HS.out.drew)
      clear HS
      generalize wr.drew = w11 at HS11 hHeld  ⊢
      refine pure_ (i := 0) (N := (some 13)) (v := ?_) (a' := ?_) #[true, false, false, false, false, false, false, false, false, false, false, false, false, false, false, false, false, false, false, false, false, false, false, false, false, false, false, false, false, false, false, false, false] rfl rfl (by kernel_rfl) (fun _ _ _ h => h) (Or.inl ⟨by rfl, ?_⟩) ?_ ?_
      rotate_left
      · intro w'
        go_simp
        with_reducible rfl
      rotate_left
      · simp only [Act.put, List.setIfInBounds_toArray, List.set_cons_zero, List.set_cons_succ, i64_w, i32_w]
        rfl
      refine pure_ (i := 1) (N := (some 14)) (v := ?_) (a' := ?_) #[true, true, false, false, false, false, false, false, false, false, false, false, false, false, false, false, false, false, false, false, false, false, false, false, false, false, false, false, false, false, false, false, false] rfl rfl (by kernel_rfl) (fun _ _ _ h => h) (Or.inl ⟨by rfl, ?_⟩) ?_ ?_
      rotate_left
      · intro w'
        go_simp
        with_reducible rfl
      rotate_left
      · simp only [Act.put, List.setIfInBounds_toArray, List.set_cons_zero, List.set_cons_succ, i64_w, i32_w]
        rfl
      refine pure_ (i := 2) (N := (some 15)) (v := ?_) (a' := ?_) #[true, true, true, false, false, false, false, false, false, false, false, false, false, false, false, false, false, false, false, false, false, false, false, false, false, false, false, false, false, false, false, false, false] rfl rfl (by kernel_rfl) (fun _ _ _ h => h) (Or.inl ⟨by rfl, ?_⟩) ?_ ?_
      rotate_left
      · intro w'
        go_simp
        with_reducible rfl
      rotate_left
      · simp only [Act.put, List.setIfInBounds_toArray, List.set_cons_zero, List.set_cons_succ, i64_w, i32_w]
        rfl
      refine pure_ (i := 3) (N := (some 16)) (v := ?_) (a' := ?_) #[true, true, true, true, false, false, false, false, false, false, false, false, false, false, false, false, false, false, false, false, false, false, false, false, false, false, false, false, false, false, false, false, false] rfl rfl (by kernel_rfl) (fun _ _ _ h => h) (Or.inl ⟨by rfl, ?_⟩) ?_ ?_
      rotate_left
      · intro w'
        go_simp
        with_reducible rfl
      rotate_left
      · simp only [Act.put, List.setIfInBounds_toArray, List.set_cons_zero, List.set_cons_succ, i64_w, i32_w]
        rfl
      refine pure_ (i := 4) (N := (some 17)) (v := ?_) (a' := ?_) #[true, true, true, true, true, false, false, false, false, false, false, false, false, false, false, false, false, false, false, false, false, false, false, false, false, false, false, false, false, false, false, false, false] rfl rfl (by kernel_rfl) (fun _ _ _ h => h) (Or.inl ⟨by rfl, ?_⟩) ?_ ?_
      rotate_left
      · intro w'
        go_simp
        with_reducible rfl
      rotate_left
      · simp only [Act.put, List.setIfInBounds_toArray, List.set_cons_zero, List.set_cons_succ, i64_w, i32_w]
        rfl
      refine pure_ (i := 5) (N := (some 18)) (v := ?_) (a' := ?_) #[true, true, true, true, true, true, false, false, false, false, false, false, false, false, false, false, false, false, false, false, false, false, false, false, false, false, false, false, false, false, false, false, false] rfl rfl (by kernel_rfl) (fun _ _ _ h => h) (Or.inl ⟨by rfl, ?_⟩) ?_ ?_
      rotate_left
      · intro w'
        go_simp
        with_reducible rfl
      rotate_left
      · simp only [Act.put, List.setIfInBounds_toArray, List.set_cons_zero, List.set_cons_succ, i64_w, i32_w]
        rfl
      refine pure_ (i := 9) (N := (some 22)) (v := ?_) (a' := ?_) #[true, true, true, true, true, true, false, false, false, true, false, false, false, false, false, false, false, false, false, false, false, false, false, false, false, false, false, false, false, false, false, false, false] rfl rfl (by kernel_rfl) (fun _ _ _ h => h) (Or.inl ⟨by rfl, ?_⟩) ?_ ?_
      rotate_left
      · intro w'
        go_simp
        with_reducible rfl
      rotate_left
      · simp only [Act.put, List.setIfInBounds_toArray, List.set_cons_zero, List.set_cons_succ, i64_w, i32_w]
        rfl
      refine pure_ (i := 10) (N := (some 23)) (v := ?_) (a' := ?_) #[true, true, true, true, true, true, false, false, false, true, true, false, false, false, false, false, false, false, false, false, false, false, false, false, false, false, false, false, false, false, false, false, false] rfl rfl (by kernel_rfl) (fun _ _ _ h => h) (Or.inl ⟨by rfl, ?_⟩) ?_ ?_
      rotate_left
      · intro w'
        go_simp
        with_reducible rfl
      rotate_left
      · simp only [Act.put, List.setIfInBounds_toArray, List.set_cons_zero, List.set_cons_succ, i64_w, i32_w]
        rfl
      refine pure_ (i := 11) (N := (some 24)) (v := ?_) (a' := ?_) #[true, true, true, true, true, true, false, false, false, true, true, true, false, false, false, false, false, false, false, false, false, false, false, false, false, false, false, false, false, false, false, false, false] rfl rfl (by kernel_rfl) (fun _ _ _ h => h) (Or.inl ⟨by rfl, ?_⟩) ?_ ?_
      rotate_left
      · intro w'
        go_simp
        with_reducible rfl
      rotate_left
      · simp only [Act.put, List.setIfInBounds_toArray, List.set_cons_zero, List.set_cons_succ, i64_w, i32_w]
        rfl
      refine pure_ (i := 12) (N := (some 25)) (v := ?_) (a' := ?_) #[true, true, true, true, true, true, false, false, false, true, true, true, true, false, false, false, false, false, false, false, false, false, false, false, false, false, false, false, false, false, false, false, false] rfl rfl (by kernel_rfl) (fun _ _ _ h => h) (Or.inl ⟨by rfl, ?_⟩) ?_ ?_
      rotate_left
      · intro w'
        go_simp
        with_reducible rfl
      rotate_left
      · simp only [Act.put, List.setIfInBounds_toArray, List.set_cons_zero, List.set_cons_succ, i64_w, i32_w]
        rfl
      refine pure_ (i := 13) (N := (some 26)) (v := ?_) (a' := ?_) #[true, true, true, true, true, true, false, false, false, true, true, true, true, true, false, false, false, false, false, false, false, false, false, false, false, false, false, false, false, false, false, false, false] rfl rfl (by kernel_rfl) (fun _ _ _ h => h) (Or.inl ⟨by rfl, ?_⟩) ?_ ?_
      rotate_left
      · intro w'
        go_simp
        with_reducible rfl
      rotate_left
      · simp only [Act.put, List.setIfInBounds_toArray, List.set_cons_zero, List.set_cons_succ, i64_w, i32_w]
        rfl
      refine pure_ (i := 16) (N := (some 29)) (v := ?_) (a' := ?_) #[true, true, true, true, true, true, false, false, false, true, true, true, true, true, false, false, true, false, false, false, false, false, false, false, false, false, false, false, false, false, false, false, false] rfl rfl (by kernel_rfl) (fun _ _ _ h => h) (Or.inl ⟨by rfl, ?_⟩) ?_ ?_
      rotate_left
      · intro w'
        go_simp
        with_reducible rfl
      rotate_left
      · simp only [Act.put, List.setIfInBounds_toArray, List.set_cons_zero, List.set_cons_succ, i64_w, i32_w]
        rfl
      refine pure_ (i := 17) (N := (some 30)) (v := ?_) (a' := ?_) #[true, true, true, true, true, true, false, false, false, true, true, true, true, true, false, false, true, true, false, false, false, false, false, false, false, false, false, false, false, false, false, false, false] rfl rfl (by kernel_rfl) (fun _ _ _ h => h) (Or.inl ⟨by rfl, ?_⟩) ?_ ?_
      rotate_left
      · intro w'
        go_simp
        with_reducible rfl
      rotate_left
      · simp only [Act.put, List.setIfInBounds_toArray, List.set_cons_zero, List.set_cons_succ, i64_w, i32_w]
        rfl
      refine pure_ (i := 18) (N := (some 31)) (v := ?_) (a' := ?_) #[true, true, true, true, true, true, false, false, false, true, true, true, true, true, false, false, true, true, true, false, false, false, false, false, false, false, false, false, false, false, false, false, false] rfl rfl (by kernel_rfl) (fun _ _ _ h => h) (Or.inl ⟨by rfl, ?_⟩) ?_ ?_
      rotate_left
      · intro w'
        go_simp
        with_reducible rfl
      rotate_left
      · simp only [Act.put, List.setIfInBounds_toArray, List.set_cons_zero, List.set_cons_succ, i64_w, i32_w]
        rfl
      refine pure_ (i := 19) (N := (some 32)) (v := ?_) (a' := ?_) #[true, true, true, true, true, true, false, false, false, true, true, true, true, true, false, false, true, true, true, true, false, false, false, false, false, false, false, false, false, false, false, false, false] rfl rfl (by kernel_rfl) (fun _ _ _ h => h) (Or.inl ⟨by rfl, ?_⟩) ?_ ?_
      rotate_left
      · intro w'
        go_simp
        with_reducible rfl
      rotate_left
      · simp only [Act.put, List.setIfInBounds_toArray, List.set_cons_zero, List.set_cons_succ, i64_w, i32_w]
        rfl
      refine pure_ (i := 20) (N := (some 33)) (v := ?_) (a' := ?_) #[true, true, true, true, true, true, false, false, false, true, true, true, true, true, false, false, true, true, true, true, true, false, false, false, false, false, false, false, false, false, false, false, false] rfl rfl (by kernel_rfl) (fun _ _ _ h => h) (Or.inl ⟨by rfl, ?_⟩) ?_ ?_
      rotate_left
      · intro w'
        go_simp
        with_reducible rfl
      rotate_left
      · simp only [Act.put, List.setIfInBounds_toArray, List.set_cons_zero, List.set_cons_succ, i64_w, i32_w]
        rfl
      refine pure_ (i := 24) (N := (some 37)) (v := ?_) (a' := ?_) #[true, true, true, true, true, true, false, false, false, true, true, true, true, true, false, false, true, true, true, true, true, false, false, false, true, false, false, false, false, false, false, false, false] rfl rfl (by kernel_rfl) (fun _ _ _ h => h) (Or.inl ⟨by rfl, ?_⟩) ?_ ?_
      rotate_left
      · intro w'
        go_simp
        with_reducible rfl
      rotate_left
      · simp only [Act.put, List.setIfInBounds_toArray, List.set_cons_zero, List.set_cons_succ, i64_w, i32_w]
        rfl
      refine pure_ (i := 25) (N := (some 38)) (v := ?_) (a' := ?_) #[true, true, true, true, true, true, false, false, false, true, true, true, true, true, false, false, true, true, true, true, true, false, false, false, true, true, false, false, false, false, false, false, false] rfl rfl (by kernel_rfl) (fun _ _ _ h => h) (Or.inl ⟨by rfl, ?_⟩) ?_ ?_
      rotate_left
      · intro w'
        go_simp
        with_reducible rfl
      rotate_left
      · simp only [Act.put, List.setIfInBounds_toArray, List.set_cons_zero, List.set_cons_succ, i64_w, i32_w]
        rfl
      refine pure_ (i := 26) (N := (some 39)) (v := ?_) (a' := ?_) #[true, true, true, true, true, true, false, false, false, true, true, true, true, true, false, false, true, true, true, true, true, false, false, false, true, true, true, false, false, false, false, false, false] rfl rfl (by kernel_rfl) (fun _ _ _ h => h) (Or.inl ⟨by rfl, ?_⟩) ?_ ?_
      rotate_left
      · intro w'
        go_simp
        with_reducible rfl
      rotate_left
      · simp only [Act.put, List.setIfInBounds_toArray, List.set_cons_zero, List.set_cons_succ, i64_w, i32_w]
        rfl
      refine pure_ (i := 27) (N := (some 40)) (v := ?_) (a' := ?_) #[true, true, true, true, true, true, false, false, false, true, true, true, true, true, false, false, true, true, true, true, true, false, false, false, true, true, true, true, false, false, false, false, false] rfl rfl (by kernel_rfl) (fun _ _ _ h => h) (Or.inl ⟨by rfl, ?_⟩) ?_ ?_
      rotate_left
      · intro w'
        go_simp
        with_reducible rfl
      rotate_left
      · simp only [Act.put, List.setIfInBounds_toArray, List.set_cons_zero, List.set_cons_succ, i64_w, i32_w]
        rfl
      refine take_ (i := 6) (N := (some 19)) (v := ?_) (a' := ?_) #[true, true, true, true, true, true, true, false, false, true, true, true, true, true, false, false, true, true, true, true, true, false, false, false, true, true, true, true, false, false, false, false, false] rfl rfl (by kernel_rfl) (fun _ _ _ h => h) (Or.inl ⟨by rfl, ?_⟩) hHeld ?_ ?_
      rotate_left
      · rintro w' ⟨s0, s1, s2, s3⟩
        go_simp
        with_reducible rfl
      rotate_left
      · simp only [Act.put, List.setIfInBounds_toArray, List.set_cons_zero, List.set_cons_succ, i64_w, i32_w]
        rfl
      refine take_ (i := 14) (N := (some 27)) (v := ?_) (a' := ?_) #[true, true, true, true, true, true, true, false, false, true, true, true, true, true, true, false, true, true, true, true, true, false, false, false, true, true, true, true, false, false, false, false, false] rfl rfl (by kernel_rfl) (fun _ _ _ h => h) (Or.inl ⟨by rfl, ?_⟩) hHeld ?_ ?_
      rotate_left
      · rintro w' ⟨s0, s1, s2, s3⟩
        go_simp
        with_reducible rfl
      rotate_left
      · simp only [Act.put, List.setIfInBounds_toArray, List.set_cons_zero, List.set_cons_succ, i64_w, i32_w]
        rfl
      refine take_ (i := 21) (N := (some 34)) (v := ?_) (a' := ?_) #[true, true, true, true, true, true, true, false, false, true, true, true, true, true, true, false, true, true, true, true, true, true, false, false, true, true, true, true, false, false, false, false, false] rfl rfl (by kernel_rfl) (fun _ _ _ h => h) (Or.inl ⟨by rfl, ?_⟩) hHeld ?_ ?_
      rotate_left
      · rintro w' ⟨s0, s1, s2, s3⟩
        go_simp
        with_reducible rfl
      rotate_left
      · simp only [Act.put, List.setIfInBounds_toArray, List.set_cons_zero, List.set_cons_succ, i64_w, i32_w]
        rfl
      refine take_ (i := 28) (N := (some 41)) (v := ?_) (a' := ?_) #[true, true, true, true, true, true, true, false, false, true, true, true, true, true, true, false, true, true, true, true, true, true, false, false, true, true, true, true, true, false, false, false, false] rfl rfl (by kernel_rfl) (fun _ _ _ h => h) (Or.inl ⟨by rfl, ?_⟩) hHeld ?_ ?_
      rotate_left
      · rintro w' ⟨s0, s1, s2, s3⟩
        go_simp
        with_reducible rfl
      rotate_left
      · simp only [Act.put, List.setIfInBounds_toArray, List.set_cons_zero, List.set_cons_succ, i64_w, i32_w]
        rfl
      refine one_ (i := 7) (N := (some 20)) #[true, true, true, true, true, true, true, true, false, true, true, true, true, true, true, false, true, true, true, true, true, true, false, false, true, true, true, true, true, false, false, false, false] rfl rfl (by kernel_rfl) (by decide) (fun K_ hK => ?_)
      refine goes_ Try.func57 (by kernel_rfl) rfl #[.int .i64 k0] (by rfl) rfl rfl (by (try simp only [List.map_toArray, List.map_cons, List.map_nil]); first | done | rfl) ?_
      refine (HC1.out _).mono ?_
      rintro E w12 ⟨rfl, hb⟩
      have HS12 := Aside0.mk (HS11.out.below hb)
      clear HS11
      clear hb
      refine ⟨_, rfl, ?_⟩
      clear hHeld
      refine hK.out _ _ ⟨((HS12.out.rest.rowX 0 rfl).wnt HX.out).1, ((HS12.out.rest.rowX 0 rfl).wnt HX.out).2.1, ((HS12.out.rest.rowX 0 rfl).wnt HX.out).2.2.1, ((HS12.out.rest.rowX 0 rfl).wnt HX.out).2.2.2⟩ (fun hHeld => ?_)
      clear hK K_
      refine norm_ (a' := ?_) ?_ ?_
      rotate_left
      · show Act.put _ (some 20) _ = _
        simp only [Act.put, List.setIfInBounds_toArray, List.set_cons_zero, List.set_cons_succ, i64_w, i32_w]
        rfl
      refine pure_ (i := 8) (N := (some 21)) (v := ?_) (a' := ?_) #[true, true, true, true, true, true, true, true, true, true, true, true, true, true, true, false, true, true, true, true, true, true, false, false, true, true, true, true, true, false, false, false, false] rfl rfl (by kernel_rfl) (fun _ _ _ h => h) (Or.inl ⟨by rfl, ?_⟩) ?_ ?_
      rotate_left
      · intro w'
        go_simp
        with_reducible rfl
      rotate_left
      · simp only [Act.put, List.setIfInBounds_toArray, List.set_cons_zero, List.set_cons_succ, i64_w, i32_w]
        rfl
      refine pure_ (i := 15) (N := (some 28)) (v := ?_) (a' := ?_) #[true, true, true, true, true, true, true, true, true, true, true, true, true, true, true, true, true, true, true, true, true, true, false, false, true, true, true, true, true, false, false, false, false] rfl rfl (by kernel_rfl) (fun _ _ _ h => h) (Or.inl ⟨by rfl, ?_⟩) ?_ ?_
      rotate_left
      · intro w'
        go_simp
        with_reducible rfl
      rotate_left
      · simp only [Act.put, List.setIfInBounds_toArray, List.set_cons_zero, List.set_cons_succ, i64_w, i32_w]
        rfl
      refine pure_ (i := 22) (N := (some 35)) (v := ?_) (a' := ?_) #[true, true, true, true, true, true, true, true, true, true, true, true, true, true, true, true, true, true, true, true, true, true, true, false, true, true, true, true, true, false, false, false, false] rfl rfl (by kernel_rfl) (fun _ _ _ h => h) (Or.inl ⟨by rfl, ?_⟩) ?_ ?_
      rotate_left
      · intro w'
        go_simp
        with_reducible rfl
      rotate_left
      · simp only [Act.put, List.setIfInBounds_toArray, List.set_cons_zero, List.set_cons_succ, i64_w, i32_w]
        rfl
      refine pure_ (i := 23) (N := (some 36)) (v := ?_) (a' := ?_) #[true, true, true, true, true, true, true, true, true, true, true, true, true, true, true, true, true, true, true, true, true, true, true, true, true, true, true, true, true, false, false, false, false] rfl rfl (by kernel_rfl) (fun _ _ _ h => h) (Or.inl ⟨by rfl, ?_⟩) ?_ ?_
      rotate_left
      · intro w'
        go_simp
        with_reducible rfl
      rotate_left
      · simp only [Act.put, List.setIfInBounds_toArray, List.set_cons_zero, List.set_cons_succ, i64_w, i32_w]
        rfl
      refine one_ (i := 29) (N := (some 42)) #[true, true, true, true, true, true, true, true, true, true, true, true, true, true, true, true, true, true, true, true, true, true, true, true, true, true, true, true, true, true, false, false, false] rfl rfl (by kernel_rfl) (by decide) (fun K_ hK => ?_)
      refine goes_ Try.func57 (by kernel_rfl) rfl #[.int .i64 m0] (by rfl) rfl rfl (by (try simp only [List.map_toArray, List.map_cons, List.map_nil]); first | done | rfl) ?_
      refine (HC2.out _).mono ?_
      rintro E w13 ⟨rfl, hb⟩
      have HS13 := Aside0.mk (HS12.out.below hb)
      clear HS12
      clear hb
      refine ⟨_, rfl, ?_⟩
      clear hHeld
      refine hK.out _ _ ⟨((HS13.out.rest.rowX 0 rfl).wnt HX.out).1, ((HS13.out.rest.rowX 0 rfl).wnt HX.out).2.1, ((HS13.out.rest.rowX 0 rfl).wnt HX.out).2.2.1, ((HS13.out.rest.rowX 0 rfl).wnt HX.out).2.2.2⟩ (fun hHeld => ?_)
      clear hK K_
      refine norm_ (a' := ?_) ?_ ?_
      rotate_left
      · show Act.put _ (some 42) _ = _
        simp only [Act.put, List.setIfInBounds_toArray, List.set_cons_zero, List.set_cons_succ, i64_w, i32_w]
        rfl
      refine pure_ (i := 30) (N := (some 43)) (v := ?_) (a' := ?_) #[true, true, true, true, true, true, true, true, true, true, true, true, true, true, true, true, true, true, true, true, true, true, true, true, true, true, true, true, true, true, true, false, false] rfl rfl (by kernel_rfl) (fun _ _ _ h => h) (Or.inl ⟨by rfl, ?_⟩) ?_ ?_
      rotate_left
      · intro w'
        go_simp
        with_reducible rfl
      rotate_left
      · simp only [Act.put, List.setIfInBounds_toArray, List.set_cons_zero, List.set_cons_succ, i64_w, i32_w]
        rfl
      refine pure_ (i := 31) (N := (some 44)) (v := ?_) (a' := ?_) #[true, true, true, true, true, true, true, true, true, true, true, true, true, true, true, true, true, true, true, true, true, true, true, true, true, true, true, true, true, true, true, true, false] rfl rfl (by kernel_rfl) (fun _ _ _ h => h) (Or.inl ⟨by rfl, ?_⟩) ?_ ?_
      rotate_left
      · intro w'
        go_simp
        with_reducible rfl
      rotate_left
      · simp only [Act.put, List.setIfInBounds_toArray, List.set_cons_zero, List.set_cons_succ, i64_w, i32_w]
        rfl
      refine pure_ (i := 32) (N := (some 5)) (v := ?_) (a' := ?_) #[true, true, true, true, true, true, true, true, true, true, true, true, true, true, true, true, true, true, true, true, true, true, true, true, true, true, true, true, true, true, true, true, true] rfl rfl (by kernel_rfl) (fun _ _ _ h => h) (Or.inl ⟨by rfl, ?_⟩) ?_ ?_
      rotate_left
      · intro w'
        go_simp
        with_reducible rfl
      rotate_left
      · simp only [Act.put, List.setIfInBounds_toArray, List.set_cons_zero, List.set_cons_succ, i64_w, i32_w]
        rfl
      refine done_ (by kernel_rfl) ?_
      clear hHeld
      go_wp2
      go_roundg gq
      case measure => omega
      case rel => exact ⟨i + 1, by go_num, by rw [HT.out]; unfold wantS; rw [HZ1.out, HZ2.out], by omega, HS13⟩
end
end Go.Proofs.Kb
end
section
namespace Go.Proofs.Ytnojcnmnkkgkgaa.Q
open Go.RowKit Go.Proofs.YtnojcnmnkkgkgaaW.PrintWords Go.Proofs.YtnojcnmnkkgkgaaW.PrintLast Go.Proofs.YtnojcnmnkkgkgaaW.PrintMore
attribute [local go_sem] max2_int min2_int max_two min_two max_three min_three max_four min_four
set_option linter.unusedVariables false
set_option linter.unusedSimpArgs false
def interlockref00_CopyRow.f (l0 : List (S60)) : Option ((List (S60))) := (some (([] : List (S60)) : List (S60))).bind fun y124 => (if y124.length + l0.length < 4398046511104 then (some (y124 ++ l0)) else (none))
set_option maxHeartbeats 8000000 in
set_option maxRecDepth 100000 in
theorem interlockref00_CopyRow.calls (A0 : Option Addr) (c0 : Nat) (l0 : List (S60)) (r : List (S60)) (w : World) (hr0 : Kd.C k60 w A0 l0.length l0) (hc0 : l0.length ≤ c0) (h : interlockref00_CopyRow.f l0 = some r) :
    Calls Try.prog 15 #[.slice A0 l0.length c0] w fun e w' => ∃ v0_ : Value, e = .returned (v0_) ∧ Kd.R k60 60 w' w.heap.size (fun _ => True) v0_ r ∧ Below w.heap.size w w' := by
  have HR0 := Aside0.mk hr0
  have HC0 := Aside0.mk hc0
  clear hr0 hc0
  have HB := Aside0.mk (Below.refl w.heap.size w)
  have H : ((some (([] : List (S60)) : List (S60))).bind fun y124 => (if y124.length + l0.length < 4398046511104 then (some (y124 ++ l0)) else (none))) = some r := h
  clear h
  obtain ⟨y124, hy124⟩ : ∃ y_ : List (S60), y_ = (([] : List (S60))) := ⟨_, rfl⟩
  replace H : (if y124.length + l0.length < 4398046511104 then (some (y124 ++ l0)) else (none)) = some r := by first | (rw [hy124]; with_reducible exact H) | (have H2_ := (Option.bind_some _ _).symm.trans H; rw [hy124]; with_reducible exact H2_) | (have H2_ := (Option.bind_some _ _).symm.trans H; with_reducible exact H2_) | with_reducible exact H | (rw [hy124]; exact H) | exact H
  have Ny124 := Aside0.mk hy124
  clear hy124
  by_cases c2 : y124.length + l0.length < 4398046511104
  · rw [if_pos c2] at H
    have LMc2 := Aside0.mk c2
    clear c2
    obtain ⟨y127, hy127⟩ : ∃ y_ : List (S60), y_ = (y124 ++ l0) := ⟨_, rfl⟩
    replace H : (some y127) = some r := by first | (rw [hy127]; with_reducible exact H) | (have H2_ := (Option.bind_some _ _).symm.trans H; rw [hy127]; with_reducible exact H2_) | (have H2_ := (Option.bind_some _ _).symm.trans H; with_reducible exact H2_) | with_reducible exact H | (rw [hy127]; exact H) | exact H
    have Ny127 := Aside0.mk hy127
    clear hy127
    obtain rfl := Option.some.inj H
    go_enter Try.func15, Try.ntmps15
    go_wp2_with (first | ((with_reducible refine gate_dst (N := 4) rfl ?_); refine Kd.R_lit k60 _ 60 ?hg (N := 4) ?hd (xs := ([] : List (S60))) (inner := []) (ok := fun _ => True) (okp := fun _ => True) ?hr ?hp (fun _ hk => hk) trivial (Below.refl _ _) (Nat.le_refl _) (by simp) ?_; (case hd => rfl); (case hg => rfl); (case hr => first | (go_simp; done) | (go_simp; rfl)); (case hp => exact (Reps.none _ _)); intro v125 w3 ho4 hb hg_ hnew_; clear hg_ hnew_; (first | rw [← Ny124.out] at ho4 | (simp only [Int.reduceToNat] at ho4; rw [← Ny124.out] at ho4)); have n0_ := Aside0.mk (Kd.R_lower ho4 (below_size (by repeat (first | (with_reducible first | exact HB.out | apply below_alloc | apply pw_below_drewN | apply below_drew1) | exact HB.out)))); have n1_ := Aside0.mk (below_step (by repeat (first | (with_reducible first | exact HB.out | apply below_alloc | apply pw_below_drewN | apply below_drew1) | exact HB.out)) hb); clear HB; have HO126 := n0_; have HB := n1_; clear n0_ n1_; clear hb ho4) | ((with_reducible refine gate_builtin (b := .append) (xs := #[.tmp 5, .tmp 6]) rfl ?_); at_builtin; refine Kd.R_append_rows k60 (w0 := w) w.heap.size rfl (.tmp 5) (.tmp 6) 45 60 (.agg #[(.int .i64 0), (.int .i64 0), (.string ⟨#[]⟩)]) 32 rfl Try.underlying45 info60 rfl (by decide) (by omega) v125 y124 l0 _ _ _ (fun _ => True) (fun _ => False) rfl rfl ?aO ?aR (fun _ _ h => h) (fun _ h => h.elim) ?aF ?aB ?aS ?aL ?_; (case aR => repeat (first | exact (Kd.C_below HR0.out HB.out) | (with_reducible refine Kd.C_alloc ?_ _) | (with_reducible refine Kd.C_drewN ?_ _) | (with_reducible refine Kd.C_drew ?_))); (case aB => exact (by repeat (first | (with_reducible first | exact HB.out | apply below_alloc | apply pw_below_drewN | apply below_drew1) | exact HB.out))); (case aF => exact (fun _ _ => trivial)); (case aO => exact (by (with_reducible repeat (first | apply Kd.R_alloc | apply Kd.R_drewN | apply Kd.R_drew)); exact HO126.out)); (case aS => exact (below_size (by repeat (first | (with_reducible first | exact HB.out | apply below_alloc | apply pw_below_drewN | apply below_drew1) | exact HB.out)))); (case aL => have := LMc2.out; omega); intro v128 w5 ho hb hg hat; rw [← Ny127.out] at ho; have n0_ := Aside0.mk (hb); have n1_ := Aside0.mk (ho); clear HB; clear HO126; have HB := n0_; have HO129 := n1_; clear n0_ n1_; clear ho hb hg hat))
    go_ret
    exact ⟨_, by first | rfl | (simp [errW_none, errW_some] <;> rfl) | (simp [*, errW_none, errW_some] <;> rfl), by (with_reducible repeat (first | apply Kd.R_alloc | apply Kd.R_drewN | apply Kd.R_drew)); exact HO129.out, by repeat (first | (with_reducible first | exact HB.out | apply below_alloc | apply pw_below_drewN | apply below_drew1) | exact HB.out)⟩
  · rw [if_neg c2] at H
    exact absurd H (by simp)
end Go.Proofs.Ytnojcnmnkkgkgaa.Q
end
section
namespace Go.Proofs.Kb
open Go Go.RowKit Go.Proofs.Ytnojcnmnkkgkgaa.Q Go.Proofs.YtnojcnmnkkgkgaaW.PrintWords Go.Proofs.YtnojcnmnkkgkgaaW.PrintLast Go.Proofs.YtnojcnmnkkgkgaaW.PrintMore
set_option linter.unusedVariables false
set_option linter.unusedSimpArgs false
set_option maxRecDepth 100000
theorem Src.toC {α : Type} {E : EncT α} {w : World} {A : Option Addr} {c : Nat} {l : List α} (d : Kd α) (hsz : d.sz = E.sz) (hmk : ∀ x, d.K w x (E.enc x)) (h : Src E w (.slice A l.length c) l) (hl : l.length ≤ maxLen) : Kd.C d w A l.length l := by
  obtain ⟨A', c', e, h1, h2⟩ := h
  injection e with e1 e2 e3
  subst e1
  refine ⟨rfl, hl, fun h0 => ?_⟩
  cases A with
  | none => rw [h1 rfl] at h0; exact absurd h0 (by simp)
  | some a =>
    refine ⟨a, rfl, fun j p hp => ⟨E.enc p, (E.len p).trans hsz.symm, hmk p, fun k u hu => ?_⟩⟩
    have hk : k < E.sz := by
      rw [← E.len p]
      exact (List.getElem?_eq_some_iff.1 hu).1
    rw [hsz]
    exact h2 a rfl _ u ((E.all_get hp hk).trans hu)
theorem RowX.capOk {α : Type} {E : EncT α} {w : World} {A : Option Addr} {n c : Nat} {l : List α} (h : RowX E w (.slice A n c) l) : n = l.length ∧ l.length ≤ c ∧ l.length ≤ maxLen := by
  rcases h.2.2 with ⟨e, h0⟩ | ⟨g, cap, cur, e, hg, hn, hm, _⟩
  · injection e with e1 e2 e3
    omega
  · injection e with e1 e2 e3
    omega
noncomputable def batS (s : ByteArray) (l : List S60) : ByteArray := l.foldl (fun s x => s ++ ((⟨#[32]⟩ : ByteArray) ++ showB x.f1)) ((⟨#[98, 97, 116, 99, 104, 32]⟩ : ByteArray) ++ s)
theorem batS_snoc (s : ByteArray) (l : List S60) (x : S60) : batS s (l ++ [x]) = batS s l ++ ((⟨#[32]⟩ : ByteArray) ++ showB x.f1) := by
  unfold batS
  rw [List.foldl_append]
  rfl
theorem batS_size_ : ∀ (l : List S60) (s : ByteArray), (l.foldl (fun s x => s ++ ((⟨#[32]⟩ : ByteArray) ++ showB x.f1)) s).size ≤ s.size + 31 * l.length
  | [], s => by simp
  | x :: l, s => by
    have h1 := batS_size_ l (s ++ ((⟨#[32]⟩ : ByteArray) ++ showB x.f1))
    have h2 := showB_size x.f1
    rw [ByteArray.size_append, ByteArray.size_append, show ((⟨#[32]⟩ : ByteArray)).size = 1 from rfl] at h1
    simp only [List.foldl_cons, List.length_cons]
    omega
theorem batS_size (s : ByteArray) (l : List S60) : (batS s l).size ≤ 6 + s.size + 31 * l.length := by
  have h := batS_size_ l ((⟨#[98, 97, 116, 99, 104, 32]⟩ : ByteArray) ++ s)
  rw [ByteArray.size_append, show ((⟨#[98, 97, 116, 99, 104, 32]⟩ : ByteArray)).size = 6 from rfl] at h
  exact h
theorem RowX.val {w : World} {g n c : Nat} {l : List S60} (h : RowX valE w (.slice (some ⟨g, 0, none⟩) n c) l) {i : Nat} {x : S60} (hx : l[i]? = some x) :
    w.cell? ⟨g, i * 3, none⟩ = some (.int .i64 x.f0) ∧ w.cell? ⟨g, i * 3 + 1, none⟩ = some (.int .i64 x.f1) ∧ w.cell? ⟨g, i * 3 + 2, none⟩ = some (.string x.f2) :=
  ⟨h.cell hx 0 (by decide) _ rfl, h.cell hx 1 (by decide) _ rfl, h.cell hx 2 (by decide) _ rfl⟩
theorem St.as {w0 w : World} {F : Nat → Prop} {cs : List Chunk} {c : Chunk} (s : St w0 F w cs) (i : Nat) (hi : cs[i]? = some c) (c' : Chunk) (hc : c.H w → c'.H w) (hb : c'.bs = c.bs) : St w0 F w (cs.set i c') :=
  s.upd i hi c' (Keep.of_below (Below.refl _ _) _) (hc (s.get i hi)) (hb ▸ s.ndi i hi) (fun b h => .inl (hb ▸ h))
theorem rowX_blk {α : Type} {E : EncT α} {w : World} {b : Nat} {C : Array Value} {l : List α} (h : w.heap[b]? = some (.cells C E.ty (0, 0))) (hC : C.toList = E.all l) (hl : l.length ≤ maxLen) : RowX E w (.slice (some ⟨b, 0, none⟩) l.length l.length) l := by
  have hs : C.size = l.length * E.sz := by rw [← E.all_len, ← hC]; simp
  exact ⟨E.all_len l, E.all_one l, .inr ⟨b, l.length, C, rfl, h, Nat.le_refl _, hl, by rw [hs]; exact Nat.le_refl _, by rw [hC]; exact List.take_of_length_le (by rw [E.all_len]; exact Nat.le_refl _)⟩⟩
theorem TL.as {w0 w : World} {F : Nat → Prop} {tp : Nat} {ans : List Int} {txt : List ByteArray} {held : Int} {R : List Chunk} {c : Chunk} (h : TL w0 F tp ans txt held R w) (i : Nat) (hi : R[i]? = some c) (c' : Chunk) (hc : c.H w → c'.H w) (hb : c'.bs = c.bs) : TL w0 F tp ans txt held (R.set i c') w := by
  obtain ⟨av, kv, h⟩ := h
  exact ⟨av, kv, h.as (i + 3) hi c' hc hb⟩
theorem TL.asLast {w0 w : World} {F : Nat → Prop} {tp : Nat} {ans : List Int} {txt : List ByteArray} {held : Int} {R : List Chunk} {c : Chunk} (h : TL w0 F tp ans txt held (R ++ [c]) w) (c' : Chunk) (hc : c.H w → c'.H w) (hb : c'.bs = c.bs) : TL w0 F tp ans txt held (R ++ [c']) w :=
  (TL.as (R := c :: R) (h.perm List.perm_append_comm) 0 rfl c' hc hb).perm (List.perm_append_comm (l₁ := [c']) (l₂ := R))
def nextRow (x : Int) : List S60 := [⟨1, x, ⟨#[]⟩⟩]
section
variable {w0 w : World} {F : Nat → Prop} {tp : Nat} {ans : List Int} {txt : List ByteArray} {held : Int} {R : List Chunk}
def Bat43 (w0 : World) (F : Nat → Prop) (tp : Nat) (ans : List Int) (txt : List ByteArray) (held : Int) (R : List Chunk) (x : Int) (E : Ending) (W : World) : Prop :=
  ∃ A n c, E = .returned (.tuple #[.slice A n c, .bool (!(bits .and .i64 x 1 == 0))]) ∧ TL w0 F tp ans.tail txt held (if (bits .and .i64 x 1 == 0) = true then R else R ++ [rowXC valE (.slice A n c) (nextRow x)]) W
set_option maxHeartbeats 8000000 in
theorem batch_calls (A : Option Addr) (c : Nat) (af : List S60) (h : TL w0 F tp ans txt held (rowXC valE (.slice A af.length c) af :: R) w) (hn : txt.length < 999999) (hw : ∀ x ∈ af, (Lit.int .i64 x.f1).wf = true) (hl : af.length ≤ 1000) (ix : ByteArray) (hix : ix.size ≤ 1000) :
    Calls Try.prog 43 #[tpV tp, .string ix, .slice A af.length c] w (Bat43 w0 F tp ans (txt ++ [batS ix af]) held (rowXC valE (.slice A af.length c) af :: R) (ans.headD 0)) := by
  obtain ⟨x, hx⟩ : ∃ x, ans.headD 0 = x := ⟨_, rfl⟩
  rw [hx]
  obtain ⟨Q, hQ⟩ : ∃ Q, Bat43 w0 F tp ans (txt ++ [batS ix af]) held (rowXC valE (.slice A af.length c) af :: R) x = Q := ⟨_, rfl⟩
  have HQ := Aside0.mk hQ
  rw [hQ]
  have hu45 := Try.underlying45
  have hu60 := Try.underlying60
  have hz60 := Try.sizeOf60
  have hr := h.rest.rowX 0 rfl
  obtain ⟨_, hcap, hmax⟩ := hr.capOk
  have hcc : ∀ (W : World) (ans : List Int) (txt : List ByteArray), TL w0 F tp ans txt held (rowXC valE (.slice A af.length c) af :: R) W → Kd.C k60 W A af.length af := fun W ans txt h =>
    Src.toC (E := valE) k60 rfl (fun x => k60_mk W x) (RowX.src (h.rest.rowX 0 rfl)) hmax
  have HCC := Aside0.mk (fun W ans txt h => (interlockref00_CopyRow.calls A c af af W (hcc W ans txt h) hcap (by
    unfold interlockref00_CopyRow.f
    simp only [Option.bind_some, List.length_nil, List.nil_append]
    rw [if_pos (by omega)])).mono (R' := fun e w' => ∃ A2 c2, e = .returned (.slice A2 af.length c2) ∧ Below W.heap.size W w') fun e w' ⟨v, he, hr, hb⟩ => by
      obtain ⟨A2, c2, e2⟩ := Kd.R_slice hr
      exact ⟨A2, c2, by rw [he, e2], hb⟩)
  obtain ⟨n, hnn⟩ : ∃ n, af.length = n := ⟨_, rfl⟩
  rw [hnn] at hl HCC
  have HN := Aside0.mk hnn
  have HW := Aside0.mk hw
  have HX := Aside0.mk hx
  have HS := Aside0.mk (show TL w0 F tp ans txt held (rowXC valE (.slice A n c) af :: R) w by rw [← hnn]; exact h)
  rw [hnn] at hcc ⊢
  have hs0 : ¬ (9223372036854775807 < 6 + ix.size) := by omega
  clear h hQ hnn hw hx hr hcap hmax hcc
  unfold tpV
  go_enter Try.func43, Try.ntmps43
  go_wp2_with (go_at_call 59; refine (next_calls _ _ _ _ _ _ _ _ HS.out).mono ?_; rintro E w2 ⟨rfl, h⟩; rw [HX.out]; have HS2 := Aside0.mk h; clear h HS)
  go_loopg [9, 10] n (fun gq v5 v6 wx => ∃ i : Nat, v6 = .int .i64 i ∧ v5 = .string (batS ix (af.take i)) ∧ i + gq = n ∧ Aside0 (TL w0 F tp ans.tail txt held (rowXC valE (.slice A n c) af :: R) wx))
  case atStart => exact ⟨0, rfl, rfl, by omega, HS2⟩
  case round =>
    clear HS2
    obtain ⟨i, rfl, rfl, hi, HS⟩ := hrel
    cases gk with
    | zero =>
      obtain rfl : i = n := by omega
      have ht : af.take i = af := List.take_of_length_le (by rw [HN.out]; exact Nat.le_refl _)
      rw [ht]
      have hin : ¬ (i : Int) < (i : Int) := by omega
      obtain ⟨s, hs⟩ : ∃ s, batS ix af = s := ⟨_, rfl⟩
      have HSS := Aside0.mk hs
      rw [hs]
      clear ht hs
      cases hb : (bits .and .i64 x 1 == 0) with
      | true =>
        go_wp2_with (first
          | (go_at_call 58; refine (note_calls HS.out s hn).mono ?_; rintro E w1 ⟨rfl, h⟩; have HS1 := Aside0.mk h; clear h HS)
          | (go_at_call 15; refine (HCC.out _ _ _ HS1.out).mono ?_; rintro E w2 ⟨A2, c2, rfl, h⟩; have HS2 := Aside0.mk (HS1.out.below h); clear h HS1))
        rw [← HQ.out]
        refine ⟨A2, i, c2, by rw [hb]; rfl, ?_⟩
        rw [if_pos hb, HN.out, HSS.out]
        exact HS2.out
      | false =>
        go_wp2_with (go_at_call 58; refine (note_calls HS.out s hn).mono ?_; rintro E w1 ⟨rfl, h⟩; obtain ⟨n9, hn9⟩ : ∃ n, w1.heap.size = n := ⟨_, rfl⟩; have HS1 := Aside0.mk (h.alloc #[.int .i64 1, .int .i64 x, .string ⟨#[]⟩] 60 hn9); clear h HS)
        rw [← HQ.out]
        refine ⟨_, _, _, by rw [hb]; rfl, ?_⟩
        rw [if_neg (by rw [hb]; decide), HN.out, HSS.out]
        exact HS1.out.asLast (rowXC valE (.slice (some ⟨n9, 0, none⟩) 1 1) (nextRow x)) (fun hh => rowX_blk (E := valE) (l := nextRow x) hh rfl (by simp [nextRow, maxLen])) rfl
    | succ gq =>
      have hin : (i : Int) < (n : Int) := by omega
      have hi0 : (0 : Int) ≤ (i : Int) := by omega
      have hi9 : (i : Int) ≤ 1000000 := by omega
      obtain ⟨y, hy⟩ : ∃ x, af[i]? = some x := ⟨_, List.getElem?_eq_getElem (by rw [HN.out]; omega)⟩
      have hrow := HS.out.rest.rowX 0 rfl
      obtain ⟨g, c', hv, _⟩ := row_slice (n := af.length) (by rw [← HN.out] at hrow; exact hrow) (by rw [HN.out]; omega)
      obtain ⟨rfl, rfl⟩ : A = some ⟨g, 0, none⟩ ∧ c = c' := by
        injection hv with e1 e2 e3
        exact ⟨e1, e3⟩
      have hwx := HW.out y (List.mem_of_getElem? hy)
      obtain ⟨d0, d1, d2⟩ := hrow.val hy
      obtain ⟨s, hs⟩ : ∃ s, batS ix (af.take i) = s := ⟨_, rfl⟩
      have hss : s.size ≤ 100000 := by
        have h := batS_size ix (af.take i)
        rw [hs, List.length_take] at h
        omega
      have HT := Aside0.mk (show batS ix (af.take (i + 1)) = s ++ ((⟨#[32]⟩ : ByteArray) ++ showB y.f1) by rw [List.take_add_one, hy, ← hs]; exact batS_snoc _ _ _)
      rw [hs]
      obtain ⟨y0, k0, u0⟩ := y
      obtain ⟨z1, hz1⟩ : ∃ z, showB k0 = z := ⟨_, rfl⟩
      have hq1 := showB_size k0
      rw [hz1] at hq1
      have HZ1 := Aside0.mk hz1
      have HC1 := Aside0.mk (fun W => hz1 ▸ show_calls k0 W hwx)
      have a1 : ¬ (9223372036854775807 < 1 + z1.size) := by omega
      have a2 : ¬ (9223372036854775807 < s.size + (1 + z1.size)) := by omega
      have hg := World.block_lt_of_cell? _ _ d0
      clear hy hrow hv hs hz1 hwx
      go_wp2_with (go_at_call 57; refine (HC1.out _).mono ?_; rintro E w4 ⟨rfl, hb⟩; have HS4 := Aside0.mk (HS.out.below hb); clear hb HS d0 d1 d2 hg)
      go_roundg gq
      case measure => omega
      case rel => exact ⟨i + 1, by go_num, by rw [HT.out, HZ1.out], by omega, HS4⟩
end
end Go.Proofs.Kb
end
section
namespace Go.Proofs.Kb
open Go Go.RowKit Go.Proofs.Ytnojcnmnkkgkgaa.Q Go.Proofs.YtnojcnmnkkgkgaaW.PrintWords Go.Proofs.YtnojcnmnkkgkgaaW.PrintLast Go.Proofs.YtnojcnmnkkgkgaaW.PrintMore
set_option linter.unusedVariables false
set_option linter.unusedSimpArgs false
set_option maxRecDepth 100000
set_option maxHeartbeats 4000000 in
theorem add_calls (w0 w : World) (F : Nat → Prop) (lb : Nat) (A : Option Addr) (c : Nat) (l : List S97) (k m : Int) (t u : ByteArray) (h : St w0 F w [blkC lb (.cells #[.slice A l.length c] 91 (0, 0)), rowXC wntE (.slice A l.length c) l]) (hl : l.length < 1000) :
    Calls Try.prog 61 #[.pointer (some ⟨lb, 0, none⟩), .agg #[.int .i64 k, .string t, .string u], .int .i64 m] w fun E w' => E = .returned (.tuple #[]) ∧ ∃ A' c', St w0 F w' [blkC lb (.cells #[.slice A' (l.length + 1) c'] 91 (0, 0)), rowXC wntE (.slice A' (l.length + 1) c') (l ++ [⟨⟨k, t, u⟩, m⟩])] := by
  obtain ⟨Q, hQ⟩ : ∃ Q, (fun E w' => E = Ending.returned (.tuple #[]) ∧ ∃ A' c', St w0 F w' [blkC lb (.cells #[.slice A' (l.length + 1) c'] 91 (0, 0)), rowXC wntE (.slice A' (l.length + 1) c') (l ++ [⟨⟨k, t, u⟩, m⟩])]) = Q := ⟨_, rfl⟩
  have HQ := Aside0.mk hQ
  rw [hQ]
  have hu91 := Try.underlying91
  have hu95 := Try.underlying95
  have hu97 := Try.underlying97
  have HN := Aside0.mk (show l.length < 999999 by omega)
  obtain ⟨n, hnn⟩ : ∃ n, l.length = n := ⟨_, rfl⟩
  rw [hnn] at h
  have HNN := Aside0.mk hnn
  obtain ⟨n8, hn8⟩ : ∃ n, w.heap.size = n := ⟨_, rfl⟩
  have h8 := h.alloc #[.int .i64 k, .string t, .string u] 95 hn8
  obtain ⟨W8, hW8⟩ : ∃ W, w.alloc (.cells #[.int .i64 k, .string t, .string u] 95) = W := ⟨_, rfl⟩
  rw [hW8] at h8
  have HS := Aside0.mk h8
  clear h h8 hQ hnn hl
  go_enter Try.func61, Try.ntmps61
  go_wp2
  refine start_ (n := 11) (S := fun w' => w'.cell? ⟨lb, 0, none⟩ = some (.slice A n c) ∧ w'.cell? ⟨n8, 0, none⟩ = some (.int .i64 k) ∧ w'.cell? ⟨n8, 1, none⟩ = some (.string t) ∧ w'.cell? ⟨n8, 2, none⟩ = some (.string u)) (ds := [10]) #[false, false, false, false, false, false, false, false, false, false, false] (by kernel_rfl) rfl rfl ⟨(blk_cell (HS.out.blk 0 rfl) 0).trans rfl, (blk_cell (HS.out.blk 2 rfl) 0).trans rfl, (blk_cell (HS.out.blk 2 rfl) 1).trans rfl, (blk_cell (HS.out.blk 2 rfl) 2).trans rfl⟩ (fun hHeld => ?_)
  have HS11 := Aside0.mk (HS.out.drew)
  clear HS
  generalize W8.drew = w3 at HS11 hHeld  ⊢
  refine pure_ (i := 0) (N := (some 6)) (v := ?_) (a' := ?_) #[true, false, false, false, false, false, false, false, false, false, false] rfl rfl (by kernel_rfl) (fun _ _ _ h => h) (Or.inl ⟨by rfl, ?_⟩) ?_ ?_
  rotate_left
  · intro w'
    go_simp
    with_reducible rfl
  rotate_left
  · simp only [Act.put, List.setIfInBounds_toArray, List.set_cons_zero, List.set_cons_succ, i64_w, i32_w]
    rfl
  refine pure_ (i := 1) (N := (some 7)) (v := ?_) (a' := ?_) #[true, true, false, false, false, false, false, false, false, false, false] rfl rfl (by kernel_rfl) (fun _ _ _ h => h) (Or.inl ⟨by rfl, ?_⟩) ?_ ?_
  rotate_left
  · intro w'
    go_simp
    with_reducible rfl
  rotate_left
  · simp only [Act.put, List.setIfInBounds_toArray, List.set_cons_zero, List.set_cons_succ, i64_w, i32_w]
    rfl
  refine pure_ (i := 2) (N := (some 8)) (v := ?_) (a' := ?_) #[true, true, true, false, false, false, false, false, false, false, false] rfl rfl (by kernel_rfl) (fun _ _ _ h => h) (Or.inl ⟨by rfl, ?_⟩) ?_ ?_
  rotate_left
  · intro w'
    go_simp
    with_reducible rfl
  rotate_left
  · simp only [Act.put, List.setIfInBounds_toArray, List.set_cons_zero, List.set_cons_succ, i64_w, i32_w]
    rfl
  refine pure_ (i := 5) (N := (some 11)) (v := ?_) (a' := ?_) #[true, true, true, false, false, true, false, false, false, false, false] rfl rfl (by kernel_rfl) (fun _ _ _ h => h) (Or.inl ⟨by rfl, ?_⟩) ?_ ?_
  rotate_left
  · intro w'
    go_simp
    with_reducible rfl
  rotate_left
  · simp only [Act.put, List.setIfInBounds_toArray, List.set_cons_zero, List.set_cons_succ, i64_w, i32_w]
    rfl
  refine take_ (i := 3) (N := (some 9)) (v := ?_) (a' := ?_) #[true, true, true, true, false, true, false, false, false, false, false] rfl rfl (by kernel_rfl) (fun _ _ _ h => h) (Or.inl ⟨by rfl, ?_⟩) hHeld ?_ ?_
  rotate_left
  · rintro w' ⟨s0, s1, s2, s3⟩
    go_simp
    with_reducible rfl
  rotate_left
  · simp only [Act.put, List.setIfInBounds_toArray, List.set_cons_zero, List.set_cons_succ, i64_w, i32_w]
    rfl
  refine take_ (i := 4) (N := (some 10)) (v := ?_) (a' := ?_) #[true, true, true, true, true, true, false, false, false, false, false] rfl rfl (by kernel_rfl) (fun _ _ _ h => h) (Or.inl ⟨by rfl, ?_⟩) hHeld ?_ ?_
  rotate_left
  · rintro w' ⟨s0, s1, s2, s3⟩
    go_simp
    with_reducible rfl
  rotate_left
  · simp only [Act.put, List.setIfInBounds_toArray, List.set_cons_zero, List.set_cons_succ, i64_w, i32_w]
    rfl
  refine pure_ (i := 6) (N := (some 12)) (v := ?_) (a' := ?_) #[true, true, true, true, true, true, true, false, false, false, false] rfl rfl (by kernel_rfl) (fun _ _ _ h => h) (Or.inl ⟨by rfl, ?_⟩) ?_ ?_
  rotate_left
  · intro w'
    go_simp
    with_reducible rfl
  rotate_left
  · simp only [Act.put, List.setIfInBounds_toArray, List.set_cons_zero, List.set_cons_succ, i64_w, i32_w]
    rfl
  refine one_ (i := 7) (N := (some 13)) #[true, true, true, true, true, true, true, true, false, false, false] rfl rfl (by kernel_rfl) (by decide) (fun K_ hK => ?_)
  obtain ⟨vb, hvb⟩ : ∃ v : Nat, w3.heap.size = v := ⟨_, rfl⟩
  refine made_ (v := .slice (some ⟨w3.heap.size, 0, none⟩) 1 1) (w1 := w3.alloc (.cells #[.int .i64 k, .string t, .string u, .int .i64 m] 97)) (by rfl) rfl (by go_simp) ?_
  have HS12 := Aside0.mk (HS11.out.alloc #[.int .i64 k, .string t, .string u, .int .i64 m] 97 hvb)
  clear HS11
  rw [hvb]
  clear hvb
  clear hHeld
  refine hK.out _ _ ⟨(blk_cell (HS12.out.blk 0 rfl) 0).trans rfl, (blk_cell (HS12.out.blk 2 rfl) 0).trans rfl, (blk_cell (HS12.out.blk 2 rfl) 1).trans rfl, (blk_cell (HS12.out.blk 2 rfl) 2).trans rfl⟩ (fun hHeld => ?_)
  clear hK K_
  generalize w3.alloc (.cells #[.int .i64 k, .string t, .string u, .int .i64 m] 97) = w4 at HS12 hHeld  ⊢
  refine norm_ (a' := ?_) ?_ ?_
  rotate_left
  · show Act.put _ (some 13) _ = _
    simp only [Act.put, List.setIfInBounds_toArray, List.set_cons_zero, List.set_cons_succ, i64_w, i32_w]
    rfl
  refine one_ (i := 8) (N := (some 14)) #[true, true, true, true, true, true, true, true, true, false, false] rfl rfl (by kernel_rfl) (by decide) (fun K_ hK => ?_)
  obtain ⟨g_, c_, w5, hrun, hrow, hgrow, hown⟩ := appendX wntI (l := l) (v := .slice A n c) ⟨⟨k, t, u⟩, m⟩ vb _ _ (HS12.out.rowX 1 rfl) (HS12.out.blk 3 rfl) rfl HN.out
  refine appended_ (.tmp 9) (.tmp 13) 91 91 (by rfl) rfl rfl (.slice A n c) (.slice (some ⟨vb, 0, none⟩) 1 1) (by rfl) (by rfl) hrun ?_
  clear hrun
  have HS13 := Aside0.mk (HS12.out.rowTo 1 rfl hrow hgrow hown)
  clear HS12
  clear hrow hgrow hown
  clear hHeld
  refine hK.out _ _ ⟨(blk_cell (HS13.out.blk 0 rfl) 0).trans rfl, (blk_cell (HS13.out.blk 2 rfl) 0).trans rfl, (blk_cell (HS13.out.blk 2 rfl) 1).trans rfl, (blk_cell (HS13.out.blk 2 rfl) 2).trans rfl⟩ (fun hHeld => ?_)
  clear hK K_
  refine norm_ (a' := ?_) ?_ ?_
  rotate_left
  · show Act.put _ (some 14) _ = _
    simp only [Act.put, List.setIfInBounds_toArray, List.set_cons_zero, List.set_cons_succ, i64_w, i32_w]
    rfl
  refine pure_ (i := 9) (N := (some 15)) (v := ?_) (a' := ?_) #[true, true, true, true, true, true, true, true, true, true, false] rfl rfl (by kernel_rfl) (fun _ _ _ h => h) (Or.inl ⟨by rfl, ?_⟩) ?_ ?_
  rotate_left
  · intro w'
    go_simp
    with_reducible rfl
  rotate_left
  · simp only [Act.put, List.setIfInBounds_toArray, List.set_cons_zero, List.set_cons_succ, i64_w, i32_w]
    rfl
  refine last_ (i := 10) (N := none) #[true, true, true, true, true, true, true, true, true, true, true] rfl rfl (by kernel_rfl) (by decide) (fun K_ hK => ?_)
  have c_0 := (blk_cell (HS13.out.blk 0 rfl) 0).trans rfl
  have c_1 := frozen_of_row _ lb 0 _ _ (HS13.out.blk 0 rfl)
  refine skip_ (w1 := ?_) (by rfl) rfl ?_ ?_
  rotate_left
  · go_simp
    rfl
  refine hK.out _ _ ?_
  clear hK K_ hHeld c_0 c_1
  refine done_ (by kernel_rfl) ?_
  have HS14 := Aside0.mk (HS13.out.putBlk 0 rfl 0 (.slice (some ⟨g_, 0, none⟩) (l.length + 1) c_) rfl)
  clear HS13
  generalize w5.setCell ⟨lb, 0, none⟩ (.slice (some ⟨g_, 0, none⟩) (l.length + 1) c_) = w6 at HS14 ⊢
  go_end0
  rw [← HQ.out]
  have h9 : St w0 F _ ([blkC lb _, rowXC wntE _ _] ++ [_, _]) := HS14.out
  exact ⟨rfl, _, _, (h9.left)⟩
end Go.Proofs.Kb
end
section
namespace Go.Proofs.Kb
open Go Go.RowKit Go.Proofs.Ytnojcnmnkkgkgaa.Q Go.Proofs.YtnojcnmnkkgkgaaW.PrintWords Go.Proofs.YtnojcnmnkkgkgaaW.PrintLast Go.Proofs.YtnojcnmnkkgkgaaW.PrintMore
set_option linter.unusedVariables false
set_option linter.unusedSimpArgs false
set_option maxRecDepth 100000
def LS2 (w0 : World) (F : Nat → Prop) (lb : Nat) (l : List S97) (W : World) : Prop := ∃ A c, St w0 F W [blkC lb (.cells #[.slice A l.length c] 91 (0, 0)), rowXC wntE (.slice A l.length c) l]
theorem add2_calls (w0 w : World) (F : Nat → Prop) (lb : Nat) (l : List S97) (k m : Int) (t u : ByteArray) (h : LS2 w0 F lb l w) (hl : l.length < 1000) :
    Calls Try.prog 61 #[.pointer (some ⟨lb, 0, none⟩), .agg #[.int .i64 k, .string t, .string u], .int .i64 m] w fun E w' => E = .returned (.tuple #[]) ∧ LS2 w0 F lb (l ++ [⟨⟨k, t, u⟩, m⟩]) w' := by
  obtain ⟨A, c, h⟩ := h
  refine (add_calls w0 w F lb A c l k m t u h hl).mono fun E w' ⟨e, A', c', h'⟩ => ⟨e, A', c', ?_⟩
  rw [List.length_append]
  exact h'
def baseW (d g : Int) : List S97 := [⟨⟨1, ⟨#[]⟩, ⟨#[]⟩⟩, d⟩, ⟨⟨2, ⟨#[]⟩, ⟨#[]⟩⟩, g⟩]
set_option maxHeartbeats 4000000
theorem base_calls (w0 w : World) (F : Nat → Prop) (d g : Int) (h : St w0 F w []) :
    Calls Try.prog 52 #[.int .i64 d, .int .i64 g] w fun E w' => ∃ lb, E = .returned (.pointer (some ⟨lb, 0, none⟩)) ∧ LS2 w0 F lb (baseW d g) w' := by
  have hu91 := Try.underlying91
  have hu95 := Try.underlying95
  obtain ⟨n0, hn0⟩ : ∃ n, w.heap.size = n := ⟨_, rfl⟩
  have h1 := h.alloc #[] 97 hn0
  obtain ⟨W1, hW1⟩ : ∃ W, w.alloc (.cells #[] 97) = W := ⟨_, rfl⟩
  rw [hW1] at h1
  have hs1 : W1.heap.size = n0 + 1 := by rw [← hW1, ← hn0]; simp
  obtain ⟨lb, hlb⟩ : ∃ n, n0 + 1 = n := ⟨_, rfl⟩
  rw [hlb] at hs1
  have h2 := (h1.alloc #[.slice (some ⟨n0, 0, none⟩) 0 0] 91 hs1)
  have h3 := (h2.as 0 (c := blkC n0 _) rfl (rowXC wntE (.slice (some ⟨n0, 0, none⟩) 0 0) []) (fun hh => rowX_blk (E := wntE) (l := []) hh rfl (by simp [maxLen])) rfl).perm (List.Perm.swap _ _ _)
  obtain ⟨W2, hW2⟩ : ∃ W, W1.alloc (.cells #[.slice (some ⟨n0, 0, none⟩) 0 0] 91) = W := ⟨_, rfl⟩
  rw [hW2] at h3
  have HS := Aside0.mk (show LS2 w0 F lb [] W2 from ⟨_, _, h3⟩)
  clear h h1 h2 h3
  have G1 : True := trivial
  go_enter Try.func52, Try.ntmps52
  go_wp2_with (first
    | (clear G1; go_at_call 61; refine (add2_calls _ _ _ _ _ _ _ _ _ HS.out (by simp)).mono ?_; rintro E w3 ⟨rfl, h⟩; have HS1 := Aside0.mk h; clear h HS)
    | (go_at_call 61; refine (add2_calls _ _ _ _ _ _ _ _ _ HS1.out (by simp [baseW])).mono ?_; rintro E w4 ⟨rfl, h⟩; have HS2 := Aside0.mk h; clear h HS1))
  go_ret
  exact ⟨_, rfl, HS2.out⟩
theorem table_calls (w0 w : World) (F : Nat → Prop) (lb : Nat) (l : List S97) (t : ByteArray) (m : Int) (h : LS2 w0 F lb l w) (hl : l.length < 1000) :
    Calls Try.prog 53 #[.pointer (some ⟨lb, 0, none⟩), .string t, .int .i64 m] w fun E w' => E = .returned (.tuple #[]) ∧ LS2 w0 F lb (l ++ [⟨⟨3, t, ⟨#[]⟩⟩, m⟩]) w' := by
  have HS := Aside0.mk h
  have hu95 := Try.underlying95
  clear h
  go_enter Try.func53, Try.ntmps53
  go_wp2_with (go_at_call 61; refine (add2_calls _ _ _ _ _ _ _ _ _ HS.out hl).mono ?_; rintro E w3 ⟨rfl, h⟩; have HS1 := Aside0.mk h; clear h HS)
  go_end0
  exact ⟨rfl, HS1.out⟩
def planW (t : ByteArray) (m : Int) : List S97 := [⟨⟨1, ⟨#[]⟩, ⟨#[]⟩⟩, 4⟩, ⟨⟨2, ⟨#[]⟩, ⟨#[]⟩⟩, 3⟩, ⟨⟨3, t, ⟨#[]⟩⟩, m⟩]
theorem planReg_calls (w : World) (t : ByteArray) :
    Calls Try.prog 25 #[.string t] w fun E w' => ∃ A c, E = .returned (.slice A 3 c) ∧ RowX wntE w' (.slice A 3 c) (planW t 4) ∧ Below w.heap.size w w' ∧ ∀ b ∈ bl (.slice A 3 c), w.heap.size ≤ b := by
  have hu91 := Try.underlying91
  have HS0 := Aside0.mk (St.nil0 w NoF)
  go_enter Try.func25, Try.ntmps25
  go_wp2_with (first
    | (go_at_call 52; refine (base_calls w _ NoF 4 3 HS0.out).mono ?_; rintro E w1 ⟨lb, rfl, h⟩; have HS1 := Aside0.mk h; clear h HS0)
    | (go_at_call 53; refine (table_calls w _ NoF _ _ t 4 HS1.out (by simp [baseW])).mono ?_; rintro E w2 ⟨rfl, A, c, h⟩; have c0 : w2.cell? ⟨lb, 0, none⟩ = some (.slice A 3 c) := ((blk_cell (h.blk 0 rfl) 0).trans rfl); have pl := lt_of_some (h.blk 0 rfl); have HS2 := Aside0.mk h; clear h HS1))
  go_ret
  have h := HS2.out
  exact ⟨A, c, rfl, h.rowX 1 rfl, keep_below h.keep, fun b hb => (h.own b (by rw [mem_fpc]; exact ⟨_, List.mem_cons_of_mem _ List.mem_cons_self, hb⟩)).resolve_left (fun h => h)⟩
theorem planMark_calls (w : World) (t : ByteArray) :
    Calls Try.prog 29 #[.string t] w fun E w' => ∃ A c, E = .returned (.slice A 3 c) ∧ RowX wntE w' (.slice A 3 c) (planW t 3) ∧ Below w.heap.size w w' ∧ ∀ b ∈ bl (.slice A 3 c), w.heap.size ≤ b := by
  have hu91 := Try.underlying91
  have HS0 := Aside0.mk (St.nil0 w NoF)
  go_enter Try.func29, Try.ntmps29
  go_wp2_with (first
    | (go_at_call 52; refine (base_calls w _ NoF 4 3 HS0.out).mono ?_; rintro E w1 ⟨lb, rfl, h⟩; have HS1 := Aside0.mk h; clear h HS0)
    | (go_at_call 53; refine (table_calls w _ NoF _ _ t 3 HS1.out (by simp [baseW])).mono ?_; rintro E w2 ⟨rfl, A, c, h⟩; have c0 : w2.cell? ⟨lb, 0, none⟩ = some (.slice A 3 c) := ((blk_cell (h.blk 0 rfl) 0).trans rfl); have pl := lt_of_some (h.blk 0 rfl); have HS2 := Aside0.mk h; clear h HS1))
  go_ret
  have h := HS2.out
  exact ⟨A, c, rfl, h.rowX 1 rfl, keep_below h.keep, fun b hb => (h.own b (by rw [mem_fpc]; exact ⟨_, List.mem_cons_of_mem _ List.mem_cons_self, hb⟩)).resolve_left (fun h => h)⟩
end Go.Proofs.Kb
end
section
namespace Go.Proofs.Kb
open Go Go.RowKit Go.Proofs.Ytnojcnmnkkgkgaa.Q Go.Proofs.YtnojcnmnkkgkgaaW.PrintWords Go.Proofs.YtnojcnmnkkgkgaaW.PrintLast Go.Proofs.YtnojcnmnkkgkgaaW.PrintMore
set_option linter.unusedVariables false
set_option linter.unusedSimpArgs false
set_option maxRecDepth 100000
structure JS where
  ph : Int
  af : List S60
  tr : Int
  er : Int
  ans : List Int
  txt : List ByteArray
  held : Int
def JT (w0 : World) (F : Nat → Prop) (jp tp : Nat) (x : SV) (s : JS) (R : List Chunk) (W : World) : Prop :=
  ∃ A c, TL w0 F tp s.ans s.txt s.held (blkC jp (.cells #[.int .i64 x.f0, .string x.f1, .string x.f2, .string x.f3, .int .i64 x.f4, .bool x.f5, .slice x.f6.A x.f6.n x.f6.c, .slice x.f7.A x.f7.n x.f7.c, .slice x.f8.A x.f8.n x.f8.c, .slice x.f9.A x.f9.n x.f9.c, .slice x.f10.A x.f10.n x.f10.c, .int .i64 s.ph, .slice A s.af.length c, .int .i64 s.tr, .int .i64 s.er] 68 (0, 0)) :: rowXC valE (.slice A s.af.length c) s.af :: R) W
theorem TL.putBlk {w0 w : World} {F : Nat → Prop} {tp : Nat} {ans : List Int} {txt : List ByteArray} {held : Int} {R : List Chunk} {b : Nat} {C C' : Array Value} {t : TypeId} (h : TL w0 F tp ans txt held R w) (i : Nat) (hi : R[i]? = some (blkC b (.cells C t (0, 0)))) (j : Nat) (v : Value) (e : C.setIfInBounds j v = C') :
    TL w0 F tp ans txt held (R.set i (blkC b (.cells C' t (0, 0)))) (w.setCell ⟨b, j, none⟩ v) := by
  obtain ⟨av, kv, h⟩ := h
  exact ⟨av, kv, h.putBlk (i + 3) hi j v e⟩
section
variable {w0 w w' : World} {F : Nat → Prop} {jp tp : Nat} {x : SV} {s : JS} {R R' : List Chunk}
theorem JT.below (h : JT w0 F jp tp x s R w) (hb : Below w.heap.size w w') : JT w0 F jp tp x s R w' := by
  obtain ⟨A, c, h⟩ := h
  exact ⟨A, c, h.below hb⟩
theorem JT.drew (h : JT w0 F jp tp x s R w) : JT w0 F jp tp x s R w.drew := by
  obtain ⟨A, c, h⟩ := h
  exact ⟨A, c, h.drew⟩
theorem JT.rest (h : JT w0 F jp tp x s R w) : St w0 F w R := by
  obtain ⟨A, c, h⟩ := h
  exact St.drop (A := [_, _]) h.rest
theorem JT.blk (h : JT w0 F jp tp x s R w) : ∃ A c, w.heap[jp]? = some (.cells #[.int .i64 x.f0, .string x.f1, .string x.f2, .string x.f3, .int .i64 x.f4, .bool x.f5, .slice x.f6.A x.f6.n x.f6.c, .slice x.f7.A x.f7.n x.f7.c, .slice x.f8.A x.f8.n x.f8.c, .slice x.f9.A x.f9.n x.f9.c, .slice x.f10.A x.f10.n x.f10.c, .int .i64 s.ph, .slice A s.af.length c, .int .i64 s.tr, .int .i64 s.er] 68 (0, 0)) := by
  obtain ⟨A, c, h⟩ := h
  exact ⟨A, c, h.rest.blk 0 rfl⟩
theorem JT.sub (h : JT w0 F jp tp x s R w) (f : ∀ cs : List Chunk, St w0 F w (R ++ cs) → St w0 F w' (R' ++ cs)) : JT w0 F jp tp x s R' w' := by
  obtain ⟨A, c, h⟩ := h
  refine ⟨A, c, h.sub fun cs hs => ?_⟩
  have h1 := f ([_, _] ++ cs) (hs.perm (B := R ++ ([_, _] ++ cs)) (by rw [← List.append_assoc]; exact List.Perm.append_right _ (List.perm_append_comm (l₁ := [_, _]) (l₂ := R))))
  exact h1.perm (by rw [← List.append_assoc]; exact List.Perm.append_right _ (List.perm_append_comm (l₁ := R') (l₂ := [_, _])))
def JS.turn (s : JS) (e good bad : Int) : JS := { s with er := e, ph := if e = 0 then good else bad }
set_option maxHeartbeats 4000000
theorem turn_calls (h : JT w0 F jp tp x s R w) (e good bad : Int) :
    Calls Try.prog 54 #[.pointer (some ⟨jp, 0, none⟩), .int .i64 e, .int .i64 good, .int .i64 bad] w fun E w' => E = .returned (.tuple #[]) ∧ JT w0 F jp tp x (s.turn e good bad) R w' := by
  have hu68 := Try.underlying68
  obtain ⟨A, c, h⟩ := h
  have hb := h.rest.blk 0 rfl
  have c11 : w.cell? ⟨jp, 11, none⟩ = some (.int .i64 s.ph) := (blk_cell hb 11).trans rfl
  have c14 : w.cell? ⟨jp, 14, none⟩ = some (.int .i64 s.er) := (blk_cell hb 14).trans rfl
  have pl := lt_of_some hb
  have fz := fun j => frozen_of_row w jp j _ _ hb
  have h1 := (h.putBlk 0 rfl 14 (.int .i64 e) rfl).putBlk 0 rfl 11 (.int .i64 good) rfl
  have HS := Aside0.mk h1
  have HS2 := Aside0.mk (h1.putBlk 0 rfl 11 (.int .i64 bad) rfl)
  clear h h1 hb
  by_cases h0 : e = 0
  · subst h0
    go_enter Try.func54, Try.ntmps54
    go_wp2
    go_end0
    refine ⟨rfl, A, c, ?_⟩
    unfold JS.turn
    rw [if_pos rfl]
    exact HS.out
  · go_enter Try.func54, Try.ntmps54
    go_wp2
    go_end0
    refine ⟨rfl, A, c, ?_⟩
    unfold JS.turn
    rw [if_neg h0]
    exact HS2.out
def JS.failed (s : JS) (p : Int) : JS := if s.tr = 1 then { s with tr := 0, ph := p, er := 34 } else { s with tr := s.tr - 1 }
theorem failed_calls (h : JT w0 F jp tp x s R w) (p : Int) (ht : -9000000000000000000 ≤ s.tr ∧ s.tr ≤ 9223372036854775807) :
    Calls Try.prog 27 #[.pointer (some ⟨jp, 0, none⟩), .int .i64 p] w fun E w' => E = .returned (.tuple #[]) ∧ JT w0 F jp tp x (s.failed p) R w' := by
  have hu68 := Try.underlying68
  obtain ⟨A, c, h⟩ := h
  have hb := h.rest.blk 0 rfl
  have c11 : w.cell? ⟨jp, 11, none⟩ = some (.int .i64 s.ph) := (blk_cell hb 11).trans rfl
  have c13 : w.cell? ⟨jp, 13, none⟩ = some (.int .i64 s.tr) := (blk_cell hb 13).trans rfl
  have c14 : w.cell? ⟨jp, 14, none⟩ = some (.int .i64 s.er) := (blk_cell hb 14).trans rfl
  have pl := lt_of_some hb
  have fz := fun j => frozen_of_row w jp j _ _ hb
  have h1 := h.putBlk 0 rfl 13 (.int .i64 (s.tr - 1)) rfl
  have HS := Aside0.mk h1
  have HS2 := Aside0.mk ((h1.putBlk 0 rfl 11 (.int .i64 p) rfl).putBlk 0 rfl 14 (.int .i64 34) rfl)
  clear h h1 hb
  by_cases h0 : s.tr = 1
  · have h2 : s.tr - 1 = 0 := by omega
    have HS2 := Aside0.mk (h2 ▸ HS2.out)
    go_enter Try.func27, Try.ntmps27
    go_wp2
    go_end0
    refine ⟨rfl, A, c, ?_⟩
    unfold JS.failed
    rw [if_pos h0]
    exact HS2.out
  · have h2 : ¬ (s.tr - 1 = 0) := by omega
    go_enter Try.func27, Try.ntmps27
    go_wp2
    go_end0
    refine ⟨rfl, A, c, ?_⟩
    unfold JS.failed
    rw [if_neg h0]
    exact HS.out
end
end Go.Proofs.Kb
end
section
namespace Go.Proofs.Kb
open Go Go.RowKit Go.Proofs.Ytnojcnmnkkgkgaa.Q Go.Proofs.YtnojcnmnkkgkgaaW.PrintWords Go.Proofs.YtnojcnmnkkgkgaaW.PrintLast Go.Proofs.YtnojcnmnkkgkgaaW.PrintMore
set_option linter.unusedVariables false
set_option linter.unusedSimpArgs false
set_option maxRecDepth 100000
theorem goesM_ {P : Program} {ops : Array Oper} {Q : Exit → Act → World → Prop} {oi : Oper} {N : Option Tmp} {a : Act} {w : World} {K : Act → World → Prop} {f : FuncId} {fn : Func} {as_ : Array Operand} {ts : Array TypeId} (name : String) (t : TypeId) (r : Value) (recv : Operand)
    (hf : P.funcs[f]? = some fn) (hname : (fn.name == "runtime.NumGoroutine") = false) (hb : fn.body.isSome = true) (args args' : Array Value)
    (hw : Region.wanted oi (yielded ops a.tmps) = true) (hN : oi.dst = N) (hop : oi.op = .call { callee := .invoke recv name, args := as_, argTypes := ts }) (hrecv : a.eval recv = .iface t r) (hargs : as_.map a.eval = args) (hargs' : #[r] ++ args = args')
    (hm : (method (P.types.size + Made.depth) t r name).run P w = .ok (f, r) w)
    (h : Calls P f args' w fun e w' => ∃ v, e = .returned v ∧ K (a.put N v) w') : if Region.wanted oi (yielded ops a.tmps) = true then Oper.wp P oi a w K Q else K (a.put N undef) w := by
  refine call_ f args' hw hN ?_ h
  have he := enters_ hf hname hb args' w
  have hr' : (method (P.types.size + Made.depth) t r name).run P w = .ok (f, r) w := hm
  have e1 : (callMethod (.iface t r) name args).run P w = .ok (.enter f args') w := by
    unfold callMethod
    rw [← hargs']
    rw [← hargs'] at he
    simp [hm, he]
  unfold execOp
  simp only [hop, resolve, hargs, hrecv]
  have e2 : (invoke (.fn (.method name) #[]) (#[.iface t r] ++ args)).run P w = .ok (.enter f args') w := by
    unfold invoke
    have e3 : (#[Value.iface t r] ++ args)[0]? = some (.iface t r) := by cases args; simp
    have e4 : (#[Value.iface t r] ++ args).extract 1 (#[Value.iface t r] ++ args).size = args := by cases args; simp [List.extract]
    simp only [e3, e4]
    exact e1
  exact e2
theorem mn_Try (a : Addr) (w : World) : (method 220 34 (.pointer (some a)) "Try").run Try.prog w = .ok (36, .pointer (some a)) w := by kernel_rfl
theorem mn_Free (a : Addr) (w : World) : (method 220 34 (.pointer (some a)) "Free").run Try.prog w = .ok (40, .pointer (some a)) w := by kernel_rfl
theorem m_Register (a : Addr) (w : World) : (method (Try.prog.types.size + Made.depth) 34 (.pointer (some a)) "Register").run Try.prog w = .ok (39, .pointer (some a)) w := by kernel_rfl
theorem na_Register (a : Addr) (w : World) : (nilAhead 220 34 (.pointer (some a)) "Register").run Try.prog w = .ok (some false) w := by kernel_rfl
theorem mn_Elder (a : Addr) (w : World) : (method 220 34 (.pointer (some a)) "Elder").run Try.prog w = .ok (41, .pointer (some a)) w := by kernel_rfl
theorem mn_Token (a : Addr) (w : World) : (method 220 34 (.pointer (some a)) "Token").run Try.prog w = .ok (42, .pointer (some a)) w := by kernel_rfl
theorem m_Batch (a : Addr) (w : World) : (method (Try.prog.types.size + Made.depth) 34 (.pointer (some a)) "Batch").run Try.prog w = .ok (43, .pointer (some a)) w := by kernel_rfl
theorem na_Batch (a : Addr) (w : World) : (nilAhead 220 34 (.pointer (some a)) "Batch").run Try.prog w = .ok (some false) w := by kernel_rfl
theorem m_Settle (a : Addr) (w : World) : (method (Try.prog.types.size + Made.depth) 34 (.pointer (some a)) "Settle").run Try.prog w = .ok (44, .pointer (some a)) w := by kernel_rfl
theorem na_Settle (a : Addr) (w : World) : (nilAhead 220 34 (.pointer (some a)) "Settle").run Try.prog w = .ok (some false) w := by kernel_rfl
theorem m_Abandon (a : Addr) (w : World) : (method (Try.prog.types.size + Made.depth) 34 (.pointer (some a)) "Abandon").run Try.prog w = .ok (45, .pointer (some a)) w := by kernel_rfl
theorem na_Abandon (a : Addr) (w : World) : (nilAhead 220 34 (.pointer (some a)) "Abandon").run Try.prog w = .ok (some false) w := by kernel_rfl
end Go.Proofs.Kb
end
section
namespace Go.Proofs.Kb
open Go Go.RowKit Go.Proofs.Ytnojcnmnkkgkgaa.Q Go.Proofs.YtnojcnmnkkgkgaaW.PrintWords Go.Proofs.YtnojcnmnkkgkgaaW.PrintLast Go.Proofs.YtnojcnmnkkgkgaaW.PrintMore
set_option linter.unusedVariables false
set_option linter.unusedSimpArgs false
set_option maxRecDepth 100000
section
variable {w0 w w' : World} {F : Nat → Prop} {jp tp : Nat} {x : SV} {s : JS} {R R' : List Chunk}
theorem JT.stmt (h : JT w0 F jp tp x s R w) : w.cell? ⟨jp, 0, none⟩ = some (.int .i64 x.f0) ∧ w.cell? ⟨jp, 1, none⟩ = some (.string x.f1) ∧ w.cell? ⟨jp, 2, none⟩ = some (.string x.f2) ∧ w.cell? ⟨jp, 3, none⟩ = some (.string x.f3) ∧ w.cell? ⟨jp, 4, none⟩ = some (.int .i64 x.f4) ∧ w.cell? ⟨jp, 5, none⟩ = some (.bool x.f5) ∧ w.cell? ⟨jp, 6, none⟩ = some (.slice x.f6.A x.f6.n x.f6.c) ∧ w.cell? ⟨jp, 7, none⟩ = some (.slice x.f7.A x.f7.n x.f7.c) ∧ w.cell? ⟨jp, 8, none⟩ = some (.slice x.f8.A x.f8.n x.f8.c) ∧ w.cell? ⟨jp, 9, none⟩ = some (.slice x.f9.A x.f9.n x.f9.c) ∧ w.cell? ⟨jp, 10, none⟩ = some (.slice x.f10.A x.f10.n x.f10.c) := by
  obtain ⟨A, c, hb⟩ := h.blk
  exact ⟨(blk_cell hb 0).trans rfl, (blk_cell hb 1).trans rfl, (blk_cell hb 2).trans rfl, (blk_cell hb 3).trans rfl, (blk_cell hb 4).trans rfl, (blk_cell hb 5).trans rfl, (blk_cell hb 6).trans rfl, (blk_cell hb 7).trans rfl, (blk_cell hb 8).trans rfl, (blk_cell hb 9).trans rfl, (blk_cell hb 10).trans rfl⟩
def JS.said (s : JS) (t : ByteArray) : JS := { s with ans := s.ans.tail, txt := s.txt ++ [t] }
theorem settleJ (h : JT w0 F jp tp x s R w) (hn : s.txt.length < 999999) (hx : x.f2.size ≤ 1000) : Calls Try.prog 44 #[.pointer (some ⟨tp, 0, none⟩), .string x.f2] w fun E w' => E = .returned (.int .i64 (errN (s.ans.headD 0))) ∧ JT w0 F jp tp x (s.said ((⟨#[115, 101, 116, 116, 108, 101, 32]⟩ : ByteArray) ++ x.f2)) R w' := by
  obtain ⟨A, c, h⟩ := h
  exact (settle_calls h hn x.f2 hx).mono fun E w' ⟨e, h'⟩ => ⟨e, A, c, h'⟩
theorem abandonJ (h : JT w0 F jp tp x s R w) (hn : s.txt.length < 999999) (hx : x.f2.size ≤ 1000) : Calls Try.prog 45 #[.pointer (some ⟨tp, 0, none⟩), .string x.f2] w fun E w' => E = .returned (.bool (!(bits .and .i64 (s.ans.headD 0) 3 == 3))) ∧ JT w0 F jp tp x (s.said ((⟨#[97, 98, 97, 110, 100, 111, 110, 32]⟩ : ByteArray) ++ x.f2)) R w' := by
  obtain ⟨A, c, h⟩ := h
  exact (abandon_calls h hn x.f2 hx).mono fun E w' ⟨e, h'⟩ => ⟨e, A, c, h'⟩
theorem registerJ (h : JT w0 F jp tp x s R w) (hn : s.txt.length < 999999) (hx : x.f2.size ≤ 1000) : Calls Try.prog 39 #[.pointer (some ⟨tp, 0, none⟩), .agg #[.int .i64 x.f0, .string x.f1, .string x.f2, .string x.f3, .int .i64 x.f4, .bool x.f5, .slice x.f6.A x.f6.n x.f6.c, .slice x.f7.A x.f7.n x.f7.c, .slice x.f8.A x.f8.n x.f8.c, .slice x.f9.A x.f9.n x.f9.c, .slice x.f10.A x.f10.n x.f10.c]] w fun E w' => E = .returned (.int .i64 (errN (s.ans.headD 0))) ∧ JT w0 F jp tp x (s.said ((⟨#[114, 101, 103, 105, 115, 116, 101, 114, 32]⟩ : ByteArray) ++ x.f2)) R w' := by
  obtain ⟨A, c, h⟩ := h
  exact (register_calls h hn x hx).mono fun E w' ⟨e, h'⟩ => ⟨e, A, c, h'⟩
theorem elderJ (h : JT w0 F jp tp x s R w) (hn : s.txt.length < 999999) : Calls Try.prog 41 #[.pointer (some ⟨tp, 0, none⟩)] w fun E w' => E = .returned (.bool (bits .and .i64 (s.ans.headD 0) 1 == 1)) ∧ JT w0 F jp tp x (s.said (⟨#[101, 108, 100, 101, 114]⟩ : ByteArray)) R w' := by
  obtain ⟨A, c, h⟩ := h
  exact (elder_calls h hn).mono fun E w' ⟨e, h'⟩ => ⟨e, A, c, h'⟩
theorem tokenJ (h : JT w0 F jp tp x s R w) (hn : s.txt.length < 999999) : Calls Try.prog 42 #[.pointer (some ⟨tp, 0, none⟩)] w fun E w' => E = .returned (.bool (bits .and .i64 (s.ans.headD 0) 1 == 1)) ∧ JT w0 F jp tp x (s.said (⟨#[116, 111, 107, 101, 110]⟩ : ByteArray)) R w' := by
  obtain ⟨A, c, h⟩ := h
  exact (token_calls h hn).mono fun E w' ⟨e, h'⟩ => ⟨e, A, c, h'⟩
def JS.register (s : JS) (x : SV) : JS := (s.said ((⟨#[114, 101, 103, 105, 115, 116, 101, 114, 32]⟩ : ByteArray) ++ x.f2)).turn (errN (s.ans.headD 0)) 2 6
def JS.settle (s : JS) (x : SV) : JS := (s.said ((⟨#[115, 101, 116, 116, 108, 101, 32]⟩ : ByteArray) ++ x.f2)).turn (errN (s.ans.headD 0)) 6 5
def JS.abandon (s : JS) (x : SV) : JS := if (bits .and .i64 (s.ans.headD 0) 3 == 3) = true then s.said ((⟨#[97, 98, 97, 110, 100, 111, 110, 32]⟩ : ByteArray) ++ x.f2) else { s.said ((⟨#[97, 98, 97, 110, 100, 111, 110, 32]⟩ : ByteArray) ++ x.f2) with ph := 6 }
set_option maxHeartbeats 8000000
theorem register26_calls (h : JT w0 F jp tp x s R w) (hn : s.txt.length < 999999) (hx : x.f2.size ≤ 1000) :
    Calls Try.prog 26 #[.pointer (some ⟨jp, 0, none⟩), .iface 34 (.pointer (some ⟨tp, 0, none⟩))] w fun E w' => E = .returned (.tuple #[]) ∧ JT w0 F jp tp x (s.register x) R w' := by
  obtain ⟨Q, hQ⟩ : ∃ Q, (fun E w' => E = Ending.returned (.tuple #[]) ∧ JT w0 F jp tp x (s.register x) R w') = Q := ⟨_, rfl⟩
  have HQ := Aside0.mk hQ
  rw [hQ]
  have hu68 := Try.underlying68
  have hu28 := Try.underlying28
  have hna := na_Register
  have HS := Aside0.mk h
  have HA := Aside0.mk hn
  have HX := Aside0.mk hx
  clear h hQ
  go_enter Try.func26, Try.ntmps26
  go_wp2
  refine start_ (n := 11) (S := fun w' => w'.cell? ⟨jp, 0, none⟩ = some (.int .i64 x.f0) ∧ w'.cell? ⟨jp, 1, none⟩ = some (.string x.f1) ∧ w'.cell? ⟨jp, 2, none⟩ = some (.string x.f2) ∧ w'.cell? ⟨jp, 3, none⟩ = some (.string x.f3) ∧ w'.cell? ⟨jp, 4, none⟩ = some (.int .i64 x.f4) ∧ w'.cell? ⟨jp, 5, none⟩ = some (.bool x.f5) ∧ w'.cell? ⟨jp, 6, none⟩ = some (.slice x.f6.A x.f6.n x.f6.c) ∧ w'.cell? ⟨jp, 7, none⟩ = some (.slice x.f7.A x.f7.n x.f7.c) ∧ w'.cell? ⟨jp, 8, none⟩ = some (.slice x.f8.A x.f8.n x.f8.c) ∧ w'.cell? ⟨jp, 9, none⟩ = some (.slice x.f9.A x.f9.n x.f9.c) ∧ w'.cell? ⟨jp, 10, none⟩ = some (.slice x.f10.A x.f10.n x.f10.c)) (ds := []) #[false, false, false, false, false, false, false, false, false, false, false] (by kernel_rfl) rfl rfl ⟨HS.out.stmt.1, HS.out.stmt.2.1, HS.out.stmt.2.2.1, HS.out.stmt.2.2.2.1, HS.out.stmt.2.2.2.2.1, HS.out.stmt.2.2.2.2.2.1, HS.out.stmt.2.2.2.2.2.2.1, HS.out.stmt.2.2.2.2.2.2.2.1, HS.out.stmt.2.2.2.2.2.2.2.2.1, HS.out.stmt.2.2.2.2.2.2.2.2.2.1, HS.out.stmt.2.2.2.2.2.2.2.2.2.2⟩ (fun hHeld => ?_)
  have HS11 := Aside0.mk (HS.out.drew)
  clear HS
  generalize w.drew = w11 at HS11 hHeld  ⊢
  refine pure_ (i := 0) (N := (some 4)) (v := ?_) (a' := ?_) #[true, false, false, false, false, false, false, false, false, false, false] rfl rfl (by kernel_rfl) (fun _ _ _ h => h) (Or.inl ⟨by rfl, ?_⟩) ?_ ?_
  rotate_left
  · intro w'
    go_simp
    with_reducible rfl
  rotate_left
  · simp only [Act.put, List.setIfInBounds_toArray, List.set_cons_zero, List.set_cons_succ, i64_w, i32_w]
    rfl
  refine pure_ (i := 1) (N := (some 5)) (v := ?_) (a' := ?_) #[true, true, false, false, false, false, false, false, false, false, false] rfl rfl (by kernel_rfl) (fun _ _ _ h => h) (Or.inl ⟨by rfl, ?_⟩) ?_ ?_
  rotate_left
  · intro w'
    go_simp
    with_reducible rfl
  rotate_left
  · simp only [Act.put, List.setIfInBounds_toArray, List.set_cons_zero, List.set_cons_succ, i64_w, i32_w]
    rfl
  refine pure_ (i := 2) (N := (some 6)) (v := ?_) (a' := ?_) #[true, true, true, false, false, false, false, false, false, false, false] rfl rfl (by kernel_rfl) (fun _ _ _ h => h) (Or.inl ⟨by rfl, ?_⟩) ?_ ?_
  rotate_left
  · intro w'
    go_simp
    with_reducible rfl
  rotate_left
  · simp only [Act.put, List.setIfInBounds_toArray, List.set_cons_zero, List.set_cons_succ, i64_w, i32_w]
    rfl
  refine pure_ (i := 3) (N := (some 7)) (v := ?_) (a' := ?_) #[true, true, true, true, false, false, false, false, false, false, false] rfl rfl (by kernel_rfl) (fun _ _ _ h => h) (Or.inl ⟨by rfl, ?_⟩) ?_ ?_
  rotate_left
  · intro w'
    go_simp
    with_reducible rfl
  rotate_left
  · simp only [Act.put, List.setIfInBounds_toArray, List.set_cons_zero, List.set_cons_succ, i64_w, i32_w]
    rfl
  refine pure_ (i := 4) (N := (some 8)) (v := ?_) (a' := ?_) #[true, true, true, true, true, false, false, false, false, false, false] rfl rfl (by kernel_rfl) (fun _ _ _ h => h) (Or.inl ⟨by rfl, ?_⟩) ?_ ?_
  rotate_left
  · intro w'
    go_simp
    with_reducible rfl
  rotate_left
  · simp only [Act.put, List.setIfInBounds_toArray, List.set_cons_zero, List.set_cons_succ, i64_w, i32_w]
    rfl
  refine pure_ (i := 6) (N := (some 10)) (v := ?_) (a' := ?_) #[true, true, true, true, true, false, true, false, false, false, false] rfl rfl (by kernel_rfl) (fun _ _ _ h => h) (Or.inl ⟨by rfl, ?_⟩) ?_ ?_
  rotate_left
  · intro w'
    go_simp
    with_reducible rfl
  rotate_left
  · simp only [Act.put, List.setIfInBounds_toArray, List.set_cons_zero, List.set_cons_succ, i64_w, i32_w]
    rfl
  refine pure_ (i := 7) (N := (some 11)) (v := ?_) (a' := ?_) #[true, true, true, true, true, false, true, true, false, false, false] rfl rfl (by kernel_rfl) (fun _ _ _ h => h) (Or.inl ⟨by rfl, ?_⟩) ?_ ?_
  rotate_left
  · intro w'
    go_simp
    with_reducible rfl
  rotate_left
  · simp only [Act.put, List.setIfInBounds_toArray, List.set_cons_zero, List.set_cons_succ, i64_w, i32_w]
    rfl
  refine pure_ (i := 8) (N := (some 12)) (v := ?_) (a' := ?_) #[true, true, true, true, true, false, true, true, true, false, false] rfl rfl (by kernel_rfl) (fun _ _ _ h => h) (Or.inl ⟨by rfl, ?_⟩) ?_ ?_
  rotate_left
  · intro w'
    go_simp
    with_reducible rfl
  rotate_left
  · simp only [Act.put, List.setIfInBounds_toArray, List.set_cons_zero, List.set_cons_succ, i64_w, i32_w]
    rfl
  refine take_ (i := 5) (N := (some 9)) (v := ?_) (a' := ?_) #[true, true, true, true, true, true, true, true, true, false, false] rfl rfl (by kernel_rfl) (fun _ _ _ h => h) (Or.inl ⟨by rfl, ?_⟩) hHeld ?_ ?_
  rotate_left
  · rintro w' ⟨s0, s1, s2, s3, s4, s5, s6, s7, s8, s9, s10⟩
    go_simp
    with_reducible rfl
  rotate_left
  · simp only [Act.put, List.setIfInBounds_toArray, List.set_cons_zero, List.set_cons_succ, i64_w, i32_w]
    rfl
  refine one_ (i := 9) (N := (some 13)) #[true, true, true, true, true, true, true, true, true, true, false] rfl rfl (by kernel_rfl) (by decide) (fun K_ hK => ?_)
  refine goesM_ "Register" 34 (.pointer (some ⟨tp, 0, none⟩)) (.tmp 12) Try.func39 (by kernel_rfl) rfl #[.agg #[.int .i64 x.f0, .string x.f1, .string x.f2, .string x.f3, .int .i64 x.f4, .bool x.f5, .slice x.f6.A x.f6.n x.f6.c, .slice x.f7.A x.f7.n x.f7.c, .slice x.f8.A x.f8.n x.f8.c, .slice x.f9.A x.f9.n x.f9.c, .slice x.f10.A x.f10.n x.f10.c]] #[.pointer (some ⟨tp, 0, none⟩), .agg #[.int .i64 x.f0, .string x.f1, .string x.f2, .string x.f3, .int .i64 x.f4, .bool x.f5, .slice x.f6.A x.f6.n x.f6.c, .slice x.f7.A x.f7.n x.f7.c, .slice x.f8.A x.f8.n x.f8.c, .slice x.f9.A x.f9.n x.f9.c, .slice x.f10.A x.f10.n x.f10.c]] (by rfl) rfl rfl rfl (by (try simp only [List.map_toArray, List.map_cons, List.map_nil]); first | done | rfl) (by rfl) (m_Register _ _) ?_
  refine (registerJ HS11.out HA.out HX.out).mono ?_
  rintro E w12 ⟨rfl, h⟩
  have HS12 := Aside0.mk (h)
  clear HS11
  clear h
  refine ⟨_, rfl, ?_⟩
  clear hHeld
  refine hK.out _ _ ⟨HS12.out.stmt.1, HS12.out.stmt.2.1, HS12.out.stmt.2.2.1, HS12.out.stmt.2.2.2.1, HS12.out.stmt.2.2.2.2.1, HS12.out.stmt.2.2.2.2.2.1, HS12.out.stmt.2.2.2.2.2.2.1, HS12.out.stmt.2.2.2.2.2.2.2.1, HS12.out.stmt.2.2.2.2.2.2.2.2.1, HS12.out.stmt.2.2.2.2.2.2.2.2.2.1, HS12.out.stmt.2.2.2.2.2.2.2.2.2.2⟩ (fun hHeld => ?_)
  clear hK K_
  refine norm_ (a' := ?_) ?_ ?_
  rotate_left
  · show Act.put _ (some 13) _ = _
    simp only [Act.put, List.setIfInBounds_toArray, List.set_cons_zero, List.set_cons_succ, i64_w, i32_w]
    rfl
  refine one_ (i := 10) (N := (some 14)) #[true, true, true, true, true, true, true, true, true, true, true] rfl rfl (by kernel_rfl) (by decide) (fun K_ hK => ?_)
  refine goes_ Try.func54 (by kernel_rfl) rfl #[.pointer (some ⟨jp, 0, none⟩), .int .i64 (errN (s.ans.headD 0)), .int .i64 2, .int .i64 6] (by rfl) rfl rfl (by (try simp only [List.map_toArray, List.map_cons, List.map_nil]); first | done | rfl) ?_
  refine (turn_calls HS12.out _ 2 6).mono ?_
  rintro E w13 ⟨rfl, h⟩
  have HS13 := Aside0.mk (h)
  clear HS12
  clear h
  refine ⟨_, rfl, ?_⟩
  clear hHeld
  refine hK.out _ _ ⟨HS13.out.stmt.1, HS13.out.stmt.2.1, HS13.out.stmt.2.2.1, HS13.out.stmt.2.2.2.1, HS13.out.stmt.2.2.2.2.1, HS13.out.stmt.2.2.2.2.2.1, HS13.out.stmt.2.2.2.2.2.2.1, HS13.out.stmt.2.2.2.2.2.2.2.1, HS13.out.stmt.2.2.2.2.2.2.2.2.1, HS13.out.stmt.2.2.2.2.2.2.2.2.2.1, HS13.out.stmt.2.2.2.2.2.2.2.2.2.2⟩ (fun hHeld => ?_)
  clear hK K_
  refine norm_ (a' := ?_) ?_ ?_
  rotate_left
  · show Act.put _ (some 14) _ = _
    simp only [Act.put, List.setIfInBounds_toArray, List.set_cons_zero, List.set_cons_succ, i64_w, i32_w]
    rfl
  refine done_ (by kernel_rfl) ?_
  go_end0
  rw [← HQ.out]
  exact ⟨rfl, HS13.out⟩
theorem settle26_calls (h : JT w0 F jp tp x s R w) (hn : s.txt.length < 999999) (hx : x.f2.size ≤ 1000) :
    Calls Try.prog 30 #[.pointer (some ⟨jp, 0, none⟩), .iface 34 (.pointer (some ⟨tp, 0, none⟩))] w fun E w' => E = .returned (.tuple #[]) ∧ JT w0 F jp tp x (s.settle x) R w' := by
  obtain ⟨Q, hQ⟩ : ∃ Q, (fun E w' => E = Ending.returned (.tuple #[]) ∧ JT w0 F jp tp x (s.settle x) R w') = Q := ⟨_, rfl⟩
  have HQ := Aside0.mk hQ
  rw [hQ]
  have hu68 := Try.underlying68
  have hu28 := Try.underlying28
  have hna := na_Settle
  have HS := Aside0.mk h
  have HA := Aside0.mk hn
  have HX := Aside0.mk hx
  clear h hQ
  go_enter Try.func30, Try.ntmps30
  go_wp2
  refine start_ (n := 12) (S := fun w' => w'.cell? ⟨jp, 2, none⟩ = some (.string x.f2)) (ds := []) #[false, false, false, false, false, false, false, false, false, false, false, false] (by kernel_rfl) rfl rfl HS.out.stmt.2.2.1 (fun hHeld => ?_)
  have HS11 := Aside0.mk (HS.out.drew)
  clear HS
  generalize w.drew = w11 at HS11 hHeld  ⊢
  refine pure_ (i := 0) (N := (some 4)) (v := ?_) (a' := ?_) #[true, false, false, false, false, false, false, false, false, false, false, false] rfl rfl (by kernel_rfl) (fun _ _ _ h => h) (Or.inl ⟨by rfl, ?_⟩) ?_ ?_
  rotate_left
  · intro w'
    go_simp
    with_reducible rfl
  rotate_left
  · simp only [Act.put, List.setIfInBounds_toArray, List.set_cons_zero, List.set_cons_succ, i64_w, i32_w]
    rfl
  refine pure_ (i := 1) (N := (some 5)) (v := ?_) (a' := ?_) #[true, true, false, false, false, false, false, false, false, false, false, false] rfl rfl (by kernel_rfl) (fun _ _ _ h => h) (Or.inl ⟨by rfl, ?_⟩) ?_ ?_
  rotate_left
  · intro w'
    go_simp
    with_reducible rfl
  rotate_left
  · simp only [Act.put, List.setIfInBounds_toArray, List.set_cons_zero, List.set_cons_succ, i64_w, i32_w]
    rfl
  refine pure_ (i := 2) (N := (some 6)) (v := ?_) (a' := ?_) #[true, true, true, false, false, false, false, false, false, false, false, false] rfl rfl (by kernel_rfl) (fun _ _ _ h => h) (Or.inl ⟨by rfl, ?_⟩) ?_ ?_
  rotate_left
  · intro w'
    go_simp
    with_reducible rfl
  rotate_left
  · simp only [Act.put, List.setIfInBounds_toArray, List.set_cons_zero, List.set_cons_succ, i64_w, i32_w]
    rfl
  refine pure_ (i := 3) (N := (some 7)) (v := ?_) (a' := ?_) #[true, true, true, true, false, false, false, false, false, false, false, false] rfl rfl (by kernel_rfl) (fun _ _ _ h => h) (Or.inl ⟨by rfl, ?_⟩) ?_ ?_
  rotate_left
  · intro w'
    go_simp
    with_reducible rfl
  rotate_left
  · simp only [Act.put, List.setIfInBounds_toArray, List.set_cons_zero, List.set_cons_succ, i64_w, i32_w]
    rfl
  refine pure_ (i := 4) (N := (some 8)) (v := ?_) (a' := ?_) #[true, true, true, true, true, false, false, false, false, false, false, false] rfl rfl (by kernel_rfl) (fun _ _ _ h => h) (Or.inl ⟨by rfl, ?_⟩) ?_ ?_
  rotate_left
  · intro w'
    go_simp
    with_reducible rfl
  rotate_left
  · simp only [Act.put, List.setIfInBounds_toArray, List.set_cons_zero, List.set_cons_succ, i64_w, i32_w]
    rfl
  refine pure_ (i := 5) (N := (some 9)) (v := ?_) (a' := ?_) #[true, true, true, true, true, true, false, false, false, false, false, false] rfl rfl (by kernel_rfl) (fun _ _ _ h => h) (Or.inl ⟨by rfl, ?_⟩) ?_ ?_
  rotate_left
  · intro w'
    go_simp
    with_reducible rfl
  rotate_left
  · simp only [Act.put, List.setIfInBounds_toArray, List.set_cons_zero, List.set_cons_succ, i64_w, i32_w]
    rfl
  refine pure_ (i := 7) (N := (some 11)) (v := ?_) (a' := ?_) #[true, true, true, true, true, true, false, true, false, false, false, false] rfl rfl (by kernel_rfl) (fun _ _ _ h => h) (Or.inl ⟨by rfl, ?_⟩) ?_ ?_
  rotate_left
  · intro w'
    go_simp
    with_reducible rfl
  rotate_left
  · simp only [Act.put, List.setIfInBounds_toArray, List.set_cons_zero, List.set_cons_succ, i64_w, i32_w]
    rfl
  refine pure_ (i := 8) (N := (some 12)) (v := ?_) (a' := ?_) #[true, true, true, true, true, true, false, true, true, false, false, false] rfl rfl (by kernel_rfl) (fun _ _ _ h => h) (Or.inl ⟨by rfl, ?_⟩) ?_ ?_
  rotate_left
  · intro w'
    go_simp
    with_reducible rfl
  rotate_left
  · simp only [Act.put, List.setIfInBounds_toArray, List.set_cons_zero, List.set_cons_succ, i64_w, i32_w]
    rfl
  refine pure_ (i := 9) (N := (some 13)) (v := ?_) (a' := ?_) #[true, true, true, true, true, true, false, true, true, true, false, false] rfl rfl (by kernel_rfl) (fun _ _ _ h => h) (Or.inl ⟨by rfl, ?_⟩) ?_ ?_
  rotate_left
  · intro w'
    go_simp
    with_reducible rfl
  rotate_left
  · simp only [Act.put, List.setIfInBounds_toArray, List.set_cons_zero, List.set_cons_succ, i64_w, i32_w]
    rfl
  refine take_ (i := 6) (N := (some 10)) (v := ?_) (a' := ?_) #[true, true, true, true, true, true, true, true, true, true, false, false] rfl rfl (by kernel_rfl) (fun _ _ _ h => h) (Or.inl ⟨by rfl, ?_⟩) hHeld ?_ ?_
  rotate_left
  · rintro w' s0
    go_simp
    with_reducible rfl
  rotate_left
  · simp only [Act.put, List.setIfInBounds_toArray, List.set_cons_zero, List.set_cons_succ, i64_w, i32_w]
    rfl
  refine one_ (i := 10) (N := (some 14)) #[true, true, true, true, true, true, true, true, true, true, true, false] rfl rfl (by kernel_rfl) (by decide) (fun K_ hK => ?_)
  refine goesM_ "Settle" 34 (.pointer (some ⟨tp, 0, none⟩)) (.tmp 13) Try.func44 (by kernel_rfl) rfl #[.string x.f2] #[.pointer (some ⟨tp, 0, none⟩), .string x.f2] (by rfl) rfl rfl rfl (by (try simp only [List.map_toArray, List.map_cons, List.map_nil]); first | done | rfl) (by rfl) (m_Settle _ _) ?_
  refine (settleJ HS11.out HA.out HX.out).mono ?_
  rintro E w12 ⟨rfl, h⟩
  have HS12 := Aside0.mk (h)
  clear HS11
  clear h
  refine ⟨_, rfl, ?_⟩
  clear hHeld
  refine hK.out _ _ HS12.out.stmt.2.2.1 (fun hHeld => ?_)
  clear hK K_
  refine norm_ (a' := ?_) ?_ ?_
  rotate_left
  · show Act.put _ (some 14) _ = _
    simp only [Act.put, List.setIfInBounds_toArray, List.set_cons_zero, List.set_cons_succ, i64_w, i32_w]
    rfl
  refine one_ (i := 11) (N := (some 15)) #[true, true, true, true, true, true, true, true, true, true, true, true] rfl rfl (by kernel_rfl) (by decide) (fun K_ hK => ?_)
  refine goes_ Try.func54 (by kernel_rfl) rfl #[.pointer (some ⟨jp, 0, none⟩), .int .i64 (errN (s.ans.headD 0)), .int .i64 6, .int .i64 5] (by rfl) rfl rfl (by (try simp only [List.map_toArray, List.map_cons, List.map_nil]); first | done | rfl) ?_
  refine (turn_calls HS12.out _ 6 5).mono ?_
  rintro E w13 ⟨rfl, h⟩
  have HS13 := Aside0.mk (h)
  clear HS12
  clear h
  refine ⟨_, rfl, ?_⟩
  clear hHeld
  refine hK.out _ _ HS13.out.stmt.2.2.1 (fun hHeld => ?_)
  clear hK K_
  refine norm_ (a' := ?_) ?_ ?_
  rotate_left
  · show Act.put _ (some 15) _ = _
    simp only [Act.put, List.setIfInBounds_toArray, List.set_cons_zero, List.set_cons_succ, i64_w, i32_w]
    rfl
  refine done_ (by kernel_rfl) ?_
  go_end0
  rw [← HQ.out]
  exact ⟨rfl, HS13.out⟩
theorem abandon26_calls (h : JT w0 F jp tp x s R w) (hn : s.txt.length < 999999) (hx : x.f2.size ≤ 1000) :
    Calls Try.prog 31 #[.pointer (some ⟨jp, 0, none⟩), .iface 34 (.pointer (some ⟨tp, 0, none⟩))] w fun E w' => E = .returned (.tuple #[]) ∧ JT w0 F jp tp x (s.abandon x) R w' := by
  obtain ⟨Q, hQ⟩ : ∃ Q, (fun E w' => E = Ending.returned (.tuple #[]) ∧ JT w0 F jp tp x (s.abandon x) R w') = Q := ⟨_, rfl⟩
  have HQ := Aside0.mk hQ
  rw [hQ]
  have hu68 := Try.underlying68
  have hu28 := Try.underlying28
  have hna := na_Abandon
  have HS := Aside0.mk h
  have HA := Aside0.mk hn
  have HX := Aside0.mk hx
  clear h hQ
  go_enter Try.func31, Try.ntmps31
  go_wp2
  refine start_ (n := 10) (S := fun w' => w'.cell? ⟨jp, 2, none⟩ = some (.string x.f2)) (ds := []) #[false, false, false, false, false, false, false, false, false, false] (by kernel_rfl) rfl rfl HS.out.stmt.2.2.1 (fun hHeld => ?_)
  have HS11 := Aside0.mk (HS.out.drew)
  clear HS
  generalize w.drew = w11 at HS11 hHeld  ⊢
  refine pure_ (i := 0) (N := (some 4)) (v := ?_) (a' := ?_) #[true, false, false, false, false, false, false, false, false, false] rfl rfl (by kernel_rfl) (fun _ _ _ h => h) (Or.inl ⟨by rfl, ?_⟩) ?_ ?_
  rotate_left
  · intro w'
    go_simp
    with_reducible rfl
  rotate_left
  · simp only [Act.put, List.setIfInBounds_toArray, List.set_cons_zero, List.set_cons_succ, i64_w, i32_w]
    rfl
  refine pure_ (i := 1) (N := (some 5)) (v := ?_) (a' := ?_) #[true, true, false, false, false, false, false, false, false, false] rfl rfl (by kernel_rfl) (fun _ _ _ h => h) (Or.inl ⟨by rfl, ?_⟩) ?_ ?_
  rotate_left
  · intro w'
    go_simp
    with_reducible rfl
  rotate_left
  · simp only [Act.put, List.setIfInBounds_toArray, List.set_cons_zero, List.set_cons_succ, i64_w, i32_w]
    rfl
  refine pure_ (i := 2) (N := (some 6)) (v := ?_) (a' := ?_) #[true, true, true, false, false, false, false, false, false, false] rfl rfl (by kernel_rfl) (fun _ _ _ h => h) (Or.inl ⟨by rfl, ?_⟩) ?_ ?_
  rotate_left
  · intro w'
    go_simp
    with_reducible rfl
  rotate_left
  · simp only [Act.put, List.setIfInBounds_toArray, List.set_cons_zero, List.set_cons_succ, i64_w, i32_w]
    rfl
  refine pure_ (i := 3) (N := (some 7)) (v := ?_) (a' := ?_) #[true, true, true, true, false, false, false, false, false, false] rfl rfl (by kernel_rfl) (fun _ _ _ h => h) (Or.inl ⟨by rfl, ?_⟩) ?_ ?_
  rotate_left
  · intro w'
    go_simp
    with_reducible rfl
  rotate_left
  · simp only [Act.put, List.setIfInBounds_toArray, List.set_cons_zero, List.set_cons_succ, i64_w, i32_w]
    rfl
  refine pure_ (i := 4) (N := (some 8)) (v := ?_) (a' := ?_) #[true, true, true, true, true, false, false, false, false, false] rfl rfl (by kernel_rfl) (fun _ _ _ h => h) (Or.inl ⟨by rfl, ?_⟩) ?_ ?_
  rotate_left
  · intro w'
    go_simp
    with_reducible rfl
  rotate_left
  · simp only [Act.put, List.setIfInBounds_toArray, List.set_cons_zero, List.set_cons_succ, i64_w, i32_w]
    rfl
  refine pure_ (i := 6) (N := (some 10)) (v := ?_) (a' := ?_) #[true, true, true, true, true, false, true, false, false, false] rfl rfl (by kernel_rfl) (fun _ _ _ h => h) (Or.inl ⟨by rfl, ?_⟩) ?_ ?_
  rotate_left
  · intro w'
    go_simp
    with_reducible rfl
  rotate_left
  · simp only [Act.put, List.setIfInBounds_toArray, List.set_cons_zero, List.set_cons_succ, i64_w, i32_w]
    rfl
  refine pure_ (i := 7) (N := (some 11)) (v := ?_) (a' := ?_) #[true, true, true, true, true, false, true, true, false, false] rfl rfl (by kernel_rfl) (fun _ _ _ h => h) (Or.inl ⟨by rfl, ?_⟩) ?_ ?_
  rotate_left
  · intro w'
    go_simp
    with_reducible rfl
  rotate_left
  · simp only [Act.put, List.setIfInBounds_toArray, List.set_cons_zero, List.set_cons_succ, i64_w, i32_w]
    rfl
  refine pure_ (i := 8) (N := (some 12)) (v := ?_) (a' := ?_) #[true, true, true, true, true, false, true, true, true, false] rfl rfl (by kernel_rfl) (fun _ _ _ h => h) (Or.inl ⟨by rfl, ?_⟩) ?_ ?_
  rotate_left
  · intro w'
    go_simp
    with_reducible rfl
  rotate_left
  · simp only [Act.put, List.setIfInBounds_toArray, List.set_cons_zero, List.set_cons_succ, i64_w, i32_w]
    rfl
  refine take_ (i := 5) (N := (some 9)) (v := ?_) (a' := ?_) #[true, true, true, true, true, true, true, true, true, false] rfl rfl (by kernel_rfl) (fun _ _ _ h => h) (Or.inl ⟨by rfl, ?_⟩) hHeld ?_ ?_
  rotate_left
  · rintro w' s0
    go_simp
    with_reducible rfl
  rotate_left
  · simp only [Act.put, List.setIfInBounds_toArray, List.set_cons_zero, List.set_cons_succ, i64_w, i32_w]
    rfl
  refine one_ (i := 9) (N := (some 13)) #[true, true, true, true, true, true, true, true, true, true] rfl rfl (by kernel_rfl) (by decide) (fun K_ hK => ?_)
  refine goesM_ "Abandon" 34 (.pointer (some ⟨tp, 0, none⟩)) (.tmp 12) Try.func45 (by kernel_rfl) rfl #[.string x.f2] #[.pointer (some ⟨tp, 0, none⟩), .string x.f2] (by rfl) rfl rfl rfl (by (try simp only [List.map_toArray, List.map_cons, List.map_nil]); first | done | rfl) (by rfl) (m_Abandon _ _) ?_
  refine (abandonJ HS11.out HA.out HX.out).mono ?_
  rintro E w12 ⟨rfl, h⟩
  have HS12 := Aside0.mk (h)
  clear HS11
  clear h
  refine ⟨_, rfl, ?_⟩
  clear hHeld
  refine hK.out _ _ HS12.out.stmt.2.2.1 (fun hHeld => ?_)
  clear hK K_
  refine norm_ (a' := ?_) ?_ ?_
  rotate_left
  · show Act.put _ (some 13) _ = _
    simp only [Act.put, List.setIfInBounds_toArray, List.set_cons_zero, List.set_cons_succ, i64_w, i32_w]
    rfl
  refine done_ (by kernel_rfl) ?_
  clear hHeld
  obtain ⟨s2, hs2⟩ : ∃ s2, s.said ((⟨#[97, 98, 97, 110, 100, 111, 110, 32]⟩ : ByteArray) ++ x.f2) = s2 := ⟨_, rfl⟩
  have h2 := HS12.out
  rw [hs2] at h2
  obtain ⟨A, c, h2⟩ := h2
  have hb2 := h2.rest.blk 0 rfl
  have c11 : w12.cell? ⟨jp, 11, none⟩ = some (.int .i64 s2.ph) := (blk_cell hb2 11).trans rfl
  have pl := lt_of_some hb2
  have fz := fun j => frozen_of_row w12 jp j _ _ hb2
  have HE := Aside0.mk h2
  have HF := Aside0.mk (h2.putBlk 0 rfl 11 (.int .i64 6) rfl)
  have HS2 := Aside0.mk hs2
  clear h2 hb2 hs2 HS12
  cases hb : (bits .and .i64 (s.ans.headD 0) 3 == 3) with
  | true =>
    go_wp2
    go_end0
    rw [← HQ.out]
    refine ⟨rfl, ?_⟩
    unfold JS.abandon
    rw [if_pos hb, HS2.out]
    exact ⟨A, c, HE.out⟩
  | false =>
    go_wp2
    go_end0
    rw [← HQ.out]
    refine ⟨rfl, ?_⟩
    unfold JS.abandon
    rw [if_neg (by rw [hb]; decide), HS2.out]
    exact ⟨A, c, HF.out⟩
end
end Go.Proofs.Kb
end
