/- Packed by shake.py: YtkcjcdkmdooofaaLK4 YtkcjcdkmdooofaaLK5 YtkcjcdkmdooofaaLK6 YtkcjcdkmdooofaaA4 YtkcjcdkmdooofaaA5 YtkcjcdkmdooofaaA6 YtkcjcdkmdooofaaQ31 YtkcjcdkmdooofaaLK7 -/
import Derived.Test.YtkcjcdkmdooofaaV4
set_option linter.unusedSectionVars false
section
namespace Go.Proofs.Kb
open Go Go.RowKit Go.Proofs.Ytkcjcdkmdooofaa.Q Go.Proofs.YtkcjcdkmdooofaaW.PrintWords Go.Proofs.YtkcjcdkmdooofaaW.PrintLast Go.Proofs.YtkcjcdkmdooofaaW.PrintMore
set_option linter.unusedVariables false
set_option linter.unusedSimpArgs false
set_option maxRecDepth 100000
open Go.Proofs.Lk Go.Proofs.Mp
section
variable {w0 w : World} {F : Nat → Prop} {R : List Chunk} {M : LM} {s : LS S29}
theorem row_fr {t : S29} (hs : St w0 F w (lk M ++ R)) (hr : Rep M s) (ht : wfT t) (hn : M.n1 < maxLen) :
    Calls Try.prog 28 #[lpV M, thgV t] w fun E w' => ∃ M' X m Y, E = .returned (ptr m.p) ∧ M'.rs = X ++ m :: Y ∧ m.t = t ∧ Rep M' s ∧ M'.lp = M.lp ∧ M'.tot ≤ M.tot + 1 ∧ St w0 F w' (lk M' ++ R) :=
  (lrow_calls w M s t _ (St.sub hs) hr ht hn).mono fun E w' ⟨M', X, m, Y, h1, h2, h3, h4, h5, h6, h7⟩ => ⟨M', X, m, Y, h1, h2, h3, h4, h5, h6, St.call hs h7⟩
theorem note_fr {x : Int} {t : S29} (hs : St w0 F w (lk M ++ R)) (hr : Rep M s) (hx : wfI x) (hso : Sorted (s.held x)) (hl : (s.held x).length < 999999) (hn : M.n3 < maxLen) :
    Calls Try.prog 39 #[lpV M, .int .i64 x, thgV t] w fun E w' => ∃ M', E = .returned (.tuple #[]) ∧ Rep M' ⟨s.rows, s.waits, upd s.held x (haddT (s.held x) t)⟩ ∧ M'.lp = M.lp ∧ M'.rs = M.rs ∧ M'.tot ≤ M.tot + 1 ∧ St w0 F w' (lk M' ++ R) :=
  (note_calls w M s x t _ (St.sub hs) hr hx hso hl hn).mono fun E w' ⟨M', h1, h2, h3, h4, h5, h6⟩ => ⟨M', h1, h2, h3, h4, h5, St.call hs h6⟩
theorem delW {x : Int} (hs : St w0 F w (lk M ++ R)) (hr : Rep M s) (hx : wfI x) (ty : TypeId) : ∃ w', (Builtin.delete_ #[56, 3] ty #[.map (some M.b2), .int .i64 x]).run Try.prog w = .ok (.tuple #[]) w' ∧
    Rep { M with wt := upd s.waits x none } ⟨s.rows, upd s.waits x none, s.held⟩ ∧ St w0 F w' (lk { M with wt := upd s.waits x none } ++ R) := by
  obtain ⟨w', h1, h2, h3⟩ := (hs.mapAt (K := K3) (n := M.n2) (f := waitF M.wt) 2 rfl).delete (f' := waitF (upd s.waits x none)) Try.underlying56 (show K3.wf x from hx) ty (by simp [waitF, upd_same]) (fun y hy => by simp [waitF, upd_other hy, hr.ww])
  exact ⟨w', h1, hr.setW _ _, hs.mapTo 2 rfl h2 h3⟩
theorem lk_setR {X Y : List RowM} {m m' : RowM} (e : M.rs = X ++ m :: Y) (ht : m'.t = m.t) (hp : m'.p = m.p) : lkO M (X ++ m' :: Y) M.hs = lk { M with rs := X ++ m' :: Y } := by
  unfold lk lkO
  have h1 : rowsF M.rs = rowsF (X ++ m' :: Y) := by
    rw [e]
    exact (assoc_mid (k := RowM.t) (v := fun m => ptr m.p) ht (by rw [hp])).symm
  rw [h1]
  rfl
end
theorem sweepA_sub : ∀ (k : Nat) (r : LRow) (i : Nat), ∀ x ∈ (sweepA k r i).2, ∃ o ∈ r.waits, o.1 = x
  | 0, r, i => fun x hx => by cases hx
  | k + 1, r, i => fun x hx => by
    cases ho : r.waits[i]? with
    | none =>
      rw [sweepA_end (k + 1) r i (List.getElem?_eq_none_iff.1 ho)] at hx
      cases hx
    | some o =>
      by_cases hb : rawB r o i = []
      · rw [sweepA_give ho hb] at hx
        rcases List.mem_cons.1 hx with rfl | hx
        · exact ⟨o, List.mem_of_getElem? ho, rfl⟩
        · obtain ⟨o2, h1, h2⟩ := sweepA_sub k _ i x hx
          exact ⟨o2, List.mem_of_mem_eraseIdx h1, h2⟩
      · rw [sweepA_skip ho hb] at hx
        exact sweepA_sub k r (i + 1) x hx
theorem sweepA_len : ∀ (k : Nat) (r : LRow) (i : Nat), (sweepA k r i).2.length + (sweepA k r i).1.waits.length = r.waits.length ∧ (sweepA k r i).1.holds.length + (sweepA k r i).1.waits.length ≤ r.holds.length + r.waits.length
  | 0, r, i => ⟨by simp [sweepA], Nat.le_refl _⟩
  | k + 1, r, i => by
    cases ho : r.waits[i]? with
    | none =>
      rw [sweepA_end (k + 1) r i (List.getElem?_eq_none_iff.1 ho)]
      exact ⟨by simp, Nat.le_refl _⟩
    | some o =>
      by_cases hb : rawB r o i = []
      · rw [sweepA_give ho hb]
        obtain ⟨h1, h2⟩ := sweepA_len k ⟨Lk.give r.holds o, r.waits.eraseIdx i⟩ i
        have h3 := give_len r.holds o
        have h4 : i < r.waits.length := (List.getElem?_eq_some_iff.1 ho).1
        have h5 : (r.waits.eraseIdx i).length = r.waits.length - 1 := List.length_eraseIdx_of_lt h4
        simp only [List.length_cons] at h1 h2 ⊢
        omega
      · rw [sweepA_skip ho hb]
        exact sweepA_len k r (i + 1)
structure OkR (r : LRow) : Prop where
  hn : (r.holds.map (·.1)).Nodup
  len : r.holds.length + r.waits.length < 600
  wf : ∀ o ∈ r.waits, wfI o.1
theorem OkR.drop {r : LRow} (h : OkR r) (x : Int) : OkR (dropR r x) :=
  ⟨List.Nodup.sublist (List.filter_sublist.map _) h.hn, by
    have h1 : (r.holds.filter fun o => o.1 != x).length ≤ r.holds.length := List.length_filter_le _ _
    have h2 : (r.waits.filter fun o => o.1 != x).length ≤ r.waits.length := List.length_filter_le _ _
    have := h.len
    show (r.holds.filter fun o => o.1 != x).length + (r.waits.filter fun o => o.1 != x).length < 600
    omega, fun o ho => h.wf o (List.mem_filter.1 ho).1⟩
theorem sweepA_ok : ∀ (k : Nat) (r : LRow) (i : Nat), (r.holds.map (·.1)).Nodup → (∀ o ∈ r.waits, wfI o.1) → ((sweepA k r i).1.holds.map (·.1)).Nodup ∧ (∀ o ∈ (sweepA k r i).1.waits, wfI o.1)
  | 0, r, i, h1, h2 => ⟨h1, h2⟩
  | k + 1, r, i, h1, h2 => by
    cases ho : r.waits[i]? with
    | none =>
      rw [sweepA_end (k + 1) r i (List.getElem?_eq_none_iff.1 ho)]
      exact ⟨h1, h2⟩
    | some o =>
      by_cases hb : rawB r o i = []
      · rw [sweepA_give ho hb]
        exact sweepA_ok k _ i (give_nodup h1) fun o ho => h2 o (List.mem_of_mem_eraseIdx ho)
      · rw [sweepA_skip ho hb]
        exact sweepA_ok k r (i + 1) h1 h2
theorem OkR.sweep {r : LRow} (h : OkR r) : OkR (sweepR r).1 := by
  obtain ⟨h1, h2⟩ := sweepA_ok (r.waits.length + 1) r 0 h.hn h.wf
  have := (sweepA_len (r.waits.length + 1) r 0).2
  exact ⟨h1, Nat.lt_of_le_of_lt this h.len, h2⟩
def OkH (N : Nat) (s : LS S29) : Prop := ∀ x, Sorted (s.held x) ∧ (s.held x).length ≤ N
theorem OkH.note1 {N : Nat} {s : LS S29} (h : OkH N s) (t : S29) (x : Int) : OkH (N + 1) (noted haddT t s x) := fun y => by
  show Sorted (upd s.held x (haddT (s.held x) t) y) ∧ (upd s.held x (haddT (s.held x) t) y).length ≤ N + 1
  by_cases hy : y = x
  · subst hy
    rw [upd_same]
    have := haddT_len (s.held y) t
    have := (h y).2
    exact ⟨haddT_sorted (h y).1 t, by omega⟩
  · rw [upd_other hy]
    exact ⟨(h y).1, Nat.le_succ_of_le (h y).2⟩
theorem OkH.fold {t : S29} : ∀ (out : List Int) {N : Nat} {s : LS S29}, OkH N s → OkH (N + out.length) (out.foldl (noted haddT t) s)
  | [], N, s, h => h
  | x :: out, N, s, h => by
    have := OkH.fold (t := t) out (h.note1 t x)
    rw [List.length_cons, show N + (out.length + 1) = N + 1 + out.length by omega]
    exact this
def swBase (s : LS S29) (t : S29) : LS S29 := ⟨upd s.rows t (sweepR (s.rows t)).1, s.waits, s.held⟩
def Sweep46 (w : World) (F : Nat → Prop) (M : LM) (s : LS S29) (t : S29) (E : Ending) (w' : World) : Prop :=
  ∃ M' v, E = .returned v ∧ Rep M' (sweepS haddT s t).1 ∧ M'.lp = M.lp ∧ M'.tot ≤ M.tot + 601 ∧ St w F w' (lk M' ++ [rowIC v (sweepS haddT s t).2])
theorem fold_take {α β : Type} (f : β → α → β) (b : β) {l : List α} {i : Nat} {x : α} (h : l[i]? = some x) : (l.take (i + 1)).foldl f b = f ((l.take i).foldl f b) x := by
  rw [List.take_add_one, h, List.foldl_append]
  rfl
theorem fold_rows (t : S29) : ∀ (out : List Int) (s : LS S29), (out.foldl (noted haddT t) s).rows = s.rows
  | [], s => rfl
  | x :: out, s => fold_rows t out (noted haddT t s x)
theorem delete0_ {P : Program} {ops : Array Oper} {Q : Exit → Act → World → Prop} {oi : Oper} {a : Act} {w w' : World} {K : Act → World → Prop} (d x : Operand) (dT sT : TypeId) (hw : Region.wanted oi (yielded ops a.tmps) = true) (hN : oi.dst = none)
    (hop : oi.op = Op.call { callee := Callee.builtin Builtin.delete, args := #[d, x], argTypes := #[dT, sT] }) (v u : Value) (hd : a.eval d = v) (hx : a.eval x = u) {v' : Value} (hr : (Builtin.delete_ #[dT, sT] oi.type #[v, u]).run P w = .ok v' w')
    (h : K a w') : if Region.wanted oi (yielded ops a.tmps) = true then Oper.wp P oi a w K Q else K (a.put none undef) w :=
  delete_ d x dT sT hw hN hop v u hd hx hr h
def SwI (w : World) (F : Nat → Prop) (M : LM) (s : LS S29) (t : S29) (rs : List RowM) (out : List Int) (R : List Chunk) (i : Nat) (W : World) : Prop :=
  ∃ Mk, Rep Mk ((out.take i).foldl (noted haddT t) (swBase s t)) ∧ Mk.lp = M.lp ∧ Mk.rs = rs ∧ Mk.tot ≤ M.tot + 1 + i ∧ St w F W (lk Mk ++ R)
set_option maxHeartbeats 4000000 in
theorem lsweep_calls (w : World) (M : LM) (s : LS S29) (t : S29) (F : Nat → Prop) (N : Nat) (hs : St w F w (lk M)) (hr : Rep M s) (ht : wfT t) (hok : OkR (s.rows t)) (hh : OkH N s) (hN : N < 900000) (hn : M.tot < 4611686018427387904) :
    Calls Try.prog 46 #[lpV M, thgV t] w (Sweep46 w F M s t) := by
  obtain ⟨R, hR⟩ : ∃ R, Sweep46 w F M s t = R := ⟨_, rfl⟩
  have HR := Aside0.mk hR
  rw [hR]
  have hu55 := Try.underlying55
  have hu56 := Try.underlying56
  have hu59 := Try.underlying59
  have hu64 := Try.underlying64
  have hu62 := Try.underlying62
  have hu29 := Try.underlying29
  have hu39 := Try.underlying39
  obtain ⟨n0, hn0⟩ : ∃ n, w.heap.size = n := ⟨_, rfl⟩
  obtain ⟨W0, hW0⟩ : ∃ W0, w.alloc (.cells #[.int .i64 t.f0, .string t.f1, .string t.f2] 29) = W0 := ⟨_, rfl⟩
  have hs0 := hs.alloc #[.int .i64 t.f0, .string t.f1, .string t.f2] 29 hn0
  rw [hW0] at hs0
  have e0 := (blk_cell (hs0.blk 6 rfl) 0).trans rfl
  have e1 := (blk_cell (hs0.blk 6 rfl) 1).trans rfl
  have e2 := (blk_cell (hs0.blk 6 rfl) 2).trans rfl
  have h00 := lt_of_some (hs0.blk 6 rfl)
  have HREP := Aside0.mk hr
  have HT := Aside0.mk ht
  have HN := Aside0.mk hn
  have HOK := Aside0.mk hok
  have HH := Aside0.mk hh
  have HNN := Aside0.mk hN
  obtain ⟨out, hout⟩ : ∃ out, (sweepR (s.rows t)).2 = out := ⟨_, rfl⟩
  have hol : out.length < 600 := by
    have := (sweepA_len ((s.rows t).waits.length + 1) (s.rows t) 0).1
    have h2 := hok.len
    rw [← hout]
    show (sweepA ((s.rows t).waits.length + 1) (s.rows t) 0).2.length < 600
    omega
  have hwf : ∀ x ∈ out, wfI x := fun x hx => by
    rw [← hout] at hx
    obtain ⟨o, h1, rfl⟩ := sweepA_sub _ _ _ x hx
    exact hok.wf o h1
  have HOUT := Aside0.mk hout
  have HOL := Aside0.mk hol
  have HWF := Aside0.mk hwf
  have HRS := Aside0.mk hs0
  have A28 := Aside0.mk (row_fr (R := [blkC n0 (.cells #[.int .i64 t.f0, .string t.f1, .string t.f2] 29 (0, 0))]) hs0 hr ht (by simp only [LM.tot] at hn; simp only [maxLen]; omega))
  clear hR hs hr ht hn hok hh hN hout hol hwf hs0
  unfold lpV thgV at A28
  unfold lpV thgV
  show Calls Try.prog 46 #[.pointer (some ⟨M.lp, 0, none⟩), .agg #[.int .i64 t.f0, .string t.f1, .string t.f2]] w R
  have G1 : True := trivial
  go_enter Try.func46, Try.ntmps46
  go_wp2_with (first
    | (clear G1; go_at_call 28; refine A28.out.mono ?_; rintro E w2 ⟨M1, X, m, Y, rfl, k1, k2, k3, k4, k5, k6⟩; have HE := Aside0.mk k1; have HMT := Aside0.mk k2; have HREP1 := Aside0.mk k3; have HLP := Aside0.mk k4; have HTOT := Aside0.mk k5; have h1 := k6; unfold lk at h1; rw [k1] at h1; have HS1 := Aside0.mk (St.openR h1); clear h1 k1 k2 k3 k4 k5 k6 e0 e1 e2 h00 A28 HRS; unfold ptr)
    | (go_at_call 67; have hmr : m.r = s.rows t := (HMT.out ▸ HREP1.out.rr m (HE.out ▸ mem_mid.2 (.inl rfl))); have hsub : St w2 (fun b => b ∈ fpc (row3 m.p m.hv m.wv m.r)) w2 (row3 m.p m.hv m.wv m.r) := (St.sub (A := row3 m.p m.hv m.wv m.r) (R := lkO M1 (X ++ Y) M1.hs ++ [blkC n0 _]) HS1.out); refine (rsweep_calls w2 m.p m.hv m.wv m.r _ hsub (by rw [hmr]; have := HOK.out.len; omega) (by rw [hmr]; exact HOK.out.hn)).mono ?_; rintro E w3 ⟨v, hv3, wv3, rfl, k⟩; have h2 := St.call (A := row3 m.p m.hv m.wv m.r) (R := lkO M1 (X ++ Y) M1.hs ++ [blkC n0 _]) HS1.out k; rw [hmr, HOUT.out] at h2; have HS3 := Aside0.mk h2; clear hmr hsub k h2 HS1; obtain ⟨A, c, rfl⟩ := (HS3.out.rowX 3 rfl).form; obtain ⟨no, hno⟩ : ∃ n, out.length = n := ⟨_, rfl⟩; rw [hno] at HS3 ⊢; have HNO := Aside0.mk hno; clear hno))
  obtain ⟨r', hr'⟩ : ∃ r', (sweepR (s.rows t)).1 = r' := ⟨_, rfl⟩
  rw [hr'] at HS3
  obtain ⟨Ah, ch, rfl⟩ := (HS3.out.rowX 1 rfl).form
  obtain ⟨Aw, cw, rfl⟩ := (HS3.out.rowX 2 rfl).form
  obtain ⟨nh, hnh⟩ : ∃ n, r'.holds.length = n := ⟨_, rfl⟩
  obtain ⟨nw, hnw⟩ : ∃ n, r'.waits.length = n := ⟨_, rfl⟩
  rw [hnh, hnw] at HS3
  obtain ⟨p, hp⟩ : ∃ p, m.p = p := ⟨_, rfl⟩
  obtain ⟨m', hm'⟩ : ∃ m' : RowM, (⟨m.t, m.p, .slice Ah nh ch, .slice Aw nw cw, r'⟩ : RowM) = m' := ⟨_, rfl⟩
  have hRL : r'.holds.length + r'.waits.length < 600 := by rw [← hr']; exact HOK.out.sweep.len
  have hSB : SwI w F M s t (X ++ m' :: Y) out [rowIC (.slice A no c) out, blkC n0 (.cells #[.int .i64 t.f0, .string t.f1, .string t.f2] 29 (0, 0))] 0 w3 := by
    have hrep := HREP1.out.setR HE.out (.slice Ah nh ch) (.slice Aw nw cw) r'
    rw [hm', HMT.out] at hrep
    have h1 := HS3.out.perm (B := row3 m.p (.slice Ah nh ch) (.slice Aw nw cw) r' ++ lkO M1 (X ++ Y) M1.hs ++ [rowIC (.slice A no c) out, blkC n0 (.cells #[.int .i64 t.f0, .string t.f1, .string t.f2] 29 (0, 0))]) (perm_ix _ [0, 1, 2, 4, 5, 6, 7, 8, 9, 3, 10] 11 rfl (by decide))
    have h2 := St.closeR (m := ⟨m.t, m.p, .slice Ah nh ch, .slice Aw nw cw, r'⟩) h1
    rw [hm', lk_setR HE.out (by rw [← hm']) (by rw [← hm'])] at h2
    refine ⟨{ M1 with rs := X ++ m' :: Y }, ?_, HLP.out, rfl, by have := HTOT.out; simp only [LM.tot] at this ⊢; omega, h2⟩
    have e : swBase s t = ⟨upd s.rows t r', s.waits, s.held⟩ := by unfold swBase; rw [hr']
    rw [List.take_zero, List.foldl_nil, e]
    exact hrep
  have HSB := Aside0.mk hSB
  have HR' := Aside0.mk hr'
  have HM' := Aside0.mk hm'
  have HNH := Aside0.mk hnh
  have HNW := Aside0.mk hnw
  have HRL := Aside0.mk hRL
  rw [hp]
  have HP := Aside0.mk hp
  clear hSB hr' hm' hnh hnw HS3 HREP1 HTOT HLP hp hRL
  go_loopg [8, 16] no (fun gq v8 v16 wx => ∃ i : Nat, v16 = .int .i64 i ∧ i + gq = no ∧ Aside0 (SwI w F M s t (X ++ m' :: Y) out [rowIC (.slice A no c) out, blkC n0 (.cells #[.int .i64 t.f0, .string t.f1, .string t.f2] 29 (0, 0))] i wx))
  case atStart => exact ⟨0, rfl, by omega, HSB⟩
  case round =>
    clear HSB
    obtain ⟨i, rfl, hi, HSI⟩ := hrel
    obtain ⟨Mk, k1, k2, k3, k4, k5⟩ := HSI.out
    clear HSI
    obtain ⟨c0, c1, c2, hlp⟩ := k5.lpAt 0 rfl
    rw [k2] at c0 c1 c2 hlp
    have e0 := (blk_cell (k5.blk 7 rfl) 0).trans rfl
    have e1 := (blk_cell (k5.blk 7 rfl) 1).trans rfl
    have e2 := (blk_cell (k5.blk 7 rfl) 2).trans rfl
    have h00 := lt_of_some (k5.blk 7 rfl)
    have HLP := Aside0.mk k2
    have HRS := Aside0.mk k3
    have HTOT := Aside0.mk k4
    have HREPK := Aside0.mk k1
    have HSK := Aside0.mk k5
    clear k1 k2 k3 k4 k5
    cases gk with
    | zero =>
      obtain rfl : i = no := by omega
      have hrow : RowH wr p (.slice Ah nh ch) (.slice Aw nw cw) r' := by
        have h0 : ∀ y ∈ Mk.rs, RowH wr y.p y.hv y.wv y.r := HSK.out.get 4 rfl
        have h1 := h0 m' (HRS.out ▸ mem_mid.2 (.inl rfl))
        rw [← HM'.out] at h1
        rw [← HP.out]
        exact h1
      have HROW := Aside0.mk hrow
      have hw1 : IntKind.i64.wrap ((nh : Int) + (nw : Int)) = (nh : Int) + (nw : Int) := by rw [IntKind.wrap_i64]; have := HRL.out; rw [HNH.out, HNW.out] at this; omega
      have hw2 : Go.RowKit.wrap64 ((nh : Int) + (nw : Int)) = (nh : Int) + (nw : Int) := by rw [← i64_w]; exact hw1
      have hw3 : Go.RowKit.wrap64 0 = 0 := by unfold Go.RowKit.wrap64; omega
      have htk : out.take i = out := List.take_of_length_le (by rw [HNO.out]; exact Nat.le_refl _)
      have HTK := Aside0.mk htk
      clear hrow c1 c2 e0 e1 e2 htk
      have hfin : (sweepS haddT s t).1 = (out.take i).foldl (noted haddT t) (swBase s t) ∧ (sweepS haddT s t).2 = out := by
        unfold sweepS swBase
        rw [HTK.out, HOUT.out]
        exact ⟨rfl, rfl⟩
      have HFIN := Aside0.mk hfin
      clear hfin
      go_wp2
      by_cases h0 : (nh : Int) + (nw : Int) = 0
      · have HZ := Aside0.mk h0
        refine start_ (n := 12) (S := fun w' => w'.cell? ⟨p, 0, none⟩ = some (.slice Ah nh ch) ∧ w'.cell? ⟨p, 1, none⟩ = some (.slice Aw nw cw)) (ds := []) #[false, false, false, false, false, false, false, false, false, false, false, false] (by kernel_rfl) rfl rfl ⟨HROW.out.c0, HROW.out.c1⟩ (fun hHeld => ?_)
        have HS1 := Aside0.mk (HSK.out.drew)
        clear HSK
        generalize wr.drew = w7 at HS1 hHeld  ⊢
        refine pure_ (i := 0) (N := (some 30)) (v := ?_) (a' := ?_) #[true, false, false, false, false, false, false, false, false, false, false, false] rfl rfl (by kernel_rfl) (fun _ _ _ h => h) (Or.inl ⟨by rfl, ?_⟩) ?_ ?_
        rotate_left
        · intro w'
          go_simp
          with_reducible rfl
        rotate_left
        · simp only [Act.put, List.setIfInBounds_toArray, List.set_cons_zero, List.set_cons_succ, i64_w, i32_w]
          rfl
        refine pure_ (i := 1) (N := (some 31)) (v := ?_) (a' := ?_) #[true, true, false, false, false, false, false, false, false, false, false, false] rfl rfl (by kernel_rfl) (fun _ _ _ h => h) (Or.inl ⟨by rfl, ?_⟩) ?_ ?_
        rotate_left
        · intro w'
          go_simp
          with_reducible rfl
        rotate_left
        · simp only [Act.put, List.setIfInBounds_toArray, List.set_cons_zero, List.set_cons_succ, i64_w, i32_w]
          rfl
        refine pure_ (i := 2) (N := (some 32)) (v := ?_) (a' := ?_) #[true, true, true, false, false, false, false, false, false, false, false, false] rfl rfl (by kernel_rfl) (fun _ _ _ h => h) (Or.inl ⟨by rfl, ?_⟩) ?_ ?_
        rotate_left
        · intro w'
          go_simp
          with_reducible rfl
        rotate_left
        · simp only [Act.put, List.setIfInBounds_toArray, List.set_cons_zero, List.set_cons_succ, i64_w, i32_w]
          rfl
        refine pure_ (i := 5) (N := (some 35)) (v := ?_) (a' := ?_) #[true, true, true, false, false, true, false, false, false, false, false, false] rfl rfl (by kernel_rfl) (fun _ _ _ h => h) (Or.inl ⟨by rfl, ?_⟩) ?_ ?_
        rotate_left
        · intro w'
          go_simp
          with_reducible rfl
        rotate_left
        · simp only [Act.put, List.setIfInBounds_toArray, List.set_cons_zero, List.set_cons_succ, i64_w, i32_w]
          rfl
        refine pure_ (i := 6) (N := (some 36)) (v := ?_) (a' := ?_) #[true, true, true, false, false, true, true, false, false, false, false, false] rfl rfl (by kernel_rfl) (fun _ _ _ h => h) (Or.inl ⟨by rfl, ?_⟩) ?_ ?_
        rotate_left
        · intro w'
          go_simp
          with_reducible rfl
        rotate_left
        · simp only [Act.put, List.setIfInBounds_toArray, List.set_cons_zero, List.set_cons_succ, i64_w, i32_w]
          rfl
        refine pure_ (i := 7) (N := (some 37)) (v := ?_) (a' := ?_) #[true, true, true, false, false, true, true, true, false, false, false, false] rfl rfl (by kernel_rfl) (fun _ _ _ h => h) (Or.inl ⟨by rfl, ?_⟩) ?_ ?_
        rotate_left
        · intro w'
          go_simp
          with_reducible rfl
        rotate_left
        · simp only [Act.put, List.setIfInBounds_toArray, List.set_cons_zero, List.set_cons_succ, i64_w, i32_w]
          rfl
        refine take_ (i := 3) (N := (some 33)) (v := ?_) (a' := ?_) #[true, true, true, true, false, true, true, true, false, false, false, false] rfl rfl (by kernel_rfl) (fun _ _ _ h => h) (Or.inl ⟨by rfl, ?_⟩) hHeld ?_ ?_
        rotate_left
        · rintro w' ⟨s0, s1⟩
          go_simp
          with_reducible rfl
        rotate_left
        · simp only [Act.put, List.setIfInBounds_toArray, List.set_cons_zero, List.set_cons_succ, i64_w, i32_w]
          rfl
        refine pure_ (i := 4) (N := (some 34)) (v := ?_) (a' := ?_) #[true, true, true, true, true, true, true, true, false, false, false, false] rfl rfl (by kernel_rfl) (fun _ _ _ h => h) (Or.inl ⟨by rfl, ?_⟩) ?_ ?_
        rotate_left
        · intro w'
          go_simp
          with_reducible rfl
        rotate_left
        · simp only [Act.put, List.setIfInBounds_toArray, List.set_cons_zero, List.set_cons_succ, i64_w, i32_w]
          rfl
        refine take_ (i := 8) (N := (some 38)) (v := ?_) (a' := ?_) #[true, true, true, true, true, true, true, true, true, false, false, false] rfl rfl (by kernel_rfl) (fun _ _ _ h => h) (Or.inl ⟨by rfl, ?_⟩) hHeld ?_ ?_
        rotate_left
        · rintro w' ⟨s0, s1⟩
          go_simp
          with_reducible rfl
        rotate_left
        · simp only [Act.put, List.setIfInBounds_toArray, List.set_cons_zero, List.set_cons_succ, i64_w, i32_w]
          rfl
        refine pure_ (i := 9) (N := (some 39)) (v := ?_) (a' := ?_) #[true, true, true, true, true, true, true, true, true, true, false, false] rfl rfl (by kernel_rfl) (fun _ _ _ h => h) (Or.inl ⟨by rfl, ?_⟩) ?_ ?_
        rotate_left
        · intro w'
          go_simp
          with_reducible rfl
        rotate_left
        · simp only [Act.put, List.setIfInBounds_toArray, List.set_cons_zero, List.set_cons_succ, i64_w, i32_w]
          rfl
        refine pure_ (i := 10) (N := (some 40)) (v := ?_) (a' := ?_) #[true, true, true, true, true, true, true, true, true, true, true, false] rfl rfl (by kernel_rfl) (fun _ _ _ h => h) (Or.inl ⟨by rfl, ?_⟩) ?_ ?_
        rotate_left
        · intro w'
          go_simp
          with_reducible rfl
        rotate_left
        · simp only [Act.put, List.setIfInBounds_toArray, List.set_cons_zero, List.set_cons_succ, i64_w, i32_w]
          rfl
        refine pure_ (i := 11) (N := (some 41)) (v := ?_) (a' := ?_) #[true, true, true, true, true, true, true, true, true, true, true, true] rfl rfl (by kernel_rfl) (fun _ _ _ h => h) (Or.inl ⟨by rfl, ?_⟩) ?_ ?_
        rotate_left
        · intro w'
          go_simp
          with_reducible rfl
        rotate_left
        · simp only [Act.put, List.setIfInBounds_toArray, List.set_cons_zero, List.set_cons_succ, i64_w, i32_w]
          rfl
        refine done_ (by kernel_rfl) ?_
        go_wp2
        refine start_ (n := 6) (S := fun w' => w'.cell? ⟨M.lp, 0, none⟩ = some (.map (some Mk.b1)) ∧ MapV K29 w' Mk.b1 Mk.n1 (rowsF Mk.rs) ∧ w'.cell? ⟨n0, 0, none⟩ = some (.int .i64 t.f0) ∧ w'.cell? ⟨n0, 1, none⟩ = some (.string t.f1) ∧ w'.cell? ⟨n0, 2, none⟩ = some (.string t.f2)) (ds := [5]) #[false, false, false, false, false, false] (by kernel_rfl) rfl rfl ⟨(HLP.out ▸ (HS1.out.lpAt 0 rfl).1), HS1.out.mapAt 1 rfl, (blk_cell (HS1.out.blk 7 rfl) 0).trans rfl, (blk_cell (HS1.out.blk 7 rfl) 1).trans rfl, (blk_cell (HS1.out.blk 7 rfl) 2).trans rfl⟩ (fun hHeld => ?_)
        have HS2 := Aside0.mk (HS1.out.drew)
        clear HS1
        generalize w7.drew = w8 at HS2 hHeld  ⊢
        refine pure_ (i := 0) (N := (some 42)) (v := ?_) (a' := ?_) #[true, false, false, false, false, false] rfl rfl (by kernel_rfl) (fun _ _ _ h => h) (Or.inl ⟨by rfl, ?_⟩) ?_ ?_
        rotate_left
        · intro w'
          go_simp
          with_reducible rfl
        rotate_left
        · simp only [Act.put, List.setIfInBounds_toArray, List.set_cons_zero, List.set_cons_succ, i64_w, i32_w]
          rfl
        refine pure_ (i := 1) (N := (some 43)) (v := ?_) (a' := ?_) #[true, true, false, false, false, false] rfl rfl (by kernel_rfl) (fun _ _ _ h => h) (Or.inl ⟨by rfl, ?_⟩) ?_ ?_
        rotate_left
        · intro w'
          go_simp
          with_reducible rfl
        rotate_left
        · simp only [Act.put, List.setIfInBounds_toArray, List.set_cons_zero, List.set_cons_succ, i64_w, i32_w]
          rfl
        refine pure_ (i := 2) (N := (some 44)) (v := ?_) (a' := ?_) #[true, true, true, false, false, false] rfl rfl (by kernel_rfl) (fun _ _ _ h => h) (Or.inl ⟨by rfl, ?_⟩) ?_ ?_
        rotate_left
        · intro w'
          go_simp
          with_reducible rfl
        rotate_left
        · simp only [Act.put, List.setIfInBounds_toArray, List.set_cons_zero, List.set_cons_succ, i64_w, i32_w]
          rfl
        refine take_ (i := 3) (N := (some 45)) (v := ?_) (a' := ?_) #[true, true, true, true, false, false] rfl rfl (by kernel_rfl) (fun _ _ _ h => h) (Or.inl ⟨by rfl, ?_⟩) hHeld ?_ ?_
        rotate_left
        · rintro w' ⟨s0, s1, s2, s3, s4⟩
          go_simp
          with_reducible rfl
        rotate_left
        · simp only [Act.put, List.setIfInBounds_toArray, List.set_cons_zero, List.set_cons_succ, i64_w, i32_w]
          rfl
        refine take_ (i := 4) (N := (some 46)) (v := ?_) (a' := ?_) #[true, true, true, true, true, false] rfl rfl (by kernel_rfl) (fun _ _ _ h => h) (Or.inl ⟨by rfl, ?_⟩) hHeld ?_ ?_
        rotate_left
        · rintro w' ⟨s0, s1, s2, s3, s4⟩
          go_simp
          with_reducible rfl
        rotate_left
        · simp only [Act.put, List.setIfInBounds_toArray, List.set_cons_zero, List.set_cons_succ, i64_w, i32_w]
          rfl
        refine last_ (i := 5) (N := none) #[true, true, true, true, true, true] rfl rfl (by kernel_rfl) (by decide) (fun K_ hK => ?_)
        have hnd_ := HREPK.out.rn
        rw [HRS.out] at hnd_
        have hmt_ : m'.t = t := by rw [← HM'.out]; exact HMT.out
        obtain ⟨w9, hrun, hmap, hg⟩ := (HS2.out.mapAt (K := K29) (n := Mk.n1) (f := rowsF Mk.rs) 1 rfl).delete (f' := rowsF (X ++ Y)) Try.underlying55 (show K29.wf t from HT.out) 0 (by rw [← hmt_]; exact assoc_gone hnd_) (fun y hy => by rw [HRS.out]; exact (assoc_mid_ne (by rw [hmt_]; exact hy)).symm)
        refine delete0_ (.tmp 45) (.tmp 46) 55 29 (by rfl) rfl rfl _ _ (by rfl) (by rfl) hrun ?_
        have HS3 := Aside0.mk (HS2.out.mapTo 1 rfl hmap hg)
        clear HS2
        clear hrun hmap hg hnd_ hmt_
        refine hK.out _ _ ?_
        clear hK K_ hHeld
        refine done_ (by kernel_rfl) ?_
        go_wp2
        rw [← HR.out]
        refine ⟨{ Mk with rs := X ++ Y }, _, rfl, ?_, HLP.out, by have := HTOT.out; have := HOL.out; have := HNO.out; simp only [LM.tot] at *; omega, ?_⟩
        · rw [HFIN.out.1]
          refine HREPK.out.delR HRS.out ?_ _
          rw [fold_rows, ← HM'.out]
          show upd s.rows t (sweepR (s.rows t)).1 m.t = _
          have e1 : r'.holds = [] := List.length_eq_zero_iff.1 (by have := HNH.out; have := HZ.out; omega)
          have e2 : r'.waits = [] := List.length_eq_zero_iff.1 (by have := HNW.out; have := HZ.out; omega)
          rw [HMT.out, upd_same, HR'.out, show r' = ⟨r'.holds, r'.waits⟩ from rfl, e1, e2]
        · rw [HFIN.out.2]
          have h1 : St w F w9 (lkO { Mk with rs := X ++ Y } (X ++ m' :: Y) Mk.hs ++ [rowIC (.slice A i c) out, blkC n0 (.cells #[.int .i64 t.f0, .string t.f1, .string t.f2] 29 (0, 0))]) := by
            have h1 := HS3.out
            unfold lk lkO at h1
            rw [HRS.out] at h1
            exact h1
          exact St.left (A := lk { Mk with rs := X ++ Y } ++ [rowIC (.slice A i c) out]) (R := [_]) (St.drop (A := row3 m'.p m'.hv m'.wv m'.r) (St.openR h1))
      · have HZ := Aside0.mk h0
        refine start_ (n := 12) (S := fun w' => w'.cell? ⟨p, 0, none⟩ = some (.slice Ah nh ch) ∧ w'.cell? ⟨p, 1, none⟩ = some (.slice Aw nw cw)) (ds := []) #[false, false, false, false, false, false, false, false, false, false, false, false] (by kernel_rfl) rfl rfl ⟨HROW.out.c0, HROW.out.c1⟩ (fun hHeld => ?_)
        have HS1 := Aside0.mk (HSK.out.drew)
        clear HSK
        generalize wr.drew = w7 at HS1 hHeld  ⊢
        refine pure_ (i := 0) (N := (some 30)) (v := ?_) (a' := ?_) #[true, false, false, false, false, false, false, false, false, false, false, false] rfl rfl (by kernel_rfl) (fun _ _ _ h => h) (Or.inl ⟨by rfl, ?_⟩) ?_ ?_
        rotate_left
        · intro w'
          go_simp
          with_reducible rfl
        rotate_left
        · simp only [Act.put, List.setIfInBounds_toArray, List.set_cons_zero, List.set_cons_succ, i64_w, i32_w]
          rfl
        refine pure_ (i := 1) (N := (some 31)) (v := ?_) (a' := ?_) #[true, true, false, false, false, false, false, false, false, false, false, false] rfl rfl (by kernel_rfl) (fun _ _ _ h => h) (Or.inl ⟨by rfl, ?_⟩) ?_ ?_
        rotate_left
        · intro w'
          go_simp
          with_reducible rfl
        rotate_left
        · simp only [Act.put, List.setIfInBounds_toArray, List.set_cons_zero, List.set_cons_succ, i64_w, i32_w]
          rfl
        refine pure_ (i := 2) (N := (some 32)) (v := ?_) (a' := ?_) #[true, true, true, false, false, false, false, false, false, false, false, false] rfl rfl (by kernel_rfl) (fun _ _ _ h => h) (Or.inl ⟨by rfl, ?_⟩) ?_ ?_
        rotate_left
        · intro w'
          go_simp
          with_reducible rfl
        rotate_left
        · simp only [Act.put, List.setIfInBounds_toArray, List.set_cons_zero, List.set_cons_succ, i64_w, i32_w]
          rfl
        refine pure_ (i := 5) (N := (some 35)) (v := ?_) (a' := ?_) #[true, true, true, false, false, true, false, false, false, false, false, false] rfl rfl (by kernel_rfl) (fun _ _ _ h => h) (Or.inl ⟨by rfl, ?_⟩) ?_ ?_
        rotate_left
        · intro w'
          go_simp
          with_reducible rfl
        rotate_left
        · simp only [Act.put, List.setIfInBounds_toArray, List.set_cons_zero, List.set_cons_succ, i64_w, i32_w]
          rfl
        refine pure_ (i := 6) (N := (some 36)) (v := ?_) (a' := ?_) #[true, true, true, false, false, true, true, false, false, false, false, false] rfl rfl (by kernel_rfl) (fun _ _ _ h => h) (Or.inl ⟨by rfl, ?_⟩) ?_ ?_
        rotate_left
        · intro w'
          go_simp
          with_reducible rfl
        rotate_left
        · simp only [Act.put, List.setIfInBounds_toArray, List.set_cons_zero, List.set_cons_succ, i64_w, i32_w]
          rfl
        refine pure_ (i := 7) (N := (some 37)) (v := ?_) (a' := ?_) #[true, true, true, false, false, true, true, true, false, false, false, false] rfl rfl (by kernel_rfl) (fun _ _ _ h => h) (Or.inl ⟨by rfl, ?_⟩) ?_ ?_
        rotate_left
        · intro w'
          go_simp
          with_reducible rfl
        rotate_left
        · simp only [Act.put, List.setIfInBounds_toArray, List.set_cons_zero, List.set_cons_succ, i64_w, i32_w]
          rfl
        refine take_ (i := 3) (N := (some 33)) (v := ?_) (a' := ?_) #[true, true, true, true, false, true, true, true, false, false, false, false] rfl rfl (by kernel_rfl) (fun _ _ _ h => h) (Or.inl ⟨by rfl, ?_⟩) hHeld ?_ ?_
        rotate_left
        · rintro w' ⟨s0, s1⟩
          go_simp
          with_reducible rfl
        rotate_left
        · simp only [Act.put, List.setIfInBounds_toArray, List.set_cons_zero, List.set_cons_succ, i64_w, i32_w]
          rfl
        refine pure_ (i := 4) (N := (some 34)) (v := ?_) (a' := ?_) #[true, true, true, true, true, true, true, true, false, false, false, false] rfl rfl (by kernel_rfl) (fun _ _ _ h => h) (Or.inl ⟨by rfl, ?_⟩) ?_ ?_
        rotate_left
        · intro w'
          go_simp
          with_reducible rfl
        rotate_left
        · simp only [Act.put, List.setIfInBounds_toArray, List.set_cons_zero, List.set_cons_succ, i64_w, i32_w]
          rfl
        refine take_ (i := 8) (N := (some 38)) (v := ?_) (a' := ?_) #[true, true, true, true, true, true, true, true, true, false, false, false] rfl rfl (by kernel_rfl) (fun _ _ _ h => h) (Or.inl ⟨by rfl, ?_⟩) hHeld ?_ ?_
        rotate_left
        · rintro w' ⟨s0, s1⟩
          go_simp
          with_reducible rfl
        rotate_left
        · simp only [Act.put, List.setIfInBounds_toArray, List.set_cons_zero, List.set_cons_succ, i64_w, i32_w]
          rfl
        refine pure_ (i := 9) (N := (some 39)) (v := ?_) (a' := ?_) #[true, true, true, true, true, true, true, true, true, true, false, false] rfl rfl (by kernel_rfl) (fun _ _ _ h => h) (Or.inl ⟨by rfl, ?_⟩) ?_ ?_
        rotate_left
        · intro w'
          go_simp
          with_reducible rfl
        rotate_left
        · simp only [Act.put, List.setIfInBounds_toArray, List.set_cons_zero, List.set_cons_succ, i64_w, i32_w]
          rfl
        refine pure_ (i := 10) (N := (some 40)) (v := ?_) (a' := ?_) #[true, true, true, true, true, true, true, true, true, true, true, false] rfl rfl (by kernel_rfl) (fun _ _ _ h => h) (Or.inl ⟨by rfl, ?_⟩) ?_ ?_
        rotate_left
        · intro w'
          go_simp
          with_reducible rfl
        rotate_left
        · simp only [Act.put, List.setIfInBounds_toArray, List.set_cons_zero, List.set_cons_succ, i64_w, i32_w]
          rfl
        refine pure_ (i := 11) (N := (some 41)) (v := ?_) (a' := ?_) #[true, true, true, true, true, true, true, true, true, true, true, true] rfl rfl (by kernel_rfl) (fun _ _ _ h => h) (Or.inl ⟨by rfl, ?_⟩) ?_ ?_
        rotate_left
        · intro w'
          go_simp
          with_reducible rfl
        rotate_left
        · simp only [Act.put, List.setIfInBounds_toArray, List.set_cons_zero, List.set_cons_succ, i64_w, i32_w]
          rfl
        refine done_ (by kernel_rfl) ?_
        go_wp2
        rw [← HR.out]
        refine ⟨Mk, _, rfl, by rw [HFIN.out.1]; exact HREPK.out, HLP.out, by have := HTOT.out; have := HOL.out; have := HNO.out; omega, ?_⟩
        rw [HFIN.out.2]
        exact St.left (A := lk Mk ++ [rowIC (.slice A i c) out]) (R := [_]) HS1.out
    | succ gq =>
      have hin : i < no := by omega
      have hin2 : (i : Int) < (no : Int) := by omega
      have hi0 : (0 : Int) ≤ (i : Int) := by omega
      have hi9 : (i : Int) ≤ 1000000 := by have := HOL.out; rw [HNO.out] at this; omega
      obtain ⟨x, hx⟩ : ∃ x, out[i]? = some x := ⟨_, List.getElem?_eq_getElem (by rw [HNO.out]; exact hin)⟩
      have hrl : RowX intE wr (.slice A no c) out := HSK.out.rowX 6 rfl
      obtain ⟨g, c', hv, _⟩ := row_slice hrl (by rw [HNO.out]; omega)
      obtain ⟨rfl, rfl⟩ : A = some ⟨g, 0, none⟩ ∧ c = c' := by
        injection hv with e1 e2 e3
        exact ⟨e1, e3⟩
      have d0 := hrl.int hx
      have hgl : g < wr.heap.size := World.block_lt_of_cell? _ _ d0
      have hwx : wfI x := HWF.out x (List.mem_of_getElem? hx)
      have HXI := Aside0.mk hx
      have HWX := Aside0.mk hwx
      obtain ⟨w5, hrun, hrep5, hs5⟩ := delW HSK.out HREPK.out hwx 0
      have hoh := (OkH.fold (t := t) (out.take i) (s := swBase s t) (fun y => HH.out y)) x
      have HOH := Aside0.mk hoh
      have HTKL := Aside0.mk (show (out.take i).length ≤ 600 by rw [List.length_take]; have := HOL.out; omega)
      have A39 := Aside0.mk (note_fr (x := x) (t := t) hs5 hrep5 hwx HOH.out.1 (Nat.lt_of_le_of_lt HOH.out.2 (by have := HTKL.out; have := HNN.out; omega)) (by have := HTOT.out; have := HN.out; have := HOL.out; have := HNO.out; simp only [LM.tot] at *; simp only [maxLen]; omega))
      obtain ⟨f0, f1, f2, hlp5⟩ := hs5.lpAt 0 rfl
      rw [show ({ Mk with wt := upd ((out.take i).foldl (noted haddT t) (swBase s t)).waits x none } : LM).lp = M.lp from HLP.out] at f0 f1 f2 hlp5
      have g0 := (blk_cell (hs5.blk 7 rfl) 0).trans rfl
      have g1 := (blk_cell (hs5.blk 7 rfl) 1).trans rfl
      have g2 := (blk_cell (hs5.blk 7 rfl) 2).trans rfl
      have h05 := lt_of_some (hs5.blk 7 rfl)
      unfold lpV thgV at A39
      rw [show ({ Mk with wt := upd ((out.take i).foldl (noted haddT t) (swBase s t)).waits x none } : LM).lp = M.lp from HLP.out] at A39
      clear hx hv hrl hrep5 hs5 hwx hoh
      go_wp2_with ((go_at_call 39; (refine A39.out.mono ?_; rintro E w6 ⟨M6, rfl, k1, k2, k3, k4, k5⟩; have HSI6 := Aside0.mk (show SwI w F M s t (X ++ m' :: Y) out _ (i + 1) w6 from ⟨M6, (by rw [fold_take _ _ HXI.out]; exact k1), k2, k3.trans HRS.out, (by have := HTOT.out; simp only [LM.tot] at *; omega), k5⟩); clear k1 k2 k3 k4 k5 g0 g1 g2 h05 d0 hgl c0 c1 c2 hlp e0 e1 e2 h00 hrun f0 f1 f2 hlp5)))
      go_roundg gq
      case measure => omega
      case rel => exact ⟨i + 1, by go_num, by omega, HSI6⟩
end Go.Proofs.Kb
end
section
namespace Go.Proofs.Kb
open Go Go.RowKit Go.Proofs.Ytkcjcdkmdooofaa.Q Go.Proofs.YtkcjcdkmdooofaaW.PrintWords Go.Proofs.YtkcjcdkmdooofaaW.PrintLast Go.Proofs.YtkcjcdkmdooofaaW.PrintMore
set_option linter.unusedVariables false
set_option linter.unusedSimpArgs false
set_option maxRecDepth 100000
open Go.Proofs.Lk Go.Proofs.Mp
theorem erase_filter {l : List One} {x : Int} {i : Nat} (hn : (l.map (·.1)).Nodup) (h : l.findIdx? (isT x) = some i) : l.eraseIdx i = l.filter fun o => o.1 != x := by
  obtain ⟨hi, hp, hlow⟩ := List.findIdx?_eq_some_iff_getElem.1 h
  have hp2 : l[i].1 = x := eq_of_beq hp
  have e : l = l.take i ++ l[i] :: l.drop (i + 1) := by rw [List.getElem_cons_drop, List.take_append_drop]
  have h1 : ∀ o ∈ l.eraseIdx i, o.1 ≠ x := fun o ho => by
    have := nodup_ne hn (List.getElem?_eq_getElem hi) ho
    rw [hp2] at this
    exact this
  rw [List.eraseIdx_eq_take_drop_succ] at h1 ⊢
  conv => rhs; rw [e]
  rw [List.filter_append, List.filter_cons, if_neg (by simp [hp2])]
  have h2 := List.filter_eq_self.2 (fun o (ho : o ∈ l.take i ++ l.drop (i + 1)) => (show (o.1 != x) = true by simpa using h1 o ho))
  rw [List.filter_append] at h2
  exact h2.symm
structure OkS (N : Nat) (s : LS S29) : Prop where
  rows : ∀ t, OkR (s.rows t)
  held : OkH N s
  wt : ∀ x t, s.waits x = some t → wfT t
  ht : ∀ x, ∀ t ∈ s.held x, wfT t
section
variable {w0 w : World} {F : Nat → Prop} {R : List Chunk} {M : LM} {s : LS S29}
theorem lsweep_fr {t : S29} {N : Nat} (hs : St w0 F w (lk M ++ R)) (hr : Rep M s) (ht : wfT t) (hok : OkR (s.rows t)) (hh : OkH N s) (hN : N < 900000) (hn : M.tot < 4611686018427387904) :
    Calls Try.prog 46 #[lpV M, thgV t] w fun E w' => ∃ M' v, E = .returned v ∧ Rep M' (sweepS haddT s t).1 ∧ M'.lp = M.lp ∧ M'.tot ≤ M.tot + 601 ∧ St w0 F w' (lk M' ++ [rowIC v (sweepS haddT s t).2] ++ R) :=
  (lsweep_calls w M s t _ N (St.sub hs) hr ht hok hh hN hn).mono fun E w' ⟨M', v, h1, h2, h3, h4, h5⟩ => ⟨M', v, h1, h2, h3, h4, St.call hs h5⟩
theorem lookW {W : World} {x : Int} (hs : St w0 F W (lk M ++ R)) (hr : Rep M s) (hx : wfI x) : (Instr.lookup 56 (.map (some M.b2)) (.int .i64 x) true).run Try.prog W = .ok (.tuple #[((s.waits x).map thgV).getD (.agg #[.int .i64 0, .string ⟨#[]⟩, .string ⟨#[]⟩]), .bool (s.waits x).isSome]) W := by
  have h := (hs.mapAt (K := K3) (n := M.n2) (f := waitF M.wt) 2 rfl).lookup2 Try.underlying56 (z := .agg #[.int .i64 0, .string ⟨#[]⟩, .string ⟨#[]⟩]) (by kernel_rfl) (show K3.wf x from hx)
  rw [hr.ww] at h
  unfold waitF at h
  rw [Option.isSome_map] at h
  exact h
end
def Cancel26 (w : World) (F : Nat → Prop) (M : LM) (s : LS S29) (x : Int) (E : Ending) (w' : World) : Prop :=
  ∃ M' v, E = .returned v ∧ Rep M' (cancelS haddT s x).1 ∧ M'.lp = M.lp ∧ M'.tot ≤ M.tot + 700 ∧ St w F w' (lk M' ++ [rowIC v (cancelS haddT s x).2])
set_option maxHeartbeats 4000000 in
theorem cancel_calls (w : World) (M : LM) (s : LS S29) (x : Int) (F : Nat → Prop) (N : Nat) (hs : St w F w (lk M)) (hr : Rep M s) (hI : LInv s) (hx : wfI x) (hok : OkS N s) (hN : N < 900000) (hn : M.tot < 4000000000000000000) :
    Calls Try.prog 26 #[lpV M, .int .i64 x] w (Cancel26 w F M s x) := by
  obtain ⟨R, hR⟩ : ∃ R, Cancel26 w F M s x = R := ⟨_, rfl⟩
  have HR := Aside0.mk hR
  rw [hR]
  have hu55 := Try.underlying55
  have hu56 := Try.underlying56
  have hu59 := Try.underlying59
  have hu64 := Try.underlying64
  have hu62 := Try.underlying62
  have hu29 := Try.underlying29
  have hz29 := Try.sizeOf29
  obtain ⟨c0, c1, c2, hlp⟩ := hs.lpAt 0 rfl
  have hlk := lookW (R := []) hs hr hx
  unfold lpV
  cases hw : s.waits x with
  | none =>
    rw [hw] at hlk
    simp only [Option.map, Option.getD, Option.isSome] at hlk
    have HS := Aside0.mk (hs.alloc #[.int .i64 0, .string ⟨#[]⟩, .string ⟨#[]⟩] 29 rfl)
    have HREP := Aside0.mk hr
    have HW := Aside0.mk hw
    clear hR hs hr hI hx hok hN hn hw
    go_enter Try.func26, Try.ntmps26
    go_wp2
    all_goals (first | (rw [← HR.out]) | (go_ret; rw [← HR.out]))
    have e : cancelS haddT s x = (s, []) := by unfold cancelS; rw [HW.out]
    refine ⟨M, .slice none 0 0, rfl, by rw [e]; exact HREP.out, rfl, by omega, ?_⟩
    rw [e]
    have h1 := St.fresh (St.left (A := lk M) HS.out) (Below.refl _ _) (rowIC (.slice none 0 0) []) RowX.nil (nd_bl (.slice none 0 0)) (fun b hb => by simp [rowXC, bl] at hb; cases hb)
    exact h1.perm (perm_ix _ [1, 2, 3, 4, 5, 6, 0] 7 rfl (by decide))
  | some t =>
    rw [hw] at hlk
    simp only [Option.map, Option.getD, Option.isSome, thgV] at hlk
    have htw := hok.wt x t hw
    have HT := Aside0.mk htw
    obtain ⟨r0, hr0⟩ : ∃ r0, s.rows t = r0 := ⟨_, rfl⟩
    have hok0 : OkR r0 := hr0 ▸ hok.rows t
    have hha : has r0.waits x = true := hr0 ▸ (hI.ww x t).1 hw
    have hwn : (r0.waits.map (·.1)).Nodup := hr0 ▸ (hI.row t).wn
    obtain ⟨i, hfi⟩ : ∃ i, r0.waits.findIdx? (isT x) = some i := by
      cases hc : r0.waits.findIdx? (isT x) with
      | some i => exact ⟨i, rfl⟩
      | none =>
        have := (idx_neg r0.waits x).1 (by unfold idxI; rw [hc]; decide)
        rw [this] at hha
        cases hha
    have hil := (List.findIdx?_eq_some_iff_getElem.1 hfi).1
    have hij : idxI r0.waits (isT x) = i := by unfold idxI; rw [hfi]
    have her := erase_filter hwn hfi
    obtain ⟨nw, hnw⟩ : ∃ n, r0.waits.length = n := ⟨_, rfl⟩
    rw [hnw] at hil
    have hi0 : (0 : Int) ≤ (i : Int) := by omega
    have hi9 : (i : Int) ≤ 1000000 := by have := hok0.len; omega
    obtain ⟨n0, hn0⟩ : ∃ n, w.heap.size = n := ⟨_, rfl⟩
    have hs0 := hs.alloc #[.int .i64 t.f0, .string t.f1, .string t.f2] 29 hn0
    obtain ⟨W0, hW0⟩ : ∃ W0, w.alloc (.cells #[.int .i64 t.f0, .string t.f1, .string t.f2] 29) = W0 := ⟨_, rfl⟩
    rw [hW0] at hs0
    obtain ⟨w5, hrun, hrep5, hs5⟩ := delW hs0 hr hx 0
    obtain ⟨M5, hM5⟩ : ∃ M5, ({ M with wt := upd s.waits x none } : LM) = M5 := ⟨_, rfl⟩
    have hb2 : M.b2 = M5.b2 := by rw [← hM5]
    have hlp5 : M5.lp = M.lp := by rw [← hM5]
    have htot5 : M5.tot = M.tot := by rw [← hM5]; rfl
    rw [hM5] at hrep5 hs5
    have a0 := (hs0.lpAt 0 rfl)
    obtain ⟨a0, a1, a2, hlp0⟩ := a0
    obtain ⟨f0, f1, f2, hlp5'⟩ := hs5.lpAt 0 rfl
    rw [hlp5] at f0 f1 f2 hlp5'
    have g0 := (blk_cell (hs5.blk 6 rfl) 0).trans rfl
    have g1 := (blk_cell (hs5.blk 6 rfl) 1).trans rfl
    have g2 := (blk_cell (hs5.blk 6 rfl) 2).trans rfl
    have h05 := lt_of_some (hs5.blk 6 rfl)
    obtain ⟨r', hr'⟩ : ∃ r' : LRow, (⟨r0.holds, r0.waits.filter fun o => o.1 != x⟩ : LRow) = r' := ⟨_, rfl⟩
    have hokr' : OkR r' := by
      have h2 : (r0.waits.filter fun o => o.1 != x).length ≤ r0.waits.length := List.length_filter_le _ _
      rw [← hr']
      exact ⟨hok0.hn, by have := hok0.len; show r0.holds.length + (r0.waits.filter fun o => o.1 != x).length < 600; omega, fun o ho => hok0.wf o (List.mem_filter.1 ho).1⟩
    have A28 := Aside0.mk (row_fr (t := t) hs5 hrep5 htw (by have := htot5; simp only [LM.tot] at *; simp only [maxLen]; omega))
    unfold lpV thgV at A28
    rw [hlp5] at A28
    have hlen := hok0.len
    have HR0 := Aside0.mk hr0
    have HNW := Aside0.mk hnw
    have A47 := Aside0.mk (fun W g c (h : RowX oneE W (.slice (some ⟨g, 0, none⟩) nw c) r0.waits) => deleteO W g nw c i r0.waits (i : Int) ((i : Int) + 1) h hnw hil (by omega) rfl rfl)
    have HHELD := Aside0.mk (show OkH N ⟨upd s.rows t r', upd s.waits x none, s.held⟩ from fun y => hok.held y)
    have A46 := Aside0.mk (fun W M1 (R1 : List Chunk) (h1 : St w F W (lk M1 ++ R1)) (h2 : Rep M1 ⟨upd s.rows t r', upd s.waits x none, s.held⟩) (h3 : M1.tot ≤ M.tot + 1) => lsweep_fr h1 h2 htw (by show OkR (upd s.rows t r' t); rw [upd_same]; exact hokr') HHELD.out hN (by omega))
    unfold lpV thgV at A46
    have A29 := Aside0.mk (fun W p hv wv (h : RowH W p hv wv r0) => wait_calls W p hv wv r0 x h (by omega))
    rw [hij] at A29
    unfold ptr at A29
    have ecan : cancelS haddT s x = sweepS haddT ⟨upd s.rows t r', upd s.waits x none, s.held⟩ t := by unfold cancelS; rw [hw, ← hr', ← hr0]
    have HCAN := Aside0.mk ecan
    have HTOT5 := Aside0.mk htot5
    have HIL := Aside0.mk hil
    have HER := Aside0.mk her
    have HR'_ := Aside0.mk hr'
    have HLEN := Aside0.mk hlen
    have HLP5 := Aside0.mk hlp5
    rw [hb2] at hlk hrun a1 c1
    clear hR hs hr hI hx hok hok0 hr0 hnw hN hn hw htw hha hwn hfi hil hij her hs0 hrep5 hs5 hr' hokr' hlen ecan htot5 hM5 hb2 hlp5
    have G1 : True := trivial
    have G2 : True := trivial
    have G3 : True := trivial
    go_enter Try.func26, Try.ntmps26
    go_wp2_with (first
      | (clear G1; go_at_call 28; (refine A28.out.mono ?_; rintro E w2 ⟨M1, X, m, Y, rfl, k1, k2, k3, k4, k5, k6⟩; have HE := Aside0.mk k1; have HMT := Aside0.mk k2; have HREP1 := Aside0.mk k3; have HLP := Aside0.mk k4; have HTOT := Aside0.mk k5; have h1 := k6; unfold lk at h1; rw [k1] at h1; have h2 := St.openR h1; have hmr : m.r = r0 := ((k2 ▸ k3.rr m (k1 ▸ mem_mid.2 (.inl rfl)) : m.r = s.rows t).trans HR0.out); rw [hmr] at h2; have HS1 := Aside0.mk h2; clear h1 h2 hmr k1 k2 k3 k4 k5 k6 c0 c1 c2 hlp a0 a1 a2 hlp0 f0 f1 f2 hlp5' g0 g1 g2 h05 hlk hrun A28; unfold ptr))
      | (clear G2; go_at_call 29; refine (A29.out _ _ _ _ (St.rowH (R := lkO M1 (X ++ Y) M1.hs ++ [blkC n0 _]) HS1.out)).mono ?_; rintro E w3 ⟨rfl, hb⟩; have hs3 := HS1.out.below hb; clear hb HS1; obtain ⟨g, c, hwv, _⟩ := (hs3.rowX 2 rfl).fill (by have := HIL.out; rw [HNW.out]; omega); rw [hwv, HNW.out] at hs3; have HS3 := Aside0.mk hs3; obtain ⟨d0, d1, df⟩ := hs3.cells64 0 rfl; have hpl := World.block_lt_of_cell? _ _ d0; clear hs3 hwv)
      | (clear G3; go_at_call 47; refine (A47.out w3 g c (HS3.out.rowX 2 rfl)).mono ?_; rintro E w4 ⟨rfl, hrow, hgr⟩; have hs4 := HS3.out.rowTo 2 rfl hrow hgr (.inl rfl); clear d0 d1 df hpl hrow hgr; obtain ⟨d0, d1, df⟩ := hs4.cells64 0 rfl; have hpl := World.block_lt_of_cell? _ _ d0; have HS4 := Aside0.mk (hs4.put64b 0 rfl (.slice (some ⟨g, 0, none⟩) (nw - 1) c)); have e0 := (blk_cell (hs4.blk 9 rfl) 0).trans rfl; have e1 := (blk_cell (hs4.blk 9 rfl) 1).trans rfl; have e2 := (blk_cell (hs4.blk 9 rfl) 2).trans rfl; have h04 := lt_of_some (hs4.blk 9 rfl); have hne : m.p ≠ n0 := (fun e => hs4.apart 0 9 (by decide) rfl rfl m.p (by simp [cellC, blkC]) (by simp [blkC, e])); have hne2 : n0 ≠ m.p := (fun e => hne e.symm); clear hs4)
      | (go_at_call 46; go_loud (have h1 : St w F _ (row3 m.p m.hv (.slice (some ⟨g, 0, none⟩) (nw - 1) c) ⟨r0.holds, r0.waits.eraseIdx i⟩ ++ lkO M1 (X ++ Y) M1.hs ++ [blkC n0 _]) := HS4.out; rw [HER.out, HR'_.out] at h1; have h2 := St.closeR (m := ⟨m.t, m.p, m.hv, .slice (some ⟨g, 0, none⟩) (nw - 1) c, r'⟩) h1; rw [lk_setR (m' := ⟨m.t, m.p, m.hv, .slice (some ⟨g, 0, none⟩) (nw - 1) c, r'⟩) HE.out rfl rfl] at h2; have hrep := HREP1.out.setR HE.out m.hv (.slice (some ⟨g, 0, none⟩) (nw - 1) c) r'; rw [HMT.out] at hrep h2; have A := A46.out _ _ _ h2 hrep (by have := HTOT.out; have := HTOT5.out; simp only [LM.tot] at *; omega); rw [show ({ M1 with rs := X ++ ⟨t, m.p, m.hv, .slice (some ⟨g, 0, none⟩) (nw - 1) c, r'⟩ :: Y } : LM).lp = M.lp from HLP.out] at A; refine A.mono ?_; rintro E w6 ⟨M6, v, rfl, k1, k2, k3, k4⟩; have K1 := Aside0.mk k1; have K2 := Aside0.mk k2; have K3 := Aside0.mk k3; have HS6 := Aside0.mk k4; clear k1 k2 k3 k4 h1 h2 hrep A e0 e1 e2 d0 d1 df hpl h04 hne hne2)))
    rw [← HR.out]
    refine ⟨M6, v, rfl, by rw [HCAN.out]; exact K1.out, K2.out, by have := K3.out; have := HTOT.out; have := HTOT5.out; simp only [LM.tot] at *; omega, ?_⟩
    rw [HCAN.out]
    exact St.left (A := lk M6 ++ [rowIC v _]) (R := [_]) HS6.out
end Go.Proofs.Kb
end
section
namespace Go.Proofs.Kb
open Go Go.RowKit Go.Proofs.Ytkcjcdkmdooofaa.Q Go.Proofs.YtkcjcdkmdooofaaW.PrintWords Go.Proofs.YtkcjcdkmdooofaaW.PrintLast Go.Proofs.YtkcjcdkmdooofaaW.PrintMore
set_option linter.unusedVariables false
set_option linter.unusedSimpArgs false
set_option maxRecDepth 100000
open Go.Proofs.Lk Go.Proofs.Mp
section
variable {w0 w : World} {F : Nat → Prop} {R : List Chunk} {M : LM} {s : LS S29}
set_option maxHeartbeats 2000000 in
theorem things_fr {x : Int} (hs : St w0 F w (lk M ++ R)) (hr : Rep M s) (hx : wfI x) (hl : (s.held x).length < 1000000) :
    Calls Try.prog 20 #[lpV M, .int .i64 x] w fun E w' => ∃ v, E = .returned v ∧ St w0 F w' (rowTC v (s.held x) :: (lk M ++ R)) := by
  obtain ⟨Q, hQ⟩ : ∃ Q, (fun E w' => ∃ v, E = Ending.returned v ∧ St w0 F w' (rowTC v (s.held x) :: (lk M ++ R))) = Q := ⟨_, rfl⟩
  have HQ := Aside0.mk hQ
  rw [hQ]
  have hu59 := Try.underlying59
  obtain ⟨hs0, v, hv⟩ := hview hr x
  have hlk := (hs.mapAt (K := K3) (n := M.n3) (f := heldF M.hs) 3 rfl).lookup Try.underlying57 (zero45 w) (show K3.wf x from hx)
  rw [hv.look] at hlk
  change (Instr.lookup 57 (.map (some M.b3)) (.int .i64 x) false).run Try.prog w = .ok v w at hlk
  have hrow : RowX thgE w v (s.held x) := (hv.opn hs).rowX 0 rfl
  obtain ⟨c0, c1, c2, hlp⟩ := hs.lpAt 0 rfl
  have HC := Aside0.mk (cloneT w v (s.held x) hrow hl)
  have HS := Aside0.mk hs
  obtain ⟨A, c, rfl⟩ := hrow.form
  clear hQ hr hx hl hv hrow hs
  unfold lpV
  go_enter Try.func20, Try.ntmps20
  go_wp2_with (go_at_call 41; refine HC.out.mono ?_; rintro E w2 ⟨v', rfl, k⟩; have HS2 := Aside0.mk (St.call0 HS.out k); clear k)
  rw [← HQ.out]
  exact ⟨v', rfl, HS2.out⟩
theorem delH {x : Int} (hs : St w0 F w (lk M ++ R)) (hr : Rep M s) (hx : wfI x) (ty : TypeId) : ∃ w' M', (Builtin.delete_ #[57, 3] ty #[.map (some M.b3), .int .i64 x]).run Try.prog w = .ok (.tuple #[]) w' ∧
    Rep M' ⟨s.rows, s.waits, upd s.held x []⟩ ∧ M'.lp = M.lp ∧ M'.tot = M.tot ∧ St w0 F w' (lk M' ++ R) := by
  cases hf : heldF M.hs x with
  | none =>
    obtain ⟨w', h1, h2, h3⟩ := (hs.mapAt (K := K3) (n := M.n3) (f := heldF M.hs) 3 rfl).delete (f' := heldF M.hs) Try.underlying57 (show K3.wf x from hx) ty hf (fun y hy => rfl)
    exact ⟨w', { M with n3 := M.n3 }, h1, hr.noH (assoc_none.1 hf) _, rfl, rfl, hs.mapTo 3 rfl h2 h3⟩
  | some u =>
    obtain ⟨X, m, Y, e, rfl, rfl⟩ := assoc_some hf
    have hnd := hr.hn
    rw [e] at hnd
    obtain ⟨w', h1, h2, h3⟩ := (hs.mapAt (K := K3) (n := M.n3) (f := heldF M.hs) 3 rfl).delete (f' := heldF (X ++ Y)) Try.underlying57 (show K3.wf m.x from hx) ty (assoc_gone hnd) (fun y hy => by rw [e]; exact (assoc_mid_ne hy).symm)
    refine ⟨w', { M with hs := X ++ Y, n3 := M.n3 }, h1, hr.delH e _, rfl, rfl, ?_⟩
    have h4 : St w0 F w' (lkO { M with hs := X ++ Y, n3 := M.n3 } M.rs (X ++ m :: Y) ++ R) := by
      have h4 := hs.mapTo 3 rfl h2 h3
      unfold lk lkO at h4
      rw [e] at h4
      exact h4
    exact St.drop (A := [_]) (St.openH h4)
end
def dropS (s : LS S29) (x : Int) (all : List S29) (i : Nat) : LS S29 := ⟨fun t => if t ∈ all.take i then dropR (s.rows t) x else s.rows t, upd s.waits x none, upd s.held x []⟩
theorem drop_drop (r : LRow) (x : Int) : dropR (dropR r x) x = dropR r x := by
  unfold dropR
  simp only [List.filter_filter, Bool.and_self]
theorem dropS_step {s : LS S29} {x : Int} {all : List S29} {i : Nat} {t : S29} (h : all[i]? = some t) : (⟨upd (dropS s x all i).rows t (dropR ((dropS s x all i).rows t) x), (dropS s x all i).waits, (dropS s x all i).held⟩ : LS S29) = dropS s x all (i + 1) := by
  unfold dropS
  congr 1
  funext u
  have e : all.take (i + 1) = all.take i ++ [t] := by rw [List.take_add_one, h]; rfl
  simp only [e, List.mem_append, List.mem_singleton]
  by_cases hu : u = t
  · subst hu
    rw [upd_same]
    by_cases hm : u ∈ all.take i
    · simp [hm, drop_drop]
    · simp [hm]
  · rw [upd_other hu]
    simp [hu]
theorem sweepsS_snoc : ∀ (l : List S29) (t : S29) (s : LS S29), sweepsS haddT (l ++ [t]) s = ((sweepS haddT (sweepsS haddT l s).1 t).1, (sweepsS haddT l s).2 ++ (sweepS haddT (sweepsS haddT l s).1 t).2)
  | [], t, s => by simp [sweepsS]
  | u :: l, t, s => by
    rw [List.cons_append]
    simp only [sweepsS]
    rw [sweepsS_snoc l t]
    simp
def OkRows (s : LS S29) : Prop := ∀ t, OkR (s.rows t)
theorem sweepS_ok {s : LS S29} {N : Nat} (h : OkRows s) (hh : OkH N s) (t : S29) : OkRows (sweepS haddT s t).1 ∧ OkH (N + 600) (sweepS haddT s t).1 ∧ (sweepS haddT s t).2.length ≤ 600 := by
  have hl : (sweepR (s.rows t)).2.length ≤ 600 := by
    have h1 := (sweepA_len ((s.rows t).waits.length + 1) (s.rows t) 0).1
    have h2 := (h t).len
    show (sweepA ((s.rows t).waits.length + 1) (s.rows t) 0).2.length ≤ 600
    omega
  refine ⟨fun u => ?_, ?_, hl⟩
  · show OkR (((sweepR (s.rows t)).2.foldl (noted haddT t) ⟨upd s.rows t (sweepR (s.rows t)).1, s.waits, s.held⟩).rows u)
    rw [fold_rows]
    show OkR (upd s.rows t (sweepR (s.rows t)).1 u)
    by_cases hu : u = t
    · rw [hu, upd_same]
      exact (h t).sweep
    · rw [upd_other hu]
      exact h u
  · intro y
    have := OkH.fold (t := t) (sweepR (s.rows t)).2 (s := ⟨upd s.rows t (sweepR (s.rows t)).1, s.waits, s.held⟩) (N := N) (fun z => hh z) y
    exact ⟨this.1, Nat.le_trans this.2 (by omega)⟩
theorem sweepsS_ok : ∀ (l : List S29) {s : LS S29} {N : Nat}, OkRows s → OkH N s → OkRows (sweepsS haddT l s).1 ∧ OkH (N + 600 * l.length) (sweepsS haddT l s).1 ∧ (sweepsS haddT l s).2.length ≤ 600 * l.length
  | [], s, N, h, hh => ⟨h, hh, Nat.le_refl _⟩
  | t :: l, s, N, h, hh => by
    obtain ⟨h1, h2, h3⟩ := sweepS_ok h hh t
    obtain ⟨k1, k2, k3⟩ := sweepsS_ok l h1 h2
    simp only [sweepsS, List.length_cons, List.length_append]
    refine ⟨k1, fun y => ⟨(k2 y).1, Nat.le_trans (k2 y).2 (by omega)⟩, by omega⟩
theorem dropS_ok {s : LS S29} {x : Int} {all : List S29} {i : Nat} (h : ∀ t, OkR (s.rows t)) : OkRows (dropS s x all i) := fun t => by
  unfold dropS
  show OkR (if t ∈ all.take i then dropR (s.rows t) x else s.rows t)
  split
  · exact (h t).drop x
  · exact h t
theorem dropS_held {s : LS S29} {x : Int} {all : List S29} {i N : Nat} (h : OkH N s) (hN : N ≤ 1000) : OkH 1000 (dropS s x all i) := fun y => by
  show Sorted (upd s.held x [] y) ∧ (upd s.held x [] y).length ≤ 1000
  by_cases hy : y = x
  · rw [hy, upd_same]
    exact ⟨List.Pairwise.nil, Nat.zero_le _⟩
  · rw [upd_other hy]
    exact ⟨(h y).1, Nat.le_trans (h y).2 hN⟩
def RelA (w : World) (F : Nat → Prop) (M : LM) (s : LS S29) (x : Int) (all : List S29) (R : List Chunk) (i : Nat) (W : World) : Prop :=
  ∃ Mk, Rep Mk (dropS s x all i) ∧ Mk.lp = M.lp ∧ Mk.tot ≤ M.tot + i ∧ St w F W (lk Mk ++ R)
def RelB (w : World) (F : Nat → Prop) (M : LM) (s : LS S29) (x : Int) (all : List S29) (R : List Chunk) (i : Nat) (v : Value) (W : World) : Prop :=
  ∃ Mk, Rep Mk (sweepsS haddT (all.take i) (dropS s x all all.length)).1 ∧ Mk.lp = M.lp ∧ Mk.tot ≤ M.tot + all.length + 601 * i ∧ St w F W (lk Mk ++ [rowIC v (sweepsS haddT (all.take i) (dropS s x all all.length)).2] ++ R)
def Release21 (w : World) (F : Nat → Prop) (M : LM) (s : LS S29) (x : Int) (E : Ending) (w' : World) : Prop :=
  ∃ M' v, E = .returned v ∧ Rep M' (releaseS haddT s x).1 ∧ M'.lp = M.lp ∧ M'.tot ≤ M.tot + 1000000 ∧ St w F w' (lk M' ++ [rowIC v (releaseS haddT s x).2])
set_option maxHeartbeats 4000000 in
theorem release_calls (w : World) (M : LM) (s : LS S29) (x : Int) (F : Nat → Prop) (N : Nat) (hs : St w F w (lk M)) (hr : Rep M s) (hwx : wfI x) (hok : OkS N s) (hN : N ≤ 1000) (hn : M.tot < 4000000000000000000) :
    Calls Try.prog 21 #[lpV M, .int .i64 x] w (Release21 w F M s x) := by
  obtain ⟨R, hR⟩ : ∃ R, Release21 w F M s x = R := ⟨_, rfl⟩
  have HR := Aside0.mk hR
  rw [hR]
  have hu55 := Try.underlying55
  have hu56 := Try.underlying56
  have hu57 := Try.underlying57
  have hu59 := Try.underlying59
  have hu29 := Try.underlying29
  have hu45 := Try.underlying45
  have hu39 := Try.underlying39
  have hz29 := Try.sizeOf29
  have HREP := Aside0.mk hr
  have HOK := Aside0.mk hok
  have HN := Aside0.mk hN
  have HTOT := Aside0.mk hn
  have HWX := Aside0.mk hwx
  obtain ⟨l, hl⟩ : ∃ l, s.held x = l := ⟨_, rfl⟩
  have HL := Aside0.mk hl
  have hll : l.length ≤ 1000 := by rw [← hl]; exact Nat.le_trans (hok.held x).2 hN
  have hlso : Sorted l := hl ▸ (hok.held x).1
  have HLL := Aside0.mk hll
  have HLS := Aside0.mk hlso
  have A20 := Aside0.mk (things_fr (R := []) hs hr hwx (by rw [hl]; omega))
  rw [hl] at A20
  unfold lpV at A20
  have A56 := Aside0.mk (fun W (R1 : List Chunk) (h : St w F W (lk M ++ R1)) => lookW h hr hwx)
  clear hR hs hr hok hN hn hwx hl hll hlso
  unfold lpV
  cases hw : s.waits x with
  | none =>
    rw [hw] at A56
    simp only [Option.map, Option.getD, Option.isSome] at A56
    have HW := Aside0.mk hw
    clear hw
    go_enter Try.func21, Try.ntmps21
    go_wp2_with (go_at_call 20; refine A20.out.mono ?_; rintro E w1 ⟨v, rfl, hs1⟩; have hs2 : St w F w1 (lk M ++ [rowTC v l]) := (hs1.perm (perm_ix _ [1, 2, 3, 4, 5, 6, 0] 7 rfl (by decide))); have hlk := A56.out w1 _ hs2; obtain ⟨A, c, rfl⟩ := (hs2.rowX 6 rfl).form; obtain ⟨n, hnn⟩ : ∃ n, l.length = n := ⟨_, rfl⟩; rw [hnn] at hs2 ⊢; have HNN := Aside0.mk hnn; obtain ⟨b0, b1, b2, blp⟩ := hs2.lpAt 0 rfl; have hsX := St.left (A := lk M ++ [rowTC (.slice A n c) l]) (hs2.alloc #[.int .i64 0, .string ⟨#[]⟩, .string ⟨#[]⟩] 29 rfl); clear hs1 hs2 hnn; obtain ⟨c0, c1, c2, hlp⟩ := hsX.lpAt 0 rfl; obtain ⟨w5, hrun5, hrep5, hs5⟩ := delW hsX HREP.out HWX.out 0; obtain ⟨M5, hM5⟩ : ∃ M5, ({ M with wt := upd s.waits x none } : LM) = M5 := ⟨_, rfl⟩; have hlp5 : M5.lp = M.lp := (by rw [← hM5]); have htot5 : M5.tot = M.tot := (by rw [← hM5]; rfl); rw [hM5] at hrep5 hs5; obtain ⟨w6, M6, hrun6, hrep6, hlp6, htot6, hs6⟩ := delH hs5 hrep5 HWX.out 0; obtain ⟨f0, f1, f2, flp⟩ := hs5.lpAt 0 rfl; rw [hlp5] at f0 f1 f2 flp; have HSA0 := Aside0.mk (show RelA w F M s x (l) [rowTC (.slice A n c) (l)] 0 w6 from ⟨M6, hrep6, hlp6.trans hlp5, (by rw [htot6, htot5]; exact Nat.le_refl _), hs6⟩); clear hsX hrep5 hs5 hM5 hlp5 htot5 hrep6 hlp6 htot6 hs6)
    have HALL := Aside0.mk (show allT haddT s x = l by unfold allT; rw [HW.out]; dsimp only; rw [HL.out]; skip)
    have HWFA := Aside0.mk (show ∀ u ∈ l, wfT u from fun u hu => by exact HOK.out.ht x u (by rw [HL.out]; exact hu))
    obtain ⟨all, hall⟩ : ∃ all, l = all := ⟨_, rfl⟩
    have HNA := Aside0.mk (show all.length = n by rw [← hall]; exact HNN.out)
    rw [hall] at HSA0 HALL HWFA
    have HNL := Aside0.mk (show n ≤ 1001 by have := HLL.out; have := HNN.out; omega)
    clear hall
    clear c0 c1 c2 hlp f0 f1 f2 flp hrun5 hrun6 b0 b1 b2 blp hlk
    go_loopg [11, 53] n (fun gq v11 v53 wx => ∃ i : Nat, v53 = .int .i64 i ∧ i + gq = n ∧ Aside0 (RelA w F M s x all [rowTC (.slice A n c) all] i wx))
    case atStart => exact ⟨0, rfl, by omega, HSA0⟩
    case round =>
      clear HSA0
      obtain ⟨i, rfl, hi, HRA⟩ := hrel
      cases gk with
      | zero =>
        obtain rfl : i = n := by omega
        go_wp2
        have HSB0 := Aside0.mk (show RelB w F M s x all [rowTC (.slice A i c) all] 0 (.slice none 0 0) wr by
          obtain ⟨Mk, k1, k2, k3, k4⟩ := HRA.out
          have h1 := k4.fresh (Below.refl _ _) (rowIC (.slice none 0 0) []) RowX.nil (nd_bl (.slice none 0 0)) (fun b hb => by simp [rowXC, bl] at hb; cases hb)
          exact ⟨Mk, by rw [List.take_zero, HNA.out]; exact k1, k2, by rw [HNA.out]; omega, h1.perm (perm_ix _ [1, 2, 3, 4, 5, 6, 0, 7] 8 rfl (by decide))⟩)
        clear HRA
        go_loopg [12, 14, 65] i (fun gq v12 v14 v65 wx => ∃ (j : Nat) (A2 : Option Addr) (n2 c2 : Nat), v65 = .int .i64 j ∧ v12 = .slice A2 n2 c2 ∧ j + gq = i ∧ Aside0 (RelB w F M s x all [rowTC (.slice A i c) all] j (.slice A2 n2 c2) wx))
        case atStart => exact ⟨0, none, 0, 0, rfl, rfl, by omega, HSB0⟩
        case round =>
          clear HSB0
          obtain ⟨j, A2, n2, c2, rfl, rfl, hj, HRB⟩ := hrel
          cases gk with
          | zero =>
            obtain rfl : j = i := by omega
            go_wp2
            rw [← HR.out]
            obtain ⟨Mk, k1, k2, k3, k4⟩ := HRB.out
            have e : releaseS haddT s x = sweepsS haddT (all.take j) (dropS s x all all.length) := by
              unfold releaseS dropS
              rw [HALL.out, List.take_of_length_le (by rw [HNA.out]; exact Nat.le_refl _), List.take_of_length_le (Nat.le_refl _)]
            refine ⟨Mk, _, rfl, by rw [e]; exact k1, k2, by have := HNA.out; have := HNL.out; omega, ?_⟩
            rw [e]
            exact St.left (A := lk Mk ++ [rowIC _ _]) k4
          | succ gq =>
            have hin : j < i := by omega
            have hin2 : (j : Int) < (i : Int) := by omega
            have hi0 : (0 : Int) ≤ (j : Int) := by omega
            have hi9 : (j : Int) ≤ 1000000 := by have := HNL.out; omega
            obtain ⟨Mk, k1, k2, k3, k4⟩ := HRB.out
            obtain ⟨u, hu⟩ : ∃ u, all[j]? = some u := ⟨_, List.getElem?_eq_getElem (by rw [HNA.out]; exact hin)⟩
            have hrl : RowX thgE wr (.slice A i c) all := k4.rowX 7 rfl
            obtain ⟨g, cc, hv, _⟩ := row_slice hrl (by rw [HNA.out]; omega)
            obtain ⟨rfl, rfl⟩ : A = some ⟨g, 0, none⟩ ∧ c = cc := by
              injection hv with e1 e2 e3
              exact ⟨e1, e3⟩
            obtain ⟨d0, d1, d2⟩ := hrl.thg hu
            have hgl : g < wr.heap.size := World.block_lt_of_cell? _ _ d0
            obtain ⟨n14, hn14⟩ : ∃ n, wr.heap.size = n := ⟨_, rfl⟩
            obtain ⟨W4, hW4⟩ : ∃ W4, wr.alloc (.cells #[.int .i64 u.f0, .string u.f1, .string u.f2] 29) = W4 := ⟨_, rfl⟩
            have hsa := k4.alloc #[.int .i64 u.f0, .string u.f1, .string u.f2] 29 hn14
            rw [hW4] at hsa
            have hsa' : St w F W4 (lk Mk ++ [rowIC (.slice A2 n2 c2) _, rowTC (.slice (some ⟨g, 0, none⟩) i c) all, blkC n14 (.cells #[.int .i64 u.f0, .string u.f1, .string u.f2] 29 (0, 0))]) := hsa
            have e0 := (blk_cell (hsa.blk 8 rfl) 0).trans rfl
            have e1 := (blk_cell (hsa.blk 8 rfl) 1).trans rfl
            have e2 := (blk_cell (hsa.blk 8 rfl) 2).trans rfl
            have h00 := lt_of_some (hsa.blk 8 rfl)
            obtain ⟨o1, o2, o3⟩ := sweepsS_ok (all.take j) (s := dropS s x all all.length) (N := 1000) (dropS_ok HOK.out.rows) (fun y => dropS_held HOK.out.held HN.out y)
            have hjl : (all.take j).length = j := by rw [List.length_take, HNA.out]; omega
            rw [hjl] at o2 o3
            have A46 := Aside0.mk (lsweep_fr (N := 1000 + 600 * j) hsa' k1 (HWFA.out u (List.mem_of_getElem? hu)) (o1 u) o2 (by have := HNL.out; omega) (by have := HTOT.out; have := HNL.out; have := HNA.out; omega))
            unfold lpV thgV at A46
            rw [k2] at A46
            have hsn : sweepsS haddT (all.take (j + 1)) (dropS s x all all.length) = ((sweepS haddT (sweepsS haddT (all.take j) (dropS s x all all.length)).1 u).1, (sweepsS haddT (all.take j) (dropS s x all all.length)).2 ++ (sweepS haddT (sweepsS haddT (all.take j) (dropS s x all all.length)).1 u).2) := by
              rw [List.take_add_one, hu]
              exact sweepsS_snoc _ _ _
            obtain ⟨q, hq⟩ : ∃ q, sweepsS haddT (all.take j) (dropS s x all all.length) = q := ⟨_, rfl⟩
            rw [hq] at A46 hsn o1 o3
            have hlen2 := (sweepS_ok o1 (hq ▸ o2) u).2.2
            obtain ⟨out, hout⟩ : ∃ out, (sweepS haddT q.1 u).2 = out := ⟨_, rfl⟩
            rw [hout] at A46 hsn hlen2
            have HSN := Aside0.mk hsn
            have HO3 := Aside0.mk o3
            have HL2 := Aside0.mk hlen2
            have HTK := Aside0.mk k3
            clear hu hv hrl hsa hsa' k1 k2 k3 k4 o1 o2 o3 hjl hsn hq hlen2 HRB hout
            go_wp2_with (first
              | (go_at_call 46; refine A46.out.mono ?_; rintro E w7 ⟨M7, v7, rfl, k1, k2, k3, k4⟩; obtain ⟨A3, c3, rfl⟩ := (k4.rowX 6 rfl).form; obtain ⟨n3, hn3⟩ : ∃ n, out.length = n := ⟨_, rfl⟩; rw [hn3] at k4 ⊢; have K1 := Aside0.mk k1; have K2 := Aside0.mk k2; have K3 := Aside0.mk k3; have HS7 := Aside0.mk k4; clear k1 k2 k3 k4 hn3 d0 d1 d2 e0 e1 e2 h00 hgl A46)
              | (at_builtin; obtain ⟨v8, w8, hrun, hrow, hgrow, hown⟩ := appendsXX intI 39 (HS7.out.rowX 7 rfl) (HS7.out.rowX 6 rfl) (by have := HO3.out; have := HL2.out; have := HNL.out; omega); have h8 := HS7.out.rowTo 7 rfl hrow hgrow hown; obtain ⟨A4, c4, rfl⟩ := hrow.form; obtain ⟨n4, hn4⟩ : ∃ n, (q.2 ++ out).length = n := ⟨_, rfl⟩; rw [hn4] at h8 hrun; have HS8 := Aside0.mk h8; refine wpList_append_run rfl (.tmp 69) (.tmp 72) 39 39 rfl _ _ rfl rfl hrun ?_; clear h8 hrun hrow hgrow hown hn4))
            go_roundg gq
            case measure => omega
            case rel =>
              refine ⟨j + 1, A4, n4, c4, by go_num, rfl, by omega, Aside0.mk ⟨M7, by rw [HSN.out]; exact K1.out, K2.out, by have := K3.out; have := HTK.out; omega, ?_⟩⟩
              rw [HSN.out]
              have h9 := HS8.out.perm (B := lk M7 ++ [rowIC (.slice A4 n4 c4) (q.2 ++ out)] ++ [rowTC (.slice (some ⟨g, 0, none⟩) i c) all] ++ [rowIC (.slice A3 n3 c3) out, blkC n14 (.cells #[.int .i64 u.f0, .string u.f1, .string u.f2] 29 (0, 0))]) (perm_ix _ [0, 1, 2, 3, 4, 5, 7, 8, 6, 9] 10 rfl (by decide))
              exact St.left (A := lk M7 ++ [rowIC (.slice A4 n4 c4) (q.2 ++ out)] ++ [rowTC (.slice (some ⟨g, 0, none⟩) i c) all]) h9
      | succ gq =>
        have hin : i < n := by omega
        have hin2 : (i : Int) < (n : Int) := by omega
        have hi0 : (0 : Int) ≤ (i : Int) := by omega
        have hi9 : (i : Int) ≤ 1000000 := by have := HNL.out; omega
        obtain ⟨Mk, k1, k2, k3, k4⟩ := HRA.out
        obtain ⟨u, hu⟩ : ∃ u, all[i]? = some u := ⟨_, List.getElem?_eq_getElem (by rw [HNA.out]; exact hin)⟩
        have hrl : RowX thgE wr (.slice A n c) all := k4.rowX 6 rfl
        obtain ⟨g, cc, hv, _⟩ := row_slice hrl (by rw [HNA.out]; omega)
        obtain ⟨rfl, rfl⟩ : A = some ⟨g, 0, none⟩ ∧ c = cc := by
          injection hv with e1 e2 e3
          exact ⟨e1, e3⟩
        obtain ⟨d0, d1, d2⟩ := hrl.thg hu
        have hgl : g < wr.heap.size := World.block_lt_of_cell? _ _ d0
        obtain ⟨n11, hn11⟩ : ∃ n, wr.heap.size = n := ⟨_, rfl⟩
        obtain ⟨W4, hW4⟩ : ∃ W4, wr.alloc (.cells #[.int .i64 u.f0, .string u.f1, .string u.f2] 29) = W4 := ⟨_, rfl⟩
        have hsa := k4.alloc #[.int .i64 u.f0, .string u.f1, .string u.f2] 29 hn11
        rw [hW4] at hsa
        have hsa' : St w F W4 (lk Mk ++ [rowTC (.slice (some ⟨g, 0, none⟩) n c) all, blkC n11 (.cells #[.int .i64 u.f0, .string u.f1, .string u.f2] 29 (0, 0))]) := hsa
        have e0 := (blk_cell (hsa.blk 7 rfl) 0).trans rfl
        have e1 := (blk_cell (hsa.blk 7 rfl) 1).trans rfl
        have e2 := (blk_cell (hsa.blk 7 rfl) 2).trans rfl
        have h00 := lt_of_some (hsa.blk 7 rfl)
        have A28 := Aside0.mk (row_fr hsa' k1 (HWFA.out u (List.mem_of_getElem? hu)) (by have := HTOT.out; have := HNL.out; simp only [LM.tot] at *; simp only [maxLen]; omega))
        unfold lpV thgV at A28
        rw [k2] at A28
        have HOKU := Aside0.mk (dropS_ok (x := x) (all := all) (i := i) HOK.out.rows u)
        have HST := Aside0.mk (dropS_step (s := s) (x := x) hu)
        have HTK := Aside0.mk k3
        have A45 := Aside0.mk (fun W p hv wv (h : St W (fun b => b ∈ fpc (row3 p hv wv ((dropS s x all i).rows u))) W (row3 p hv wv ((dropS s x all i).rows u))) => drop_calls W p hv wv _ x _ h (by have := HOKU.out.len; omega) (by have := HOKU.out.len; omega))
        unfold ptr at A45
        clear hu hv hrl hsa hsa' k1 k2 k3 k4 HRA
        go_wp2_with (first
          | (go_at_call 28; refine A28.out.mono ?_; rintro E w7 ⟨M1, X, m, Y, rfl, k1, k2, k3, k4, k5, k6⟩; have HE := Aside0.mk k1; have HMT := Aside0.mk k2; have HREP1 := Aside0.mk k3; have HLP := Aside0.mk k4; have HTOT1 := Aside0.mk k5; have h1 := k6; unfold lk at h1; rw [k1] at h1; have h2 := St.openR h1; have hmr : m.r = (dropS s x all i).rows u := (k2 ▸ k3.rr m (k1 ▸ mem_mid.2 (.inl rfl))); rw [hmr] at h2; have HS1 := Aside0.mk h2; clear h1 h2 hmr k1 k2 k3 k4 k5 k6 d0 d1 d2 e0 e1 e2 h00 hgl A28; unfold ptr)
          | (go_at_call 45; refine (A45.out _ _ _ _ (St.sub (A := row3 m.p m.hv m.wv _) (R := lkO M1 (X ++ Y) M1.hs ++ [_, _]) HS1.out)).mono ?_; rintro E w8 ⟨rfl, hv3, wv3, k⟩; have h2 := St.call (A := row3 m.p m.hv m.wv _) (R := lkO M1 (X ++ Y) M1.hs ++ [_, _]) HS1.out k; have h3 := St.closeR (m := ⟨m.t, m.p, hv3, wv3, dropR ((dropS s x all i).rows u) x⟩) h2; rw [lk_setR (m' := ⟨m.t, m.p, hv3, wv3, dropR ((dropS s x all i).rows u) x⟩) HE.out rfl rfl] at h3; have hrep := HREP1.out.setR HE.out hv3 wv3 (dropR ((dropS s x all i).rows u) x); rw [HMT.out] at hrep h3; rw [HST.out] at hrep; have HRA1 := Aside0.mk (show RelA w F M s x all [rowTC (.slice (some ⟨g, 0, none⟩) n c) all] (i + 1) w8 from ⟨_, hrep, HLP.out, (by have := HTOT1.out; have := HTK.out; simp only [LM.tot] at *; omega), St.left (A := lk _ ++ [_]) h3⟩); clear h2 h3 hrep k))
        go_roundg gq
        case measure => omega
        case rel => exact ⟨i + 1, by go_num, by omega, HRA1⟩
  | some t =>
    rw [hw] at A56
    simp only [Option.map, Option.getD, Option.isSome, thgV] at A56
    have HW := Aside0.mk hw
    have HT := Aside0.mk (HOK.out.wt x t hw)
    clear hw
    have A42 := Aside0.mk (fun W v (h : RowX thgE W v l) => bsearch W v l t h (by have := HLL.out; omega) (HLS.out.mono t))
    have G1 : True := trivial
    cases hfo : found l t with
    | true =>
      rw [hfo] at A42
      go_enter Try.func21, Try.ntmps21
      go_wp2_with (first
        | (clear G1; go_at_call 20; refine A20.out.mono ?_; rintro E w1 ⟨v, rfl, hs1⟩; have hs2 : St w F w1 (lk M ++ [rowTC v l]) := (hs1.perm (perm_ix _ [1, 2, 3, 4, 5, 6, 0] 7 rfl (by decide))); have hlk := A56.out w1 _ hs2; obtain ⟨A, c, rfl⟩ := (hs2.rowX 6 rfl).form; obtain ⟨n, hnn⟩ : ∃ n, l.length = n := ⟨_, rfl⟩; rw [hnn] at hs2 ⊢; have HNN := Aside0.mk hnn; obtain ⟨c0, c1, c2, hlp⟩ := hs2.lpAt 0 rfl; obtain ⟨n6, hn6⟩ : ∃ n, w1.heap.size = n := ⟨_, rfl⟩; have hs3 := hs2.alloc #[.int .i64 t.f0, .string t.f1, .string t.f2] 29 hn6; obtain ⟨W1, hW1⟩ : ∃ W1, w1.alloc (.cells #[.int .i64 t.f0, .string t.f1, .string t.f2] 29) = W1 := ⟨_, rfl⟩; rw [hW1] at hs3; have e0 := (blk_cell (hs3.blk 7 rfl) 0).trans rfl; have e1 := (blk_cell (hs3.blk 7 rfl) 1).trans rfl; have e2 := (blk_cell (hs3.blk 7 rfl) 2).trans rfl; have h00 := lt_of_some (hs3.blk 7 rfl); have HS3 := Aside0.mk hs3; clear hs1 hs2 hs3 hnn)
        | (go_at_call 42; refine (A42.out _ _ (HS3.out.rowX 6 rfl)).mono ?_; rintro E w2 ⟨rfl, hb⟩; have hs4 := HS3.out.below hb; clear hb c0 c1 c2 hlp e0 e1 e2 h00 hlk HS3; have hsX := St.left (A := lk M ++ [rowTC (.slice A n c) l]) hs4; clear hs4; obtain ⟨c0, c1, c2, hlp⟩ := hsX.lpAt 0 rfl; obtain ⟨w5, hrun5, hrep5, hs5⟩ := delW hsX HREP.out HWX.out 0; obtain ⟨M5, hM5⟩ : ∃ M5, ({ M with wt := upd s.waits x none } : LM) = M5 := ⟨_, rfl⟩; have hlp5 : M5.lp = M.lp := (by rw [← hM5]); have htot5 : M5.tot = M.tot := (by rw [← hM5]; rfl); rw [hM5] at hrep5 hs5; obtain ⟨w6, M6, hrun6, hrep6, hlp6, htot6, hs6⟩ := delH hs5 hrep5 HWX.out 0; obtain ⟨f0, f1, f2, flp⟩ := hs5.lpAt 0 rfl; rw [hlp5] at f0 f1 f2 flp; have HSA0 := Aside0.mk (show RelA w F M s x (l) [rowTC (.slice A n c) (l)] 0 w6 from ⟨M6, hrep6, hlp6.trans hlp5, (by rw [htot6, htot5]; exact Nat.le_refl _), hs6⟩); clear hsX hrep5 hs5 hM5 hlp5 htot5 hrep6 hlp6 htot6 hs6))
      have HALL := Aside0.mk (show allT haddT s x = l by unfold allT; rw [HW.out]; dsimp only; rw [HL.out]; (show haddT l t = l); unfold haddT; rw [hfo]; rfl)
      have HWFA := Aside0.mk (show ∀ u ∈ l, wfT u from fun u hu => by exact HOK.out.ht x u (by rw [HL.out]; exact hu))
      obtain ⟨all, hall⟩ : ∃ all, l = all := ⟨_, rfl⟩
      have HNA := Aside0.mk (show all.length = n by rw [← hall]; exact HNN.out)
      rw [hall] at HSA0 HALL HWFA
      have HNL := Aside0.mk (show n ≤ 1001 by have := HLL.out; have := HNN.out; omega)
      clear hall
      clear c0 c1 c2 hlp f0 f1 f2 flp hrun5 hrun6
      go_loopg [11, 53] n (fun gq v11 v53 wx => ∃ i : Nat, v53 = .int .i64 i ∧ i + gq = n ∧ Aside0 (RelA w F M s x all [rowTC (.slice A n c) all] i wx))
      case atStart => exact ⟨0, rfl, by omega, HSA0⟩
      case round =>
        clear HSA0
        obtain ⟨i, rfl, hi, HRA⟩ := hrel
        cases gk with
        | zero =>
          obtain rfl : i = n := by omega
          go_wp2
          have HSB0 := Aside0.mk (show RelB w F M s x all [rowTC (.slice A i c) all] 0 (.slice none 0 0) wr by
            obtain ⟨Mk, k1, k2, k3, k4⟩ := HRA.out
            have h1 := k4.fresh (Below.refl _ _) (rowIC (.slice none 0 0) []) RowX.nil (nd_bl (.slice none 0 0)) (fun b hb => by simp [rowXC, bl] at hb; cases hb)
            exact ⟨Mk, by rw [List.take_zero, HNA.out]; exact k1, k2, by rw [HNA.out]; omega, h1.perm (perm_ix _ [1, 2, 3, 4, 5, 6, 0, 7] 8 rfl (by decide))⟩)
          clear HRA
          go_loopg [12, 14, 65] i (fun gq v12 v14 v65 wx => ∃ (j : Nat) (A2 : Option Addr) (n2 c2 : Nat), v65 = .int .i64 j ∧ v12 = .slice A2 n2 c2 ∧ j + gq = i ∧ Aside0 (RelB w F M s x all [rowTC (.slice A i c) all] j (.slice A2 n2 c2) wx))
          case atStart => exact ⟨0, none, 0, 0, rfl, rfl, by omega, HSB0⟩
          case round =>
            clear HSB0
            obtain ⟨j, A2, n2, c2, rfl, rfl, hj, HRB⟩ := hrel
            cases gk with
            | zero =>
              obtain rfl : j = i := by omega
              go_wp2
              rw [← HR.out]
              obtain ⟨Mk, k1, k2, k3, k4⟩ := HRB.out
              have e : releaseS haddT s x = sweepsS haddT (all.take j) (dropS s x all all.length) := by
                unfold releaseS dropS
                rw [HALL.out, List.take_of_length_le (by rw [HNA.out]; exact Nat.le_refl _), List.take_of_length_le (Nat.le_refl _)]
              refine ⟨Mk, _, rfl, by rw [e]; exact k1, k2, by have := HNA.out; have := HNL.out; omega, ?_⟩
              rw [e]
              exact St.left (A := lk Mk ++ [rowIC _ _]) k4
            | succ gq =>
              have hin : j < i := by omega
              have hin2 : (j : Int) < (i : Int) := by omega
              have hi0 : (0 : Int) ≤ (j : Int) := by omega
              have hi9 : (j : Int) ≤ 1000000 := by have := HNL.out; omega
              obtain ⟨Mk, k1, k2, k3, k4⟩ := HRB.out
              obtain ⟨u, hu⟩ : ∃ u, all[j]? = some u := ⟨_, List.getElem?_eq_getElem (by rw [HNA.out]; exact hin)⟩
              have hrl : RowX thgE wr (.slice A i c) all := k4.rowX 7 rfl
              obtain ⟨g, cc, hv, _⟩ := row_slice hrl (by rw [HNA.out]; omega)
              obtain ⟨rfl, rfl⟩ : A = some ⟨g, 0, none⟩ ∧ c = cc := by
                injection hv with e1 e2 e3
                exact ⟨e1, e3⟩
              obtain ⟨d0, d1, d2⟩ := hrl.thg hu
              have hgl : g < wr.heap.size := World.block_lt_of_cell? _ _ d0
              obtain ⟨n14, hn14⟩ : ∃ n, wr.heap.size = n := ⟨_, rfl⟩
              obtain ⟨W4, hW4⟩ : ∃ W4, wr.alloc (.cells #[.int .i64 u.f0, .string u.f1, .string u.f2] 29) = W4 := ⟨_, rfl⟩
              have hsa := k4.alloc #[.int .i64 u.f0, .string u.f1, .string u.f2] 29 hn14
              rw [hW4] at hsa
              have hsa' : St w F W4 (lk Mk ++ [rowIC (.slice A2 n2 c2) _, rowTC (.slice (some ⟨g, 0, none⟩) i c) all, blkC n14 (.cells #[.int .i64 u.f0, .string u.f1, .string u.f2] 29 (0, 0))]) := hsa
              have e0 := (blk_cell (hsa.blk 8 rfl) 0).trans rfl
              have e1 := (blk_cell (hsa.blk 8 rfl) 1).trans rfl
              have e2 := (blk_cell (hsa.blk 8 rfl) 2).trans rfl
              have h00 := lt_of_some (hsa.blk 8 rfl)
              obtain ⟨o1, o2, o3⟩ := sweepsS_ok (all.take j) (s := dropS s x all all.length) (N := 1000) (dropS_ok HOK.out.rows) (fun y => dropS_held HOK.out.held HN.out y)
              have hjl : (all.take j).length = j := by rw [List.length_take, HNA.out]; omega
              rw [hjl] at o2 o3
              have A46 := Aside0.mk (lsweep_fr (N := 1000 + 600 * j) hsa' k1 (HWFA.out u (List.mem_of_getElem? hu)) (o1 u) o2 (by have := HNL.out; omega) (by have := HTOT.out; have := HNL.out; have := HNA.out; omega))
              unfold lpV thgV at A46
              rw [k2] at A46
              have hsn : sweepsS haddT (all.take (j + 1)) (dropS s x all all.length) = ((sweepS haddT (sweepsS haddT (all.take j) (dropS s x all all.length)).1 u).1, (sweepsS haddT (all.take j) (dropS s x all all.length)).2 ++ (sweepS haddT (sweepsS haddT (all.take j) (dropS s x all all.length)).1 u).2) := by
                rw [List.take_add_one, hu]
                exact sweepsS_snoc _ _ _
              obtain ⟨q, hq⟩ : ∃ q, sweepsS haddT (all.take j) (dropS s x all all.length) = q := ⟨_, rfl⟩
              rw [hq] at A46 hsn o1 o3
              have hlen2 := (sweepS_ok o1 (hq ▸ o2) u).2.2
              obtain ⟨out, hout⟩ : ∃ out, (sweepS haddT q.1 u).2 = out := ⟨_, rfl⟩
              rw [hout] at A46 hsn hlen2
              have HSN := Aside0.mk hsn
              have HO3 := Aside0.mk o3
              have HL2 := Aside0.mk hlen2
              have HTK := Aside0.mk k3
              clear hu hv hrl hsa hsa' k1 k2 k3 k4 o1 o2 o3 hjl hsn hq hlen2 HRB hout
              go_wp2_with (first
                | (go_at_call 46; refine A46.out.mono ?_; rintro E w7 ⟨M7, v7, rfl, k1, k2, k3, k4⟩; obtain ⟨A3, c3, rfl⟩ := (k4.rowX 6 rfl).form; obtain ⟨n3, hn3⟩ : ∃ n, out.length = n := ⟨_, rfl⟩; rw [hn3] at k4 ⊢; have K1 := Aside0.mk k1; have K2 := Aside0.mk k2; have K3 := Aside0.mk k3; have HS7 := Aside0.mk k4; clear k1 k2 k3 k4 hn3 d0 d1 d2 e0 e1 e2 h00 hgl A46)
                | (at_builtin; obtain ⟨v8, w8, hrun, hrow, hgrow, hown⟩ := appendsXX intI 39 (HS7.out.rowX 7 rfl) (HS7.out.rowX 6 rfl) (by have := HO3.out; have := HL2.out; have := HNL.out; omega); have h8 := HS7.out.rowTo 7 rfl hrow hgrow hown; obtain ⟨A4, c4, rfl⟩ := hrow.form; obtain ⟨n4, hn4⟩ : ∃ n, (q.2 ++ out).length = n := ⟨_, rfl⟩; rw [hn4] at h8 hrun; have HS8 := Aside0.mk h8; refine wpList_append_run rfl (.tmp 69) (.tmp 72) 39 39 rfl _ _ rfl rfl hrun ?_; clear h8 hrun hrow hgrow hown hn4))
              go_roundg gq
              case measure => omega
              case rel =>
                refine ⟨j + 1, A4, n4, c4, by go_num, rfl, by omega, Aside0.mk ⟨M7, by rw [HSN.out]; exact K1.out, K2.out, by have := K3.out; have := HTK.out; omega, ?_⟩⟩
                rw [HSN.out]
                have h9 := HS8.out.perm (B := lk M7 ++ [rowIC (.slice A4 n4 c4) (q.2 ++ out)] ++ [rowTC (.slice (some ⟨g, 0, none⟩) i c) all] ++ [rowIC (.slice A3 n3 c3) out, blkC n14 (.cells #[.int .i64 u.f0, .string u.f1, .string u.f2] 29 (0, 0))]) (perm_ix _ [0, 1, 2, 3, 4, 5, 7, 8, 6, 9] 10 rfl (by decide))
                exact St.left (A := lk M7 ++ [rowIC (.slice A4 n4 c4) (q.2 ++ out)] ++ [rowTC (.slice (some ⟨g, 0, none⟩) i c) all]) h9
        | succ gq =>
          have hin : i < n := by omega
          have hin2 : (i : Int) < (n : Int) := by omega
          have hi0 : (0 : Int) ≤ (i : Int) := by omega
          have hi9 : (i : Int) ≤ 1000000 := by have := HNL.out; omega
          obtain ⟨Mk, k1, k2, k3, k4⟩ := HRA.out
          obtain ⟨u, hu⟩ : ∃ u, all[i]? = some u := ⟨_, List.getElem?_eq_getElem (by rw [HNA.out]; exact hin)⟩
          have hrl : RowX thgE wr (.slice A n c) all := k4.rowX 6 rfl
          obtain ⟨g, cc, hv, _⟩ := row_slice hrl (by rw [HNA.out]; omega)
          obtain ⟨rfl, rfl⟩ : A = some ⟨g, 0, none⟩ ∧ c = cc := by
            injection hv with e1 e2 e3
            exact ⟨e1, e3⟩
          obtain ⟨d0, d1, d2⟩ := hrl.thg hu
          have hgl : g < wr.heap.size := World.block_lt_of_cell? _ _ d0
          obtain ⟨n11, hn11⟩ : ∃ n, wr.heap.size = n := ⟨_, rfl⟩
          obtain ⟨W4, hW4⟩ : ∃ W4, wr.alloc (.cells #[.int .i64 u.f0, .string u.f1, .string u.f2] 29) = W4 := ⟨_, rfl⟩
          have hsa := k4.alloc #[.int .i64 u.f0, .string u.f1, .string u.f2] 29 hn11
          rw [hW4] at hsa
          have hsa' : St w F W4 (lk Mk ++ [rowTC (.slice (some ⟨g, 0, none⟩) n c) all, blkC n11 (.cells #[.int .i64 u.f0, .string u.f1, .string u.f2] 29 (0, 0))]) := hsa
          have e0 := (blk_cell (hsa.blk 7 rfl) 0).trans rfl
          have e1 := (blk_cell (hsa.blk 7 rfl) 1).trans rfl
          have e2 := (blk_cell (hsa.blk 7 rfl) 2).trans rfl
          have h00 := lt_of_some (hsa.blk 7 rfl)
          have A28 := Aside0.mk (row_fr hsa' k1 (HWFA.out u (List.mem_of_getElem? hu)) (by have := HTOT.out; have := HNL.out; simp only [LM.tot] at *; simp only [maxLen]; omega))
          unfold lpV thgV at A28
          rw [k2] at A28
          have HOKU := Aside0.mk (dropS_ok (x := x) (all := all) (i := i) HOK.out.rows u)
          have HST := Aside0.mk (dropS_step (s := s) (x := x) hu)
          have HTK := Aside0.mk k3
          have A45 := Aside0.mk (fun W p hv wv (h : St W (fun b => b ∈ fpc (row3 p hv wv ((dropS s x all i).rows u))) W (row3 p hv wv ((dropS s x all i).rows u))) => drop_calls W p hv wv _ x _ h (by have := HOKU.out.len; omega) (by have := HOKU.out.len; omega))
          unfold ptr at A45
          clear hu hv hrl hsa hsa' k1 k2 k3 k4 HRA
          go_wp2_with (first
            | (go_at_call 28; refine A28.out.mono ?_; rintro E w7 ⟨M1, X, m, Y, rfl, k1, k2, k3, k4, k5, k6⟩; have HE := Aside0.mk k1; have HMT := Aside0.mk k2; have HREP1 := Aside0.mk k3; have HLP := Aside0.mk k4; have HTOT1 := Aside0.mk k5; have h1 := k6; unfold lk at h1; rw [k1] at h1; have h2 := St.openR h1; have hmr : m.r = (dropS s x all i).rows u := (k2 ▸ k3.rr m (k1 ▸ mem_mid.2 (.inl rfl))); rw [hmr] at h2; have HS1 := Aside0.mk h2; clear h1 h2 hmr k1 k2 k3 k4 k5 k6 d0 d1 d2 e0 e1 e2 h00 hgl A28; unfold ptr)
            | (go_at_call 45; refine (A45.out _ _ _ _ (St.sub (A := row3 m.p m.hv m.wv _) (R := lkO M1 (X ++ Y) M1.hs ++ [_, _]) HS1.out)).mono ?_; rintro E w8 ⟨rfl, hv3, wv3, k⟩; have h2 := St.call (A := row3 m.p m.hv m.wv _) (R := lkO M1 (X ++ Y) M1.hs ++ [_, _]) HS1.out k; have h3 := St.closeR (m := ⟨m.t, m.p, hv3, wv3, dropR ((dropS s x all i).rows u) x⟩) h2; rw [lk_setR (m' := ⟨m.t, m.p, hv3, wv3, dropR ((dropS s x all i).rows u) x⟩) HE.out rfl rfl] at h3; have hrep := HREP1.out.setR HE.out hv3 wv3 (dropR ((dropS s x all i).rows u) x); rw [HMT.out] at hrep h3; rw [HST.out] at hrep; have HRA1 := Aside0.mk (show RelA w F M s x all [rowTC (.slice (some ⟨g, 0, none⟩) n c) all] (i + 1) w8 from ⟨_, hrep, HLP.out, (by have := HTOT1.out; have := HTK.out; simp only [LM.tot] at *; omega), St.left (A := lk _ ++ [_]) h3⟩); clear h2 h3 hrep k))
          go_roundg gq
          case measure => omega
          case rel => exact ⟨i + 1, by go_num, by omega, HRA1⟩
    | false =>
      rw [hfo] at A42
      have hle := low_le l t
      obtain ⟨i0, hi0⟩ : ∃ i, low l t = i := ⟨_, rfl⟩
      rw [hi0] at A42 hle
      have HLE := Aside0.mk hle
      have HI := Aside0.mk hi0
      have A44 := Aside0.mk (fun W v vb (h : RowX thgE W v l) hvb hne => insertT W v l i0 t vb (i0 : Int) h HLE.out (by have := HLL.out; omega) hvb hne rfl)
      have G2 : True := trivial
      clear hle hi0
      go_enter Try.func21, Try.ntmps21
      go_wp2_with (first
        | (clear G1; go_at_call 20; refine A20.out.mono ?_; rintro E w1 ⟨v, rfl, hs1⟩; have hs2 : St w F w1 (lk M ++ [rowTC v l]) := (hs1.perm (perm_ix _ [1, 2, 3, 4, 5, 6, 0] 7 rfl (by decide))); have hlk := A56.out w1 _ hs2; obtain ⟨A, c, rfl⟩ := (hs2.rowX 6 rfl).form; obtain ⟨n, hnn⟩ : ∃ n, l.length = n := ⟨_, rfl⟩; rw [hnn] at hs2 ⊢; have HNN := Aside0.mk hnn; obtain ⟨c0, c1, c2, hlp⟩ := hs2.lpAt 0 rfl; obtain ⟨n6, hn6⟩ : ∃ n, w1.heap.size = n := ⟨_, rfl⟩; have hs3 := hs2.alloc #[.int .i64 t.f0, .string t.f1, .string t.f2] 29 hn6; obtain ⟨W1, hW1⟩ : ∃ W1, w1.alloc (.cells #[.int .i64 t.f0, .string t.f1, .string t.f2] 29) = W1 := ⟨_, rfl⟩; rw [hW1] at hs3; have e0 := (blk_cell (hs3.blk 7 rfl) 0).trans rfl; have e1 := (blk_cell (hs3.blk 7 rfl) 1).trans rfl; have e2 := (blk_cell (hs3.blk 7 rfl) 2).trans rfl; have h00 := lt_of_some (hs3.blk 7 rfl); have HS3 := Aside0.mk hs3; clear hs1 hs2 hs3 hnn)
        | (clear G2; go_at_call 42; refine (A42.out _ _ (HS3.out.rowX 6 rfl)).mono ?_; rintro E w2 ⟨rfl, hb⟩; have hs4 := HS3.out.below hb; clear hb c0 c1 c2 hlp e0 e1 e2 h00 hlk HS3; have HS4 := Aside0.mk hs4; have e0 := (blk_cell (hs4.blk 7 rfl) 0).trans rfl; have e1 := (blk_cell (hs4.blk 7 rfl) 1).trans rfl; have e2 := (blk_cell (hs4.blk 7 rfl) 2).trans rfl; have h00 := lt_of_some (hs4.blk 7 rfl); clear hs4)
        | (go_at_call 44; have hs5' := HS4.out.alloc #[.int .i64 t.f0, .string t.f1, .string t.f2] 29 rfl; refine (A44.out _ _ _ (hs5'.rowX 6 rfl) (hs5'.blk 8 rfl) (fun h => hs5'.apart 6 8 (by decide) rfl rfl _ h (by simp [blkC]))).mono ?_; rintro E w3 ⟨g0, c', rfl, hrow, hgr, hown⟩; have hs6' := hs5'.rowTo 6 rfl hrow hgr hown; clear e0 e1 e2 h00 hs5' HS4 hrow hgr hown; have hall : (insAt l i0 t).length = l.length + 1 := insAt_len l i0 t HLE.out; obtain ⟨A, hA⟩ : ∃ A : Option Addr, some ⟨g0, 0, none⟩ = A := ⟨_, rfl⟩; rw [hA] at hs6' ⊢; obtain ⟨c, hc⟩ : ∃ c, c' = c := ⟨_, rfl⟩; rw [hc] at hs6' ⊢; obtain ⟨n, hnn⟩ : ∃ n, l.length + 1 = n := ⟨_, rfl⟩; rw [hnn] at hs6' hall ⊢; have HNI := Aside0.mk hall; have hsX := St.left (A := lk M ++ [rowTC (.slice A n c) (insAt l i0 t)]) hs6'; clear hs6' hA hc hnn hall; obtain ⟨c0, c1, c2, hlp⟩ := hsX.lpAt 0 rfl; obtain ⟨w5, hrun5, hrep5, hs5⟩ := delW hsX HREP.out HWX.out 0; obtain ⟨M5, hM5⟩ : ∃ M5, ({ M with wt := upd s.waits x none } : LM) = M5 := ⟨_, rfl⟩; have hlp5 : M5.lp = M.lp := (by rw [← hM5]); have htot5 : M5.tot = M.tot := (by rw [← hM5]; rfl); rw [hM5] at hrep5 hs5; obtain ⟨w6, M6, hrun6, hrep6, hlp6, htot6, hs6⟩ := delH hs5 hrep5 HWX.out 0; obtain ⟨f0, f1, f2, flp⟩ := hs5.lpAt 0 rfl; rw [hlp5] at f0 f1 f2 flp; have HSA0 := Aside0.mk (show RelA w F M s x (insAt l i0 t) [rowTC (.slice A n c) (insAt l i0 t)] 0 w6 from ⟨M6, hrep6, hlp6.trans hlp5, (by rw [htot6, htot5]; exact Nat.le_refl _), hs6⟩); clear hsX hrep5 hs5 hM5 hlp5 htot5 hrep6 hlp6 htot6 hs6))
      have HALL := Aside0.mk (show allT haddT s x = (insAt l i0 t) by unfold allT; rw [HW.out]; dsimp only; rw [HL.out]; (show haddT l t = _); unfold haddT; rw [hfo, HI.out]; rfl)
      have HWFA := Aside0.mk (show ∀ u ∈ (insAt l i0 t), wfT u from fun u hu => by (rcases mem_insAt.1 hu with rfl | hu; exact HT.out; exact HOK.out.ht x u (by rw [HL.out]; exact hu)))
      obtain ⟨all, hall⟩ : ∃ all, (insAt l i0 t) = all := ⟨_, rfl⟩
      have HNA := Aside0.mk (show all.length = n by rw [← hall]; exact HNI.out)
      rw [hall] at HSA0 HALL HWFA
      have HNL := Aside0.mk (show n ≤ 1001 by have := HLL.out; have := HNI.out; have := insAt_len l i0 t HLE.out; omega)
      clear hall
      clear c0 c1 c2 hlp f0 f1 f2 flp hrun5 hrun6
      go_loopg [11, 53] n (fun gq v11 v53 wx => ∃ i : Nat, v53 = .int .i64 i ∧ i + gq = n ∧ Aside0 (RelA w F M s x all [rowTC (.slice A n c) all] i wx))
      case atStart => exact ⟨0, rfl, by omega, HSA0⟩
      case round =>
        clear HSA0
        obtain ⟨i, rfl, hi, HRA⟩ := hrel
        cases gk with
        | zero =>
          obtain rfl : i = n := by omega
          go_wp2
          have HSB0 := Aside0.mk (show RelB w F M s x all [rowTC (.slice A i c) all] 0 (.slice none 0 0) wr by
            obtain ⟨Mk, k1, k2, k3, k4⟩ := HRA.out
            have h1 := k4.fresh (Below.refl _ _) (rowIC (.slice none 0 0) []) RowX.nil (nd_bl (.slice none 0 0)) (fun b hb => by simp [rowXC, bl] at hb; cases hb)
            exact ⟨Mk, by rw [List.take_zero, HNA.out]; exact k1, k2, by rw [HNA.out]; omega, h1.perm (perm_ix _ [1, 2, 3, 4, 5, 6, 0, 7] 8 rfl (by decide))⟩)
          clear HRA
          go_loopg [12, 14, 65] i (fun gq v12 v14 v65 wx => ∃ (j : Nat) (A2 : Option Addr) (n2 c2 : Nat), v65 = .int .i64 j ∧ v12 = .slice A2 n2 c2 ∧ j + gq = i ∧ Aside0 (RelB w F M s x all [rowTC (.slice A i c) all] j (.slice A2 n2 c2) wx))
          case atStart => exact ⟨0, none, 0, 0, rfl, rfl, by omega, HSB0⟩
          case round =>
            clear HSB0
            obtain ⟨j, A2, n2, c2, rfl, rfl, hj, HRB⟩ := hrel
            cases gk with
            | zero =>
              obtain rfl : j = i := by omega
              go_wp2
              rw [← HR.out]
              obtain ⟨Mk, k1, k2, k3, k4⟩ := HRB.out
              have e : releaseS haddT s x = sweepsS haddT (all.take j) (dropS s x all all.length) := by
                unfold releaseS dropS
                rw [HALL.out, List.take_of_length_le (by rw [HNA.out]; exact Nat.le_refl _), List.take_of_length_le (Nat.le_refl _)]
              refine ⟨Mk, _, rfl, by rw [e]; exact k1, k2, by have := HNA.out; have := HNL.out; omega, ?_⟩
              rw [e]
              exact St.left (A := lk Mk ++ [rowIC _ _]) k4
            | succ gq =>
              have hin : j < i := by omega
              have hin2 : (j : Int) < (i : Int) := by omega
              have hi0 : (0 : Int) ≤ (j : Int) := by omega
              have hi9 : (j : Int) ≤ 1000000 := by have := HNL.out; omega
              obtain ⟨Mk, k1, k2, k3, k4⟩ := HRB.out
              obtain ⟨u, hu⟩ : ∃ u, all[j]? = some u := ⟨_, List.getElem?_eq_getElem (by rw [HNA.out]; exact hin)⟩
              have hrl : RowX thgE wr (.slice A i c) all := k4.rowX 7 rfl
              obtain ⟨g, cc, hv, _⟩ := row_slice hrl (by rw [HNA.out]; omega)
              obtain ⟨rfl, rfl⟩ : A = some ⟨g, 0, none⟩ ∧ c = cc := by
                injection hv with e1 e2 e3
                exact ⟨e1, e3⟩
              obtain ⟨d0, d1, d2⟩ := hrl.thg hu
              have hgl : g < wr.heap.size := World.block_lt_of_cell? _ _ d0
              obtain ⟨n14, hn14⟩ : ∃ n, wr.heap.size = n := ⟨_, rfl⟩
              obtain ⟨W4, hW4⟩ : ∃ W4, wr.alloc (.cells #[.int .i64 u.f0, .string u.f1, .string u.f2] 29) = W4 := ⟨_, rfl⟩
              have hsa := k4.alloc #[.int .i64 u.f0, .string u.f1, .string u.f2] 29 hn14
              rw [hW4] at hsa
              have hsa' : St w F W4 (lk Mk ++ [rowIC (.slice A2 n2 c2) _, rowTC (.slice (some ⟨g, 0, none⟩) i c) all, blkC n14 (.cells #[.int .i64 u.f0, .string u.f1, .string u.f2] 29 (0, 0))]) := hsa
              have e0 := (blk_cell (hsa.blk 8 rfl) 0).trans rfl
              have e1 := (blk_cell (hsa.blk 8 rfl) 1).trans rfl
              have e2 := (blk_cell (hsa.blk 8 rfl) 2).trans rfl
              have h00 := lt_of_some (hsa.blk 8 rfl)
              obtain ⟨o1, o2, o3⟩ := sweepsS_ok (all.take j) (s := dropS s x all all.length) (N := 1000) (dropS_ok HOK.out.rows) (fun y => dropS_held HOK.out.held HN.out y)
              have hjl : (all.take j).length = j := by rw [List.length_take, HNA.out]; omega
              rw [hjl] at o2 o3
              have A46 := Aside0.mk (lsweep_fr (N := 1000 + 600 * j) hsa' k1 (HWFA.out u (List.mem_of_getElem? hu)) (o1 u) o2 (by have := HNL.out; omega) (by have := HTOT.out; have := HNL.out; have := HNA.out; omega))
              unfold lpV thgV at A46
              rw [k2] at A46
              have hsn : sweepsS haddT (all.take (j + 1)) (dropS s x all all.length) = ((sweepS haddT (sweepsS haddT (all.take j) (dropS s x all all.length)).1 u).1, (sweepsS haddT (all.take j) (dropS s x all all.length)).2 ++ (sweepS haddT (sweepsS haddT (all.take j) (dropS s x all all.length)).1 u).2) := by
                rw [List.take_add_one, hu]
                exact sweepsS_snoc _ _ _
              obtain ⟨q, hq⟩ : ∃ q, sweepsS haddT (all.take j) (dropS s x all all.length) = q := ⟨_, rfl⟩
              rw [hq] at A46 hsn o1 o3
              have hlen2 := (sweepS_ok o1 (hq ▸ o2) u).2.2
              obtain ⟨out, hout⟩ : ∃ out, (sweepS haddT q.1 u).2 = out := ⟨_, rfl⟩
              rw [hout] at A46 hsn hlen2
              have HSN := Aside0.mk hsn
              have HO3 := Aside0.mk o3
              have HL2 := Aside0.mk hlen2
              have HTK := Aside0.mk k3
              clear hu hv hrl hsa hsa' k1 k2 k3 k4 o1 o2 o3 hjl hsn hq hlen2 HRB hout
              go_wp2_with (first
                | (go_at_call 46; refine A46.out.mono ?_; rintro E w7 ⟨M7, v7, rfl, k1, k2, k3, k4⟩; obtain ⟨A3, c3, rfl⟩ := (k4.rowX 6 rfl).form; obtain ⟨n3, hn3⟩ : ∃ n, out.length = n := ⟨_, rfl⟩; rw [hn3] at k4 ⊢; have K1 := Aside0.mk k1; have K2 := Aside0.mk k2; have K3 := Aside0.mk k3; have HS7 := Aside0.mk k4; clear k1 k2 k3 k4 hn3 d0 d1 d2 e0 e1 e2 h00 hgl A46)
                | (at_builtin; obtain ⟨v8, w8, hrun, hrow, hgrow, hown⟩ := appendsXX intI 39 (HS7.out.rowX 7 rfl) (HS7.out.rowX 6 rfl) (by have := HO3.out; have := HL2.out; have := HNL.out; omega); have h8 := HS7.out.rowTo 7 rfl hrow hgrow hown; obtain ⟨A4, c4, rfl⟩ := hrow.form; obtain ⟨n4, hn4⟩ : ∃ n, (q.2 ++ out).length = n := ⟨_, rfl⟩; rw [hn4] at h8 hrun; have HS8 := Aside0.mk h8; refine wpList_append_run rfl (.tmp 69) (.tmp 72) 39 39 rfl _ _ rfl rfl hrun ?_; clear h8 hrun hrow hgrow hown hn4))
              go_roundg gq
              case measure => omega
              case rel =>
                refine ⟨j + 1, A4, n4, c4, by go_num, rfl, by omega, Aside0.mk ⟨M7, by rw [HSN.out]; exact K1.out, K2.out, by have := K3.out; have := HTK.out; omega, ?_⟩⟩
                rw [HSN.out]
                have h9 := HS8.out.perm (B := lk M7 ++ [rowIC (.slice A4 n4 c4) (q.2 ++ out)] ++ [rowTC (.slice (some ⟨g, 0, none⟩) i c) all] ++ [rowIC (.slice A3 n3 c3) out, blkC n14 (.cells #[.int .i64 u.f0, .string u.f1, .string u.f2] 29 (0, 0))]) (perm_ix _ [0, 1, 2, 3, 4, 5, 7, 8, 6, 9] 10 rfl (by decide))
                exact St.left (A := lk M7 ++ [rowIC (.slice A4 n4 c4) (q.2 ++ out)] ++ [rowTC (.slice (some ⟨g, 0, none⟩) i c) all]) h9
        | succ gq =>
          have hin : i < n := by omega
          have hin2 : (i : Int) < (n : Int) := by omega
          have hi0 : (0 : Int) ≤ (i : Int) := by omega
          have hi9 : (i : Int) ≤ 1000000 := by have := HNL.out; omega
          obtain ⟨Mk, k1, k2, k3, k4⟩ := HRA.out
          obtain ⟨u, hu⟩ : ∃ u, all[i]? = some u := ⟨_, List.getElem?_eq_getElem (by rw [HNA.out]; exact hin)⟩
          have hrl : RowX thgE wr (.slice A n c) all := k4.rowX 6 rfl
          obtain ⟨g, cc, hv, _⟩ := row_slice hrl (by rw [HNA.out]; omega)
          obtain ⟨rfl, rfl⟩ : A = some ⟨g, 0, none⟩ ∧ c = cc := by
            injection hv with e1 e2 e3
            exact ⟨e1, e3⟩
          obtain ⟨d0, d1, d2⟩ := hrl.thg hu
          have hgl : g < wr.heap.size := World.block_lt_of_cell? _ _ d0
          obtain ⟨n11, hn11⟩ : ∃ n, wr.heap.size = n := ⟨_, rfl⟩
          obtain ⟨W4, hW4⟩ : ∃ W4, wr.alloc (.cells #[.int .i64 u.f0, .string u.f1, .string u.f2] 29) = W4 := ⟨_, rfl⟩
          have hsa := k4.alloc #[.int .i64 u.f0, .string u.f1, .string u.f2] 29 hn11
          rw [hW4] at hsa
          have hsa' : St w F W4 (lk Mk ++ [rowTC (.slice (some ⟨g, 0, none⟩) n c) all, blkC n11 (.cells #[.int .i64 u.f0, .string u.f1, .string u.f2] 29 (0, 0))]) := hsa
          have e0 := (blk_cell (hsa.blk 7 rfl) 0).trans rfl
          have e1 := (blk_cell (hsa.blk 7 rfl) 1).trans rfl
          have e2 := (blk_cell (hsa.blk 7 rfl) 2).trans rfl
          have h00 := lt_of_some (hsa.blk 7 rfl)
          have A28 := Aside0.mk (row_fr hsa' k1 (HWFA.out u (List.mem_of_getElem? hu)) (by have := HTOT.out; have := HNL.out; simp only [LM.tot] at *; simp only [maxLen]; omega))
          unfold lpV thgV at A28
          rw [k2] at A28
          have HOKU := Aside0.mk (dropS_ok (x := x) (all := all) (i := i) HOK.out.rows u)
          have HST := Aside0.mk (dropS_step (s := s) (x := x) hu)
          have HTK := Aside0.mk k3
          have A45 := Aside0.mk (fun W p hv wv (h : St W (fun b => b ∈ fpc (row3 p hv wv ((dropS s x all i).rows u))) W (row3 p hv wv ((dropS s x all i).rows u))) => drop_calls W p hv wv _ x _ h (by have := HOKU.out.len; omega) (by have := HOKU.out.len; omega))
          unfold ptr at A45
          clear hu hv hrl hsa hsa' k1 k2 k3 k4 HRA
          go_wp2_with (first
            | (go_at_call 28; refine A28.out.mono ?_; rintro E w7 ⟨M1, X, m, Y, rfl, k1, k2, k3, k4, k5, k6⟩; have HE := Aside0.mk k1; have HMT := Aside0.mk k2; have HREP1 := Aside0.mk k3; have HLP := Aside0.mk k4; have HTOT1 := Aside0.mk k5; have h1 := k6; unfold lk at h1; rw [k1] at h1; have h2 := St.openR h1; have hmr : m.r = (dropS s x all i).rows u := (k2 ▸ k3.rr m (k1 ▸ mem_mid.2 (.inl rfl))); rw [hmr] at h2; have HS1 := Aside0.mk h2; clear h1 h2 hmr k1 k2 k3 k4 k5 k6 d0 d1 d2 e0 e1 e2 h00 hgl A28; unfold ptr)
            | (go_at_call 45; refine (A45.out _ _ _ _ (St.sub (A := row3 m.p m.hv m.wv _) (R := lkO M1 (X ++ Y) M1.hs ++ [_, _]) HS1.out)).mono ?_; rintro E w8 ⟨rfl, hv3, wv3, k⟩; have h2 := St.call (A := row3 m.p m.hv m.wv _) (R := lkO M1 (X ++ Y) M1.hs ++ [_, _]) HS1.out k; have h3 := St.closeR (m := ⟨m.t, m.p, hv3, wv3, dropR ((dropS s x all i).rows u) x⟩) h2; rw [lk_setR (m' := ⟨m.t, m.p, hv3, wv3, dropR ((dropS s x all i).rows u) x⟩) HE.out rfl rfl] at h3; have hrep := HREP1.out.setR HE.out hv3 wv3 (dropR ((dropS s x all i).rows u) x); rw [HMT.out] at hrep h3; rw [HST.out] at hrep; have HRA1 := Aside0.mk (show RelA w F M s x all [rowTC (.slice (some ⟨g, 0, none⟩) n c) all] (i + 1) w8 from ⟨_, hrep, HLP.out, (by have := HTOT1.out; have := HTK.out; simp only [LM.tot] at *; omega), St.left (A := lk _ ++ [_]) h3⟩); clear h2 h3 hrep k))
          go_roundg gq
          case measure => omega
          case rel => exact ⟨i + 1, by go_num, by omega, HRA1⟩
end Go.Proofs.Kb
end
section
namespace Go.Proofs.Lk
set_option linter.unusedVariables false
set_option linter.unusedSimpArgs false
set_option linter.unusedSectionVars false
theorem modeOf_some {r : LRow} {x h : Int} (e : modeOf r x = some h) : (x, h) ∈ r.holds := by
  unfold modeOf at e
  cases hf : r.holds.find? (fun o => o.1 == x) with
  | none => rw [hf] at e; cases e
  | some o =>
    rw [hf] at e
    have h1 := List.find?_some hf
    have h2 := List.mem_of_find?_eq_some hf
    have h3 : o.1 = x := by simpa using h1
    have h4 : o.2 = h := Option.some.inj e
    rw [← h3, ← h4]
    exact h2
theorem modeOf_none {r : LRow} {x : Int} (e : modeOf r x = none) : has r.holds x = false := by
  unfold modeOf at e
  rw [Option.map_eq_none_iff, List.find?_eq_none] at e
  cases hh : has r.holds x with
  | false => rfl
  | true =>
    obtain ⟨o, ho, e2⟩ := has_iff.1 hh
    exact absurd (by simpa using e2) (e o ho)
theorem one_of {l : List One} (h : (l.map (·.1)).Nodup) {a b : One} (ha : a ∈ l) (hb : b ∈ l) (e : a.1 = b.1) : a = b := by
  induction l with
  | nil => cases ha
  | cons x l ih =>
    rw [List.map_cons, List.nodup_cons] at h
    rcases List.mem_cons.1 ha with h1 | h1 <;> rcases List.mem_cons.1 hb with h2 | h2
    · rw [h1, h2]
    · exact absurd (List.mem_map.2 ⟨b, h2, by rw [← e, h1]⟩) h.1
    · exact absurd (List.mem_map.2 ⟨a, h1, by rw [e, h2]⟩) h.1
    · exact ih h.2 h1 h2
theorem wanted_ok {r : LRow} (h : RInv r) {x m : Int} (hm : right m = true) : (wanted r x m).1 = x ∧ right (wanted r x m).2 = true ∧ ∀ o ∈ r.holds, o.1 = x → cov (wanted r x m).2 o.2 = true := by
  unfold wanted
  cases e : modeOf r x with
  | none =>
    refine ⟨rfl, hm, fun o ho e2 => ?_⟩
    have := modeOf_none e
    rw [has_iff.2 ⟨o, ho, e2⟩] at this
    cases this
  | some g =>
    have hg := modeOf_some e
    have hr := h.hm _ hg
    obtain ⟨j1, j2, j3⟩ := join_cov hr hm
    refine ⟨rfl, j1, fun o ho e2 => ?_⟩
    rw [one_of h.hn ho hg e2]
    exact j2
theorem place_le (r : LRow) (x : Int) : place r x ≤ r.waits.length := by
  unfold place
  split
  · split
    · rename_i n h
      have := (List.findIdx?_eq_some_iff_findIdx_eq.1 h).1
      omega
    · exact Nat.le_refl _
  · exact Nat.le_refl _
theorem grant_inv {r : LRow} (h : RInv r) {o : One} {p : Nat} (hx : has r.waits o.1 = false) (ho : right o.2 = true) (hc : ∀ w ∈ r.holds, w.1 = o.1 → cov o.2 w.2 = true) (hr : rawB r o p = []) : RInv ⟨give r.holds o, r.waits⟩ := by
  refine ⟨give_nodup h.hn, h.wn, fun x hx => ?_, h.wm, give_safe h.hm ho h.safe (no_raw hr), fun w hw x hx2 e => ?_⟩
  · rcases mem_give hx with rfl | ⟨hx, _⟩
    · exact ho
    · exact h.hm x hx
  · rcases mem_give hx2 with rfl | ⟨hx2, _⟩
    · rw [has_iff.2 ⟨w, hw, e.symm⟩] at hx
      cases hx
    · exact h.up w hw x hx2 e
theorem grant_blk {r : LRow} {o : One} {n : Nat} (hx : has r.waits o.1 = false) (hc : ∀ w ∈ r.holds, w.1 = o.1 → cov o.2 w.2 = true) (hb : Blk r n) : Blk ⟨give r.holds o, r.waits⟩ n := by
  intro j hj w hw
  have hw2 : r.waits[j]? = some w := hw
  have hwo : w.1 ≠ o.1 := fun e => by
    rw [has_iff.2 ⟨w, List.mem_of_getElem? hw2, e⟩] at hx
    cases hx
  obtain ⟨x, hx2, h1, h2⟩ := raw_ne.1 (hb j hj w hw2)
  rw [raw_ne]
  rcases List.mem_append.1 hx2 with hx2 | hx2
  · by_cases e : x.1 = o.1
    · exact ⟨o, List.mem_append_left _ (give_self _ _), fun e2 => hwo e2.symm, cov_conf (hc x hx2 e) h2⟩
    · exact ⟨x, List.mem_append_left _ (give_other hx2 e), h1, h2⟩
  · exact ⟨x, List.mem_append_right _ hx2, h1, h2⟩
theorem wait_inv {r : LRow} (h : RInv r) {o : One} {p : Nat} (hx : has r.waits o.1 = false) (ho : right o.2 = true) (hc : ∀ w ∈ r.holds, w.1 = o.1 → cov o.2 w.2 = true) : RInv ⟨r.holds, r.waits.take p ++ o :: r.waits.drop p⟩ := by
  have hmem : ∀ w ∈ r.waits.take p ++ o :: r.waits.drop p, w = o ∨ w ∈ r.waits := fun w hw => by
    rcases List.mem_append.1 hw with hw | hw
    · exact .inr (List.mem_of_mem_take hw)
    · rcases List.mem_cons.1 hw with rfl | hw
      · exact .inl rfl
      · exact .inr (List.mem_of_mem_drop hw)
  refine ⟨h.hn, ?_, h.hm, fun w hw => ?_, h.safe, fun w hw x hx2 e => ?_⟩
  · have hp : (r.waits.take p ++ o :: r.waits.drop p).Perm (o :: r.waits) := by
      refine List.perm_middle.trans (List.Perm.cons _ ?_)
      rw [List.take_append_drop]
    rw [(hp.map (·.1)).nodup_iff, List.map_cons, List.nodup_cons]
    refine ⟨fun hm => ?_, h.wn⟩
    obtain ⟨w, hw, e⟩ := List.mem_map.1 hm
    rw [has_iff.2 ⟨w, hw, e⟩] at hx
    cases hx
  · rcases hmem w hw with rfl | hw
    · exact ho
    · exact h.wm w hw
  · rcases hmem w hw with rfl | hw
    · exact hc x hx2 e
    · exact h.up w hw x hx2 e
theorem wait_blk {r : LRow} {o : One} {p : Nat} (hp : p ≤ r.waits.length) (hb : Blk r r.waits.length) (hr : rawB r o p ≠ []) : Blk ⟨r.holds, r.waits.take p ++ o :: r.waits.drop p⟩ (r.waits.length + 1) := by
  have hl : (r.waits.take p).length = p := by rw [List.length_take]; omega
  have hmono : ∀ {w : One} {i j : Nat}, (∀ x ∈ r.waits.take i, x ∈ (r.waits.take p ++ o :: r.waits.drop p).take j) → rawB r w i ≠ [] → rawB ⟨r.holds, r.waits.take p ++ o :: r.waits.drop p⟩ w j ≠ [] := by
    intro w i j hs hw
    obtain ⟨x, hx, h1, h2⟩ := raw_ne.1 hw
    rw [raw_ne]
    rcases List.mem_append.1 hx with hx | hx
    · exact ⟨x, List.mem_append_left _ hx, h1, h2⟩
    · exact ⟨x, List.mem_append_right _ (hs x hx), h1, h2⟩
  intro j hj w hw
  change (r.waits.take p ++ o :: r.waits.drop p)[j]? = some w at hw
  rcases Nat.lt_trichotomy j p with h | h | h
  · rw [List.getElem?_append_left (by rw [hl]; exact h), List.getElem?_take_of_lt h] at hw
    refine hmono (i := j) (fun x hx => ?_) (hb j (by omega) w hw)
    rw [List.take_append_of_le_length (by rw [hl]; omega), List.take_take, Nat.min_eq_left (by omega)]
    exact hx
  · subst h
    rw [List.getElem?_append_right (by rw [hl]; exact Nat.le_refl _), hl, Nat.sub_self] at hw
    simp at hw
    subst hw
    refine hmono (i := j) (fun x hx => ?_) hr
    rw [List.take_append_of_le_length (by rw [hl]; exact Nat.le_refl _), List.take_take, Nat.min_self]
    exact hx
  · obtain ⟨i, rfl⟩ : ∃ i, j = i + 1 := ⟨j - 1, by omega⟩
    rw [List.getElem?_append_right (by rw [hl]; omega), hl, show i + 1 - p = (i - p) + 1 by omega, List.getElem?_cons_succ, List.getElem?_drop, show p + (i - p) = i by omega] at hw
    refine hmono (i := i) (fun x hx => ?_) (hb i (by omega) w hw)
    rw [List.take_append, hl, show i + 1 - p = (i - p) + 1 by omega, List.take_succ_cons, List.take_take, Nat.min_eq_right (by omega)]
    have e : r.waits.take i = r.waits.take p ++ (r.waits.drop p).take (i - p) := by
      conv => lhs; rw [show i = p + (i - p) by omega, List.take_add]
    rw [e] at hx
    rcases List.mem_append.1 hx with hx | hx
    · exact List.mem_append_left _ hx
    · exact List.mem_append_right _ (List.mem_cons_of_mem _ hx)
section
variable {α : Type} [DecidableEq α]
theorem ask_inv {hadd : List α → α → List α} (ha : ∀ ls x y, y ∈ hadd ls x ↔ y = x ∨ y ∈ ls) {s : LS α} (x : Int) (t : α) (m : Int) (h : LInv s) (hm : right m = true) (hx : s.waits x = none) : LInv (askR hadd s x t m).1 := by
  have hnw : ∀ u, has (s.rows u).waits x = false := fun u => by
    cases hh : has (s.rows u).waits x with
    | false => rfl
    | true =>
      have := (h.ww x u).2 hh
      rw [hx] at this
      cases this
  obtain ⟨w1, w2, w3⟩ := wanted_ok (h.row t) (x := x) hm
  obtain ⟨o, ho⟩ : ∃ o, wanted (s.rows t) x m = o := ⟨_, rfl⟩
  unfold askR
  rw [ho] at w1 w2 w3
  simp only [ho]
  by_cases hcv : enough (s.rows t) x m = true
  · rw [if_pos hcv]
    exact h
  · rw [if_neg hcv]
    by_cases hr : rawB (s.rows t) o (place (s.rows t) x) = []
    · simp only [hr, ne_eq, not_true_eq_false, if_false]
      refine ⟨fun u => ?_, fun u hu => ?_, fun y u => ?_, fun y u => ?_⟩
      · by_cases e : u = t
        · subst e
          show RInv (upd s.rows u _ u)
          rw [upd_same]
          exact grant_inv (h.row u) (by rw [w1]; exact hnw u) w2 (by rw [w1]; exact w3) hr
        · show RInv (upd s.rows t _ u)
          rw [upd_other e]
          exact h.row u
      · show Blk (upd s.rows t ⟨give (s.rows t).holds o, (s.rows t).waits⟩ u) (upd s.rows t ⟨give (s.rows t).holds o, (s.rows t).waits⟩ u).waits.length
        by_cases e : u = t
        · subst e
          rw [upd_same]
          exact grant_blk (by rw [w1]; exact hnw u) (by rw [w1]; exact w3) (h.blk u hu)
        · rw [upd_other e]
          exact h.blk u hu
      · show s.waits y = some u ↔ has (upd s.rows t ⟨give (s.rows t).holds o, (s.rows t).waits⟩ u).waits y = true
        rw [h.ww y u]
        by_cases e : u = t
        · subst e
          rw [upd_same]
        · rw [upd_other e]
      · show u ∈ upd s.held x (hadd (s.held x) t) y ↔ has (upd s.rows t ⟨give (s.rows t).holds o, (s.rows t).waits⟩ u).holds y = true
        have hgive : has (give (s.rows t).holds o) y = true ↔ y = x ∨ has (s.rows t).holds y = true := by
          rw [has_iff, has_iff]
          constructor
          · rintro ⟨w, hw, rfl⟩
            rcases mem_give hw with rfl | ⟨hw, _⟩
            · exact .inl w1
            · exact .inr ⟨w, hw, rfl⟩
          · rintro (rfl | ⟨w, hw, rfl⟩)
            · exact ⟨o, give_self _ _, w1⟩
            · by_cases e : w.1 = o.1
              · exact ⟨o, give_self _ _, e.symm⟩
              · exact ⟨w, give_other hw e, rfl⟩
        by_cases ey : y = x
        · subst ey
          rw [upd_same, ha, h.hh y u]
          by_cases e : u = t
          · subst e
            rw [upd_same]
            exact ⟨fun _ => hgive.2 (.inl rfl), fun _ => .inl rfl⟩
          · rw [upd_other e]
            simp [e]
        · rw [upd_other ey, h.hh y u]
          by_cases e : u = t
          · subst e
            rw [upd_same]
            exact ⟨fun h => hgive.2 (.inr h), fun h => (hgive.1 h).resolve_left ey⟩
          · rw [upd_other e]
    · simp only [ne_eq, hr, not_false_eq_true, if_true]
      refine ⟨fun u => ?_, fun u hu => ?_, fun y u => ?_, fun y u => ?_⟩
      · by_cases e : u = t
        · subst e
          show RInv (upd s.rows u _ u)
          rw [upd_same]
          exact wait_inv (h.row u) (by rw [w1]; exact hnw u) w2 (by rw [w1]; exact w3)
        · show RInv (upd s.rows t _ u)
          rw [upd_other e]
          exact h.row u
      · show Blk (upd s.rows t ⟨(s.rows t).holds, (s.rows t).waits.take (place (s.rows t) x) ++ o :: (s.rows t).waits.drop (place (s.rows t) x)⟩ u) (upd s.rows t ⟨(s.rows t).holds, (s.rows t).waits.take (place (s.rows t) x) ++ o :: (s.rows t).waits.drop (place (s.rows t) x)⟩ u).waits.length
        by_cases e : u = t
        · subst e
          rw [upd_same]
          have hp := place_le (s.rows u) x
          have e2 : ((s.rows u).waits.take (place (s.rows u) x) ++ o :: (s.rows u).waits.drop (place (s.rows u) x)).length = (s.rows u).waits.length + 1 := by
            rw [List.length_append, List.length_cons, List.length_take, List.length_drop]
            omega
          show Blk _ ((s.rows u).waits.take (place (s.rows u) x) ++ o :: (s.rows u).waits.drop (place (s.rows u) x)).length
          rw [e2]
          exact wait_blk hp (h.blk u hu) hr
        · rw [upd_other e]
          exact h.blk u hu
      · show upd s.waits x (some t) y = some u ↔ has (upd s.rows t ⟨(s.rows t).holds, (s.rows t).waits.take (place (s.rows t) x) ++ o :: (s.rows t).waits.drop (place (s.rows t) x)⟩ u).waits y = true
        have hins : has ((s.rows t).waits.take (place (s.rows t) x) ++ o :: (s.rows t).waits.drop (place (s.rows t) x)) y = true ↔ y = x ∨ has (s.rows t).waits y = true := by
          rw [has_iff, has_iff]
          constructor
          · rintro ⟨w, hw, rfl⟩
            rcases List.mem_append.1 hw with hw | hw
            · exact .inr ⟨w, List.mem_of_mem_take hw, rfl⟩
            · rcases List.mem_cons.1 hw with rfl | hw
              · exact .inl w1
              · exact .inr ⟨w, List.mem_of_mem_drop hw, rfl⟩
          · rintro (rfl | ⟨w, hw, rfl⟩)
            · exact ⟨o, by simp, w1⟩
            · refine ⟨w, ?_, rfl⟩
              rw [← List.take_append_drop (place (s.rows t) x) (s.rows t).waits] at hw
              rcases List.mem_append.1 hw with hw | hw
              · exact List.mem_append_left _ hw
              · exact List.mem_append_right _ (List.mem_cons_of_mem _ hw)
        by_cases ey : y = x
        · subst ey
          rw [upd_same]
          by_cases e : u = t
          · subst e
            rw [upd_same]
            exact ⟨fun _ => hins.2 (.inl rfl), fun _ => rfl⟩
          · rw [upd_other e, hnw u]
            simp [Ne.symm e]
        · rw [upd_other ey, h.ww y u]
          by_cases e : u = t
          · subst e
            rw [upd_same]
            exact ⟨fun h => hins.2 (.inr h), fun h => (hins.1 h).resolve_left ey⟩
          · rw [upd_other e]
      · show u ∈ s.held y ↔ has (upd s.rows t ⟨(s.rows t).holds, (s.rows t).waits.take (place (s.rows t) x) ++ o :: (s.rows t).waits.drop (place (s.rows t) x)⟩ u).holds y = true
        rw [h.hh y u]
        by_cases e : u = t
        · subst e
          rw [upd_same]
        · rw [upd_other e]
end
end Go.Proofs.Lk
end
section
namespace Go.Proofs.Lk
set_option linter.unusedVariables false
set_option linter.unusedSimpArgs false
set_option linter.unusedSectionVars false
section
variable {α : Type} [DecidableEq α]
def pres (s : LS α) (t : α) (x : Int) : Prop := has (s.rows t).holds x = true ∨ has (s.rows t).waits x = true
theorem sweepS_rows (hadd : List α → α → List α) (s : LS α) (t : α) : (sweepS hadd s t).1.rows = upd s.rows t (sweepR (s.rows t)).1 := by
  unfold sweepS
  dsimp only
  generalize (sweepR (s.rows t)).2 = l
  have : ∀ (l : List Int) (s : LS α), (l.foldl (noted hadd t) s).rows = s.rows := by
    intro l
    induction l with
    | nil => intro s; rfl
    | cons a l ih => intro s; rw [List.foldl_cons, ih]; rfl
  rw [this]
theorem sweepS_pres {hadd : List α → α → List α} {s : LS α} {t u : α} {x : Int} (h : ∀ t, RInv (s.rows t)) (hp : pres (sweepS hadd s t).1 u x) : pres s u x := by
  unfold pres at hp ⊢
  rw [sweepS_rows] at hp
  by_cases e : u = t
  · subst e
    rw [upd_same] at hp
    obtain ⟨w1, w2, w3⟩ := sweepA_who ((s.rows u).waits.length + 1) (s.rows u) 0 x (h u)
    change x ∈ (sweepR (s.rows u)).2 → _ at w1
    change has (sweepR (s.rows u)).1.waits x = true ↔ _ ∧ x ∉ (sweepR (s.rows u)).2 at w2
    change has (sweepR (s.rows u)).1.holds x = true ↔ _ ∨ x ∈ (sweepR (s.rows u)).2 at w3
    rcases hp with hp | hp
    · rcases w3.1 hp with h1 | h1
      · exact .inl h1
      · exact .inr (w1 h1)
    · exact .inr (w2.1 hp).1
  · rw [upd_other e] at hp
    exact hp
theorem sweepS_row {hadd : List α → α → List α} {s : LS α} {t : α} (h : ∀ t, RInv (s.rows t)) : ∀ u, RInv ((sweepS hadd s t).1.rows u) := by
  intro u
  rw [sweepS_rows]
  by_cases e : u = t
  · subst e
    rw [upd_same]
    exact (sweepR_good (h u)).1
  · rw [upd_other e]
    exact h u
theorem sweepsS_pres {hadd : List α → α → List α} : ∀ (ts : List α) (s : LS α) {u : α} {x : Int}, (∀ t, RInv (s.rows t)) → pres (sweepsS hadd ts s).1 u x → pres s u x
  | [], s, u, x, h, hp => hp
  | t :: ts, s, u, x, h, hp => sweepS_pres h (sweepsS_pres ts _ (sweepS_row h) hp)
theorem release_pres {hadd : List α → α → List α} (ha : ∀ ls x y, y ∈ hadd ls x ↔ y = x ∨ y ∈ ls) {s : LS α} (h : LInv s) {x y : Int} {u : α} (hp : pres (releaseS hadd s x).1 u y) : pres s u y ∧ y ≠ x := by
  have hall : ∀ t, t ∈ allT hadd s x ↔ s.waits x = some t ∨ t ∈ s.held x := fun t => by
    unfold allT
    cases hw : s.waits x with
    | none => simp
    | some u => simp [ha, eq_comm]
  have hr : ∀ t, RInv ((⟨fun t => if t ∈ allT hadd s x then dropR (s.rows t) x else s.rows t, upd s.waits x none, upd s.held x []⟩ : LS α).rows t) := fun t => by
    show RInv (if t ∈ allT hadd s x then dropR (s.rows t) x else s.rows t)
    split
    · exact dropR_inv (h.row t) x
    · exact h.row t
  have h2 := sweepsS_pres _ _ hr hp
  unfold pres at h2
  change has (if u ∈ allT hadd s x then dropR (s.rows u) x else s.rows u).holds y = true ∨ has (if u ∈ allT hadd s x then dropR (s.rows u) x else s.rows u).waits y = true at h2
  split at h2
  · rcases h2 with h2 | h2
    · exact ⟨.inl (has_filter.1 h2).1, (has_filter.1 h2).2⟩
    · exact ⟨.inr (has_filter.1 h2).1, (has_filter.1 h2).2⟩
  · rename_i hn
    refine ⟨h2, fun e => hn ?_⟩
    subst e
    rcases h2 with h2 | h2
    · exact (hall u).2 (.inr ((h.hh y u).2 h2))
    · exact (hall u).2 (.inl ((h.ww y u).2 h2))
theorem cancel_pres {hadd : List α → α → List α} {s : LS α} (h : LInv s) {x y : Int} {u : α} (hp : pres (cancelS hadd s x).1 u y) : pres s u y := by
  unfold cancelS at hp
  cases hw : s.waits x with
  | none => rw [hw] at hp; exact hp
  | some t =>
    rw [hw] at hp
    have hr : ∀ v, RInv ((⟨upd s.rows t ⟨(s.rows t).holds, (s.rows t).waits.filter fun o => o.1 != x⟩, upd s.waits x none, s.held⟩ : LS α).rows v) := fun v => by
      show RInv (upd s.rows t ⟨(s.rows t).holds, (s.rows t).waits.filter fun o => o.1 != x⟩ v)
      by_cases e : v = t
      · subst e
        rw [upd_same]
        have hr := h.row v
        exact ⟨hr.hn, hr.wn.sublist (List.filter_sublist.map _), hr.hm, fun o ho => hr.wm o (List.mem_filter.1 ho).1, hr.safe, fun w hw => hr.up w (List.mem_filter.1 hw).1⟩
      · rw [upd_other e]
        exact h.row v
    have h2 := sweepS_pres hr hp
    unfold pres at h2 ⊢
    change has (upd s.rows t ⟨(s.rows t).holds, (s.rows t).waits.filter fun o => o.1 != x⟩ u).holds y = true ∨ has (upd s.rows t ⟨(s.rows t).holds, (s.rows t).waits.filter fun o => o.1 != x⟩ u).waits y = true at h2
    by_cases e : u = t
    · subst e
      rw [upd_same] at h2
      rcases h2 with h2 | h2
      · exact .inl h2
      · exact .inr (has_filter.1 h2).1
    · rw [upd_other e] at h2
      exact h2
theorem ask_pres {hadd : List α → α → List α} {s : LS α} (h : LInv s) {x y m : Int} {t u : α} (hp : pres (askR hadd s x t m).1 u y) : pres s u y ∨ (y = x ∧ u = t) := by
  have w1 : (wanted (s.rows t) x m).1 = x := by unfold wanted; split <;> rfl
  obtain ⟨o, ho⟩ : ∃ o, wanted (s.rows t) x m = o := ⟨_, rfl⟩
  unfold askR at hp
  rw [ho] at w1
  simp only [ho] at hp
  by_cases hcv : enough (s.rows t) x m = true
  · rw [if_pos hcv] at hp
    exact .inl hp
  · rw [if_neg hcv] at hp
    by_cases hr : rawB (s.rows t) o (place (s.rows t) x) = []
    · simp only [hr, ne_eq, not_true_eq_false, if_false] at hp
      unfold pres at hp ⊢
      change has (upd s.rows t ⟨give (s.rows t).holds o, (s.rows t).waits⟩ u).holds y = true ∨ has (upd s.rows t ⟨give (s.rows t).holds o, (s.rows t).waits⟩ u).waits y = true at hp
      by_cases e : u = t
      · subst e
        rw [upd_same] at hp
        rcases hp with hp | hp
        · obtain ⟨w, hw, rfl⟩ := has_iff.1 hp
          rcases mem_give hw with rfl | ⟨hw, _⟩
          · exact .inr ⟨w1, rfl⟩
          · exact .inl (.inl (has_iff.2 ⟨w, hw, rfl⟩))
        · exact .inl (.inr hp)
      · rw [upd_other e] at hp
        exact .inl hp
    · simp only [ne_eq, hr, not_false_eq_true, if_true] at hp
      unfold pres at hp ⊢
      change has (upd s.rows t ⟨(s.rows t).holds, (s.rows t).waits.take (place (s.rows t) x) ++ o :: (s.rows t).waits.drop (place (s.rows t) x)⟩ u).holds y = true ∨ has (upd s.rows t ⟨(s.rows t).holds, (s.rows t).waits.take (place (s.rows t) x) ++ o :: (s.rows t).waits.drop (place (s.rows t) x)⟩ u).waits y = true at hp
      by_cases e : u = t
      · subst e
        rw [upd_same] at hp
        rcases hp with hp | hp
        · exact .inl (.inl hp)
        · obtain ⟨w, hw, rfl⟩ := has_iff.1 hp
          rcases List.mem_append.1 hw with hw | hw
          · exact .inl (.inr (has_iff.2 ⟨w, List.mem_of_mem_take hw, rfl⟩))
          · rcases List.mem_cons.1 hw with rfl | hw
            · exact .inr ⟨w1, rfl⟩
            · exact .inl (.inr (has_iff.2 ⟨w, List.mem_of_mem_drop hw, rfl⟩))
      · rw [upd_other e] at hp
        exact .inl hp
end
end Go.Proofs.Lk
end
section
namespace Go.Proofs.Lk
set_option linter.unusedVariables false
set_option linter.unusedSimpArgs false
set_option linter.unusedSectionVars false
section
variable {α : Type} [DecidableEq α]
structure Cal (α : Type) where
  what : Int
  txn : Int
  thing : α
  mode : Int
inductive Ans where | ok | form | state
def askS (hadd : List α → α → List α) (fits : α → Bool) (s : LS α) (x : Int) (t : α) (m : Int) : LS α × Bool × Ans :=
  if (fits t && right m) = true then (if (s.waits x).isSome = true then (s, false, .state) else ((askR hadd s x t m).1, (askR hadd s x t m).2, .ok)) else (s, false, .form)
def stepS (hadd : List α → α → List α) (fits : α → Bool) (s : LS α) (c : Cal α) : LS α :=
  if c.what = 0 then (askS hadd fits s c.txn c.thing c.mode).1 else if c.what = 1 then (cancelS hadd s c.txn).1 else if c.what = 2 then (releaseS hadd s c.txn).1 else s
variable {hadd : List α → α → List α} {fits : α → Bool} (ha : ∀ ls x y, y ∈ hadd ls x ↔ y = x ∨ y ∈ ls)
include ha
theorem askS_inv {s : LS α} (h : LInv s) (x : Int) (t : α) (m : Int) : LInv (askS hadd fits s x t m).1 := by
  unfold askS
  split
  · rename_i hf
    rw [Bool.and_eq_true] at hf
    split
    · exact h
    · rename_i hw
      refine ask_inv ha x t m h hf.2 ?_
      cases hx : s.waits x with
      | none => rfl
      | some u => rw [hx] at hw; simp at hw
  · exact h
theorem step_inv {s : LS α} (h : LInv s) (c : Cal α) : LInv (stepS hadd fits s c) := by
  unfold stepS
  split
  · exact askS_inv ha h _ _ _
  · split
    · exact cancel_inv ha _ h
    · split
      · exact release_inv ha _ h
      · exact h
theorem step_pres {s : LS α} (h : LInv s) (c : Cal α) {t : α} {x : Int} (hp : pres (stepS hadd fits s c) t x) : pres s t x ∨ (c.txn = x ∧ c.thing = t ∧ fits t = true) := by
  unfold stepS at hp
  split at hp
  · unfold askS at hp
    split at hp
    · rename_i hf
      rw [Bool.and_eq_true] at hf
      split at hp
      · exact .inl hp
      · rcases ask_pres h hp with h1 | ⟨rfl, rfl⟩
        · exact .inl h1
        · exact .inr ⟨rfl, rfl, hf.1⟩
    · exact .inl hp
  · split at hp
    · exact .inl (cancel_pres h hp)
    · split at hp
      · exact .inl (release_pres ha h hp).1
      · exact .inl hp
end
end Go.Proofs.Lk
end
section
namespace Go.Proofs.Ytkcjcdkmdooofaa.Q
open Go.RowKit Go.Proofs.YtkcjcdkmdooofaaW.PrintWords Go.Proofs.YtkcjcdkmdooofaaW.PrintLast Go.Proofs.YtkcjcdkmdooofaaW.PrintMore
attribute [local go_sem] max2_int min2_int max_two min_two max_three min_three max_four min_four
set_option linter.unusedVariables false
set_option linter.unusedSimpArgs false
def modes_Fits.j0 : Nat → Int → Bool → Int → ByteArray → ByteArray → Option (Bool)
  | 0, _, _, _, _, _ => none
  | k + 1, x4, x5, x278000, x278001, x278002 => if x5 = true then (if x278001.toList = ([] : List UInt8) then (some (x278002.toList == ([] : List UInt8))) else (some false)) else (if x4 = 3 then (some (x278002.toList == ([] : List UInt8))) else (some (x278000 == 4)))
def modes_Fits.f (k : Nat) (a0_0 : Int) (a0_1 : ByteArray) (a0_2 : ByteArray) : Option (Bool) := if a0_0 = 1 then (modes_Fits.j0 k a0_0 (a0_0 == 1) a0_0 a0_1 a0_2) else (modes_Fits.j0 k a0_0 (a0_0 == 2) a0_0 a0_1 a0_2)
theorem modes_Fits.mono_l : ∀ k, (∀ y0 y1 y2 y3 y4, LeO (modes_Fits.j0 k y0 y1 y2 y3 y4) (modes_Fits.j0 (k + 1) y0 y1 y2 y3 y4))
  | 0 => fun _ _ _ _ _ r h => by simp [modes_Fits.j0] at h
  | k + 1 => by
    have ih0 := modes_Fits.mono_l k
    · intro y0 y1 y2 y3 y4
      unfold modes_Fits.j0
      repeat' first
      | (with_reducible exact ih0 _ _ _ _ _)
      | (with_reducible exact LeO.refl _)
      | (with_reducible exact LeO.none _)
      | (with_reducible refine LeO.ite ?_ ?_)
      | (with_reducible refine LeO.bind ?_ (fun _ => ?_))
      | exact ih0 _ _ _ _ _
      | exact LeO.none _
      | refine LeO.ite ?_ ?_
      | refine LeO.bind ?_ (fun _ => ?_)
theorem modes_Fits.mono : ∀ a0 a1 a2 k, LeO (modes_Fits.f k a0 a1 a2) (modes_Fits.f (k + 1) a0 a1 a2) := by
  intro a0 a1 a2 k
  have ih0 := modes_Fits.mono_l k
  unfold modes_Fits.f
  repeat' first
      | (with_reducible exact ih0 _ _ _ _ _)
      | (with_reducible exact LeO.refl _)
      | (with_reducible exact LeO.none _)
      | (with_reducible refine LeO.ite ?_ ?_)
      | (with_reducible refine LeO.bind ?_ (fun _ => ?_))
      | exact ih0 _ _ _ _ _
      | exact LeO.none _
      | refine LeO.ite ?_ ?_
      | refine LeO.bind ?_ (fun _ => ?_)
set_option maxHeartbeats 8000000 in
set_option maxRecDepth 100000 in
theorem modes_Fits.calls (k : Nat) (a0_0 : Int) (a0_1 : ByteArray) (a0_2 : ByteArray) (r : Bool) (w : World) (h : modes_Fits.f k a0_0 a0_1 a0_2 = some r) :
    Calls Try.prog 31 #[.agg #[.int .i64 a0_0, .string a0_1, .string a0_2]] w fun e w' => e = .returned (.bool r) ∧ Below w.heap.size w w' := by
  have hu29 := Try.underlying29
  have HB := Aside0.mk (Below.refl w.heap.size w)
  have H : (if a0_0 = 1 then (modes_Fits.j0 k a0_0 (a0_0 == 1) a0_0 a0_1 a0_2) else (modes_Fits.j0 k a0_0 (a0_0 == 2) a0_0 a0_1 a0_2)) = some r := h
  clear h
  have HC2 := Aside0.mk H
  clear H
  go_enter Try.func31, Try.ntmps31
  go_upto_if 5 with (first | ((with_reducible refine gate_dst (N := 1) rfl ?_); refine box_event ?hg (N := 1) ?hd (cs := #[.int .i64 a0_0, .string a0_1, .string a0_2]) (t := 29) ?hr ?_; (case hd => rfl); (case hg => rfl); (case hr => first | (go_simp; done) | (go_simp; rfl)); intro gb277 hg w3 hbox hb; have n0_ := Aside0.mk (below_step (by repeat (first | (with_reducible first | exact HB.out | apply below_alloc | apply pw_below_drewN | apply below_drew1) | exact HB.out)) hb); have n1_ := Aside0.mk (hbox); have n2_ := Aside0.mk ((by rw [hg]; exact (below_size (by repeat (first | (with_reducible first | exact HB.out | apply below_alloc | apply pw_below_drewN | apply below_drew1) | exact HB.out))) : w.heap.size ≤ gb277)); have n3_ := Aside0.mk ((by rw [hg]; exact (below_size (by repeat (first | (with_reducible first | exact HB.out | apply below_alloc | apply pw_below_drewN | apply below_drew1) | exact HB.out))) : w.heap.size ≤ gb277)); clear HB; have HB := n0_; have BK277 := n1_; have GW277 := n2_; have GE277 := n3_; clear n0_ n1_ n2_ n3_; clear hb hbox hg; have hcz4_0 : w3.cell? ⟨gb277, 0, none⟩ = some (.int .i64 a0_0) := (blk_cell BK277.out 0).trans rfl; have hcz4_1 : w3.cell? ⟨gb277, 1, none⟩ = some (.string a0_1) := (blk_cell BK277.out 1).trans rfl; have hcz4_2 : w3.cell? ⟨gb277, 2, none⟩ = some (.string a0_2) := (blk_cell BK277.out 2).trans rfl; have hfz4_0 := blk_frozen BK277.out 0; have hfz4_1 := blk_frozen BK277.out 1; have hfz4_2 := blk_frozen BK277.out 2))
  (try simp only [Act.put, List.setIfInBounds_toArray, List.set_cons_zero, List.set_cons_succ])
  go_cut [5] (fun v5 wc => ∃ (kq : Nat) (x5_1 : Bool), v5 = .bool x5_1 ∧ Aside0 (modes_Fits.j0 kq a0_0 x5_1 a0_0 a0_1 a0_2 = some r) ∧ Aside0 (kq ≤ k) ∧ Aside0 (wc.heap[gb277]? = some (.cells #[.int .i64 a0_0, .string a0_1, .string a0_2] 29 (0, 0))) ∧ Aside0 (Below w.heap.size w wc))
  case first =>
    have H := HC2.out
    clear HC2
    by_cases c5 : a0_0 = 1
    · rw [if_pos c5] at H
      have c5b0 : (a0_0 == 1) = true := beq_iff_eq.mpr c5
      have c5b1 : (a0_0 != 1) = false := bne_eq_false_iff_eq.mpr c5
      clear c5
      (first | rw [c5b0] | (simp only [i64_w, i32_w]; rw [c5b0]) | skip)
      have H' := Aside0.mk H
      clear H
      go_wp2
      go_meet
      case rel => exact ⟨_, ((a0_0 == 1)), (by first | rfl | (simp; done) | (simp [*]; done)), H', ⟨by first | omega | exact Nat.le_refl _⟩, ⟨by (with_reducible repeat (first | refine blk_drewN ?_ _ | refine blk_drew ?_ | refine blk_alloc ?_ _)); exact BK277.out⟩, ⟨by repeat (first | (with_reducible first | exact HB.out | apply below_alloc | apply pw_below_drewN | apply below_drew1 | refine below_set ?_ GE277.out) | exact HB.out)⟩⟩
    · rw [if_neg c5] at H
      have c5b0 : (a0_0 == 1) = false := beq_eq_false_iff_ne.mpr c5
      have c5b1 : (a0_0 != 1) = true := bne_iff_ne.mpr c5
      (first | rw [c5b0] | (simp only [i64_w, i32_w]; rw [c5b0]) | skip)
      have H' := Aside0.mk H
      clear H
      go_wp2
      go_meet
      case rel => exact ⟨_, ((a0_0 == 2)), (by first | rfl | (simp; done) | (simp [*]; done)), H', ⟨by first | omega | exact Nat.le_refl _⟩, ⟨by (with_reducible repeat (first | refine blk_drewN ?_ _ | refine blk_drew ?_ | refine blk_alloc ?_ _)); exact BK277.out⟩, ⟨by repeat (first | (with_reducible first | exact HB.out | apply below_alloc | apply pw_below_drewN | apply below_drew1 | refine below_set ?_ GE277.out) | exact HB.out)⟩⟩
  case rest =>
    clear HC2
    try clear p2
    try clear c3
    try clear c5
    try clear c5b0
    try clear c5b1
    try clear hcz4_0
    try clear hcz4_1
    try clear hcz4_2
    try clear hfz4_0
    try clear hfz4_1
    try clear hfz4_2
    obtain ⟨kq, x5_1, rfl, HA, HJ1, BK277, HB⟩ := hcut
    cases kq with
    | zero => exact absurd HA.out (by simp [modes_Fits.j0])
    | succ kj1 =>
      have H := HA.out
      clear HA
      simp only [modes_Fits.j0] at H
      by_cases c6 : x5_1 = true
      · subst c6
        have H1 : (if a0_1.toList = ([] : List UInt8) then (some (a0_2.toList == ([] : List UInt8))) else (some false)) = some r := by rw [if_pos rfl] at H; exact H
        clear H
        have H := H1
        clear H1
        by_cases c7 : a0_1.toList = ([] : List UInt8)
        · rw [if_pos c7] at H
          have c7b0 : (a0_1.toList == ([] : List UInt8)) = true := beq_iff_eq.mpr c7
          have c7b1 : (a0_1.toList != ([] : List UInt8)) = false := bne_eq_false_iff_eq.mpr c7
          clear c7
          obtain rfl := Option.some.inj H
          have hcz8_0 : wc.cell? ⟨gb277, 0, none⟩ = some (.int .i64 a0_0) := (blk_cell BK277.out 0).trans rfl
          have hcz8_1 : wc.cell? ⟨gb277, 1, none⟩ = some (.string a0_1) := (blk_cell BK277.out 1).trans rfl
          have hcz8_2 : wc.cell? ⟨gb277, 2, none⟩ = some (.string a0_2) := (blk_cell BK277.out 2).trans rfl
          have hfz8_0 := blk_frozen BK277.out 0
          have hfz8_1 := blk_frozen BK277.out 1
          have hfz8_2 := blk_frozen BK277.out 2
          go_wp2
          go_ret
          exact ⟨by first | rfl | (simp [errW_none, errW_some] <;> rfl) | (simp [*, errW_none, errW_some] <;> rfl), by repeat (first | (with_reducible first | exact HB.out | apply below_alloc | apply pw_below_drewN | apply below_drew1 | refine below_set ?_ GE277.out) | exact HB.out)⟩
        · rw [if_neg c7] at H
          have c7b0 : (a0_1.toList == ([] : List UInt8)) = false := beq_eq_false_iff_ne.mpr c7
          have c7b1 : (a0_1.toList != ([] : List UInt8)) = true := bne_iff_ne.mpr c7
          obtain rfl := Option.some.inj H
          have hcz9_0 : wc.cell? ⟨gb277, 0, none⟩ = some (.int .i64 a0_0) := (blk_cell BK277.out 0).trans rfl
          have hcz9_1 : wc.cell? ⟨gb277, 1, none⟩ = some (.string a0_1) := (blk_cell BK277.out 1).trans rfl
          have hcz9_2 : wc.cell? ⟨gb277, 2, none⟩ = some (.string a0_2) := (blk_cell BK277.out 2).trans rfl
          have hfz9_0 := blk_frozen BK277.out 0
          have hfz9_1 := blk_frozen BK277.out 1
          have hfz9_2 := blk_frozen BK277.out 2
          go_wp2
          go_ret
          exact ⟨by first | rfl | (simp [errW_none, errW_some] <;> rfl) | (simp [*, errW_none, errW_some] <;> rfl), by repeat (first | (with_reducible first | exact HB.out | apply below_alloc | apply pw_below_drewN | apply below_drew1 | refine below_set ?_ GE277.out) | exact HB.out)⟩
      · replace c6 := Bool.eq_false_iff.mpr c6
        subst c6
        have H1 : (if a0_0 = 3 then (some (a0_2.toList == ([] : List UInt8))) else (some (a0_0 == 4))) = some r := by rw [if_neg (show ¬ (false = true) by decide)] at H; exact H
        clear H
        have H := H1
        clear H1
        by_cases c10 : a0_0 = 3
        · rw [if_pos c10] at H
          have c10b0 : (a0_0 == 3) = true := beq_iff_eq.mpr c10
          have c10b1 : (a0_0 != 3) = false := bne_eq_false_iff_eq.mpr c10
          clear c10
          obtain rfl := Option.some.inj H
          have hcz11_0 : wc.cell? ⟨gb277, 0, none⟩ = some (.int .i64 a0_0) := (blk_cell BK277.out 0).trans rfl
          have hcz11_1 : wc.cell? ⟨gb277, 1, none⟩ = some (.string a0_1) := (blk_cell BK277.out 1).trans rfl
          have hcz11_2 : wc.cell? ⟨gb277, 2, none⟩ = some (.string a0_2) := (blk_cell BK277.out 2).trans rfl
          have hfz11_0 := blk_frozen BK277.out 0
          have hfz11_1 := blk_frozen BK277.out 1
          have hfz11_2 := blk_frozen BK277.out 2
          go_wp2
          go_ret
          exact ⟨by first | rfl | (simp [errW_none, errW_some] <;> rfl) | (simp [*, errW_none, errW_some] <;> rfl), by repeat (first | (with_reducible first | exact HB.out | apply below_alloc | apply pw_below_drewN | apply below_drew1 | refine below_set ?_ GE277.out) | exact HB.out)⟩
        · rw [if_neg c10] at H
          have c10b0 : (a0_0 == 3) = false := beq_eq_false_iff_ne.mpr c10
          have c10b1 : (a0_0 != 3) = true := bne_iff_ne.mpr c10
          obtain rfl := Option.some.inj H
          have hcz12_0 : wc.cell? ⟨gb277, 0, none⟩ = some (.int .i64 a0_0) := (blk_cell BK277.out 0).trans rfl
          have hcz12_1 : wc.cell? ⟨gb277, 1, none⟩ = some (.string a0_1) := (blk_cell BK277.out 1).trans rfl
          have hcz12_2 : wc.cell? ⟨gb277, 2, none⟩ = some (.string a0_2) := (blk_cell BK277.out 2).trans rfl
          have hfz12_0 := blk_frozen BK277.out 0
          have hfz12_1 := blk_frozen BK277.out 1
          have hfz12_2 := blk_frozen BK277.out 2
          go_wp2
          go_ret
          exact ⟨by first | rfl | (simp [errW_none, errW_some] <;> rfl) | (simp [*, errW_none, errW_some] <;> rfl), by repeat (first | (with_reducible first | exact HB.out | apply below_alloc | apply pw_below_drewN | apply below_drew1 | refine below_set ?_ GE277.out) | exact HB.out)⟩
end Go.Proofs.Ytkcjcdkmdooofaa.Q
end
section
namespace Go.Proofs.Kb
open Go Go.RowKit Go.Proofs.Ytkcjcdkmdooofaa.Q Go.Proofs.YtkcjcdkmdooofaaW.PrintWords Go.Proofs.YtkcjcdkmdooofaaW.PrintLast Go.Proofs.YtkcjcdkmdooofaaW.PrintMore
set_option linter.unusedVariables false
set_option linter.unusedSimpArgs false
set_option maxRecDepth 100000
open Go.Proofs.Lk Go.Proofs.Mp
def fitsT (t : S29) : Bool := (modes_Fits.f 4 t.f0 t.f1 t.f2).getD false
theorem fitsT_f (t : S29) : modes_Fits.f 4 t.f0 t.f1 t.f2 = some (fitsT t) := by
  have h : ∃ b, modes_Fits.f 4 t.f0 t.f1 t.f2 = some b := by
    unfold modes_Fits.f
    simp only [modes_Fits.j0]
    repeat' split
    all_goals exact ⟨_, rfl⟩
  obtain ⟨b, hb⟩ := h
  unfold fitsT
  rw [hb]
  rfl
theorem fits_calls (w : World) (t : S29) : Calls Try.prog 31 #[thgV t] w fun E w' => E = .returned (.bool (fitsT t)) ∧ Below w.heap.size w w' := modes_Fits.calls 4 _ _ _ _ w (fitsT_f t)
theorem right_calls (w : World) (m : Int) : Calls Try.prog 32 #[.int .i64 m] w fun E w' => E = .returned (.bool (right m)) ∧ Below w.heap.size w w' := (modes_Right.calls m _ w (right_f m)).mono fun E w' h => ⟨h.1, h.2.below⟩
theorem modeOf_some {r : LRow} {x h : Int} (hm : modeOf r x = some h) : ∃ i, r.holds.findIdx? (isT x) = some i ∧ r.holds[i]? = some (x, h) := by
  unfold modeOf at hm
  rw [Option.map_eq_some_iff] at hm
  obtain ⟨o, ho, rfl⟩ := hm
  obtain ⟨h1, i, hi, e, h2⟩ := List.find?_eq_some_iff_getElem.1 ho
  refine ⟨i, List.findIdx?_eq_some_iff_getElem.2 ⟨hi, by rw [e]; exact h1, fun j hj => by have := h2 j hj; unfold isT; simpa using this⟩, ?_⟩
  rw [List.getElem?_eq_getElem hi, e]
  have : o.1 = x := eq_of_beq h1
  rw [← this]
theorem modeOf_none {r : LRow} {x : Int} (hm : modeOf r x = none) : r.holds.findIdx? (isT x) = none := by
  unfold modeOf at hm
  rw [Option.map_eq_none_iff, List.find?_eq_none] at hm
  rw [List.findIdx?_eq_none_iff]
  intro o ho
  have := hm o ho
  unfold isT
  simpa using this
theorem place_le (r : LRow) (x : Int) : place r x ≤ r.waits.length := by
  unfold place
  split
  · split
    · rename_i n h
      exact Nat.le_of_lt (List.findIdx?_eq_some_iff_getElem.1 h).1
    · exact Nat.le_refl _
  · exact Nat.le_refl _
theorem St.putBlk {w0 w : World} {F : Nat → Prop} {cs : List Chunk} {b : Nat} {C C' : Array Value} {t : TypeId} (s : St w0 F w cs) (i : Nat) (hi : cs[i]? = some (blkC b (.cells C t (0, 0)))) (j : Nat) (v : Value) (e : C.setIfInBounds j v = C') :
    St w0 F (w.setCell ⟨b, j, none⟩ v) (cs.set i (blkC b (.cells C' t (0, 0)))) :=
  s.upd i hi (blkC b (.cells C' t (0, 0))) (keep_set w b j _ _ (by simp [blkC])) (blk_put (s.blk i hi) j v e) (nd_one b) (fun x hx => .inl hx)
def errC : Ans → Int
  | .ok => 0
  | .form => 10
  | .state => 21
def wantV (t : S29) (m : Int) : Value := .agg #[.int .i64 t.f0, .string t.f1, .string t.f2, .int .i64 m]
def AskE (q : LS S29 × Bool × Ans) : Ending := .returned (.tuple #[.bool q.2.1, .int .i64 (errC q.2.2)])
def Ask17 (w : World) (F : Nat → Prop) (M : LM) (q : LS S29 × Bool × Ans) (E : Ending) (w' : World) : Prop :=
  ∃ M', E = AskE q ∧ Rep M' q.1 ∧ M'.lp = M.lp ∧ M'.tot ≤ M.tot + 10 ∧ St w F w' (lk M')
set_option maxHeartbeats 4000000 in
theorem ask_calls (w : World) (M : LM) (s : LS S29) (x : Int) (t : S29) (m : Int) (F : Nat → Prop) (N : Nat) (hs : St w F w (lk M)) (hr : Rep M s) (hI : LInv s) (hx : wfI x) (ht : wfT t) (hok : OkS N s) (hN : N ≤ 1000) (hn : M.tot < 4000000000000000000) :
    Calls Try.prog 17 #[lpV M, .int .i64 x, wantV t m] w (Ask17 w F M (askS haddT fitsT s x t m)) := by
  obtain ⟨q, hq⟩ : ∃ q, askS haddT fitsT s x t m = q := ⟨_, rfl⟩
  rw [hq]
  obtain ⟨R, hR⟩ : ∃ R, Ask17 w F M q = R := ⟨_, rfl⟩
  have HR := Aside0.mk hR
  rw [hR]
  have hu55 := Try.underlying55
  have hu56 := Try.underlying56
  have hu59 := Try.underlying59
  have hu29 := Try.underlying29
  have hu31 := Try.underlying31
  have hu62 := Try.underlying62
  have hu64 := Try.underlying64
  have hu66 := Try.underlying66
  have hz29 := Try.sizeOf29
  have hz66 := Try.sizeOf66
  obtain ⟨n5, hn5⟩ : ∃ n, w.heap.size = n := ⟨_, rfl⟩
  obtain ⟨W0, hW0⟩ : ∃ W0, w.alloc (.cells #[.int .i64 t.f0, .string t.f1, .string t.f2, .int .i64 m] 31) = W0 := ⟨_, rfl⟩
  have hs0 := hs.alloc #[.int .i64 t.f0, .string t.f1, .string t.f2, .int .i64 m] 31 hn5
  rw [hW0] at hs0
  have HS0 := Aside0.mk hs0
  have HREP := Aside0.mk hr
  have HI := Aside0.mk hI
  have HX := Aside0.mk hx
  have HT := Aside0.mk ht
  have HOK := Aside0.mk hok
  have HN := Aside0.mk hN
  have HTOT := Aside0.mk hn
  have A31 := Aside0.mk (fun W => fits_calls W t)
  have A32 := Aside0.mk (fun W => right_calls W m)
  have A56 := Aside0.mk (fun W (R1 : List Chunk) (h : St w F W (lk M ++ R1)) => lookW h hr hx)
  have e0 := (blk_cell (hs0.blk 6 rfl) 0).trans rfl
  have e1 := (blk_cell (hs0.blk 6 rfl) 1).trans rfl
  have e2 := (blk_cell (hs0.blk 6 rfl) 2).trans rfl
  have e3 := (blk_cell (hs0.blk 6 rfl) 3).trans rfl
  have h5 := lt_of_some (hs0.blk 6 rfl)
  clear hR hs hs0 hr hI hx ht hok hN hn
  unfold lpV wantV
  unfold thgV at A31
  have G1 : True := trivial
  have G2 : True := trivial
  cases hft : fitsT t with
  | false =>
    rw [hft] at A31
    have HQ := Aside0.mk hq
    have HF := Aside0.mk hft
    clear hq hft
    go_enter Try.func17, Try.ntmps17
    go_wp2_with (go_at_call 31; refine (A31.out _).mono ?_; rintro E w1 ⟨rfl, hb⟩; have HS1 := Aside0.mk (HS0.out.below hb); clear hb e0 e1 e2 e3 h5)
    rw [← HR.out]
    have e : q = (s, false, .form) := by rw [← HQ.out]; unfold askS; rw [HF.out]; rfl
    rw [e]
    exact ⟨M, rfl, HREP.out, rfl, Nat.le_add_right _ _, St.left (A := lk M) HS1.out⟩
  | true =>
    rw [hft] at A31
    cases hri : right m with
    | false =>
      rw [hri] at A32
      have HQ := Aside0.mk hq
      have HF := Aside0.mk hft
      have HRI := Aside0.mk hri
      clear hq hft hri
      go_enter Try.func17, Try.ntmps17
      go_wp2_with (first
        | (clear G1; go_at_call 31; refine (A31.out _).mono ?_; rintro E w1 ⟨rfl, hb⟩; have hs1 := HS0.out.below hb; have HS1 := Aside0.mk hs1; clear hb e0 e1 e2 e3 h5 HS0; have e0 := (blk_cell (hs1.blk 6 rfl) 0).trans rfl; have e1 := (blk_cell (hs1.blk 6 rfl) 1).trans rfl; have e2 := (blk_cell (hs1.blk 6 rfl) 2).trans rfl; have e3 := (blk_cell (hs1.blk 6 rfl) 3).trans rfl; have h5 := lt_of_some (hs1.blk 6 rfl); clear hs1)
        | (go_at_call 32; refine (A32.out _).mono ?_; rintro E w2 ⟨rfl, hb⟩; have HS2 := Aside0.mk (HS1.out.below hb); clear hb e0 e1 e2 e3 h5))
      rw [← HR.out]
      have e : q = (s, false, .form) := by rw [← HQ.out]; unfold askS; rw [HF.out, HRI.out]; rfl
      rw [e]
      exact ⟨M, rfl, HREP.out, rfl, Nat.le_add_right _ _, St.left (A := lk M) HS2.out⟩
    | true =>
      rw [hri] at A32
      cases hw : s.waits x with
      | some u =>
        rw [hw] at A56
        simp only [Option.map, Option.getD, Option.isSome, thgV] at A56
        have HQ := Aside0.mk hq
        have HF := Aside0.mk hft
        have HRI := Aside0.mk hri
        have HW := Aside0.mk hw
        clear hq hft hri hw
        go_enter Try.func17, Try.ntmps17
        go_wp2_with (first
          | (clear G1; go_at_call 31; refine (A31.out _).mono ?_; rintro E w1 ⟨rfl, hb⟩; have hs1 := HS0.out.below hb; have HS1 := Aside0.mk hs1; clear hb e0 e1 e2 e3 h5 HS0; have e0 := (blk_cell (hs1.blk 6 rfl) 0).trans rfl; have e1 := (blk_cell (hs1.blk 6 rfl) 1).trans rfl; have e2 := (blk_cell (hs1.blk 6 rfl) 2).trans rfl; have e3 := (blk_cell (hs1.blk 6 rfl) 3).trans rfl; have h5 := lt_of_some (hs1.blk 6 rfl); clear hs1)
          | (go_at_call 32; refine (A32.out _).mono ?_; rintro E w2 ⟨rfl, hb⟩; have hs2 := HS1.out.below hb; clear hb e0 e1 e2 e3 h5; have hlk := A56.out _ _ hs2; obtain ⟨l0, l1, l2, hlp⟩ := hs2.lpAt 0 rfl; have HS3 := Aside0.mk (hs2.alloc #[.int .i64 u.f0, .string u.f1, .string u.f2] 29 rfl); clear hs2))
        rw [← HR.out]
        have e : q = (s, false, .state) := by rw [← HQ.out]; unfold askS; rw [HF.out, HRI.out, HW.out]; rfl
        rw [e]
        exact ⟨M, rfl, HREP.out, rfl, Nat.le_add_right _ _, St.left (A := lk M) HS3.out⟩
      | none =>
        rw [hw] at A56
        simp only [Option.map, Option.getD, Option.isSome] at A56
        have hq2 : (askR haddT s x t m).1 = q.1 ∧ (askR haddT s x t m).2 = q.2.1 ∧ Ans.ok = q.2.2 := by
          rw [← hq]
          unfold askS
          rw [hft, hri, hw]
          exact ⟨rfl, rfl, rfl⟩
        have HQ := Aside0.mk hq2
        obtain ⟨r0, hr0⟩ : ∃ r0, s.rows t = r0 := ⟨_, rfl⟩
        have HR0 := Aside0.mk hr0
        have hri0 := HI.out.row t
        rw [hr0] at hri0
        have hok0 := HOK.out.rows t
        rw [hr0] at hok0
        have HINV := Aside0.mk hri0
        have HOK0 := Aside0.mk hok0
        have HRI := Aside0.mk hri
        clear hq hq2 hft hri hw hr0 hri0 hok0
        have A28 := Aside0.mk (fun W (R1 : List Chunk) (h : St w F W (lk M ++ R1)) => row_fr h HREP.out HT.out (by have := HTOT.out; simp only [LM.tot] at *; simp only [maxLen]; omega))
        unfold lpV thgV at A28
        have A33 := Aside0.mk (fun W p hv wv (h : RowH W p hv wv r0) => hold_calls W p hv wv r0 x h (by have := HOK0.out.len; omega))
        have A36 := Aside0.mk (fun W p hv wv (h : RowH W p hv wv r0) => place_calls W p hv wv r0 x h (by have := HOK0.out.len; omega) (by have := HOK0.out.len; omega))
        unfold ptr at A33 A36
        have hpl := place_le r0 x
        obtain ⟨pl, hpe⟩ : ∃ pl, place r0 x = pl := ⟨_, rfl⟩
        rw [hpe] at A36 hpl
        have HPL := Aside0.mk hpl
        have HPE := Aside0.mk hpe
        have hp0 : (0 : Int) ≤ (pl : Int) := by omega
        have hp9 : (pl : Int) ≤ 1000000 := by have := HOK0.out.len; omega
        clear hpl hpe
        cases hmo : modeOf r0 x with
        | some h =>
          obtain ⟨i, hf1, hf2⟩ := modeOf_some hmo
          have hij : idxI r0.holds (isT x) = i := by unfold idxI; rw [hf1]
          rw [hij] at A33
          have hil := (List.getElem?_eq_some_iff.1 hf2).1
          obtain ⟨nh, hnh⟩ : ∃ n, r0.holds.length = n := ⟨_, rfl⟩
          rw [hnh] at hil
          have hi0 : (0 : Int) ≤ (i : Int) := by omega
          have hi1 : (i : Int) < (nh : Int) := by omega
          have hrh : right h = true := HINV.out.hm _ (List.mem_of_getElem? hf2)
          have HNH := Aside0.mk hnh
          have HIL := Aside0.mk hil
          have HF2 := Aside0.mk hf2
          have HMO := Aside0.mk hmo
          have A34 := Aside0.mk (fun W => cov_calls W h m)
          have A35 := Aside0.mk (fun W => join_calls W hrh HRI.out)
          clear hmo hf1 hf2 hij hil hnh hrh
          cases hco : cov h m with
          | true =>
            rw [hco] at A34
            have HCO := Aside0.mk hco
            clear hco
            have G3 : True := trivial
            have G4 : True := trivial
            go_enter Try.func17, Try.ntmps17
            go_wp2_with (first
              | (clear G1; go_at_call 31; refine (A31.out _).mono ?_; rintro E w1 ⟨rfl, hb⟩; have hs1 := HS0.out.below hb; have HS1 := Aside0.mk hs1; clear hb e0 e1 e2 e3 h5 HS0; have e0 := (blk_cell (hs1.blk 6 rfl) 0).trans rfl; have e1 := (blk_cell (hs1.blk 6 rfl) 1).trans rfl; have e2 := (blk_cell (hs1.blk 6 rfl) 2).trans rfl; have e3 := (blk_cell (hs1.blk 6 rfl) 3).trans rfl; have h5 := lt_of_some (hs1.blk 6 rfl); clear hs1)
              | (clear G2; go_at_call 32; refine (A32.out _).mono ?_; rintro E w2 ⟨rfl, hb⟩; have hs2 := HS1.out.below hb; clear hb e0 e1 e2 e3 h5; have hlk := A56.out _ _ hs2; obtain ⟨l0, l1, l2, hlp⟩ := hs2.lpAt 0 rfl; have e0 := (blk_cell (hs2.blk 6 rfl) 0).trans rfl; have e1 := (blk_cell (hs2.blk 6 rfl) 1).trans rfl; have e2 := (blk_cell (hs2.blk 6 rfl) 2).trans rfl; have e3 := (blk_cell (hs2.blk 6 rfl) 3).trans rfl; have h5 := lt_of_some (hs2.blk 6 rfl); have HS2 := Aside0.mk (hs2.alloc #[.int .i64 0, .string ⟨#[]⟩, .string ⟨#[]⟩] 29 rfl); clear hs2)
              | (clear G3; go_at_call 28; refine (A28.out _ _ (show St w F _ (lk M ++ [_, _]) from HS2.out)).mono ?_; rintro E w3 ⟨M1, X, mm, Y, rfl, k1, k2, k3, k4, k5, k6⟩; have HE := Aside0.mk k1; have HMT := Aside0.mk k2; have HREP1 := Aside0.mk k3; have HLP := Aside0.mk k4; have HTOT1 := Aside0.mk k5; have h1 := k6; unfold lk at h1; rw [k1] at h1; have h2 := St.openR h1; have hmr : mm.r = r0 := ((k2 ▸ k3.rr mm (k1 ▸ mem_mid.2 (.inl rfl)) : mm.r = s.rows t).trans HR0.out); have HMR := Aside0.mk hmr; rw [hmr] at h2; obtain ⟨Aw, cw, hwv⟩ := (h2.rowX 2 rfl).form; have HWV := Aside0.mk hwv; rw [hwv] at h2; clear hwv; obtain ⟨n11, hn11⟩ : ∃ n, w3.heap.size = n := ⟨_, rfl⟩; have h3 := h2.alloc #[.int .i64 x, .int .i64 m] 66 hn11; have HS3 := Aside0.mk h3; clear e0 e1 e2 e3 h5 l0 l1 l2 hlp hlk; have e0 := (blk_cell (h2.blk 9 rfl) 0).trans rfl; have e1 := (blk_cell (h2.blk 9 rfl) 1).trans rfl; have e2 := (blk_cell (h2.blk 9 rfl) 2).trans rfl; have e3 := (blk_cell (h2.blk 9 rfl) 3).trans rfl; have h5 := lt_of_some (h2.blk 9 rfl); clear h1 h2 h3 hmr k1 k2 k3 k4 k5 k6; unfold ptr)
              | (clear G4; go_at_call 33; refine (A33.out _ _ _ _ (St.rowH (R := lkO M1 (X ++ Y) M1.hs ++ [_, _, _]) HS3.out)).mono ?_; rintro E w4 ⟨rfl, hb⟩; have hs4 := HS3.out.below hb; clear hb HS3 e0 e1 e2 e3 h5; obtain ⟨g, ch, hvv, hcap⟩ := (hs4.rowX 1 rfl).fill (by rw [HNH.out]; have := HIL.out; omega); rw [hvv, HNH.out] at hs4; obtain ⟨d0, d1⟩ := (hs4.rowX 1 rfl).ones HF2.out; have ff := (fun j => frozen_of_row _ _ j _ _ (hs4.blk 11 rfl)); obtain ⟨c0, c1, cf⟩ := hs4.cells64 0 rfl; have hlt := World.block_lt_of_cell? _ _ c0; have e0 := (blk_cell (hs4.blk 9 rfl) 0).trans rfl; have e1 := (blk_cell (hs4.blk 9 rfl) 1).trans rfl; have e2 := (blk_cell (hs4.blk 9 rfl) 2).trans rfl; have e3 := (blk_cell (hs4.blk 9 rfl) 3).trans rfl; have h5 := lt_of_some (hs4.blk 9 rfl); have f0 := (blk_cell (hs4.blk 11 rfl) 0).trans rfl; have f1 := (blk_cell (hs4.blk 11 rfl) 1).trans rfl; have h11 := lt_of_some (hs4.blk 11 rfl); obtain ⟨l0, l1, l2, hlp⟩ := hs4.lpAt 3 rfl; rw [HLP.out] at l0 l1 l2 hlp; have HHV := Aside0.mk hvv; rw [HNH.out] at HHV; have HS4 := Aside0.mk hs4; clear hs4 hvv)
              | (go_at_call 34; refine (A34.out _).mono ?_; rintro E w5 ⟨rfl, hb⟩; have HS5 := Aside0.mk (HS4.out.below hb); clear hb ff c0 c1 cf hlt e0 e1 e2 e3 h5 f0 f1 h11 l0 l1 l2 hlp d0 d1))
            rw [← HR.out]
            have e : askR haddT s x t m = (s, true) := by unfold askR enough; simp only [HR0.out, HMO.out, HCO.out, if_true]
            have hq := HQ.out
            rw [e] at hq
            refine ⟨M1, by unfold AskE; rw [← hq.2.1, ← hq.2.2]; rfl, by rw [← hq.1]; exact HREP1.out, HLP.out, by have := HTOT1.out; omega, ?_⟩
            have h9 := HS5.out
            rw [← HMR.out, ← HHV.out] at h9
            have hwv := HWV.out
            rw [← HMR.out] at hwv
            rw [← hwv] at h9
            have h10 := St.closeR (m := mm) h9
            rw [← HE.out] at h10
            exact St.left (A := lk M1) h10
          | false =>
            rw [hco] at A34
            have HWA := Aside0.mk (show wanted r0 x m = (x, join h m) by unfold wanted; rw [HMO.out])
            have HEN := Aside0.mk (show enough r0 x m = false by unfold enough; rw [HMO.out]; exact hco)
            obtain ⟨mo, hmo⟩ : ∃ mo, join h m = mo := ⟨_, rfl⟩
            rw [hmo] at A35 HWA
            clear hco hmo
            have A30 := Aside0.mk (fun W p hv wv (h : RowH W p hv wv r0) => blockers_some W p hv wv r0 (x, mo) pl h HPL.out (by have := HOK0.out.len; omega))
            unfold ptr oneV at A30
            have G3 : True := trivial
            have G4 : True := trivial
            have G5 : True := trivial
            have G6 : True := trivial
            have G7 : True := trivial
            have G8 : True := trivial
            by_cases hb : rawB r0 (x, mo) pl = []
            · have HB := Aside0.mk hb
              have e : askR haddT s x t m = (⟨upd s.rows t ⟨Lk.give r0.holds (x, mo), r0.waits⟩, s.waits, upd s.held x (haddT (s.held x) t)⟩, true) := by
                unfold askR
                simp only [HR0.out, HEN.out, HWA.out, HPE.out, hb]
                rfl
              have HASK := Aside0.mk e
              have A38 := Aside0.mk (fun W p hv wv (h : St W (fun b => b ∈ fpc (row3 p hv wv r0)) W (row3 p hv wv r0)) => give_calls W p hv wv r0 (x, mo) _ h (by have := HOK0.out.len; omega) HINV.out.hn)
              unfold ptr oneV at A38
              have HHE := Aside0.mk (HOK.out.held x)
              have A39 := Aside0.mk (fun W M2 s2 (R1 : List Chunk) (h1 : St w F W (lk M2 ++ R1)) (h2 : Rep M2 s2) (h3 : s2.held x = s.held x) (h4 : M2.tot ≤ M.tot + 1) => note_fr (t := t) h1 h2 HX.out (by rw [h3]; exact HHE.out.1) (by rw [h3]; have := HHE.out.2; have := HN.out; omega) (by have := HTOT.out; simp only [LM.tot] at *; simp only [maxLen]; omega))
              unfold lpV thgV at A39
              have G9 : True := trivial
              clear hb e
              go_enter Try.func17, Try.ntmps17
              go_wp2_with (first
                | (clear G1; go_at_call 31; refine (A31.out _).mono ?_; rintro E w1 ⟨rfl, hb⟩; have hs1 := HS0.out.below hb; have HS1 := Aside0.mk hs1; clear hb e0 e1 e2 e3 h5 HS0; have e0 := (blk_cell (hs1.blk 6 rfl) 0).trans rfl; have e1 := (blk_cell (hs1.blk 6 rfl) 1).trans rfl; have e2 := (blk_cell (hs1.blk 6 rfl) 2).trans rfl; have e3 := (blk_cell (hs1.blk 6 rfl) 3).trans rfl; have h5 := lt_of_some (hs1.blk 6 rfl); clear hs1)
                | (clear G2; go_at_call 32; refine (A32.out _).mono ?_; rintro E w2 ⟨rfl, hb⟩; have hs2 := HS1.out.below hb; clear hb e0 e1 e2 e3 h5; have hlk := A56.out _ _ hs2; obtain ⟨l0, l1, l2, hlp⟩ := hs2.lpAt 0 rfl; have e0 := (blk_cell (hs2.blk 6 rfl) 0).trans rfl; have e1 := (blk_cell (hs2.blk 6 rfl) 1).trans rfl; have e2 := (blk_cell (hs2.blk 6 rfl) 2).trans rfl; have e3 := (blk_cell (hs2.blk 6 rfl) 3).trans rfl; have h5 := lt_of_some (hs2.blk 6 rfl); have HS2 := Aside0.mk (hs2.alloc #[.int .i64 0, .string ⟨#[]⟩, .string ⟨#[]⟩] 29 rfl); clear hs2)
                | (clear G3; go_at_call 28; refine (A28.out _ _ (show St w F _ (lk M ++ [_, _]) from HS2.out)).mono ?_; rintro E w3 ⟨M1, X, mm, Y, rfl, k1, k2, k3, k4, k5, k6⟩; have HE := Aside0.mk k1; have HMT := Aside0.mk k2; have HREP1 := Aside0.mk k3; have HLP := Aside0.mk k4; have HTOT1 := Aside0.mk k5; have h1 := k6; unfold lk at h1; rw [k1] at h1; have h2 := St.openR h1; have hmr : mm.r = r0 := ((k2 ▸ k3.rr mm (k1 ▸ mem_mid.2 (.inl rfl)) : mm.r = s.rows t).trans HR0.out); have HMR := Aside0.mk hmr; rw [hmr] at h2; obtain ⟨Aw, cw, hwv⟩ := (h2.rowX 2 rfl).form; have HWV := Aside0.mk hwv; rw [hwv] at h2; clear hwv; obtain ⟨n11, hn11⟩ : ∃ n, w3.heap.size = n := ⟨_, rfl⟩; have h3 := h2.alloc #[.int .i64 x, .int .i64 m] 66 hn11; have HS3 := Aside0.mk h3; clear e0 e1 e2 e3 h5 l0 l1 l2 hlp hlk; have e0 := (blk_cell (h2.blk 9 rfl) 0).trans rfl; have e1 := (blk_cell (h2.blk 9 rfl) 1).trans rfl; have e2 := (blk_cell (h2.blk 9 rfl) 2).trans rfl; have e3 := (blk_cell (h2.blk 9 rfl) 3).trans rfl; have h5 := lt_of_some (h2.blk 9 rfl); clear h1 h2 h3 hmr k1 k2 k3 k4 k5 k6; unfold ptr)
                | (clear G4; go_at_call 33; refine (A33.out _ _ _ _ (St.rowH (R := lkO M1 (X ++ Y) M1.hs ++ [_, _, _]) HS3.out)).mono ?_; rintro E w4 ⟨rfl, hb⟩; have hs4 := HS3.out.below hb; clear hb HS3 e0 e1 e2 e3 h5; obtain ⟨g, ch, hvv, hcap⟩ := (hs4.rowX 1 rfl).fill (by rw [HNH.out]; have := HIL.out; omega); rw [hvv, HNH.out] at hs4; obtain ⟨d0, d1⟩ := (hs4.rowX 1 rfl).ones HF2.out; have ff := (fun j => frozen_of_row _ _ j _ _ (hs4.blk 11 rfl)); obtain ⟨c0, c1, cf⟩ := hs4.cells64 0 rfl; have hlt := World.block_lt_of_cell? _ _ c0; have e0 := (blk_cell (hs4.blk 9 rfl) 0).trans rfl; have e1 := (blk_cell (hs4.blk 9 rfl) 1).trans rfl; have e2 := (blk_cell (hs4.blk 9 rfl) 2).trans rfl; have e3 := (blk_cell (hs4.blk 9 rfl) 3).trans rfl; have h5 := lt_of_some (hs4.blk 9 rfl); have f0 := (blk_cell (hs4.blk 11 rfl) 0).trans rfl; have f1 := (blk_cell (hs4.blk 11 rfl) 1).trans rfl; have h11 := lt_of_some (hs4.blk 11 rfl); obtain ⟨l0, l1, l2, hlp⟩ := hs4.lpAt 3 rfl; rw [HLP.out] at l0 l1 l2 hlp; have HHV := Aside0.mk hvv; rw [HNH.out] at HHV; have HS4 := Aside0.mk hs4; clear hs4 hvv)
                | (clear G5; go_at_call 34; refine (A34.out _).mono ?_; rintro E w5 ⟨rfl, hb⟩; have hs5 := HS4.out.below hb; clear hb ff c0 c1 cf hlt e0 e1 e2 e3 h5 f0 f1 h11 l0 l1 l2 hlp d0 d1 HS4; have ff := (fun j => frozen_of_row _ _ j _ _ (hs5.blk 11 rfl)); obtain ⟨c0, c1, cf⟩ := hs5.cells64 0 rfl; have hlt := World.block_lt_of_cell? _ _ c0; have e0 := (blk_cell (hs5.blk 9 rfl) 0).trans rfl; have e1 := (blk_cell (hs5.blk 9 rfl) 1).trans rfl; have e2 := (blk_cell (hs5.blk 9 rfl) 2).trans rfl; have e3 := (blk_cell (hs5.blk 9 rfl) 3).trans rfl; have h5 := lt_of_some (hs5.blk 9 rfl); have f0 := (blk_cell (hs5.blk 11 rfl) 0).trans rfl; have f1 := (blk_cell (hs5.blk 11 rfl) 1).trans rfl; have h11 := lt_of_some (hs5.blk 11 rfl); obtain ⟨l0, l1, l2, hlp⟩ := hs5.lpAt 3 rfl; rw [HLP.out] at l0 l1 l2 hlp; have HS5 := Aside0.mk hs5; clear hs5)
                | (clear G6; go_at_call 35; refine (A35.out _).mono ?_; rintro E w6 ⟨rfl, hb⟩; have hs6 := HS5.out.below hb; clear hb ff c0 c1 cf hlt e0 e1 e2 e3 h5 f0 f1 h11 l0 l1 l2 hlp HS5; have ff := (fun j => frozen_of_row _ _ j _ _ (hs6.blk 11 rfl)); obtain ⟨c0, c1, cf⟩ := hs6.cells64 0 rfl; have hlt := World.block_lt_of_cell? _ _ c0; have e0 := (blk_cell (hs6.blk 9 rfl) 0).trans rfl; have e1 := (blk_cell (hs6.blk 9 rfl) 1).trans rfl; have e2 := (blk_cell (hs6.blk 9 rfl) 2).trans rfl; have e3 := (blk_cell (hs6.blk 9 rfl) 3).trans rfl; have h5 := lt_of_some (hs6.blk 9 rfl); have f0 := (blk_cell (hs6.blk 11 rfl) 0).trans rfl; have f1 := (blk_cell (hs6.blk 11 rfl) 1).trans rfl; have h11 := lt_of_some (hs6.blk 11 rfl); obtain ⟨l0, l1, l2, hlp⟩ := hs6.lpAt 3 rfl; rw [HLP.out] at l0 l1 l2 hlp; have HS6 := Aside0.mk hs6; clear hs6)
                | (clear G7; go_at_call 36; have hsq : St w F _ (row3 mm.p (.slice (some ⟨g, 0, none⟩) nh ch) (.slice Aw r0.waits.length cw) r0 ++ (lkO M1 (X ++ Y) M1.hs ++ [_, _, blkC n11 (.cells #[.int .i64 x, .int .i64 mo] 66 (0, 0))])) := HS6.out.putBlk 11 rfl 1 (.int .i64 mo) rfl; refine (A36.out _ _ _ _ (St.rowH (R := lkO M1 (X ++ Y) M1.hs ++ [_, _, _]) hsq)).mono ?_; rintro E w7 ⟨rfl, hb⟩; have hs7 := hsq.below hb; clear hb hsq ff c0 c1 cf hlt e0 e1 e2 e3 h5 f0 f1 h11 l0 l1 l2 hlp; have ff := (fun j => frozen_of_row _ _ j _ _ (hs7.blk 11 rfl)); obtain ⟨c0, c1, cf⟩ := hs7.cells64 0 rfl; have hlt := World.block_lt_of_cell? _ _ c0; have e0 := (blk_cell (hs7.blk 9 rfl) 0).trans rfl; have e1 := (blk_cell (hs7.blk 9 rfl) 1).trans rfl; have e2 := (blk_cell (hs7.blk 9 rfl) 2).trans rfl; have e3 := (blk_cell (hs7.blk 9 rfl) 3).trans rfl; have h5 := lt_of_some (hs7.blk 9 rfl); have f0 := (blk_cell (hs7.blk 11 rfl) 0).trans rfl; have f1 := (blk_cell (hs7.blk 11 rfl) 1).trans rfl; have h11 := lt_of_some (hs7.blk 11 rfl); obtain ⟨l0, l1, l2, hlp⟩ := hs7.lpAt 3 rfl; rw [HLP.out] at l0 l1 l2 hlp; have HS7 := Aside0.mk hs7; clear hs7)
                | (clear G8; go_at_call 30; refine (A30.out _ _ _ _ (St.rowH (R := lkO M1 (X ++ Y) M1.hs ++ [_, _, _]) HS7.out)).mono ?_; rintro E w8 ⟨Ab, nb, cb, rfl, hb0, hb⟩; have hs8 := HS7.out.below hb; clear hb HS7 ff c0 c1 cf hlt e0 e1 e2 e3 h5 f0 f1 h11 l0 l1 l2 hlp; have ff := (fun j => frozen_of_row _ _ j _ _ (hs8.blk 11 rfl)); obtain ⟨c0, c1, cf⟩ := hs8.cells64 0 rfl; have hlt := World.block_lt_of_cell? _ _ c0; have e0 := (blk_cell (hs8.blk 9 rfl) 0).trans rfl; have e1 := (blk_cell (hs8.blk 9 rfl) 1).trans rfl; have e2 := (blk_cell (hs8.blk 9 rfl) 2).trans rfl; have e3 := (blk_cell (hs8.blk 9 rfl) 3).trans rfl; have h5 := lt_of_some (hs8.blk 9 rfl); have f0 := (blk_cell (hs8.blk 11 rfl) 0).trans rfl; have f1 := (blk_cell (hs8.blk 11 rfl) 1).trans rfl; have h11 := lt_of_some (hs8.blk 11 rfl); obtain ⟨l0, l1, l2, hlp⟩ := hs8.lpAt 3 rfl; rw [HLP.out] at l0 l1 l2 hlp; have HS8 := Aside0.mk hs8; clear hs8; obtain rfl := hb0.1 HB.out; clear hb0)
                | (clear G9; go_at_call 38; refine (A38.out _ _ _ _ (St.sub (A := row3 mm.p (.slice (some ⟨g, 0, none⟩) nh ch) (.slice Aw r0.waits.length cw) r0) (R := lkO M1 (X ++ Y) M1.hs ++ [_, _, _]) HS8.out)).mono ?_; rintro E w9 ⟨rfl, hv9, wv9, k⟩; have h9 := St.call (A := row3 mm.p (.slice (some ⟨g, 0, none⟩) nh ch) (.slice Aw r0.waits.length cw) r0) (R := lkO M1 (X ++ Y) M1.hs ++ [_, _, _]) HS8.out k; have h10 := St.closeR (m := ⟨mm.t, mm.p, hv9, wv9, ⟨Lk.give r0.holds (x, mo), r0.waits⟩⟩) h9; rw [lk_setR (m' := ⟨mm.t, mm.p, hv9, wv9, ⟨Lk.give r0.holds (x, mo), r0.waits⟩⟩) HE.out rfl rfl] at h10; have hrep := HREP1.out.setR HE.out hv9 wv9 ⟨Lk.give r0.holds (x, mo), r0.waits⟩; rw [HMT.out] at hrep h10; have HS9 := Aside0.mk h10; have HREP9 := Aside0.mk hrep; clear ff c0 c1 cf hlt e0 e1 e2 e3 h5 f0 f1 h11 l0 l1 l2 hlp HS8 k h9; have e0 := (blk_cell (h10.blk 6 rfl) 0).trans rfl; have e1 := (blk_cell (h10.blk 6 rfl) 1).trans rfl; have e2 := (blk_cell (h10.blk 6 rfl) 2).trans rfl; have e3 := (blk_cell (h10.blk 6 rfl) 3).trans rfl; have h5 := lt_of_some (h10.blk 6 rfl); clear h10 hrep)
                | (go_at_call 39; have A := A39.out _ _ _ _ HS9.out HREP9.out rfl (by have := HTOT1.out; simp only [LM.tot] at *; omega); rw [show ({ M1 with rs := X ++ ⟨t, mm.p, hv9, wv9, ⟨Lk.give r0.holds (x, mo), r0.waits⟩⟩ :: Y } : LM).lp = M.lp from HLP.out] at A; refine A.mono ?_; rintro E w10 ⟨M10, rfl, k1, k2, k3, k4, k5⟩; have K1 := Aside0.mk k1; have K2 := Aside0.mk k2; have K4 := Aside0.mk k4; have HS10 := Aside0.mk k5; clear A k1 k2 k3 k4 k5 e0 e1 e2 e3 h5))
              rw [← HR.out]
              have hq := HQ.out
              rw [HASK.out] at hq
              refine ⟨M10, by unfold AskE; rw [← hq.2.1, ← hq.2.2]; rfl, by rw [← hq.1]; exact K1.out, K2.out, by have := HTOT1.out; have := K4.out; simp only [LM.tot] at *; omega, ?_⟩
              exact St.left (A := lk M10) HS10.out
            · have HB := Aside0.mk hb
              have e : askR haddT s x t m = (⟨upd s.rows t ⟨r0.holds, r0.waits.take pl ++ (x, mo) :: r0.waits.drop pl⟩, upd s.waits x (some t), s.held⟩, false) := by
                unfold askR
                simp only [HR0.out, HEN.out, HWA.out, HPE.out]
                rw [if_neg (by simp), if_pos hb]
              have HASK := Aside0.mk e
              clear hb e
              go_enter Try.func17, Try.ntmps17
              go_wp2_with (first
                | (clear G1; go_at_call 31; refine (A31.out _).mono ?_; rintro E w1 ⟨rfl, hb⟩; have hs1 := HS0.out.below hb; have HS1 := Aside0.mk hs1; clear hb e0 e1 e2 e3 h5 HS0; have e0 := (blk_cell (hs1.blk 6 rfl) 0).trans rfl; have e1 := (blk_cell (hs1.blk 6 rfl) 1).trans rfl; have e2 := (blk_cell (hs1.blk 6 rfl) 2).trans rfl; have e3 := (blk_cell (hs1.blk 6 rfl) 3).trans rfl; have h5 := lt_of_some (hs1.blk 6 rfl); clear hs1)
                | (clear G2; go_at_call 32; refine (A32.out _).mono ?_; rintro E w2 ⟨rfl, hb⟩; have hs2 := HS1.out.below hb; clear hb e0 e1 e2 e3 h5; have hlk := A56.out _ _ hs2; obtain ⟨l0, l1, l2, hlp⟩ := hs2.lpAt 0 rfl; have e0 := (blk_cell (hs2.blk 6 rfl) 0).trans rfl; have e1 := (blk_cell (hs2.blk 6 rfl) 1).trans rfl; have e2 := (blk_cell (hs2.blk 6 rfl) 2).trans rfl; have e3 := (blk_cell (hs2.blk 6 rfl) 3).trans rfl; have h5 := lt_of_some (hs2.blk 6 rfl); have HS2 := Aside0.mk (hs2.alloc #[.int .i64 0, .string ⟨#[]⟩, .string ⟨#[]⟩] 29 rfl); clear hs2)
                | (clear G3; go_at_call 28; refine (A28.out _ _ (show St w F _ (lk M ++ [_, _]) from HS2.out)).mono ?_; rintro E w3 ⟨M1, X, mm, Y, rfl, k1, k2, k3, k4, k5, k6⟩; have HE := Aside0.mk k1; have HMT := Aside0.mk k2; have HREP1 := Aside0.mk k3; have HLP := Aside0.mk k4; have HTOT1 := Aside0.mk k5; have h1 := k6; unfold lk at h1; rw [k1] at h1; have h2 := St.openR h1; have hmr : mm.r = r0 := ((k2 ▸ k3.rr mm (k1 ▸ mem_mid.2 (.inl rfl)) : mm.r = s.rows t).trans HR0.out); have HMR := Aside0.mk hmr; rw [hmr] at h2; obtain ⟨Aw, cw, hwv⟩ := (h2.rowX 2 rfl).form; have HWV := Aside0.mk hwv; rw [hwv] at h2; clear hwv; obtain ⟨n11, hn11⟩ : ∃ n, w3.heap.size = n := ⟨_, rfl⟩; have h3 := h2.alloc #[.int .i64 x, .int .i64 m] 66 hn11; have HS3 := Aside0.mk h3; clear e0 e1 e2 e3 h5 l0 l1 l2 hlp hlk; have e0 := (blk_cell (h2.blk 9 rfl) 0).trans rfl; have e1 := (blk_cell (h2.blk 9 rfl) 1).trans rfl; have e2 := (blk_cell (h2.blk 9 rfl) 2).trans rfl; have e3 := (blk_cell (h2.blk 9 rfl) 3).trans rfl; have h5 := lt_of_some (h2.blk 9 rfl); clear h1 h2 h3 hmr k1 k2 k3 k4 k5 k6; unfold ptr)
                | (clear G4; go_at_call 33; refine (A33.out _ _ _ _ (St.rowH (R := lkO M1 (X ++ Y) M1.hs ++ [_, _, _]) HS3.out)).mono ?_; rintro E w4 ⟨rfl, hb⟩; have hs4 := HS3.out.below hb; clear hb HS3 e0 e1 e2 e3 h5; obtain ⟨g, ch, hvv, hcap⟩ := (hs4.rowX 1 rfl).fill (by rw [HNH.out]; have := HIL.out; omega); rw [hvv, HNH.out] at hs4; obtain ⟨d0, d1⟩ := (hs4.rowX 1 rfl).ones HF2.out; have ff := (fun j => frozen_of_row _ _ j _ _ (hs4.blk 11 rfl)); obtain ⟨c0, c1, cf⟩ := hs4.cells64 0 rfl; have hlt := World.block_lt_of_cell? _ _ c0; have e0 := (blk_cell (hs4.blk 9 rfl) 0).trans rfl; have e1 := (blk_cell (hs4.blk 9 rfl) 1).trans rfl; have e2 := (blk_cell (hs4.blk 9 rfl) 2).trans rfl; have e3 := (blk_cell (hs4.blk 9 rfl) 3).trans rfl; have h5 := lt_of_some (hs4.blk 9 rfl); have f0 := (blk_cell (hs4.blk 11 rfl) 0).trans rfl; have f1 := (blk_cell (hs4.blk 11 rfl) 1).trans rfl; have h11 := lt_of_some (hs4.blk 11 rfl); obtain ⟨l0, l1, l2, hlp⟩ := hs4.lpAt 3 rfl; rw [HLP.out] at l0 l1 l2 hlp; have HHV := Aside0.mk hvv; rw [HNH.out] at HHV; have HS4 := Aside0.mk hs4; clear hs4 hvv)
                | (clear G5; go_at_call 34; refine (A34.out _).mono ?_; rintro E w5 ⟨rfl, hb⟩; have hs5 := HS4.out.below hb; clear hb ff c0 c1 cf hlt e0 e1 e2 e3 h5 f0 f1 h11 l0 l1 l2 hlp d0 d1 HS4; have ff := (fun j => frozen_of_row _ _ j _ _ (hs5.blk 11 rfl)); obtain ⟨c0, c1, cf⟩ := hs5.cells64 0 rfl; have hlt := World.block_lt_of_cell? _ _ c0; have e0 := (blk_cell (hs5.blk 9 rfl) 0).trans rfl; have e1 := (blk_cell (hs5.blk 9 rfl) 1).trans rfl; have e2 := (blk_cell (hs5.blk 9 rfl) 2).trans rfl; have e3 := (blk_cell (hs5.blk 9 rfl) 3).trans rfl; have h5 := lt_of_some (hs5.blk 9 rfl); have f0 := (blk_cell (hs5.blk 11 rfl) 0).trans rfl; have f1 := (blk_cell (hs5.blk 11 rfl) 1).trans rfl; have h11 := lt_of_some (hs5.blk 11 rfl); obtain ⟨l0, l1, l2, hlp⟩ := hs5.lpAt 3 rfl; rw [HLP.out] at l0 l1 l2 hlp; have HS5 := Aside0.mk hs5; clear hs5)
                | (clear G6; go_at_call 35; refine (A35.out _).mono ?_; rintro E w6 ⟨rfl, hb⟩; have hs6 := HS5.out.below hb; clear hb ff c0 c1 cf hlt e0 e1 e2 e3 h5 f0 f1 h11 l0 l1 l2 hlp HS5; have ff := (fun j => frozen_of_row _ _ j _ _ (hs6.blk 11 rfl)); obtain ⟨c0, c1, cf⟩ := hs6.cells64 0 rfl; have hlt := World.block_lt_of_cell? _ _ c0; have e0 := (blk_cell (hs6.blk 9 rfl) 0).trans rfl; have e1 := (blk_cell (hs6.blk 9 rfl) 1).trans rfl; have e2 := (blk_cell (hs6.blk 9 rfl) 2).trans rfl; have e3 := (blk_cell (hs6.blk 9 rfl) 3).trans rfl; have h5 := lt_of_some (hs6.blk 9 rfl); have f0 := (blk_cell (hs6.blk 11 rfl) 0).trans rfl; have f1 := (blk_cell (hs6.blk 11 rfl) 1).trans rfl; have h11 := lt_of_some (hs6.blk 11 rfl); obtain ⟨l0, l1, l2, hlp⟩ := hs6.lpAt 3 rfl; rw [HLP.out] at l0 l1 l2 hlp; have HS6 := Aside0.mk hs6; clear hs6)
                | (clear G7; go_at_call 36; have hsq : St w F _ (row3 mm.p (.slice (some ⟨g, 0, none⟩) nh ch) (.slice Aw r0.waits.length cw) r0 ++ (lkO M1 (X ++ Y) M1.hs ++ [_, _, blkC n11 (.cells #[.int .i64 x, .int .i64 mo] 66 (0, 0))])) := HS6.out.putBlk 11 rfl 1 (.int .i64 mo) rfl; refine (A36.out _ _ _ _ (St.rowH (R := lkO M1 (X ++ Y) M1.hs ++ [_, _, _]) hsq)).mono ?_; rintro E w7 ⟨rfl, hb⟩; have hs7 := hsq.below hb; clear hb hsq ff c0 c1 cf hlt e0 e1 e2 e3 h5 f0 f1 h11 l0 l1 l2 hlp; have ff := (fun j => frozen_of_row _ _ j _ _ (hs7.blk 11 rfl)); obtain ⟨c0, c1, cf⟩ := hs7.cells64 0 rfl; have hlt := World.block_lt_of_cell? _ _ c0; have e0 := (blk_cell (hs7.blk 9 rfl) 0).trans rfl; have e1 := (blk_cell (hs7.blk 9 rfl) 1).trans rfl; have e2 := (blk_cell (hs7.blk 9 rfl) 2).trans rfl; have e3 := (blk_cell (hs7.blk 9 rfl) 3).trans rfl; have h5 := lt_of_some (hs7.blk 9 rfl); have f0 := (blk_cell (hs7.blk 11 rfl) 0).trans rfl; have f1 := (blk_cell (hs7.blk 11 rfl) 1).trans rfl; have h11 := lt_of_some (hs7.blk 11 rfl); obtain ⟨l0, l1, l2, hlp⟩ := hs7.lpAt 3 rfl; rw [HLP.out] at l0 l1 l2 hlp; have HS7 := Aside0.mk hs7; clear hs7)
                | (clear G8; go_at_call 30; refine (A30.out _ _ _ _ (St.rowH (R := lkO M1 (X ++ Y) M1.hs ++ [_, _, _]) HS7.out)).mono ?_; rintro E w8 ⟨Ab, nb, cb, rfl, hb0, hb⟩; have hs8 := HS7.out.below hb; clear hb HS7 ff c0 c1 cf hlt e0 e1 e2 e3 h5 f0 f1 h11 l0 l1 l2 hlp; have ff := (fun j => frozen_of_row _ _ j _ _ (hs8.blk 11 rfl)); obtain ⟨c0, c1, cf⟩ := hs8.cells64 0 rfl; have hlt := World.block_lt_of_cell? _ _ c0; have e0 := (blk_cell (hs8.blk 9 rfl) 0).trans rfl; have e1 := (blk_cell (hs8.blk 9 rfl) 1).trans rfl; have e2 := (blk_cell (hs8.blk 9 rfl) 2).trans rfl; have e3 := (blk_cell (hs8.blk 9 rfl) 3).trans rfl; have h5 := lt_of_some (hs8.blk 9 rfl); have f0 := (blk_cell (hs8.blk 11 rfl) 0).trans rfl; have f1 := (blk_cell (hs8.blk 11 rfl) 1).trans rfl; have h11 := lt_of_some (hs8.blk 11 rfl); obtain ⟨l0, l1, l2, hlp⟩ := hs8.lpAt 3 rfl; rw [HLP.out] at l0 l1 l2 hlp; have HS8 := Aside0.mk hs8; clear hs8; have hnb : (0 : Int) < (nb : Int) := (by have : nb ≠ 0 := fun e => HB.out (hb0.2 e); omega); clear hb0))
              clear ff c0 c1 cf hlt e0 e1 e2 e3 h5 f0 f1 h11 l0 l1 l2 hlp
              refine start_ (n := 12) (S := fun w' => w'.cell? ⟨mm.p, 1, none⟩ = some (.slice Aw r0.waits.length cw) ∧ w'.cell? ⟨n11, 0, none⟩ = some (.int .i64 x) ∧ w'.cell? ⟨n11, 1, none⟩ = some (.int .i64 mo)) (ds := [11]) #[false, false, false, false, false, false, false, false, false, false, false, false] (by kernel_rfl) rfl rfl ⟨(HS8.out.cells64 0 rfl).2.1, (blk_cell (HS8.out.blk 11 rfl) 0).trans rfl, (blk_cell (HS8.out.blk 11 rfl) 1).trans rfl⟩ (fun hHeld => ?_)
              have HS1 := Aside0.mk (HS8.out.drew)
              clear HS8
              generalize w8.drew = w9 at HS1 hHeld  ⊢
              refine pure_ (i := 0) (N := (some 74)) (v := ?_) (a' := ?_) #[true, false, false, false, false, false, false, false, false, false, false, false] rfl rfl (by kernel_rfl) (fun _ _ _ h => h) (Or.inl ⟨by rfl, ?_⟩) ?_ ?_
              rotate_left
              · intro w'
                go_simp
                with_reducible rfl
              rotate_left
              · simp only [Act.put, List.setIfInBounds_toArray, List.set_cons_zero, List.set_cons_succ, i64_w, i32_w]
                rfl
              refine pure_ (i := 1) (N := (some 75)) (v := ?_) (a' := ?_) #[true, true, false, false, false, false, false, false, false, false, false, false] rfl rfl (by kernel_rfl) (fun _ _ _ h => h) (Or.inl ⟨by rfl, ?_⟩) ?_ ?_
              rotate_left
              · intro w'
                go_simp
                with_reducible rfl
              rotate_left
              · simp only [Act.put, List.setIfInBounds_toArray, List.set_cons_zero, List.set_cons_succ, i64_w, i32_w]
                rfl
              refine pure_ (i := 2) (N := (some 76)) (v := ?_) (a' := ?_) #[true, true, true, false, false, false, false, false, false, false, false, false] rfl rfl (by kernel_rfl) (fun _ _ _ h => h) (Or.inl ⟨by rfl, ?_⟩) ?_ ?_
              rotate_left
              · intro w'
                go_simp
                with_reducible rfl
              rotate_left
              · simp only [Act.put, List.setIfInBounds_toArray, List.set_cons_zero, List.set_cons_succ, i64_w, i32_w]
                rfl
              refine pure_ (i := 3) (N := (some 77)) (v := ?_) (a' := ?_) #[true, true, true, true, false, false, false, false, false, false, false, false] rfl rfl (by kernel_rfl) (fun _ _ _ h => h) (Or.inl ⟨by rfl, ?_⟩) ?_ ?_
              rotate_left
              · intro w'
                go_simp
                with_reducible rfl
              rotate_left
              · simp only [Act.put, List.setIfInBounds_toArray, List.set_cons_zero, List.set_cons_succ, i64_w, i32_w]
                rfl
              refine pure_ (i := 5) (N := (some 79)) (v := ?_) (a' := ?_) #[true, true, true, true, false, true, false, false, false, false, false, false] rfl rfl (by kernel_rfl) (fun _ _ _ h => h) (Or.inl ⟨by rfl, ?_⟩) ?_ ?_
              rotate_left
              · intro w'
                go_simp
                with_reducible rfl
              rotate_left
              · simp only [Act.put, List.setIfInBounds_toArray, List.set_cons_zero, List.set_cons_succ, i64_w, i32_w]
                rfl
              refine take_ (i := 4) (N := (some 78)) (v := ?_) (a' := ?_) #[true, true, true, true, true, true, false, false, false, false, false, false] rfl rfl (by kernel_rfl) (fun _ _ _ h => h) (Or.inl ⟨by rfl, ?_⟩) hHeld ?_ ?_
              rotate_left
              · rintro w' ⟨s0, s1, s2⟩
                go_simp
                with_reducible rfl
              rotate_left
              · simp only [Act.put, List.setIfInBounds_toArray, List.set_cons_zero, List.set_cons_succ, i64_w, i32_w]
                rfl
              refine take_ (i := 6) (N := (some 80)) (v := ?_) (a' := ?_) #[true, true, true, true, true, true, true, false, false, false, false, false] rfl rfl (by kernel_rfl) (fun _ _ _ h => h) (Or.inl ⟨by rfl, ?_⟩) hHeld ?_ ?_
              rotate_left
              · rintro w' ⟨s0, s1, s2⟩
                go_simp
                with_reducible rfl
              rotate_left
              · simp only [Act.put, List.setIfInBounds_toArray, List.set_cons_zero, List.set_cons_succ, i64_w, i32_w]
                rfl
              refine one_ (i := 7) (N := (some 81)) #[true, true, true, true, true, true, true, true, false, false, false, false] rfl rfl (by kernel_rfl) (by decide) (fun K_ hK => ?_)
              obtain ⟨vb, hvb⟩ : ∃ v : Nat, w9.heap.size = v := ⟨_, rfl⟩
              refine made_ (v := .slice (some ⟨w9.heap.size, 0, none⟩) 1 1) (w1 := w9.alloc (.cells #[.int .i64 x, .int .i64 mo] 66)) (by rfl) rfl (by go_simp) ?_
              have HS2 := Aside0.mk (HS1.out.alloc #[.int .i64 x, .int .i64 mo] 66 hvb)
              clear HS1
              rw [hvb]
              clear hvb
              clear hHeld
              refine hK.out _ _ ⟨(HS2.out.cells64 0 rfl).2.1, (blk_cell (HS2.out.blk 11 rfl) 0).trans rfl, (blk_cell (HS2.out.blk 11 rfl) 1).trans rfl⟩ (fun hHeld => ?_)
              clear hK K_
              generalize w9.alloc (.cells #[.int .i64 x, .int .i64 mo] 66) = w10 at HS2 hHeld  ⊢
              refine norm_ (a' := ?_) ?_ ?_
              rotate_left
              · show Act.put _ (some 81) _ = _
                simp only [Act.put, List.setIfInBounds_toArray, List.set_cons_zero, List.set_cons_succ, i64_w, i32_w]
                rfl
              refine one_ (i := 8) (N := (some 82)) #[true, true, true, true, true, true, true, true, true, false, false, false] rfl rfl (by kernel_rfl) (by decide) (fun K_ hK => ?_)
              refine goes_ Try.func37 (by kernel_rfl) rfl #[.slice Aw r0.waits.length cw, .int .i64 pl, .slice (some ⟨vb, 0, none⟩) 1 1] (by rfl) rfl rfl (by (try simp only [List.map_toArray, List.map_cons, List.map_nil]); first | done | rfl) ?_
              refine (insertO _ (.slice Aw r0.waits.length cw) r0.waits pl (x, mo) vb (pl : Int) (HS2.out.rowX 2 rfl) HPL.out (by have := HOK0.out.len; omega) (HS2.out.blk 12 rfl) (fun h => HS2.out.apart 2 12 (by decide) rfl rfl _ h (by simp [blkC])) rfl).mono ?_
              rintro E w11 ⟨g_, c_, rfl, hrow, hgr, hown⟩
              have HS3 := Aside0.mk (HS2.out.rowTo 2 rfl hrow hgr hown)
              clear HS2
              clear hrow hgr hown
              refine ⟨_, rfl, ?_⟩
              clear hHeld
              refine hK.out _ _ ⟨(HS3.out.cells64 0 rfl).2.1, (blk_cell (HS3.out.blk 11 rfl) 0).trans rfl, (blk_cell (HS3.out.blk 11 rfl) 1).trans rfl⟩ (fun hHeld => ?_)
              clear hK K_
              refine norm_ (a' := ?_) ?_ ?_
              rotate_left
              · show Act.put _ (some 82) _ = _
                simp only [Act.put, List.setIfInBounds_toArray, List.set_cons_zero, List.set_cons_succ, i64_w, i32_w]
                rfl
              refine pure_ (i := 9) (N := (some 83)) (v := ?_) (a' := ?_) #[true, true, true, true, true, true, true, true, true, true, false, false] rfl rfl (by kernel_rfl) (fun _ _ _ h => h) (Or.inl ⟨by rfl, ?_⟩) ?_ ?_
              rotate_left
              · intro w'
                go_simp
                with_reducible rfl
              rotate_left
              · simp only [Act.put, List.setIfInBounds_toArray, List.set_cons_zero, List.set_cons_succ, i64_w, i32_w]
                rfl
              refine pure_ (i := 10) (N := (some 84)) (v := ?_) (a' := ?_) #[true, true, true, true, true, true, true, true, true, true, true, false] rfl rfl (by kernel_rfl) (fun _ _ _ h => h) (Or.inl ⟨by rfl, ?_⟩) ?_ ?_
              rotate_left
              · intro w'
                go_simp
                with_reducible rfl
              rotate_left
              · simp only [Act.put, List.setIfInBounds_toArray, List.set_cons_zero, List.set_cons_succ, i64_w, i32_w]
                rfl
              refine last_ (i := 11) (N := none) #[true, true, true, true, true, true, true, true, true, true, true, true] rfl rfl (by kernel_rfl) (by decide) (fun K_ hK => ?_)
              have c_0 := (HS3.out.cells64 0 rfl).2.1
              have c_1 := (HS3.out.cells64 0 rfl).2.2
              refine skip_ (w1 := ?_) (by rfl) rfl ?_ ?_
              rotate_left
              · go_simp
                rfl
              refine hK.out _ _ ?_
              clear hK K_ hHeld c_0 c_1
              refine done_ (by kernel_rfl) ?_
              have HS4 := Aside0.mk (HS3.out.put64b 0 rfl (.slice (some ⟨g_, 0, none⟩) (r0.waits.length + 1) c_))
              clear HS3
              generalize w11.setCell ⟨mm.p, 1, none⟩ (.slice (some ⟨g_, 0, none⟩) (r0.waits.length + 1) c_) = w12 at HS4 ⊢
              go_wp2
              refine start_ (n := 8) (S := fun w' => w'.cell? ⟨M.lp, 1, none⟩ = some (.map (some M1.b2)) ∧ w'.cell? ⟨n5, 0, none⟩ = some (.int .i64 t.f0) ∧ w'.cell? ⟨n5, 1, none⟩ = some (.string t.f1) ∧ w'.cell? ⟨n5, 2, none⟩ = some (.string t.f2)) (ds := [7]) #[false, false, false, false, false, false, false, false] (by kernel_rfl) rfl rfl ⟨(HLP.out ▸ (HS4.out.lpAt 3 rfl).2.1), (blk_cell (HS4.out.blk 9 rfl) 0).trans rfl, (blk_cell (HS4.out.blk 9 rfl) 1).trans rfl, (blk_cell (HS4.out.blk 9 rfl) 2).trans rfl⟩ (fun hHeld => ?_)
              have HS5 := Aside0.mk (HS4.out.drew)
              clear HS4
              generalize w12.drew = w12' at HS5 hHeld  ⊢
              refine pure_ (i := 0) (N := (some 85)) (v := ?_) (a' := ?_) #[true, false, false, false, false, false, false, false] rfl rfl (by kernel_rfl) (fun _ _ _ h => h) (Or.inl ⟨by rfl, ?_⟩) ?_ ?_
              rotate_left
              · intro w'
                go_simp
                with_reducible rfl
              rotate_left
              · simp only [Act.put, List.setIfInBounds_toArray, List.set_cons_zero, List.set_cons_succ, i64_w, i32_w]
                rfl
              refine pure_ (i := 1) (N := (some 86)) (v := ?_) (a' := ?_) #[true, true, false, false, false, false, false, false] rfl rfl (by kernel_rfl) (fun _ _ _ h => h) (Or.inl ⟨by rfl, ?_⟩) ?_ ?_
              rotate_left
              · intro w'
                go_simp
                with_reducible rfl
              rotate_left
              · simp only [Act.put, List.setIfInBounds_toArray, List.set_cons_zero, List.set_cons_succ, i64_w, i32_w]
                rfl
              refine pure_ (i := 2) (N := (some 87)) (v := ?_) (a' := ?_) #[true, true, true, false, false, false, false, false] rfl rfl (by kernel_rfl) (fun _ _ _ h => h) (Or.inl ⟨by rfl, ?_⟩) ?_ ?_
              rotate_left
              · intro w'
                go_simp
                with_reducible rfl
              rotate_left
              · simp only [Act.put, List.setIfInBounds_toArray, List.set_cons_zero, List.set_cons_succ, i64_w, i32_w]
                rfl
              refine pure_ (i := 4) (N := (some 89)) (v := ?_) (a' := ?_) #[true, true, true, false, true, false, false, false] rfl rfl (by kernel_rfl) (fun _ _ _ h => h) (Or.inl ⟨by rfl, ?_⟩) ?_ ?_
              rotate_left
              · intro w'
                go_simp
                with_reducible rfl
              rotate_left
              · simp only [Act.put, List.setIfInBounds_toArray, List.set_cons_zero, List.set_cons_succ, i64_w, i32_w]
                rfl
              refine pure_ (i := 5) (N := (some 90)) (v := ?_) (a' := ?_) #[true, true, true, false, true, true, false, false] rfl rfl (by kernel_rfl) (fun _ _ _ h => h) (Or.inl ⟨by rfl, ?_⟩) ?_ ?_
              rotate_left
              · intro w'
                go_simp
                with_reducible rfl
              rotate_left
              · simp only [Act.put, List.setIfInBounds_toArray, List.set_cons_zero, List.set_cons_succ, i64_w, i32_w]
                rfl
              refine take_ (i := 3) (N := (some 88)) (v := ?_) (a' := ?_) #[true, true, true, true, true, true, false, false] rfl rfl (by kernel_rfl) (fun _ _ _ h => h) (Or.inl ⟨by rfl, ?_⟩) hHeld ?_ ?_
              rotate_left
              · rintro w' ⟨s0, s1, s2, s3⟩
                go_simp
                with_reducible rfl
              rotate_left
              · simp only [Act.put, List.setIfInBounds_toArray, List.set_cons_zero, List.set_cons_succ, i64_w, i32_w]
                rfl
              refine take_ (i := 6) (N := (some 91)) (v := ?_) (a' := ?_) #[true, true, true, true, true, true, true, false] rfl rfl (by kernel_rfl) (fun _ _ _ h => h) (Or.inl ⟨by rfl, ?_⟩) hHeld ?_ ?_
              rotate_left
              · rintro w' ⟨s0, s1, s2, s3⟩
                go_simp
                with_reducible rfl
              rotate_left
              · simp only [Act.put, List.setIfInBounds_toArray, List.set_cons_zero, List.set_cons_succ, i64_w, i32_w]
                rfl
              refine last_ (i := 7) (N := none) #[true, true, true, true, true, true, true, true] rfl rfl (by kernel_rfl) (by decide) (fun K_ hK => ?_)
              obtain ⟨w13, hrun, hmap, hg⟩ := (HS5.out.mapAt (K := K3) (n := M1.n2) (f := waitF M1.wt) 5 rfl).update (f' := waitF (upd s.waits x (some t))) Try.underlying56 (by have := HTOT1.out; have := HTOT.out; simp only [LM.tot] at *; simp only [maxLen]; omega) (show K3.wf x from HX.out) (thgV t) (by simp [waitF, upd_same]) (fun y hy => by simp [waitF, upd_other hy, HREP1.out.ww])
              refine update_ (.tmp 88) (.tmp 89) (.tmp 91) 56 (by rfl) rfl rfl _ _ _ (by rfl) (by rfl) (by rfl) hrun ?_
              have HS6 := Aside0.mk (HS5.out.mapTo 5 rfl hmap hg)
              clear HS5
              clear hrun hmap hg
              refine hK.out _ _ ?_
              clear hK K_ hHeld
              refine done_ (by kernel_rfl) ?_
              go_wp2
              rw [← HR.out]
              have hq := HQ.out
              rw [HASK.out] at hq
              have h9 : St w F w13 (row3 mm.p (.slice (some ⟨g, 0, none⟩) nh ch) (.slice (some ⟨g_, 0, none⟩) (r0.waits.length + 1) c_) ⟨r0.holds, r0.waits.take pl ++ (x, mo) :: r0.waits.drop pl⟩ ++ lkO { M1 with wt := upd s.waits x (some t), n2 := M1.n2 + 1 } (X ++ Y) M1.hs ++ [_, _, _, _]) := HS6.out
              have h10 := St.closeR (m := ⟨mm.t, mm.p, (.slice (some ⟨g, 0, none⟩) nh ch), .slice (some ⟨g_, 0, none⟩) (r0.waits.length + 1) c_, ⟨r0.holds, r0.waits.take pl ++ (x, mo) :: r0.waits.drop pl⟩⟩) h9
              have h11 := lk_setR (M := { M1 with wt := upd s.waits x (some t), n2 := M1.n2 + 1 }) (m' := ⟨mm.t, mm.p, (.slice (some ⟨g, 0, none⟩) nh ch), .slice (some ⟨g_, 0, none⟩) (r0.waits.length + 1) c_, ⟨r0.holds, r0.waits.take pl ++ (x, mo) :: r0.waits.drop pl⟩⟩) HE.out rfl rfl
              rw [h11] at h10
              have hrep := (HREP1.out.setR HE.out (.slice (some ⟨g, 0, none⟩) nh ch) (.slice (some ⟨g_, 0, none⟩) (r0.waits.length + 1) c_) ⟨r0.holds, r0.waits.take pl ++ (x, mo) :: r0.waits.drop pl⟩).setW (upd s.waits x (some t)) (M1.n2 + 1)
              rw [HMT.out] at hrep h10
              refine ⟨{ M1 with rs := X ++ ⟨t, mm.p, (.slice (some ⟨g, 0, none⟩) nh ch), .slice (some ⟨g_, 0, none⟩) (r0.waits.length + 1) c_, ⟨r0.holds, r0.waits.take pl ++ (x, mo) :: r0.waits.drop pl⟩⟩ :: Y, wt := upd s.waits x (some t), n2 := M1.n2 + 1 }, by unfold AskE; rw [← hq.2.1, ← hq.2.2]; rfl, by rw [← hq.1]; exact hrep, HLP.out, by have := HTOT1.out; simp only [LM.tot] at *; omega, ?_⟩
              exact St.left (A := lk _) h10
        | none =>
          have hij : idxI r0.holds (isT x) = -1 := by unfold idxI; rw [modeOf_none hmo]
          rw [hij] at A33
          have HWA := Aside0.mk (show wanted r0 x m = (x, m) by unfold wanted; rw [hmo])
          have HEN := Aside0.mk (show enough r0 x m = false by unfold enough; rw [hmo])
          clear hmo hij
          have A30 := Aside0.mk (fun W p hv wv (h : RowH W p hv wv r0) => blockers_some W p hv wv r0 (x, m) pl h HPL.out (by have := HOK0.out.len; omega))
          unfold ptr oneV at A30
          have G3 : True := trivial
          have G4 : True := trivial
          have G5 : True := trivial
          have G6 : True := trivial
          have G7 : True := trivial
          have G8 : True := trivial
          by_cases hb : rawB r0 (x, m) pl = []
          · have HB := Aside0.mk hb
            have e : askR haddT s x t m = (⟨upd s.rows t ⟨Lk.give r0.holds (x, m), r0.waits⟩, s.waits, upd s.held x (haddT (s.held x) t)⟩, true) := by
              unfold askR
              simp only [HR0.out, HEN.out, HWA.out, HPE.out, hb]
              rfl
            have HASK := Aside0.mk e
            have A38 := Aside0.mk (fun W p hv wv (h : St W (fun b => b ∈ fpc (row3 p hv wv r0)) W (row3 p hv wv r0)) => give_calls W p hv wv r0 (x, m) _ h (by have := HOK0.out.len; omega) HINV.out.hn)
            unfold ptr oneV at A38
            have HHE := Aside0.mk (HOK.out.held x)
            have A39 := Aside0.mk (fun W M2 s2 (R1 : List Chunk) (h1 : St w F W (lk M2 ++ R1)) (h2 : Rep M2 s2) (h3 : s2.held x = s.held x) (h4 : M2.tot ≤ M.tot + 1) => note_fr (t := t) h1 h2 HX.out (by rw [h3]; exact HHE.out.1) (by rw [h3]; have := HHE.out.2; have := HN.out; omega) (by have := HTOT.out; simp only [LM.tot] at *; simp only [maxLen]; omega))
            unfold lpV thgV at A39
            have G9 : True := trivial
            clear hb e
            go_enter Try.func17, Try.ntmps17
            go_wp2_with (first
              | (clear G1; go_at_call 31; refine (A31.out _).mono ?_; rintro E w1 ⟨rfl, hb⟩; have hs1 := HS0.out.below hb; have HS1 := Aside0.mk hs1; clear hb e0 e1 e2 e3 h5 HS0; have e0 := (blk_cell (hs1.blk 6 rfl) 0).trans rfl; have e1 := (blk_cell (hs1.blk 6 rfl) 1).trans rfl; have e2 := (blk_cell (hs1.blk 6 rfl) 2).trans rfl; have e3 := (blk_cell (hs1.blk 6 rfl) 3).trans rfl; have h5 := lt_of_some (hs1.blk 6 rfl); clear hs1)
              | (clear G2; go_at_call 32; refine (A32.out _).mono ?_; rintro E w2 ⟨rfl, hb⟩; have hs2 := HS1.out.below hb; clear hb e0 e1 e2 e3 h5; have hlk := A56.out _ _ hs2; obtain ⟨l0, l1, l2, hlp⟩ := hs2.lpAt 0 rfl; have e0 := (blk_cell (hs2.blk 6 rfl) 0).trans rfl; have e1 := (blk_cell (hs2.blk 6 rfl) 1).trans rfl; have e2 := (blk_cell (hs2.blk 6 rfl) 2).trans rfl; have e3 := (blk_cell (hs2.blk 6 rfl) 3).trans rfl; have h5 := lt_of_some (hs2.blk 6 rfl); have HS2 := Aside0.mk (hs2.alloc #[.int .i64 0, .string ⟨#[]⟩, .string ⟨#[]⟩] 29 rfl); clear hs2)
              | (clear G3; go_at_call 28; refine (A28.out _ _ (show St w F _ (lk M ++ [_, _]) from HS2.out)).mono ?_; rintro E w3 ⟨M1, X, mm, Y, rfl, k1, k2, k3, k4, k5, k6⟩; have HE := Aside0.mk k1; have HMT := Aside0.mk k2; have HREP1 := Aside0.mk k3; have HLP := Aside0.mk k4; have HTOT1 := Aside0.mk k5; have h1 := k6; unfold lk at h1; rw [k1] at h1; have h2 := St.openR h1; have hmr : mm.r = r0 := ((k2 ▸ k3.rr mm (k1 ▸ mem_mid.2 (.inl rfl)) : mm.r = s.rows t).trans HR0.out); have HMR := Aside0.mk hmr; rw [hmr] at h2; obtain ⟨Aw, cw, hwv⟩ := (h2.rowX 2 rfl).form; have HWV := Aside0.mk hwv; rw [hwv] at h2; clear hwv; obtain ⟨n11, hn11⟩ : ∃ n, w3.heap.size = n := ⟨_, rfl⟩; have h3 := h2.alloc #[.int .i64 x, .int .i64 m] 66 hn11; have HS3 := Aside0.mk h3; clear e0 e1 e2 e3 h5 l0 l1 l2 hlp hlk; have e0 := (blk_cell (h2.blk 9 rfl) 0).trans rfl; have e1 := (blk_cell (h2.blk 9 rfl) 1).trans rfl; have e2 := (blk_cell (h2.blk 9 rfl) 2).trans rfl; have e3 := (blk_cell (h2.blk 9 rfl) 3).trans rfl; have h5 := lt_of_some (h2.blk 9 rfl); clear h1 h2 h3 hmr k1 k2 k3 k4 k5 k6; unfold ptr)
              | (clear G4; go_at_call 33; refine (A33.out _ _ _ _ (St.rowH (R := lkO M1 (X ++ Y) M1.hs ++ [_, _, _]) HS3.out)).mono ?_; rintro E w4 ⟨rfl, hb⟩; have hs4 := HS3.out.below hb; clear hb HS3 e0 e1 e2 e3 h5; have ff := (fun j => frozen_of_row _ _ j _ _ (hs4.blk 11 rfl)); obtain ⟨c0, c1, cf⟩ := hs4.cells64 0 rfl; have hlt := World.block_lt_of_cell? _ _ c0; have e0 := (blk_cell (hs4.blk 9 rfl) 0).trans rfl; have e1 := (blk_cell (hs4.blk 9 rfl) 1).trans rfl; have e2 := (blk_cell (hs4.blk 9 rfl) 2).trans rfl; have e3 := (blk_cell (hs4.blk 9 rfl) 3).trans rfl; have h5 := lt_of_some (hs4.blk 9 rfl); have f0 := (blk_cell (hs4.blk 11 rfl) 0).trans rfl; have f1 := (blk_cell (hs4.blk 11 rfl) 1).trans rfl; have h11 := lt_of_some (hs4.blk 11 rfl); obtain ⟨l0, l1, l2, hlp⟩ := hs4.lpAt 3 rfl; rw [HLP.out] at l0 l1 l2 hlp; have HS4 := Aside0.mk hs4; clear hs4)
              | (clear G7; go_at_call 36; have hsq : St w F _ (row3 mm.p mm.hv (.slice Aw r0.waits.length cw) r0 ++ (lkO M1 (X ++ Y) M1.hs ++ [_, _, blkC n11 (.cells #[.int .i64 x, .int .i64 m] 66 (0, 0))])) := HS4.out; refine (A36.out _ _ _ _ (St.rowH (R := lkO M1 (X ++ Y) M1.hs ++ [_, _, _]) hsq)).mono ?_; rintro E w7 ⟨rfl, hb⟩; have hs7 := hsq.below hb; clear hb hsq ff c0 c1 cf hlt e0 e1 e2 e3 h5 f0 f1 h11 l0 l1 l2 hlp; have ff := (fun j => frozen_of_row _ _ j _ _ (hs7.blk 11 rfl)); obtain ⟨c0, c1, cf⟩ := hs7.cells64 0 rfl; have hlt := World.block_lt_of_cell? _ _ c0; have e0 := (blk_cell (hs7.blk 9 rfl) 0).trans rfl; have e1 := (blk_cell (hs7.blk 9 rfl) 1).trans rfl; have e2 := (blk_cell (hs7.blk 9 rfl) 2).trans rfl; have e3 := (blk_cell (hs7.blk 9 rfl) 3).trans rfl; have h5 := lt_of_some (hs7.blk 9 rfl); have f0 := (blk_cell (hs7.blk 11 rfl) 0).trans rfl; have f1 := (blk_cell (hs7.blk 11 rfl) 1).trans rfl; have h11 := lt_of_some (hs7.blk 11 rfl); obtain ⟨l0, l1, l2, hlp⟩ := hs7.lpAt 3 rfl; rw [HLP.out] at l0 l1 l2 hlp; have HS7 := Aside0.mk hs7; clear hs7)
              | (clear G8; go_at_call 30; refine (A30.out _ _ _ _ (St.rowH (R := lkO M1 (X ++ Y) M1.hs ++ [_, _, _]) HS7.out)).mono ?_; rintro E w8 ⟨Ab, nb, cb, rfl, hb0, hb⟩; have hs8 := HS7.out.below hb; clear hb HS7 ff c0 c1 cf hlt e0 e1 e2 e3 h5 f0 f1 h11 l0 l1 l2 hlp; have ff := (fun j => frozen_of_row _ _ j _ _ (hs8.blk 11 rfl)); obtain ⟨c0, c1, cf⟩ := hs8.cells64 0 rfl; have hlt := World.block_lt_of_cell? _ _ c0; have e0 := (blk_cell (hs8.blk 9 rfl) 0).trans rfl; have e1 := (blk_cell (hs8.blk 9 rfl) 1).trans rfl; have e2 := (blk_cell (hs8.blk 9 rfl) 2).trans rfl; have e3 := (blk_cell (hs8.blk 9 rfl) 3).trans rfl; have h5 := lt_of_some (hs8.blk 9 rfl); have f0 := (blk_cell (hs8.blk 11 rfl) 0).trans rfl; have f1 := (blk_cell (hs8.blk 11 rfl) 1).trans rfl; have h11 := lt_of_some (hs8.blk 11 rfl); obtain ⟨l0, l1, l2, hlp⟩ := hs8.lpAt 3 rfl; rw [HLP.out] at l0 l1 l2 hlp; have HS8 := Aside0.mk hs8; clear hs8; obtain rfl := hb0.1 HB.out; clear hb0)
              | (clear G9; go_at_call 38; refine (A38.out _ _ _ _ (St.sub (A := row3 mm.p mm.hv (.slice Aw r0.waits.length cw) r0) (R := lkO M1 (X ++ Y) M1.hs ++ [_, _, _]) HS8.out)).mono ?_; rintro E w9 ⟨rfl, hv9, wv9, k⟩; have h9 := St.call (A := row3 mm.p mm.hv (.slice Aw r0.waits.length cw) r0) (R := lkO M1 (X ++ Y) M1.hs ++ [_, _, _]) HS8.out k; have h10 := St.closeR (m := ⟨mm.t, mm.p, hv9, wv9, ⟨Lk.give r0.holds (x, m), r0.waits⟩⟩) h9; rw [lk_setR (m' := ⟨mm.t, mm.p, hv9, wv9, ⟨Lk.give r0.holds (x, m), r0.waits⟩⟩) HE.out rfl rfl] at h10; have hrep := HREP1.out.setR HE.out hv9 wv9 ⟨Lk.give r0.holds (x, m), r0.waits⟩; rw [HMT.out] at hrep h10; have HS9 := Aside0.mk h10; have HREP9 := Aside0.mk hrep; clear ff c0 c1 cf hlt e0 e1 e2 e3 h5 f0 f1 h11 l0 l1 l2 hlp HS8 k h9; have e0 := (blk_cell (h10.blk 6 rfl) 0).trans rfl; have e1 := (blk_cell (h10.blk 6 rfl) 1).trans rfl; have e2 := (blk_cell (h10.blk 6 rfl) 2).trans rfl; have e3 := (blk_cell (h10.blk 6 rfl) 3).trans rfl; have h5 := lt_of_some (h10.blk 6 rfl); clear h10 hrep)
              | (go_at_call 39; have A := A39.out _ _ _ _ HS9.out HREP9.out rfl (by have := HTOT1.out; simp only [LM.tot] at *; omega); rw [show ({ M1 with rs := X ++ ⟨t, mm.p, hv9, wv9, ⟨Lk.give r0.holds (x, m), r0.waits⟩⟩ :: Y } : LM).lp = M.lp from HLP.out] at A; refine A.mono ?_; rintro E w10 ⟨M10, rfl, k1, k2, k3, k4, k5⟩; have K1 := Aside0.mk k1; have K2 := Aside0.mk k2; have K4 := Aside0.mk k4; have HS10 := Aside0.mk k5; clear A k1 k2 k3 k4 k5 e0 e1 e2 e3 h5))
            rw [← HR.out]
            have hq := HQ.out
            rw [HASK.out] at hq
            refine ⟨M10, by unfold AskE; rw [← hq.2.1, ← hq.2.2]; rfl, by rw [← hq.1]; exact K1.out, K2.out, by have := HTOT1.out; have := K4.out; simp only [LM.tot] at *; omega, ?_⟩
            exact St.left (A := lk M10) HS10.out
          · have HB := Aside0.mk hb
            have e : askR haddT s x t m = (⟨upd s.rows t ⟨r0.holds, r0.waits.take pl ++ (x, m) :: r0.waits.drop pl⟩, upd s.waits x (some t), s.held⟩, false) := by
              unfold askR
              simp only [HR0.out, HEN.out, HWA.out, HPE.out]
              rw [if_neg (by simp), if_pos hb]
            have HASK := Aside0.mk e
            clear hb e
            go_enter Try.func17, Try.ntmps17
            go_wp2_with (first
              | (clear G1; go_at_call 31; refine (A31.out _).mono ?_; rintro E w1 ⟨rfl, hb⟩; have hs1 := HS0.out.below hb; have HS1 := Aside0.mk hs1; clear hb e0 e1 e2 e3 h5 HS0; have e0 := (blk_cell (hs1.blk 6 rfl) 0).trans rfl; have e1 := (blk_cell (hs1.blk 6 rfl) 1).trans rfl; have e2 := (blk_cell (hs1.blk 6 rfl) 2).trans rfl; have e3 := (blk_cell (hs1.blk 6 rfl) 3).trans rfl; have h5 := lt_of_some (hs1.blk 6 rfl); clear hs1)
              | (clear G2; go_at_call 32; refine (A32.out _).mono ?_; rintro E w2 ⟨rfl, hb⟩; have hs2 := HS1.out.below hb; clear hb e0 e1 e2 e3 h5; have hlk := A56.out _ _ hs2; obtain ⟨l0, l1, l2, hlp⟩ := hs2.lpAt 0 rfl; have e0 := (blk_cell (hs2.blk 6 rfl) 0).trans rfl; have e1 := (blk_cell (hs2.blk 6 rfl) 1).trans rfl; have e2 := (blk_cell (hs2.blk 6 rfl) 2).trans rfl; have e3 := (blk_cell (hs2.blk 6 rfl) 3).trans rfl; have h5 := lt_of_some (hs2.blk 6 rfl); have HS2 := Aside0.mk (hs2.alloc #[.int .i64 0, .string ⟨#[]⟩, .string ⟨#[]⟩] 29 rfl); clear hs2)
              | (clear G3; go_at_call 28; refine (A28.out _ _ (show St w F _ (lk M ++ [_, _]) from HS2.out)).mono ?_; rintro E w3 ⟨M1, X, mm, Y, rfl, k1, k2, k3, k4, k5, k6⟩; have HE := Aside0.mk k1; have HMT := Aside0.mk k2; have HREP1 := Aside0.mk k3; have HLP := Aside0.mk k4; have HTOT1 := Aside0.mk k5; have h1 := k6; unfold lk at h1; rw [k1] at h1; have h2 := St.openR h1; have hmr : mm.r = r0 := ((k2 ▸ k3.rr mm (k1 ▸ mem_mid.2 (.inl rfl)) : mm.r = s.rows t).trans HR0.out); have HMR := Aside0.mk hmr; rw [hmr] at h2; obtain ⟨Aw, cw, hwv⟩ := (h2.rowX 2 rfl).form; have HWV := Aside0.mk hwv; rw [hwv] at h2; clear hwv; obtain ⟨n11, hn11⟩ : ∃ n, w3.heap.size = n := ⟨_, rfl⟩; have h3 := h2.alloc #[.int .i64 x, .int .i64 m] 66 hn11; have HS3 := Aside0.mk h3; clear e0 e1 e2 e3 h5 l0 l1 l2 hlp hlk; have e0 := (blk_cell (h2.blk 9 rfl) 0).trans rfl; have e1 := (blk_cell (h2.blk 9 rfl) 1).trans rfl; have e2 := (blk_cell (h2.blk 9 rfl) 2).trans rfl; have e3 := (blk_cell (h2.blk 9 rfl) 3).trans rfl; have h5 := lt_of_some (h2.blk 9 rfl); clear h1 h2 h3 hmr k1 k2 k3 k4 k5 k6; unfold ptr)
              | (clear G4; go_at_call 33; refine (A33.out _ _ _ _ (St.rowH (R := lkO M1 (X ++ Y) M1.hs ++ [_, _, _]) HS3.out)).mono ?_; rintro E w4 ⟨rfl, hb⟩; have hs4 := HS3.out.below hb; clear hb HS3 e0 e1 e2 e3 h5; have ff := (fun j => frozen_of_row _ _ j _ _ (hs4.blk 11 rfl)); obtain ⟨c0, c1, cf⟩ := hs4.cells64 0 rfl; have hlt := World.block_lt_of_cell? _ _ c0; have e0 := (blk_cell (hs4.blk 9 rfl) 0).trans rfl; have e1 := (blk_cell (hs4.blk 9 rfl) 1).trans rfl; have e2 := (blk_cell (hs4.blk 9 rfl) 2).trans rfl; have e3 := (blk_cell (hs4.blk 9 rfl) 3).trans rfl; have h5 := lt_of_some (hs4.blk 9 rfl); have f0 := (blk_cell (hs4.blk 11 rfl) 0).trans rfl; have f1 := (blk_cell (hs4.blk 11 rfl) 1).trans rfl; have h11 := lt_of_some (hs4.blk 11 rfl); obtain ⟨l0, l1, l2, hlp⟩ := hs4.lpAt 3 rfl; rw [HLP.out] at l0 l1 l2 hlp; have HS4 := Aside0.mk hs4; clear hs4)
              | (clear G7; go_at_call 36; have hsq : St w F _ (row3 mm.p mm.hv (.slice Aw r0.waits.length cw) r0 ++ (lkO M1 (X ++ Y) M1.hs ++ [_, _, blkC n11 (.cells #[.int .i64 x, .int .i64 m] 66 (0, 0))])) := HS4.out; refine (A36.out _ _ _ _ (St.rowH (R := lkO M1 (X ++ Y) M1.hs ++ [_, _, _]) hsq)).mono ?_; rintro E w7 ⟨rfl, hb⟩; have hs7 := hsq.below hb; clear hb hsq ff c0 c1 cf hlt e0 e1 e2 e3 h5 f0 f1 h11 l0 l1 l2 hlp; have ff := (fun j => frozen_of_row _ _ j _ _ (hs7.blk 11 rfl)); obtain ⟨c0, c1, cf⟩ := hs7.cells64 0 rfl; have hlt := World.block_lt_of_cell? _ _ c0; have e0 := (blk_cell (hs7.blk 9 rfl) 0).trans rfl; have e1 := (blk_cell (hs7.blk 9 rfl) 1).trans rfl; have e2 := (blk_cell (hs7.blk 9 rfl) 2).trans rfl; have e3 := (blk_cell (hs7.blk 9 rfl) 3).trans rfl; have h5 := lt_of_some (hs7.blk 9 rfl); have f0 := (blk_cell (hs7.blk 11 rfl) 0).trans rfl; have f1 := (blk_cell (hs7.blk 11 rfl) 1).trans rfl; have h11 := lt_of_some (hs7.blk 11 rfl); obtain ⟨l0, l1, l2, hlp⟩ := hs7.lpAt 3 rfl; rw [HLP.out] at l0 l1 l2 hlp; have HS7 := Aside0.mk hs7; clear hs7)
              | (clear G8; go_at_call 30; refine (A30.out _ _ _ _ (St.rowH (R := lkO M1 (X ++ Y) M1.hs ++ [_, _, _]) HS7.out)).mono ?_; rintro E w8 ⟨Ab, nb, cb, rfl, hb0, hb⟩; have hs8 := HS7.out.below hb; clear hb HS7 ff c0 c1 cf hlt e0 e1 e2 e3 h5 f0 f1 h11 l0 l1 l2 hlp; have ff := (fun j => frozen_of_row _ _ j _ _ (hs8.blk 11 rfl)); obtain ⟨c0, c1, cf⟩ := hs8.cells64 0 rfl; have hlt := World.block_lt_of_cell? _ _ c0; have e0 := (blk_cell (hs8.blk 9 rfl) 0).trans rfl; have e1 := (blk_cell (hs8.blk 9 rfl) 1).trans rfl; have e2 := (blk_cell (hs8.blk 9 rfl) 2).trans rfl; have e3 := (blk_cell (hs8.blk 9 rfl) 3).trans rfl; have h5 := lt_of_some (hs8.blk 9 rfl); have f0 := (blk_cell (hs8.blk 11 rfl) 0).trans rfl; have f1 := (blk_cell (hs8.blk 11 rfl) 1).trans rfl; have h11 := lt_of_some (hs8.blk 11 rfl); obtain ⟨l0, l1, l2, hlp⟩ := hs8.lpAt 3 rfl; rw [HLP.out] at l0 l1 l2 hlp; have HS8 := Aside0.mk hs8; clear hs8; have hnb : (0 : Int) < (nb : Int) := (by have : nb ≠ 0 := fun e => HB.out (hb0.2 e); omega); clear hb0))
            clear ff c0 c1 cf hlt e0 e1 e2 e3 h5 f0 f1 h11 l0 l1 l2 hlp
            refine start_ (n := 12) (S := fun w' => w'.cell? ⟨mm.p, 1, none⟩ = some (.slice Aw r0.waits.length cw) ∧ w'.cell? ⟨n11, 0, none⟩ = some (.int .i64 x) ∧ w'.cell? ⟨n11, 1, none⟩ = some (.int .i64 m)) (ds := [11]) #[false, false, false, false, false, false, false, false, false, false, false, false] (by kernel_rfl) rfl rfl ⟨(HS8.out.cells64 0 rfl).2.1, (blk_cell (HS8.out.blk 11 rfl) 0).trans rfl, (blk_cell (HS8.out.blk 11 rfl) 1).trans rfl⟩ (fun hHeld => ?_)
            have HS1 := Aside0.mk (HS8.out.drew)
            clear HS8
            generalize w8.drew = w9 at HS1 hHeld  ⊢
            refine pure_ (i := 0) (N := (some 74)) (v := ?_) (a' := ?_) #[true, false, false, false, false, false, false, false, false, false, false, false] rfl rfl (by kernel_rfl) (fun _ _ _ h => h) (Or.inl ⟨by rfl, ?_⟩) ?_ ?_
            rotate_left
            · intro w'
              go_simp
              with_reducible rfl
            rotate_left
            · simp only [Act.put, List.setIfInBounds_toArray, List.set_cons_zero, List.set_cons_succ, i64_w, i32_w]
              rfl
            refine pure_ (i := 1) (N := (some 75)) (v := ?_) (a' := ?_) #[true, true, false, false, false, false, false, false, false, false, false, false] rfl rfl (by kernel_rfl) (fun _ _ _ h => h) (Or.inl ⟨by rfl, ?_⟩) ?_ ?_
            rotate_left
            · intro w'
              go_simp
              with_reducible rfl
            rotate_left
            · simp only [Act.put, List.setIfInBounds_toArray, List.set_cons_zero, List.set_cons_succ, i64_w, i32_w]
              rfl
            refine pure_ (i := 2) (N := (some 76)) (v := ?_) (a' := ?_) #[true, true, true, false, false, false, false, false, false, false, false, false] rfl rfl (by kernel_rfl) (fun _ _ _ h => h) (Or.inl ⟨by rfl, ?_⟩) ?_ ?_
            rotate_left
            · intro w'
              go_simp
              with_reducible rfl
            rotate_left
            · simp only [Act.put, List.setIfInBounds_toArray, List.set_cons_zero, List.set_cons_succ, i64_w, i32_w]
              rfl
            refine pure_ (i := 3) (N := (some 77)) (v := ?_) (a' := ?_) #[true, true, true, true, false, false, false, false, false, false, false, false] rfl rfl (by kernel_rfl) (fun _ _ _ h => h) (Or.inl ⟨by rfl, ?_⟩) ?_ ?_
            rotate_left
            · intro w'
              go_simp
              with_reducible rfl
            rotate_left
            · simp only [Act.put, List.setIfInBounds_toArray, List.set_cons_zero, List.set_cons_succ, i64_w, i32_w]
              rfl
            refine pure_ (i := 5) (N := (some 79)) (v := ?_) (a' := ?_) #[true, true, true, true, false, true, false, false, false, false, false, false] rfl rfl (by kernel_rfl) (fun _ _ _ h => h) (Or.inl ⟨by rfl, ?_⟩) ?_ ?_
            rotate_left
            · intro w'
              go_simp
              with_reducible rfl
            rotate_left
            · simp only [Act.put, List.setIfInBounds_toArray, List.set_cons_zero, List.set_cons_succ, i64_w, i32_w]
              rfl
            refine take_ (i := 4) (N := (some 78)) (v := ?_) (a' := ?_) #[true, true, true, true, true, true, false, false, false, false, false, false] rfl rfl (by kernel_rfl) (fun _ _ _ h => h) (Or.inl ⟨by rfl, ?_⟩) hHeld ?_ ?_
            rotate_left
            · rintro w' ⟨s0, s1, s2⟩
              go_simp
              with_reducible rfl
            rotate_left
            · simp only [Act.put, List.setIfInBounds_toArray, List.set_cons_zero, List.set_cons_succ, i64_w, i32_w]
              rfl
            refine take_ (i := 6) (N := (some 80)) (v := ?_) (a' := ?_) #[true, true, true, true, true, true, true, false, false, false, false, false] rfl rfl (by kernel_rfl) (fun _ _ _ h => h) (Or.inl ⟨by rfl, ?_⟩) hHeld ?_ ?_
            rotate_left
            · rintro w' ⟨s0, s1, s2⟩
              go_simp
              with_reducible rfl
            rotate_left
            · simp only [Act.put, List.setIfInBounds_toArray, List.set_cons_zero, List.set_cons_succ, i64_w, i32_w]
              rfl
            refine one_ (i := 7) (N := (some 81)) #[true, true, true, true, true, true, true, true, false, false, false, false] rfl rfl (by kernel_rfl) (by decide) (fun K_ hK => ?_)
            obtain ⟨vb, hvb⟩ : ∃ v : Nat, w9.heap.size = v := ⟨_, rfl⟩
            refine made_ (v := .slice (some ⟨w9.heap.size, 0, none⟩) 1 1) (w1 := w9.alloc (.cells #[.int .i64 x, .int .i64 m] 66)) (by rfl) rfl (by go_simp) ?_
            have HS2 := Aside0.mk (HS1.out.alloc #[.int .i64 x, .int .i64 m] 66 hvb)
            clear HS1
            rw [hvb]
            clear hvb
            clear hHeld
            refine hK.out _ _ ⟨(HS2.out.cells64 0 rfl).2.1, (blk_cell (HS2.out.blk 11 rfl) 0).trans rfl, (blk_cell (HS2.out.blk 11 rfl) 1).trans rfl⟩ (fun hHeld => ?_)
            clear hK K_
            generalize w9.alloc (.cells #[.int .i64 x, .int .i64 m] 66) = w10 at HS2 hHeld  ⊢
            refine norm_ (a' := ?_) ?_ ?_
            rotate_left
            · show Act.put _ (some 81) _ = _
              simp only [Act.put, List.setIfInBounds_toArray, List.set_cons_zero, List.set_cons_succ, i64_w, i32_w]
              rfl
            refine one_ (i := 8) (N := (some 82)) #[true, true, true, true, true, true, true, true, true, false, false, false] rfl rfl (by kernel_rfl) (by decide) (fun K_ hK => ?_)
            refine goes_ Try.func37 (by kernel_rfl) rfl #[.slice Aw r0.waits.length cw, .int .i64 pl, .slice (some ⟨vb, 0, none⟩) 1 1] (by rfl) rfl rfl (by (try simp only [List.map_toArray, List.map_cons, List.map_nil]); first | done | rfl) ?_
            refine (insertO _ (.slice Aw r0.waits.length cw) r0.waits pl (x, m) vb (pl : Int) (HS2.out.rowX 2 rfl) HPL.out (by have := HOK0.out.len; omega) (HS2.out.blk 12 rfl) (fun h => HS2.out.apart 2 12 (by decide) rfl rfl _ h (by simp [blkC])) rfl).mono ?_
            rintro E w11 ⟨g_, c_, rfl, hrow, hgr, hown⟩
            have HS3 := Aside0.mk (HS2.out.rowTo 2 rfl hrow hgr hown)
            clear HS2
            clear hrow hgr hown
            refine ⟨_, rfl, ?_⟩
            clear hHeld
            refine hK.out _ _ ⟨(HS3.out.cells64 0 rfl).2.1, (blk_cell (HS3.out.blk 11 rfl) 0).trans rfl, (blk_cell (HS3.out.blk 11 rfl) 1).trans rfl⟩ (fun hHeld => ?_)
            clear hK K_
            refine norm_ (a' := ?_) ?_ ?_
            rotate_left
            · show Act.put _ (some 82) _ = _
              simp only [Act.put, List.setIfInBounds_toArray, List.set_cons_zero, List.set_cons_succ, i64_w, i32_w]
              rfl
            refine pure_ (i := 9) (N := (some 83)) (v := ?_) (a' := ?_) #[true, true, true, true, true, true, true, true, true, true, false, false] rfl rfl (by kernel_rfl) (fun _ _ _ h => h) (Or.inl ⟨by rfl, ?_⟩) ?_ ?_
            rotate_left
            · intro w'
              go_simp
              with_reducible rfl
            rotate_left
            · simp only [Act.put, List.setIfInBounds_toArray, List.set_cons_zero, List.set_cons_succ, i64_w, i32_w]
              rfl
            refine pure_ (i := 10) (N := (some 84)) (v := ?_) (a' := ?_) #[true, true, true, true, true, true, true, true, true, true, true, false] rfl rfl (by kernel_rfl) (fun _ _ _ h => h) (Or.inl ⟨by rfl, ?_⟩) ?_ ?_
            rotate_left
            · intro w'
              go_simp
              with_reducible rfl
            rotate_left
            · simp only [Act.put, List.setIfInBounds_toArray, List.set_cons_zero, List.set_cons_succ, i64_w, i32_w]
              rfl
            refine last_ (i := 11) (N := none) #[true, true, true, true, true, true, true, true, true, true, true, true] rfl rfl (by kernel_rfl) (by decide) (fun K_ hK => ?_)
            have c_0 := (HS3.out.cells64 0 rfl).2.1
            have c_1 := (HS3.out.cells64 0 rfl).2.2
            refine skip_ (w1 := ?_) (by rfl) rfl ?_ ?_
            rotate_left
            · go_simp
              rfl
            refine hK.out _ _ ?_
            clear hK K_ hHeld c_0 c_1
            refine done_ (by kernel_rfl) ?_
            have HS4 := Aside0.mk (HS3.out.put64b 0 rfl (.slice (some ⟨g_, 0, none⟩) (r0.waits.length + 1) c_))
            clear HS3
            generalize w11.setCell ⟨mm.p, 1, none⟩ (.slice (some ⟨g_, 0, none⟩) (r0.waits.length + 1) c_) = w12 at HS4 ⊢
            go_wp2
            refine start_ (n := 8) (S := fun w' => w'.cell? ⟨M.lp, 1, none⟩ = some (.map (some M1.b2)) ∧ w'.cell? ⟨n5, 0, none⟩ = some (.int .i64 t.f0) ∧ w'.cell? ⟨n5, 1, none⟩ = some (.string t.f1) ∧ w'.cell? ⟨n5, 2, none⟩ = some (.string t.f2)) (ds := [7]) #[false, false, false, false, false, false, false, false] (by kernel_rfl) rfl rfl ⟨(HLP.out ▸ (HS4.out.lpAt 3 rfl).2.1), (blk_cell (HS4.out.blk 9 rfl) 0).trans rfl, (blk_cell (HS4.out.blk 9 rfl) 1).trans rfl, (blk_cell (HS4.out.blk 9 rfl) 2).trans rfl⟩ (fun hHeld => ?_)
            have HS5 := Aside0.mk (HS4.out.drew)
            clear HS4
            generalize w12.drew = w12' at HS5 hHeld  ⊢
            refine pure_ (i := 0) (N := (some 85)) (v := ?_) (a' := ?_) #[true, false, false, false, false, false, false, false] rfl rfl (by kernel_rfl) (fun _ _ _ h => h) (Or.inl ⟨by rfl, ?_⟩) ?_ ?_
            rotate_left
            · intro w'
              go_simp
              with_reducible rfl
            rotate_left
            · simp only [Act.put, List.setIfInBounds_toArray, List.set_cons_zero, List.set_cons_succ, i64_w, i32_w]
              rfl
            refine pure_ (i := 1) (N := (some 86)) (v := ?_) (a' := ?_) #[true, true, false, false, false, false, false, false] rfl rfl (by kernel_rfl) (fun _ _ _ h => h) (Or.inl ⟨by rfl, ?_⟩) ?_ ?_
            rotate_left
            · intro w'
              go_simp
              with_reducible rfl
            rotate_left
            · simp only [Act.put, List.setIfInBounds_toArray, List.set_cons_zero, List.set_cons_succ, i64_w, i32_w]
              rfl
            refine pure_ (i := 2) (N := (some 87)) (v := ?_) (a' := ?_) #[true, true, true, false, false, false, false, false] rfl rfl (by kernel_rfl) (fun _ _ _ h => h) (Or.inl ⟨by rfl, ?_⟩) ?_ ?_
            rotate_left
            · intro w'
              go_simp
              with_reducible rfl
            rotate_left
            · simp only [Act.put, List.setIfInBounds_toArray, List.set_cons_zero, List.set_cons_succ, i64_w, i32_w]
              rfl
            refine pure_ (i := 4) (N := (some 89)) (v := ?_) (a' := ?_) #[true, true, true, false, true, false, false, false] rfl rfl (by kernel_rfl) (fun _ _ _ h => h) (Or.inl ⟨by rfl, ?_⟩) ?_ ?_
            rotate_left
            · intro w'
              go_simp
              with_reducible rfl
            rotate_left
            · simp only [Act.put, List.setIfInBounds_toArray, List.set_cons_zero, List.set_cons_succ, i64_w, i32_w]
              rfl
            refine pure_ (i := 5) (N := (some 90)) (v := ?_) (a' := ?_) #[true, true, true, false, true, true, false, false] rfl rfl (by kernel_rfl) (fun _ _ _ h => h) (Or.inl ⟨by rfl, ?_⟩) ?_ ?_
            rotate_left
            · intro w'
              go_simp
              with_reducible rfl
            rotate_left
            · simp only [Act.put, List.setIfInBounds_toArray, List.set_cons_zero, List.set_cons_succ, i64_w, i32_w]
              rfl
            refine take_ (i := 3) (N := (some 88)) (v := ?_) (a' := ?_) #[true, true, true, true, true, true, false, false] rfl rfl (by kernel_rfl) (fun _ _ _ h => h) (Or.inl ⟨by rfl, ?_⟩) hHeld ?_ ?_
            rotate_left
            · rintro w' ⟨s0, s1, s2, s3⟩
              go_simp
              with_reducible rfl
            rotate_left
            · simp only [Act.put, List.setIfInBounds_toArray, List.set_cons_zero, List.set_cons_succ, i64_w, i32_w]
              rfl
            refine take_ (i := 6) (N := (some 91)) (v := ?_) (a' := ?_) #[true, true, true, true, true, true, true, false] rfl rfl (by kernel_rfl) (fun _ _ _ h => h) (Or.inl ⟨by rfl, ?_⟩) hHeld ?_ ?_
            rotate_left
            · rintro w' ⟨s0, s1, s2, s3⟩
              go_simp
              with_reducible rfl
            rotate_left
            · simp only [Act.put, List.setIfInBounds_toArray, List.set_cons_zero, List.set_cons_succ, i64_w, i32_w]
              rfl
            refine last_ (i := 7) (N := none) #[true, true, true, true, true, true, true, true] rfl rfl (by kernel_rfl) (by decide) (fun K_ hK => ?_)
            obtain ⟨w13, hrun, hmap, hg⟩ := (HS5.out.mapAt (K := K3) (n := M1.n2) (f := waitF M1.wt) 5 rfl).update (f' := waitF (upd s.waits x (some t))) Try.underlying56 (by have := HTOT1.out; have := HTOT.out; simp only [LM.tot] at *; simp only [maxLen]; omega) (show K3.wf x from HX.out) (thgV t) (by simp [waitF, upd_same]) (fun y hy => by simp [waitF, upd_other hy, HREP1.out.ww])
            refine update_ (.tmp 88) (.tmp 89) (.tmp 91) 56 (by rfl) rfl rfl _ _ _ (by rfl) (by rfl) (by rfl) hrun ?_
            have HS6 := Aside0.mk (HS5.out.mapTo 5 rfl hmap hg)
            clear HS5
            clear hrun hmap hg
            refine hK.out _ _ ?_
            clear hK K_ hHeld
            refine done_ (by kernel_rfl) ?_
            go_wp2
            rw [← HR.out]
            have hq := HQ.out
            rw [HASK.out] at hq
            have h9 : St w F w13 (row3 mm.p mm.hv (.slice (some ⟨g_, 0, none⟩) (r0.waits.length + 1) c_) ⟨r0.holds, r0.waits.take pl ++ (x, m) :: r0.waits.drop pl⟩ ++ lkO { M1 with wt := upd s.waits x (some t), n2 := M1.n2 + 1 } (X ++ Y) M1.hs ++ [_, _, _, _]) := HS6.out
            have h10 := St.closeR (m := ⟨mm.t, mm.p, mm.hv, .slice (some ⟨g_, 0, none⟩) (r0.waits.length + 1) c_, ⟨r0.holds, r0.waits.take pl ++ (x, m) :: r0.waits.drop pl⟩⟩) h9
            have h11 := lk_setR (M := { M1 with wt := upd s.waits x (some t), n2 := M1.n2 + 1 }) (m' := ⟨mm.t, mm.p, mm.hv, .slice (some ⟨g_, 0, none⟩) (r0.waits.length + 1) c_, ⟨r0.holds, r0.waits.take pl ++ (x, m) :: r0.waits.drop pl⟩⟩) HE.out rfl rfl
            rw [h11] at h10
            have hrep := (HREP1.out.setR HE.out mm.hv (.slice (some ⟨g_, 0, none⟩) (r0.waits.length + 1) c_) ⟨r0.holds, r0.waits.take pl ++ (x, m) :: r0.waits.drop pl⟩).setW (upd s.waits x (some t)) (M1.n2 + 1)
            rw [HMT.out] at hrep h10
            refine ⟨{ M1 with rs := X ++ ⟨t, mm.p, mm.hv, .slice (some ⟨g_, 0, none⟩) (r0.waits.length + 1) c_, ⟨r0.holds, r0.waits.take pl ++ (x, m) :: r0.waits.drop pl⟩⟩ :: Y, wt := upd s.waits x (some t), n2 := M1.n2 + 1 }, by unfold AskE; rw [← hq.2.1, ← hq.2.2]; rfl, by rw [← hq.1]; exact hrep, HLP.out, by have := HTOT1.out; simp only [LM.tot] at *; omega, ?_⟩
            exact St.left (A := lk _) h10
end Go.Proofs.Kb
end
