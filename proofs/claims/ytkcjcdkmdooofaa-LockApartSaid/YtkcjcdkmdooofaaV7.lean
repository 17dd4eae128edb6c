/- Packed by shake.py: YtkcjcdkmdooofaaLL1 YtkcjcdkmdooofaaLL2 YtkcjcdkmdooofaaLL3 YtkcjcdkmdooofaaR YtkcjcdkmdooofaaLL4 YtkcjcdkmdooofaaA8 YtkcjcdkmdooofaaLL5 YtkcjcdkmdooofaaA9 YtkcjcdkmdooofaaA10 YtkcjcdkmdooofaaLL6 YtkcjcdkmdooofaaLL7 YtkcjcdkmdooofaaLL8 YtkcjcdkmdooofaaLL9 YtkcjcdkmdooofaaLL10 YtkcjcdkmdooofaaA11 YtkcjcdkmdooofaaLL11 -/
import Derived.Deep.Slices
import Derived.ChangeArms
import Derived.DataReads
import Derived.Laws.ResultCell
import Derived.Test.YtkcjcdkmdooofaaV6
set_option linter.unusedSectionVars false
section
namespace Go.Proofs.Kb
open Go Go.RowKit Go.Proofs.Ytkcjcdkmdooofaa.Q Go.Proofs.YtkcjcdkmdooofaaW.PrintWords Go.Proofs.YtkcjcdkmdooofaaW.PrintLast Go.Proofs.YtkcjcdkmdooofaaW.PrintMore
set_option linter.unusedVariables false
set_option linter.unusedSimpArgs false
set_option maxRecDepth 100000
open Go.Proofs.Lk Go.Proofs.Mp
theorem nodup_le {α : Type} : ∀ {l l' : List α}, l.Nodup → (∀ x ∈ l, x ∈ l') → l.length ≤ l'.length
  | [], l', _, _ => Nat.zero_le _
  | x :: r, l', hn, hs => by
    obtain ⟨hx, hn⟩ := List.nodup_cons.1 hn
    obtain ⟨A, B, rfl⟩ := List.append_of_mem (hs x List.mem_cons_self)
    have : r.length ≤ (A ++ B).length := nodup_le hn fun y hy => by
      have h1 := hs y (List.mem_cons_of_mem _ hy)
      rw [List.mem_append, List.mem_cons] at h1
      rw [List.mem_append]
      rcases h1 with h1 | rfl | h1
      · exact .inl h1
      · exact absurd hy hx
      · exact .inr h1
    rw [List.length_append] at this ⊢
    rw [List.length_cons, List.length_cons]
    omega
def SoH (s : LS S29) : Prop := ∀ x, Sorted (s.held x)
theorem so_noted {s : LS S29} (h : SoH s) (t : S29) (x : Int) : SoH (Lk.noted haddT t s x) := fun y => by
  show Sorted (upd s.held x (haddT (s.held x) t) y)
  by_cases hy : y = x
  · subst hy
    rw [upd_same]
    exact haddT_sorted (h y) t
  · rw [upd_other hy]
    exact h y
theorem so_fold (t : S29) : ∀ (out : List Int) {s : LS S29}, SoH s → SoH (out.foldl (Lk.noted haddT t) s)
  | [], s, h => h
  | x :: out, s, h => so_fold t out (so_noted h t x)
theorem so_sweep {s : LS S29} (h : SoH s) (t : S29) : SoH (sweepS haddT s t).1 := so_fold t _ (s := ⟨upd s.rows t (sweepR (s.rows t)).1, s.waits, s.held⟩) h
theorem so_sweeps : ∀ (l : List S29) {s : LS S29}, SoH s → SoH (sweepsS haddT l s).1
  | [], s, h => h
  | t :: l, s, h => so_sweeps l (so_sweep h t)
theorem so_release {s : LS S29} (h : SoH s) (x : Int) : SoH (releaseS haddT s x).1 := so_sweeps _ fun y => by
  show Sorted (upd s.held x [] y)
  by_cases hy : y = x
  · rw [hy, upd_same]
    exact List.Pairwise.nil
  · rw [upd_other hy]
    exact h y
theorem so_cancel {s : LS S29} (h : SoH s) (x : Int) : SoH (cancelS haddT s x).1 := by
  unfold cancelS
  split
  · exact h
  · exact so_sweep (s := ⟨upd s.rows _ _, upd s.waits x none, s.held⟩) h _
theorem so_ask {s : LS S29} (h : SoH s) (x : Int) (t : S29) (m : Int) : SoH (askS haddT fitsT s x t m).1 := by
  unfold askS
  split
  · split
    · exact h
    · unfold askR
      dsimp only
      split
      · exact h
      · split
        · exact h
        · intro y
          show Sorted (upd s.held x (haddT (s.held x) t) y)
          by_cases hy : y = x
          · subst hy
            rw [upd_same]
            exact haddT_sorted (h y) t
          · rw [upd_other hy]
            exact h y
  · exact h
theorem so_step {s : LS S29} (h : SoH s) (c : Cal S29) : SoH (stepS haddT fitsT s c) := by
  unfold stepS
  split
  · exact so_ask h _ _ _
  · split
    · exact so_cancel h _
    · split
      · exact so_release h _
      · exact h
structure Good (X : List Int) (D : List S29) (s : LS S29) : Prop where
  inv : LInv s
  am : ∀ t x, pres s t x → x ∈ X ∧ t ∈ D ∧ fitsT t = true
  so : SoH s
  xl : X.length ≤ 299
  dl : D.length ≤ 1000
  xw : ∀ x ∈ X, wfI x
  dw : ∀ t ∈ D, wfT t
section
variable {X : List Int} {D : List S29} {s : LS S29}
theorem Good.ok (h : Good X D s) : OkS D.length s := by
  refine ⟨fun t => ⟨(h.inv.row t).hn, ?_, fun o ho => h.xw _ (h.am t o.1 (.inr (has_iff.2 ⟨o, ho, rfl⟩))).1⟩, fun x => ⟨h.so x, ?_⟩, fun x t ht => h.dw t (h.am t x (.inr ((h.inv.ww x t).1 ht))).2.1, fun x t ht => h.dw t (h.am t x (.inl ((h.inv.hh x t).1 ht))).2.1⟩
  · have h1 : (s.rows t).holds.length ≤ X.length := by
      have := nodup_le (h.inv.row t).hn (l' := X) fun x hx => by
        obtain ⟨o, ho, rfl⟩ := List.mem_map.1 hx
        exact (h.am t o.1 (.inl (has_iff.2 ⟨o, ho, rfl⟩))).1
      simpa using this
    have h2 : (s.rows t).waits.length ≤ X.length := by
      have := nodup_le (h.inv.row t).wn (l' := X) fun x hx => by
        obtain ⟨o, ho, rfl⟩ := List.mem_map.1 hx
        exact (h.am t o.1 (.inr (has_iff.2 ⟨o, ho, rfl⟩))).1
      simpa using this
    have := h.xl
    omega
  · refine nodup_le ?_ fun t ht => (h.am t x (.inl ((h.inv.hh x t).1 ht))).2.1
    refine List.Pairwise.imp ?_ (h.so x)
    intro a b hab e
    rw [e] at hab
    exact ltT_irr b hab
theorem Good.step (h : Good X D s) (c : Cal S29) (hx : c.txn ∈ X) (ht : c.thing ∈ D) : Good X D (stepS haddT fitsT s c) :=
  ⟨step_inv mem_haddT h.inv c, fun t x hp => by
    rcases step_pres mem_haddT h.inv c hp with h1 | ⟨rfl, rfl, h1⟩
    · exact h.am t x h1
    · exact ⟨hx, ht, h1⟩, so_step h.so c, h.xl, h.dl, h.xw, h.dw⟩
theorem Good.ask (h : Good X D s) {x : Int} {t : S29} (m : Int) (hx : x ∈ X) (ht : t ∈ D) : Good X D (askS haddT fitsT s x t m).1 := h.step ⟨0, x, t, m⟩ hx ht
theorem Good.release (h : Good X D s) (x : Int) : Good X D (releaseS haddT s x).1 :=
  ⟨release_inv mem_haddT x h.inv, fun t y hp => h.am t y (release_pres mem_haddT h.inv hp).1, so_release h.so x, h.xl, h.dl, h.xw, h.dw⟩
theorem Good.new (hX : X.length ≤ 299) (hD : D.length ≤ 1000) (hx : ∀ x ∈ X, wfI x) (hd : ∀ t ∈ D, wfT t) : Good X D LS.new :=
  ⟨new_inv, fun t x hp => by rcases hp with h | h <;> simp [LS.new, has] at h, fun x => List.Pairwise.nil, hX, hD, hx, hd⟩
end
theorem rowX_C {α : Type} {E : EncT α} {d : Kd α} (hs : d.sz = E.sz) (hk : ∀ (w : World) x, d.K w x (E.enc x)) {w : World} {v : Value} {l : List α} (h : RowX E w v l) (hn : l.length < 100000) : ∃ A c, v = .slice A l.length c ∧ l.length ≤ c ∧ d.C w A l.length l := by
  by_cases h0 : 0 < l.length
  · obtain ⟨g, c, rfl, hc⟩ := row_slice h h0
    refine ⟨_, c, rfl, hc, rfl, by omega, fun _ => ⟨⟨g, 0, none⟩, rfl, fun j p hj => ⟨E.enc p, by rw [E.len, hs], hk w p, fun i u hu => ?_⟩⟩⟩
    have hi : i < E.sz := by have := (List.getElem?_eq_some_iff.1 hu).1; rw [E.len] at this; exact this
    have h1 := RowX.cell h hj i hi u hu
    rw [Addr.add_lit, Nat.zero_add, hs]
    exact h1
  · have hks : l = [] := List.eq_nil_of_length_eq_zero (by omega)
    subst hks
    rcases h.2.2 with ⟨rfl, _⟩ | ⟨g, c, cur, rfl, _, hc, _⟩
    · exact ⟨none, 0, rfl, Nat.le_refl _, rfl, by simp, fun h => absurd h (by simp)⟩
    · exact ⟨_, c, rfl, hc, rfl, by simp, fun h => absurd h (by simp)⟩
def calOf (c : S33) : Cal S29 := ⟨c.f0, c.f1, c.f2.f0, c.f2.f1⟩
def callV (c : S33) : Value := .agg #[.int .i64 c.f0, .int .i64 c.f1, .int .i64 c.f2.f0.f0, .string c.f2.f0.f1, .string c.f2.f0.f2, .int .i64 c.f2.f1]
section
variable {w0 w : World} {F : Nat → Prop} {R : List Chunk} {M : LM} {s : LS S29} {X : List Int} {D : List S29}
theorem ask_fr {x m : Int} {t : S29} (hs : St w0 F w (lk M ++ R)) (hr : Rep M s) (hg : Good X D s) (hx : wfI x) (ht : wfT t) (hn : M.tot < 4000000000000000000) :
    Calls Try.prog 17 #[lpV M, .int .i64 x, wantV t m] w fun E w' => ∃ M', E = AskE (askS haddT fitsT s x t m) ∧ Rep M' (askS haddT fitsT s x t m).1 ∧ M'.lp = M.lp ∧ M'.tot ≤ M.tot + 10 ∧ St w0 F w' (lk M' ++ R) :=
  (ask_calls w M s x t m _ D.length (St.sub hs) hr hg.inv hx ht hg.ok hg.dl hn).mono fun E w' ⟨M', h1, h2, h3, h4, h5⟩ => ⟨M', h1, h2, h3, h4, St.call hs h5⟩
theorem cancel_fr {x : Int} (hs : St w0 F w (lk M ++ R)) (hr : Rep M s) (hg : Good X D s) (hx : wfI x) (hn : M.tot < 4000000000000000000) :
    Calls Try.prog 26 #[lpV M, .int .i64 x] w fun E w' => ∃ M' v, E = .returned v ∧ Rep M' (cancelS haddT s x).1 ∧ M'.lp = M.lp ∧ M'.tot ≤ M.tot + 700 ∧ St w0 F w' (lk M' ++ [rowIC v (cancelS haddT s x).2] ++ R) :=
  (cancel_calls w M s x _ D.length (St.sub hs) hr hg.inv hx hg.ok (by have := hg.dl; omega) hn).mono fun E w' ⟨M', v, h1, h2, h3, h4, h5⟩ => ⟨M', v, h1, h2, h3, h4, St.call hs h5⟩
theorem release_fr {x : Int} (hs : St w0 F w (lk M ++ R)) (hr : Rep M s) (hg : Good X D s) (hx : wfI x) (hn : M.tot < 4000000000000000000) :
    Calls Try.prog 21 #[lpV M, .int .i64 x] w fun E w' => ∃ M' v, E = .returned v ∧ Rep M' (releaseS haddT s x).1 ∧ M'.lp = M.lp ∧ M'.tot ≤ M.tot + 1000000 ∧ St w0 F w' (lk M' ++ [rowIC v (releaseS haddT s x).2] ++ R) :=
  (release_calls w M s x _ D.length (St.sub hs) hr hx hg.ok hg.dl hn).mono fun E w' ⟨M', v, h1, h2, h3, h4, h5⟩ => ⟨M', v, h1, h2, h3, h4, St.call hs h5⟩
theorem blockers_fr {x : Int} (hs : St w0 F w (lk M ++ R)) (hr : Rep M s) (hg : Good X D s) (hx : wfI x) (hn : M.tot < 4000000000000000000) :
    Calls Try.prog 16 #[lpV M, .int .i64 x] w fun E w' => ∃ M' v, E = .returned v ∧ Rep M' s ∧ M'.lp = M.lp ∧ M'.tot ≤ M.tot + 10 ∧ St w0 F w' (lk M' ++ [rowIC v (blockS srtI s x)] ++ R) :=
  (lblockers_calls w M s x _ D.length (St.sub hs) hr hg.inv hx hg.ok hn).mono fun E w' ⟨M', v, h1, h2, h3, h4, h5⟩ => ⟨M', v, h1, h2, h3, h4, St.call hs h5⟩
theorem mode_fr {x : Int} {t : S29} (hs : St w0 F w (lk M ++ R)) (hr : Rep M s) (hg : Good X D s) (ht : wfT t) :
    Calls Try.prog 19 #[lpV M, .int .i64 x, thgV t] w fun E w' => E = .returned (.int .i64 (modeD s x t)) ∧ St w0 F w' (lk M ++ R) :=
  (mode_calls w M s x t _ D.length (St.sub hs) hr ht hg.ok).mono fun E w' ⟨h1, h2⟩ => ⟨h1, St.call hs h2⟩
theorem state_fr {t : S29} (hs : St w0 F w (lk M ++ R)) (hr : Rep M s) (hg : Good X D s) (ht : wfT t) :
    Calls Try.prog 14 #[lpV M, thgV t] w fun E w' => ∃ v, E = .returned v ∧ St w0 F w' (lk M ++ [rowHC v (stateL (s.rows t))] ++ R) :=
  (state_calls w M s t _ D.length (St.sub hs) hr ht hg.ok).mono fun E w' ⟨v, h1, h2⟩ => ⟨v, h1, St.call hs h2⟩
theorem new_fr (hs : St w0 F w R) : Calls Try.prog 12 #[] w fun E w' => ∃ M, E = .returned (lpV M) ∧ Rep M LS.new ∧ M.tot = 0 ∧ St w0 F w' (lk M ++ R) :=
  (new_calls w).mono fun E w' ⟨M, h1, h2, h3, h4⟩ => ⟨M, h1, h2, h3, St.call0 hs h4⟩
def Do13 (w0 : World) (F : Nat → Prop) (M : LM) (s : LS S29) (R : List Chunk) (E : Ending) (w' : World) : Prop :=
  ∃ M', E = .returned (.tuple #[]) ∧ Rep M' s ∧ M'.lp = M.lp ∧ M'.tot ≤ M.tot + 1000000 ∧ St w0 F w' (lk M' ++ R)
set_option maxHeartbeats 4000000 in
theorem do_calls (c : S33) (hs : St w0 F w (lk M ++ R)) (hr : Rep M s) (hg : Good X D s) (hx : wfI c.f1) (ht : wfT c.f2.f0) (hn : M.tot < 4000000000000000000) :
    Calls Try.prog 13 #[lpV M, callV c] w (Do13 w0 F M (stepS haddT fitsT s (calOf c)) R) := by
  obtain ⟨s', hs'⟩ : ∃ s', stepS haddT fitsT s (calOf c) = s' := ⟨_, rfl⟩
  rw [hs']
  obtain ⟨Q, hQ⟩ : ∃ Q, Do13 w0 F M s' R = Q := ⟨_, rfl⟩
  have HQ := Aside0.mk hQ
  rw [hQ]
  have hu33 := Try.underlying33
  have hu31 := Try.underlying31
  have hu29 := Try.underlying29
  obtain ⟨n3, hn3⟩ : ∃ n, w.heap.size = n := ⟨_, rfl⟩
  obtain ⟨W0, hW0⟩ : ∃ W0, w.alloc (.cells #[.int .i64 c.f0, .int .i64 c.f1, .int .i64 c.f2.f0.f0, .string c.f2.f0.f1, .string c.f2.f0.f2, .int .i64 c.f2.f1] 33) = W0 := ⟨_, rfl⟩
  have hs0 : St w0 F W0 (lk M ++ (R ++ [blkC n3 (.cells #[.int .i64 c.f0, .int .i64 c.f1, .int .i64 c.f2.f0.f0, .string c.f2.f0.f1, .string c.f2.f0.f2, .int .i64 c.f2.f1] 33 (0, 0))])) := by
    have h := hs.alloc #[.int .i64 c.f0, .int .i64 c.f1, .int .i64 c.f2.f0.f0, .string c.f2.f0.f1, .string c.f2.f0.f2, .int .i64 c.f2.f1] 33 hn3
    rw [hW0, List.append_assoc] at h
    exact h
  have hblk : W0.heap[n3]? = some (.cells #[.int .i64 c.f0, .int .i64 c.f1, .int .i64 c.f2.f0.f0, .string c.f2.f0.f1, .string c.f2.f0.f2, .int .i64 c.f2.f1] 33 (0, 0)) := by
    rw [← hW0, ← hn3]
    exact heap_alloc_new w _
  have e0 := (blk_cell hblk 0).trans rfl
  have e1 := (blk_cell hblk 1).trans rfl
  have e2 := (blk_cell hblk 2).trans rfl
  have e3 := (blk_cell hblk 3).trans rfl
  have e4 := (blk_cell hblk 4).trans rfl
  have e5 := (blk_cell hblk 5).trans rfl
  have h0 := lt_of_some hblk
  have HS0 := Aside0.mk hs0
  have A17 := Aside0.mk (ask_fr (m := c.f2.f1) hs0 hr hg hx ht hn)
  have A26 := Aside0.mk (cancel_fr hs0 hr hg hx hn)
  have A21 := Aside0.mk (release_fr hs0 hr hg hx hn)
  have HREP := Aside0.mk hr
  have HS' := Aside0.mk hs'
  unfold lpV wantV at A17
  unfold lpV at A26 A21
  clear hQ hs hr hg hx ht hn hs0 hblk hs'
  unfold lpV callV
  by_cases c0 : c.f0 = 0
  · have e : s' = (askS haddT fitsT s c.f1 c.f2.f0 c.f2.f1).1 := by rw [← HS'.out]; unfold stepS calOf; rw [if_pos c0]
    have HE := Aside0.mk e
    have d0 : (c.f0 == 0) = true := beq_iff_eq.2 c0
    clear e c0
    go_enter Try.func13, Try.ntmps13
    go_wp2_with (go_at_call 17; refine A17.out.mono ?_; rintro E w2 ⟨M2, hE, k1, k2, k3, k4⟩; unfold AskE at hE; subst hE; have K1 := Aside0.mk k1; have K2 := Aside0.mk k2; have K3 := Aside0.mk k3; have HS2 := Aside0.mk k4; clear k1 k2 k3 k4 e0 e1 e2 e3 e4 e5 h0)
    go_end0
    rw [← HQ.out, HE.out]
    refine ⟨M2, rfl, K1.out, K2.out, by have := K3.out; omega, ?_⟩
    have h1 := HS2.out
    rw [← List.append_assoc] at h1
    exact St.left h1
  · by_cases c1 : c.f0 = 1
    · have e : s' = (cancelS haddT s c.f1).1 := by rw [← HS'.out]; unfold stepS calOf; rw [if_neg c0, if_pos c1]
      have HE := Aside0.mk e
      have d0 : (c.f0 == 0) = false := beq_eq_false_iff_ne.2 c0
      have d1 : (c.f0 == 1) = true := beq_iff_eq.2 c1
      clear e c0 c1
      go_enter Try.func13, Try.ntmps13
      go_wp2_with (go_at_call 26; refine A26.out.mono ?_; rintro E w2 ⟨M2, v, rfl, k1, k2, k3, k4⟩; have K1 := Aside0.mk k1; have K2 := Aside0.mk k2; have K3 := Aside0.mk k3; have HS2 := Aside0.mk k4; clear k1 k2 k3 k4 e0 e1 e2 e3 e4 e5 h0)
      go_end0
      rw [← HQ.out, HE.out]
      refine ⟨M2, rfl, K1.out, K2.out, by have := K3.out; omega, ?_⟩
      have h1 := HS2.out
      rw [← List.append_assoc] at h1
      exact (St.drop (A := [_]) ((St.left h1).perm (B := [_] ++ (lk M2 ++ R)) (by rw [List.append_assoc]; exact List.perm_middle)))
    · by_cases c2 : c.f0 = 2
      · have e : s' = (releaseS haddT s c.f1).1 := by rw [← HS'.out]; unfold stepS calOf; rw [if_neg c0, if_neg c1, if_pos c2]
        have HE := Aside0.mk e
        have d0 : (c.f0 == 0) = false := beq_eq_false_iff_ne.2 c0
        have d1 : (c.f0 == 1) = false := beq_eq_false_iff_ne.2 c1
        have d2 : (c.f0 == 2) = true := beq_iff_eq.2 c2
        clear e c0 c1 c2
        go_enter Try.func13, Try.ntmps13
        go_wp2_with (go_at_call 21; refine A21.out.mono ?_; rintro E w2 ⟨M2, v, rfl, k1, k2, k3, k4⟩; have K1 := Aside0.mk k1; have K2 := Aside0.mk k2; have K3 := Aside0.mk k3; have HS2 := Aside0.mk k4; clear k1 k2 k3 k4 e0 e1 e2 e3 e4 e5 h0)
        go_end0
        rw [← HQ.out, HE.out]
        refine ⟨M2, rfl, K1.out, K2.out, by have := K3.out; omega, ?_⟩
        have h1 := HS2.out
        rw [← List.append_assoc] at h1
        exact (St.drop (A := [_]) ((St.left h1).perm (B := [_] ++ (lk M2 ++ R)) (by rw [List.append_assoc]; exact List.perm_middle)))
      · have e : s' = s := by rw [← HS'.out]; unfold stepS calOf; rw [if_neg c0, if_neg c1, if_neg c2]
        have HE := Aside0.mk e
        clear e
        go_enter Try.func13, Try.ntmps13
        go_wp2
        go_end0
        rw [← HQ.out, HE.out]
        refine ⟨M, rfl, HREP.out, rfl, Nat.le_add_right _ _, ?_⟩
        have h1 := HS0.out
        rw [← List.append_assoc] at h1
        exact St.left h1
end
end Go.Proofs.Kb
end
section
namespace Go.Proofs.Kb
open Go Go.RowKit Go.Proofs.Ytkcjcdkmdooofaa.Q Go.Proofs.YtkcjcdkmdooofaaW.PrintWords Go.Proofs.YtkcjcdkmdooofaaW.PrintLast Go.Proofs.YtkcjcdkmdooofaaW.PrintMore
set_option linter.unusedVariables false
set_option linter.unusedSimpArgs false
set_option maxRecDepth 100000
open Go.Proofs.Lk Go.Proofs.Mp
theorem great_l0 (l : List S33) (hn : l.length ≤ 120) : ∀ (k i : Nat), i ≤ l.length → l.length < i + k → ∃ b, interlocklaw11_great.l0 k l (i : Int) = some b
  | 0, i, h1, h2 => by omega
  | k + 1, i, h1, h2 => by
    unfold interlocklaw11_great.l0
    by_cases h : i < l.length
    · rw [if_pos (by omega), if_pos (by omega)]
      split
      · exact ⟨_, rfl⟩
      · split
        · exact ⟨_, rfl⟩
        · rw [show wrap64 ((i : Int) + 1) = ((i + 1 : Nat) : Int) by rw [IntWalk.wrap64_in _ (by omega)]; omega]
          exact great_l0 l hn k (i + 1) (by omega) (by omega)
    · rw [if_neg (by omega)]
      exact ⟨_, rfl⟩
theorem same_l0 (l m : List Int) (hlm : l.length = m.length) (hn : l.length < 100000) : ∀ (k i : Nat), i ≤ l.length → l.length < i + k → interlockref00_SameInts.l0 k l m (i : Int) = some (decide (l.drop i = m.drop i))
  | 0, i, h1, h2 => by omega
  | k + 1, i, h1, h2 => by
    unfold interlockref00_SameInts.l0
    by_cases h : i < l.length
    · have hd : l.drop i = l[i] :: l.drop (i + 1) := List.drop_eq_getElem_cons h
      have hd2 : m.drop i = m[i]'(by omega) :: m.drop (i + 1) := List.drop_eq_getElem_cons (by omega)
      have hr : rd l (i : Int) = l[i] := by simp [rd, List.getD_eq_getElem?_getD, List.getElem?_eq_getElem h]
      have hr2 : rd m (i : Int) = m[i]'(by omega) := by simp [rd, List.getD_eq_getElem?_getD, List.getElem?_eq_getElem (show i < m.length by omega)]
      rw [if_pos (by omega), if_pos (by omega), if_pos (by omega), hr, hr2]
      by_cases e : l[i] = m[i]'(by omega)
      · rw [if_pos e, show wrap64 ((i : Int) + 1) = ((i + 1 : Nat) : Int) by rw [IntWalk.wrap64_in _ (by omega)]; omega, same_l0 l m hlm hn k (i + 1) (by omega) (by omega)]
        refine congrArg some (decide_eq_decide.2 ?_)
        rw [hd, hd2, e]
        exact ⟨fun h => by rw [h], fun h => (List.cons.inj h).2⟩
      · rw [if_neg e]
        refine congrArg some (decide_eq_false ?_).symm
        rw [hd, hd2]
        exact fun h => e (List.cons.inj h).1
    · rw [if_neg (by omega), List.drop_eq_nil_of_le (by omega), List.drop_eq_nil_of_le (by omega)]
      simp
theorem same_f (l m : List Int) (hn : l.length < 100000) : interlockref00_SameInts.f 100001 l m = some (decide (l = m)) := by
  unfold interlockref00_SameInts.f
  by_cases h : l.length = m.length
  · rw [if_pos (by omega)]
    have := same_l0 l m h hn 100001 0 (Nat.zero_le _) (by omega)
    simpa using this
  · rw [if_neg (by omega)]
    have : ¬ l = m := fun e => h (by rw [e])
    simp [this]
theorem sameints_calls (w : World) (v u : Value) (l m : List Int) (hv : RowX intE w v l) (hu : RowX intE w u m) (hl : l.length < 100000) (hm : m.length < 100000) :
    Calls Try.prog 25 #[v, u] w fun E w' => E = .returned (.bool (decide (l = m))) ∧ Below w.heap.size w w' := by
  have hk : ∀ (w : World) (x : Int), (Kd.int .i64).K w x (intE.enc x) := fun w x => rfl
  obtain ⟨A, c, rfl, h1, h2⟩ := rowX_C (d := Kd.int .i64) rfl hk hv hl
  obtain ⟨A', c', rfl, h3, h4⟩ := rowX_C (d := Kd.int .i64) rfl hk hu hm
  exact (interlockref00_SameInts.calls 100001 A c l A' c' m _ w h2 h1 h4 h3 (same_f l m hl)).mono fun E w' h => ⟨h.1, h.2.below⟩
theorem lit_row {w : World} {b : Nat} {x : Int} (h : w.heap[b]? = some (.cells #[.int .i64 x] 3 (0, 0))) : RowX intE w (.slice (some ⟨b, 0, none⟩) 1 1) [x] :=
  ⟨rfl, fun u hu => (by rw [List.mem_singleton.1 hu]; rfl), .inr ⟨b, 1, _, rfl, h, Nat.le_refl _, by decide, Nat.le_refl _, rfl⟩⟩
theorem sorted_ext : ∀ {a b : List Int}, a.Pairwise (· < ·) → b.Pairwise (· < ·) → (∀ x, x ∈ a ↔ x ∈ b) → a = b
  | [], [], _, _, _ => rfl
  | [], y :: b, _, _, h => by have := (h y).2 List.mem_cons_self; cases this
  | x :: a, [], _, _, h => by have := (h x).1 List.mem_cons_self; cases this
  | x :: a, y :: b, ha, hb, h => by
    obtain ⟨ha1, ha2⟩ := List.pairwise_cons.1 ha
    obtain ⟨hb1, hb2⟩ := List.pairwise_cons.1 hb
    have e : x = y := by
      have h1 := (h x).1 List.mem_cons_self
      have h2 := (h y).2 List.mem_cons_self
      rcases List.mem_cons.1 h1 with h1 | h1
      · exact h1
      · rcases List.mem_cons.1 h2 with h2 | h2
        · exact h2.symm
        · have := hb1 x h1
          have := ha1 y h2
          omega
    subst e
    rw [sorted_ext ha2 hb2 fun z => ?_]
    constructor
    · intro hz
      rcases List.mem_cons.1 ((h z).1 (List.mem_cons_of_mem _ hz)) with h1 | h1
      · have := ha1 z hz
        omega
      · exact h1
    · intro hz
      rcases List.mem_cons.1 ((h z).2 (List.mem_cons_of_mem _ hz)) with h1 | h1
      · have := hb1 z hz
        omega
      · exact h1
def tk : S29 := ⟨4, ⟨#[116]⟩, ⟨#[107]⟩⟩
def a1 : LS S29 × Bool × Ans := askS haddT fitsT LS.new 1 tk 3
def a2 : LS S29 × Bool × Ans := askS haddT fitsT a1.1 2 tk 6
def a3 : LS S29 × Bool × Ans := askS haddT fitsT a2.1 3 tk 3
theorem a1_is : a1.2 = (true, .ok) := by kernel_rfl
theorem a2_is : a2.2 = (false, .ok) := by kernel_rfl
theorem a3_is : a3.2 = (false, .ok) := by kernel_rfl
theorem a3_blk : blockS srtI a3.1 3 = [2] := by
  have h : blockS srtI a3.1 3 = srtI [2] := by kernel_rfl
  rw [h]
  exact sorted_ext (srtI_sorted _) (List.pairwise_singleton _ _) (mem_srtI _)
theorem a3_rel : (releaseS haddT a3.1 1).2 = [2] := by kernel_rfl
theorem a3_len : (stateL ((releaseS haddT a3.1 1).1.rows tk)).length = 2 := by kernel_rfl
end Go.Proofs.Kb
end
section
namespace Go.Proofs.Kb
open Go Go.RowKit Go.Proofs.Ytkcjcdkmdooofaa.Q Go.Proofs.YtkcjcdkmdooofaaW.PrintWords Go.Proofs.YtkcjcdkmdooofaaW.PrintLast Go.Proofs.YtkcjcdkmdooofaaW.PrintMore
set_option linter.unusedVariables false
set_option linter.unusedSimpArgs false
set_option maxRecDepth 100000
open Go.Proofs.Lk Go.Proofs.Mp
def LA (w0 : World) (F : Nat → Prop) (lp : Nat) (s : LS S29) (k : Nat) (R : List Chunk) (W : World) : Prop := ∃ M : LM, M.lp = lp ∧ Rep M s ∧ M.tot ≤ k ∧ St w0 F W (lk M ++ R)
def lpP (lp : Nat) : Value := .pointer (some ⟨lp, 0, none⟩)
section
variable {w0 w w' : World} {F : Nat → Prop} {R R' : List Chunk} {lp k : Nat} {s : LS S29} {X : List Int} {D : List S29}
theorem LA.below (h : LA w0 F lp s k R w) (hb : Below w.heap.size w w') : LA w0 F lp s k R w' := by
  obtain ⟨M, h1, h2, h3, h4⟩ := h
  exact ⟨M, h1, h2, h3, h4.below hb⟩
theorem LA.rest (h : LA w0 F lp s k R w) : St w0 F w R := by
  obtain ⟨M, h1, h2, h3, h4⟩ := h
  exact h4.drop
theorem LA.perm (h : LA w0 F lp s k R w) (hp : R.Perm R') : LA w0 F lp s k R' w := by
  obtain ⟨M, h1, h2, h3, h4⟩ := h
  exact ⟨M, h1, h2, h3, h4.perm (List.Perm.append_left _ hp)⟩
theorem LA.drop (h : LA w0 F lp s k (R ++ R') w) : LA w0 F lp s k R' w := by
  obtain ⟨M, h1, h2, h3, h4⟩ := h
  have h5 : St w0 F w (R ++ (lk M ++ R')) := h4.perm (by rw [← List.append_assoc, ← List.append_assoc]; exact List.Perm.append_right _ List.perm_append_comm)
  exact ⟨M, h1, h2, h3, h5.drop⟩
theorem LA.left (h : LA w0 F lp s k (R ++ R') w) : LA w0 F lp s k R w := LA.drop (R := R') (h.perm List.perm_append_comm)
theorem LA.mono (h : LA w0 F lp s k R w) {k' : Nat} (hk : k ≤ k') : LA w0 F lp s k' R w := by
  obtain ⟨M, h1, h2, h3, h4⟩ := h
  exact ⟨M, h1, h2, Nat.le_trans h3 hk, h4⟩
theorem LA.alloc (h : LA w0 F lp s k R w) (C : Array Value) (T : TypeId) {n : Nat} (hn : w.heap.size = n) : LA w0 F lp s k (R ++ [blkC n (.cells C T (0, 0))]) (w.alloc (.cells C T)) := by
  obtain ⟨M, h1, h2, h3, h4⟩ := h
  have h5 := h4.alloc C T hn
  rw [List.append_assoc] at h5
  exact ⟨M, h1, h2, h3, h5⟩
theorem LA.sub (h : LA w0 F lp s k R w) (f : ∀ cs : List Chunk, St w0 F w (R ++ cs) → St w0 F w' (R' ++ cs)) : LA w0 F lp s k R' w' := by
  obtain ⟨M, h1, h2, h3, h4⟩ := h
  have h5 : St w0 F w (R ++ lk M) := h4.perm List.perm_append_comm
  exact ⟨M, h1, h2, h3, (f _ h5).perm List.perm_append_comm⟩
theorem LA.new (hs : St w0 F w R) : Calls Try.prog 12 #[] w fun E w' => ∃ lp, E = .returned (lpP lp) ∧ LA w0 F lp LS.new 0 R w' :=
  (new_fr hs).mono fun E w' ⟨M, h1, h2, h3, h4⟩ => ⟨M.lp, h1, M, rfl, h2, Nat.le_of_eq h3, h4⟩
theorem LA.ask (h : LA w0 F lp s k R w) (hg : Good X D s) {x : Int} {t : S29} (m : Int) (hx : x ∈ X) (ht : t ∈ D) (hk : k < 4000000000000000000) :
    Calls Try.prog 17 #[lpP lp, .int .i64 x, wantV t m] w fun E w' => E = AskE (askS haddT fitsT s x t m) ∧ LA w0 F lp (askS haddT fitsT s x t m).1 (k + 1000000) R w' := by
  obtain ⟨M, rfl, h2, h3, h4⟩ := h
  exact (ask_fr (m := m) h4 h2 hg (hg.xw x hx) (hg.dw t ht) (by omega)).mono fun E w' ⟨M', e1, e2, e3, e4, e5⟩ => ⟨e1, M', e3, e2, by omega, e5⟩
theorem LA.release (h : LA w0 F lp s k R w) (hg : Good X D s) {x : Int} (hx : x ∈ X) (hk : k < 4000000000000000000) :
    Calls Try.prog 21 #[lpP lp, .int .i64 x] w fun E w' => ∃ v, E = .returned v ∧ LA w0 F lp (releaseS haddT s x).1 (k + 1000000) (rowIC v (releaseS haddT s x).2 :: R) w' := by
  obtain ⟨M, rfl, h2, h3, h4⟩ := h
  exact (release_fr h4 h2 hg (hg.xw x hx) (by omega)).mono fun E w' ⟨M', v, e1, e2, e3, e4, e5⟩ => ⟨v, e1, M', e3, e2, by omega, by rw [List.append_assoc] at e5; exact e5⟩
theorem LA.blockers (h : LA w0 F lp s k R w) (hg : Good X D s) {x : Int} (hx : x ∈ X) (hk : k < 4000000000000000000) :
    Calls Try.prog 16 #[lpP lp, .int .i64 x] w fun E w' => ∃ v, E = .returned v ∧ LA w0 F lp s (k + 1000000) (rowIC v (blockS srtI s x) :: R) w' := by
  obtain ⟨M, rfl, h2, h3, h4⟩ := h
  exact (blockers_fr h4 h2 hg (hg.xw x hx) (by omega)).mono fun E w' ⟨M', v, e1, e2, e3, e4, e5⟩ => ⟨v, e1, M', e3, e2, by omega, by rw [List.append_assoc] at e5; exact e5⟩
theorem LA.mode (h : LA w0 F lp s k R w) (hg : Good X D s) (x : Int) {t : S29} (ht : wfT t) :
    Calls Try.prog 19 #[lpP lp, .int .i64 x, thgV t] w fun E w' => E = .returned (.int .i64 (modeD s x t)) ∧ LA w0 F lp s k R w' := by
  obtain ⟨M, rfl, h2, h3, h4⟩ := h
  exact (mode_fr h4 h2 hg ht).mono fun E w' ⟨e1, e2⟩ => ⟨e1, M, rfl, h2, h3, e2⟩
theorem LA.state (h : LA w0 F lp s k R w) (hg : Good X D s) {t : S29} (ht : wfT t) :
    Calls Try.prog 14 #[lpP lp, thgV t] w fun E w' => ∃ v, E = .returned v ∧ LA w0 F lp s k (rowHC v (stateL (s.rows t)) :: R) w' := by
  obtain ⟨M, rfl, h2, h3, h4⟩ := h
  exact (state_fr h4 h2 hg ht).mono fun E w' ⟨v, e1, e2⟩ => ⟨v, e1, M, rfl, h2, h3, by rw [List.append_assoc] at e2; exact e2⟩
theorem LA.do (h : LA w0 F lp s k R w) (hg : Good X D s) (c : S33) (hx : c.f1 ∈ X) (ht : c.f2.f0 ∈ D) (hk : k < 4000000000000000000) :
    Calls Try.prog 13 #[lpP lp, callV c] w fun E w' => E = .returned (.tuple #[]) ∧ LA w0 F lp (stepS haddT fitsT s (calOf c)) (k + 1000000) R w' := by
  obtain ⟨M, rfl, h2, h3, h4⟩ := h
  exact (do_calls c h4 h2 hg (hg.xw _ hx) (hg.dw _ ht) (by omega)).mono fun E w' ⟨M', e1, e2, e3, e4, e5⟩ => ⟨e1, M', e3, e2, by omega, e5⟩
end
theorem ask_e {q : LS S29 × Bool × Ans} {b : Bool} {a : Ans} (h : q.2 = (b, a)) : AskE q = .returned (.tuple #[.bool b, .int .i64 (errC a)]) := by
  unfold AskE
  rw [h]
theorem row24 (w : World) (k : ByteArray) : Calls Try.prog 24 #[.string k] w fun E w' => E = .returned (.agg #[.int .i64 4, .string ⟨#[116]⟩, .string k]) ∧ Below w.heap.size w w' := interlocklaw11_row.calls k 4 ⟨#[116]⟩ k w rfl
theorem good0 : Good [1, 2, 3] [tk] (LS.new : LS S29) := Good.new (by decide) (by decide) (fun x hx => by
  simp only [List.mem_cons, List.not_mem_nil, or_false] at hx
  rcases hx with rfl | rfl | rfl <;> (unfold wfI; decide)) (fun t ht => by
  rw [List.mem_singleton] at ht
  subst ht
  unfold wfT wfI
  exact ⟨by decide, by decide, by decide⟩)
set_option maxHeartbeats 4000000 in
theorem alive_calls (w : World) : Calls Try.prog 10 #[] w fun E w' => E = .returned (.bool true) ∧ Below w.heap.size w w' := by
  obtain ⟨Q, hQ⟩ : ∃ Q, (fun E w' => E = Ending.returned (.bool true) ∧ Below w.heap.size w w') = Q := ⟨_, rfl⟩
  have HQ := Aside0.mk hQ
  rw [hQ]
  have hu25 := Try.underlying25
  have hu31 := Try.underlying31
  have hu29 := Try.underlying29
  have hu39 := Try.underlying39
  have hu34 := Try.underlying34
  have g0 := good0
  have g1 : Good [1, 2, 3] [tk] a1.1 := g0.ask 3 (by simp) (by simp)
  have g2 : Good [1, 2, 3] [tk] a2.1 := g1.ask 6 (by simp) (by simp)
  have g3 : Good [1, 2, 3] [tk] a3.1 := g2.ask 3 (by simp) (by simp)
  have A17a := Aside0.mk (fun W lp (h : LA w NoF lp LS.new 0 [] W) => h.ask g0 3 (by simp) (List.mem_singleton.2 rfl) (by decide) (x := 1) (t := tk))
  have A17b := Aside0.mk (fun W lp (h : LA w NoF lp a1.1 1000000 [] W) => h.ask g1 6 (by simp) (List.mem_singleton.2 rfl) (by decide) (x := 2) (t := tk))
  have A17c := Aside0.mk (fun W lp (h : LA w NoF lp a2.1 2000000 [] W) => h.ask g2 3 (by simp) (List.mem_singleton.2 rfl) (by decide) (x := 3) (t := tk))
  have A16 := Aside0.mk (fun W lp (h : LA w NoF lp a3.1 3000000 [] W) => h.blockers g3 (by simp) (by decide) (x := 3))
  have A21 := Aside0.mk (fun W lp (h : LA w NoF lp a3.1 4000000 [] W) => h.release g3 (by simp) (by decide) (x := 1))
  have A14 := Aside0.mk (fun W lp (h : LA w NoF lp (releaseS haddT a3.1 1).1 5000000 [] W) => h.state (g3.release 1) (t := tk) (good0.dw tk (List.mem_singleton.2 rfl)))
  simp only [show askS haddT fitsT LS.new 1 tk 3 = a1 from rfl, ask_e a1_is] at A17a
  simp only [show askS haddT fitsT a1.1 2 tk 6 = a2 from rfl, ask_e a2_is] at A17b
  simp only [show askS haddT fitsT a2.1 3 tk 3 = a3 from rfl, ask_e a3_is] at A17c
  rw [a3_blk] at A16
  rw [a3_rel] at A21
  unfold lpP wantV errC at A17a A17b A17c
  unfold lpP at A16 A21
  unfold lpP thgV at A14
  clear hQ g0 g1 g2 g3
  have G1 : True := trivial
  have G2 : True := trivial
  have G3 : True := trivial
  have G4 : True := trivial
  have G5 : True := trivial
  have G6 : True := trivial
  have G7 : True := trivial
  have G8 : True := trivial
  have G9 : True := trivial
  have G10 : True := trivial
  have G11 : True := trivial
  have G12 : True := trivial
  go_enter Try.func10, Try.ntmps10
  go_wp2_with (first
    | (clear G1; go_at_call 12; refine (LA.new (R := []) (St.nil0 w NoF)).mono ?_; rintro E w1 ⟨lp, rfl, h⟩; have HS1 := Aside0.mk h; clear h; unfold lpP)
    | (clear G2; go_at_call 24; refine (row24 _ _).mono ?_; rintro E w2 ⟨rfl, hb⟩; have HS2 := Aside0.mk (HS1.out.below hb); clear hb HS1)
    | (clear G3; go_at_call 17; refine (A17a.out _ _ HS2.out).mono ?_; rintro E w3 ⟨rfl, h⟩; have HS3 := Aside0.mk h; clear h HS2)
    | (clear G4; go_at_call 24; refine (row24 _ _).mono ?_; rintro E w4 ⟨rfl, hb⟩; have HS4 := Aside0.mk (HS3.out.below hb); clear hb HS3)
    | (clear G5; go_at_call 17; refine (A17b.out _ _ HS4.out).mono ?_; rintro E w5 ⟨rfl, h⟩; have HS5 := Aside0.mk h; clear h HS4)
    | (clear G6; go_at_call 24; refine (row24 _ _).mono ?_; rintro E w6 ⟨rfl, hb⟩; have HS6 := Aside0.mk (HS5.out.below hb); clear hb HS5)
    | (clear G7; go_at_call 17; refine (A17c.out _ _ HS6.out).mono ?_; rintro E w7 ⟨rfl, h⟩; have HS7 := Aside0.mk h; clear h HS6)
    | (clear G8; go_at_call 16; refine (A16.out _ _ HS7.out).mono ?_; rintro E w8 ⟨v, rfl, h⟩; have HS8 := Aside0.mk h; clear h HS7)
    | (clear G9; go_at_call 25; have h := (HS8.out.alloc #[.int .i64 2] 3 rfl); refine (sameints_calls _ v _ [2] [2] (h.rest.rowX 0 rfl) (lit_row (h.rest.blk 1 rfl)) (by decide) (by decide)).mono ?_; rintro E w9 ⟨rfl, hb⟩; have HS9 := Aside0.mk (LA.drop (R := [_, _]) (R' := []) (h.below hb)); clear h hb HS8)
    | (clear G10; go_at_call 21; refine (A21.out _ _ HS9.out).mono ?_; rintro E w10 ⟨u, rfl, h⟩; have HS10 := Aside0.mk h; clear h HS9)
    | (clear G11; go_at_call 25; have h := (HS10.out.alloc #[.int .i64 2] 3 rfl); refine (sameints_calls _ u _ [2] [2] (h.rest.rowX 0 rfl) (lit_row (h.rest.blk 1 rfl)) (by decide) (by decide)).mono ?_; rintro E w11 ⟨rfl, hb⟩; have HS11 := Aside0.mk (LA.drop (R := [_, _]) (R' := []) (h.below hb)); clear h hb HS10)
    | (clear G12; go_at_call 24; refine (row24 _ _).mono ?_; rintro E w12 ⟨rfl, hb⟩; have HS12 := Aside0.mk (HS11.out.below hb); clear hb HS11)
    | (go_at_call 14; refine (A14.out _ _ HS12.out).mono ?_; rintro E w13 ⟨z, rfl, h⟩; obtain ⟨A, c, rfl⟩ := (h.rest.rowX 0 rfl).form; rw [a3_len] at h ⊢; have HS13 := Aside0.mk h; clear h HS12))
  rw [← HQ.out]
  exact ⟨rfl, keep_below HS13.out.rest.keep⟩
end Go.Proofs.Kb
end
section
namespace Go.Proofs.Ytkcjcdkmdooofaa.Q
open Go.RowKit Go.Proofs.YtkcjcdkmdooofaaW.PrintWords Go.Proofs.YtkcjcdkmdooofaaW.PrintLast Go.Proofs.YtkcjcdkmdooofaaW.PrintMore
attribute [local go_sem] max2_int min2_int max_two min_two max_three min_three max_four min_four
set_option linter.unusedVariables false
set_option linter.unusedSimpArgs false
set_option maxRecDepth 100000
def Rd {α : Type} (P : Program) (d : Kd α) (t : TypeId) (wf : α → Prop) : Prop :=
  ∀ {H : Type} (enc : TypeId × Value → H) (w : World) (base : Nat) (spare : Nat → Bool) (held : Bool) (fuel : Nat) (cs : List Value) (x : DataW H × List MemPlace),
    DataW.trod enc P w base spare held fuel t cs = some x → ∃ a, d.K w a cs ∧ wf a
theorem Rd.int {P : Program} {t : TypeId} {k : IntKind} (ht : P.underlying t = some (.int k)) : Rd P (Kd.int k) t (fun n => (Lit.int k n).wf = true) := by
  intro H enc w base spare held fuel cs x h
  obtain ⟨n, rfl, _, hw⟩ := DataW.trod_int ht h
  exact ⟨n, rfl, hw⟩
theorem Rd.bool {P : Program} {t : TypeId} (ht : P.underlying t = some .bool) : Rd P Kd.bool t (fun _ => True) := by
  intro H enc w base spare held fuel cs x h
  obtain ⟨n, rfl, _⟩ := DataW.trod_bool ht h
  exact ⟨n, rfl, trivial⟩
theorem Rd.string {P : Program} {t : TypeId} (ht : P.underlying t = some .string) : Rd P Kd.string t (fun s => s.size ≤ maxLen) := by
  intro H enc w base spare held fuel cs x h
  obtain ⟨n, rfl, _, hs⟩ := DataW.trod_string ht h
  exact ⟨n, rfl, hs⟩
theorem Rd.slice {α : Type} {P : Program} {d : Kd α} {t e : TypeId} {wf : α → Prop} (ht : P.underlying t = some (.slice e)) (hc : P.cellsOf e = d.sz) (hd : Rd P d e wf) :
    Rd P (Kd.slice e d) t (fun l => l.length ≤ maxLen ∧ ∀ a ∈ l, wf a) := by
  intro H enc w base spare held fuel cs x h
  rcases Go.Deep.open_slice ht h with ⟨rfl, _⟩ | ⟨a, len, cap, m, n, D, Pl, rfl, _, hl, hm, hmm, _, hi⟩
  · exact ⟨[], ⟨none, 0, rfl, Nat.le_refl _, rfl, Nat.zero_le _, fun h => absurd h (Nat.lt_irrefl _)⟩, Nat.zero_le _, fun _ h => by cases h⟩
  · have hlm : len ≤ m := by rw [hmm]; split <;> omega
    have hex : ∀ i, i < len → ∃ v, wf v ∧ ∃ c, c.length = d.sz ∧ d.K w v c ∧ ∀ j u, c[j]? = some u → w.cell? (a.add (i * d.sz + j)) = some u := by
      intro i hilt
      obtain ⟨cs', hcs, ht'⟩ := hi i (by omega)
      obtain ⟨v, hK, hw⟩ := hd enc w base spare held n cs' _ ht'
      rw [hc] at hcs
      obtain ⟨_, hlen, hat⟩ := World.cells?_some hcs
      refine ⟨v, hw, cs', hlen, hK, fun j u hj => ?_⟩
      have hjl : j < d.sz := by rw [← hlen]; exact (List.getElem?_eq_some_iff.1 hj).1
      have := hat j hjl
      rw [Go.Deep.add_add] at this
      rw [this, hj]
    have hex' : ∀ i : Fin len, ∃ v, wf v ∧ ∃ c, c.length = d.sz ∧ d.K w v c ∧ ∀ j u, c[j]? = some u → w.cell? (a.add (i.val * d.sz + j)) = some u := fun i => hex i.val i.isLt
    have hch : ∃ g : Fin len → α, ∀ i : Fin len, wf (g i) ∧ ∃ c, c.length = d.sz ∧ d.K w (g i) c ∧ ∀ j u, c[j]? = some u → w.cell? (a.add (i.val * d.sz + j)) = some u := ⟨fun i => Classical.choose (hex' i), fun i => Classical.choose_spec (hex' i)⟩
    obtain ⟨g, hg⟩ := hch
    have hlen : (List.ofFn g).length = len := List.length_ofFn
    refine ⟨List.ofFn g, ⟨some a, cap, by rw [hlen], by rw [hlen]; exact hl, rfl, by rw [hlen]; simp only [maxLen] at hm; omega, fun _ => ⟨a, rfl, fun j p hp => ?_⟩⟩, by rw [hlen]; omega, fun v hv => ?_⟩
    · obtain ⟨hj, he⟩ := List.getElem?_eq_some_iff.1 hp
      rw [List.getElem_ofFn] at he
      subst he
      exact (hg ⟨j, by omega⟩).2
    · obtain ⟨i, rfl⟩ := List.mem_ofFn.1 hv
      exact (hg i).1
theorem Rd.arg_slice {α : Type} {P : Program} {d : Kd α} {t e : TypeId} {wf : α → Prop} (hd : Rd P (Kd.slice e d) t (fun l => l.length ≤ maxLen ∧ ∀ a ∈ l, wf a)) {H : Type} {enc : TypeId × Value → H} {w : World} {base : Nat} {spare : Nat → Bool} {held : Bool} {A : Option Addr} {n c : Nat} {x : DataW H} {p : List MemPlace}
    (h : DataW.Trod enc P w base spare held t (.slice A n c) x p) : ∃ l : List α, l.length = n ∧ d.C w A l.length l ∧ l.length ≤ c ∧ l.length ≤ maxLen ∧ ∀ a ∈ l, wf a := by
  obtain ⟨fuel, hf⟩ := h
  obtain ⟨l, ⟨A', c', he, hl, hC⟩, hm, hw⟩ := hd enc w base spare held fuel _ _ hf
  have he' : [Value.slice A n c] = [.slice A' l.length c'] := he
  injection he' with he' _
  injection he' with h1 h2 h3
  subst h1; subst h3
  exact ⟨l, h2.symm, hC, hl, hm, hw⟩
theorem some_of_len {α : Type} {xs : List α} {n j : Nat} (h : xs.length = n) (hj : j < n) : ∃ y, xs[j]? = some y := ⟨_, List.getElem?_eq_getElem (by omega)⟩
def wf29 (v : S29) : Prop := (fun n => (Lit.int .i64 n).wf = true) v.f0 ∧ (fun s => s.size ≤ maxLen) v.f1 ∧ (fun s => s.size ≤ maxLen) v.f2
theorem rd29 : Rd Try.prog k29 29 wf29 := by
  intro H enc w base spare held fuel cs x h
  obtain ⟨xs, n, _, _, hlen, hl, hf⟩ := DataW.trod_struct Try.underlying29 h
  rw [show Try.prog.cellsOf 29 = 3 by kernel_rfl] at hlen
  obtain ⟨c0, c1, c2, rfl⟩ : ∃ c0 c1 c2, cs = [c0, c1, c2] := by
    match cs, hlen with
    | [c0, c1, c2], _ => exact ⟨c0, c1, c2, rfl⟩
  obtain ⟨y0, hy0⟩ := some_of_len hl (j := 0) (by decide)
  have g0 : DataW.trod enc Try.prog w base spare held n 3 ((([c0, c1, c2] : List Value).drop 0).take (Try.prog.cellsOf 3)) = some y0 := (hf 0 _ rfl).trans hy0
  rw [show Try.prog.cellsOf 3 = 1 by kernel_rfl] at g0
  obtain ⟨a0, K0, w0⟩ := (Rd.int Try.underlying3) enc w base spare held n _ _ g0
  obtain ⟨y1, hy1⟩ := some_of_len hl (j := 1) (by decide)
  have g1 : DataW.trod enc Try.prog w base spare held n 9 ((([c0, c1, c2] : List Value).drop 1).take (Try.prog.cellsOf 9)) = some y1 := (hf 1 _ rfl).trans hy1
  rw [show Try.prog.cellsOf 9 = 1 by kernel_rfl] at g1
  obtain ⟨a1, K1, w1⟩ := (Rd.string Try.underlying9) enc w base spare held n _ _ g1
  obtain ⟨y2, hy2⟩ := some_of_len hl (j := 2) (by decide)
  have g2 : DataW.trod enc Try.prog w base spare held n 9 ((([c0, c1, c2] : List Value).drop 2).take (Try.prog.cellsOf 9)) = some y2 := (hf 2 _ rfl).trans hy2
  rw [show Try.prog.cellsOf 9 = 1 by kernel_rfl] at g2
  obtain ⟨a2, K2, w2⟩ := (Rd.string Try.underlying9) enc w base spare held n _ _ g2
  exact ⟨⟨a0, a1, a2⟩, ⟨[c0], [c1, c2], rfl, K0, ⟨[c1], [c2], rfl, K1, K2⟩⟩, ⟨w0, w1, w2⟩⟩
def wf31 (v : S31) : Prop := wf29 v.f0 ∧ (fun n => (Lit.int .i64 n).wf = true) v.f1
theorem rd31 : Rd Try.prog k31 31 wf31 := by
  intro H enc w base spare held fuel cs x h
  obtain ⟨xs, n, _, _, hlen, hl, hf⟩ := DataW.trod_struct Try.underlying31 h
  rw [show Try.prog.cellsOf 31 = 4 by kernel_rfl] at hlen
  obtain ⟨c0, c1, c2, c3, rfl⟩ : ∃ c0 c1 c2 c3, cs = [c0, c1, c2, c3] := by
    match cs, hlen with
    | [c0, c1, c2, c3], _ => exact ⟨c0, c1, c2, c3, rfl⟩
  obtain ⟨y0, hy0⟩ := some_of_len hl (j := 0) (by decide)
  have g0 : DataW.trod enc Try.prog w base spare held n 29 ((([c0, c1, c2, c3] : List Value).drop 0).take (Try.prog.cellsOf 29)) = some y0 := (hf 0 _ rfl).trans hy0
  rw [show Try.prog.cellsOf 29 = 3 by kernel_rfl] at g0
  obtain ⟨a0, K0, w0⟩ := rd29 enc w base spare held n _ _ g0
  obtain ⟨y1, hy1⟩ := some_of_len hl (j := 1) (by decide)
  have g1 : DataW.trod enc Try.prog w base spare held n 3 ((([c0, c1, c2, c3] : List Value).drop 3).take (Try.prog.cellsOf 3)) = some y1 := (hf 1 _ rfl).trans hy1
  rw [show Try.prog.cellsOf 3 = 1 by kernel_rfl] at g1
  obtain ⟨a1, K1, w1⟩ := (Rd.int Try.underlying3) enc w base spare held n _ _ g1
  exact ⟨⟨a0, a1⟩, ⟨[c0, c1, c2], [c3], rfl, K0, K1⟩, ⟨w0, w1⟩⟩
def wf33 (v : S33) : Prop := (fun n => (Lit.int .i64 n).wf = true) v.f0 ∧ (fun n => (Lit.int .i64 n).wf = true) v.f1 ∧ wf31 v.f2
theorem rd33 : Rd Try.prog k33 33 wf33 := by
  intro H enc w base spare held fuel cs x h
  obtain ⟨xs, n, _, _, hlen, hl, hf⟩ := DataW.trod_struct Try.underlying33 h
  rw [show Try.prog.cellsOf 33 = 6 by kernel_rfl] at hlen
  obtain ⟨c0, c1, c2, c3, c4, c5, rfl⟩ : ∃ c0 c1 c2 c3 c4 c5, cs = [c0, c1, c2, c3, c4, c5] := by
    match cs, hlen with
    | [c0, c1, c2, c3, c4, c5], _ => exact ⟨c0, c1, c2, c3, c4, c5, rfl⟩
  obtain ⟨y0, hy0⟩ := some_of_len hl (j := 0) (by decide)
  have g0 : DataW.trod enc Try.prog w base spare held n 3 ((([c0, c1, c2, c3, c4, c5] : List Value).drop 0).take (Try.prog.cellsOf 3)) = some y0 := (hf 0 _ rfl).trans hy0
  rw [show Try.prog.cellsOf 3 = 1 by kernel_rfl] at g0
  obtain ⟨a0, K0, w0⟩ := (Rd.int Try.underlying3) enc w base spare held n _ _ g0
  obtain ⟨y1, hy1⟩ := some_of_len hl (j := 1) (by decide)
  have g1 : DataW.trod enc Try.prog w base spare held n 3 ((([c0, c1, c2, c3, c4, c5] : List Value).drop 1).take (Try.prog.cellsOf 3)) = some y1 := (hf 1 _ rfl).trans hy1
  rw [show Try.prog.cellsOf 3 = 1 by kernel_rfl] at g1
  obtain ⟨a1, K1, w1⟩ := (Rd.int Try.underlying3) enc w base spare held n _ _ g1
  obtain ⟨y2, hy2⟩ := some_of_len hl (j := 2) (by decide)
  have g2 : DataW.trod enc Try.prog w base spare held n 31 ((([c0, c1, c2, c3, c4, c5] : List Value).drop 2).take (Try.prog.cellsOf 31)) = some y2 := (hf 2 _ rfl).trans hy2
  rw [show Try.prog.cellsOf 31 = 4 by kernel_rfl] at g2
  obtain ⟨a2, K2, w2⟩ := rd31 enc w base spare held n _ _ g2
  exact ⟨⟨a0, a1, a2⟩, ⟨[c0], [c1, c2, c3, c4, c5], rfl, K0, ⟨[c1], [c2, c3, c4, c5], rfl, K1, K2⟩⟩, ⟨w0, w1, w2⟩⟩
end Go.Proofs.Ytkcjcdkmdooofaa.Q
end
section
namespace Go.Proofs.Kb
open Go Go.RowKit Go.Proofs.Ytkcjcdkmdooofaa.Q Go.Proofs.YtkcjcdkmdooofaaW.PrintWords Go.Proofs.YtkcjcdkmdooofaaW.PrintLast Go.Proofs.YtkcjcdkmdooofaaW.PrintMore
set_option linter.unusedVariables false
set_option linter.unusedSimpArgs false
set_option maxRecDepth 100000
open Go.Proofs.Lk Go.Proofs.Mp
section
variable {w0 w w' : World} {F : Nat → Prop} {R R' : List Chunk} {lp k : Nat} {s : LS S29} {X : List Int} {D : List S29}
theorem LA.drew (h : LA w0 F lp s k R w) : LA w0 F lp s k R w.drew := by
  obtain ⟨M, h1, h2, h3, h4⟩ := h
  exact ⟨M, h1, h2, h3, h4.drew⟩
end
theorem great_some (l : List S33) : ∃ b, interlocklaw11_great.f 200 l = some b ∧ (b = false → l.length ≤ 120) := by
  unfold interlocklaw11_great.f
  by_cases h : (l.length : Int) > 120
  · rw [if_pos h]
    exact ⟨true, rfl, fun h => by cases h⟩
  · rw [if_neg h]
    obtain ⟨b, hb⟩ := great_l0 l (by omega) 200 0 (Nat.zero_le _) (by omega)
    exact ⟨b, hb, fun _ => by omega⟩
theorem great_at (w : World) (A : Option Addr) (c : Nat) (l : List S33) (hC : Kd.C k33 w A l.length l) (hcap : l.length ≤ c) {b : Bool} (hb : interlocklaw11_great.f 200 l = some b) :
    Calls Try.prog 11 #[.slice A l.length c] w fun E w' => E = .returned (.bool b) ∧ Below w.heap.size w w' := (interlocklaw11_great.calls 200 A c l b w hC hcap hb).mono fun E w' h => ⟨h.1, h.2.below⟩
structure Arg (w : World) (A : Option Addr) (l : List S33) : Prop where
  row : Kd.C k33 w A l.length l
theorem Arg.cells {w : World} {A : Option Addr} {l : List S33} (h : Arg w A l) {i : Nat} {x : S33} (hx : l[i]? = some x) : ∃ ad, A = some ad ∧ ∀ W, Below w.heap.size w W →
    W.cell? (ad.add (i * 6)) = some (.int .i64 x.f0) ∧ W.cell? ⟨(ad.add (i * 6)).block, (ad.add (i * 6)).off + 1, none⟩ = some (.int .i64 x.f1) ∧ W.cell? ⟨(ad.add (i * 6)).block, (ad.add (i * 6)).off + 2, none⟩ = some (.int .i64 x.f2.f0.f0) ∧
    W.cell? ⟨(ad.add (i * 6)).block, (ad.add (i * 6)).off + 3, none⟩ = some (.string x.f2.f0.f1) ∧ W.cell? ⟨(ad.add (i * 6)).block, (ad.add (i * 6)).off + 4, none⟩ = some (.string x.f2.f0.f2) ∧ W.cell? ⟨(ad.add (i * 6)).block, (ad.add (i * 6)).off + 5, none⟩ = some (.int .i64 x.f2.f1) := by
  have hi := (List.getElem?_eq_some_iff.1 hx).1
  have hr : rd_T33 l (i : Int) = x := by simp [rd_T33, List.getD_eq_getElem?_getD, hx]
  obtain ⟨ad, hA, d0, d1, d2, d3, d4, d5⟩ := at_T33 h.row (i : Int) (by omega) (by omega)
  rw [hr, Int.toNat_natCast] at d0 d1 d2 d3 d4 d5
  exact ⟨ad, hA, fun W hb => ⟨pw_cell_below hb d0, pw_cell_below hb d1, pw_cell_below hb d2, pw_cell_below hb d3, pw_cell_below hb d4, pw_cell_below hb d5⟩⟩
theorem wf_I {c : S33} (h : wf33 c) : wfI c.f1 := h.2.1
theorem wf_T {c : S33} (h : wf33 c) : wfT c.f2.f0 := ⟨h.2.2.1.1, h.2.2.1.2.1, h.2.2.1.2.2⟩
def txnsOf (l : List S33) : List Int := l.map (·.f1)
def thgsOf (l : List S33) : List S29 := l.map (·.f2.f0)
end Go.Proofs.Kb
end
section
namespace Go.Proofs.Lk
set_option linter.unusedVariables false
set_option linter.unusedSimpArgs false
set_option linter.unusedSectionVars false
section
variable {α : Type} [DecidableEq α]
structure AInv (x : Int) (s : LS α) : Prop where
  inv : LInv s
  one : ∀ t y, pres s t y → y = x
  nw : ∀ t, (s.rows t).waits = []
variable {hadd : List α → α → List α} {fits : α → Bool} (ha : ∀ ls x y, y ∈ hadd ls x ↔ y = x ∨ y ∈ ls)
theorem AInv.none {x : Int} {s : LS α} (h : AInv x s) : s.waits x = none := by
  cases hw : s.waits x with
  | none => rfl
  | some t =>
    have := (h.inv.ww x t).1 hw
    rw [h.nw t] at this
    cases this
include ha
end
end Go.Proofs.Lk
end
section
namespace Go.Proofs.Kb
open Go Go.RowKit Go.Proofs.Ytkcjcdkmdooofaa.Q Go.Proofs.YtkcjcdkmdooofaaW.PrintWords Go.Proofs.YtkcjcdkmdooofaaW.PrintLast Go.Proofs.YtkcjcdkmdooofaaW.PrintMore
set_option linter.unusedVariables false
set_option linter.unusedSimpArgs false
set_option maxRecDepth 100000
open Go.Proofs.Lk Go.Proofs.Mp
end Go.Proofs.Kb
end
section
namespace Go.Proofs.Lk
set_option linter.unusedVariables false
set_option linter.unusedSimpArgs false
set_option linter.unusedSectionVars false
section
variable {α : Type} [DecidableEq α]
end
end Go.Proofs.Lk
end
section
namespace Go.Proofs.Lk
set_option linter.unusedVariables false
set_option linter.unusedSimpArgs false
set_option linter.unusedSectionVars false
section
variable {α : Type} [DecidableEq α] {hadd : List α → α → List α} {fits : α → Bool}
end
end Go.Proofs.Lk
end
section
namespace Go.Proofs.Kb
open Go Go.RowKit Go.Proofs.Ytkcjcdkmdooofaa.Q Go.Proofs.YtkcjcdkmdooofaaW.PrintWords Go.Proofs.YtkcjcdkmdooofaaW.PrintLast Go.Proofs.YtkcjcdkmdooofaaW.PrintMore
set_option linter.unusedVariables false
set_option linter.unusedSimpArgs false
set_option maxRecDepth 100000
open Go.Proofs.Lk Go.Proofs.Mp
theorem eqA29 (d : Nat) (w : World) (x0 y0 : Int) (x1 y1 x2 y2 : ByteArray) :
    (Op.equalIn (d + 2) 29 (.agg #[.int .i64 x0, .string x1, .string x2]) (.agg #[.int .i64 y0, .string y1, .string y2])).run Try.prog w = .ok (x0 == y0 && (x1.toList == y1.toList && (x2.toList == y2.toList))) w := by
  refine eqA_of Try.underlying29 (by kernel_rfl) ?_
  refine eqf_cons (by rfl) (by go_simp; rfl) (by go_simp; rfl) (by go_simp) ?_
  refine eqf_cons (by rfl) (by go_simp; rfl) (by go_simp; rfl) (by go_simp) ?_
  exact eqf_last (by rfl) (by go_simp; rfl) (by go_simp; rfl) (by go_simp)
attribute [local go_sem high] eqA29
end Go.Proofs.Kb
end
section
namespace Go.Proofs.Kb
open Go Go.RowKit Go.Proofs.Ytkcjcdkmdooofaa.Q Go.Proofs.YtkcjcdkmdooofaaW.PrintWords Go.Proofs.YtkcjcdkmdooofaaW.PrintLast Go.Proofs.YtkcjcdkmdooofaaW.PrintMore
set_option linter.unusedVariables false
set_option linter.unusedSimpArgs false
set_option maxRecDepth 100000
open Go.Proofs.Lk Go.Proofs.Mp
end Go.Proofs.Kb
end
section
namespace Go.Proofs.Kb
open Go Go.RowKit Go.Proofs.Ytkcjcdkmdooofaa.Q Go.Proofs.YtkcjcdkmdooofaaW.PrintWords Go.Proofs.YtkcjcdkmdooofaaW.PrintLast Go.Proofs.YtkcjcdkmdooofaaW.PrintMore
set_option linter.unusedVariables false
set_option linter.unusedSimpArgs false
set_option maxRecDepth 100000
open Go.Proofs.Lk Go.Proofs.Mp
section
variable {w0 w w' : World} {F : Nat → Prop} {R R' : List Chunk} {lp k : Nat} {s : LS S29} {X : List Int} {D : List S29}
end
end Go.Proofs.Kb
end
section
namespace Go.Proofs.Kb
open Go Go.RowKit Go.Proofs.Ytkcjcdkmdooofaa.Q Go.Proofs.YtkcjcdkmdooofaaW.PrintWords Go.Proofs.YtkcjcdkmdooofaaW.PrintLast Go.Proofs.YtkcjcdkmdooofaaW.PrintMore
set_option linter.unusedVariables false
set_option linter.unusedSimpArgs false
set_option maxRecDepth 100000
open Go.Proofs.Lk Go.Proofs.Mp
theorem sh_l0 (l : List S37) (hn : l.length < 100000) : ∀ (k i : Nat), i ≤ l.length → l.length < i + k → interlockref11_SameHeld.l0 k l l (i : Int) = some true
  | 0, i, h1, h2 => by omega
  | k + 1, i, h1, h2 => by
    unfold interlockref11_SameHeld.l0
    by_cases h : i < l.length
    · rw [if_pos (by omega), if_pos (by omega), if_pos (by omega), if_neg (by simp), show wrap64 ((i : Int) + 1) = ((i + 1 : Nat) : Int) by rw [IntWalk.wrap64_in _ (by omega)]; omega]
      exact sh_l0 l hn k (i + 1) (by omega) (by omega)
    · rw [if_neg (by omega)]
theorem sh_f (l : List S37) (hn : l.length < 100000) : interlockref11_SameHeld.f 100001 l l = some true := by
  unfold interlockref11_SameHeld.f
  rw [if_pos rfl]
  exact sh_l0 l hn 100001 0 (Nat.zero_le _) (by omega)
theorem sameheld_calls (w : World) (v u : Value) (l : List S37) (hv : RowX heldE w v l) (hu : RowX heldE w u l) (hl : l.length < 100000) :
    Calls Try.prog 22 #[v, u] w fun E w' => E = .returned (.bool true) ∧ Below w.heap.size w w' := by
  have hk : ∀ (w : World) (x : S37), k37.K w x (heldE.enc x) := fun w x => k37_mk w x
  obtain ⟨A, c, rfl, h1, h2⟩ := rowX_C (d := k37) rfl hk hv hl
  obtain ⟨A', c', rfl, h3, h4⟩ := rowX_C (d := k37) rfl hk hu hl
  exact (interlockref11_SameHeld.calls 100001 A c l A' c' l _ w h2 h1 h4 h3 (sh_f l hl)).mono fun E w' h => ⟨h.1, h.2.below⟩
theorem state_len {X : List Int} {D : List S29} {s : LS S29} (h : Good X D s) (t : S29) : (stateL (s.rows t)).length < 100000 := by
  have := (h.ok.rows t).len
  unfold stateL heldL
  simp only [List.length_append, List.length_map]
  omega
end Go.Proofs.Kb
end
section
namespace Go.Proofs.Kb
open Go Go.RowKit Go.Proofs.Ytkcjcdkmdooofaa.Q Go.Proofs.YtkcjcdkmdooofaaW.PrintWords Go.Proofs.YtkcjcdkmdooofaaW.PrintLast Go.Proofs.YtkcjcdkmdooofaaW.PrintMore
set_option linter.unusedVariables false
set_option linter.unusedSimpArgs false
set_option maxRecDepth 100000
open Go.Proofs.Lk Go.Proofs.Mp
end Go.Proofs.Kb
end
section
namespace Go.Proofs.Lk
set_option linter.unusedVariables false
set_option linter.unusedSimpArgs false
set_option linter.unusedSectionVars false
section
variable {α : Type} [DecidableEq α] {hadd : List α → α → List α} {fits : α → Bool} (ha : ∀ ls x y, y ∈ hadd ls x ↔ y = x ∨ y ∈ ls) (zz : α → Bool) (N : Int)
structure AG (l m : LS α) : Prop where
  rw' : ∀ t, zz t = false → l.rows t = m.rows t
  w : ∀ x, x < N → l.waits x = m.waits x
  h : ∀ x, x < N → l.held x = m.held x
structure AP (l m : LS α) : Prop where
  ag : AG zz N l m
  il : LInv l
  im : LInv m
  pl : ∀ t x, pres l t x → zz t = false ∧ x < N
  pm : ∀ t x, pres m t x → (zz t = false ∧ x < N) ∨ (zz t = true ∧ N ≤ x)
variable {zz N}
theorem AG.refl (s : LS α) : AG zz N s s := ⟨fun _ _ => rfl, fun _ _ => rfl, fun _ _ => rfl⟩
theorem AG.trans {a b c : LS α} (h : AG zz N a b) (k : AG zz N b c) : AG zz N a c := ⟨fun t ht => (h.rw' t ht).trans (k.rw' t ht), fun x hx => (h.w x hx).trans (k.w x hx), fun x hx => (h.h x hx).trans (k.h x hx)⟩
theorem noted_agree (t : α) : ∀ (out : List Int) (l m : LS α), AG zz N l m → AG zz N (out.foldl (noted hadd t) l) (out.foldl (noted hadd t) m)
  | [], l, m, h => h
  | a :: out, l, m, h => noted_agree t out _ _ ⟨h.rw', fun x hx => by
      show upd l.waits a none x = upd m.waits a none x
      by_cases e : x = a
      · subst e; rw [upd_same, upd_same]
      · rw [upd_other e, upd_other e]; exact h.w x hx, fun x hx => by
      show upd l.held a (hadd (l.held a) t) x = upd m.held a (hadd (m.held a) t) x
      by_cases e : x = a
      · subst e; rw [upd_same, upd_same, h.h x hx]
      · rw [upd_other e, upd_other e]; exact h.h x hx⟩
theorem sweepS_agree {l m : LS α} {t : α} (hz : zz t = false) (h : AG zz N l m) : AG zz N (sweepS hadd l t).1 (sweepS hadd m t).1 ∧ (sweepS hadd l t).2 = (sweepS hadd m t).2 := by
  have e := h.rw' t hz
  unfold sweepS
  rw [e]
  refine ⟨noted_agree t _ _ _ ⟨fun u hu => ?_, h.w, h.h⟩, rfl⟩
  show upd l.rows t _ u = upd m.rows t _ u
  by_cases eu : u = t
  · subst eu; rw [upd_same, upd_same]
  · rw [upd_other eu, upd_other eu]; exact h.rw' u hu
theorem sweepsS_agree : ∀ (ts : List α) (l m : LS α), (∀ t ∈ ts, zz t = false) → AG zz N l m → AG zz N (sweepsS hadd ts l).1 (sweepsS hadd ts m).1 ∧ (sweepsS hadd ts l).2 = (sweepsS hadd ts m).2
  | [], l, m, hz, h => ⟨h, rfl⟩
  | t :: ts, l, m, hz, h => by
    obtain ⟨h1, h2⟩ := sweepS_agree (hadd := hadd) (hz t (by simp)) h
    obtain ⟨h3, h4⟩ := sweepsS_agree ts _ _ (fun u hu => hz u (by simp [hu])) h1
    exact ⟨h3, by show (sweepS hadd l t).2 ++ _ = (sweepS hadd m t).2 ++ _; rw [h2, h4]⟩
theorem noted_far (t : α) : ∀ (out : List Int) (s : LS α), (∀ x ∈ out, N ≤ x) → AG zz N s (out.foldl (noted hadd t) s)
  | [], s, h => AG.refl s
  | a :: out, s, h => by
    refine AG.trans ?_ (noted_far t out _ fun x hx => h x (by simp [hx]))
    have haN := h a (by simp)
    refine ⟨fun _ _ => rfl, fun x hx => ?_, fun x hx => ?_⟩
    · show _ = upd s.waits a none x
      rw [upd_other (by omega)]
    · show _ = upd s.held a (hadd (s.held a) t) x
      rw [upd_other (by omega)]
theorem sweepS_far {s : LS α} {t : α} (hr : RInv (s.rows t)) (hz : zz t = true) (hN : ∀ x, has (s.rows t).waits x = true → N ≤ x) : AG zz N s (sweepS hadd s t).1 := by
  unfold sweepS
  refine AG.trans (b := ⟨upd s.rows t (sweepR (s.rows t)).1, s.waits, s.held⟩) ⟨fun u hu => ?_, fun _ _ => rfl, fun _ _ => rfl⟩ (noted_far t _ _ fun x hx => hN x ((sweepA_who _ (s.rows t) 0 x hr).1 hx))
  show s.rows u = upd s.rows t _ u
  rw [upd_other (fun e => by rw [e, hz] at hu; cases hu)]
theorem sweepsS_far : ∀ (ts : List α) (s : LS α), (∀ t, RInv (s.rows t)) → (∀ t ∈ ts, zz t = true) → (∀ t x, zz t = true → pres s t x → N ≤ x) → AG zz N s (sweepsS hadd ts s).1
  | [], s, hr, hz, hN => AG.refl s
  | t :: ts, s, hr, hz, hN => AG.trans (sweepS_far (hr t) (hz t (by simp)) fun x hx => hN t x (hz t (by simp)) (.inr hx)) (sweepsS_far ts _ (sweepS_row hr) (fun u hu => hz u (by simp [hu])) fun u x hu hp => hN u x hu (sweepS_pres hr hp))
theorem allT_mem (ha : ∀ ls x y, y ∈ hadd ls x ↔ y = x ∨ y ∈ ls) {s : LS α} (h : LInv s) {x : Int} {t : α} (ht : t ∈ allT hadd s x) : pres s t x := by
  unfold allT at ht
  cases hw : s.waits x with
  | none =>
    rw [hw] at ht
    exact .inl ((h.hh x t).1 ht)
  | some u =>
    rw [hw] at ht
    rcases (ha _ _ _).1 ht with rfl | ht
    · exact .inr ((h.ww x t).1 hw)
    · exact .inl ((h.hh x t).1 ht)
include ha
theorem apart_other {l m : LS α} (h : AP zz N l m) (c : Cal α) (hx : N ≤ c.txn) (hz : zz c.thing = true) : AP zz N l (stepS hadd fits m c) := by
  refine ⟨AG.trans h.ag ?_, h.il, step_inv ha h.im c, h.pl, fun t x hp => ?_⟩
  · unfold stepS
    split
    · unfold askS
      split
      · split
        · exact AG.refl m
        · unfold askR
          dsimp only
          split
          · exact AG.refl m
          · split
            · refine ⟨fun u hu => ?_, fun x hx2 => ?_, fun _ _ => rfl⟩
              · show m.rows u = upd m.rows c.thing _ u
                rw [upd_other (fun e => by rw [e, hz] at hu; cases hu)]
              · show _ = upd m.waits c.txn _ x
                rw [upd_other (by omega)]
            · refine ⟨fun u hu => ?_, fun _ _ => rfl, fun x hx2 => ?_⟩
              · show m.rows u = upd m.rows c.thing _ u
                rw [upd_other (fun e => by rw [e, hz] at hu; cases hu)]
              · show _ = upd m.held c.txn _ x
                rw [upd_other (by omega)]
      · exact AG.refl m
    · split
      · unfold cancelS
        cases hw : m.waits c.txn with
        | none => exact AG.refl m
        | some t =>
          have hzt : zz t = true := by
            rcases h.pm t c.txn (.inr ((h.im.ww _ _).1 hw)) with ⟨_, h1⟩ | ⟨h1, _⟩
            · omega
            · exact h1
          dsimp only
          refine AG.trans (b := ⟨upd m.rows t ⟨(m.rows t).holds, (m.rows t).waits.filter fun o => o.1 != c.txn⟩, upd m.waits c.txn none, m.held⟩) ⟨fun u hu => ?_, fun x hx2 => ?_, fun _ _ => rfl⟩ (sweepS_far ?_ hzt fun x hx2 => ?_)
          · show m.rows u = upd m.rows t _ u
            rw [upd_other (fun e => by rw [e, hzt] at hu; cases hu)]
          · show _ = upd m.waits c.txn none x
            rw [upd_other (by omega)]
          · show RInv (upd m.rows t _ t)
            rw [upd_same]
            have hr := h.im.row t
            exact ⟨hr.hn, hr.wn.sublist (List.filter_sublist.map _), hr.hm, fun o ho => hr.wm o (List.mem_filter.1 ho).1, hr.safe, fun w hw => hr.up w (List.mem_filter.1 hw).1⟩
          · change has (upd m.rows t ⟨(m.rows t).holds, (m.rows t).waits.filter fun o => o.1 != c.txn⟩ t).waits x = true at hx2
            rw [upd_same] at hx2
            rcases h.pm t x (.inr (has_filter.1 hx2).1) with ⟨h1, _⟩ | ⟨_, h1⟩
            · rw [hzt] at h1; cases h1
            · exact h1
      · split
        · unfold releaseS
          have hzt : ∀ t ∈ allT hadd m c.txn, zz t = true := fun t ht => by
            rcases h.pm t c.txn (allT_mem ha h.im ht) with ⟨_, h1⟩ | ⟨h1, _⟩
            · omega
            · exact h1
          have hdp : ∀ t x, pres (⟨fun t => if t ∈ allT hadd m c.txn then dropR (m.rows t) c.txn else m.rows t, upd m.waits c.txn none, upd m.held c.txn []⟩ : LS α) t x → pres m t x := fun t x hp => by
            unfold pres at hp ⊢
            change has (if t ∈ allT hadd m c.txn then dropR (m.rows t) c.txn else m.rows t).holds x = true ∨ has (if t ∈ allT hadd m c.txn then dropR (m.rows t) c.txn else m.rows t).waits x = true at hp
            split at hp
            · exact hp.imp (fun h => (has_filter.1 h).1) (fun h => (has_filter.1 h).1)
            · exact hp
          refine AG.trans (b := ⟨fun t => if t ∈ allT hadd m c.txn then dropR (m.rows t) c.txn else m.rows t, upd m.waits c.txn none, upd m.held c.txn []⟩) ⟨fun u hu => ?_, fun x hx2 => ?_, fun x hx2 => ?_⟩ (sweepsS_far _ _ (fun t => ?_) hzt fun t x ht hp => ?_)
          · show m.rows u = if u ∈ allT hadd m c.txn then dropR (m.rows u) c.txn else m.rows u
            rw [if_neg (fun e => by rw [hzt u e] at hu; cases hu)]
          · show _ = upd m.waits c.txn none x
            rw [upd_other (by omega)]
          · show _ = upd m.held c.txn [] x
            rw [upd_other (by omega)]
          · show RInv (if t ∈ allT hadd m c.txn then dropR (m.rows t) c.txn else m.rows t)
            split
            · exact dropR_inv (h.im.row t) _
            · exact h.im.row t
          · rcases h.pm t x (hdp t x hp) with ⟨h1, _⟩ | ⟨_, h1⟩
            · rw [ht] at h1; cases h1
            · exact h1
        · exact AG.refl m
  · rcases step_pres ha h.im c hp with h1 | ⟨rfl, rfl, _⟩
    · exact h.pm t x h1
    · exact .inr ⟨hz, hx⟩
theorem apart_same {l m : LS α} (h : AP zz N l m) (c : Cal α) (hx : c.txn < N) (hz : zz c.thing = false) : AP zz N (stepS hadd fits l c) (stepS hadd fits m c) ∧ (askS hadd fits l c.txn c.thing c.mode).2 = (askS hadd fits m c.txn c.thing c.mode).2 := by
  have e1 := h.ag.rw' _ hz
  have e2 := h.ag.w _ hx
  have e3 := h.ag.h _ hx
  have hask : AG zz N (askS hadd fits l c.txn c.thing c.mode).1 (askS hadd fits m c.txn c.thing c.mode).1 ∧ (askS hadd fits l c.txn c.thing c.mode).2 = (askS hadd fits m c.txn c.thing c.mode).2 := by
    unfold askS askR
    rw [e1, e2, e3]
    split
    · split
      · exact ⟨h.ag, rfl⟩
      · dsimp only
        split
        · exact ⟨h.ag, rfl⟩
        · split
          · refine ⟨⟨fun u hu => ?_, fun x hx2 => ?_, h.ag.h⟩, rfl⟩
            · show upd l.rows c.thing _ u = upd m.rows c.thing _ u
              by_cases e : u = c.thing
              · subst e; rw [upd_same, upd_same]
              · rw [upd_other e, upd_other e]; exact h.ag.rw' u hu
            · show upd l.waits c.txn _ x = upd m.waits c.txn _ x
              by_cases e : x = c.txn
              · subst e; rw [upd_same, upd_same]
              · rw [upd_other e, upd_other e]; exact h.ag.w x hx2
          · refine ⟨⟨fun u hu => ?_, h.ag.w, fun x hx2 => ?_⟩, rfl⟩
            · show upd l.rows c.thing _ u = upd m.rows c.thing _ u
              by_cases e : u = c.thing
              · subst e; rw [upd_same, upd_same]
              · rw [upd_other e, upd_other e]; exact h.ag.rw' u hu
            · show upd l.held c.txn _ x = upd m.held c.txn _ x
              by_cases e : x = c.txn
              · subst e; rw [upd_same, upd_same]
              · rw [upd_other e, upd_other e]; exact h.ag.h x hx2
    · exact ⟨h.ag, rfl⟩
  refine ⟨⟨?_, step_inv ha h.il c, step_inv ha h.im c, fun t x hp => ?_, fun t x hp => ?_⟩, hask.2⟩
  · unfold stepS
    split
    · exact hask.1
    · split
      · unfold cancelS
        rw [e2]
        cases hw : m.waits c.txn with
        | none => exact h.ag
        | some t =>
          have hzt : zz t = false := (h.pl t c.txn (.inr ((h.il.ww _ _).1 (by rw [e2]; exact hw)))).1
          dsimp only
          refine (sweepS_agree (hadd := hadd) (l := ⟨upd l.rows t ⟨(l.rows t).holds, (l.rows t).waits.filter fun o => o.1 != c.txn⟩, upd l.waits c.txn none, l.held⟩) (m := ⟨upd m.rows t ⟨(m.rows t).holds, (m.rows t).waits.filter fun o => o.1 != c.txn⟩, upd m.waits c.txn none, m.held⟩) hzt ⟨fun u hu => ?_, fun x hx2 => ?_, h.ag.h⟩).1
          · show upd l.rows t _ u = upd m.rows t _ u
            rw [h.ag.rw' t hzt]
            by_cases e : u = t
            · subst e; rw [upd_same, upd_same]
            · rw [upd_other e, upd_other e]; exact h.ag.rw' u hu
          · show upd l.waits c.txn none x = upd m.waits c.txn none x
            by_cases e : x = c.txn
            · subst e; rw [upd_same, upd_same]
            · rw [upd_other e, upd_other e]; exact h.ag.w x hx2
      · split
        · have eall : allT hadd l c.txn = allT hadd m c.txn := by unfold allT; rw [e2, e3]
          have hzt : ∀ t ∈ allT hadd m c.txn, zz t = false := fun t ht => (h.pl t c.txn (allT_mem ha h.il (by rw [eall]; exact ht))).1
          unfold releaseS
          rw [eall]
          refine (sweepsS_agree _ _ _ hzt ⟨fun u hu => ?_, fun x hx2 => ?_, fun x hx2 => ?_⟩).1
          · show (if u ∈ allT hadd m c.txn then dropR (l.rows u) c.txn else l.rows u) = if u ∈ allT hadd m c.txn then dropR (m.rows u) c.txn else m.rows u
            rw [h.ag.rw' u hu]
          · show upd l.waits c.txn none x = upd m.waits c.txn none x
            by_cases e : x = c.txn
            · subst e; rw [upd_same, upd_same]
            · rw [upd_other e, upd_other e]; exact h.ag.w x hx2
          · show upd l.held c.txn [] x = upd m.held c.txn [] x
            by_cases e : x = c.txn
            · subst e; rw [upd_same, upd_same]
            · rw [upd_other e, upd_other e]; exact h.ag.h x hx2
        · exact h.ag
  · rcases step_pres ha h.il c hp with h1 | ⟨rfl, rfl, _⟩
    · exact h.pl t x h1
    · exact ⟨hz, hx⟩
  · rcases step_pres ha h.im c hp with h1 | ⟨rfl, rfl, _⟩
    · exact h.pm t x h1
    · exact .inl ⟨hz, hx⟩
end
end Go.Proofs.Lk
end
section
namespace Go.Proofs.Kb
open Go Go.RowKit Go.Proofs.Ytkcjcdkmdooofaa.Q Go.Proofs.YtkcjcdkmdooofaaW.PrintWords Go.Proofs.YtkcjcdkmdooofaaW.PrintLast Go.Proofs.YtkcjcdkmdooofaaW.PrintMore
set_option linter.unusedVariables false
set_option linter.unusedSimpArgs false
set_option maxRecDepth 100000
open Go.Proofs.Lk Go.Proofs.Mp
def LB (w0 : World) (F : Nat → Prop) (lp : Nat) (s : LS S29) (k : Nat) (lp2 : Nat) (s2 : LS S29) (k2 : Nat) (R : List Chunk) (W : World) : Prop := ∃ M2 : LM, M2.lp = lp2 ∧ Rep M2 s2 ∧ M2.tot ≤ k2 ∧ LA w0 F lp s k (lk M2 ++ R) W
section
variable {w0 w w' : World} {F : Nat → Prop} {R R' : List Chunk} {lp k lp2 k2 : Nat} {s s2 : LS S29} {X : List Int} {D : List S29}
theorem LB.swap (h : LB w0 F lp s k lp2 s2 k2 R w) : LB w0 F lp2 s2 k2 lp s k R w := by
  obtain ⟨M2, a1, a2, a3, M, b1, b2, b3, h⟩ := h
  refine ⟨M, b1, b2, b3, M2, a1, a2, a3, h.perm ?_⟩
  rw [← List.append_assoc, ← List.append_assoc]
  exact List.Perm.append_right _ List.perm_append_comm
theorem LB.below (h : LB w0 F lp s k lp2 s2 k2 R w) (hb : Below w.heap.size w w') : LB w0 F lp s k lp2 s2 k2 R w' := by
  obtain ⟨M2, a1, a2, a3, h⟩ := h
  exact ⟨M2, a1, a2, a3, h.below hb⟩
theorem LA.drew_ (h : LA w0 F lp s k R w) : LA w0 F lp s k R w.drew := by
  obtain ⟨M, h1, h2, h3, h4⟩ := h
  exact ⟨M, h1, h2, h3, h4.drew⟩
theorem LB.drew (h : LB w0 F lp s k lp2 s2 k2 R w) : LB w0 F lp s k lp2 s2 k2 R w.drew := by
  obtain ⟨M2, a1, a2, a3, h⟩ := h
  exact ⟨M2, a1, a2, a3, h.drew_⟩
theorem LB.rest (h : LB w0 F lp s k lp2 s2 k2 R w) : St w0 F w R := by
  obtain ⟨M2, a1, a2, a3, h⟩ := h
  exact h.rest.drop
theorem LB.perm (h : LB w0 F lp s k lp2 s2 k2 R w) (hp : R.Perm R') : LB w0 F lp s k lp2 s2 k2 R' w := by
  obtain ⟨M2, a1, a2, a3, h⟩ := h
  exact ⟨M2, a1, a2, a3, h.perm (List.Perm.append_left _ hp)⟩
theorem LB.drop (h : LB w0 F lp s k lp2 s2 k2 (R ++ R') w) : LB w0 F lp s k lp2 s2 k2 R' w := by
  obtain ⟨M2, a1, a2, a3, h⟩ := h
  refine ⟨M2, a1, a2, a3, LA.drop (R := R) (h.perm ?_)⟩
  rw [← List.append_assoc, ← List.append_assoc]
  exact List.Perm.append_right _ List.perm_append_comm
theorem LB.mono (h : LB w0 F lp s k lp2 s2 k2 R w) {k' k2' : Nat} (hk : k ≤ k') (hk2 : k2 ≤ k2') : LB w0 F lp s k' lp2 s2 k2' R w := by
  obtain ⟨M2, a1, a2, a3, h⟩ := h
  exact ⟨M2, a1, a2, Nat.le_trans a3 hk2, h.mono hk⟩
theorem LB.alloc (h : LB w0 F lp s k lp2 s2 k2 R w) (C : Array Value) (T : TypeId) {n : Nat} (hn : w.heap.size = n) : LB w0 F lp s k lp2 s2 k2 (R ++ [blkC n (.cells C T (0, 0))]) (w.alloc (.cells C T)) := by
  obtain ⟨M2, a1, a2, a3, h⟩ := h
  have h1 := h.alloc C T hn
  rw [List.append_assoc] at h1
  exact ⟨M2, a1, a2, a3, h1⟩
theorem LB.sub (h : LB w0 F lp s k lp2 s2 k2 R w) (f : ∀ cs : List Chunk, St w0 F w (R ++ cs) → St w0 F w' (R' ++ cs)) : LB w0 F lp s k lp2 s2 k2 R' w' := by
  obtain ⟨M2, a1, a2, a3, h⟩ := h
  refine ⟨M2, a1, a2, a3, h.sub fun cs hs => ?_⟩
  have h1 := f (lk M2 ++ cs) (hs.perm (by rw [← List.append_assoc]; exact List.Perm.append_right _ List.perm_append_comm))
  exact h1.perm (by rw [← List.append_assoc]; exact List.Perm.append_right _ List.perm_append_comm)
theorem LB.new (h : LA w0 F lp s k R w) : Calls Try.prog 12 #[] w fun E w' => ∃ lp2, E = .returned (lpP lp2) ∧ LB w0 F lp s k lp2 LS.new 0 R w' := by
  obtain ⟨M, a1, a2, a3, h⟩ := h
  exact (LA.new h).mono fun E w' ⟨lp2, e, hl⟩ => ⟨lp2, e, LB.swap ⟨M, a1, a2, a3, hl⟩⟩
theorem LB.ask (h : LB w0 F lp s k lp2 s2 k2 R w) (hg : Good X D s) {x : Int} {t : S29} (m : Int) (hx : x ∈ X) (ht : t ∈ D) (hk : k < 4000000000000000000) :
    Calls Try.prog 17 #[lpP lp, .int .i64 x, wantV t m] w fun E w' => E = AskE (askS haddT fitsT s x t m) ∧ LB w0 F lp (askS haddT fitsT s x t m).1 (k + 1000000) lp2 s2 k2 R w' := by
  obtain ⟨M2, a1, a2, a3, h⟩ := h
  exact (h.ask hg m hx ht hk).mono fun E w' ⟨e, hl⟩ => ⟨e, M2, a1, a2, a3, hl⟩
theorem LB.do (h : LB w0 F lp s k lp2 s2 k2 R w) (hg : Good X D s) (c : S33) (hx : c.f1 ∈ X) (ht : c.f2.f0 ∈ D) (hk : k < 4000000000000000000) :
    Calls Try.prog 13 #[lpP lp, callV c] w fun E w' => E = .returned (.tuple #[]) ∧ LB w0 F lp (stepS haddT fitsT s (calOf c)) (k + 1000000) lp2 s2 k2 R w' := by
  obtain ⟨M2, a1, a2, a3, h⟩ := h
  exact (h.do hg c hx ht hk).mono fun E w' ⟨e, hl⟩ => ⟨e, M2, a1, a2, a3, hl⟩
theorem LB.state (h : LB w0 F lp s k lp2 s2 k2 R w) (hg : Good X D s) {t : S29} (ht : wfT t) :
    Calls Try.prog 14 #[lpP lp, thgV t] w fun E w' => ∃ v, E = .returned v ∧ LB w0 F lp s k lp2 s2 k2 (rowHC v (stateL (s.rows t)) :: R) w' := by
  obtain ⟨M2, a1, a2, a3, h⟩ := h
  exact (h.state hg ht).mono fun E w' ⟨v, e, hl⟩ => ⟨v, e, M2, a1, a2, a3, hl.perm List.perm_middle.symm⟩
theorem LB.ask2 (h : LB w0 F lp s k lp2 s2 k2 R w) (hg : Good X D s2) {x : Int} {t : S29} (m : Int) (hx : x ∈ X) (ht : t ∈ D) (hk : k2 < 4000000000000000000) :
    Calls Try.prog 17 #[lpP lp2, .int .i64 x, wantV t m] w fun E w' => E = AskE (askS haddT fitsT s2 x t m) ∧ LB w0 F lp s k lp2 (askS haddT fitsT s2 x t m).1 (k2 + 1000000) R w' :=
  (h.swap.ask hg m hx ht hk).mono fun E w' ⟨e, hl⟩ => ⟨e, hl.swap⟩
theorem LB.do2 (h : LB w0 F lp s k lp2 s2 k2 R w) (hg : Good X D s2) (c : S33) (hx : c.f1 ∈ X) (ht : c.f2.f0 ∈ D) (hk : k2 < 4000000000000000000) :
    Calls Try.prog 13 #[lpP lp2, callV c] w fun E w' => E = .returned (.tuple #[]) ∧ LB w0 F lp s k lp2 (stepS haddT fitsT s2 (calOf c)) (k2 + 1000000) R w' :=
  (h.swap.do hg c hx ht hk).mono fun E w' ⟨e, hl⟩ => ⟨e, hl.swap⟩
theorem LB.state2 (h : LB w0 F lp s k lp2 s2 k2 R w) (hg : Good X D s2) {t : S29} (ht : wfT t) :
    Calls Try.prog 14 #[lpP lp2, thgV t] w fun E w' => ∃ v, E = .returned v ∧ LB w0 F lp s k lp2 s2 k2 (rowHC v (stateL (s2.rows t)) :: R) w' :=
  (h.swap.state hg ht).mono fun E w' ⟨v, e, hl⟩ => ⟨v, e, hl.swap⟩
end
@[irreducible] def isZ (a : ByteArray) : Bool := a.toList == (⟨#[122, 122, 57]⟩ : ByteArray).toList
theorem eqZ (t : TypeId) (a : ByteArray) : binOp .eql t (.string a) (.string ⟨#[122, 122, 57]⟩) = pure (.bool (isZ a)) := by
  unfold isZ
  exact binOp_string_eql t a _
attribute [local go_sem high] eqZ
def zzT (t : S29) : Bool := isZ t.f1
theorem and_box (x : Int) : 0 ≤ bits .and .i64 x 1023 ∧ bits .and .i64 x 1023 ≤ 1023 := by
  have h : (BitVec.ofInt 64 x &&& BitVec.ofInt 64 1023).toNat ≤ 1023 := by
    rw [BitVec.toNat_and, show (BitVec.ofInt 64 1023).toNat = 1023 by decide]
    exact Nat.and_le_right
  show 0 ≤ IntKind.wrap .i64 ((BitVec.ofInt 64 x &&& BitVec.ofInt 64 1023).toNat : Int) ∧ IntKind.wrap .i64 ((BitVec.ofInt 64 x &&& BitVec.ofInt 64 1023).toNat : Int) ≤ 1023
  generalize (BitVec.ofInt 64 x &&& BitVec.ofInt 64 1023).toNat = n at h
  have e : IntKind.wrap .i64 (n : Int) = n := by
    rw [IntKind.wrap_i64]
    omega
  omega
def othC (c : S33) : S33 := ⟨c.f0, bits .and .i64 c.f1 1023 + 100000, ⟨⟨4, ⟨#[122, 122, 57]⟩, c.f2.f0.f2⟩, c.f2.f1⟩⟩
def aX (l m : List S33) : List Int := txnsOf l ++ txnsOf (m.map othC)
def aD (l m : List S33) : List S29 := thgsOf l ++ thgsOf (m.map othC)
theorem wf_oth {c : S33} (h : wf33 c) : wf33 (othC c) := by
  obtain ⟨h1, h2, ⟨h3, h4, h5⟩, h6⟩ := h
  refine ⟨h1, ?_, ⟨(by decide : (Lit.int .i64 4).wf = true), (by decide : (⟨#[122, 122, 57]⟩ : ByteArray).size ≤ maxLen), h5⟩, h6⟩
  have := and_box c.f1
  show (Lit.int .i64 (bits .and .i64 c.f1 1023 + 100000)).wf = true
  rw [← IntWalk.wrap64_in (bits .and .i64 c.f1 1023 + 100000) (by omega)]
  exact wrap64_wf _
theorem good_apart {l m : List S33} (hn : l.length ≤ 120) (hm : m.length ≤ 120) (hw : ∀ a ∈ l, wf33 a) (hv : ∀ a ∈ m, wf33 a) : Good (aX l m) (aD l m) (LS.new : LS S29) :=
  Good.new (by simp only [aX, txnsOf, List.length_append, List.length_map]; omega) (by simp only [aD, thgsOf, List.length_append, List.length_map]; omega) (fun y hy => by
    rcases List.mem_append.1 hy with hy | hy
    · obtain ⟨c, hc, rfl⟩ := List.mem_map.1 hy
      exact wf_I (hw c hc)
    · obtain ⟨c, hc, rfl⟩ := List.mem_map.1 hy
      obtain ⟨c', hc', rfl⟩ := List.mem_map.1 hc
      exact wf_I (wf_oth (hv c' hc'))) (fun y hy => by
    rcases List.mem_append.1 hy with hy | hy
    · obtain ⟨c, hc, rfl⟩ := List.mem_map.1 hy
      exact wf_T (hw c hc)
    · obtain ⟨c, hc, rfl⟩ := List.mem_map.1 hy
      obtain ⟨c', hc', rfl⟩ := List.mem_map.1 hc
      exact wf_T (wf_oth (hv c' hc')))
theorem blk6 {W : World} {b t : Nat} {x0 x1 x2 x3 x4 x5 : Value} (h : W.heap[b]? = some (.cells #[x0, x1, x2, x3, x4, x5] t (0, 0))) :
    W.cell? ⟨b, 0, none⟩ = some x0 ∧ W.cell? ⟨b, 1, none⟩ = some x1 ∧ W.cell? ⟨b, 2, none⟩ = some x2 ∧ W.cell? ⟨b, 3, none⟩ = some x3 ∧ W.cell? ⟨b, 4, none⟩ = some x4 ∧ W.cell? ⟨b, 5, none⟩ = some x5 ∧ b < W.heap.size :=
  ⟨(blk_cell h 0).trans rfl, (blk_cell h 1).trans rfl, (blk_cell h 2).trans rfl, (blk_cell h 3).trans rfl, (blk_cell h 4).trans rfl, (blk_cell h 5).trans rfl, lt_of_some h⟩
theorem step_ask {s : LS S29} {c : S33} (h : c.f0 = 0) : stepS haddT fitsT s (calOf c) = (askS haddT fitsT s c.f1 c.f2.f0 c.f2.f1).1 := by
  unfold stepS calOf
  rw [if_pos h]
theorem ap_new : AP zzT 100000 (LS.new : LS S29) LS.new :=
  ⟨AG.refl _, new_inv, new_inv, fun t x hp => by rcases hp with h | h <;> simp [LS.new, has] at h, fun t x hp => by rcases hp with h | h <;> simp [LS.new, has] at h⟩
def ApartI (w : World) (l m : List S33) (lp1 lp2 i : Nat) (W : World) : Prop := ∃ s1 s2, Good (aX l m) (aD l m) s1 ∧ Good (aX l m) (aD l m) s2 ∧ AP zzT 100000 s1 s2 ∧ LB w NoF lp1 s1 (2000000 * i) lp2 s2 (2000000 * i) [] W
set_option maxHeartbeats 8000000 in
theorem apart_row (w : World) (A0 : Option Addr) (c0 : Nat) (l : List S33) (A1 : Option Addr) (c1 : Nat) (l1 : List S33) (hC : Kd.C k33 w A0 l.length l) (hcap : l.length ≤ c0) (hC1 : Kd.C k33 w A1 l1.length l1) (hcap1 : l1.length ≤ c1) (hwf : l.length ≤ maxLen ∧ ∀ a ∈ l, wf33 a) (hwf1 : l1.length ≤ maxLen ∧ ∀ a ∈ l1, wf33 a) :
    Calls Try.prog 5 #[.slice A0 l.length c0, .slice A1 l1.length c1] w fun E w' => E = .returned (.bool true) ∧ Below w.heap.size w w' := by
  obtain ⟨Q, hQ⟩ : ∃ Q, (fun E w' => E = Ending.returned (.bool true) ∧ Below w.heap.size w w') = Q := ⟨_, rfl⟩
  have HQ := Aside0.mk hQ
  rw [hQ]
  have hu33 := Try.underlying33
  have hu31 := Try.underlying31
  have hu29 := Try.underlying29
  have hu22 := Try.underlying22
  have hu34 := Try.underlying34
  have hz33 := Try.sizeOf33
  have HA := Aside0.mk (Arg.mk hC)
  have HA1 := Aside0.mk (Arg.mk hC1)
  have HW := Aside0.mk hwf.2
  have HW1 := Aside0.mk hwf1.2
  obtain ⟨b, hb1, hb2⟩ := great_some l
  have A11 := Aside0.mk (fun W (hb : Below w.heap.size w W) => great_at W A0 c0 l (Kd.C_below hC hb) hcap hb1)
  obtain ⟨b', hb1', hb2'⟩ := great_some l1
  have A11' := Aside0.mk (fun W (hb : Below w.heap.size w W) => great_at W A1 c1 l1 (Kd.C_below hC1 hb) hcap1 hb1')
  obtain ⟨n, hnn⟩ : ∃ n, l.length = n := ⟨_, rfl⟩
  obtain ⟨n1, hnn1⟩ : ∃ n, l1.length = n := ⟨_, rfl⟩
  rw [hnn] at A11 hb2 ⊢
  rw [hnn1] at A11' hb2' ⊢
  have HN := Aside0.mk hnn
  have HN1 := Aside0.mk hnn1
  clear hQ hC hcap hwf hnn hb1 hC1 hcap1 hwf1 hnn1 hb1'
  have G1 : True := trivial
  have G2 : True := trivial
  have G3 : True := trivial
  have G4 : True := trivial
  cases b with
  | true =>
    clear hb2 hb2'
    go_enter Try.func5, Try.ntmps5
    go_wp2_with (first | (clear G1; go_at_call 10; refine (alive_calls w).mono ?_; rintro E w1 ⟨rfl, hb⟩; have HB1 := Aside0.mk hb; clear hb) | (clear G2; go_at_call 11; refine (A11.out _ HB1.out).mono ?_; rintro E w2 ⟨rfl, hb⟩; have HB2 := Aside0.mk (HB1.out.trans (hb.mono HB1.out.size)); clear hb))
    rw [← HQ.out]
    exact ⟨rfl, HB2.out⟩
  | false =>
    have hn120 : n ≤ 120 := hb2 rfl
    cases b' with
    | true =>
      clear hb2 hb2'
      go_enter Try.func5, Try.ntmps5
      go_wp2_with (first | (clear G1; go_at_call 10; refine (alive_calls w).mono ?_; rintro E w1 ⟨rfl, hb⟩; have HB1 := Aside0.mk hb; clear hb) | (clear G2; go_at_call 11; refine (A11.out _ HB1.out).mono ?_; rintro E w2 ⟨rfl, hb⟩; have HB2 := Aside0.mk (HB1.out.trans (hb.mono HB1.out.size)); clear hb) | (clear G3; go_at_call 11; refine (A11'.out _ HB2.out).mono ?_; rintro E w3 ⟨rfl, hb⟩; have HB3 := Aside0.mk (HB2.out.trans (hb.mono HB2.out.size)); clear hb))
      rw [← HQ.out]
      exact ⟨rfl, HB3.out⟩
    | false =>
      have hn121 : n1 ≤ 120 := hb2' rfl
      have HG0 := Aside0.mk (good_apart (l := l) (m := l1) (by rw [HN.out]; exact hn120) (by rw [HN1.out]; exact hn121) HW.out HW1.out)
      clear hb2 hb2'
      go_enter Try.func5, Try.ntmps5
      go_wp2_with (first
        | (clear G1; go_at_call 10; refine (alive_calls w).mono ?_; rintro E w1 ⟨rfl, hb⟩; have HB1 := Aside0.mk hb; clear hb)
        | (clear G2; go_at_call 11; refine (A11.out _ HB1.out).mono ?_; rintro E w2 ⟨rfl, hb⟩; have HB2 := Aside0.mk (HB1.out.trans (hb.mono HB1.out.size)); clear hb)
        | (clear G3; go_at_call 11; refine (A11'.out _ HB2.out).mono ?_; rintro E w3 ⟨rfl, hb⟩; have HB3 := Aside0.mk (HB2.out.trans (hb.mono HB2.out.size)); clear hb)
        | (clear G4; go_at_call 12; refine (LA.new (R := []) ((St.nil0 w NoF).below HB3.out)).mono ?_; rintro E w4 ⟨lp1, rfl, h⟩; have HS4 := Aside0.mk h; clear h; (unfold lpP))
        | (go_at_call 12; refine (LB.new HS4.out).mono ?_; rintro E w5 ⟨lp2, rfl, h⟩; have HS5 := Aside0.mk (show ApartI w l l1 lp1 lp2 0 w5 from ⟨LS.new, LS.new, HG0.out, HG0.out, ap_new, h⟩); clear h HS4 HB1 HB2 HB3; unfold lpP))
      clear A11 A11'
      obtain ⟨mx, hmx⟩ : ∃ mx, max n n1 = mx := ⟨_, rfl⟩
      have hmx1 : n ≤ mx := by omega
      have hmx2 : n1 ≤ mx := by omega
      have hmx3 : mx = n ∨ mx = n1 := by omega
      clear hmx
      go_loopg [7] mx (fun gq v7 wx => ∃ i : Nat, v7 = .int .i64 i ∧ i + gq = mx ∧ Aside0 (ApartI w l l1 lp1 lp2 i wx))
      case atStart => exact ⟨0, rfl, by omega, HS5⟩
      case round =>
        clear HS5
        obtain ⟨i, rfl, hi, HSI⟩ := hrel
        cases gk with
        | zero =>
          obtain rfl : i = mx := by omega
          have hin : ¬ (i : Int) < (n : Int) := by omega
          have hin1 : ¬ (i : Int) < (n1 : Int) := by omega
          obtain ⟨s1, s2, hg1, hg2, hap, hlb⟩ := HSI.out
          have HS6 := Aside0.mk hlb.rest
          clear HSI hg1 hg2 hap hlb
          go_wp2
          rw [← HQ.out]
          exact ⟨rfl, keep_below HS6.out.keep⟩
        | succ gq =>
          have hi0 : (0 : Int) ≤ (i : Int) := by omega
          have hi9 : (i : Int) ≤ 1000000 := by omega
          obtain ⟨s1, s2, hg1, hg2, hap, hlb⟩ := HSI.out
          clear HSI
          by_cases hin : i < n
          · have hjn : (i : Int) < (n : Int) := by omega
            obtain ⟨c, hc⟩ : ∃ c, l[i]? = some c := ⟨_, List.getElem?_eq_getElem (by rw [HN.out]; exact hin)⟩
            obtain ⟨ad, rfl, hcell⟩ := HA.out.cells hc
            have HCELL := Aside0.mk hcell
            have hcm := List.mem_of_getElem? hc
            have HXX := Aside0.mk (show c.f1 ∈ aX l l1 from List.mem_append_left _ (List.mem_map.2 ⟨c, hcm, rfl⟩))
            have HTD := Aside0.mk (show c.f2.f0 ∈ aD l l1 from List.mem_append_left _ (List.mem_map.2 ⟨c, hcm, rfl⟩))
            have HWT := Aside0.mk (wf_T (HW.out c hcm))
            clear hc hcell hcm
            have G5 : True := trivial
            by_cases hin1 : i < n1
            · have hjn1 : (i : Int) < (n1 : Int) := by omega
              obtain ⟨c1, hc1⟩ : ∃ c, l1[i]? = some c := ⟨_, List.getElem?_eq_getElem (by rw [HN1.out]; exact hin1)⟩
              obtain ⟨ad1, rfl, hcell1⟩ := HA1.out.cells hc1
              obtain ⟨d0, d1, d2, d3, d4, d5⟩ := hcell1 wr (keep_below hlb.rest.keep)
              have hcm1 := List.mem_of_getElem? hc1
              have hxX : (othC c1).f1 ∈ aX l l1 := List.mem_append_right _ (List.mem_map.2 ⟨_, List.mem_map.2 ⟨c1, hcm1, rfl⟩, rfl⟩)
              have htD : (othC c1).f2.f0 ∈ aD l l1 := List.mem_append_right _ (List.mem_map.2 ⟨_, List.mem_map.2 ⟨c1, hcm1, rfl⟩, rfl⟩)
              obtain ⟨hy0, hy1⟩ := and_box c1.f1
              have hap3 := apart_other (hadd := haddT) (fits := fitsT) mem_haddT hap (calOf (othC c1)) (show (100000 : Int) ≤ bits .and .i64 c1.f1 1023 + 100000 by omega) (show zzT ⟨4, ⟨#[122, 122, 57]⟩, c1.f2.f0.f2⟩ = true from by unfold zzT isZ; exact beq_self_eq_true _)
              have hg3 := hg2.step (calOf (othC c1)) hxX htD
              obtain ⟨y, hy⟩ : ∃ y, bits .and .i64 c1.f1 1023 = y := ⟨_, rfl⟩
              obtain ⟨n8, hn8⟩ : ∃ n, wr.heap.size = n := ⟨_, rfl⟩
              have h8 := hlb.alloc #[.int .i64 c1.f0, .int .i64 c1.f1, .int .i64 c1.f2.f0.f0, .string c1.f2.f0.f1, .string c1.f2.f0.f2, .int .i64 c1.f2.f1] 33 hn8
              obtain ⟨W8, hW8⟩ : ∃ W, wr.alloc (.cells #[.int .i64 c1.f0, .int .i64 c1.f1, .int .i64 c1.f2.f0.f0, .string c1.f2.f0.f1, .string c1.f2.f0.f2, .int .i64 c1.f2.f1] 33) = W := ⟨_, rfl⟩
              rw [hW8] at h8
              obtain ⟨p0, p1, p2, p3, p4, p5, pl⟩ := blk6 (h8.rest.blk 0 rfl)
              have fz := fun j => frozen_of_row W8 n8 j _ _ (h8.rest.blk 0 rfl)
              have A13 := Aside0.mk (fun W R (h : LB w NoF lp1 s1 (2000000 * i) lp2 s2 (2000000 * i) R W) => h.do2 hg2 (othC c1) hxX htD (by omega))
              obtain ⟨s3, hs3⟩ : ∃ s3, stepS haddT fitsT s2 (calOf (othC c1)) = s3 := ⟨_, rfl⟩
              rw [hs3] at A13 hap3 hg3
              unfold lpP callV othC at A13
              dsimp only at A13
              rw [hy] at A13 hy0 hy1
              have HGa := Aside0.mk hg1
              have HGb := Aside0.mk hg3
              have HAP := Aside0.mk hap3
              have HS8 := Aside0.mk h8
              clear hc1 hcell1 hcm1 hxX htD hap hg2 hlb h8 hs3 hg1 hg3 hap3
              have G6 : True := trivial
              cases hz : isZ c.f2.f0.f1 with
              | true =>
                go_wp2_with (clear G6; go_at_call 13; refine (A13.out _ _ (HS8.out.sub (R' := [blkC n8 (.cells #[.int .i64 c1.f0, .int .i64 (y + 100000), .int .i64 4, .string ⟨#[122, 122, 57]⟩, .string c1.f2.f0.f2, .int .i64 c1.f2.f1] 33 (0, 0))]) fun cs hs => ((hs.putBlk 0 rfl 2 (.int .i64 4) rfl).putBlk 0 rfl 3 (.string ⟨#[122, 122, 57]⟩) rfl).putBlk 0 rfl 1 (.int .i64 (y + 100000)) rfl)).mono ?_; rintro E w9 ⟨rfl, h⟩; have HO := Aside0.mk (show LB w NoF lp1 s1 (2000000 * i) lp2 s3 (2000000 * i + 1000000) [] w9 from LB.drop (R := [_]) (R' := []) h); clear h d0 d1 d2 d3 d4 d5 p0 p1 p2 p3 p4 p5 pl fz A13; obtain ⟨d0, d1, d2, d3, d4, d5⟩ := HCELL.out w9 (keep_below HO.out.rest.keep); obtain ⟨n9, hn9⟩ : ∃ n, w9.heap.size = n := ⟨_, rfl⟩; have h9 := HO.out.alloc #[.int .i64 c.f0, .int .i64 c.f1, .int .i64 c.f2.f0.f0, .string c.f2.f0.f1, .string c.f2.f0.f2, .int .i64 c.f2.f1] 33 hn9; obtain ⟨W9, hW9⟩ : ∃ W, w9.alloc (.cells #[.int .i64 c.f0, .int .i64 c.f1, .int .i64 c.f2.f0.f0, .string c.f2.f0.f1, .string c.f2.f0.f2, .int .i64 c.f2.f1] 33) = W := ⟨_, rfl⟩; rw [hW9] at h9; obtain ⟨p0, p1, p2, p3, p4, p5, pl⟩ := blk6 (h9.rest.blk 0 rfl); have HS := Aside0.mk (show LB w NoF lp1 s1 (2000000 * i) lp2 s3 (2000000 * i + 1000000) [blkC n9 (.cells #[.int .i64 c.f0, .int .i64 c.f1, .int .i64 c.f2.f0.f0, .string c.f2.f0.f1, .string c.f2.f0.f2, .int .i64 c.f2.f1] 33 (0, 0))] W9 from h9); clear h9 HO)
                rw [← HQ.out]
                exact ⟨rfl, keep_below HS.out.rest.keep⟩
              | false =>
                by_cases hN : 100000 ≤ c.f1
                · go_wp2_with (clear G6; go_at_call 13; refine (A13.out _ _ (HS8.out.sub (R' := [blkC n8 (.cells #[.int .i64 c1.f0, .int .i64 (y + 100000), .int .i64 4, .string ⟨#[122, 122, 57]⟩, .string c1.f2.f0.f2, .int .i64 c1.f2.f1] 33 (0, 0))]) fun cs hs => ((hs.putBlk 0 rfl 2 (.int .i64 4) rfl).putBlk 0 rfl 3 (.string ⟨#[122, 122, 57]⟩) rfl).putBlk 0 rfl 1 (.int .i64 (y + 100000)) rfl)).mono ?_; rintro E w9 ⟨rfl, h⟩; have HO := Aside0.mk (show LB w NoF lp1 s1 (2000000 * i) lp2 s3 (2000000 * i + 1000000) [] w9 from LB.drop (R := [_]) (R' := []) h); clear h d0 d1 d2 d3 d4 d5 p0 p1 p2 p3 p4 p5 pl fz A13; obtain ⟨d0, d1, d2, d3, d4, d5⟩ := HCELL.out w9 (keep_below HO.out.rest.keep); obtain ⟨n9, hn9⟩ : ∃ n, w9.heap.size = n := ⟨_, rfl⟩; have h9 := HO.out.alloc #[.int .i64 c.f0, .int .i64 c.f1, .int .i64 c.f2.f0.f0, .string c.f2.f0.f1, .string c.f2.f0.f2, .int .i64 c.f2.f1] 33 hn9; obtain ⟨W9, hW9⟩ : ∃ W, w9.alloc (.cells #[.int .i64 c.f0, .int .i64 c.f1, .int .i64 c.f2.f0.f0, .string c.f2.f0.f1, .string c.f2.f0.f2, .int .i64 c.f2.f1] 33) = W := ⟨_, rfl⟩; rw [hW9] at h9; obtain ⟨p0, p1, p2, p3, p4, p5, pl⟩ := blk6 (h9.rest.blk 0 rfl); have HS := Aside0.mk (show LB w NoF lp1 s1 (2000000 * i) lp2 s3 (2000000 * i + 1000000) [blkC n9 (.cells #[.int .i64 c.f0, .int .i64 c.f1, .int .i64 c.f2.f0.f0, .string c.f2.f0.f1, .string c.f2.f0.f2, .int .i64 c.f2.f1] 33 (0, 0))] W9 from h9); clear h9 HO)
                  rw [← HQ.out]
                  exact ⟨rfl, keep_below HS.out.rest.keep⟩
                · have hN2 : c.f1 < 100000 := by omega
                  obtain ⟨hap4, hqe⟩ := apart_same (hadd := haddT) (fits := fitsT) mem_haddT HAP.out (calOf c) hN2 hz
                  have hg4 := HGa.out.step (calOf c) HXX.out HTD.out
                  have hg5 := HGb.out.step (calOf c) HXX.out HTD.out
                  by_cases h0 : c.f0 = 0
                  · change (askS haddT fitsT s1 c.f1 c.f2.f0 c.f2.f1).2 = (askS haddT fitsT s3 c.f1 c.f2.f0 c.f2.f1).2 at hqe
                    rw [step_ask h0] at hap4 hg4 hg5
                    rw [step_ask h0] at hap4
                    have A17a := Aside0.mk (fun W R k s k2 (h : LB w NoF lp1 s1 k lp2 s k2 R W) (hk : k < 4000000000000000000) => h.ask HGa.out c.f2.f1 HXX.out HTD.out hk)
                    have A17b := Aside0.mk (fun W R s k k2 (h : LB w NoF lp1 s k lp2 s3 k2 R W) (hk : k2 < 4000000000000000000) => h.ask2 HGb.out c.f2.f1 HXX.out HTD.out hk)
                    obtain ⟨ob, oa, hq1⟩ : ∃ b a, (askS haddT fitsT s1 c.f1 c.f2.f0 c.f2.f1).2 = (b, a) := ⟨_, _, rfl⟩
                    rw [ask_e hq1] at A17a
                    rw [ask_e (hqe.symm.trans hq1)] at A17b
                    obtain ⟨s4, hs4⟩ : ∃ s, (askS haddT fitsT s1 c.f1 c.f2.f0 c.f2.f1).1 = s := ⟨_, rfl⟩
                    obtain ⟨s5, hs5⟩ : ∃ s, (askS haddT fitsT s3 c.f1 c.f2.f0 c.f2.f1).1 = s := ⟨_, rfl⟩
                    obtain ⟨ec, hec⟩ : ∃ e, errC oa = e := ⟨_, rfl⟩
                    rw [hs4] at A17a hap4 hg4
                    rw [hs5] at A17b hap4 hg5
                    rw [hec] at A17a A17b
                    unfold lpP wantV at A17a A17b
                    have hbe : (ob == ob) = true := beq_self_eq_true ob
                    have hce : (ec == ec) = true := beq_self_eq_true ec
                    have A14a := Aside0.mk (fun W R k k2 (h : LB w NoF lp1 s4 k lp2 s5 k2 R W) => h.state hg4 HWT.out)
                    have A14b := Aside0.mk (fun W R k k2 (h : LB w NoF lp1 s4 k lp2 s5 k2 R W) => h.state2 hg5 HWT.out)
                    rw [← hap4.ag.rw' c.f2.f0 hz] at A14b
                    unfold lpP thgV at A14a A14b
                    have HLEN := Aside0.mk (state_len hg4 c.f2.f0)
                    have HNX := Aside0.mk (show _ ∧ _ ∧ _ from ⟨hg4, hg5, hap4⟩)
                    have hb0 : (c.f0 == 0) = true := beq_iff_eq.2 h0
                    clear hs4 hs5 hec hq1 hqe hap4 hg4 hg5 h0
                    go_wp2_with (first
                      | (clear G6; go_at_call 13; refine (A13.out _ _ (HS8.out.sub (R' := [blkC n8 (.cells #[.int .i64 c1.f0, .int .i64 (y + 100000), .int .i64 4, .string ⟨#[122, 122, 57]⟩, .string c1.f2.f0.f2, .int .i64 c1.f2.f1] 33 (0, 0))]) fun cs hs => ((hs.putBlk 0 rfl 2 (.int .i64 4) rfl).putBlk 0 rfl 3 (.string ⟨#[122, 122, 57]⟩) rfl).putBlk 0 rfl 1 (.int .i64 (y + 100000)) rfl)).mono ?_; rintro E w9 ⟨rfl, h⟩; have HO := Aside0.mk (show LB w NoF lp1 s1 (2000000 * i) lp2 s3 (2000000 * i + 1000000) [] w9 from LB.drop (R := [_]) (R' := []) h); clear h d0 d1 d2 d3 d4 d5 p0 p1 p2 p3 p4 p5 pl fz A13; obtain ⟨d0, d1, d2, d3, d4, d5⟩ := HCELL.out w9 (keep_below HO.out.rest.keep); obtain ⟨n9, hn9⟩ : ∃ n, w9.heap.size = n := ⟨_, rfl⟩; have h9 := HO.out.alloc #[.int .i64 c.f0, .int .i64 c.f1, .int .i64 c.f2.f0.f0, .string c.f2.f0.f1, .string c.f2.f0.f2, .int .i64 c.f2.f1] 33 hn9; obtain ⟨W9, hW9⟩ : ∃ W, w9.alloc (.cells #[.int .i64 c.f0, .int .i64 c.f1, .int .i64 c.f2.f0.f0, .string c.f2.f0.f1, .string c.f2.f0.f2, .int .i64 c.f2.f1] 33) = W := ⟨_, rfl⟩; rw [hW9] at h9; obtain ⟨p0, p1, p2, p3, p4, p5, pl⟩ := blk6 (h9.rest.blk 0 rfl); have HS := Aside0.mk (show LB w NoF lp1 s1 (2000000 * i) lp2 s3 (2000000 * i + 1000000) [blkC n9 (.cells #[.int .i64 c.f0, .int .i64 c.f1, .int .i64 c.f2.f0.f0, .string c.f2.f0.f1, .string c.f2.f0.f2, .int .i64 c.f2.f1] 33 (0, 0))] W9 from h9); clear h9 HO)
                      | (clear G5; go_at_call 17; refine (A17a.out _ _ _ _ _ HS.out (by omega)).mono ?_; rintro E w20 ⟨rfl, h⟩; clear p0 p1 p2 p3 p4 p5 pl; obtain ⟨p0, p1, p2, p3, p4, p5, pl⟩ := blk6 (h.rest.blk 0 rfl); have HS1 := Aside0.mk h; clear h HS d0 d1 d2 d3 d4 d5 A17a)
                      | (go_at_call 17; refine (A17b.out _ _ _ _ _ HS1.out (by omega)).mono ?_; rintro E w21 ⟨rfl, h⟩; clear p0 p1 p2 p3 p4 p5 pl; obtain ⟨p0, p1, p2, p3, p4, p5, pl⟩ := blk6 (h.rest.blk 0 rfl); have HS2 := Aside0.mk h; clear h HS1 p0 p1 p2 p3 p4 p5 pl))
                    refine start_ (n := 12) (S := fun w' => w'.cell? ⟨n9, 2, none⟩ = some (.int .i64 c.f2.f0.f0) ∧ w'.cell? ⟨n9, 3, none⟩ = some (.string c.f2.f0.f1) ∧ w'.cell? ⟨n9, 4, none⟩ = some (.string c.f2.f0.f2)) (ds := []) #[false, false, false, false, false, false, false, false, false, false, false, false] (by kernel_rfl) rfl rfl ⟨(blk6 (HS2.out.rest.blk 0 rfl)).2.2.1, (blk6 (HS2.out.rest.blk 0 rfl)).2.2.2.1, (blk6 (HS2.out.rest.blk 0 rfl)).2.2.2.2.1⟩ (fun hHeld => ?_)
                    have HS41 := Aside0.mk (HS2.out.drew)
                    clear HS2
                    generalize w21.drew = w25 at HS41 hHeld  ⊢
                    refine pure_ (i := 0) (N := (some 111)) (v := ?_) (a' := ?_) #[true, false, false, false, false, false, false, false, false, false, false, false] rfl rfl (by kernel_rfl) (fun _ _ _ h => h) (Or.inl ⟨by rfl, ?_⟩) ?_ ?_
                    rotate_left
                    · intro w'
                      go_simp
                      with_reducible rfl
                    rotate_left
                    · simp only [Act.put, List.setIfInBounds_toArray, List.set_cons_zero, List.set_cons_succ, i64_w, i32_w]
                      rfl
                    refine pure_ (i := 1) (N := (some 112)) (v := ?_) (a' := ?_) #[true, true, false, false, false, false, false, false, false, false, false, false] rfl rfl (by kernel_rfl) (fun _ _ _ h => h) (Or.inl ⟨by rfl, ?_⟩) ?_ ?_
                    rotate_left
                    · intro w'
                      go_simp
                      with_reducible rfl
                    rotate_left
                    · simp only [Act.put, List.setIfInBounds_toArray, List.set_cons_zero, List.set_cons_succ, i64_w, i32_w]
                      rfl
                    refine pure_ (i := 2) (N := (some 113)) (v := ?_) (a' := ?_) #[true, true, true, false, false, false, false, false, false, false, false, false] rfl rfl (by kernel_rfl) (fun _ _ _ h => h) (Or.inl ⟨by rfl, ?_⟩) ?_ ?_
                    rotate_left
                    · intro w'
                      go_simp
                      with_reducible rfl
                    rotate_left
                    · simp only [Act.put, List.setIfInBounds_toArray, List.set_cons_zero, List.set_cons_succ, i64_w, i32_w]
                      rfl
                    refine pure_ (i := 5) (N := (some 116)) (v := ?_) (a' := ?_) #[true, true, true, false, false, true, false, false, false, false, false, false] rfl rfl (by kernel_rfl) (fun _ _ _ h => h) (Or.inl ⟨by rfl, ?_⟩) ?_ ?_
                    rotate_left
                    · intro w'
                      go_simp
                      with_reducible rfl
                    rotate_left
                    · simp only [Act.put, List.setIfInBounds_toArray, List.set_cons_zero, List.set_cons_succ, i64_w, i32_w]
                      rfl
                    refine pure_ (i := 6) (N := (some 117)) (v := ?_) (a' := ?_) #[true, true, true, false, false, true, true, false, false, false, false, false] rfl rfl (by kernel_rfl) (fun _ _ _ h => h) (Or.inl ⟨by rfl, ?_⟩) ?_ ?_
                    rotate_left
                    · intro w'
                      go_simp
                      with_reducible rfl
                    rotate_left
                    · simp only [Act.put, List.setIfInBounds_toArray, List.set_cons_zero, List.set_cons_succ, i64_w, i32_w]
                      rfl
                    refine pure_ (i := 7) (N := (some 118)) (v := ?_) (a' := ?_) #[true, true, true, false, false, true, true, true, false, false, false, false] rfl rfl (by kernel_rfl) (fun _ _ _ h => h) (Or.inl ⟨by rfl, ?_⟩) ?_ ?_
                    rotate_left
                    · intro w'
                      go_simp
                      with_reducible rfl
                    rotate_left
                    · simp only [Act.put, List.setIfInBounds_toArray, List.set_cons_zero, List.set_cons_succ, i64_w, i32_w]
                      rfl
                    refine take_ (i := 3) (N := (some 114)) (v := ?_) (a' := ?_) #[true, true, true, true, false, true, true, true, false, false, false, false] rfl rfl (by kernel_rfl) (fun _ _ _ h => h) (Or.inl ⟨by rfl, ?_⟩) hHeld ?_ ?_
                    rotate_left
                    · rintro w' ⟨s0, s1, s2⟩
                      go_simp
                      with_reducible rfl
                    rotate_left
                    · simp only [Act.put, List.setIfInBounds_toArray, List.set_cons_zero, List.set_cons_succ, i64_w, i32_w]
                      rfl
                    refine take_ (i := 8) (N := (some 119)) (v := ?_) (a' := ?_) #[true, true, true, true, false, true, true, true, true, false, false, false] rfl rfl (by kernel_rfl) (fun _ _ _ h => h) (Or.inl ⟨by rfl, ?_⟩) hHeld ?_ ?_
                    rotate_left
                    · rintro w' ⟨s0, s1, s2⟩
                      go_simp
                      with_reducible rfl
                    rotate_left
                    · simp only [Act.put, List.setIfInBounds_toArray, List.set_cons_zero, List.set_cons_succ, i64_w, i32_w]
                      rfl
                    refine one_ (i := 4) (N := (some 115)) #[true, true, true, true, true, true, true, true, true, false, false, false] rfl rfl (by kernel_rfl) (by decide) (fun K_ hK => ?_)
                    refine goes_ Try.func14 (by kernel_rfl) rfl #[.pointer (some ⟨lp1, 0, none⟩), .agg #[.int .i64 c.f2.f0.f0, .string c.f2.f0.f1, .string c.f2.f0.f2]] (by rfl) rfl rfl (by (try simp only [List.map_toArray, List.map_cons, List.map_nil]); first | done | rfl) ?_
                    refine (A14a.out _ _ _ _ HS41.out).mono ?_
                    rintro E w22 ⟨v1, rfl, hm⟩
                    have HS42 := Aside0.mk (hm.perm (List.Perm.swap _ _ _))
                    clear HS41
                    clear hm
                    refine ⟨_, rfl, ?_⟩
                    clear hHeld
                    refine hK.out _ _ ⟨(blk6 (HS42.out.rest.blk 0 rfl)).2.2.1, (blk6 (HS42.out.rest.blk 0 rfl)).2.2.2.1, (blk6 (HS42.out.rest.blk 0 rfl)).2.2.2.2.1⟩ (fun hHeld => ?_)
                    clear hK K_
                    refine norm_ (a' := ?_) ?_ ?_
                    rotate_left
                    · show Act.put _ (some 115) _ = _
                      simp only [Act.put, List.setIfInBounds_toArray, List.set_cons_zero, List.set_cons_succ, i64_w, i32_w]
                      rfl
                    refine one_ (i := 9) (N := (some 120)) #[true, true, true, true, true, true, true, true, true, true, false, false] rfl rfl (by kernel_rfl) (by decide) (fun K_ hK => ?_)
                    refine goes_ Try.func14 (by kernel_rfl) rfl #[.pointer (some ⟨lp2, 0, none⟩), .agg #[.int .i64 c.f2.f0.f0, .string c.f2.f0.f1, .string c.f2.f0.f2]] (by rfl) rfl rfl (by (try simp only [List.map_toArray, List.map_cons, List.map_nil]); first | done | rfl) ?_
                    refine (A14b.out _ _ _ _ HS42.out).mono ?_
                    rintro E w23 ⟨v2, rfl, hm⟩
                    have HS43 := Aside0.mk (hm.perm (List.Perm.swap _ _ _))
                    clear HS42
                    clear hm
                    refine ⟨_, rfl, ?_⟩
                    clear hHeld
                    refine hK.out _ _ ⟨(blk6 (HS43.out.rest.blk 0 rfl)).2.2.1, (blk6 (HS43.out.rest.blk 0 rfl)).2.2.2.1, (blk6 (HS43.out.rest.blk 0 rfl)).2.2.2.2.1⟩ (fun hHeld => ?_)
                    clear hK K_
                    refine norm_ (a' := ?_) ?_ ?_
                    rotate_left
                    · show Act.put _ (some 120) _ = _
                      simp only [Act.put, List.setIfInBounds_toArray, List.set_cons_zero, List.set_cons_succ, i64_w, i32_w]
                      rfl
                    refine one_ (i := 10) (N := (some 121)) #[true, true, true, true, true, true, true, true, true, true, true, false] rfl rfl (by kernel_rfl) (by decide) (fun K_ hK => ?_)
                    refine goes_ Try.func22 (by kernel_rfl) rfl #[v1, v2] (by rfl) rfl rfl (by (try simp only [List.map_toArray, List.map_cons, List.map_nil]); first | done | rfl) ?_
                    refine (sameheld_calls _ v1 v2 _ (HS43.out.rest.rowX 2 rfl) (HS43.out.rest.rowX 1 rfl) HLEN.out).mono ?_
                    rintro E w24 ⟨rfl, hbq⟩
                    have HS44 := Aside0.mk (HS43.out.below hbq)
                    clear HS43
                    clear hbq
                    refine ⟨_, rfl, ?_⟩
                    clear hHeld
                    refine hK.out _ _ ⟨(blk6 (HS44.out.rest.blk 0 rfl)).2.2.1, (blk6 (HS44.out.rest.blk 0 rfl)).2.2.2.1, (blk6 (HS44.out.rest.blk 0 rfl)).2.2.2.2.1⟩ (fun hHeld => ?_)
                    clear hK K_
                    refine norm_ (a' := ?_) ?_ ?_
                    rotate_left
                    · show Act.put _ (some 121) _ = _
                      simp only [Act.put, List.setIfInBounds_toArray, List.set_cons_zero, List.set_cons_succ, i64_w, i32_w]
                      rfl
                    refine pure_ (i := 11) (N := (some 122)) (v := ?_) (a' := ?_) #[true, true, true, true, true, true, true, true, true, true, true, true] rfl rfl (by kernel_rfl) (fun _ _ _ h => h) (Or.inl ⟨by rfl, ?_⟩) ?_ ?_
                    rotate_left
                    · intro w'
                      go_simp
                      with_reducible rfl
                    rotate_left
                    · simp only [Act.put, List.setIfInBounds_toArray, List.set_cons_zero, List.set_cons_succ, i64_w, i32_w]
                      rfl
                    refine done_ (by kernel_rfl) ?_
                    clear hHeld
                    go_wp2
                    go_roundg gq
                    case measure => omega
                    case rel => exact ⟨i + 1, by go_num, by omega, Aside0.mk ⟨s4, s5, HNX.out.1, HNX.out.2.1, HNX.out.2.2, (LB.drop (R := [_, _, _]) (R' := []) HS44.out).mono (by omega) (by omega)⟩⟩
                  · have A13a := Aside0.mk (fun W R k s k2 (h : LB w NoF lp1 s1 k lp2 s k2 R W) (hk : k < 4000000000000000000) => h.do HGa.out c HXX.out HTD.out hk)
                    have A13b := Aside0.mk (fun W R s k k2 (h : LB w NoF lp1 s k lp2 s3 k2 R W) (hk : k2 < 4000000000000000000) => h.do2 HGb.out c HXX.out HTD.out hk)
                    obtain ⟨s4, hs4⟩ : ∃ s, stepS haddT fitsT s1 (calOf c) = s := ⟨_, rfl⟩
                    obtain ⟨s5, hs5⟩ : ∃ s, stepS haddT fitsT s3 (calOf c) = s := ⟨_, rfl⟩
                    rw [hs4] at A13a hap4 hg4
                    rw [hs5] at A13b hap4 hg5
                    unfold lpP callV at A13a A13b
                    have A14a := Aside0.mk (fun W R k k2 (h : LB w NoF lp1 s4 k lp2 s5 k2 R W) => h.state hg4 HWT.out)
                    have A14b := Aside0.mk (fun W R k k2 (h : LB w NoF lp1 s4 k lp2 s5 k2 R W) => h.state2 hg5 HWT.out)
                    rw [← hap4.ag.rw' c.f2.f0 hz] at A14b
                    unfold lpP thgV at A14a A14b
                    have HLEN := Aside0.mk (state_len hg4 c.f2.f0)
                    have HNX := Aside0.mk (show _ ∧ _ ∧ _ from ⟨hg4, hg5, hap4⟩)
                    have hb0 : (c.f0 == 0) = false := beq_eq_false_iff_ne.2 h0
                    clear hs4 hs5 hqe hap4 hg4 hg5 h0
                    go_wp2_with (first
                      | (clear G6; go_at_call 13; refine (A13.out _ _ (HS8.out.sub (R' := [blkC n8 (.cells #[.int .i64 c1.f0, .int .i64 (y + 100000), .int .i64 4, .string ⟨#[122, 122, 57]⟩, .string c1.f2.f0.f2, .int .i64 c1.f2.f1] 33 (0, 0))]) fun cs hs => ((hs.putBlk 0 rfl 2 (.int .i64 4) rfl).putBlk 0 rfl 3 (.string ⟨#[122, 122, 57]⟩) rfl).putBlk 0 rfl 1 (.int .i64 (y + 100000)) rfl)).mono ?_; rintro E w9 ⟨rfl, h⟩; have HO := Aside0.mk (show LB w NoF lp1 s1 (2000000 * i) lp2 s3 (2000000 * i + 1000000) [] w9 from LB.drop (R := [_]) (R' := []) h); clear h d0 d1 d2 d3 d4 d5 p0 p1 p2 p3 p4 p5 pl fz A13; obtain ⟨d0, d1, d2, d3, d4, d5⟩ := HCELL.out w9 (keep_below HO.out.rest.keep); obtain ⟨n9, hn9⟩ : ∃ n, w9.heap.size = n := ⟨_, rfl⟩; have h9 := HO.out.alloc #[.int .i64 c.f0, .int .i64 c.f1, .int .i64 c.f2.f0.f0, .string c.f2.f0.f1, .string c.f2.f0.f2, .int .i64 c.f2.f1] 33 hn9; obtain ⟨W9, hW9⟩ : ∃ W, w9.alloc (.cells #[.int .i64 c.f0, .int .i64 c.f1, .int .i64 c.f2.f0.f0, .string c.f2.f0.f1, .string c.f2.f0.f2, .int .i64 c.f2.f1] 33) = W := ⟨_, rfl⟩; rw [hW9] at h9; obtain ⟨p0, p1, p2, p3, p4, p5, pl⟩ := blk6 (h9.rest.blk 0 rfl); have HS := Aside0.mk (show LB w NoF lp1 s1 (2000000 * i) lp2 s3 (2000000 * i + 1000000) [blkC n9 (.cells #[.int .i64 c.f0, .int .i64 c.f1, .int .i64 c.f2.f0.f0, .string c.f2.f0.f1, .string c.f2.f0.f2, .int .i64 c.f2.f1] 33 (0, 0))] W9 from h9); clear h9 HO)
                      | (clear G5; go_at_call 13; refine (A13a.out _ _ _ _ _ HS.out (by omega)).mono ?_; rintro E w20 ⟨rfl, h⟩; clear p0 p1 p2 p3 p4 p5 pl; obtain ⟨p0, p1, p2, p3, p4, p5, pl⟩ := blk6 (h.rest.blk 0 rfl); have HS1 := Aside0.mk h; clear h HS d0 d1 d2 d3 d4 d5 A13a)
                      | (go_at_call 13; refine (A13b.out _ _ _ _ _ HS1.out (by omega)).mono ?_; rintro E w21 ⟨rfl, h⟩; clear p0 p1 p2 p3 p4 p5 pl; obtain ⟨p0, p1, p2, p3, p4, p5, pl⟩ := blk6 (h.rest.blk 0 rfl); have HS2 := Aside0.mk h; clear h HS1 p0 p1 p2 p3 p4 p5 pl))
                    refine start_ (n := 12) (S := fun w' => w'.cell? ⟨n9, 2, none⟩ = some (.int .i64 c.f2.f0.f0) ∧ w'.cell? ⟨n9, 3, none⟩ = some (.string c.f2.f0.f1) ∧ w'.cell? ⟨n9, 4, none⟩ = some (.string c.f2.f0.f2)) (ds := []) #[false, false, false, false, false, false, false, false, false, false, false, false] (by kernel_rfl) rfl rfl ⟨(blk6 (HS2.out.rest.blk 0 rfl)).2.2.1, (blk6 (HS2.out.rest.blk 0 rfl)).2.2.2.1, (blk6 (HS2.out.rest.blk 0 rfl)).2.2.2.2.1⟩ (fun hHeld => ?_)
                    have HS41 := Aside0.mk (HS2.out.drew)
                    clear HS2
                    generalize w21.drew = w25 at HS41 hHeld  ⊢
                    refine pure_ (i := 0) (N := (some 111)) (v := ?_) (a' := ?_) #[true, false, false, false, false, false, false, false, false, false, false, false] rfl rfl (by kernel_rfl) (fun _ _ _ h => h) (Or.inl ⟨by rfl, ?_⟩) ?_ ?_
                    rotate_left
                    · intro w'
                      go_simp
                      with_reducible rfl
                    rotate_left
                    · simp only [Act.put, List.setIfInBounds_toArray, List.set_cons_zero, List.set_cons_succ, i64_w, i32_w]
                      rfl
                    refine pure_ (i := 1) (N := (some 112)) (v := ?_) (a' := ?_) #[true, true, false, false, false, false, false, false, false, false, false, false] rfl rfl (by kernel_rfl) (fun _ _ _ h => h) (Or.inl ⟨by rfl, ?_⟩) ?_ ?_
                    rotate_left
                    · intro w'
                      go_simp
                      with_reducible rfl
                    rotate_left
                    · simp only [Act.put, List.setIfInBounds_toArray, List.set_cons_zero, List.set_cons_succ, i64_w, i32_w]
                      rfl
                    refine pure_ (i := 2) (N := (some 113)) (v := ?_) (a' := ?_) #[true, true, true, false, false, false, false, false, false, false, false, false] rfl rfl (by kernel_rfl) (fun _ _ _ h => h) (Or.inl ⟨by rfl, ?_⟩) ?_ ?_
                    rotate_left
                    · intro w'
                      go_simp
                      with_reducible rfl
                    rotate_left
                    · simp only [Act.put, List.setIfInBounds_toArray, List.set_cons_zero, List.set_cons_succ, i64_w, i32_w]
                      rfl
                    refine pure_ (i := 5) (N := (some 116)) (v := ?_) (a' := ?_) #[true, true, true, false, false, true, false, false, false, false, false, false] rfl rfl (by kernel_rfl) (fun _ _ _ h => h) (Or.inl ⟨by rfl, ?_⟩) ?_ ?_
                    rotate_left
                    · intro w'
                      go_simp
                      with_reducible rfl
                    rotate_left
                    · simp only [Act.put, List.setIfInBounds_toArray, List.set_cons_zero, List.set_cons_succ, i64_w, i32_w]
                      rfl
                    refine pure_ (i := 6) (N := (some 117)) (v := ?_) (a' := ?_) #[true, true, true, false, false, true, true, false, false, false, false, false] rfl rfl (by kernel_rfl) (fun _ _ _ h => h) (Or.inl ⟨by rfl, ?_⟩) ?_ ?_
                    rotate_left
                    · intro w'
                      go_simp
                      with_reducible rfl
                    rotate_left
                    · simp only [Act.put, List.setIfInBounds_toArray, List.set_cons_zero, List.set_cons_succ, i64_w, i32_w]
                      rfl
                    refine pure_ (i := 7) (N := (some 118)) (v := ?_) (a' := ?_) #[true, true, true, false, false, true, true, true, false, false, false, false] rfl rfl (by kernel_rfl) (fun _ _ _ h => h) (Or.inl ⟨by rfl, ?_⟩) ?_ ?_
                    rotate_left
                    · intro w'
                      go_simp
                      with_reducible rfl
                    rotate_left
                    · simp only [Act.put, List.setIfInBounds_toArray, List.set_cons_zero, List.set_cons_succ, i64_w, i32_w]
                      rfl
                    refine take_ (i := 3) (N := (some 114)) (v := ?_) (a' := ?_) #[true, true, true, true, false, true, true, true, false, false, false, false] rfl rfl (by kernel_rfl) (fun _ _ _ h => h) (Or.inl ⟨by rfl, ?_⟩) hHeld ?_ ?_
                    rotate_left
                    · rintro w' ⟨s0, s1, s2⟩
                      go_simp
                      with_reducible rfl
                    rotate_left
                    · simp only [Act.put, List.setIfInBounds_toArray, List.set_cons_zero, List.set_cons_succ, i64_w, i32_w]
                      rfl
                    refine take_ (i := 8) (N := (some 119)) (v := ?_) (a' := ?_) #[true, true, true, true, false, true, true, true, true, false, false, false] rfl rfl (by kernel_rfl) (fun _ _ _ h => h) (Or.inl ⟨by rfl, ?_⟩) hHeld ?_ ?_
                    rotate_left
                    · rintro w' ⟨s0, s1, s2⟩
                      go_simp
                      with_reducible rfl
                    rotate_left
                    · simp only [Act.put, List.setIfInBounds_toArray, List.set_cons_zero, List.set_cons_succ, i64_w, i32_w]
                      rfl
                    refine one_ (i := 4) (N := (some 115)) #[true, true, true, true, true, true, true, true, true, false, false, false] rfl rfl (by kernel_rfl) (by decide) (fun K_ hK => ?_)
                    refine goes_ Try.func14 (by kernel_rfl) rfl #[.pointer (some ⟨lp1, 0, none⟩), .agg #[.int .i64 c.f2.f0.f0, .string c.f2.f0.f1, .string c.f2.f0.f2]] (by rfl) rfl rfl (by (try simp only [List.map_toArray, List.map_cons, List.map_nil]); first | done | rfl) ?_
                    refine (A14a.out _ _ _ _ HS41.out).mono ?_
                    rintro E w22 ⟨v1, rfl, hm⟩
                    have HS42 := Aside0.mk (hm.perm (List.Perm.swap _ _ _))
                    clear HS41
                    clear hm
                    refine ⟨_, rfl, ?_⟩
                    clear hHeld
                    refine hK.out _ _ ⟨(blk6 (HS42.out.rest.blk 0 rfl)).2.2.1, (blk6 (HS42.out.rest.blk 0 rfl)).2.2.2.1, (blk6 (HS42.out.rest.blk 0 rfl)).2.2.2.2.1⟩ (fun hHeld => ?_)
                    clear hK K_
                    refine norm_ (a' := ?_) ?_ ?_
                    rotate_left
                    · show Act.put _ (some 115) _ = _
                      simp only [Act.put, List.setIfInBounds_toArray, List.set_cons_zero, List.set_cons_succ, i64_w, i32_w]
                      rfl
                    refine one_ (i := 9) (N := (some 120)) #[true, true, true, true, true, true, true, true, true, true, false, false] rfl rfl (by kernel_rfl) (by decide) (fun K_ hK => ?_)
                    refine goes_ Try.func14 (by kernel_rfl) rfl #[.pointer (some ⟨lp2, 0, none⟩), .agg #[.int .i64 c.f2.f0.f0, .string c.f2.f0.f1, .string c.f2.f0.f2]] (by rfl) rfl rfl (by (try simp only [List.map_toArray, List.map_cons, List.map_nil]); first | done | rfl) ?_
                    refine (A14b.out _ _ _ _ HS42.out).mono ?_
                    rintro E w23 ⟨v2, rfl, hm⟩
                    have HS43 := Aside0.mk (hm.perm (List.Perm.swap _ _ _))
                    clear HS42
                    clear hm
                    refine ⟨_, rfl, ?_⟩
                    clear hHeld
                    refine hK.out _ _ ⟨(blk6 (HS43.out.rest.blk 0 rfl)).2.2.1, (blk6 (HS43.out.rest.blk 0 rfl)).2.2.2.1, (blk6 (HS43.out.rest.blk 0 rfl)).2.2.2.2.1⟩ (fun hHeld => ?_)
                    clear hK K_
                    refine norm_ (a' := ?_) ?_ ?_
                    rotate_left
                    · show Act.put _ (some 120) _ = _
                      simp only [Act.put, List.setIfInBounds_toArray, List.set_cons_zero, List.set_cons_succ, i64_w, i32_w]
                      rfl
                    refine one_ (i := 10) (N := (some 121)) #[true, true, true, true, true, true, true, true, true, true, true, false] rfl rfl (by kernel_rfl) (by decide) (fun K_ hK => ?_)
                    refine goes_ Try.func22 (by kernel_rfl) rfl #[v1, v2] (by rfl) rfl rfl (by (try simp only [List.map_toArray, List.map_cons, List.map_nil]); first | done | rfl) ?_
                    refine (sameheld_calls _ v1 v2 _ (HS43.out.rest.rowX 2 rfl) (HS43.out.rest.rowX 1 rfl) HLEN.out).mono ?_
                    rintro E w24 ⟨rfl, hbq⟩
                    have HS44 := Aside0.mk (HS43.out.below hbq)
                    clear HS43
                    clear hbq
                    refine ⟨_, rfl, ?_⟩
                    clear hHeld
                    refine hK.out _ _ ⟨(blk6 (HS44.out.rest.blk 0 rfl)).2.2.1, (blk6 (HS44.out.rest.blk 0 rfl)).2.2.2.1, (blk6 (HS44.out.rest.blk 0 rfl)).2.2.2.2.1⟩ (fun hHeld => ?_)
                    clear hK K_
                    refine norm_ (a' := ?_) ?_ ?_
                    rotate_left
                    · show Act.put _ (some 121) _ = _
                      simp only [Act.put, List.setIfInBounds_toArray, List.set_cons_zero, List.set_cons_succ, i64_w, i32_w]
                      rfl
                    refine pure_ (i := 11) (N := (some 122)) (v := ?_) (a' := ?_) #[true, true, true, true, true, true, true, true, true, true, true, true] rfl rfl (by kernel_rfl) (fun _ _ _ h => h) (Or.inl ⟨by rfl, ?_⟩) ?_ ?_
                    rotate_left
                    · intro w'
                      go_simp
                      with_reducible rfl
                    rotate_left
                    · simp only [Act.put, List.setIfInBounds_toArray, List.set_cons_zero, List.set_cons_succ, i64_w, i32_w]
                      rfl
                    refine done_ (by kernel_rfl) ?_
                    clear hHeld
                    go_wp2
                    go_roundg gq
                    case measure => omega
                    case rel => exact ⟨i + 1, by go_num, by omega, Aside0.mk ⟨s4, s5, HNX.out.1, HNX.out.2.1, HNX.out.2.2, (LB.drop (R := [_, _, _]) (R' := []) HS44.out).mono (by omega) (by omega)⟩⟩
            · have hjn1 : ¬ (i : Int) < (n1 : Int) := by omega
              have HO := Aside0.mk (show LB w NoF lp1 s1 (2000000 * i) lp2 s2 (2000000 * i + 1000000) [] wr from hlb.mono (by omega) (by omega))
              have HGa := Aside0.mk hg1
              have HGb := Aside0.mk hg2
              have HAP := Aside0.mk hap
              clear hlb hg1 hg2 hap
              obtain ⟨d0, d1, d2, d3, d4, d5⟩ := HCELL.out wr (keep_below HO.out.rest.keep)
              obtain ⟨n9, hn9⟩ : ∃ n, wr.heap.size = n := ⟨_, rfl⟩
              have h9 := HO.out.alloc #[.int .i64 c.f0, .int .i64 c.f1, .int .i64 c.f2.f0.f0, .string c.f2.f0.f1, .string c.f2.f0.f2, .int .i64 c.f2.f1] 33 hn9
              obtain ⟨W9, hW9⟩ : ∃ W, wr.alloc (.cells #[.int .i64 c.f0, .int .i64 c.f1, .int .i64 c.f2.f0.f0, .string c.f2.f0.f1, .string c.f2.f0.f2, .int .i64 c.f2.f1] 33) = W := ⟨_, rfl⟩
              rw [hW9] at h9
              obtain ⟨p0, p1, p2, p3, p4, p5, pl⟩ := blk6 (h9.rest.blk 0 rfl)
              have HS := Aside0.mk (show LB w NoF lp1 s1 (2000000 * i) lp2 s2 (2000000 * i + 1000000) [blkC n9 (.cells #[.int .i64 c.f0, .int .i64 c.f1, .int .i64 c.f2.f0.f0, .string c.f2.f0.f1, .string c.f2.f0.f2, .int .i64 c.f2.f1] 33 (0, 0))] W9 from h9)
              clear h9 HO
              cases hz : isZ c.f2.f0.f1 with
              | true =>
                go_wp2
                rw [← HQ.out]
                exact ⟨rfl, keep_below HS.out.rest.keep⟩
              | false =>
                by_cases hN : 100000 ≤ c.f1
                · go_wp2
                  rw [← HQ.out]
                  exact ⟨rfl, keep_below HS.out.rest.keep⟩
                · have hN2 : c.f1 < 100000 := by omega
                  obtain ⟨hap4, hqe⟩ := apart_same (hadd := haddT) (fits := fitsT) mem_haddT HAP.out (calOf c) hN2 hz
                  have hg4 := HGa.out.step (calOf c) HXX.out HTD.out
                  have hg5 := HGb.out.step (calOf c) HXX.out HTD.out
                  by_cases h0 : c.f0 = 0
                  · change (askS haddT fitsT s1 c.f1 c.f2.f0 c.f2.f1).2 = (askS haddT fitsT s2 c.f1 c.f2.f0 c.f2.f1).2 at hqe
                    rw [step_ask h0] at hap4 hg4 hg5
                    rw [step_ask h0] at hap4
                    have A17a := Aside0.mk (fun W R k s k2 (h : LB w NoF lp1 s1 k lp2 s k2 R W) (hk : k < 4000000000000000000) => h.ask HGa.out c.f2.f1 HXX.out HTD.out hk)
                    have A17b := Aside0.mk (fun W R s k k2 (h : LB w NoF lp1 s k lp2 s2 k2 R W) (hk : k2 < 4000000000000000000) => h.ask2 HGb.out c.f2.f1 HXX.out HTD.out hk)
                    obtain ⟨ob, oa, hq1⟩ : ∃ b a, (askS haddT fitsT s1 c.f1 c.f2.f0 c.f2.f1).2 = (b, a) := ⟨_, _, rfl⟩
                    rw [ask_e hq1] at A17a
                    rw [ask_e (hqe.symm.trans hq1)] at A17b
                    obtain ⟨s4, hs4⟩ : ∃ s, (askS haddT fitsT s1 c.f1 c.f2.f0 c.f2.f1).1 = s := ⟨_, rfl⟩
                    obtain ⟨s5, hs5⟩ : ∃ s, (askS haddT fitsT s2 c.f1 c.f2.f0 c.f2.f1).1 = s := ⟨_, rfl⟩
                    obtain ⟨ec, hec⟩ : ∃ e, errC oa = e := ⟨_, rfl⟩
                    rw [hs4] at A17a hap4 hg4
                    rw [hs5] at A17b hap4 hg5
                    rw [hec] at A17a A17b
                    unfold lpP wantV at A17a A17b
                    have hbe : (ob == ob) = true := beq_self_eq_true ob
                    have hce : (ec == ec) = true := beq_self_eq_true ec
                    have A14a := Aside0.mk (fun W R k k2 (h : LB w NoF lp1 s4 k lp2 s5 k2 R W) => h.state hg4 HWT.out)
                    have A14b := Aside0.mk (fun W R k k2 (h : LB w NoF lp1 s4 k lp2 s5 k2 R W) => h.state2 hg5 HWT.out)
                    rw [← hap4.ag.rw' c.f2.f0 hz] at A14b
                    unfold lpP thgV at A14a A14b
                    have HLEN := Aside0.mk (state_len hg4 c.f2.f0)
                    have HNX := Aside0.mk (show _ ∧ _ ∧ _ from ⟨hg4, hg5, hap4⟩)
                    have hb0 : (c.f0 == 0) = true := beq_iff_eq.2 h0
                    clear hs4 hs5 hec hq1 hqe hap4 hg4 hg5 h0
                    go_wp2_with (first
                      | (clear G5; go_at_call 17; refine (A17a.out _ _ _ _ _ HS.out (by omega)).mono ?_; rintro E w20 ⟨rfl, h⟩; clear p0 p1 p2 p3 p4 p5 pl; obtain ⟨p0, p1, p2, p3, p4, p5, pl⟩ := blk6 (h.rest.blk 0 rfl); have HS1 := Aside0.mk h; clear h HS d0 d1 d2 d3 d4 d5 A17a)
                      | (go_at_call 17; refine (A17b.out _ _ _ _ _ HS1.out (by omega)).mono ?_; rintro E w21 ⟨rfl, h⟩; clear p0 p1 p2 p3 p4 p5 pl; obtain ⟨p0, p1, p2, p3, p4, p5, pl⟩ := blk6 (h.rest.blk 0 rfl); have HS2 := Aside0.mk h; clear h HS1 p0 p1 p2 p3 p4 p5 pl))
                    refine start_ (n := 12) (S := fun w' => w'.cell? ⟨n9, 2, none⟩ = some (.int .i64 c.f2.f0.f0) ∧ w'.cell? ⟨n9, 3, none⟩ = some (.string c.f2.f0.f1) ∧ w'.cell? ⟨n9, 4, none⟩ = some (.string c.f2.f0.f2)) (ds := []) #[false, false, false, false, false, false, false, false, false, false, false, false] (by kernel_rfl) rfl rfl ⟨(blk6 (HS2.out.rest.blk 0 rfl)).2.2.1, (blk6 (HS2.out.rest.blk 0 rfl)).2.2.2.1, (blk6 (HS2.out.rest.blk 0 rfl)).2.2.2.2.1⟩ (fun hHeld => ?_)
                    have HS41 := Aside0.mk (HS2.out.drew)
                    clear HS2
                    generalize w21.drew = w25 at HS41 hHeld  ⊢
                    refine pure_ (i := 0) (N := (some 111)) (v := ?_) (a' := ?_) #[true, false, false, false, false, false, false, false, false, false, false, false] rfl rfl (by kernel_rfl) (fun _ _ _ h => h) (Or.inl ⟨by rfl, ?_⟩) ?_ ?_
                    rotate_left
                    · intro w'
                      go_simp
                      with_reducible rfl
                    rotate_left
                    · simp only [Act.put, List.setIfInBounds_toArray, List.set_cons_zero, List.set_cons_succ, i64_w, i32_w]
                      rfl
                    refine pure_ (i := 1) (N := (some 112)) (v := ?_) (a' := ?_) #[true, true, false, false, false, false, false, false, false, false, false, false] rfl rfl (by kernel_rfl) (fun _ _ _ h => h) (Or.inl ⟨by rfl, ?_⟩) ?_ ?_
                    rotate_left
                    · intro w'
                      go_simp
                      with_reducible rfl
                    rotate_left
                    · simp only [Act.put, List.setIfInBounds_toArray, List.set_cons_zero, List.set_cons_succ, i64_w, i32_w]
                      rfl
                    refine pure_ (i := 2) (N := (some 113)) (v := ?_) (a' := ?_) #[true, true, true, false, false, false, false, false, false, false, false, false] rfl rfl (by kernel_rfl) (fun _ _ _ h => h) (Or.inl ⟨by rfl, ?_⟩) ?_ ?_
                    rotate_left
                    · intro w'
                      go_simp
                      with_reducible rfl
                    rotate_left
                    · simp only [Act.put, List.setIfInBounds_toArray, List.set_cons_zero, List.set_cons_succ, i64_w, i32_w]
                      rfl
                    refine pure_ (i := 5) (N := (some 116)) (v := ?_) (a' := ?_) #[true, true, true, false, false, true, false, false, false, false, false, false] rfl rfl (by kernel_rfl) (fun _ _ _ h => h) (Or.inl ⟨by rfl, ?_⟩) ?_ ?_
                    rotate_left
                    · intro w'
                      go_simp
                      with_reducible rfl
                    rotate_left
                    · simp only [Act.put, List.setIfInBounds_toArray, List.set_cons_zero, List.set_cons_succ, i64_w, i32_w]
                      rfl
                    refine pure_ (i := 6) (N := (some 117)) (v := ?_) (a' := ?_) #[true, true, true, false, false, true, true, false, false, false, false, false] rfl rfl (by kernel_rfl) (fun _ _ _ h => h) (Or.inl ⟨by rfl, ?_⟩) ?_ ?_
                    rotate_left
                    · intro w'
                      go_simp
                      with_reducible rfl
                    rotate_left
                    · simp only [Act.put, List.setIfInBounds_toArray, List.set_cons_zero, List.set_cons_succ, i64_w, i32_w]
                      rfl
                    refine pure_ (i := 7) (N := (some 118)) (v := ?_) (a' := ?_) #[true, true, true, false, false, true, true, true, false, false, false, false] rfl rfl (by kernel_rfl) (fun _ _ _ h => h) (Or.inl ⟨by rfl, ?_⟩) ?_ ?_
                    rotate_left
                    · intro w'
                      go_simp
                      with_reducible rfl
                    rotate_left
                    · simp only [Act.put, List.setIfInBounds_toArray, List.set_cons_zero, List.set_cons_succ, i64_w, i32_w]
                      rfl
                    refine take_ (i := 3) (N := (some 114)) (v := ?_) (a' := ?_) #[true, true, true, true, false, true, true, true, false, false, false, false] rfl rfl (by kernel_rfl) (fun _ _ _ h => h) (Or.inl ⟨by rfl, ?_⟩) hHeld ?_ ?_
                    rotate_left
                    · rintro w' ⟨s0, s1, s2⟩
                      go_simp
                      with_reducible rfl
                    rotate_left
                    · simp only [Act.put, List.setIfInBounds_toArray, List.set_cons_zero, List.set_cons_succ, i64_w, i32_w]
                      rfl
                    refine take_ (i := 8) (N := (some 119)) (v := ?_) (a' := ?_) #[true, true, true, true, false, true, true, true, true, false, false, false] rfl rfl (by kernel_rfl) (fun _ _ _ h => h) (Or.inl ⟨by rfl, ?_⟩) hHeld ?_ ?_
                    rotate_left
                    · rintro w' ⟨s0, s1, s2⟩
                      go_simp
                      with_reducible rfl
                    rotate_left
                    · simp only [Act.put, List.setIfInBounds_toArray, List.set_cons_zero, List.set_cons_succ, i64_w, i32_w]
                      rfl
                    refine one_ (i := 4) (N := (some 115)) #[true, true, true, true, true, true, true, true, true, false, false, false] rfl rfl (by kernel_rfl) (by decide) (fun K_ hK => ?_)
                    refine goes_ Try.func14 (by kernel_rfl) rfl #[.pointer (some ⟨lp1, 0, none⟩), .agg #[.int .i64 c.f2.f0.f0, .string c.f2.f0.f1, .string c.f2.f0.f2]] (by rfl) rfl rfl (by (try simp only [List.map_toArray, List.map_cons, List.map_nil]); first | done | rfl) ?_
                    refine (A14a.out _ _ _ _ HS41.out).mono ?_
                    rintro E w22 ⟨v1, rfl, hm⟩
                    have HS42 := Aside0.mk (hm.perm (List.Perm.swap _ _ _))
                    clear HS41
                    clear hm
                    refine ⟨_, rfl, ?_⟩
                    clear hHeld
                    refine hK.out _ _ ⟨(blk6 (HS42.out.rest.blk 0 rfl)).2.2.1, (blk6 (HS42.out.rest.blk 0 rfl)).2.2.2.1, (blk6 (HS42.out.rest.blk 0 rfl)).2.2.2.2.1⟩ (fun hHeld => ?_)
                    clear hK K_
                    refine norm_ (a' := ?_) ?_ ?_
                    rotate_left
                    · show Act.put _ (some 115) _ = _
                      simp only [Act.put, List.setIfInBounds_toArray, List.set_cons_zero, List.set_cons_succ, i64_w, i32_w]
                      rfl
                    refine one_ (i := 9) (N := (some 120)) #[true, true, true, true, true, true, true, true, true, true, false, false] rfl rfl (by kernel_rfl) (by decide) (fun K_ hK => ?_)
                    refine goes_ Try.func14 (by kernel_rfl) rfl #[.pointer (some ⟨lp2, 0, none⟩), .agg #[.int .i64 c.f2.f0.f0, .string c.f2.f0.f1, .string c.f2.f0.f2]] (by rfl) rfl rfl (by (try simp only [List.map_toArray, List.map_cons, List.map_nil]); first | done | rfl) ?_
                    refine (A14b.out _ _ _ _ HS42.out).mono ?_
                    rintro E w23 ⟨v2, rfl, hm⟩
                    have HS43 := Aside0.mk (hm.perm (List.Perm.swap _ _ _))
                    clear HS42
                    clear hm
                    refine ⟨_, rfl, ?_⟩
                    clear hHeld
                    refine hK.out _ _ ⟨(blk6 (HS43.out.rest.blk 0 rfl)).2.2.1, (blk6 (HS43.out.rest.blk 0 rfl)).2.2.2.1, (blk6 (HS43.out.rest.blk 0 rfl)).2.2.2.2.1⟩ (fun hHeld => ?_)
                    clear hK K_
                    refine norm_ (a' := ?_) ?_ ?_
                    rotate_left
                    · show Act.put _ (some 120) _ = _
                      simp only [Act.put, List.setIfInBounds_toArray, List.set_cons_zero, List.set_cons_succ, i64_w, i32_w]
                      rfl
                    refine one_ (i := 10) (N := (some 121)) #[true, true, true, true, true, true, true, true, true, true, true, false] rfl rfl (by kernel_rfl) (by decide) (fun K_ hK => ?_)
                    refine goes_ Try.func22 (by kernel_rfl) rfl #[v1, v2] (by rfl) rfl rfl (by (try simp only [List.map_toArray, List.map_cons, List.map_nil]); first | done | rfl) ?_
                    refine (sameheld_calls _ v1 v2 _ (HS43.out.rest.rowX 2 rfl) (HS43.out.rest.rowX 1 rfl) HLEN.out).mono ?_
                    rintro E w24 ⟨rfl, hbq⟩
                    have HS44 := Aside0.mk (HS43.out.below hbq)
                    clear HS43
                    clear hbq
                    refine ⟨_, rfl, ?_⟩
                    clear hHeld
                    refine hK.out _ _ ⟨(blk6 (HS44.out.rest.blk 0 rfl)).2.2.1, (blk6 (HS44.out.rest.blk 0 rfl)).2.2.2.1, (blk6 (HS44.out.rest.blk 0 rfl)).2.2.2.2.1⟩ (fun hHeld => ?_)
                    clear hK K_
                    refine norm_ (a' := ?_) ?_ ?_
                    rotate_left
                    · show Act.put _ (some 121) _ = _
                      simp only [Act.put, List.setIfInBounds_toArray, List.set_cons_zero, List.set_cons_succ, i64_w, i32_w]
                      rfl
                    refine pure_ (i := 11) (N := (some 122)) (v := ?_) (a' := ?_) #[true, true, true, true, true, true, true, true, true, true, true, true] rfl rfl (by kernel_rfl) (fun _ _ _ h => h) (Or.inl ⟨by rfl, ?_⟩) ?_ ?_
                    rotate_left
                    · intro w'
                      go_simp
                      with_reducible rfl
                    rotate_left
                    · simp only [Act.put, List.setIfInBounds_toArray, List.set_cons_zero, List.set_cons_succ, i64_w, i32_w]
                      rfl
                    refine done_ (by kernel_rfl) ?_
                    clear hHeld
                    go_wp2
                    go_roundg gq
                    case measure => omega
                    case rel => exact ⟨i + 1, by go_num, by omega, Aside0.mk ⟨s4, s5, HNX.out.1, HNX.out.2.1, HNX.out.2.2, (LB.drop (R := [_, _, _]) (R' := []) HS44.out).mono (by omega) (by omega)⟩⟩
                  · have A13a := Aside0.mk (fun W R k s k2 (h : LB w NoF lp1 s1 k lp2 s k2 R W) (hk : k < 4000000000000000000) => h.do HGa.out c HXX.out HTD.out hk)
                    have A13b := Aside0.mk (fun W R s k k2 (h : LB w NoF lp1 s k lp2 s2 k2 R W) (hk : k2 < 4000000000000000000) => h.do2 HGb.out c HXX.out HTD.out hk)
                    obtain ⟨s4, hs4⟩ : ∃ s, stepS haddT fitsT s1 (calOf c) = s := ⟨_, rfl⟩
                    obtain ⟨s5, hs5⟩ : ∃ s, stepS haddT fitsT s2 (calOf c) = s := ⟨_, rfl⟩
                    rw [hs4] at A13a hap4 hg4
                    rw [hs5] at A13b hap4 hg5
                    unfold lpP callV at A13a A13b
                    have A14a := Aside0.mk (fun W R k k2 (h : LB w NoF lp1 s4 k lp2 s5 k2 R W) => h.state hg4 HWT.out)
                    have A14b := Aside0.mk (fun W R k k2 (h : LB w NoF lp1 s4 k lp2 s5 k2 R W) => h.state2 hg5 HWT.out)
                    rw [← hap4.ag.rw' c.f2.f0 hz] at A14b
                    unfold lpP thgV at A14a A14b
                    have HLEN := Aside0.mk (state_len hg4 c.f2.f0)
                    have HNX := Aside0.mk (show _ ∧ _ ∧ _ from ⟨hg4, hg5, hap4⟩)
                    have hb0 : (c.f0 == 0) = false := beq_eq_false_iff_ne.2 h0
                    clear hs4 hs5 hqe hap4 hg4 hg5 h0
                    go_wp2_with (first
                      | (clear G5; go_at_call 13; refine (A13a.out _ _ _ _ _ HS.out (by omega)).mono ?_; rintro E w20 ⟨rfl, h⟩; clear p0 p1 p2 p3 p4 p5 pl; obtain ⟨p0, p1, p2, p3, p4, p5, pl⟩ := blk6 (h.rest.blk 0 rfl); have HS1 := Aside0.mk h; clear h HS d0 d1 d2 d3 d4 d5 A13a)
                      | (go_at_call 13; refine (A13b.out _ _ _ _ _ HS1.out (by omega)).mono ?_; rintro E w21 ⟨rfl, h⟩; clear p0 p1 p2 p3 p4 p5 pl; obtain ⟨p0, p1, p2, p3, p4, p5, pl⟩ := blk6 (h.rest.blk 0 rfl); have HS2 := Aside0.mk h; clear h HS1 p0 p1 p2 p3 p4 p5 pl))
                    refine start_ (n := 12) (S := fun w' => w'.cell? ⟨n9, 2, none⟩ = some (.int .i64 c.f2.f0.f0) ∧ w'.cell? ⟨n9, 3, none⟩ = some (.string c.f2.f0.f1) ∧ w'.cell? ⟨n9, 4, none⟩ = some (.string c.f2.f0.f2)) (ds := []) #[false, false, false, false, false, false, false, false, false, false, false, false] (by kernel_rfl) rfl rfl ⟨(blk6 (HS2.out.rest.blk 0 rfl)).2.2.1, (blk6 (HS2.out.rest.blk 0 rfl)).2.2.2.1, (blk6 (HS2.out.rest.blk 0 rfl)).2.2.2.2.1⟩ (fun hHeld => ?_)
                    have HS41 := Aside0.mk (HS2.out.drew)
                    clear HS2
                    generalize w21.drew = w25 at HS41 hHeld  ⊢
                    refine pure_ (i := 0) (N := (some 111)) (v := ?_) (a' := ?_) #[true, false, false, false, false, false, false, false, false, false, false, false] rfl rfl (by kernel_rfl) (fun _ _ _ h => h) (Or.inl ⟨by rfl, ?_⟩) ?_ ?_
                    rotate_left
                    · intro w'
                      go_simp
                      with_reducible rfl
                    rotate_left
                    · simp only [Act.put, List.setIfInBounds_toArray, List.set_cons_zero, List.set_cons_succ, i64_w, i32_w]
                      rfl
                    refine pure_ (i := 1) (N := (some 112)) (v := ?_) (a' := ?_) #[true, true, false, false, false, false, false, false, false, false, false, false] rfl rfl (by kernel_rfl) (fun _ _ _ h => h) (Or.inl ⟨by rfl, ?_⟩) ?_ ?_
                    rotate_left
                    · intro w'
                      go_simp
                      with_reducible rfl
                    rotate_left
                    · simp only [Act.put, List.setIfInBounds_toArray, List.set_cons_zero, List.set_cons_succ, i64_w, i32_w]
                      rfl
                    refine pure_ (i := 2) (N := (some 113)) (v := ?_) (a' := ?_) #[true, true, true, false, false, false, false, false, false, false, false, false] rfl rfl (by kernel_rfl) (fun _ _ _ h => h) (Or.inl ⟨by rfl, ?_⟩) ?_ ?_
                    rotate_left
                    · intro w'
                      go_simp
                      with_reducible rfl
                    rotate_left
                    · simp only [Act.put, List.setIfInBounds_toArray, List.set_cons_zero, List.set_cons_succ, i64_w, i32_w]
                      rfl
                    refine pure_ (i := 5) (N := (some 116)) (v := ?_) (a' := ?_) #[true, true, true, false, false, true, false, false, false, false, false, false] rfl rfl (by kernel_rfl) (fun _ _ _ h => h) (Or.inl ⟨by rfl, ?_⟩) ?_ ?_
                    rotate_left
                    · intro w'
                      go_simp
                      with_reducible rfl
                    rotate_left
                    · simp only [Act.put, List.setIfInBounds_toArray, List.set_cons_zero, List.set_cons_succ, i64_w, i32_w]
                      rfl
                    refine pure_ (i := 6) (N := (some 117)) (v := ?_) (a' := ?_) #[true, true, true, false, false, true, true, false, false, false, false, false] rfl rfl (by kernel_rfl) (fun _ _ _ h => h) (Or.inl ⟨by rfl, ?_⟩) ?_ ?_
                    rotate_left
                    · intro w'
                      go_simp
                      with_reducible rfl
                    rotate_left
                    · simp only [Act.put, List.setIfInBounds_toArray, List.set_cons_zero, List.set_cons_succ, i64_w, i32_w]
                      rfl
                    refine pure_ (i := 7) (N := (some 118)) (v := ?_) (a' := ?_) #[true, true, true, false, false, true, true, true, false, false, false, false] rfl rfl (by kernel_rfl) (fun _ _ _ h => h) (Or.inl ⟨by rfl, ?_⟩) ?_ ?_
                    rotate_left
                    · intro w'
                      go_simp
                      with_reducible rfl
                    rotate_left
                    · simp only [Act.put, List.setIfInBounds_toArray, List.set_cons_zero, List.set_cons_succ, i64_w, i32_w]
                      rfl
                    refine take_ (i := 3) (N := (some 114)) (v := ?_) (a' := ?_) #[true, true, true, true, false, true, true, true, false, false, false, false] rfl rfl (by kernel_rfl) (fun _ _ _ h => h) (Or.inl ⟨by rfl, ?_⟩) hHeld ?_ ?_
                    rotate_left
                    · rintro w' ⟨s0, s1, s2⟩
                      go_simp
                      with_reducible rfl
                    rotate_left
                    · simp only [Act.put, List.setIfInBounds_toArray, List.set_cons_zero, List.set_cons_succ, i64_w, i32_w]
                      rfl
                    refine take_ (i := 8) (N := (some 119)) (v := ?_) (a' := ?_) #[true, true, true, true, false, true, true, true, true, false, false, false] rfl rfl (by kernel_rfl) (fun _ _ _ h => h) (Or.inl ⟨by rfl, ?_⟩) hHeld ?_ ?_
                    rotate_left
                    · rintro w' ⟨s0, s1, s2⟩
                      go_simp
                      with_reducible rfl
                    rotate_left
                    · simp only [Act.put, List.setIfInBounds_toArray, List.set_cons_zero, List.set_cons_succ, i64_w, i32_w]
                      rfl
                    refine one_ (i := 4) (N := (some 115)) #[true, true, true, true, true, true, true, true, true, false, false, false] rfl rfl (by kernel_rfl) (by decide) (fun K_ hK => ?_)
                    refine goes_ Try.func14 (by kernel_rfl) rfl #[.pointer (some ⟨lp1, 0, none⟩), .agg #[.int .i64 c.f2.f0.f0, .string c.f2.f0.f1, .string c.f2.f0.f2]] (by rfl) rfl rfl (by (try simp only [List.map_toArray, List.map_cons, List.map_nil]); first | done | rfl) ?_
                    refine (A14a.out _ _ _ _ HS41.out).mono ?_
                    rintro E w22 ⟨v1, rfl, hm⟩
                    have HS42 := Aside0.mk (hm.perm (List.Perm.swap _ _ _))
                    clear HS41
                    clear hm
                    refine ⟨_, rfl, ?_⟩
                    clear hHeld
                    refine hK.out _ _ ⟨(blk6 (HS42.out.rest.blk 0 rfl)).2.2.1, (blk6 (HS42.out.rest.blk 0 rfl)).2.2.2.1, (blk6 (HS42.out.rest.blk 0 rfl)).2.2.2.2.1⟩ (fun hHeld => ?_)
                    clear hK K_
                    refine norm_ (a' := ?_) ?_ ?_
                    rotate_left
                    · show Act.put _ (some 115) _ = _
                      simp only [Act.put, List.setIfInBounds_toArray, List.set_cons_zero, List.set_cons_succ, i64_w, i32_w]
                      rfl
                    refine one_ (i := 9) (N := (some 120)) #[true, true, true, true, true, true, true, true, true, true, false, false] rfl rfl (by kernel_rfl) (by decide) (fun K_ hK => ?_)
                    refine goes_ Try.func14 (by kernel_rfl) rfl #[.pointer (some ⟨lp2, 0, none⟩), .agg #[.int .i64 c.f2.f0.f0, .string c.f2.f0.f1, .string c.f2.f0.f2]] (by rfl) rfl rfl (by (try simp only [List.map_toArray, List.map_cons, List.map_nil]); first | done | rfl) ?_
                    refine (A14b.out _ _ _ _ HS42.out).mono ?_
                    rintro E w23 ⟨v2, rfl, hm⟩
                    have HS43 := Aside0.mk (hm.perm (List.Perm.swap _ _ _))
                    clear HS42
                    clear hm
                    refine ⟨_, rfl, ?_⟩
                    clear hHeld
                    refine hK.out _ _ ⟨(blk6 (HS43.out.rest.blk 0 rfl)).2.2.1, (blk6 (HS43.out.rest.blk 0 rfl)).2.2.2.1, (blk6 (HS43.out.rest.blk 0 rfl)).2.2.2.2.1⟩ (fun hHeld => ?_)
                    clear hK K_
                    refine norm_ (a' := ?_) ?_ ?_
                    rotate_left
                    · show Act.put _ (some 120) _ = _
                      simp only [Act.put, List.setIfInBounds_toArray, List.set_cons_zero, List.set_cons_succ, i64_w, i32_w]
                      rfl
                    refine one_ (i := 10) (N := (some 121)) #[true, true, true, true, true, true, true, true, true, true, true, false] rfl rfl (by kernel_rfl) (by decide) (fun K_ hK => ?_)
                    refine goes_ Try.func22 (by kernel_rfl) rfl #[v1, v2] (by rfl) rfl rfl (by (try simp only [List.map_toArray, List.map_cons, List.map_nil]); first | done | rfl) ?_
                    refine (sameheld_calls _ v1 v2 _ (HS43.out.rest.rowX 2 rfl) (HS43.out.rest.rowX 1 rfl) HLEN.out).mono ?_
                    rintro E w24 ⟨rfl, hbq⟩
                    have HS44 := Aside0.mk (HS43.out.below hbq)
                    clear HS43
                    clear hbq
                    refine ⟨_, rfl, ?_⟩
                    clear hHeld
                    refine hK.out _ _ ⟨(blk6 (HS44.out.rest.blk 0 rfl)).2.2.1, (blk6 (HS44.out.rest.blk 0 rfl)).2.2.2.1, (blk6 (HS44.out.rest.blk 0 rfl)).2.2.2.2.1⟩ (fun hHeld => ?_)
                    clear hK K_
                    refine norm_ (a' := ?_) ?_ ?_
                    rotate_left
                    · show Act.put _ (some 121) _ = _
                      simp only [Act.put, List.setIfInBounds_toArray, List.set_cons_zero, List.set_cons_succ, i64_w, i32_w]
                      rfl
                    refine pure_ (i := 11) (N := (some 122)) (v := ?_) (a' := ?_) #[true, true, true, true, true, true, true, true, true, true, true, true] rfl rfl (by kernel_rfl) (fun _ _ _ h => h) (Or.inl ⟨by rfl, ?_⟩) ?_ ?_
                    rotate_left
                    · intro w'
                      go_simp
                      with_reducible rfl
                    rotate_left
                    · simp only [Act.put, List.setIfInBounds_toArray, List.set_cons_zero, List.set_cons_succ, i64_w, i32_w]
                      rfl
                    refine done_ (by kernel_rfl) ?_
                    clear hHeld
                    go_wp2
                    go_roundg gq
                    case measure => omega
                    case rel => exact ⟨i + 1, by go_num, by omega, Aside0.mk ⟨s4, s5, HNX.out.1, HNX.out.2.1, HNX.out.2.2, (LB.drop (R := [_, _, _]) (R' := []) HS44.out).mono (by omega) (by omega)⟩⟩
          · have hin1 : i < n1 := by omega
            have hjn : ¬ (i : Int) < (n : Int) := by omega
            have hjn1 : (i : Int) < (n1 : Int) := by omega
            obtain ⟨c1, hc1⟩ : ∃ c, l1[i]? = some c := ⟨_, List.getElem?_eq_getElem (by rw [HN1.out]; exact hin1)⟩
            obtain ⟨ad1, rfl, hcell1⟩ := HA1.out.cells hc1
            obtain ⟨d0, d1, d2, d3, d4, d5⟩ := hcell1 wr (keep_below hlb.rest.keep)
            have hcm1 := List.mem_of_getElem? hc1
            have hxX : (othC c1).f1 ∈ aX l l1 := List.mem_append_right _ (List.mem_map.2 ⟨_, List.mem_map.2 ⟨c1, hcm1, rfl⟩, rfl⟩)
            have htD : (othC c1).f2.f0 ∈ aD l l1 := List.mem_append_right _ (List.mem_map.2 ⟨_, List.mem_map.2 ⟨c1, hcm1, rfl⟩, rfl⟩)
            obtain ⟨hy0, hy1⟩ := and_box c1.f1
            have hap3 := apart_other (hadd := haddT) (fits := fitsT) mem_haddT hap (calOf (othC c1)) (show (100000 : Int) ≤ bits .and .i64 c1.f1 1023 + 100000 by omega) (show zzT ⟨4, ⟨#[122, 122, 57]⟩, c1.f2.f0.f2⟩ = true from by unfold zzT isZ; exact beq_self_eq_true _)
            have hg3 := hg2.step (calOf (othC c1)) hxX htD
            obtain ⟨y, hy⟩ : ∃ y, bits .and .i64 c1.f1 1023 = y := ⟨_, rfl⟩
            obtain ⟨n8, hn8⟩ : ∃ n, wr.heap.size = n := ⟨_, rfl⟩
            have h8 := hlb.alloc #[.int .i64 c1.f0, .int .i64 c1.f1, .int .i64 c1.f2.f0.f0, .string c1.f2.f0.f1, .string c1.f2.f0.f2, .int .i64 c1.f2.f1] 33 hn8
            obtain ⟨W8, hW8⟩ : ∃ W, wr.alloc (.cells #[.int .i64 c1.f0, .int .i64 c1.f1, .int .i64 c1.f2.f0.f0, .string c1.f2.f0.f1, .string c1.f2.f0.f2, .int .i64 c1.f2.f1] 33) = W := ⟨_, rfl⟩
            rw [hW8] at h8
            obtain ⟨p0, p1, p2, p3, p4, p5, pl⟩ := blk6 (h8.rest.blk 0 rfl)
            have fz := fun j => frozen_of_row W8 n8 j _ _ (h8.rest.blk 0 rfl)
            have A13 := Aside0.mk (fun W R (h : LB w NoF lp1 s1 (2000000 * i) lp2 s2 (2000000 * i) R W) => h.do2 hg2 (othC c1) hxX htD (by omega))
            obtain ⟨s3, hs3⟩ : ∃ s3, stepS haddT fitsT s2 (calOf (othC c1)) = s3 := ⟨_, rfl⟩
            rw [hs3] at A13 hap3 hg3
            unfold lpP callV othC at A13
            dsimp only at A13
            rw [hy] at A13 hy0 hy1
            have HG1 := Aside0.mk hg1
            have HG3 := Aside0.mk hg3
            have HAP3 := Aside0.mk hap3
            have HS8 := Aside0.mk h8
            clear hc1 hcell1 hcm1 hxX htD hap hg2 hlb h8 hs3 hg1 hg3 hap3
            go_wp2_with (go_at_call 13; refine (A13.out _ _ (HS8.out.sub (R' := [blkC n8 (.cells #[.int .i64 c1.f0, .int .i64 (y + 100000), .int .i64 4, .string ⟨#[122, 122, 57]⟩, .string c1.f2.f0.f2, .int .i64 c1.f2.f1] 33 (0, 0))]) fun cs hs => ((hs.putBlk 0 rfl 2 (.int .i64 4) rfl).putBlk 0 rfl 3 (.string ⟨#[122, 122, 57]⟩) rfl).putBlk 0 rfl 1 (.int .i64 (y + 100000)) rfl)).mono ?_; rintro E w9 ⟨rfl, h⟩; have HS9 := Aside0.mk (show ApartI w l l1 lp1 lp2 (i + 1) w9 from ⟨s1, s3, HG1.out, HG3.out, HAP3.out, (LB.drop (R := [_]) (R' := []) h).mono (by omega) (by omega)⟩); clear h d0 d1 d2 d3 d4 d5 p0 p1 p2 p3 p4 p5 pl fz A13)
            go_roundg gq
            case measure => omega
            case rel => exact ⟨i + 1, by go_num, by omega, HS9⟩
end Go.Proofs.Kb
end
