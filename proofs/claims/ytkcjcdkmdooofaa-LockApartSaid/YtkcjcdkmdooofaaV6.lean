/- Packed by shake.py: YtkcjcdkmdooofaaA7 YtkcjcdkmdooofaaLK8 YtkcjcdkmdooofaaLK9 YtkcjcdkmdooofaaQ11 YtkcjcdkmdooofaaQ24 YtkcjcdkmdooofaaQ25 YtkcjcdkmdooofaaQe37 YtkcjcdkmdooofaaQ22 -/
import Derived.Test.YtkcjcdkmdooofaaV5
set_option linter.unusedSectionVars false
section
namespace Go.Proofs.Lk
set_option linter.unusedVariables false
set_option linter.unusedSimpArgs false
set_option linter.unusedSectionVars false
section
variable {α : Type} [DecidableEq α]
def waitAt (r : LRow) (x : Int) : Option (Nat × One) := (r.waits.findIdx? fun o => o.1 == x).bind fun i => (r.waits[i]?).map fun o => (i, o)
def blockS (srt : List Int → List Int) (s : LS α) (x : Int) : List Int := match s.waits x with
  | none => []
  | some t => match waitAt (s.rows t) x with
    | none => []
    | some (i, o) => srt (rawB (s.rows t) o i)
variable {hadd : List α → α → List α} {fits : α → Bool} (ha : ∀ ls x y, y ∈ hadd ls x ↔ y = x ∨ y ∈ ls) {srt : List Int → List Int} (hs : ∀ l x, x ∈ srt l ↔ x ∈ l)
include hs
end
end Go.Proofs.Lk
end
section
namespace Go.Proofs.Kb
open Go Go.RowKit Go.Proofs.Ytkcjcdkmdooofaa.Q Go.Proofs.YtkcjcdkmdooofaaW.PrintWords Go.Proofs.YtkcjcdkmdooofaaW.PrintLast Go.Proofs.YtkcjcdkmdooofaaW.PrintMore
set_option linter.unusedVariables false
set_option linter.unusedSimpArgs false
set_option maxRecDepth 100000
open Go.Proofs.Lk Go.Proofs.Mp
def Blockers16 (w : World) (F : Nat → Prop) (M : LM) (s : LS S29) (x : Int) (E : Ending) (w' : World) : Prop :=
  ∃ M' v, E = .returned v ∧ Rep M' s ∧ M'.lp = M.lp ∧ M'.tot ≤ M.tot + 10 ∧ St w F w' (lk M' ++ [rowIC v (blockS srtI s x)])
set_option maxHeartbeats 4000000 in
theorem lblockers_calls (w : World) (M : LM) (s : LS S29) (x : Int) (F : Nat → Prop) (N : Nat) (hs : St w F w (lk M)) (hr : Rep M s) (hI : LInv s) (hx : wfI x) (hok : OkS N s) (hn : M.tot < 4000000000000000000) :
    Calls Try.prog 16 #[lpV M, .int .i64 x] w (Blockers16 w F M s x) := by
  obtain ⟨R, hR⟩ : ∃ R, Blockers16 w F M s x = R := ⟨_, rfl⟩
  have HR := Aside0.mk hR
  rw [hR]
  have hu55 := Try.underlying55
  have hu56 := Try.underlying56
  have hu59 := Try.underlying59
  have hu64 := Try.underlying64
  have hu62 := Try.underlying62
  have hu66 := Try.underlying66
  have hu29 := Try.underlying29
  have hz29 := Try.sizeOf29
  obtain ⟨c0, c1, c2, hlp⟩ := hs.lpAt 0 rfl
  have hlk := lookW (R := []) hs hr hx
  unfold lpV
  cases hw : s.waits x with
  | none =>
    rw [hw] at hlk
    simp only [Option.map, Option.getD, Option.isSome] at hlk
    have HS := Aside0.mk (hs.alloc #[.int .i64 0, .string ⟨#[]⟩, .string ⟨#[]⟩] 29 rfl)
    have HREP := Aside0.mk hr
    have HW := Aside0.mk hw
    clear hR hs hr hI hx hok hn hw
    go_enter Try.func16, Try.ntmps16
    go_wp2
    all_goals (first | (rw [← HR.out]) | (go_ret; rw [← HR.out]))
    have e : blockS srtI s x = [] := by unfold blockS; rw [HW.out]
    refine ⟨M, .slice none 0 0, rfl, HREP.out, rfl, by omega, ?_⟩
    rw [e]
    have h1 := St.fresh (St.left (A := lk M) HS.out) (Below.refl _ _) (rowIC (.slice none 0 0) []) RowX.nil (nd_bl (.slice none 0 0)) (fun b hb => by simp [rowXC, bl] at hb; cases hb)
    exact h1.perm (perm_ix _ [1, 2, 3, 4, 5, 6, 0] 7 rfl (by decide))
  | some t =>
    rw [hw] at hlk
    simp only [Option.map, Option.getD, Option.isSome, thgV] at hlk
    have htw := hok.wt x t hw
    obtain ⟨r0, hr0⟩ : ∃ r0, s.rows t = r0 := ⟨_, rfl⟩
    have hok0 : OkR r0 := hr0 ▸ hok.rows t
    have hha : has r0.waits x = true := hr0 ▸ (hI.ww x t).1 hw
    obtain ⟨i, hfi⟩ : ∃ i, r0.waits.findIdx? (isT x) = some i := by
      cases hc : r0.waits.findIdx? (isT x) with
      | some i => exact ⟨i, rfl⟩
      | none =>
        have := (idx_neg r0.waits x).1 (by unfold idxI; rw [hc]; decide)
        rw [this] at hha
        cases hha
    have hil := (List.findIdx?_eq_some_iff_getElem.1 hfi).1
    have hij : idxI r0.waits (isT x) = i := by unfold idxI; rw [hfi]
    obtain ⟨⟨a, b⟩, ho⟩ : ∃ o, r0.waits[i]? = some o := ⟨_, List.getElem?_eq_getElem hil⟩
    have hbl : blockS srtI s x = srtI (rawB r0 (a, b) i) := by
      unfold blockS waitAt
      rw [hw]
      dsimp only
      rw [hr0]
      change (match (r0.waits.findIdx? (isT x)).bind fun i => (r0.waits[i]?).map fun o => (i, o) with | none => [] | some (i, o) => srtI (rawB r0 o i)) = _
      rw [hfi]
      dsimp only [Option.bind]
      rw [ho]
      rfl
    have hile : i ≤ r0.waits.length := by omega
    obtain ⟨nw, hnw⟩ : ∃ n, r0.waits.length = n := ⟨_, rfl⟩
    rw [hnw] at hil
    have hi0 : (0 : Int) ≤ (i : Int) := by omega
    have hi1 : (i : Int) < (nw : Int) := by omega
    have hi9 : (i : Int) ≤ 1000000 := by have := hok0.len; omega
    obtain ⟨n0, hn0⟩ : ∃ n, w.heap.size = n := ⟨_, rfl⟩
    have hs0 := hs.alloc #[.int .i64 t.f0, .string t.f1, .string t.f2] 29 hn0
    obtain ⟨W0, hW0⟩ : ∃ W0, w.alloc (.cells #[.int .i64 t.f0, .string t.f1, .string t.f2] 29) = W0 := ⟨_, rfl⟩
    rw [hW0] at hs0
    have g0 := (blk_cell (hs0.blk 6 rfl) 0).trans rfl
    have g1 := (blk_cell (hs0.blk 6 rfl) 1).trans rfl
    have g2 := (blk_cell (hs0.blk 6 rfl) 2).trans rfl
    have h05 := lt_of_some (hs0.blk 6 rfl)
    have A28 := Aside0.mk (row_fr (t := t) hs0 hr htw (by simp only [LM.tot] at *; simp only [maxLen]; omega))
    unfold lpV thgV at A28
    have A29 := Aside0.mk (fun W p hv wv (h : RowH W p hv wv r0) => wait_calls W p hv wv r0 x h (by have := hok0.len; omega))
    rw [hij] at A29
    have A30 := Aside0.mk (fun W p hv wv (h : RowH W p hv wv r0) => blockers_calls W p hv wv r0 (a, b) i h hile (by have := hok0.len; omega))
    unfold ptr at A29
    unfold ptr oneV at A30
    have HBL := Aside0.mk hbl
    have HIL := Aside0.mk hil
    have HNW := Aside0.mk hnw
    have HR0 := Aside0.mk hr0
    have HO := Aside0.mk ho
    have G1 : True := trivial
    have G2 : True := trivial
    clear hR hs hr hI hx hok hok0 hr0 hnw hn hw htw hha hfi hil hij ho hbl hile hs0
    go_enter Try.func16, Try.ntmps16
    go_wp2_with (first
      | (clear G1; go_at_call 28; refine A28.out.mono ?_; rintro E w2 ⟨M1, X, m, Y, rfl, k1, k2, k3, k4, k5, k6⟩; have HE := Aside0.mk k1; have HREP1 := Aside0.mk k3; have HLP := Aside0.mk k4; have HTOT := Aside0.mk k5; have HS1 := Aside0.mk k6; have hrow : RowH w2 m.p m.hv m.wv m.r := ((k6.get 4 rfl : ∀ y ∈ M1.rs, RowH w2 y.p y.hv y.wv y.r) m (k1 ▸ mem_mid.2 (.inl rfl))); have hmr : m.r = r0 := ((k2 ▸ k3.rr m (k1 ▸ mem_mid.2 (.inl rfl)) : m.r = s.rows t).trans HR0.out); rw [hmr] at hrow; have HROW := Aside0.mk hrow; clear hrow hmr k1 k2 k3 k4 k5 k6 c0 c1 c2 hlp g0 g1 g2 h05 hlk A28; unfold ptr)
      | (clear G2; go_at_call 29; refine (A29.out _ _ _ _ HROW.out).mono ?_; rintro E w3 ⟨rfl, hb⟩; have HS2 := Aside0.mk (HS1.out.below hb); have hrow := HROW.out.below hb; clear hb HS1; obtain ⟨g, c, hwv, _⟩ := (show RowX oneE _ m.wv r0.waits from hrow.waits).fill (by have := HIL.out; rw [HNW.out]; omega); rw [hwv, HNW.out] at hrow; have hr1 := hrow.c1; have hpl := World.block_lt_of_cell? _ _ hr1; obtain ⟨d0, d1⟩ := (show RowX oneE _ (.slice (some ⟨g, 0, none⟩) nw c) r0.waits from hrow.waits).ones HO.out; have hgl := World.block_lt_of_cell? _ _ d0; have HROW2 := Aside0.mk hrow; clear hrow hwv)
      | (go_at_call 30; refine (A30.out _ _ _ _ HROW2.out).mono ?_; rintro E w4 ⟨v, rfl, k⟩; have HS3 := Aside0.mk (St.call0 HS2.out k); clear k d0 d1 hr1 hpl hgl))
    rw [← HR.out]
    refine ⟨M1, v, rfl, HREP1.out, HLP.out, by have := HTOT.out; omega, ?_⟩
    rw [HBL.out]
    have h1 := HS3.out.perm (B := lk M1 ++ [rowIC v (srtI (rawB r0 (a, b) i))] ++ [_]) (perm_ix _ [1, 2, 3, 4, 5, 6, 0, 7] 8 rfl (by decide))
    exact St.left (A := lk M1 ++ [rowIC v _]) h1
def modeD (s : LS S29) (x : Int) (t : S29) : Int := (modeOf (s.rows t) x).getD 0
set_option maxHeartbeats 4000000 in
theorem mode_calls (w : World) (M : LM) (s : LS S29) (x : Int) (t : S29) (F : Nat → Prop) (N : Nat) (hs : St w F w (lk M)) (hr : Rep M s) (ht : wfT t) (hok : OkS N s) :
    Calls Try.prog 19 #[lpV M, .int .i64 x, thgV t] w fun E w' => E = .returned (.int .i64 (modeD s x t)) ∧ St w F w' (lk M) := by
  obtain ⟨D, hD⟩ : ∃ D, modeD s x t = D := ⟨_, rfl⟩
  rw [hD]
  obtain ⟨R, hR⟩ : ∃ R, (fun E w' => E = Ending.returned (.int .i64 D) ∧ St w F w' (lk M)) = R := ⟨_, rfl⟩
  have HR := Aside0.mk hR
  rw [hR]
  have hu55 := Try.underlying55
  have hu59 := Try.underlying59
  have hu64 := Try.underlying64
  have hu62 := Try.underlying62
  have hu66 := Try.underlying66
  have hu29 := Try.underlying29
  have HD := Aside0.mk hD
  obtain ⟨n0, hn0⟩ : ∃ n, w.heap.size = n := ⟨_, rfl⟩
  obtain ⟨W0, hW0⟩ : ∃ W0, w.alloc (.cells #[.int .i64 t.f0, .string t.f1, .string t.f2] 29) = W0 := ⟨_, rfl⟩
  have HS0 := Aside0.mk (hs.alloc #[.int .i64 t.f0, .string t.f1, .string t.f2] 29 hn0)
  rw [hW0] at HS0
  have HREP := Aside0.mk hr
  have HT := Aside0.mk (show K29.wf t from ht)
  have HOK := Aside0.mk (hok.rows t)
  clear hR hs hr ht hok hD
  cases hf : rowsF M.rs t with
  | none =>
    have HF := Aside0.mk hf
    have e : D = 0 := by
      rw [← HD.out]
      unfold modeD
      rw [HREP.out.ro t (assoc_none.1 hf)]
      rfl
    subst e
    clear hf
    unfold lpV thgV
    show Calls Try.prog 19 #[.pointer (some ⟨M.lp, 0, none⟩), .int .i64 x, .agg #[.int .i64 t.f0, .string t.f1, .string t.f2]] w R
    go_enter Try.func19, Try.ntmps19
    go_wp2
    refine start_ (n := 11) (S := fun w' => w'.cell? ⟨M.lp, 0, none⟩ = some (.map (some M.b1)) ∧ MapV K29 w' M.b1 M.n1 (rowsF M.rs) ∧ w'.cell? ⟨n0, 0, none⟩ = some (.int .i64 t.f0) ∧ w'.cell? ⟨n0, 1, none⟩ = some (.string t.f1) ∧ w'.cell? ⟨n0, 2, none⟩ = some (.string t.f2)) (ds := []) #[false, false, false, false, false, false, false, false, false, false, false] (by kernel_rfl) rfl rfl ⟨(HS0.out.lpAt 0 rfl).1, HS0.out.mapAt 1 rfl, (blk_cell (HS0.out.blk 6 rfl) 0).trans rfl, (blk_cell (HS0.out.blk 6 rfl) 1).trans rfl, (blk_cell (HS0.out.blk 6 rfl) 2).trans rfl⟩ (fun hHeld => ?_)
    have HS1 := Aside0.mk (HS0.out.drew)
    clear HS0
    generalize W0.drew = w1 at HS1 hHeld  ⊢
    refine pure_ (i := 0) (N := (some 11)) (v := ?_) (a' := ?_) #[true, false, false, false, false, false, false, false, false, false, false] rfl rfl (by kernel_rfl) (fun _ _ _ h => h) (Or.inl ⟨by rfl, ?_⟩) ?_ ?_
    rotate_left
    · intro w'
      go_simp
      with_reducible rfl
    rotate_left
    · simp only [Act.put, List.setIfInBounds_toArray, List.set_cons_zero, List.set_cons_succ, i64_w, i32_w]
      rfl
    refine pure_ (i := 1) (N := (some 12)) (v := ?_) (a' := ?_) #[true, true, false, false, false, false, false, false, false, false, false] rfl rfl (by kernel_rfl) (fun _ _ _ h => h) (Or.inl ⟨by rfl, ?_⟩) ?_ ?_
    rotate_left
    · intro w'
      go_simp
      with_reducible rfl
    rotate_left
    · simp only [Act.put, List.setIfInBounds_toArray, List.set_cons_zero, List.set_cons_succ, i64_w, i32_w]
      rfl
    refine pure_ (i := 2) (N := (some 13)) (v := ?_) (a' := ?_) #[true, true, true, false, false, false, false, false, false, false, false] rfl rfl (by kernel_rfl) (fun _ _ _ h => h) (Or.inl ⟨by rfl, ?_⟩) ?_ ?_
    rotate_left
    · intro w'
      go_simp
      with_reducible rfl
    rotate_left
    · simp only [Act.put, List.setIfInBounds_toArray, List.set_cons_zero, List.set_cons_succ, i64_w, i32_w]
      rfl
    refine take_ (i := 3) (N := (some 14)) (v := ?_) (a' := ?_) #[true, true, true, true, false, false, false, false, false, false, false] rfl rfl (by kernel_rfl) (fun _ _ _ h => h) (Or.inl ⟨by rfl, ?_⟩) hHeld ?_ ?_
    rotate_left
    · rintro w' ⟨s0, s1, s2, s3, s4⟩
      go_simp
      with_reducible rfl
    rotate_left
    · simp only [Act.put, List.setIfInBounds_toArray, List.set_cons_zero, List.set_cons_succ, i64_w, i32_w]
      rfl
    refine take_ (i := 4) (N := (some 15)) (v := ?_) (a' := ?_) #[true, true, true, true, true, false, false, false, false, false, false] rfl rfl (by kernel_rfl) (fun _ _ _ h => h) (Or.inl ⟨by rfl, ?_⟩) hHeld ?_ ?_
    rotate_left
    · rintro w' ⟨s0, s1, s2, s3, s4⟩
      go_simp
      with_reducible rfl
    rotate_left
    · simp only [Act.put, List.setIfInBounds_toArray, List.set_cons_zero, List.set_cons_succ, i64_w, i32_w]
      rfl
    refine take_ (i := 5) (N := (some 16)) (v := ?_) (a' := ?_) #[true, true, true, true, true, true, false, false, false, false, false] rfl rfl (by kernel_rfl) (fun _ _ _ h => h) (Or.inl ⟨by rfl, ?_⟩) hHeld ?_ ?_
    rotate_left
    · rintro w' ⟨s0, s1, s2, s3, s4⟩
      have hlk := s1.lookup2 Try.underlying55 (zero60 w') HT.out
      rw [HF.out] at hlk
      simp only [K29, thgV, Option.getD, Option.isSome, ptr] at hlk
      go_simp
      with_reducible rfl
    rotate_left
    · simp only [Act.put, List.setIfInBounds_toArray, List.set_cons_zero, List.set_cons_succ, i64_w, i32_w]
      rfl
    refine pure_ (i := 6) (N := (some 10)) (v := ?_) (a' := ?_) #[true, true, true, true, true, true, true, false, false, false, false] rfl rfl (by kernel_rfl) (fun _ _ _ h => h) (Or.inl ⟨by rfl, ?_⟩) ?_ ?_
    rotate_left
    · intro w'
      go_simp
      with_reducible rfl
    rotate_left
    · simp only [Act.put, List.setIfInBounds_toArray, List.set_cons_zero, List.set_cons_succ, i64_w, i32_w]
      rfl
    refine pure_ (i := 7) (N := (some 17)) (v := ?_) (a' := ?_) #[true, true, true, true, true, true, true, true, false, false, false] rfl rfl (by kernel_rfl) (fun _ _ _ h => h) (Or.inl ⟨by rfl, ?_⟩) ?_ ?_
    rotate_left
    · intro w'
      go_simp
      with_reducible rfl
    rotate_left
    · simp only [Act.put, List.setIfInBounds_toArray, List.set_cons_zero, List.set_cons_succ, i64_w, i32_w]
      rfl
    refine pure_ (i := 8) (N := (some 18)) (v := ?_) (a' := ?_) #[true, true, true, true, true, true, true, true, true, false, false] rfl rfl (by kernel_rfl) (fun _ _ _ h => h) (Or.inl ⟨by rfl, ?_⟩) ?_ ?_
    rotate_left
    · intro w'
      go_simp
      with_reducible rfl
    rotate_left
    · simp only [Act.put, List.setIfInBounds_toArray, List.set_cons_zero, List.set_cons_succ, i64_w, i32_w]
      rfl
    refine pure_ (i := 9) (N := (some 7)) (v := ?_) (a' := ?_) #[true, true, true, true, true, true, true, true, true, true, false] rfl rfl (by kernel_rfl) (fun _ _ _ h => h) (Or.inl ⟨by rfl, ?_⟩) ?_ ?_
    rotate_left
    · intro w'
      go_simp
      with_reducible rfl
    rotate_left
    · simp only [Act.put, List.setIfInBounds_toArray, List.set_cons_zero, List.set_cons_succ, i64_w, i32_w]
      rfl
    refine pure_ (i := 10) (N := (some 8)) (v := ?_) (a' := ?_) #[true, true, true, true, true, true, true, true, true, true, true] rfl rfl (by kernel_rfl) (fun _ _ _ h => h) (Or.inl ⟨by rfl, ?_⟩) ?_ ?_
    rotate_left
    · intro w'
      go_simp
      with_reducible rfl
    rotate_left
    · simp only [Act.put, List.setIfInBounds_toArray, List.set_cons_zero, List.set_cons_succ, i64_w, i32_w]
      rfl
    refine done_ (by kernel_rfl) ?_
    go_wp2
    rw [← HR.out]
    exact ⟨rfl, St.left (A := lk M) HS1.out⟩
  | some u =>
    obtain ⟨X, m, Y, e, hmt, rfl⟩ := assoc_some hf
    have HF := Aside0.mk hf
    have hmr : m.r = s.rows t := hmt ▸ HREP.out.rr m (e ▸ mem_mid.2 (.inl rfl))
    obtain ⟨r0, hr0⟩ : ∃ r0, s.rows t = r0 := ⟨_, rfl⟩
    rw [hr0] at hmr
    rw [hr0] at HOK
    have hrow : ∀ {W : World} {L : List Chunk}, St w F W (lk M ++ L) → RowH W m.p m.hv m.wv r0 := fun h => hmr ▸ ((h.get 4 rfl : ∀ y ∈ M.rs, RowH _ y.p y.hv y.wv y.r) m (e ▸ mem_mid.2 (.inl rfl)))
    have A33 := Aside0.mk (fun W hv wv (h : RowH W m.p hv wv r0) => hold_calls W m.p hv wv r0 x h (by have := HOK.out.len; omega))
    unfold ptr at A33
    have HROW := Aside0.mk @hrow
    have hde : D = (modeOf r0 x).getD 0 := by rw [← HD.out, ← hr0]; rfl
    clear hf e hmt hmr hrow
    cases hmo : modeOf r0 x with
    | none =>
      rw [hmo] at hde
      have e0 : D = 0 := hde
      subst e0
      have hij : idxI r0.holds (isT x) = -1 := by unfold idxI; rw [modeOf_none hmo]
      rw [hij] at A33
      clear hmo hij hde
      unfold lpV thgV
      show Calls Try.prog 19 #[.pointer (some ⟨M.lp, 0, none⟩), .int .i64 x, .agg #[.int .i64 t.f0, .string t.f1, .string t.f2]] w R
      go_enter Try.func19, Try.ntmps19
      go_wp2
      refine start_ (n := 11) (S := fun w' => w'.cell? ⟨M.lp, 0, none⟩ = some (.map (some M.b1)) ∧ MapV K29 w' M.b1 M.n1 (rowsF M.rs) ∧ w'.cell? ⟨n0, 0, none⟩ = some (.int .i64 t.f0) ∧ w'.cell? ⟨n0, 1, none⟩ = some (.string t.f1) ∧ w'.cell? ⟨n0, 2, none⟩ = some (.string t.f2)) (ds := []) #[false, false, false, false, false, false, false, false, false, false, false] (by kernel_rfl) rfl rfl ⟨(HS0.out.lpAt 0 rfl).1, HS0.out.mapAt 1 rfl, (blk_cell (HS0.out.blk 6 rfl) 0).trans rfl, (blk_cell (HS0.out.blk 6 rfl) 1).trans rfl, (blk_cell (HS0.out.blk 6 rfl) 2).trans rfl⟩ (fun hHeld => ?_)
      have HS1 := Aside0.mk (HS0.out.drew)
      clear HS0
      generalize W0.drew = w1 at HS1 hHeld  ⊢
      refine pure_ (i := 0) (N := (some 11)) (v := ?_) (a' := ?_) #[true, false, false, false, false, false, false, false, false, false, false] rfl rfl (by kernel_rfl) (fun _ _ _ h => h) (Or.inl ⟨by rfl, ?_⟩) ?_ ?_
      rotate_left
      · intro w'
        go_simp
        with_reducible rfl
      rotate_left
      · simp only [Act.put, List.setIfInBounds_toArray, List.set_cons_zero, List.set_cons_succ, i64_w, i32_w]
        rfl
      refine pure_ (i := 1) (N := (some 12)) (v := ?_) (a' := ?_) #[true, true, false, false, false, false, false, false, false, false, false] rfl rfl (by kernel_rfl) (fun _ _ _ h => h) (Or.inl ⟨by rfl, ?_⟩) ?_ ?_
      rotate_left
      · intro w'
        go_simp
        with_reducible rfl
      rotate_left
      · simp only [Act.put, List.setIfInBounds_toArray, List.set_cons_zero, List.set_cons_succ, i64_w, i32_w]
        rfl
      refine pure_ (i := 2) (N := (some 13)) (v := ?_) (a' := ?_) #[true, true, true, false, false, false, false, false, false, false, false] rfl rfl (by kernel_rfl) (fun _ _ _ h => h) (Or.inl ⟨by rfl, ?_⟩) ?_ ?_
      rotate_left
      · intro w'
        go_simp
        with_reducible rfl
      rotate_left
      · simp only [Act.put, List.setIfInBounds_toArray, List.set_cons_zero, List.set_cons_succ, i64_w, i32_w]
        rfl
      refine take_ (i := 3) (N := (some 14)) (v := ?_) (a' := ?_) #[true, true, true, true, false, false, false, false, false, false, false] rfl rfl (by kernel_rfl) (fun _ _ _ h => h) (Or.inl ⟨by rfl, ?_⟩) hHeld ?_ ?_
      rotate_left
      · rintro w' ⟨s0, s1, s2, s3, s4⟩
        go_simp
        with_reducible rfl
      rotate_left
      · simp only [Act.put, List.setIfInBounds_toArray, List.set_cons_zero, List.set_cons_succ, i64_w, i32_w]
        rfl
      refine take_ (i := 4) (N := (some 15)) (v := ?_) (a' := ?_) #[true, true, true, true, true, false, false, false, false, false, false] rfl rfl (by kernel_rfl) (fun _ _ _ h => h) (Or.inl ⟨by rfl, ?_⟩) hHeld ?_ ?_
      rotate_left
      · rintro w' ⟨s0, s1, s2, s3, s4⟩
        go_simp
        with_reducible rfl
      rotate_left
      · simp only [Act.put, List.setIfInBounds_toArray, List.set_cons_zero, List.set_cons_succ, i64_w, i32_w]
        rfl
      refine take_ (i := 5) (N := (some 16)) (v := ?_) (a' := ?_) #[true, true, true, true, true, true, false, false, false, false, false] rfl rfl (by kernel_rfl) (fun _ _ _ h => h) (Or.inl ⟨by rfl, ?_⟩) hHeld ?_ ?_
      rotate_left
      · rintro w' ⟨s0, s1, s2, s3, s4⟩
        have hlk := s1.lookup2 Try.underlying55 (zero60 w') HT.out
        rw [HF.out] at hlk
        simp only [K29, thgV, Option.getD, Option.isSome, ptr] at hlk
        go_simp
        with_reducible rfl
      rotate_left
      · simp only [Act.put, List.setIfInBounds_toArray, List.set_cons_zero, List.set_cons_succ, i64_w, i32_w]
        rfl
      refine pure_ (i := 6) (N := (some 10)) (v := ?_) (a' := ?_) #[true, true, true, true, true, true, true, false, false, false, false] rfl rfl (by kernel_rfl) (fun _ _ _ h => h) (Or.inl ⟨by rfl, ?_⟩) ?_ ?_
      rotate_left
      · intro w'
        go_simp
        with_reducible rfl
      rotate_left
      · simp only [Act.put, List.setIfInBounds_toArray, List.set_cons_zero, List.set_cons_succ, i64_w, i32_w]
        rfl
      refine pure_ (i := 7) (N := (some 17)) (v := ?_) (a' := ?_) #[true, true, true, true, true, true, true, true, false, false, false] rfl rfl (by kernel_rfl) (fun _ _ _ h => h) (Or.inl ⟨by rfl, ?_⟩) ?_ ?_
      rotate_left
      · intro w'
        go_simp
        with_reducible rfl
      rotate_left
      · simp only [Act.put, List.setIfInBounds_toArray, List.set_cons_zero, List.set_cons_succ, i64_w, i32_w]
        rfl
      refine pure_ (i := 8) (N := (some 18)) (v := ?_) (a' := ?_) #[true, true, true, true, true, true, true, true, true, false, false] rfl rfl (by kernel_rfl) (fun _ _ _ h => h) (Or.inl ⟨by rfl, ?_⟩) ?_ ?_
      rotate_left
      · intro w'
        go_simp
        with_reducible rfl
      rotate_left
      · simp only [Act.put, List.setIfInBounds_toArray, List.set_cons_zero, List.set_cons_succ, i64_w, i32_w]
        rfl
      refine pure_ (i := 9) (N := (some 7)) (v := ?_) (a' := ?_) #[true, true, true, true, true, true, true, true, true, true, false] rfl rfl (by kernel_rfl) (fun _ _ _ h => h) (Or.inl ⟨by rfl, ?_⟩) ?_ ?_
      rotate_left
      · intro w'
        go_simp
        with_reducible rfl
      rotate_left
      · simp only [Act.put, List.setIfInBounds_toArray, List.set_cons_zero, List.set_cons_succ, i64_w, i32_w]
        rfl
      refine pure_ (i := 10) (N := (some 8)) (v := ?_) (a' := ?_) #[true, true, true, true, true, true, true, true, true, true, true] rfl rfl (by kernel_rfl) (fun _ _ _ h => h) (Or.inl ⟨by rfl, ?_⟩) ?_ ?_
      rotate_left
      · intro w'
        go_simp
        with_reducible rfl
      rotate_left
      · simp only [Act.put, List.setIfInBounds_toArray, List.set_cons_zero, List.set_cons_succ, i64_w, i32_w]
        rfl
      refine done_ (by kernel_rfl) ?_
      clear hHeld
      go_wp2_with (go_at_call 33; refine (A33.out _ _ _ (HROW.out HS1.out)).mono ?_; rintro E w2 ⟨rfl, hb⟩; have HS2 := Aside0.mk (HS1.out.below hb); clear hb)
      rw [← HR.out]
      exact ⟨rfl, St.left (A := lk M) HS2.out⟩
    | some h =>
      rw [hmo] at hde
      have e0 : D = h := hde
      subst e0
      obtain ⟨i, hf1, hf2⟩ := modeOf_some hmo
      have hij : idxI r0.holds (isT x) = i := by unfold idxI; rw [hf1]
      rw [hij] at A33
      have hil := (List.getElem?_eq_some_iff.1 hf2).1
      obtain ⟨nh, hnh⟩ : ∃ n, r0.holds.length = n := ⟨_, rfl⟩
      rw [hnh] at hil
      have hi0 : (0 : Int) ≤ (i : Int) := by omega
      have hi1 : (i : Int) < (nh : Int) := by omega
      have HNH := Aside0.mk hnh
      have HIL := Aside0.mk hil
      have HF2 := Aside0.mk hf2
      clear hmo hij hde hf1 hf2 hil hnh
      unfold lpV thgV
      show Calls Try.prog 19 #[.pointer (some ⟨M.lp, 0, none⟩), .int .i64 x, .agg #[.int .i64 t.f0, .string t.f1, .string t.f2]] w R
      go_enter Try.func19, Try.ntmps19
      go_wp2
      refine start_ (n := 11) (S := fun w' => w'.cell? ⟨M.lp, 0, none⟩ = some (.map (some M.b1)) ∧ MapV K29 w' M.b1 M.n1 (rowsF M.rs) ∧ w'.cell? ⟨n0, 0, none⟩ = some (.int .i64 t.f0) ∧ w'.cell? ⟨n0, 1, none⟩ = some (.string t.f1) ∧ w'.cell? ⟨n0, 2, none⟩ = some (.string t.f2)) (ds := []) #[false, false, false, false, false, false, false, false, false, false, false] (by kernel_rfl) rfl rfl ⟨(HS0.out.lpAt 0 rfl).1, HS0.out.mapAt 1 rfl, (blk_cell (HS0.out.blk 6 rfl) 0).trans rfl, (blk_cell (HS0.out.blk 6 rfl) 1).trans rfl, (blk_cell (HS0.out.blk 6 rfl) 2).trans rfl⟩ (fun hHeld => ?_)
      have HS1 := Aside0.mk (HS0.out.drew)
      clear HS0
      generalize W0.drew = w1 at HS1 hHeld  ⊢
      refine pure_ (i := 0) (N := (some 11)) (v := ?_) (a' := ?_) #[true, false, false, false, false, false, false, false, false, false, false] rfl rfl (by kernel_rfl) (fun _ _ _ h => h) (Or.inl ⟨by rfl, ?_⟩) ?_ ?_
      rotate_left
      · intro w'
        go_simp
        with_reducible rfl
      rotate_left
      · simp only [Act.put, List.setIfInBounds_toArray, List.set_cons_zero, List.set_cons_succ, i64_w, i32_w]
        rfl
      refine pure_ (i := 1) (N := (some 12)) (v := ?_) (a' := ?_) #[true, true, false, false, false, false, false, false, false, false, false] rfl rfl (by kernel_rfl) (fun _ _ _ h => h) (Or.inl ⟨by rfl, ?_⟩) ?_ ?_
      rotate_left
      · intro w'
        go_simp
        with_reducible rfl
      rotate_left
      · simp only [Act.put, List.setIfInBounds_toArray, List.set_cons_zero, List.set_cons_succ, i64_w, i32_w]
        rfl
      refine pure_ (i := 2) (N := (some 13)) (v := ?_) (a' := ?_) #[true, true, true, false, false, false, false, false, false, false, false] rfl rfl (by kernel_rfl) (fun _ _ _ h => h) (Or.inl ⟨by rfl, ?_⟩) ?_ ?_
      rotate_left
      · intro w'
        go_simp
        with_reducible rfl
      rotate_left
      · simp only [Act.put, List.setIfInBounds_toArray, List.set_cons_zero, List.set_cons_succ, i64_w, i32_w]
        rfl
      refine take_ (i := 3) (N := (some 14)) (v := ?_) (a' := ?_) #[true, true, true, true, false, false, false, false, false, false, false] rfl rfl (by kernel_rfl) (fun _ _ _ h => h) (Or.inl ⟨by rfl, ?_⟩) hHeld ?_ ?_
      rotate_left
      · rintro w' ⟨s0, s1, s2, s3, s4⟩
        go_simp
        with_reducible rfl
      rotate_left
      · simp only [Act.put, List.setIfInBounds_toArray, List.set_cons_zero, List.set_cons_succ, i64_w, i32_w]
        rfl
      refine take_ (i := 4) (N := (some 15)) (v := ?_) (a' := ?_) #[true, true, true, true, true, false, false, false, false, false, false] rfl rfl (by kernel_rfl) (fun _ _ _ h => h) (Or.inl ⟨by rfl, ?_⟩) hHeld ?_ ?_
      rotate_left
      · rintro w' ⟨s0, s1, s2, s3, s4⟩
        go_simp
        with_reducible rfl
      rotate_left
      · simp only [Act.put, List.setIfInBounds_toArray, List.set_cons_zero, List.set_cons_succ, i64_w, i32_w]
        rfl
      refine take_ (i := 5) (N := (some 16)) (v := ?_) (a' := ?_) #[true, true, true, true, true, true, false, false, false, false, false] rfl rfl (by kernel_rfl) (fun _ _ _ h => h) (Or.inl ⟨by rfl, ?_⟩) hHeld ?_ ?_
      rotate_left
      · rintro w' ⟨s0, s1, s2, s3, s4⟩
        have hlk := s1.lookup2 Try.underlying55 (zero60 w') HT.out
        rw [HF.out] at hlk
        simp only [K29, thgV, Option.getD, Option.isSome, ptr] at hlk
        go_simp
        with_reducible rfl
      rotate_left
      · simp only [Act.put, List.setIfInBounds_toArray, List.set_cons_zero, List.set_cons_succ, i64_w, i32_w]
        rfl
      refine pure_ (i := 6) (N := (some 10)) (v := ?_) (a' := ?_) #[true, true, true, true, true, true, true, false, false, false, false] rfl rfl (by kernel_rfl) (fun _ _ _ h => h) (Or.inl ⟨by rfl, ?_⟩) ?_ ?_
      rotate_left
      · intro w'
        go_simp
        with_reducible rfl
      rotate_left
      · simp only [Act.put, List.setIfInBounds_toArray, List.set_cons_zero, List.set_cons_succ, i64_w, i32_w]
        rfl
      refine pure_ (i := 7) (N := (some 17)) (v := ?_) (a' := ?_) #[true, true, true, true, true, true, true, true, false, false, false] rfl rfl (by kernel_rfl) (fun _ _ _ h => h) (Or.inl ⟨by rfl, ?_⟩) ?_ ?_
      rotate_left
      · intro w'
        go_simp
        with_reducible rfl
      rotate_left
      · simp only [Act.put, List.setIfInBounds_toArray, List.set_cons_zero, List.set_cons_succ, i64_w, i32_w]
        rfl
      refine pure_ (i := 8) (N := (some 18)) (v := ?_) (a' := ?_) #[true, true, true, true, true, true, true, true, true, false, false] rfl rfl (by kernel_rfl) (fun _ _ _ h => h) (Or.inl ⟨by rfl, ?_⟩) ?_ ?_
      rotate_left
      · intro w'
        go_simp
        with_reducible rfl
      rotate_left
      · simp only [Act.put, List.setIfInBounds_toArray, List.set_cons_zero, List.set_cons_succ, i64_w, i32_w]
        rfl
      refine pure_ (i := 9) (N := (some 7)) (v := ?_) (a' := ?_) #[true, true, true, true, true, true, true, true, true, true, false] rfl rfl (by kernel_rfl) (fun _ _ _ h => h) (Or.inl ⟨by rfl, ?_⟩) ?_ ?_
      rotate_left
      · intro w'
        go_simp
        with_reducible rfl
      rotate_left
      · simp only [Act.put, List.setIfInBounds_toArray, List.set_cons_zero, List.set_cons_succ, i64_w, i32_w]
        rfl
      refine pure_ (i := 10) (N := (some 8)) (v := ?_) (a' := ?_) #[true, true, true, true, true, true, true, true, true, true, true] rfl rfl (by kernel_rfl) (fun _ _ _ h => h) (Or.inl ⟨by rfl, ?_⟩) ?_ ?_
      rotate_left
      · intro w'
        go_simp
        with_reducible rfl
      rotate_left
      · simp only [Act.put, List.setIfInBounds_toArray, List.set_cons_zero, List.set_cons_succ, i64_w, i32_w]
        rfl
      refine done_ (by kernel_rfl) ?_
      clear hHeld
      go_wp2_with (go_at_call 33; refine (A33.out _ _ _ (HROW.out HS1.out)).mono ?_; rintro E w2 ⟨rfl, hb⟩; have hs2 := HS1.out.below hb; have HS2 := Aside0.mk hs2; have hrow := HROW.out hs2; clear hb; obtain ⟨g, c, hwv, _⟩ := (show RowX oneE _ m.hv r0.holds from hrow.holds).fill (by have := HIL.out; rw [HNH.out]; omega); rw [hwv, HNH.out] at hrow; have hr1 := hrow.c0; have hpl := World.block_lt_of_cell? _ _ hr1; obtain ⟨d0, d1⟩ := (show RowX oneE _ (.slice (some ⟨g, 0, none⟩) nh c) r0.holds from hrow.holds).ones HF2.out; have hgl := World.block_lt_of_cell? _ _ d0; clear hrow hwv hs2)
      rw [← HR.out]
      exact ⟨rfl, St.left (A := lk M) HS2.out⟩
end Go.Proofs.Kb
end
section
namespace Go.Proofs.Kb
open Go Go.RowKit Go.Proofs.Ytkcjcdkmdooofaa.Q Go.Proofs.YtkcjcdkmdooofaaW.PrintWords Go.Proofs.YtkcjcdkmdooofaaW.PrintLast Go.Proofs.YtkcjcdkmdooofaaW.PrintMore
set_option linter.unusedVariables false
set_option linter.unusedSimpArgs false
set_option maxRecDepth 100000
open Go.Proofs.Lk Go.Proofs.Mp
def heldE : EncT S37 := ⟨37, 3, fun h => [.int .i64 h.f0, .int .i64 h.f1, .bool h.f2], fun h => rfl, fun h u hu => by
  simp only [List.mem_cons, List.not_mem_nil, or_false] at hu
  rcases hu with rfl | rfl | rfl <;> rfl⟩
theorem held37_info : (Try.prog.info? 37).map (fun i => (i.zero, i.size, i.bytes)) = some (some (.agg #[.int .i64 0, .int .i64 0, .bool false]), 3, 24) := by kernel_rfl
noncomputable def heldI : InfoX Try.prog heldE 34 := Classical.choice (infoX_of Try.underlying34 held37_info (by simp [Value.cells, heldE]) (by decide) (by decide))
abbrev rowHC := rowXC heldE
theorem RowX.held {w : World} {g n c : Nat} {l : List S37} (h : RowX heldE w (.slice (some ⟨g, 0, none⟩) n c) l) {i : Nat} {x : S37} (hx : l[i]? = some x) :
    w.cell? ⟨g, i * 3, none⟩ = some (.int .i64 x.f0) ∧ w.cell? ⟨g, i * 3 + 1, none⟩ = some (.int .i64 x.f1) ∧ w.cell? ⟨g, i * 3 + 2, none⟩ = some (.bool x.f2) :=
  ⟨h.cell hx 0 (by decide) _ rfl, h.cell hx 1 (by decide) _ rfl, h.cell hx 2 (by decide) _ rfl⟩
def heldL (b : Bool) (l : List One) : List S37 := l.map fun o => ⟨o.1, o.2, b⟩
def stateL (r : LRow) : List S37 := heldL false r.holds ++ heldL true r.waits
theorem heldL_snoc {b : Bool} {l : List One} {i : Nat} {o : One} (h : l[i]? = some o) : heldL b (l.take (i + 1)) = heldL b (l.take i) ++ [⟨o.1, o.2, b⟩] := by
  unfold heldL
  rw [List.take_add_one, h]
  simp
def State14 (w : World) (F : Nat → Prop) (M : LM) (l : List S37) (E : Ending) (w' : World) : Prop := ∃ v, E = .returned v ∧ St w F w' (lk M ++ [rowHC v l])
set_option maxHeartbeats 4000000 in
theorem state_calls (w : World) (M : LM) (s : LS S29) (t : S29) (F : Nat → Prop) (N : Nat) (hs : St w F w (lk M)) (hr : Rep M s) (ht : wfT t) (hok : OkS N s) :
    Calls Try.prog 14 #[lpV M, thgV t] w (State14 w F M (stateL (s.rows t))) := by
  obtain ⟨r0, hr0⟩ : ∃ r0, s.rows t = r0 := ⟨_, rfl⟩
  rw [hr0]
  obtain ⟨R, hR⟩ : ∃ R, State14 w F M (stateL r0) = R := ⟨_, rfl⟩
  have HR := Aside0.mk hR
  rw [hR]
  have hu55 := Try.underlying55
  have hu59 := Try.underlying59
  have hu64 := Try.underlying64
  have hu62 := Try.underlying62
  have hu66 := Try.underlying66
  have hz66 := Try.sizeOf66
  have hu29 := Try.underlying29
  have hu37 := Try.underlying37
  have hu34 := Try.underlying34
  obtain ⟨n0, hn0⟩ : ∃ n, w.heap.size = n := ⟨_, rfl⟩
  obtain ⟨W0, hW0⟩ : ∃ W0, w.alloc (.cells #[.int .i64 t.f0, .string t.f1, .string t.f2] 29) = W0 := ⟨_, rfl⟩
  have HS0 := Aside0.mk (hs.alloc #[.int .i64 t.f0, .string t.f1, .string t.f2] 29 hn0)
  rw [hW0] at HS0
  have HREP := Aside0.mk hr
  have HT := Aside0.mk (show K29.wf t from ht)
  have hok0 := hok.rows t
  rw [hr0] at hok0
  have HOK := Aside0.mk hok0
  have HR0 := Aside0.mk hr0
  clear hR hs hr ht hok hr0 hok0
  cases hf : rowsF M.rs t with
  | none =>
    have HF := Aside0.mk hf
    have e : r0 = ⟨[], []⟩ := by
      rw [← HR0.out]
      exact HREP.out.ro t (assoc_none.1 hf)
    have HE := Aside0.mk e
    clear hf e
    unfold lpV thgV
    show Calls Try.prog 14 #[.pointer (some ⟨M.lp, 0, none⟩), .agg #[.int .i64 t.f0, .string t.f1, .string t.f2]] w R
    go_enter Try.func14, Try.ntmps14
    go_wp2
    refine start_ (n := 11) (S := fun w' => w'.cell? ⟨M.lp, 0, none⟩ = some (.map (some M.b1)) ∧ MapV K29 w' M.b1 M.n1 (rowsF M.rs) ∧ w'.cell? ⟨n0, 0, none⟩ = some (.int .i64 t.f0) ∧ w'.cell? ⟨n0, 1, none⟩ = some (.string t.f1) ∧ w'.cell? ⟨n0, 2, none⟩ = some (.string t.f2)) (ds := []) #[false, false, false, false, false, false, false, false, false, false, false] (by kernel_rfl) rfl rfl ⟨(HS0.out.lpAt 0 rfl).1, HS0.out.mapAt 1 rfl, (blk_cell (HS0.out.blk 6 rfl) 0).trans rfl, (blk_cell (HS0.out.blk 6 rfl) 1).trans rfl, (blk_cell (HS0.out.blk 6 rfl) 2).trans rfl⟩ (fun hHeld => ?_)
    have HS1 := Aside0.mk (HS0.out.drew)
    clear HS0
    generalize W0.drew = w1 at HS1 hHeld  ⊢
    refine pure_ (i := 0) (N := (some 13)) (v := ?_) (a' := ?_) #[true, false, false, false, false, false, false, false, false, false, false] rfl rfl (by kernel_rfl) (fun _ _ _ h => h) (Or.inl ⟨by rfl, ?_⟩) ?_ ?_
    rotate_left
    · intro w'
      go_simp
      with_reducible rfl
    rotate_left
    · simp only [Act.put, List.setIfInBounds_toArray, List.set_cons_zero, List.set_cons_succ, i64_w, i32_w]
      rfl
    refine pure_ (i := 1) (N := (some 14)) (v := ?_) (a' := ?_) #[true, true, false, false, false, false, false, false, false, false, false] rfl rfl (by kernel_rfl) (fun _ _ _ h => h) (Or.inl ⟨by rfl, ?_⟩) ?_ ?_
    rotate_left
    · intro w'
      go_simp
      with_reducible rfl
    rotate_left
    · simp only [Act.put, List.setIfInBounds_toArray, List.set_cons_zero, List.set_cons_succ, i64_w, i32_w]
      rfl
    refine pure_ (i := 2) (N := (some 15)) (v := ?_) (a' := ?_) #[true, true, true, false, false, false, false, false, false, false, false] rfl rfl (by kernel_rfl) (fun _ _ _ h => h) (Or.inl ⟨by rfl, ?_⟩) ?_ ?_
    rotate_left
    · intro w'
      go_simp
      with_reducible rfl
    rotate_left
    · simp only [Act.put, List.setIfInBounds_toArray, List.set_cons_zero, List.set_cons_succ, i64_w, i32_w]
      rfl
    refine take_ (i := 3) (N := (some 16)) (v := ?_) (a' := ?_) #[true, true, true, true, false, false, false, false, false, false, false] rfl rfl (by kernel_rfl) (fun _ _ _ h => h) (Or.inl ⟨by rfl, ?_⟩) hHeld ?_ ?_
    rotate_left
    · rintro w' ⟨s0, s1, s2, s3, s4⟩
      go_simp
      with_reducible rfl
    rotate_left
    · simp only [Act.put, List.setIfInBounds_toArray, List.set_cons_zero, List.set_cons_succ, i64_w, i32_w]
      rfl
    refine take_ (i := 4) (N := (some 17)) (v := ?_) (a' := ?_) #[true, true, true, true, true, false, false, false, false, false, false] rfl rfl (by kernel_rfl) (fun _ _ _ h => h) (Or.inl ⟨by rfl, ?_⟩) hHeld ?_ ?_
    rotate_left
    · rintro w' ⟨s0, s1, s2, s3, s4⟩
      go_simp
      with_reducible rfl
    rotate_left
    · simp only [Act.put, List.setIfInBounds_toArray, List.set_cons_zero, List.set_cons_succ, i64_w, i32_w]
      rfl
    refine take_ (i := 5) (N := (some 18)) (v := ?_) (a' := ?_) #[true, true, true, true, true, true, false, false, false, false, false] rfl rfl (by kernel_rfl) (fun _ _ _ h => h) (Or.inl ⟨by rfl, ?_⟩) hHeld ?_ ?_
    rotate_left
    · rintro w' ⟨s0, s1, s2, s3, s4⟩
      have hlk := s1.lookup2 Try.underlying55 (zero60 w') HT.out
      rw [HF.out] at hlk
      simp only [K29, thgV, Option.getD, Option.isSome, ptr] at hlk
      go_simp
      with_reducible rfl
    rotate_left
    · simp only [Act.put, List.setIfInBounds_toArray, List.set_cons_zero, List.set_cons_succ, i64_w, i32_w]
      rfl
    refine pure_ (i := 6) (N := (some 12)) (v := ?_) (a' := ?_) #[true, true, true, true, true, true, true, false, false, false, false] rfl rfl (by kernel_rfl) (fun _ _ _ h => h) (Or.inl ⟨by rfl, ?_⟩) ?_ ?_
    rotate_left
    · intro w'
      go_simp
      with_reducible rfl
    rotate_left
    · simp only [Act.put, List.setIfInBounds_toArray, List.set_cons_zero, List.set_cons_succ, i64_w, i32_w]
      rfl
    refine pure_ (i := 7) (N := (some 19)) (v := ?_) (a' := ?_) #[true, true, true, true, true, true, true, true, false, false, false] rfl rfl (by kernel_rfl) (fun _ _ _ h => h) (Or.inl ⟨by rfl, ?_⟩) ?_ ?_
    rotate_left
    · intro w'
      go_simp
      with_reducible rfl
    rotate_left
    · simp only [Act.put, List.setIfInBounds_toArray, List.set_cons_zero, List.set_cons_succ, i64_w, i32_w]
      rfl
    refine pure_ (i := 8) (N := (some 20)) (v := ?_) (a' := ?_) #[true, true, true, true, true, true, true, true, true, false, false] rfl rfl (by kernel_rfl) (fun _ _ _ h => h) (Or.inl ⟨by rfl, ?_⟩) ?_ ?_
    rotate_left
    · intro w'
      go_simp
      with_reducible rfl
    rotate_left
    · simp only [Act.put, List.setIfInBounds_toArray, List.set_cons_zero, List.set_cons_succ, i64_w, i32_w]
      rfl
    refine pure_ (i := 9) (N := (some 5)) (v := ?_) (a' := ?_) #[true, true, true, true, true, true, true, true, true, true, false] rfl rfl (by kernel_rfl) (fun _ _ _ h => h) (Or.inl ⟨by rfl, ?_⟩) ?_ ?_
    rotate_left
    · intro w'
      go_simp
      with_reducible rfl
    rotate_left
    · simp only [Act.put, List.setIfInBounds_toArray, List.set_cons_zero, List.set_cons_succ, i64_w, i32_w]
      rfl
    refine pure_ (i := 10) (N := (some 6)) (v := ?_) (a' := ?_) #[true, true, true, true, true, true, true, true, true, true, true] rfl rfl (by kernel_rfl) (fun _ _ _ h => h) (Or.inl ⟨by rfl, ?_⟩) ?_ ?_
    rotate_left
    · intro w'
      go_simp
      with_reducible rfl
    rotate_left
    · simp only [Act.put, List.setIfInBounds_toArray, List.set_cons_zero, List.set_cons_succ, i64_w, i32_w]
      rfl
    refine done_ (by kernel_rfl) ?_
    go_wp2
    rw [← HR.out, HE.out]
    have h1 := St.fresh (St.left (A := lk M) HS1.out) (Below.refl _ _) (rowHC (.slice none 0 0) []) RowX.nil (nd_bl (.slice none 0 0)) (fun b hb => by simp [rowXC, bl] at hb; cases hb)
    exact ⟨_, rfl, h1.perm (perm_ix _ [1, 2, 3, 4, 5, 6, 0] 7 rfl (by decide))⟩
  | some u =>
    obtain ⟨X, m, Y, e, hmt, rfl⟩ := assoc_some hf
    have HF := Aside0.mk hf
    have hmr : m.r = r0 := (hmt ▸ HREP.out.rr m (e ▸ mem_mid.2 (.inl rfl)) : m.r = s.rows t).trans HR0.out
    obtain ⟨Ah, ch, Aw, cw, hAH⟩ : ∃ Ah ch Aw cw, m.hv = .slice Ah r0.holds.length ch ∧ m.wv = .slice Aw r0.waits.length cw := by
      have h := ((HS0.out.get 4 rfl : ∀ y ∈ M.rs, RowH _ y.p y.hv y.wv y.r) m (e ▸ mem_mid.2 (.inl rfl)))
      rw [hmr] at h
      obtain ⟨A, c, h1⟩ := (show RowX oneE _ m.hv r0.holds from h.holds).form
      obtain ⟨A', c', h2⟩ := (show RowX oneE _ m.wv r0.waits from h.waits).form
      exact ⟨A, c, A', c', h1, h2⟩
    obtain ⟨nh, hnh⟩ : ∃ n, r0.holds.length = n := ⟨_, rfl⟩
    obtain ⟨nw, hnw⟩ : ∃ n, r0.waits.length = n := ⟨_, rfl⟩
    rw [hnh, hnw] at hAH
    have hrow : ∀ {W : World} {L : List Chunk}, St w F W (lk M ++ L) → RowH W m.p (.slice Ah nh ch) (.slice Aw nw cw) r0 := fun h => hAH.1 ▸ hAH.2 ▸ hmr ▸ ((h.get 4 rfl : ∀ y ∈ M.rs, RowH _ y.p y.hv y.wv y.r) m (e ▸ mem_mid.2 (.inl rfl)))
    have HROW := Aside0.mk @hrow
    have HNH := Aside0.mk hnh
    have HNW := Aside0.mk hnw
    have hbh : nh < 600 := by have := HOK.out.len; omega
    have hbw : nw < 600 := by have := HOK.out.len; omega
    clear hf e hmt hmr hrow hAH hnh hnw
    unfold lpV thgV
    show Calls Try.prog 14 #[.pointer (some ⟨M.lp, 0, none⟩), .agg #[.int .i64 t.f0, .string t.f1, .string t.f2]] w R
    go_enter Try.func14, Try.ntmps14
    go_wp2
    refine start_ (n := 11) (S := fun w' => w'.cell? ⟨M.lp, 0, none⟩ = some (.map (some M.b1)) ∧ MapV K29 w' M.b1 M.n1 (rowsF M.rs) ∧ w'.cell? ⟨n0, 0, none⟩ = some (.int .i64 t.f0) ∧ w'.cell? ⟨n0, 1, none⟩ = some (.string t.f1) ∧ w'.cell? ⟨n0, 2, none⟩ = some (.string t.f2)) (ds := []) #[false, false, false, false, false, false, false, false, false, false, false] (by kernel_rfl) rfl rfl ⟨(HS0.out.lpAt 0 rfl).1, HS0.out.mapAt 1 rfl, (blk_cell (HS0.out.blk 6 rfl) 0).trans rfl, (blk_cell (HS0.out.blk 6 rfl) 1).trans rfl, (blk_cell (HS0.out.blk 6 rfl) 2).trans rfl⟩ (fun hHeld => ?_)
    have HS1 := Aside0.mk (HS0.out.drew)
    clear HS0
    generalize W0.drew = w1 at HS1 hHeld  ⊢
    refine pure_ (i := 0) (N := (some 13)) (v := ?_) (a' := ?_) #[true, false, false, false, false, false, false, false, false, false, false] rfl rfl (by kernel_rfl) (fun _ _ _ h => h) (Or.inl ⟨by rfl, ?_⟩) ?_ ?_
    rotate_left
    · intro w'
      go_simp
      with_reducible rfl
    rotate_left
    · simp only [Act.put, List.setIfInBounds_toArray, List.set_cons_zero, List.set_cons_succ, i64_w, i32_w]
      rfl
    refine pure_ (i := 1) (N := (some 14)) (v := ?_) (a' := ?_) #[true, true, false, false, false, false, false, false, false, false, false] rfl rfl (by kernel_rfl) (fun _ _ _ h => h) (Or.inl ⟨by rfl, ?_⟩) ?_ ?_
    rotate_left
    · intro w'
      go_simp
      with_reducible rfl
    rotate_left
    · simp only [Act.put, List.setIfInBounds_toArray, List.set_cons_zero, List.set_cons_succ, i64_w, i32_w]
      rfl
    refine pure_ (i := 2) (N := (some 15)) (v := ?_) (a' := ?_) #[true, true, true, false, false, false, false, false, false, false, false] rfl rfl (by kernel_rfl) (fun _ _ _ h => h) (Or.inl ⟨by rfl, ?_⟩) ?_ ?_
    rotate_left
    · intro w'
      go_simp
      with_reducible rfl
    rotate_left
    · simp only [Act.put, List.setIfInBounds_toArray, List.set_cons_zero, List.set_cons_succ, i64_w, i32_w]
      rfl
    refine take_ (i := 3) (N := (some 16)) (v := ?_) (a' := ?_) #[true, true, true, true, false, false, false, false, false, false, false] rfl rfl (by kernel_rfl) (fun _ _ _ h => h) (Or.inl ⟨by rfl, ?_⟩) hHeld ?_ ?_
    rotate_left
    · rintro w' ⟨s0, s1, s2, s3, s4⟩
      go_simp
      with_reducible rfl
    rotate_left
    · simp only [Act.put, List.setIfInBounds_toArray, List.set_cons_zero, List.set_cons_succ, i64_w, i32_w]
      rfl
    refine take_ (i := 4) (N := (some 17)) (v := ?_) (a' := ?_) #[true, true, true, true, true, false, false, false, false, false, false] rfl rfl (by kernel_rfl) (fun _ _ _ h => h) (Or.inl ⟨by rfl, ?_⟩) hHeld ?_ ?_
    rotate_left
    · rintro w' ⟨s0, s1, s2, s3, s4⟩
      go_simp
      with_reducible rfl
    rotate_left
    · simp only [Act.put, List.setIfInBounds_toArray, List.set_cons_zero, List.set_cons_succ, i64_w, i32_w]
      rfl
    refine take_ (i := 5) (N := (some 18)) (v := ?_) (a' := ?_) #[true, true, true, true, true, true, false, false, false, false, false] rfl rfl (by kernel_rfl) (fun _ _ _ h => h) (Or.inl ⟨by rfl, ?_⟩) hHeld ?_ ?_
    rotate_left
    · rintro w' ⟨s0, s1, s2, s3, s4⟩
      have hlk := s1.lookup2 Try.underlying55 (zero60 w') HT.out
      rw [HF.out] at hlk
      simp only [K29, thgV, Option.getD, Option.isSome, ptr] at hlk
      go_simp
      with_reducible rfl
    rotate_left
    · simp only [Act.put, List.setIfInBounds_toArray, List.set_cons_zero, List.set_cons_succ, i64_w, i32_w]
      rfl
    refine pure_ (i := 6) (N := (some 12)) (v := ?_) (a' := ?_) #[true, true, true, true, true, true, true, false, false, false, false] rfl rfl (by kernel_rfl) (fun _ _ _ h => h) (Or.inl ⟨by rfl, ?_⟩) ?_ ?_
    rotate_left
    · intro w'
      go_simp
      with_reducible rfl
    rotate_left
    · simp only [Act.put, List.setIfInBounds_toArray, List.set_cons_zero, List.set_cons_succ, i64_w, i32_w]
      rfl
    refine pure_ (i := 7) (N := (some 19)) (v := ?_) (a' := ?_) #[true, true, true, true, true, true, true, true, false, false, false] rfl rfl (by kernel_rfl) (fun _ _ _ h => h) (Or.inl ⟨by rfl, ?_⟩) ?_ ?_
    rotate_left
    · intro w'
      go_simp
      with_reducible rfl
    rotate_left
    · simp only [Act.put, List.setIfInBounds_toArray, List.set_cons_zero, List.set_cons_succ, i64_w, i32_w]
      rfl
    refine pure_ (i := 8) (N := (some 20)) (v := ?_) (a' := ?_) #[true, true, true, true, true, true, true, true, true, false, false] rfl rfl (by kernel_rfl) (fun _ _ _ h => h) (Or.inl ⟨by rfl, ?_⟩) ?_ ?_
    rotate_left
    · intro w'
      go_simp
      with_reducible rfl
    rotate_left
    · simp only [Act.put, List.setIfInBounds_toArray, List.set_cons_zero, List.set_cons_succ, i64_w, i32_w]
      rfl
    refine pure_ (i := 9) (N := (some 5)) (v := ?_) (a' := ?_) #[true, true, true, true, true, true, true, true, true, true, false] rfl rfl (by kernel_rfl) (fun _ _ _ h => h) (Or.inl ⟨by rfl, ?_⟩) ?_ ?_
    rotate_left
    · intro w'
      go_simp
      with_reducible rfl
    rotate_left
    · simp only [Act.put, List.setIfInBounds_toArray, List.set_cons_zero, List.set_cons_succ, i64_w, i32_w]
      rfl
    refine pure_ (i := 10) (N := (some 6)) (v := ?_) (a' := ?_) #[true, true, true, true, true, true, true, true, true, true, true] rfl rfl (by kernel_rfl) (fun _ _ _ h => h) (Or.inl ⟨by rfl, ?_⟩) ?_ ?_
    rotate_left
    · intro w'
      go_simp
      with_reducible rfl
    rotate_left
    · simp only [Act.put, List.setIfInBounds_toArray, List.set_cons_zero, List.set_cons_succ, i64_w, i32_w]
      rfl
    refine done_ (by kernel_rfl) ?_
    clear hHeld
    have hrw := HROW.out HS1.out
    have c0 := hrw.c0
    have hpl := World.block_lt_of_cell? _ _ c0
    have HSA := Aside0.mk ((St.fresh (St.left (A := lk M) HS1.out) (Below.refl _ _) (rowHC (.slice none 0 0) []) RowX.nil (nd_bl (.slice none 0 0)) (fun b hb => by simp [rowXC, bl] at hb; cases hb)).perm (B := lk M ++ [rowHC (.slice none 0 0) []]) (perm_ix _ [1, 2, 3, 4, 5, 6, 0] 7 rfl (by decide)))
    clear hrw HS1
    go_wp2
    clear c0 hpl
    go_loopg [7, 9, 28] nh (fun gq v7 v9 v28 wx => ∃ (i : Nat) (A : Option Addr) (na c : Nat), v28 = .int .i64 i ∧ v7 = .slice A na c ∧ i + gq = nh ∧ Aside0 (na = i) ∧ Aside0 (St w F wx (lk M ++ [rowHC (.slice A na c) (heldL false (r0.holds.take i))])))
    case atStart => exact ⟨0, none, 0, 0, rfl, rfl, by omega, Aside0.mk rfl, HSA⟩
    case round =>
      clear HSA
      obtain ⟨i, A, na, c, rfl, rfl, hi, HNA, HS⟩ := hrel
      have hrw := HROW.out HS.out
      have c1 := hrw.c1
      have hpl := World.block_lt_of_cell? _ _ c1
      cases gk with
      | zero =>
        obtain rfl : i = nh := by omega
        have ht : r0.holds.take i = r0.holds := List.take_of_length_le (by rw [HNH.out]; exact Nat.le_refl _)
        rw [ht] at HS
        have HSB := Aside0.mk (show St w F wr (lk M ++ [rowHC (.slice A na c) (heldL false r0.holds ++ heldL true (r0.waits.take 0))]) by rw [List.take_zero]; show St w F wr (lk M ++ [rowHC (.slice A na c) (heldL false r0.holds ++ [])]); rw [List.append_nil]; exact HS.out)
        clear ht HS hrw
        go_wp2
        clear c1 hpl
        go_loopg [7, 11, 46] nw (fun gq v7 v11 v46 wx => ∃ (j : Nat) (A : Option Addr) (na c : Nat), v46 = .int .i64 j ∧ v7 = .slice A na c ∧ j + gq = nw ∧ Aside0 (na = i + j) ∧ Aside0 (St w F wx (lk M ++ [rowHC (.slice A na c) (heldL false r0.holds ++ heldL true (r0.waits.take j))])))
        case atStart => exact ⟨0, A, na, c, rfl, rfl, by omega, HNA, HSB⟩
        case round =>
          clear HSB
          obtain ⟨j, A, na, c, rfl, rfl, hj, HNA, HS⟩ := hrel
          cases gk with
          | zero =>
            obtain rfl : j = nw := by omega
            have ht : r0.waits.take j = r0.waits := List.take_of_length_le (by rw [HNW.out]; exact Nat.le_refl _)
            rw [ht] at HS
            clear ht
            go_wp2
            rw [← HR.out]
            exact ⟨_, rfl, HS.out⟩
          | succ gq =>
            have hin : j < nw := by omega
            have hin2 : (j : Int) < (nw : Int) := by omega
            have hi0 : (0 : Int) ≤ (j : Int) := by omega
            have hi9 : (j : Int) ≤ 1000000 := by omega
            obtain ⟨⟨a, b⟩, ho⟩ : ∃ o, r0.waits[j]? = some o := ⟨_, List.getElem?_eq_getElem (by rw [HNW.out]; exact hin)⟩
            have hrl : RowX oneE wr (.slice Aw nw cw) r0.waits := (HROW.out HS.out).waits
            obtain ⟨g1, c1, hv, _⟩ := row_slice hrl (by rw [HNW.out]; omega)
            obtain ⟨rfl, rfl⟩ : Aw = some ⟨g1, 0, none⟩ ∧ cw = c1 := by
              injection hv with e1 e2 e3
              exact ⟨e1, e3⟩
            obtain ⟨d0, d1⟩ := hrl.ones ho
            have hg1 : g1 < wr.heap.size := World.block_lt_of_cell? _ _ d0
            have HO := Aside0.mk ho
            have HSN := Aside0.mk (heldL_snoc (b := true) ho)
            have HLN := Aside0.mk (show (heldL false r0.holds ++ heldL true (r0.waits.take j)).length < 999999 by simp only [heldL, List.length_map, List.length_take, List.length_append]; have := HNH.out; have := HNW.out; omega)
            obtain ⟨n9, hn9⟩ : ∃ n, wr.heap.size = n := ⟨_, rfl⟩
            obtain ⟨W9, hW9⟩ : ∃ W, wr.alloc (.cells #[.int .i64 a, .int .i64 b] 66) = W := ⟨_, rfl⟩
            have hsa := HS.out.alloc #[.int .i64 a, .int .i64 b] 66 hn9
            rw [hW9] at hsa
            have f0 := (blk_cell (hsa.blk 7 rfl) 0).trans rfl
            have f1 := (blk_cell (hsa.blk 7 rfl) 1).trans rfl
            have f2 := lt_of_some (hsa.blk 7 rfl)
            obtain ⟨n10, hn10⟩ : ∃ n, W9.heap.size = n := ⟨_, rfl⟩
            have HSA := Aside0.mk (hsa.alloc #[.int .i64 a, .int .i64 b, .bool true] 37 hn10)
            clear ho hv hrl hsa
            go_wp2_with (at_builtin; obtain ⟨g2, c2, w6, hrun, hrow, hgrow, hown⟩ := appendX heldI (l := heldL false r0.holds ++ heldL true (r0.waits.take j)) (v := .slice A na c) ⟨a, b, true⟩ n10 #[.int .i64 a, .int .i64 b, .bool true] 34 (HSA.out.rowX 6 rfl) (HSA.out.blk 8 rfl) rfl HLN.out; have hs6 := HSA.out.rowTo 6 rfl hrow hgrow hown; obtain ⟨n2, hn2⟩ : ∃ n, (heldL false r0.holds ++ heldL true (r0.waits.take j)).length + 1 = n := ⟨_, rfl⟩; have hn3 : n2 = na + 1 := (by rw [← hn2]; simp only [heldL, List.length_map, List.length_take, List.length_append]; have := HNH.out; have := HNW.out; have := HNA.out; omega); rw [hn2, hn3] at hrun hs6; have HS6 := Aside0.mk hs6; refine wpList_append_run rfl (.tmp 50) (.tmp 56) 34 34 rfl _ _ rfl rfl hrun ?_; clear hrun hrow hgrow hown hs6 hn2 hn3 d0 d1 hg1 f0 f1 f2)
            go_roundg gq
            case measure => omega
            case rel => exact ⟨j + 1, some ⟨g2, 0, none⟩, na + 1, c2, by go_num, rfl, by omega, Aside0.mk (by have := HNA.out; omega), Aside0.mk (by rw [HSN.out, ← List.append_assoc]; exact St.left (A := lk M ++ [_]) HS6.out)⟩
      | succ gq =>
        clear c1 hpl hrw
        have hin : i < nh := by omega
        have hin2 : (i : Int) < (nh : Int) := by omega
        have hi0 : (0 : Int) ≤ (i : Int) := by omega
        have hi9 : (i : Int) ≤ 1000000 := by omega
        obtain ⟨⟨a, b⟩, ho⟩ : ∃ o, r0.holds[i]? = some o := ⟨_, List.getElem?_eq_getElem (by rw [HNH.out]; exact hin)⟩
        have hrl : RowX oneE wr (.slice Ah nh ch) r0.holds := (HROW.out HS.out).holds
        obtain ⟨g1, c1, hv, _⟩ := row_slice hrl (by rw [HNH.out]; omega)
        obtain ⟨rfl, rfl⟩ : Ah = some ⟨g1, 0, none⟩ ∧ ch = c1 := by
          injection hv with e1 e2 e3
          exact ⟨e1, e3⟩
        obtain ⟨d0, d1⟩ := hrl.ones ho
        have hg1 : g1 < wr.heap.size := World.block_lt_of_cell? _ _ d0
        have HO := Aside0.mk ho
        have HSN := Aside0.mk (heldL_snoc (b := false) ho)
        have HLN := Aside0.mk (show (heldL false (r0.holds.take i)).length < 999999 by simp only [heldL, List.length_map, List.length_take, List.length_append]; have := HNH.out; have := HNW.out; omega)
        obtain ⟨n9, hn9⟩ : ∃ n, wr.heap.size = n := ⟨_, rfl⟩
        obtain ⟨W9, hW9⟩ : ∃ W, wr.alloc (.cells #[.int .i64 a, .int .i64 b] 66) = W := ⟨_, rfl⟩
        have hsa := HS.out.alloc #[.int .i64 a, .int .i64 b] 66 hn9
        rw [hW9] at hsa
        have f0 := (blk_cell (hsa.blk 7 rfl) 0).trans rfl
        have f1 := (blk_cell (hsa.blk 7 rfl) 1).trans rfl
        have f2 := lt_of_some (hsa.blk 7 rfl)
        obtain ⟨n10, hn10⟩ : ∃ n, W9.heap.size = n := ⟨_, rfl⟩
        have HSA := Aside0.mk (hsa.alloc #[.int .i64 a, .int .i64 b, .bool false] 37 hn10)
        clear ho hv hrl hsa
        go_wp2_with (at_builtin; obtain ⟨g2, c2, w6, hrun, hrow, hgrow, hown⟩ := appendX heldI (l := heldL false (r0.holds.take i)) (v := .slice A na c) ⟨a, b, false⟩ n10 #[.int .i64 a, .int .i64 b, .bool false] 34 (HSA.out.rowX 6 rfl) (HSA.out.blk 8 rfl) rfl HLN.out; have hs6 := HSA.out.rowTo 6 rfl hrow hgrow hown; obtain ⟨n2, hn2⟩ : ∃ n, (heldL false (r0.holds.take i)).length + 1 = n := ⟨_, rfl⟩; have hn3 : n2 = na + 1 := (by rw [← hn2]; simp only [heldL, List.length_map, List.length_take, List.length_append]; have := HNH.out; have := HNW.out; have := HNA.out; omega); rw [hn2, hn3] at hrun hs6; have HS6 := Aside0.mk hs6; refine wpList_append_run rfl (.tmp 32) (.tmp 38) 34 34 rfl _ _ rfl rfl hrun ?_; clear hrun hrow hgrow hown hs6 hn2 hn3 d0 d1 hg1 f0 f1 f2)
        go_roundg gq
        case measure => omega
        case rel => exact ⟨i + 1, some ⟨g2, 0, none⟩, na + 1, c2, by go_num, rfl, by omega, Aside0.mk (by have := HNA.out; omega), Aside0.mk (by rw [HSN.out]; exact St.left (A := lk M ++ [_]) HS6.out)⟩
end Go.Proofs.Kb
end
section
namespace Go.Proofs.Ytkcjcdkmdooofaa.Q
open Go.RowKit Go.Proofs.YtkcjcdkmdooofaaW.PrintWords Go.Proofs.YtkcjcdkmdooofaaW.PrintLast Go.Proofs.YtkcjcdkmdooofaaW.PrintMore
attribute [local go_sem] max2_int min2_int max_two min_two max_three min_three max_four min_four
set_option linter.unusedVariables false
set_option linter.unusedSimpArgs false
def interlocklaw11_great.l0 : Nat → List (S33) → Int → Option (Bool)
  | 0, _, _ => none
  | k + 1, x0, x3 => if x3 < (x0.length : Int) then (if 0 ≤ x3 then (if (((rd_T33 x0 x3).f2.f0.f1).size : Int) > 100 then (some true) else (if (((rd_T33 x0 x3).f2.f0.f2).size : Int) > 100 then (some true) else (interlocklaw11_great.l0 k x0 (wrap64 (x3 + 1))))) else (none)) else (some false)
def interlocklaw11_great.f (k : Nat) (l0 : List (S33)) : Option (Bool) := if (l0.length : Int) > 120 then (some true) else (interlocklaw11_great.l0 k l0 0)
theorem interlocklaw11_great.mono_l : ∀ k, (∀ y0 y1, LeO (interlocklaw11_great.l0 k y0 y1) (interlocklaw11_great.l0 (k + 1) y0 y1))
  | 0 => fun _ _ r h => by simp [interlocklaw11_great.l0] at h
  | k + 1 => by
    have ih0 := interlocklaw11_great.mono_l k
    · intro y0 y1
      unfold interlocklaw11_great.l0
      repeat' first
      | (with_reducible exact ih0 _ _)
      | (with_reducible exact LeO.refl _)
      | (with_reducible exact LeO.none _)
      | (with_reducible refine LeO.ite ?_ ?_)
      | (with_reducible refine LeO.bind ?_ (fun _ => ?_))
      | exact ih0 _ _
      | exact LeO.none _
      | refine LeO.ite ?_ ?_
      | refine LeO.bind ?_ (fun _ => ?_)
theorem interlocklaw11_great.mono : ∀ a0 k, LeO (interlocklaw11_great.f k a0) (interlocklaw11_great.f (k + 1) a0) := by
  intro a0 k
  have ih0 := interlocklaw11_great.mono_l k
  unfold interlocklaw11_great.f
  repeat' first
      | (with_reducible exact ih0 _ _)
      | (with_reducible exact LeO.refl _)
      | (with_reducible exact LeO.none _)
      | (with_reducible refine LeO.ite ?_ ?_)
      | (with_reducible refine LeO.bind ?_ (fun _ => ?_))
      | exact ih0 _ _
      | exact LeO.none _
      | refine LeO.ite ?_ ?_
      | refine LeO.bind ?_ (fun _ => ?_)
set_option maxHeartbeats 8000000 in
set_option maxRecDepth 100000 in
theorem interlocklaw11_great.calls (k : Nat) (A0 : Option Addr) (c0 : Nat) (l0 : List (S33)) (r : Bool) (w : World) (hr0 : Kd.C k33 w A0 l0.length l0) (hc0 : l0.length ≤ c0) (h : interlocklaw11_great.f k l0 = some r) :
    Calls Try.prog 11 #[.slice A0 l0.length c0] w fun e w' => e = .returned (.bool r) ∧ Drawn0 w w' := by
  have HR0 := Aside0.mk hr0
  have HC0 := Aside0.mk hc0
  clear hr0 hc0
  have H : (if (l0.length : Int) > 120 then (some true) else (interlocklaw11_great.l0 k l0 0)) = some r := h
  clear h
  by_cases c2 : (l0.length : Int) > 120
  · rw [if_pos c2] at H
    have c2b0 : decide (120 < (l0.length : Int)) = true := decide_eq_true c2
    have c2b1 : decide (120 < l0.length) = true := decide_eq_true (by omega)
    clear c2
    obtain rfl := Option.some.inj H
    go_enter Try.func11, Try.ntmps11
    go_wp2
    go_ret
    exact ⟨by first | rfl | (simp; done) | (simp [*]; done), by repeat (first | exact Drawn0.refl _ | apply Drawn0.step)⟩
  · rw [if_neg c2] at H
    have c2b0 : decide (120 < (l0.length : Int)) = false := decide_eq_false c2
    have c2b1 : decide (120 < l0.length) = false := decide_eq_false (by omega)
    clear c2
    have H' := Aside0.mk H
    clear H
    go_enter Try.func11, Try.ntmps11
    go_wp2
    go_loopg [3] k (fun kq v3 w' => ∃ (x3_1 : Int), v3 = .int .i64 x3_1 ∧ Aside0 (interlocklaw11_great.l0 kq l0 x3_1 = some r) ∧ Aside0 (kq ≤ k) ∧ Drawn0 w w')
    case atStart => exact ⟨(0), (by first | rfl | (simp; done) | (simp [*]; done)), H', ⟨Nat.le_refl _⟩, by repeat (first | exact Drawn0.refl _ | apply Drawn0.step)⟩
    case round =>
      clear H'
      try clear c1
      try clear c2
      try clear c2b0
      try clear c2b1
      try clear p2
      obtain ⟨x3_1, rfl, HA, HK1, ⟨m1, rfl⟩⟩ := hrel
      cases gk with
      | zero => exact absurd HA.out (by simp [interlocklaw11_great.l0])
      | succ k1 =>
        have H := HA.out
        clear HA
        simp only [interlocklaw11_great.l0] at H
        by_cases c3 : x3_1 < (l0.length : Int)
        · rw [if_pos c3] at H
          have c3b0 : decide (x3_1 < (l0.length : Int)) = true := decide_eq_true c3
          clear c3
          by_cases c4 : 0 ≤ x3_1
          · rw [if_pos c4] at H
            have c4b0 : decide (0 ≤ x3_1) = true := decide_eq_true c4
            clear c4
            by_cases c5 : (((rd_T33 l0 x3_1).f2.f0.f1).size : Int) > 100
            · rw [if_pos c5] at H
              have c5b0 : decide (100 < (((rd_T33 l0 x3_1).f2.f0.f1).size : Int)) = true := decide_eq_true c5
              have c5b1 : decide (100 < ((rd_T33 l0 x3_1).f2.f0.f1).size) = true := decide_eq_true (by omega)
              clear c5
              obtain rfl := Option.some.inj H
              have p336 : 0 ≤ (x3_1 : Int) := of_decide_eq_true (by first | (with_reducible assumption) | assumption)
              have q336 : x3_1 < (l0.length : Int) := of_decide_eq_true (by first | (with_reducible assumption) | assumption)
              obtain ⟨ad336, e336, hx336_0, hx336_1, hx336_2, hx336_3, hx336_4, hx336_5⟩ := at_T33 HR0.out x3_1 p336 q336
              cases e336
              replace p336 := eq_true p336
              replace q336 := eq_true q336
              go_wp2
              go_ret
              exact ⟨by first | rfl | (simp; done) | (simp [*]; done), by repeat (first | exact Drawn0.refl _ | apply Drawn0.step)⟩
            · rw [if_neg c5] at H
              have c5b0 : decide (100 < (((rd_T33 l0 x3_1).f2.f0.f1).size : Int)) = false := decide_eq_false c5
              have c5b1 : decide (100 < ((rd_T33 l0 x3_1).f2.f0.f1).size) = false := decide_eq_false (by omega)
              clear c5
              by_cases c6 : (((rd_T33 l0 x3_1).f2.f0.f2).size : Int) > 100
              · rw [if_pos c6] at H
                have c6b0 : decide (100 < (((rd_T33 l0 x3_1).f2.f0.f2).size : Int)) = true := decide_eq_true c6
                have c6b1 : decide (100 < ((rd_T33 l0 x3_1).f2.f0.f2).size) = true := decide_eq_true (by omega)
                clear c6
                obtain rfl := Option.some.inj H
                have p336 : 0 ≤ (x3_1 : Int) := of_decide_eq_true (by first | (with_reducible assumption) | assumption)
                have q336 : x3_1 < (l0.length : Int) := of_decide_eq_true (by first | (with_reducible assumption) | assumption)
                obtain ⟨ad336, e336, hx336_0, hx336_1, hx336_2, hx336_3, hx336_4, hx336_5⟩ := at_T33 HR0.out x3_1 p336 q336
                cases e336
                replace p336 := eq_true p336
                replace q336 := eq_true q336
                have p337 : 0 ≤ (x3_1 : Int) := of_decide_eq_true (by first | (with_reducible assumption) | assumption)
                have q337 : x3_1 < (l0.length : Int) := of_decide_eq_true (by first | (with_reducible assumption) | assumption)
                obtain ⟨ad337, e337, hx337_0, hx337_1, hx337_2, hx337_3, hx337_4, hx337_5⟩ := at_T33 HR0.out x3_1 p337 q337
                obtain rfl : ad336 = ad337 := (by injection e337)
                replace p337 := eq_true p337
                replace q337 := eq_true q337
                go_wp2
                go_ret
                exact ⟨by first | rfl | (simp; done) | (simp [*]; done), by repeat (first | exact Drawn0.refl _ | apply Drawn0.step)⟩
              · rw [if_neg c6] at H
                have c6b0 : decide (100 < (((rd_T33 l0 x3_1).f2.f0.f2).size : Int)) = false := decide_eq_false c6
                have c6b1 : decide (100 < ((rd_T33 l0 x3_1).f2.f0.f2).size) = false := decide_eq_false (by omega)
                clear c6
                have H' := Aside0.mk H
                clear H
                have p336 : 0 ≤ (x3_1 : Int) := of_decide_eq_true (by first | (with_reducible assumption) | assumption)
                have q336 : x3_1 < (l0.length : Int) := of_decide_eq_true (by first | (with_reducible assumption) | assumption)
                obtain ⟨ad336, e336, hx336_0, hx336_1, hx336_2, hx336_3, hx336_4, hx336_5⟩ := at_T33 HR0.out x3_1 p336 q336
                cases e336
                replace p336 := eq_true p336
                replace q336 := eq_true q336
                have p337 : 0 ≤ (x3_1 : Int) := of_decide_eq_true (by first | (with_reducible assumption) | assumption)
                have q337 : x3_1 < (l0.length : Int) := of_decide_eq_true (by first | (with_reducible assumption) | assumption)
                obtain ⟨ad337, e337, hx337_0, hx337_1, hx337_2, hx337_3, hx337_4, hx337_5⟩ := at_T33 HR0.out x3_1 p337 q337
                obtain rfl : ad336 = ad337 := (by injection e337)
                replace p337 := eq_true p337
                replace q337 := eq_true q337
                go_wp2
                go_roundg k1
                case measure => have := HK1.out; omega
                case rel => exact ⟨(wrap64 (x3_1 + 1)), (by first | rfl | (simp; done) | (simp [*]; done)), H', ⟨by have := HK1.out; omega⟩, by repeat (first | exact Drawn0.refl _ | apply Drawn0.step)⟩
          · rw [if_neg c4] at H
            exact absurd H (by simp)
        · rw [if_neg c3] at H
          have c3b0 : decide (x3_1 < (l0.length : Int)) = false := decide_eq_false c3
          clear c3
          obtain rfl := Option.some.inj H
          go_wp2
          go_ret
          exact ⟨by first | rfl | (simp; done) | (simp [*]; done), by repeat (first | exact Drawn0.refl _ | apply Drawn0.step)⟩
end Go.Proofs.Ytkcjcdkmdooofaa.Q
end
section
namespace Go.Proofs.Ytkcjcdkmdooofaa.Q
open Go.RowKit Go.Proofs.YtkcjcdkmdooofaaW.PrintWords Go.Proofs.YtkcjcdkmdooofaaW.PrintLast Go.Proofs.YtkcjcdkmdooofaaW.PrintMore
attribute [local go_sem] max2_int min2_int max_two min_two max_three min_three max_four min_four
set_option linter.unusedVariables false
set_option linter.unusedSimpArgs false
def interlocklaw11_row.f (a0 : ByteArray) : Option (Int × ByteArray × ByteArray) := some (4, (⟨#[116]⟩ : ByteArray), a0)
set_option maxHeartbeats 8000000 in
set_option maxRecDepth 100000 in
theorem interlocklaw11_row.calls (a0 : ByteArray) (r1 : Int) (r2 : ByteArray) (r3 : ByteArray) (w : World) (h : interlocklaw11_row.f a0 = some (r1, r2, r3)) :
    Calls Try.prog 24 #[.string a0] w fun e w' => e = .returned (.agg #[.int .i64 r1, .string r2, .string r3]) ∧ Below w.heap.size w w' := by
  have hu29 := Try.underlying29
  have HB := Aside0.mk (Below.refl w.heap.size w)
  have H : (some (4, (⟨#[116]⟩ : ByteArray), a0)) = some (r1, r2, r3) := h
  clear h
  simp only [Option.some.injEq, Prod.mk.injEq] at H
  obtain ⟨rfl, rfl, rfl⟩ := H
  go_enter Try.func24, Try.ntmps24
  go_wp2_with (first | ((with_reducible refine gate_dst (N := 2) rfl ?_); refine box_event ?hg (N := 2) ?hd (cs := #[.int .i64 0, .string (⟨#[]⟩ : ByteArray), .string (⟨#[]⟩ : ByteArray)]) (t := 29) ?hr ?_; (case hd => rfl); (case hg => rfl); (case hr => first | (go_simp; done) | (go_simp; rfl)); intro gb333 hg w2 hbox hb; have n0_ := Aside0.mk (below_step (by repeat (first | (with_reducible first | exact HB.out | apply below_alloc | apply pw_below_drewN | apply below_drew1) | exact HB.out)) hb); have n1_ := Aside0.mk (hbox); have n2_ := Aside0.mk ((by rw [hg]; exact (below_size (by repeat (first | (with_reducible first | exact HB.out | apply below_alloc | apply pw_below_drewN | apply below_drew1) | exact HB.out))) : w.heap.size ≤ gb333)); have n3_ := Aside0.mk ((by rw [hg]; exact (below_size (by repeat (first | (with_reducible first | exact HB.out | apply below_alloc | apply pw_below_drewN | apply below_drew1) | exact HB.out))) : w.heap.size ≤ gb333)); clear HB; have HB := n0_; have BK333 := n1_; have GW333 := n2_; have GE333 := n3_; clear n0_ n1_ n2_ n3_; clear hb hbox hg; have hcz3_0 : w2.cell? ⟨gb333, 0, none⟩ = some (.int .i64 0) := (blk_cell BK333.out 0).trans rfl; have hcz3_1 : w2.cell? ⟨gb333, 1, none⟩ = some (.string (⟨#[]⟩ : ByteArray)) := (blk_cell BK333.out 1).trans rfl; have hcz3_2 : w2.cell? ⟨gb333, 2, none⟩ = some (.string (⟨#[]⟩ : ByteArray)) := (blk_cell BK333.out 2).trans rfl; have hfz3_0 := blk_frozen BK333.out 0; have hfz3_1 := blk_frozen BK333.out 1; have hfz3_2 := blk_frozen BK333.out 2))
  refine bodyPost_ret (results_cell_row rfl _ _ gb333 29 #[.int .i64 4, .string (⟨#[116]⟩ : ByteArray), .string a0] (0, 0) _ rfl (by (with_reducible repeat (first | refine blk_drewN ?_ _ | refine blk_drew ?_ | refine blk_alloc ?_ _)); refine blk_put (cs := #[.int .i64 4, .string (⟨#[116]⟩ : ByteArray), .string (⟨#[]⟩ : ByteArray)]) ?_ 2 _ rfl; (with_reducible repeat (first | refine blk_drewN ?_ _ | refine blk_drew ?_ | refine blk_alloc ?_ _)); refine blk_put (cs := #[.int .i64 4, .string (⟨#[]⟩ : ByteArray), .string (⟨#[]⟩ : ByteArray)]) ?_ 1 _ rfl; (with_reducible repeat (first | refine blk_drewN ?_ _ | refine blk_drew ?_ | refine blk_alloc ?_ _)); refine blk_put (cs := #[.int .i64 0, .string (⟨#[]⟩ : ByteArray), .string (⟨#[]⟩ : ByteArray)]) ?_ 0 _ rfl; (with_reducible repeat (first | refine blk_drewN ?_ _ | refine blk_drew ?_ | refine blk_alloc ?_ _)); exact BK333.out) Try.underlying29 rfl (by kernel_rfl)) rfl ?_
  exact ⟨by first | rfl | (simp [errW_none, errW_some] <;> rfl) | (simp [*, errW_none, errW_some] <;> rfl), by repeat (first | (with_reducible first | exact HB.out | apply below_alloc | apply pw_below_drewN | apply below_drew1 | refine below_set ?_ GE333.out) | exact HB.out)⟩
end Go.Proofs.Ytkcjcdkmdooofaa.Q
end
section
namespace Go.Proofs.Ytkcjcdkmdooofaa.Q
open Go.RowKit Go.Proofs.YtkcjcdkmdooofaaW.PrintWords Go.Proofs.YtkcjcdkmdooofaaW.PrintLast Go.Proofs.YtkcjcdkmdooofaaW.PrintMore
attribute [local go_sem] max2_int min2_int max_two min_two max_three min_three max_four min_four
set_option linter.unusedVariables false
set_option linter.unusedSimpArgs false
def interlockref00_SameInts.l0 : Nat → List Int → List Int → Int → Option (Bool)
  | 0, _, _, _ => none
  | k + 1, x0, x1, x5 => if x5 < (x0.length : Int) then (if 0 ≤ x5 then (if x5 < (x1.length : Int) then (if (rd x0 x5) = (rd x1 x5) then (interlockref00_SameInts.l0 k x0 x1 (wrap64 (x5 + 1))) else (some false)) else (none)) else (none)) else (some true)
def interlockref00_SameInts.f (k : Nat) (l0 : List Int) (l1 : List Int) : Option (Bool) := if (l0.length : Int) = (l1.length : Int) then (interlockref00_SameInts.l0 k l0 l1 0) else (some false)
theorem interlockref00_SameInts.mono_l : ∀ k, (∀ y0 y1 y2, LeO (interlockref00_SameInts.l0 k y0 y1 y2) (interlockref00_SameInts.l0 (k + 1) y0 y1 y2))
  | 0 => fun _ _ _ r h => by simp [interlockref00_SameInts.l0] at h
  | k + 1 => by
    have ih0 := interlockref00_SameInts.mono_l k
    · intro y0 y1 y2
      unfold interlockref00_SameInts.l0
      repeat' first
      | (with_reducible exact ih0 _ _ _)
      | (with_reducible exact LeO.refl _)
      | (with_reducible exact LeO.none _)
      | (with_reducible refine LeO.ite ?_ ?_)
      | (with_reducible refine LeO.bind ?_ (fun _ => ?_))
      | exact ih0 _ _ _
      | exact LeO.none _
      | refine LeO.ite ?_ ?_
      | refine LeO.bind ?_ (fun _ => ?_)
theorem interlockref00_SameInts.mono : ∀ a0 a1 k, LeO (interlockref00_SameInts.f k a0 a1) (interlockref00_SameInts.f (k + 1) a0 a1) := by
  intro a0 a1 k
  have ih0 := interlockref00_SameInts.mono_l k
  unfold interlockref00_SameInts.f
  repeat' first
      | (with_reducible exact ih0 _ _ _)
      | (with_reducible exact LeO.refl _)
      | (with_reducible exact LeO.none _)
      | (with_reducible refine LeO.ite ?_ ?_)
      | (with_reducible refine LeO.bind ?_ (fun _ => ?_))
      | exact ih0 _ _ _
      | exact LeO.none _
      | refine LeO.ite ?_ ?_
      | refine LeO.bind ?_ (fun _ => ?_)
set_option maxHeartbeats 8000000 in
set_option maxRecDepth 100000 in
theorem interlockref00_SameInts.calls (k : Nat) (A0 : Option Addr) (c0 : Nat) (l0 : List Int) (A1 : Option Addr) (c1 : Nat) (l1 : List Int) (r : Bool) (w : World) (hr0 : Kd.C (Kd.int .i64) w A0 l0.length l0) (hc0 : l0.length ≤ c0) (hr1 : Kd.C (Kd.int .i64) w A1 l1.length l1) (hc1 : l1.length ≤ c1) (h : interlockref00_SameInts.f k l0 l1 = some r) :
    Calls Try.prog 25 #[.slice A0 l0.length c0, .slice A1 l1.length c1] w fun e w' => e = .returned (.bool r) ∧ Drawn0 w w' := by
  have HR0 := Aside0.mk hr0
  have HC0 := Aside0.mk hc0
  clear hr0 hc0
  have HR1 := Aside0.mk hr1
  have HC1 := Aside0.mk hc1
  clear hr1 hc1
  have H : (if (l0.length : Int) = (l1.length : Int) then (interlockref00_SameInts.l0 k l0 l1 0) else (some false)) = some r := h
  clear h
  by_cases c3 : (l0.length : Int) = (l1.length : Int)
  · rw [if_pos c3] at H
    have c3b0 : ((l0.length : Int) == (l1.length : Int)) = true := beq_iff_eq.mpr c3
    have c3b1 : ((l0.length : Int) != (l1.length : Int)) = false := bne_eq_false_iff_eq.mpr c3
    have c3b2 : (l0.length == l1.length) = true := by first | simpa using c3 | (simp at c3 ⊢; omega)
    clear c3
    have H' := Aside0.mk H
    clear H
    go_enter Try.func25, Try.ntmps25
    go_wp2
    repeat (go_quiet (fail); try go_wp2)
    go_loopg [5] k (fun kq v5 w' => ∃ (x5_1 : Int), v5 = .int .i64 x5_1 ∧ Aside0 (interlockref00_SameInts.l0 kq l0 l1 x5_1 = some r) ∧ Aside0 (kq ≤ k) ∧ Drawn0 w w')
    case atStart => exact ⟨(0), (by first | rfl | (simp; done) | (simp [*]; done)), H', ⟨Nat.le_refl _⟩, by repeat (first | exact Drawn0.refl _ | apply Drawn0.step)⟩
    case round =>
      clear H'
      try clear c1
      try clear c2
      try clear p2
      try clear c3
      try clear c3b0
      try clear c3b1
      try clear c3b2
      obtain ⟨x5_1, rfl, HA, HK1, ⟨m1, rfl⟩⟩ := hrel
      cases gk with
      | zero => exact absurd HA.out (by simp [interlockref00_SameInts.l0])
      | succ k1 =>
        have H := HA.out
        clear HA
        simp only [interlockref00_SameInts.l0] at H
        by_cases c4 : x5_1 < (l0.length : Int)
        · rw [if_pos c4] at H
          have c4b0 : decide (x5_1 < (l0.length : Int)) = true := decide_eq_true c4
          clear c4
          by_cases c5 : 0 ≤ x5_1
          · rw [if_pos c5] at H
            have c5b0 : decide (0 ≤ x5_1) = true := decide_eq_true c5
            clear c5
            by_cases c6 : x5_1 < (l1.length : Int)
            · rw [if_pos c6] at H
              have c6b0 : decide (x5_1 < (l1.length : Int)) = true := decide_eq_true c6
              clear c6
              by_cases c7 : (rd l0 x5_1) = (rd l1 x5_1)
              · rw [if_pos c7] at H
                have c7b0 : ((rd l0 x5_1) == (rd l1 x5_1)) = true := beq_iff_eq.mpr c7
                have c7b1 : ((rd l0 x5_1) != (rd l1 x5_1)) = false := bne_eq_false_iff_eq.mpr c7
                clear c7
                have H' := Aside0.mk H
                clear H
                have p334 : 0 ≤ (x5_1 : Int) := of_decide_eq_true (by first | (with_reducible assumption) | assumption)
                have q334 : x5_1 < (l0.length : Int) := of_decide_eq_true (by first | (with_reducible assumption) | assumption)
                obtain ⟨ad334, e334, hx334_0⟩ := Kd.at_int HR0.out x5_1 p334 q334
                cases e334
                replace p334 := eq_true p334
                replace q334 := eq_true q334
                have p335 : 0 ≤ (x5_1 : Int) := of_decide_eq_true (by first | (with_reducible assumption) | assumption)
                have q335 : x5_1 < (l1.length : Int) := of_decide_eq_true (by first | (with_reducible assumption) | assumption)
                obtain ⟨ad335, e335, hx335_0⟩ := Kd.at_int HR1.out x5_1 p335 q335
                cases e335
                replace p335 := eq_true p335
                replace q335 := eq_true q335
                go_wp2
                repeat (go_quiet (fail); try go_wp2)
                go_roundg k1
                case measure => have := HK1.out; omega
                case rel => exact ⟨(wrap64 (x5_1 + 1)), (by first | rfl | (simp; done) | (simp [*]; done)), H', ⟨by have := HK1.out; omega⟩, by repeat (first | exact Drawn0.refl _ | apply Drawn0.step)⟩
              · rw [if_neg c7] at H
                have c7b0 : ((rd l0 x5_1) == (rd l1 x5_1)) = false := beq_eq_false_iff_ne.mpr c7
                have c7b1 : ((rd l0 x5_1) != (rd l1 x5_1)) = true := bne_iff_ne.mpr c7
                obtain rfl := Option.some.inj H
                have p334 : 0 ≤ (x5_1 : Int) := of_decide_eq_true (by first | (with_reducible assumption) | assumption)
                have q334 : x5_1 < (l0.length : Int) := of_decide_eq_true (by first | (with_reducible assumption) | assumption)
                obtain ⟨ad334, e334, hx334_0⟩ := Kd.at_int HR0.out x5_1 p334 q334
                cases e334
                replace p334 := eq_true p334
                replace q334 := eq_true q334
                have p335 : 0 ≤ (x5_1 : Int) := of_decide_eq_true (by first | (with_reducible assumption) | assumption)
                have q335 : x5_1 < (l1.length : Int) := of_decide_eq_true (by first | (with_reducible assumption) | assumption)
                obtain ⟨ad335, e335, hx335_0⟩ := Kd.at_int HR1.out x5_1 p335 q335
                cases e335
                replace p335 := eq_true p335
                replace q335 := eq_true q335
                go_wp2
                repeat (go_quiet (fail); try go_wp2)
                go_ret
                exact ⟨by first | rfl | (simp; done) | (simp [*]; done), by repeat (first | exact Drawn0.refl _ | apply Drawn0.step)⟩
            · rw [if_neg c6] at H
              exact absurd H (by simp)
          · rw [if_neg c5] at H
            exact absurd H (by simp)
        · rw [if_neg c4] at H
          have c4b0 : decide (x5_1 < (l0.length : Int)) = false := decide_eq_false c4
          clear c4
          obtain rfl := Option.some.inj H
          go_wp2
          repeat (go_quiet (fail); try go_wp2)
          go_ret
          exact ⟨by first | rfl | (simp; done) | (simp [*]; done), by repeat (first | exact Drawn0.refl _ | apply Drawn0.step)⟩
  · rw [if_neg c3] at H
    have c3b0 : ((l0.length : Int) == (l1.length : Int)) = false := beq_eq_false_iff_ne.mpr c3
    have c3b1 : ((l0.length : Int) != (l1.length : Int)) = true := bne_iff_ne.mpr c3
    have c3b2 : (l0.length == l1.length) = false := by first | simpa using c3 | (simp at c3 ⊢; omega)
    obtain rfl := Option.some.inj H
    go_enter Try.func25, Try.ntmps25
    go_wp2
    repeat (go_quiet (fail); try go_wp2)
    go_ret
    exact ⟨by first | rfl | (simp; done) | (simp [*]; done), by repeat (first | exact Drawn0.refl _ | apply Drawn0.step)⟩
end Go.Proofs.Ytkcjcdkmdooofaa.Q
end
section
namespace Go.Proofs.Ytkcjcdkmdooofaa.Q
open Go.RowKit Go.Proofs.YtkcjcdkmdooofaaW.PrintWords Go.Proofs.YtkcjcdkmdooofaaW.PrintLast Go.Proofs.YtkcjcdkmdooofaaW.PrintMore
attribute [local go_sem] max2_int min2_int max_two min_two max_three min_three max_four min_four
set_option linter.unusedVariables false
set_option linter.unusedSimpArgs false
theorem eqA37 (d : Nat) (w : World) (x0 y0 : Int) (x1 y1 : Int) (x2 y2 : Bool) :
    (Op.equalIn (d + 2) 37 (.agg #[.int .i64 x0, .int .i64 x1, .bool x2]) (.agg #[.int .i64 y0, .int .i64 y1, .bool y2])).run Try.prog w = .ok (x0 == y0 && (x1 == y1 && (x2 == y2))) w := by
  refine eqA_of Try.underlying37 (by kernel_rfl) ?_
  refine eqf_cons (by rfl) (by go_simp; rfl) (by go_simp; rfl) (by go_simp) ?_
  refine eqf_cons (by rfl) (by go_simp; rfl) (by go_simp; rfl) (by go_simp) ?_
  exact eqf_last (by rfl) (by go_simp; rfl) (by go_simp; rfl) (by go_simp)
end Go.Proofs.Ytkcjcdkmdooofaa.Q
end
section
namespace Go.Proofs.Ytkcjcdkmdooofaa.Q
open Go.RowKit Go.Proofs.YtkcjcdkmdooofaaW.PrintWords Go.Proofs.YtkcjcdkmdooofaaW.PrintLast Go.Proofs.YtkcjcdkmdooofaaW.PrintMore
attribute [local go_sem] max2_int min2_int max_two min_two max_three min_three max_four min_four
set_option linter.unusedVariables false
set_option linter.unusedSimpArgs false
attribute [local go_sem high] eqA37
def interlockref11_SameHeld.l0 : Nat → List (S37) → List (S37) → Int → Option (Bool)
  | 0, _, _, _ => none
  | k + 1, x0, x1, x5 => if x5 < (x0.length : Int) then (if 0 ≤ x5 then (if x5 < (x1.length : Int) then (if (!(((rd_T37 x0 x5).f0) == ((rd_T37 x1 x5).f0)) || (!(((rd_T37 x0 x5).f1) == ((rd_T37 x1 x5).f1)) || (!(((rd_T37 x0 x5).f2) == ((rd_T37 x1 x5).f2))))) = true then (some false) else (interlockref11_SameHeld.l0 k x0 x1 (wrap64 (x5 + 1)))) else (none)) else (none)) else (some true)
def interlockref11_SameHeld.f (k : Nat) (l0 : List (S37)) (l1 : List (S37)) : Option (Bool) := if (l0.length : Int) = (l1.length : Int) then (interlockref11_SameHeld.l0 k l0 l1 0) else (some false)
theorem interlockref11_SameHeld.mono_l : ∀ k, (∀ y0 y1 y2, LeO (interlockref11_SameHeld.l0 k y0 y1 y2) (interlockref11_SameHeld.l0 (k + 1) y0 y1 y2))
  | 0 => fun _ _ _ r h => by simp [interlockref11_SameHeld.l0] at h
  | k + 1 => by
    have ih0 := interlockref11_SameHeld.mono_l k
    · intro y0 y1 y2
      unfold interlockref11_SameHeld.l0
      repeat' first
      | (with_reducible exact ih0 _ _ _)
      | (with_reducible exact LeO.refl _)
      | (with_reducible exact LeO.none _)
      | (with_reducible refine LeO.ite ?_ ?_)
      | (with_reducible refine LeO.bind ?_ (fun _ => ?_))
      | exact ih0 _ _ _
      | exact LeO.none _
      | refine LeO.ite ?_ ?_
      | refine LeO.bind ?_ (fun _ => ?_)
theorem interlockref11_SameHeld.mono : ∀ a0 a1 k, LeO (interlockref11_SameHeld.f k a0 a1) (interlockref11_SameHeld.f (k + 1) a0 a1) := by
  intro a0 a1 k
  have ih0 := interlockref11_SameHeld.mono_l k
  unfold interlockref11_SameHeld.f
  repeat' first
      | (with_reducible exact ih0 _ _ _)
      | (with_reducible exact LeO.refl _)
      | (with_reducible exact LeO.none _)
      | (with_reducible refine LeO.ite ?_ ?_)
      | (with_reducible refine LeO.bind ?_ (fun _ => ?_))
      | exact ih0 _ _ _
      | exact LeO.none _
      | refine LeO.ite ?_ ?_
      | refine LeO.bind ?_ (fun _ => ?_)
set_option maxHeartbeats 8000000 in
set_option maxRecDepth 100000 in
theorem interlockref11_SameHeld.calls (k : Nat) (A0 : Option Addr) (c0 : Nat) (l0 : List (S37)) (A1 : Option Addr) (c1 : Nat) (l1 : List (S37)) (r : Bool) (w : World) (hr0 : Kd.C k37 w A0 l0.length l0) (hc0 : l0.length ≤ c0) (hr1 : Kd.C k37 w A1 l1.length l1) (hc1 : l1.length ≤ c1) (h : interlockref11_SameHeld.f k l0 l1 = some r) :
    Calls Try.prog 22 #[.slice A0 l0.length c0, .slice A1 l1.length c1] w fun e w' => e = .returned (.bool r) ∧ Drawn0 w w' := by
  have hu37 := Try.underlying37
  have HR0 := Aside0.mk hr0
  have HC0 := Aside0.mk hc0
  clear hr0 hc0
  have HR1 := Aside0.mk hr1
  have HC1 := Aside0.mk hc1
  clear hr1 hc1
  have H : (if (l0.length : Int) = (l1.length : Int) then (interlockref11_SameHeld.l0 k l0 l1 0) else (some false)) = some r := h
  clear h
  by_cases c3 : (l0.length : Int) = (l1.length : Int)
  · rw [if_pos c3] at H
    have c3b0 : ((l0.length : Int) == (l1.length : Int)) = true := beq_iff_eq.mpr c3
    have c3b1 : ((l0.length : Int) != (l1.length : Int)) = false := bne_eq_false_iff_eq.mpr c3
    have c3b2 : (l0.length == l1.length) = true := by first | simpa using c3 | (simp at c3 ⊢; omega)
    clear c3
    have H' := Aside0.mk H
    clear H
    go_enter Try.func22, Try.ntmps22
    go_wp2
    repeat (go_quiet (fail); try go_wp2)
    go_loopg [5] k (fun kq v5 w' => ∃ (x5_1 : Int), v5 = .int .i64 x5_1 ∧ Aside0 (interlockref11_SameHeld.l0 kq l0 l1 x5_1 = some r) ∧ Aside0 (kq ≤ k) ∧ Drawn0 w w')
    case atStart => exact ⟨(0), (by first | rfl | (simp; done) | (simp [*]; done)), H', ⟨Nat.le_refl _⟩, by repeat (first | exact Drawn0.refl _ | apply Drawn0.step)⟩
    case round =>
      clear H'
      try clear c1
      try clear c2
      try clear p2
      try clear c3
      try clear c3b0
      try clear c3b1
      try clear c3b2
      obtain ⟨x5_1, rfl, HA, HK1, ⟨m1, rfl⟩⟩ := hrel
      cases gk with
      | zero => exact absurd HA.out (by simp [interlockref11_SameHeld.l0])
      | succ k1 =>
        have H := HA.out
        clear HA
        simp only [interlockref11_SameHeld.l0] at H
        by_cases c4 : x5_1 < (l0.length : Int)
        · rw [if_pos c4] at H
          have c4b0 : decide (x5_1 < (l0.length : Int)) = true := decide_eq_true c4
          clear c4
          by_cases c5 : 0 ≤ x5_1
          · rw [if_pos c5] at H
            have c5b0 : decide (0 ≤ x5_1) = true := decide_eq_true c5
            clear c5
            by_cases c6 : x5_1 < (l1.length : Int)
            · rw [if_pos c6] at H
              have c6b0 : decide (x5_1 < (l1.length : Int)) = true := decide_eq_true c6
              clear c6
              by_cases c7 : (!(((rd_T37 l0 x5_1).f0) == ((rd_T37 l1 x5_1).f0)) || (!(((rd_T37 l0 x5_1).f1) == ((rd_T37 l1 x5_1).f1)) || (!(((rd_T37 l0 x5_1).f2) == ((rd_T37 l1 x5_1).f2))))) = true
              · rw [if_pos c7] at H
                have c7b0 : (!(((rd_T37 l0 x5_1).f0) == ((rd_T37 l1 x5_1).f0)) || (!(((rd_T37 l0 x5_1).f1) == ((rd_T37 l1 x5_1).f1)) || (!(((rd_T37 l0 x5_1).f2) == ((rd_T37 l1 x5_1).f2))))) = true := c7
                clear c7
                obtain rfl := Option.some.inj H
                have p370 : 0 ≤ (x5_1 : Int) := of_decide_eq_true (by first | (with_reducible assumption) | assumption)
                have q370 : x5_1 < (l0.length : Int) := of_decide_eq_true (by first | (with_reducible assumption) | assumption)
                obtain ⟨ad370, e370, hx370_0, hx370_1, hx370_2⟩ := at_T37 HR0.out x5_1 p370 q370
                cases e370
                replace p370 := eq_true p370
                replace q370 := eq_true q370
                have p371 : 0 ≤ (x5_1 : Int) := of_decide_eq_true (by first | (with_reducible assumption) | assumption)
                have q371 : x5_1 < (l1.length : Int) := of_decide_eq_true (by first | (with_reducible assumption) | assumption)
                obtain ⟨ad371, e371, hx371_0, hx371_1, hx371_2⟩ := at_T37 HR1.out x5_1 p371 q371
                cases e371
                replace p371 := eq_true p371
                replace q371 := eq_true q371
                go_wp2
                repeat (go_quiet (fail); try go_wp2)
                go_ret
                exact ⟨by first | rfl | (simp; done) | (simp [*]; done), by repeat (first | exact Drawn0.refl _ | apply Drawn0.step)⟩
              · rw [if_neg c7] at H
                have c7b0 : (!(((rd_T37 l0 x5_1).f0) == ((rd_T37 l1 x5_1).f0)) || (!(((rd_T37 l0 x5_1).f1) == ((rd_T37 l1 x5_1).f1)) || (!(((rd_T37 l0 x5_1).f2) == ((rd_T37 l1 x5_1).f2))))) = false := by simpa using c7
                clear c7
                have H' := Aside0.mk H
                clear H
                have p370 : 0 ≤ (x5_1 : Int) := of_decide_eq_true (by first | (with_reducible assumption) | assumption)
                have q370 : x5_1 < (l0.length : Int) := of_decide_eq_true (by first | (with_reducible assumption) | assumption)
                obtain ⟨ad370, e370, hx370_0, hx370_1, hx370_2⟩ := at_T37 HR0.out x5_1 p370 q370
                cases e370
                replace p370 := eq_true p370
                replace q370 := eq_true q370
                have p371 : 0 ≤ (x5_1 : Int) := of_decide_eq_true (by first | (with_reducible assumption) | assumption)
                have q371 : x5_1 < (l1.length : Int) := of_decide_eq_true (by first | (with_reducible assumption) | assumption)
                obtain ⟨ad371, e371, hx371_0, hx371_1, hx371_2⟩ := at_T37 HR1.out x5_1 p371 q371
                cases e371
                replace p371 := eq_true p371
                replace q371 := eq_true q371
                go_wp2
                repeat (go_quiet (fail); try go_wp2)
                go_roundg k1
                case measure => have := HK1.out; omega
                case rel => exact ⟨(wrap64 (x5_1 + 1)), (by first | rfl | (simp; done) | (simp [*]; done)), H', ⟨by have := HK1.out; omega⟩, by repeat (first | exact Drawn0.refl _ | apply Drawn0.step)⟩
            · rw [if_neg c6] at H
              exact absurd H (by simp)
          · rw [if_neg c5] at H
            exact absurd H (by simp)
        · rw [if_neg c4] at H
          have c4b0 : decide (x5_1 < (l0.length : Int)) = false := decide_eq_false c4
          clear c4
          obtain rfl := Option.some.inj H
          go_wp2
          repeat (go_quiet (fail); try go_wp2)
          go_ret
          exact ⟨by first | rfl | (simp; done) | (simp [*]; done), by repeat (first | exact Drawn0.refl _ | apply Drawn0.step)⟩
  · rw [if_neg c3] at H
    have c3b0 : ((l0.length : Int) == (l1.length : Int)) = false := beq_eq_false_iff_ne.mpr c3
    have c3b1 : ((l0.length : Int) != (l1.length : Int)) = true := bne_iff_ne.mpr c3
    have c3b2 : (l0.length == l1.length) = false := by first | simpa using c3 | (simp at c3 ⊢; omega)
    obtain rfl := Option.some.inj H
    go_enter Try.func22, Try.ntmps22
    go_wp2
    repeat (go_quiet (fail); try go_wp2)
    go_ret
    exact ⟨by first | rfl | (simp; done) | (simp [*]; done), by repeat (first | exact Drawn0.refl _ | apply Drawn0.step)⟩
end Go.Proofs.Ytkcjcdkmdooofaa.Q
end
