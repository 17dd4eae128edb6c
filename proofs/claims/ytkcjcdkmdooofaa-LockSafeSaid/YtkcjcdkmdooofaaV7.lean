/- Packed by shake.py: YtkcjcdkmdooofaaLL2 YtkcjcdkmdooofaaLL3 YtkcjcdkmdooofaaR YtkcjcdkmdooofaaLL4 -/
import Derived.Deep.Slices
import Derived.ChangeArms
import Derived.DataReads
import Derived.Test.YtkcjcdkmdooofaaV6
section
namespace Go.Proofs.Kb
open Go Go.RowKit Go.Proofs.Ytkcjcdkmdooofaa.Q Go.Proofs.YtkcjcdkmdooofaaW.PrintWords Go.Proofs.YtkcjcdkmdooofaaW.PrintLast Go.Proofs.YtkcjcdkmdooofaaW.PrintMore
set_option linter.unusedVariables false
set_option linter.unusedSimpArgs false
set_option maxRecDepth 100000
open Go.Proofs.Lk Go.Proofs.Mp
theorem great_l0 (l : List S33) (hn : l.length ≤ 120) : ∀ (k i : Nat), i ≤ l.length → l.length < i + k → ∃ b, interlocklaw11_great.l0 k l (i : Int) = some b
  | 0, i, h1, h2 => by omega
  | k + 1, i, h1, h2 => by
    unfold interlocklaw11_great.l0
    by_cases h : i < l.length
    · rw [if_pos (by omega), if_pos (by omega)]
      split
      · exact ⟨_, rfl⟩
      · split
        · exact ⟨_, rfl⟩
        · rw [show wrap64 ((i : Int) + 1) = ((i + 1 : Nat) : Int) by rw [IntWalk.wrap64_in _ (by omega)]; omega]
          exact great_l0 l hn k (i + 1) (by omega) (by omega)
    · rw [if_neg (by omega)]
      exact ⟨_, rfl⟩
theorem same_l0 (l m : List Int) (hlm : l.length = m.length) (hn : l.length < 100000) : ∀ (k i : Nat), i ≤ l.length → l.length < i + k → interlockref00_SameInts.l0 k l m (i : Int) = some (decide (l.drop i = m.drop i))
  | 0, i, h1, h2 => by omega
  | k + 1, i, h1, h2 => by
    unfold interlockref00_SameInts.l0
    by_cases h : i < l.length
    · have hd : l.drop i = l[i] :: l.drop (i + 1) := List.drop_eq_getElem_cons h
      have hd2 : m.drop i = m[i]'(by omega) :: m.drop (i + 1) := List.drop_eq_getElem_cons (by omega)
      have hr : rd l (i : Int) = l[i] := by simp [rd, List.getD_eq_getElem?_getD, List.getElem?_eq_getElem h]
      have hr2 : rd m (i : Int) = m[i]'(by omega) := by simp [rd, List.getD_eq_getElem?_getD, List.getElem?_eq_getElem (show i < m.length by omega)]
      rw [if_pos (by omega), if_pos (by omega), if_pos (by omega), hr, hr2]
      by_cases e : l[i] = m[i]'(by omega)
      · rw [if_pos e, show wrap64 ((i : Int) + 1) = ((i + 1 : Nat) : Int) by rw [IntWalk.wrap64_in _ (by omega)]; omega, same_l0 l m hlm hn k (i + 1) (by omega) (by omega)]
        refine congrArg some (decide_eq_decide.2 ?_)
        rw [hd, hd2, e]
        exact ⟨fun h => by rw [h], fun h => (List.cons.inj h).2⟩
      · rw [if_neg e]
        refine congrArg some (decide_eq_false ?_).symm
        rw [hd, hd2]
        exact fun h => e (List.cons.inj h).1
    · rw [if_neg (by omega), List.drop_eq_nil_of_le (by omega), List.drop_eq_nil_of_le (by omega)]
      simp
theorem same_f (l m : List Int) (hn : l.length < 100000) : interlockref00_SameInts.f 100001 l m = some (decide (l = m)) := by
  unfold interlockref00_SameInts.f
  by_cases h : l.length = m.length
  · rw [if_pos (by omega)]
    have := same_l0 l m h hn 100001 0 (Nat.zero_le _) (by omega)
    simpa using this
  · rw [if_neg (by omega)]
    have : ¬ l = m := fun e => h (by rw [e])
    simp [this]
theorem sameints_calls (w : World) (v u : Value) (l m : List Int) (hv : RowX intE w v l) (hu : RowX intE w u m) (hl : l.length < 100000) (hm : m.length < 100000) :
    Calls Try.prog 25 #[v, u] w fun E w' => E = .returned (.bool (decide (l = m))) ∧ Below w.heap.size w w' := by
  have hk : ∀ (w : World) (x : Int), (Kd.int .i64).K w x (intE.enc x) := fun w x => rfl
  obtain ⟨A, c, rfl, h1, h2⟩ := rowX_C (d := Kd.int .i64) rfl hk hv hl
  obtain ⟨A', c', rfl, h3, h4⟩ := rowX_C (d := Kd.int .i64) rfl hk hu hm
  exact (interlockref00_SameInts.calls 100001 A c l A' c' m _ w h2 h1 h4 h3 (same_f l m hl)).mono fun E w' h => ⟨h.1, h.2.below⟩
theorem lit_row {w : World} {b : Nat} {x : Int} (h : w.heap[b]? = some (.cells #[.int .i64 x] 3 (0, 0))) : RowX intE w (.slice (some ⟨b, 0, none⟩) 1 1) [x] :=
  ⟨rfl, fun u hu => (by rw [List.mem_singleton.1 hu]; rfl), .inr ⟨b, 1, _, rfl, h, Nat.le_refl _, by decide, Nat.le_refl _, rfl⟩⟩
theorem sorted_ext : ∀ {a b : List Int}, a.Pairwise (· < ·) → b.Pairwise (· < ·) → (∀ x, x ∈ a ↔ x ∈ b) → a = b
  | [], [], _, _, _ => rfl
  | [], y :: b, _, _, h => by have := (h y).2 List.mem_cons_self; cases this
  | x :: a, [], _, _, h => by have := (h x).1 List.mem_cons_self; cases this
  | x :: a, y :: b, ha, hb, h => by
    obtain ⟨ha1, ha2⟩ := List.pairwise_cons.1 ha
    obtain ⟨hb1, hb2⟩ := List.pairwise_cons.1 hb
    have e : x = y := by
      have h1 := (h x).1 List.mem_cons_self
      have h2 := (h y).2 List.mem_cons_self
      rcases List.mem_cons.1 h1 with h1 | h1
      · exact h1
      · rcases List.mem_cons.1 h2 with h2 | h2
        · exact h2.symm
        · have := hb1 x h1
          have := ha1 y h2
          omega
    subst e
    rw [sorted_ext ha2 hb2 fun z => ?_]
    constructor
    · intro hz
      rcases List.mem_cons.1 ((h z).1 (List.mem_cons_of_mem _ hz)) with h1 | h1
      · have := ha1 z hz
        omega
      · exact h1
    · intro hz
      rcases List.mem_cons.1 ((h z).2 (List.mem_cons_of_mem _ hz)) with h1 | h1
      · have := hb1 z hz
        omega
      · exact h1
def tk : S29 := ⟨4, ⟨#[116]⟩, ⟨#[107]⟩⟩
def a1 : LS S29 × Bool × Ans := askS haddT fitsT LS.new 1 tk 3
def a2 : LS S29 × Bool × Ans := askS haddT fitsT a1.1 2 tk 6
def a3 : LS S29 × Bool × Ans := askS haddT fitsT a2.1 3 tk 3
theorem a1_is : a1.2 = (true, .ok) := by kernel_rfl
theorem a2_is : a2.2 = (false, .ok) := by kernel_rfl
theorem a3_is : a3.2 = (false, .ok) := by kernel_rfl
theorem a3_blk : blockS srtI a3.1 3 = [2] := by
  have h : blockS srtI a3.1 3 = srtI [2] := by kernel_rfl
  rw [h]
  exact sorted_ext (srtI_sorted _) (List.pairwise_singleton _ _) (mem_srtI _)
theorem a3_rel : (releaseS haddT a3.1 1).2 = [2] := by kernel_rfl
theorem a3_len : (stateL ((releaseS haddT a3.1 1).1.rows tk)).length = 2 := by kernel_rfl
end Go.Proofs.Kb
end
section
namespace Go.Proofs.Kb
open Go Go.RowKit Go.Proofs.Ytkcjcdkmdooofaa.Q Go.Proofs.YtkcjcdkmdooofaaW.PrintWords Go.Proofs.YtkcjcdkmdooofaaW.PrintLast Go.Proofs.YtkcjcdkmdooofaaW.PrintMore
set_option linter.unusedVariables false
set_option linter.unusedSimpArgs false
set_option maxRecDepth 100000
open Go.Proofs.Lk Go.Proofs.Mp
def LA (w0 : World) (F : Nat → Prop) (lp : Nat) (s : LS S29) (k : Nat) (R : List Chunk) (W : World) : Prop := ∃ M : LM, M.lp = lp ∧ Rep M s ∧ M.tot ≤ k ∧ St w0 F W (lk M ++ R)
def lpP (lp : Nat) : Value := .pointer (some ⟨lp, 0, none⟩)
section
variable {w0 w w' : World} {F : Nat → Prop} {R R' : List Chunk} {lp k : Nat} {s : LS S29} {X : List Int} {D : List S29}
theorem LA.below (h : LA w0 F lp s k R w) (hb : Below w.heap.size w w') : LA w0 F lp s k R w' := by
  obtain ⟨M, h1, h2, h3, h4⟩ := h
  exact ⟨M, h1, h2, h3, h4.below hb⟩
theorem LA.rest (h : LA w0 F lp s k R w) : St w0 F w R := by
  obtain ⟨M, h1, h2, h3, h4⟩ := h
  exact h4.drop
theorem LA.perm (h : LA w0 F lp s k R w) (hp : R.Perm R') : LA w0 F lp s k R' w := by
  obtain ⟨M, h1, h2, h3, h4⟩ := h
  exact ⟨M, h1, h2, h3, h4.perm (List.Perm.append_left _ hp)⟩
theorem LA.drop (h : LA w0 F lp s k (R ++ R') w) : LA w0 F lp s k R' w := by
  obtain ⟨M, h1, h2, h3, h4⟩ := h
  have h5 : St w0 F w (R ++ (lk M ++ R')) := h4.perm (by rw [← List.append_assoc, ← List.append_assoc]; exact List.Perm.append_right _ List.perm_append_comm)
  exact ⟨M, h1, h2, h3, h5.drop⟩
theorem LA.left (h : LA w0 F lp s k (R ++ R') w) : LA w0 F lp s k R w := LA.drop (R := R') (h.perm List.perm_append_comm)
theorem LA.mono (h : LA w0 F lp s k R w) {k' : Nat} (hk : k ≤ k') : LA w0 F lp s k' R w := by
  obtain ⟨M, h1, h2, h3, h4⟩ := h
  exact ⟨M, h1, h2, Nat.le_trans h3 hk, h4⟩
theorem LA.alloc (h : LA w0 F lp s k R w) (C : Array Value) (T : TypeId) {n : Nat} (hn : w.heap.size = n) : LA w0 F lp s k (R ++ [blkC n (.cells C T (0, 0))]) (w.alloc (.cells C T)) := by
  obtain ⟨M, h1, h2, h3, h4⟩ := h
  have h5 := h4.alloc C T hn
  rw [List.append_assoc] at h5
  exact ⟨M, h1, h2, h3, h5⟩
theorem LA.sub (h : LA w0 F lp s k R w) (f : ∀ cs : List Chunk, St w0 F w (R ++ cs) → St w0 F w' (R' ++ cs)) : LA w0 F lp s k R' w' := by
  obtain ⟨M, h1, h2, h3, h4⟩ := h
  have h5 : St w0 F w (R ++ lk M) := h4.perm List.perm_append_comm
  exact ⟨M, h1, h2, h3, (f _ h5).perm List.perm_append_comm⟩
theorem LA.new (hs : St w0 F w R) : Calls Try.prog 12 #[] w fun E w' => ∃ lp, E = .returned (lpP lp) ∧ LA w0 F lp LS.new 0 R w' :=
  (new_fr hs).mono fun E w' ⟨M, h1, h2, h3, h4⟩ => ⟨M.lp, h1, M, rfl, h2, Nat.le_of_eq h3, h4⟩
theorem LA.ask (h : LA w0 F lp s k R w) (hg : Good X D s) {x : Int} {t : S29} (m : Int) (hx : x ∈ X) (ht : t ∈ D) (hk : k < 4000000000000000000) :
    Calls Try.prog 17 #[lpP lp, .int .i64 x, wantV t m] w fun E w' => E = AskE (askS haddT fitsT s x t m) ∧ LA w0 F lp (askS haddT fitsT s x t m).1 (k + 1000000) R w' := by
  obtain ⟨M, rfl, h2, h3, h4⟩ := h
  exact (ask_fr (m := m) h4 h2 hg (hg.xw x hx) (hg.dw t ht) (by omega)).mono fun E w' ⟨M', e1, e2, e3, e4, e5⟩ => ⟨e1, M', e3, e2, by omega, e5⟩
theorem LA.release (h : LA w0 F lp s k R w) (hg : Good X D s) {x : Int} (hx : x ∈ X) (hk : k < 4000000000000000000) :
    Calls Try.prog 21 #[lpP lp, .int .i64 x] w fun E w' => ∃ v, E = .returned v ∧ LA w0 F lp (releaseS haddT s x).1 (k + 1000000) (rowIC v (releaseS haddT s x).2 :: R) w' := by
  obtain ⟨M, rfl, h2, h3, h4⟩ := h
  exact (release_fr h4 h2 hg (hg.xw x hx) (by omega)).mono fun E w' ⟨M', v, e1, e2, e3, e4, e5⟩ => ⟨v, e1, M', e3, e2, by omega, by rw [List.append_assoc] at e5; exact e5⟩
theorem LA.blockers (h : LA w0 F lp s k R w) (hg : Good X D s) {x : Int} (hx : x ∈ X) (hk : k < 4000000000000000000) :
    Calls Try.prog 16 #[lpP lp, .int .i64 x] w fun E w' => ∃ v, E = .returned v ∧ LA w0 F lp s (k + 1000000) (rowIC v (blockS srtI s x) :: R) w' := by
  obtain ⟨M, rfl, h2, h3, h4⟩ := h
  exact (blockers_fr h4 h2 hg (hg.xw x hx) (by omega)).mono fun E w' ⟨M', v, e1, e2, e3, e4, e5⟩ => ⟨v, e1, M', e3, e2, by omega, by rw [List.append_assoc] at e5; exact e5⟩
theorem LA.mode (h : LA w0 F lp s k R w) (hg : Good X D s) (x : Int) {t : S29} (ht : wfT t) :
    Calls Try.prog 19 #[lpP lp, .int .i64 x, thgV t] w fun E w' => E = .returned (.int .i64 (modeD s x t)) ∧ LA w0 F lp s k R w' := by
  obtain ⟨M, rfl, h2, h3, h4⟩ := h
  exact (mode_fr h4 h2 hg ht).mono fun E w' ⟨e1, e2⟩ => ⟨e1, M, rfl, h2, h3, e2⟩
theorem LA.state (h : LA w0 F lp s k R w) (hg : Good X D s) {t : S29} (ht : wfT t) :
    Calls Try.prog 14 #[lpP lp, thgV t] w fun E w' => ∃ v, E = .returned v ∧ LA w0 F lp s k (rowHC v (stateL (s.rows t)) :: R) w' := by
  obtain ⟨M, rfl, h2, h3, h4⟩ := h
  exact (state_fr h4 h2 hg ht).mono fun E w' ⟨v, e1, e2⟩ => ⟨v, e1, M, rfl, h2, h3, by rw [List.append_assoc] at e2; exact e2⟩
theorem LA.do (h : LA w0 F lp s k R w) (hg : Good X D s) (c : S33) (hx : c.f1 ∈ X) (ht : c.f2.f0 ∈ D) (hk : k < 4000000000000000000) :
    Calls Try.prog 13 #[lpP lp, callV c] w fun E w' => E = .returned (.tuple #[]) ∧ LA w0 F lp (stepS haddT fitsT s (calOf c)) (k + 1000000) R w' := by
  obtain ⟨M, rfl, h2, h3, h4⟩ := h
  exact (do_calls c h4 h2 hg (hg.xw _ hx) (hg.dw _ ht) (by omega)).mono fun E w' ⟨M', e1, e2, e3, e4, e5⟩ => ⟨e1, M', e3, e2, by omega, e5⟩
end
theorem ask_e {q : LS S29 × Bool × Ans} {b : Bool} {a : Ans} (h : q.2 = (b, a)) : AskE q = .returned (.tuple #[.bool b, .int .i64 (errC a)]) := by
  unfold AskE
  rw [h]
theorem row24 (w : World) (k : ByteArray) : Calls Try.prog 24 #[.string k] w fun E w' => E = .returned (.agg #[.int .i64 4, .string ⟨#[116]⟩, .string k]) ∧ Below w.heap.size w w' := interlocklaw11_row.calls k 4 ⟨#[116]⟩ k w rfl
theorem good0 : Good [1, 2, 3] [tk] (LS.new : LS S29) := Good.new (by decide) (by decide) (fun x hx => by
  simp only [List.mem_cons, List.not_mem_nil, or_false] at hx
  rcases hx with rfl | rfl | rfl <;> (unfold wfI; decide)) (fun t ht => by
  rw [List.mem_singleton] at ht
  subst ht
  unfold wfT wfI
  exact ⟨by decide, by decide, by decide⟩)
set_option maxHeartbeats 4000000 in
theorem alive_calls (w : World) : Calls Try.prog 10 #[] w fun E w' => E = .returned (.bool true) ∧ Below w.heap.size w w' := by
  obtain ⟨Q, hQ⟩ : ∃ Q, (fun E w' => E = Ending.returned (.bool true) ∧ Below w.heap.size w w') = Q := ⟨_, rfl⟩
  have HQ := Aside0.mk hQ
  rw [hQ]
  have hu25 := Try.underlying25
  have hu31 := Try.underlying31
  have hu29 := Try.underlying29
  have hu39 := Try.underlying39
  have hu34 := Try.underlying34
  have g0 := good0
  have g1 : Good [1, 2, 3] [tk] a1.1 := g0.ask 3 (by simp) (by simp)
  have g2 : Good [1, 2, 3] [tk] a2.1 := g1.ask 6 (by simp) (by simp)
  have g3 : Good [1, 2, 3] [tk] a3.1 := g2.ask 3 (by simp) (by simp)
  have A17a := Aside0.mk (fun W lp (h : LA w NoF lp LS.new 0 [] W) => h.ask g0 3 (by simp) (List.mem_singleton.2 rfl) (by decide) (x := 1) (t := tk))
  have A17b := Aside0.mk (fun W lp (h : LA w NoF lp a1.1 1000000 [] W) => h.ask g1 6 (by simp) (List.mem_singleton.2 rfl) (by decide) (x := 2) (t := tk))
  have A17c := Aside0.mk (fun W lp (h : LA w NoF lp a2.1 2000000 [] W) => h.ask g2 3 (by simp) (List.mem_singleton.2 rfl) (by decide) (x := 3) (t := tk))
  have A16 := Aside0.mk (fun W lp (h : LA w NoF lp a3.1 3000000 [] W) => h.blockers g3 (by simp) (by decide) (x := 3))
  have A21 := Aside0.mk (fun W lp (h : LA w NoF lp a3.1 4000000 [] W) => h.release g3 (by simp) (by decide) (x := 1))
  have A14 := Aside0.mk (fun W lp (h : LA w NoF lp (releaseS haddT a3.1 1).1 5000000 [] W) => h.state (g3.release 1) (t := tk) (good0.dw tk (List.mem_singleton.2 rfl)))
  simp only [show askS haddT fitsT LS.new 1 tk 3 = a1 from rfl, ask_e a1_is] at A17a
  simp only [show askS haddT fitsT a1.1 2 tk 6 = a2 from rfl, ask_e a2_is] at A17b
  simp only [show askS haddT fitsT a2.1 3 tk 3 = a3 from rfl, ask_e a3_is] at A17c
  rw [a3_blk] at A16
  rw [a3_rel] at A21
  unfold lpP wantV errC at A17a A17b A17c
  unfold lpP at A16 A21
  unfold lpP thgV at A14
  clear hQ g0 g1 g2 g3
  have G1 : True := trivial
  have G2 : True := trivial
  have G3 : True := trivial
  have G4 : True := trivial
  have G5 : True := trivial
  have G6 : True := trivial
  have G7 : True := trivial
  have G8 : True := trivial
  have G9 : True := trivial
  have G10 : True := trivial
  have G11 : True := trivial
  have G12 : True := trivial
  go_enter Try.func10, Try.ntmps10
  go_wp2_with (first
    | (clear G1; go_at_call 12; refine (LA.new (R := []) (St.nil0 w NoF)).mono ?_; rintro E w1 ⟨lp, rfl, h⟩; have HS1 := Aside0.mk h; clear h; unfold lpP)
    | (clear G2; go_at_call 24; refine (row24 _ _).mono ?_; rintro E w2 ⟨rfl, hb⟩; have HS2 := Aside0.mk (HS1.out.below hb); clear hb HS1)
    | (clear G3; go_at_call 17; refine (A17a.out _ _ HS2.out).mono ?_; rintro E w3 ⟨rfl, h⟩; have HS3 := Aside0.mk h; clear h HS2)
    | (clear G4; go_at_call 24; refine (row24 _ _).mono ?_; rintro E w4 ⟨rfl, hb⟩; have HS4 := Aside0.mk (HS3.out.below hb); clear hb HS3)
    | (clear G5; go_at_call 17; refine (A17b.out _ _ HS4.out).mono ?_; rintro E w5 ⟨rfl, h⟩; have HS5 := Aside0.mk h; clear h HS4)
    | (clear G6; go_at_call 24; refine (row24 _ _).mono ?_; rintro E w6 ⟨rfl, hb⟩; have HS6 := Aside0.mk (HS5.out.below hb); clear hb HS5)
    | (clear G7; go_at_call 17; refine (A17c.out _ _ HS6.out).mono ?_; rintro E w7 ⟨rfl, h⟩; have HS7 := Aside0.mk h; clear h HS6)
    | (clear G8; go_at_call 16; refine (A16.out _ _ HS7.out).mono ?_; rintro E w8 ⟨v, rfl, h⟩; have HS8 := Aside0.mk h; clear h HS7)
    | (clear G9; go_at_call 25; have h := (HS8.out.alloc #[.int .i64 2] 3 rfl); refine (sameints_calls _ v _ [2] [2] (h.rest.rowX 0 rfl) (lit_row (h.rest.blk 1 rfl)) (by decide) (by decide)).mono ?_; rintro E w9 ⟨rfl, hb⟩; have HS9 := Aside0.mk (LA.drop (R := [_, _]) (R' := []) (h.below hb)); clear h hb HS8)
    | (clear G10; go_at_call 21; refine (A21.out _ _ HS9.out).mono ?_; rintro E w10 ⟨u, rfl, h⟩; have HS10 := Aside0.mk h; clear h HS9)
    | (clear G11; go_at_call 25; have h := (HS10.out.alloc #[.int .i64 2] 3 rfl); refine (sameints_calls _ u _ [2] [2] (h.rest.rowX 0 rfl) (lit_row (h.rest.blk 1 rfl)) (by decide) (by decide)).mono ?_; rintro E w11 ⟨rfl, hb⟩; have HS11 := Aside0.mk (LA.drop (R := [_, _]) (R' := []) (h.below hb)); clear h hb HS10)
    | (clear G12; go_at_call 24; refine (row24 _ _).mono ?_; rintro E w12 ⟨rfl, hb⟩; have HS12 := Aside0.mk (HS11.out.below hb); clear hb HS11)
    | (go_at_call 14; refine (A14.out _ _ HS12.out).mono ?_; rintro E w13 ⟨z, rfl, h⟩; obtain ⟨A, c, rfl⟩ := (h.rest.rowX 0 rfl).form; rw [a3_len] at h ⊢; have HS13 := Aside0.mk h; clear h HS12))
  rw [← HQ.out]
  exact ⟨rfl, keep_below HS13.out.rest.keep⟩
end Go.Proofs.Kb
end
section
namespace Go.Proofs.Ytkcjcdkmdooofaa.Q
open Go.RowKit Go.Proofs.YtkcjcdkmdooofaaW.PrintWords Go.Proofs.YtkcjcdkmdooofaaW.PrintLast Go.Proofs.YtkcjcdkmdooofaaW.PrintMore
attribute [local go_sem] max2_int min2_int max_two min_two max_three min_three max_four min_four
set_option linter.unusedVariables false
set_option linter.unusedSimpArgs false
set_option maxRecDepth 100000
def Rd {α : Type} (P : Program) (d : Kd α) (t : TypeId) (wf : α → Prop) : Prop :=
  ∀ {H : Type} (enc : TypeId × Value → H) (w : World) (base : Nat) (spare : Nat → Bool) (held : Bool) (fuel : Nat) (cs : List Value) (x : DataW H × List MemPlace),
    DataW.trod enc P w base spare held fuel t cs = some x → ∃ a, d.K w a cs ∧ wf a
theorem Rd.int {P : Program} {t : TypeId} {k : IntKind} (ht : P.underlying t = some (.int k)) : Rd P (Kd.int k) t (fun n => (Lit.int k n).wf = true) := by
  intro H enc w base spare held fuel cs x h
  obtain ⟨n, rfl, _, hw⟩ := DataW.trod_int ht h
  exact ⟨n, rfl, hw⟩
theorem Rd.bool {P : Program} {t : TypeId} (ht : P.underlying t = some .bool) : Rd P Kd.bool t (fun _ => True) := by
  intro H enc w base spare held fuel cs x h
  obtain ⟨n, rfl, _⟩ := DataW.trod_bool ht h
  exact ⟨n, rfl, trivial⟩
theorem Rd.string {P : Program} {t : TypeId} (ht : P.underlying t = some .string) : Rd P Kd.string t (fun s => s.size ≤ maxLen) := by
  intro H enc w base spare held fuel cs x h
  obtain ⟨n, rfl, _, hs⟩ := DataW.trod_string ht h
  exact ⟨n, rfl, hs⟩
theorem Rd.slice {α : Type} {P : Program} {d : Kd α} {t e : TypeId} {wf : α → Prop} (ht : P.underlying t = some (.slice e)) (hc : P.cellsOf e = d.sz) (hd : Rd P d e wf) :
    Rd P (Kd.slice e d) t (fun l => l.length ≤ maxLen ∧ ∀ a ∈ l, wf a) := by
  intro H enc w base spare held fuel cs x h
  rcases Go.Deep.open_slice ht h with ⟨rfl, _⟩ | ⟨a, len, cap, m, n, D, Pl, rfl, _, hl, hm, hmm, _, hi⟩
  · exact ⟨[], ⟨none, 0, rfl, Nat.le_refl _, rfl, Nat.zero_le _, fun h => absurd h (Nat.lt_irrefl _)⟩, Nat.zero_le _, fun _ h => by cases h⟩
  · have hlm : len ≤ m := by rw [hmm]; split <;> omega
    have hex : ∀ i, i < len → ∃ v, wf v ∧ ∃ c, c.length = d.sz ∧ d.K w v c ∧ ∀ j u, c[j]? = some u → w.cell? (a.add (i * d.sz + j)) = some u := by
      intro i hilt
      obtain ⟨cs', hcs, ht'⟩ := hi i (by omega)
      obtain ⟨v, hK, hw⟩ := hd enc w base spare held n cs' _ ht'
      rw [hc] at hcs
      obtain ⟨_, hlen, hat⟩ := World.cells?_some hcs
      refine ⟨v, hw, cs', hlen, hK, fun j u hj => ?_⟩
      have hjl : j < d.sz := by rw [← hlen]; exact (List.getElem?_eq_some_iff.1 hj).1
      have := hat j hjl
      rw [Go.Deep.add_add] at this
      rw [this, hj]
    have hex' : ∀ i : Fin len, ∃ v, wf v ∧ ∃ c, c.length = d.sz ∧ d.K w v c ∧ ∀ j u, c[j]? = some u → w.cell? (a.add (i.val * d.sz + j)) = some u := fun i => hex i.val i.isLt
    have hch : ∃ g : Fin len → α, ∀ i : Fin len, wf (g i) ∧ ∃ c, c.length = d.sz ∧ d.K w (g i) c ∧ ∀ j u, c[j]? = some u → w.cell? (a.add (i.val * d.sz + j)) = some u := ⟨fun i => Classical.choose (hex' i), fun i => Classical.choose_spec (hex' i)⟩
    obtain ⟨g, hg⟩ := hch
    have hlen : (List.ofFn g).length = len := List.length_ofFn
    refine ⟨List.ofFn g, ⟨some a, cap, by rw [hlen], by rw [hlen]; exact hl, rfl, by rw [hlen]; simp only [maxLen] at hm; omega, fun _ => ⟨a, rfl, fun j p hp => ?_⟩⟩, by rw [hlen]; omega, fun v hv => ?_⟩
    · obtain ⟨hj, he⟩ := List.getElem?_eq_some_iff.1 hp
      rw [List.getElem_ofFn] at he
      subst he
      exact (hg ⟨j, by omega⟩).2
    · obtain ⟨i, rfl⟩ := List.mem_ofFn.1 hv
      exact (hg i).1
theorem Rd.arg_slice {α : Type} {P : Program} {d : Kd α} {t e : TypeId} {wf : α → Prop} (hd : Rd P (Kd.slice e d) t (fun l => l.length ≤ maxLen ∧ ∀ a ∈ l, wf a)) {H : Type} {enc : TypeId × Value → H} {w : World} {base : Nat} {spare : Nat → Bool} {held : Bool} {A : Option Addr} {n c : Nat} {x : DataW H} {p : List MemPlace}
    (h : DataW.Trod enc P w base spare held t (.slice A n c) x p) : ∃ l : List α, l.length = n ∧ d.C w A l.length l ∧ l.length ≤ c ∧ l.length ≤ maxLen ∧ ∀ a ∈ l, wf a := by
  obtain ⟨fuel, hf⟩ := h
  obtain ⟨l, ⟨A', c', he, hl, hC⟩, hm, hw⟩ := hd enc w base spare held fuel _ _ hf
  have he' : [Value.slice A n c] = [.slice A' l.length c'] := he
  injection he' with he' _
  injection he' with h1 h2 h3
  subst h1; subst h3
  exact ⟨l, h2.symm, hC, hl, hm, hw⟩
theorem some_of_len {α : Type} {xs : List α} {n j : Nat} (h : xs.length = n) (hj : j < n) : ∃ y, xs[j]? = some y := ⟨_, List.getElem?_eq_getElem (by omega)⟩
def wf29 (v : S29) : Prop := (fun n => (Lit.int .i64 n).wf = true) v.f0 ∧ (fun s => s.size ≤ maxLen) v.f1 ∧ (fun s => s.size ≤ maxLen) v.f2
theorem rd29 : Rd Try.prog k29 29 wf29 := by
  intro H enc w base spare held fuel cs x h
  obtain ⟨xs, n, _, _, hlen, hl, hf⟩ := DataW.trod_struct Try.underlying29 h
  rw [show Try.prog.cellsOf 29 = 3 by kernel_rfl] at hlen
  obtain ⟨c0, c1, c2, rfl⟩ : ∃ c0 c1 c2, cs = [c0, c1, c2] := by
    match cs, hlen with
    | [c0, c1, c2], _ => exact ⟨c0, c1, c2, rfl⟩
  obtain ⟨y0, hy0⟩ := some_of_len hl (j := 0) (by decide)
  have g0 : DataW.trod enc Try.prog w base spare held n 3 ((([c0, c1, c2] : List Value).drop 0).take (Try.prog.cellsOf 3)) = some y0 := (hf 0 _ rfl).trans hy0
  rw [show Try.prog.cellsOf 3 = 1 by kernel_rfl] at g0
  obtain ⟨a0, K0, w0⟩ := (Rd.int Try.underlying3) enc w base spare held n _ _ g0
  obtain ⟨y1, hy1⟩ := some_of_len hl (j := 1) (by decide)
  have g1 : DataW.trod enc Try.prog w base spare held n 9 ((([c0, c1, c2] : List Value).drop 1).take (Try.prog.cellsOf 9)) = some y1 := (hf 1 _ rfl).trans hy1
  rw [show Try.prog.cellsOf 9 = 1 by kernel_rfl] at g1
  obtain ⟨a1, K1, w1⟩ := (Rd.string Try.underlying9) enc w base spare held n _ _ g1
  obtain ⟨y2, hy2⟩ := some_of_len hl (j := 2) (by decide)
  have g2 : DataW.trod enc Try.prog w base spare held n 9 ((([c0, c1, c2] : List Value).drop 2).take (Try.prog.cellsOf 9)) = some y2 := (hf 2 _ rfl).trans hy2
  rw [show Try.prog.cellsOf 9 = 1 by kernel_rfl] at g2
  obtain ⟨a2, K2, w2⟩ := (Rd.string Try.underlying9) enc w base spare held n _ _ g2
  exact ⟨⟨a0, a1, a2⟩, ⟨[c0], [c1, c2], rfl, K0, ⟨[c1], [c2], rfl, K1, K2⟩⟩, ⟨w0, w1, w2⟩⟩
def wf31 (v : S31) : Prop := wf29 v.f0 ∧ (fun n => (Lit.int .i64 n).wf = true) v.f1
theorem rd31 : Rd Try.prog k31 31 wf31 := by
  intro H enc w base spare held fuel cs x h
  obtain ⟨xs, n, _, _, hlen, hl, hf⟩ := DataW.trod_struct Try.underlying31 h
  rw [show Try.prog.cellsOf 31 = 4 by kernel_rfl] at hlen
  obtain ⟨c0, c1, c2, c3, rfl⟩ : ∃ c0 c1 c2 c3, cs = [c0, c1, c2, c3] := by
    match cs, hlen with
    | [c0, c1, c2, c3], _ => exact ⟨c0, c1, c2, c3, rfl⟩
  obtain ⟨y0, hy0⟩ := some_of_len hl (j := 0) (by decide)
  have g0 : DataW.trod enc Try.prog w base spare held n 29 ((([c0, c1, c2, c3] : List Value).drop 0).take (Try.prog.cellsOf 29)) = some y0 := (hf 0 _ rfl).trans hy0
  rw [show Try.prog.cellsOf 29 = 3 by kernel_rfl] at g0
  obtain ⟨a0, K0, w0⟩ := rd29 enc w base spare held n _ _ g0
  obtain ⟨y1, hy1⟩ := some_of_len hl (j := 1) (by decide)
  have g1 : DataW.trod enc Try.prog w base spare held n 3 ((([c0, c1, c2, c3] : List Value).drop 3).take (Try.prog.cellsOf 3)) = some y1 := (hf 1 _ rfl).trans hy1
  rw [show Try.prog.cellsOf 3 = 1 by kernel_rfl] at g1
  obtain ⟨a1, K1, w1⟩ := (Rd.int Try.underlying3) enc w base spare held n _ _ g1
  exact ⟨⟨a0, a1⟩, ⟨[c0, c1, c2], [c3], rfl, K0, K1⟩, ⟨w0, w1⟩⟩
def wf33 (v : S33) : Prop := (fun n => (Lit.int .i64 n).wf = true) v.f0 ∧ (fun n => (Lit.int .i64 n).wf = true) v.f1 ∧ wf31 v.f2
theorem rd33 : Rd Try.prog k33 33 wf33 := by
  intro H enc w base spare held fuel cs x h
  obtain ⟨xs, n, _, _, hlen, hl, hf⟩ := DataW.trod_struct Try.underlying33 h
  rw [show Try.prog.cellsOf 33 = 6 by kernel_rfl] at hlen
  obtain ⟨c0, c1, c2, c3, c4, c5, rfl⟩ : ∃ c0 c1 c2 c3 c4 c5, cs = [c0, c1, c2, c3, c4, c5] := by
    match cs, hlen with
    | [c0, c1, c2, c3, c4, c5], _ => exact ⟨c0, c1, c2, c3, c4, c5, rfl⟩
  obtain ⟨y0, hy0⟩ := some_of_len hl (j := 0) (by decide)
  have g0 : DataW.trod enc Try.prog w base spare held n 3 ((([c0, c1, c2, c3, c4, c5] : List Value).drop 0).take (Try.prog.cellsOf 3)) = some y0 := (hf 0 _ rfl).trans hy0
  rw [show Try.prog.cellsOf 3 = 1 by kernel_rfl] at g0
  obtain ⟨a0, K0, w0⟩ := (Rd.int Try.underlying3) enc w base spare held n _ _ g0
  obtain ⟨y1, hy1⟩ := some_of_len hl (j := 1) (by decide)
  have g1 : DataW.trod enc Try.prog w base spare held n 3 ((([c0, c1, c2, c3, c4, c5] : List Value).drop 1).take (Try.prog.cellsOf 3)) = some y1 := (hf 1 _ rfl).trans hy1
  rw [show Try.prog.cellsOf 3 = 1 by kernel_rfl] at g1
  obtain ⟨a1, K1, w1⟩ := (Rd.int Try.underlying3) enc w base spare held n _ _ g1
  obtain ⟨y2, hy2⟩ := some_of_len hl (j := 2) (by decide)
  have g2 : DataW.trod enc Try.prog w base spare held n 31 ((([c0, c1, c2, c3, c4, c5] : List Value).drop 2).take (Try.prog.cellsOf 31)) = some y2 := (hf 2 _ rfl).trans hy2
  rw [show Try.prog.cellsOf 31 = 4 by kernel_rfl] at g2
  obtain ⟨a2, K2, w2⟩ := rd31 enc w base spare held n _ _ g2
  exact ⟨⟨a0, a1, a2⟩, ⟨[c0], [c1, c2, c3, c4, c5], rfl, K0, ⟨[c1], [c2, c3, c4, c5], rfl, K1, K2⟩⟩, ⟨w0, w1, w2⟩⟩
end Go.Proofs.Ytkcjcdkmdooofaa.Q
end
section
namespace Go.Proofs.Kb
open Go Go.RowKit Go.Proofs.Ytkcjcdkmdooofaa.Q Go.Proofs.YtkcjcdkmdooofaaW.PrintWords Go.Proofs.YtkcjcdkmdooofaaW.PrintLast Go.Proofs.YtkcjcdkmdooofaaW.PrintMore
set_option linter.unusedVariables false
set_option linter.unusedSimpArgs false
set_option maxRecDepth 100000
open Go.Proofs.Lk Go.Proofs.Mp
section
variable {w0 w w' : World} {F : Nat → Prop} {R R' : List Chunk} {lp k : Nat} {s : LS S29} {X : List Int} {D : List S29}
theorem LA.drew (h : LA w0 F lp s k R w) : LA w0 F lp s k R w.drew := by
  obtain ⟨M, h1, h2, h3, h4⟩ := h
  exact ⟨M, h1, h2, h3, h4.drew⟩
end
theorem great_some (l : List S33) : ∃ b, interlocklaw11_great.f 200 l = some b ∧ (b = false → l.length ≤ 120) := by
  unfold interlocklaw11_great.f
  by_cases h : (l.length : Int) > 120
  · rw [if_pos h]
    exact ⟨true, rfl, fun h => by cases h⟩
  · rw [if_neg h]
    obtain ⟨b, hb⟩ := great_l0 l (by omega) 200 0 (Nat.zero_le _) (by omega)
    exact ⟨b, hb, fun _ => by omega⟩
theorem great_at (w : World) (A : Option Addr) (c : Nat) (l : List S33) (hC : Kd.C k33 w A l.length l) (hcap : l.length ≤ c) {b : Bool} (hb : interlocklaw11_great.f 200 l = some b) :
    Calls Try.prog 11 #[.slice A l.length c] w fun E w' => E = .returned (.bool b) ∧ Below w.heap.size w w' := (interlocklaw11_great.calls 200 A c l b w hC hcap hb).mono fun E w' h => ⟨h.1, h.2.below⟩
structure Arg (w : World) (A : Option Addr) (l : List S33) : Prop where
  row : Kd.C k33 w A l.length l
theorem Arg.cells {w : World} {A : Option Addr} {l : List S33} (h : Arg w A l) {i : Nat} {x : S33} (hx : l[i]? = some x) : ∃ ad, A = some ad ∧ ∀ W, Below w.heap.size w W →
    W.cell? (ad.add (i * 6)) = some (.int .i64 x.f0) ∧ W.cell? ⟨(ad.add (i * 6)).block, (ad.add (i * 6)).off + 1, none⟩ = some (.int .i64 x.f1) ∧ W.cell? ⟨(ad.add (i * 6)).block, (ad.add (i * 6)).off + 2, none⟩ = some (.int .i64 x.f2.f0.f0) ∧
    W.cell? ⟨(ad.add (i * 6)).block, (ad.add (i * 6)).off + 3, none⟩ = some (.string x.f2.f0.f1) ∧ W.cell? ⟨(ad.add (i * 6)).block, (ad.add (i * 6)).off + 4, none⟩ = some (.string x.f2.f0.f2) ∧ W.cell? ⟨(ad.add (i * 6)).block, (ad.add (i * 6)).off + 5, none⟩ = some (.int .i64 x.f2.f1) := by
  have hi := (List.getElem?_eq_some_iff.1 hx).1
  have hr : rd_T33 l (i : Int) = x := by simp [rd_T33, List.getD_eq_getElem?_getD, hx]
  obtain ⟨ad, hA, d0, d1, d2, d3, d4, d5⟩ := at_T33 h.row (i : Int) (by omega) (by omega)
  rw [hr, Int.toNat_natCast] at d0 d1 d2 d3 d4 d5
  exact ⟨ad, hA, fun W hb => ⟨pw_cell_below hb d0, pw_cell_below hb d1, pw_cell_below hb d2, pw_cell_below hb d3, pw_cell_below hb d4, pw_cell_below hb d5⟩⟩
theorem wf_I {c : S33} (h : wf33 c) : wfI c.f1 := h.2.1
theorem wf_T {c : S33} (h : wf33 c) : wfT c.f2.f0 := ⟨h.2.2.1.1, h.2.2.1.2.1, h.2.2.1.2.2⟩
def txnsOf (l : List S33) : List Int := l.map (·.f1)
def thgsOf (l : List S33) : List S29 := l.map (·.f2.f0)
theorem good_new {l : List S33} (hn : l.length ≤ 120) (hw : ∀ a ∈ l, wf33 a) : Good (txnsOf l) (thgsOf l) (LS.new : LS S29) :=
  Good.new (by simp only [txnsOf, List.length_map]; omega) (by simp only [thgsOf, List.length_map]; omega) (fun x hx => by
    obtain ⟨c, hc, rfl⟩ := List.mem_map.1 hx
    exact wf_I (hw c hc)) (fun t ht => by
    obtain ⟨c, hc, rfl⟩ := List.mem_map.1 ht
    exact wf_T (hw c hc))
theorem good_do {l : List S33} {s : LS S29} (h : Good (txnsOf l) (thgsOf l) s) {c : S33} (hc : c ∈ l) : Good (txnsOf l) (thgsOf l) (stepS haddT fitsT s (calOf c)) :=
  h.step (calOf c) (List.mem_map.2 ⟨c, hc, rfl⟩) (List.mem_map.2 ⟨c, hc, rfl⟩)
theorem stateL_get {r : LRow} {a : Nat} {h : S37} (ha : (stateL r)[a]? = some h) : (∃ o, r.holds[a]? = some o ∧ h = ⟨o.1, o.2, false⟩) ∨ (∃ o ∈ r.waits, h = ⟨o.1, o.2, true⟩) := by
  unfold stateL heldL at ha
  rw [List.getElem?_append] at ha
  split at ha
  · rw [List.getElem?_map, Option.map_eq_some_iff] at ha
    obtain ⟨o, h1, h2⟩ := ha
    exact .inl ⟨o, h1, h2.symm⟩
  · rw [List.getElem?_map, Option.map_eq_some_iff] at ha
    obtain ⟨o, h1, h2⟩ := ha
    exact .inr ⟨o, List.mem_of_getElem? h1, h2.symm⟩
theorem srtI_nodup (l : List Int) : (srtI l).Nodup := List.Pairwise.imp (fun {a b} h => by omega) (srtI_sorted l)
theorem blockS_len {X : List Int} {D : List S29} {s : LS S29} (h : Good X D s) (x : Int) : (blockS srtI s x).length ≤ 299 := by
  refine Nat.le_trans (nodup_le (l' := X) ?_ fun y hy => ?_) h.xl
  · unfold blockS
    split
    · exact List.nodup_nil
    · split
      · exact List.nodup_nil
      · exact srtI_nodup _
  · obtain ⟨⟨t, ht⟩, _⟩ := block_pres (srt := srtI) mem_srtI hy
    exact (h.am t y ht).1
def SafeI (w : World) (l : List S33) (lp i : Nat) (W : World) : Prop := ∃ s, Good (txnsOf l) (thgsOf l) s ∧ LA w NoF lp s (1000000000 * i) [] W
set_option maxHeartbeats 8000000 in
theorem safe_row (w : World) (A0 : Option Addr) (c0 : Nat) (l : List S33) (hC : Kd.C k33 w A0 l.length l) (hcap : l.length ≤ c0) (hwf : l.length ≤ maxLen ∧ ∀ a ∈ l, wf33 a) :
    Calls Try.prog 3 #[.slice A0 l.length c0] w fun E w' => E = .returned (.bool true) ∧ Below w.heap.size w w' := by
  obtain ⟨Q, hQ⟩ : ∃ Q, (fun E w' => E = Ending.returned (.bool true) ∧ Below w.heap.size w w') = Q := ⟨_, rfl⟩
  have HQ := Aside0.mk hQ
  rw [hQ]
  have hu33 := Try.underlying33
  have hu31 := Try.underlying31
  have hu29 := Try.underlying29
  have hu22 := Try.underlying22
  have hu39 := Try.underlying39
  have hu34 := Try.underlying34
  have hu37 := Try.underlying37
  have HA := Aside0.mk (Arg.mk hC)
  have HW := Aside0.mk hwf.2
  obtain ⟨b, hb1, hb2⟩ := great_some l
  have A11 := Aside0.mk (fun W (hb : Below w.heap.size w W) => great_at W A0 c0 l (Kd.C_below hC hb) hcap hb1)
  obtain ⟨n, hnn⟩ : ∃ n, l.length = n := ⟨_, rfl⟩
  rw [hnn] at A11 hb2 ⊢
  have HN := Aside0.mk hnn
  clear hQ hC hcap hwf hnn hb1
  have G1 : True := trivial
  have G2 : True := trivial
  cases b with
  | true =>
    clear hb2
    go_enter Try.func3, Try.ntmps3
    go_wp2_with (first
      | (clear G1; go_at_call 10; refine (alive_calls w).mono ?_; rintro E w1 ⟨rfl, hb⟩; have HB1 := Aside0.mk hb; clear hb)
      | (clear G2; go_at_call 11; refine (A11.out _ HB1.out).mono ?_; rintro E w2 ⟨rfl, hb⟩; have HB2 := Aside0.mk (HB1.out.trans (hb.mono HB1.out.size)); clear hb))
    rw [← HQ.out]
    exact ⟨rfl, HB2.out⟩
  | false =>
    have hn120 : n ≤ 120 := hb2 rfl
    have HG0 := Aside0.mk (good_new (l := l) (by rw [HN.out]; exact hn120) HW.out)
    clear hb2
    go_enter Try.func3, Try.ntmps3
    go_wp2_with (first
      | (clear G1; go_at_call 10; refine (alive_calls w).mono ?_; rintro E w1 ⟨rfl, hb⟩; have HB1 := Aside0.mk hb; clear hb)
      | (clear G2; go_at_call 11; refine (A11.out _ HB1.out).mono ?_; rintro E w2 ⟨rfl, hb⟩; have HB2 := Aside0.mk (HB1.out.trans (hb.mono HB1.out.size)); clear hb)
      | (go_at_call 12; refine (LA.new (R := []) ((St.nil0 w NoF).below HB2.out)).mono ?_; rintro E w3 ⟨lp, rfl, h⟩; have HS3 := Aside0.mk (show SafeI w l lp 0 w3 from ⟨LS.new, HG0.out, h⟩); clear h HB1 HB2; unfold lpP))
    clear A11
    go_loopg [4, 5, 6, 7, 8, 9] n (fun gq v4 v5 v6 v7 v8 v9 wx => ∃ i : Nat, v4 = .int .i64 i ∧ i + gq = n ∧ Aside0 (SafeI w l lp i wx))
    case atStart => exact ⟨0, rfl, by omega, HS3⟩
    case round =>
      clear HS3
      obtain ⟨i, rfl, hi, HSI⟩ := hrel
      obtain ⟨s, hgs, hla⟩ := HSI.out
      clear HSI
      cases gk with
      | zero =>
        obtain rfl : i = n := by omega
        go_wp2
        rw [← HQ.out]
        exact ⟨rfl, keep_below hla.rest.keep⟩
      | succ gq =>
        have hin : i < n := by omega
        have hin2 : (i : Int) < (n : Int) := by omega
        have hi0 : (0 : Int) ≤ (i : Int) := by omega
        have hi9 : (i : Int) ≤ 1000000 := by omega
        obtain ⟨c, hc⟩ : ∃ c, l[i]? = some c := ⟨_, List.getElem?_eq_getElem (by rw [HN.out]; exact hin)⟩
        obtain ⟨ad, rfl, hcell⟩ := HA.out.cells hc
        have HCELL := Aside0.mk hcell
        obtain ⟨d0, d1, d2, d3, d4, d5⟩ := hcell wr (keep_below hla.rest.keep)
        have hcm := List.mem_of_getElem? hc
        have hg' := good_do hgs hcm
        have A13 := Aside0.mk (hla.do hgs c (List.mem_map.2 ⟨c, hcm, rfl⟩) (List.mem_map.2 ⟨c, hcm, rfl⟩) (by omega))
        obtain ⟨s', hs'⟩ : ∃ s', stepS haddT fitsT s (calOf c) = s' := ⟨_, rfl⟩
        rw [hs'] at hg' A13
        have A14 := Aside0.mk (fun W (h : LA w NoF lp s' (1000000000 * i + 1000000) [] W) => h.state hg' (t := c.f2.f0) (wf_T (HW.out c hcm)))
        obtain ⟨L, hL⟩ : ∃ L, stateL (s'.rows c.f2.f0) = L := ⟨_, rfl⟩
        rw [hL] at A14
        have HL := Aside0.mk hL
        have HG := Aside0.mk hg'
        obtain ⟨N, hNN⟩ : ∃ N, L.length = N := ⟨_, rfl⟩
        have hN6 : N < 600 := by
          have := (hg'.ok.rows c.f2.f0).len
          rw [← hNN, ← hL]
          unfold stateL heldL
          simp only [List.length_append, List.length_map]
          omega
        have HNN := Aside0.mk hNN
        unfold lpP callV at A13
        unfold lpP thgV at A14
        clear hc hcell hcm hgs hla hs' hL hg' hNN
        have G3 : True := trivial
        go_wp2_with (first
          | (clear G3; go_at_call 13; refine A13.out.mono ?_; rintro E w4 ⟨rfl, h⟩; have HS4 := Aside0.mk h; clear d0 d1 d2 d3 d4 d5; obtain ⟨d0, d1, d2, d3, d4, d5⟩ := HCELL.out w4 (keep_below h.rest.keep); clear h A13)
          | (go_at_call 14; refine (A14.out _ HS4.out).mono ?_; rintro E w5 ⟨v, rfl, h⟩; obtain ⟨AS, cS, rfl⟩ := (h.rest.rowX 0 rfl).form; rw [HNN.out] at h ⊢; have HS5 := Aside0.mk h; clear h d0 d1 d2 d3 d4 d5 A14 HS4))
        go_loopg [6, 7, 8, 9] N (fun gq v6 v7 v8 v9 wx => ∃ a : Nat, v6 = .int .i64 a ∧ a + gq = N ∧ Aside0 (LA w NoF lp s' (1000000000 * i + 1000000 + 1000000 * a) [rowHC (.slice AS N cS) L] wx))
        case atStart => exact ⟨0, rfl, by omega, HS5⟩
        case round =>
          clear HS5
          obtain ⟨a, rfl, ha, HS⟩ := hrel
          cases gk with
          | zero =>
            obtain rfl : a = N := by omega
            have HS6 := Aside0.mk (show SafeI w l lp (i + 1) wr from ⟨s', HG.out, (LA.drop (R := [_]) (R' := []) HS.out).mono (by omega)⟩)
            clear HS
            go_wp2
            go_roundg gq
            case measure => omega
            case rel => exact ⟨i + 1, by go_num, by omega, HS6⟩
          | succ gq2 =>
            have han : a < N := by omega
            have han2 : (a : Int) < (N : Int) := by omega
            have ha0 : (0 : Int) ≤ (a : Int) := by omega
            have ha9 : (a : Int) ≤ 1000000 := by omega
            obtain ⟨hA, hhA⟩ : ∃ h, L[a]? = some h := ⟨_, List.getElem?_eq_getElem (by rw [HNN.out]; exact han)⟩
            have HHA := Aside0.mk hhA
            obtain ⟨gS, cS', hv, _⟩ := row_slice (HS.out.rest.rowX 0 rfl) (by rw [HNN.out]; omega)
            obtain ⟨rfl, rfl⟩ : AS = some ⟨gS, 0, none⟩ ∧ cS = cS' := by
              injection hv with e1 e2 e3
              exact ⟨e1, e3⟩
            clear hhA hv
            go_wp2
            go_loopg [7] a (fun gq v7 wx => ∃ b : Nat, v7 = .int .i64 b ∧ b + gq = a ∧ Aside0 (LA w NoF lp s' (1000000000 * i + 1000000 + 1000000 * a) [rowHC (.slice (some ⟨gS, 0, none⟩) N cS) L] wx))
            case atStart => exact ⟨0, rfl, by omega, HS⟩
            case round =>
              clear HS
              obtain ⟨b, rfl, hb, HS⟩ := hrel
              obtain ⟨d0, d1, d2⟩ := (HS.out.rest.rowX 0 rfl).held HHA.out
              have hgl := World.block_lt_of_cell? _ _ d0
              cases gk with
              | zero =>
                obtain rfl : b = a := by omega
                cases hwt : hA.f2 with
                | false =>
                  rw [hwt] at d2
                  have HS7 := Aside0.mk (HS.out.mono (show 1000000000 * i + 1000000 + 1000000 * b ≤ 1000000000 * i + 1000000 + 1000000 * (b + 1) by omega))
                  clear HS hwt
                  go_wp2
                  go_roundg gq2
                  case measure => omega
                  case rel => exact ⟨b + 1, by go_num, by omega, HS7⟩
                | true =>
                  rw [hwt] at d2
                  obtain ⟨o, hom, hoe⟩ : ∃ o ∈ (s'.rows c.f2.f0).waits, hA = ⟨o.1, o.2, true⟩ := by
                    rcases stateL_get (HL.out.symm ▸ HHA.out) with ⟨o, _, e⟩ | h
                    · rw [e] at hwt
                      cases hwt
                    · exact h
                  have hfx : hA.f0 = o.1 := by rw [hoe]
                  have hhas : has (s'.rows c.f2.f0).waits o.1 = true := has_iff.2 ⟨o, hom, rfl⟩
                  have hwx := (HG.out.inv.ww o.1 c.f2.f0).2 hhas
                  have hX := (HG.out.am c.f2.f0 o.1 (.inr hhas)).1
                  rw [← hfx] at hwx hX
                  have A16 := Aside0.mk (HS.out.blockers HG.out hX (by omega))
                  have hne := block_ne (srt := srtI) mem_srtI HG.out.inv hwx
                  have hnx : ∀ y ∈ blockS srtI s' hA.f0, y ≠ hA.f0 := fun y hy => (block_pres mem_srtI hy).2
                  obtain ⟨ks, hks⟩ : ∃ ks, blockS srtI s' hA.f0 = ks := ⟨_, rfl⟩
                  rw [hks] at A16 hne hnx
                  obtain ⟨nk, hnk⟩ : ∃ nk, ks.length = nk := ⟨_, rfl⟩
                  have hnk0 : 0 < nk := by rw [← hnk]; exact List.length_pos_iff.2 hne
                  have hnk9 : nk < 100000000 := by rw [← hnk, ← hks]; exact Nat.lt_of_le_of_lt (blockS_len HG.out _) (by omega)
                  have hnk1 : ¬ (nk : Int) = 0 := by omega
                  have hnk2 : ¬ nk = 0 := by omega
                  have HNK := Aside0.mk hnk
                  have HNX := Aside0.mk hnx
                  unfold lpP at A16
                  clear hwt hom hoe hfx hhas hwx hX hne hnx hks hnk
                  go_wp2_with (go_at_call 16; refine A16.out.mono ?_; rintro E w6 ⟨v, rfl, h⟩; obtain ⟨AK, cK, rfl⟩ := (h.rest.rowX 0 rfl).form; rw [HNK.out] at h ⊢; have HS6 := Aside0.mk h; clear h d0 d1 d2 hgl A16 HS)
                  go_loopg [9] nk (fun gq v9 wx => ∃ e : Nat, v9 = .int .i64 e ∧ e + gq = nk ∧ Aside0 (LA w NoF lp s' (1000000000 * i + 1000000 + 1000000 * b + 1000000) [rowIC (.slice AK nk cK) ks, rowHC (.slice (some ⟨gS, 0, none⟩) N cS) L] wx))
                  case atStart => exact ⟨0, rfl, by omega, HS6⟩
                  case round =>
                    clear HS6
                    obtain ⟨e, rfl, he, HS⟩ := hrel
                    cases gk with
                    | zero =>
                      obtain rfl : e = nk := by omega
                      have HS7 := Aside0.mk ((LA.drop (R := [_]) (R' := [_]) HS.out).mono (show 1000000000 * i + 1000000 + 1000000 * b + 1000000 ≤ 1000000000 * i + 1000000 + 1000000 * (b + 1) by omega))
                      clear HS
                      go_wp2
                      go_roundg gq2
                      case measure => omega
                      case rel => exact ⟨b + 1, by go_num, by omega, HS7⟩
                    | succ gq3 =>
                      have hen : e < nk := by omega
                      have hen2 : (e : Int) < (nk : Int) := by omega
                      have he0 : (0 : Int) ≤ (e : Int) := by omega
                      have he9 : (e : Int) ≤ 100000000 := by omega
                      obtain ⟨y, hy⟩ : ∃ y, ks[e]? = some y := ⟨_, List.getElem?_eq_getElem (by rw [HNK.out]; exact hen)⟩
                      have hyx := HNX.out y (List.mem_of_getElem? hy)
                      have HY := Aside0.mk hy
                      obtain ⟨gK, cK', hv, _⟩ := row_slice (HS.out.rest.rowX 0 rfl) (by rw [HNK.out]; omega)
                      obtain ⟨rfl, rfl⟩ : AK = some ⟨gK, 0, none⟩ ∧ cK = cK' := by
                        injection hv with e1 e2 e3
                        exact ⟨e1, e3⟩
                      clear hy hv
                      go_wp2
                      refine start_ (n := 10) (S := fun w' => w'.cell? ⟨gK, e, none⟩ = some (.int .i64 y) ∧ w'.cell? ⟨gS, b * 3, none⟩ = some (.int .i64 hA.f0)) (ds := []) #[false, false, false, false, false, false, false, false, false, false] (by kernel_rfl) rfl rfl ⟨((HS.out.rest.rowX 0 rfl).int HY.out), ((HS.out.rest.rowX 1 rfl).held HHA.out).1⟩ (fun hHeld => ?_)
                      have HS1 := Aside0.mk (HS.out.drew)
                      clear HS
                      generalize wr.drew = w7 at HS1 hHeld  ⊢
                      refine pure_ (i := 0) (N := (some 107)) (v := ?_) (a' := ?_) #[true, false, false, false, false, false, false, false, false, false] rfl rfl (by kernel_rfl) (fun _ _ _ h => h) (Or.inl ⟨by rfl, ?_⟩) ?_ ?_
                      rotate_left
                      · intro w'
                        go_simp
                        with_reducible rfl
                      rotate_left
                      · simp only [Act.put, List.setIfInBounds_toArray, List.set_cons_zero, List.set_cons_succ, i64_w, i32_w]
                        rfl
                      refine pure_ (i := 1) (N := (some 108)) (v := ?_) (a' := ?_) #[true, true, false, false, false, false, false, false, false, false] rfl rfl (by kernel_rfl) (fun _ _ _ h => h) (Or.inl ⟨by rfl, ?_⟩) ?_ ?_
                      rotate_left
                      · intro w'
                        go_simp
                        with_reducible rfl
                      rotate_left
                      · simp only [Act.put, List.setIfInBounds_toArray, List.set_cons_zero, List.set_cons_succ, i64_w, i32_w]
                        rfl
                      refine pure_ (i := 2) (N := (some 109)) (v := ?_) (a' := ?_) #[true, true, true, false, false, false, false, false, false, false] rfl rfl (by kernel_rfl) (fun _ _ _ h => h) (Or.inl ⟨by rfl, ?_⟩) ?_ ?_
                      rotate_left
                      · intro w'
                        go_simp
                        with_reducible rfl
                      rotate_left
                      · simp only [Act.put, List.setIfInBounds_toArray, List.set_cons_zero, List.set_cons_succ, i64_w, i32_w]
                        rfl
                      refine pure_ (i := 4) (N := (some 111)) (v := ?_) (a' := ?_) #[true, true, true, false, true, false, false, false, false, false] rfl rfl (by kernel_rfl) (fun _ _ _ h => h) (Or.inl ⟨by rfl, ?_⟩) ?_ ?_
                      rotate_left
                      · intro w'
                        go_simp
                        with_reducible rfl
                      rotate_left
                      · simp only [Act.put, List.setIfInBounds_toArray, List.set_cons_zero, List.set_cons_succ, i64_w, i32_w]
                        rfl
                      refine pure_ (i := 5) (N := (some 112)) (v := ?_) (a' := ?_) #[true, true, true, false, true, true, false, false, false, false] rfl rfl (by kernel_rfl) (fun _ _ _ h => h) (Or.inl ⟨by rfl, ?_⟩) ?_ ?_
                      rotate_left
                      · intro w'
                        go_simp
                        with_reducible rfl
                      rotate_left
                      · simp only [Act.put, List.setIfInBounds_toArray, List.set_cons_zero, List.set_cons_succ, i64_w, i32_w]
                        rfl
                      refine pure_ (i := 6) (N := (some 113)) (v := ?_) (a' := ?_) #[true, true, true, false, true, true, true, false, false, false] rfl rfl (by kernel_rfl) (fun _ _ _ h => h) (Or.inl ⟨by rfl, ?_⟩) ?_ ?_
                      rotate_left
                      · intro w'
                        go_simp
                        with_reducible rfl
                      rotate_left
                      · simp only [Act.put, List.setIfInBounds_toArray, List.set_cons_zero, List.set_cons_succ, i64_w, i32_w]
                        rfl
                      refine pure_ (i := 7) (N := (some 114)) (v := ?_) (a' := ?_) #[true, true, true, false, true, true, true, true, false, false] rfl rfl (by kernel_rfl) (fun _ _ _ h => h) (Or.inl ⟨by rfl, ?_⟩) ?_ ?_
                      rotate_left
                      · intro w'
                        go_simp
                        with_reducible rfl
                      rotate_left
                      · simp only [Act.put, List.setIfInBounds_toArray, List.set_cons_zero, List.set_cons_succ, i64_w, i32_w]
                        rfl
                      refine take_ (i := 3) (N := (some 110)) (v := ?_) (a' := ?_) #[true, true, true, true, true, true, true, true, false, false] rfl rfl (by kernel_rfl) (fun _ _ _ h => h) (Or.inl ⟨by rfl, ?_⟩) hHeld ?_ ?_
                      rotate_left
                      · rintro w' ⟨s0, s1⟩
                        go_simp
                        with_reducible rfl
                      rotate_left
                      · simp only [Act.put, List.setIfInBounds_toArray, List.set_cons_zero, List.set_cons_succ, i64_w, i32_w]
                        rfl
                      refine take_ (i := 8) (N := (some 115)) (v := ?_) (a' := ?_) #[true, true, true, true, true, true, true, true, true, false] rfl rfl (by kernel_rfl) (fun _ _ _ h => h) (Or.inl ⟨by rfl, ?_⟩) hHeld ?_ ?_
                      rotate_left
                      · rintro w' ⟨s0, s1⟩
                        go_simp
                        with_reducible rfl
                      rotate_left
                      · simp only [Act.put, List.setIfInBounds_toArray, List.set_cons_zero, List.set_cons_succ, i64_w, i32_w]
                        rfl
                      refine pure_ (i := 9) (N := (some 116)) (v := ?_) (a' := ?_) #[true, true, true, true, true, true, true, true, true, true] rfl rfl (by kernel_rfl) (fun _ _ _ h => h) (Or.inl ⟨by rfl, ?_⟩) ?_ ?_
                      rotate_left
                      · intro w'
                        go_simp
                        with_reducible rfl
                      rotate_left
                      · simp only [Act.put, List.setIfInBounds_toArray, List.set_cons_zero, List.set_cons_succ, i64_w, i32_w]
                        rfl
                      refine done_ (by kernel_rfl) ?_
                      clear hHeld
                      go_wp2
                      go_roundg gq3
                      case measure => omega
                      case rel => exact ⟨e + 1, by go_num, by omega, HS1⟩
              | succ gq3 =>
                have hbn : b < N := by omega
                have hbn2 : (b : Int) < (N : Int) := by omega
                have hba : (b : Int) < (a : Int) := by omega
                have hb0 : (0 : Int) ≤ (b : Int) := by omega
                have hb9 : (b : Int) ≤ 1000000 := by omega
                obtain ⟨hB, hhB⟩ : ∃ h, L[b]? = some h := ⟨_, List.getElem?_eq_getElem (by rw [HNN.out]; exact hbn)⟩
                have HHB := Aside0.mk hhB
                clear hhB d0 d1 d2 hgl
                cases hwA : hA.f2 with
                | true =>
                  have HWA := Aside0.mk hwA
                  clear hwA
                  go_wp2
                  refine start_ (n := 40) (S := fun w' => w'.cell? ⟨gS, a * 3 + 2, none⟩ = some (.bool true)) (ds := []) #[false, false, false, false, false, false, false, false, false, false, false, false, false, false, false, false, false, false, false, false, false, false, false, false, false, false, false, false, false, false, false, false, false, false, false, false, false, false, false, false] (by kernel_rfl) rfl rfl (HWA.out ▸ ((HS.out.rest.rowX 0 rfl).held HHA.out).2.2) (fun hHeld => ?_)
                  have HS1 := Aside0.mk (HS.out.drew)
                  clear HS
                  generalize wr.drew = w7 at HS1 hHeld  ⊢
                  refine pure_ (i := 0) (N := (some 46)) (v := ?_) (a' := ?_) #[true, false, false, false, false, false, false, false, false, false, false, false, false, false, false, false, false, false, false, false, false, false, false, false, false, false, false, false, false, false, false, false, false, false, false, false, false, false, false, false] rfl rfl (by kernel_rfl) (fun _ _ _ h => h) (Or.inl ⟨by rfl, ?_⟩) ?_ ?_
                  rotate_left
                  · intro w'
                    go_simp
                    with_reducible rfl
                  rotate_left
                  · simp only [Act.put, List.setIfInBounds_toArray, List.set_cons_zero, List.set_cons_succ, i64_w, i32_w]
                    rfl
                  refine pure_ (i := 1) (N := (some 47)) (v := ?_) (a' := ?_) #[true, true, false, false, false, false, false, false, false, false, false, false, false, false, false, false, false, false, false, false, false, false, false, false, false, false, false, false, false, false, false, false, false, false, false, false, false, false, false, false] rfl rfl (by kernel_rfl) (fun _ _ _ h => h) (Or.inl ⟨by rfl, ?_⟩) ?_ ?_
                  rotate_left
                  · intro w'
                    go_simp
                    with_reducible rfl
                  rotate_left
                  · simp only [Act.put, List.setIfInBounds_toArray, List.set_cons_zero, List.set_cons_succ, i64_w, i32_w]
                    rfl
                  refine pure_ (i := 2) (N := (some 48)) (v := ?_) (a' := ?_) #[true, true, true, false, false, false, false, false, false, false, false, false, false, false, false, false, false, false, false, false, false, false, false, false, false, false, false, false, false, false, false, false, false, false, false, false, false, false, false, false] rfl rfl (by kernel_rfl) (fun _ _ _ h => h) (Or.inl ⟨by rfl, ?_⟩) ?_ ?_
                  rotate_left
                  · intro w'
                    go_simp
                    with_reducible rfl
                  rotate_left
                  · simp only [Act.put, List.setIfInBounds_toArray, List.set_cons_zero, List.set_cons_succ, i64_w, i32_w]
                    rfl
                  refine pure_ (i := 3) (N := (some 49)) (v := ?_) (a' := ?_) #[true, true, true, true, false, false, false, false, false, false, false, false, false, false, false, false, false, false, false, false, false, false, false, false, false, false, false, false, false, false, false, false, false, false, false, false, false, false, false, false] rfl rfl (by kernel_rfl) (fun _ _ _ h => h) (Or.inl ⟨by rfl, ?_⟩) ?_ ?_
                  rotate_left
                  · intro w'
                    go_simp
                    with_reducible rfl
                  rotate_left
                  · simp only [Act.put, List.setIfInBounds_toArray, List.set_cons_zero, List.set_cons_succ, i64_w, i32_w]
                    rfl
                  refine take_ (i := 4) (N := (some 50)) (v := ?_) (a' := ?_) #[true, true, true, true, true, false, false, false, false, false, false, false, false, false, false, false, false, false, false, false, false, false, false, false, false, false, false, false, false, false, false, false, false, false, false, false, false, false, false, false] rfl rfl (by kernel_rfl) (fun _ _ _ h => h) (Or.inl ⟨by rfl, ?_⟩) hHeld ?_ ?_
                  rotate_left
                  · rintro w' s0
                    go_simp
                    with_reducible rfl
                  rotate_left
                  · simp only [Act.put, List.setIfInBounds_toArray, List.set_cons_zero, List.set_cons_succ, i64_w, i32_w]
                    rfl
                  refine pure_ (i := 5) (N := (some 51)) (v := ?_) (a' := ?_) #[true, true, true, true, true, true, false, false, false, false, false, false, false, false, false, false, false, false, false, false, false, false, false, false, false, false, false, false, false, false, false, false, false, false, false, false, false, false, false, false] rfl rfl (by kernel_rfl) (fun _ _ _ h => h) (Or.inl ⟨by rfl, ?_⟩) ?_ ?_
                  rotate_left
                  · intro w'
                    go_simp
                    with_reducible rfl
                  rotate_left
                  · simp only [Act.put, List.setIfInBounds_toArray, List.set_cons_zero, List.set_cons_succ, i64_w, i32_w]
                    rfl
                  refine pure_ (i := 6) (N := (some 52)) (v := ?_) (a' := ?_) #[true, true, true, true, true, true, true, false, false, false, false, false, false, false, false, false, false, false, false, false, false, false, false, false, false, false, false, false, false, false, false, false, false, false, false, false, false, false, false, false] rfl rfl (by kernel_rfl) (fun _ _ _ h => h) (Or.inl ⟨by rfl, ?_⟩) ?_ ?_
                  rotate_left
                  · intro w'
                    go_simp
                    with_reducible rfl
                  rotate_left
                  · simp only [Act.put, List.setIfInBounds_toArray, List.set_cons_zero, List.set_cons_succ, i64_w, i32_w]
                    rfl
                  refine pure_ (i := 7) (N := (some 53)) (v := undef) (a' := ?_) #[true, true, true, true, true, true, true, true, false, false, false, false, false, false, false, false, false, false, false, false, false, false, false, false, false, false, false, false, false, false, false, false, false, false, false, false, false, false, false, false] rfl rfl (by kernel_rfl) (fun _ _ _ h => h) (Or.inr ⟨by rfl, rfl⟩) ?_ ?_
                  rotate_left
                  · simp only [Act.put, List.setIfInBounds_toArray, List.set_cons_zero, List.set_cons_succ, i64_w, i32_w]
                    rfl
                  refine pure_ (i := 8) (N := (some 54)) (v := undef) (a' := ?_) #[true, true, true, true, true, true, true, true, true, false, false, false, false, false, false, false, false, false, false, false, false, false, false, false, false, false, false, false, false, false, false, false, false, false, false, false, false, false, false, false] rfl rfl (by kernel_rfl) (fun _ _ _ h => h) (Or.inr ⟨by rfl, rfl⟩) ?_ ?_
                  rotate_left
                  · simp only [Act.put, List.setIfInBounds_toArray, List.set_cons_zero, List.set_cons_succ, i64_w, i32_w]
                    rfl
                  refine pure_ (i := 9) (N := (some 55)) (v := undef) (a' := ?_) #[true, true, true, true, true, true, true, true, true, true, false, false, false, false, false, false, false, false, false, false, false, false, false, false, false, false, false, false, false, false, false, false, false, false, false, false, false, false, false, false] rfl rfl (by kernel_rfl) (fun _ _ _ h => h) (Or.inr ⟨by rfl, rfl⟩) ?_ ?_
                  rotate_left
                  · simp only [Act.put, List.setIfInBounds_toArray, List.set_cons_zero, List.set_cons_succ, i64_w, i32_w]
                    rfl
                  refine pure_ (i := 10) (N := (some 56)) (v := undef) (a' := ?_) #[true, true, true, true, true, true, true, true, true, true, true, false, false, false, false, false, false, false, false, false, false, false, false, false, false, false, false, false, false, false, false, false, false, false, false, false, false, false, false, false] rfl rfl (by kernel_rfl) (fun _ _ _ h => h) (Or.inr ⟨by rfl, rfl⟩) ?_ ?_
                  rotate_left
                  · simp only [Act.put, List.setIfInBounds_toArray, List.set_cons_zero, List.set_cons_succ, i64_w, i32_w]
                    rfl
                  refine pure_ (i := 11) (N := (some 57)) (v := undef) (a' := ?_) #[true, true, true, true, true, true, true, true, true, true, true, true, false, false, false, false, false, false, false, false, false, false, false, false, false, false, false, false, false, false, false, false, false, false, false, false, false, false, false, false] rfl rfl (by kernel_rfl) (fun _ _ _ h => h) (Or.inr ⟨by rfl, rfl⟩) ?_ ?_
                  rotate_left
                  · simp only [Act.put, List.setIfInBounds_toArray, List.set_cons_zero, List.set_cons_succ, i64_w, i32_w]
                    rfl
                  refine pure_ (i := 12) (N := (some 58)) (v := undef) (a' := ?_) #[true, true, true, true, true, true, true, true, true, true, true, true, true, false, false, false, false, false, false, false, false, false, false, false, false, false, false, false, false, false, false, false, false, false, false, false, false, false, false, false] rfl rfl (by kernel_rfl) (fun _ _ _ h => h) (Or.inr ⟨by rfl, rfl⟩) ?_ ?_
                  rotate_left
                  · simp only [Act.put, List.setIfInBounds_toArray, List.set_cons_zero, List.set_cons_succ, i64_w, i32_w]
                    rfl
                  refine pure_ (i := 13) (N := (some 59)) (v := ?_) (a' := ?_) #[true, true, true, true, true, true, true, true, true, true, true, true, true, true, false, false, false, false, false, false, false, false, false, false, false, false, false, false, false, false, false, false, false, false, false, false, false, false, false, false] rfl rfl (by kernel_rfl) (fun _ _ _ h => h) (Or.inl ⟨by rfl, ?_⟩) ?_ ?_
                  rotate_left
                  · intro w'
                    go_simp
                    with_reducible rfl
                  rotate_left
                  · simp only [Act.put, List.setIfInBounds_toArray, List.set_cons_zero, List.set_cons_succ, i64_w, i32_w]
                    rfl
                  refine pure_ (i := 14) (N := (some 60)) (v := ?_) (a' := ?_) #[true, true, true, true, true, true, true, true, true, true, true, true, true, true, true, false, false, false, false, false, false, false, false, false, false, false, false, false, false, false, false, false, false, false, false, false, false, false, false, false] rfl rfl (by kernel_rfl) (fun _ _ _ h => h) (Or.inl ⟨by rfl, ?_⟩) ?_ ?_
                  rotate_left
                  · intro w'
                    go_simp
                    with_reducible rfl
                  rotate_left
                  · simp only [Act.put, List.setIfInBounds_toArray, List.set_cons_zero, List.set_cons_succ, i64_w, i32_w]
                    rfl
                  refine pure_ (i := 15) (N := (some 61)) (v := undef) (a' := ?_) #[true, true, true, true, true, true, true, true, true, true, true, true, true, true, true, true, false, false, false, false, false, false, false, false, false, false, false, false, false, false, false, false, false, false, false, false, false, false, false, false] rfl rfl (by kernel_rfl) (fun _ _ _ h => h) (Or.inr ⟨by rfl, rfl⟩) ?_ ?_
                  rotate_left
                  · simp only [Act.put, List.setIfInBounds_toArray, List.set_cons_zero, List.set_cons_succ, i64_w, i32_w]
                    rfl
                  refine pure_ (i := 16) (N := (some 62)) (v := undef) (a' := ?_) #[true, true, true, true, true, true, true, true, true, true, true, true, true, true, true, true, true, false, false, false, false, false, false, false, false, false, false, false, false, false, false, false, false, false, false, false, false, false, false, false] rfl rfl (by kernel_rfl) (fun _ _ _ h => h) (Or.inr ⟨by rfl, rfl⟩) ?_ ?_
                  rotate_left
                  · simp only [Act.put, List.setIfInBounds_toArray, List.set_cons_zero, List.set_cons_succ, i64_w, i32_w]
                    rfl
                  refine pure_ (i := 17) (N := (some 63)) (v := undef) (a' := ?_) #[true, true, true, true, true, true, true, true, true, true, true, true, true, true, true, true, true, true, false, false, false, false, false, false, false, false, false, false, false, false, false, false, false, false, false, false, false, false, false, false] rfl rfl (by kernel_rfl) (fun _ _ _ h => h) (Or.inr ⟨by rfl, rfl⟩) ?_ ?_
                  rotate_left
                  · simp only [Act.put, List.setIfInBounds_toArray, List.set_cons_zero, List.set_cons_succ, i64_w, i32_w]
                    rfl
                  refine pure_ (i := 18) (N := (some 64)) (v := undef) (a' := ?_) #[true, true, true, true, true, true, true, true, true, true, true, true, true, true, true, true, true, true, true, false, false, false, false, false, false, false, false, false, false, false, false, false, false, false, false, false, false, false, false, false] rfl rfl (by kernel_rfl) (fun _ _ _ h => h) (Or.inr ⟨by rfl, rfl⟩) ?_ ?_
                  rotate_left
                  · simp only [Act.put, List.setIfInBounds_toArray, List.set_cons_zero, List.set_cons_succ, i64_w, i32_w]
                    rfl
                  refine pure_ (i := 19) (N := (some 65)) (v := undef) (a' := ?_) #[true, true, true, true, true, true, true, true, true, true, true, true, true, true, true, true, true, true, true, true, false, false, false, false, false, false, false, false, false, false, false, false, false, false, false, false, false, false, false, false] rfl rfl (by kernel_rfl) (fun _ _ _ h => h) (Or.inr ⟨by rfl, rfl⟩) ?_ ?_
                  rotate_left
                  · simp only [Act.put, List.setIfInBounds_toArray, List.set_cons_zero, List.set_cons_succ, i64_w, i32_w]
                    rfl
                  refine pure_ (i := 20) (N := (some 66)) (v := undef) (a' := ?_) #[true, true, true, true, true, true, true, true, true, true, true, true, true, true, true, true, true, true, true, true, true, false, false, false, false, false, false, false, false, false, false, false, false, false, false, false, false, false, false, false] rfl rfl (by kernel_rfl) (fun _ _ _ h => h) (Or.inr ⟨by rfl, rfl⟩) ?_ ?_
                  rotate_left
                  · simp only [Act.put, List.setIfInBounds_toArray, List.set_cons_zero, List.set_cons_succ, i64_w, i32_w]
                    rfl
                  refine pure_ (i := 21) (N := (some 67)) (v := undef) (a' := ?_) #[true, true, true, true, true, true, true, true, true, true, true, true, true, true, true, true, true, true, true, true, true, true, false, false, false, false, false, false, false, false, false, false, false, false, false, false, false, false, false, false] rfl rfl (by kernel_rfl) (fun _ _ _ h => h) (Or.inr ⟨by rfl, rfl⟩) ?_ ?_
                  rotate_left
                  · simp only [Act.put, List.setIfInBounds_toArray, List.set_cons_zero, List.set_cons_succ, i64_w, i32_w]
                    rfl
                  refine pure_ (i := 22) (N := (some 68)) (v := undef) (a' := ?_) #[true, true, true, true, true, true, true, true, true, true, true, true, true, true, true, true, true, true, true, true, true, true, true, false, false, false, false, false, false, false, false, false, false, false, false, false, false, false, false, false] rfl rfl (by kernel_rfl) (fun _ _ _ h => h) (Or.inr ⟨by rfl, rfl⟩) ?_ ?_
                  rotate_left
                  · simp only [Act.put, List.setIfInBounds_toArray, List.set_cons_zero, List.set_cons_succ, i64_w, i32_w]
                    rfl
                  refine pure_ (i := 23) (N := (some 69)) (v := undef) (a' := ?_) #[true, true, true, true, true, true, true, true, true, true, true, true, true, true, true, true, true, true, true, true, true, true, true, true, false, false, false, false, false, false, false, false, false, false, false, false, false, false, false, false] rfl rfl (by kernel_rfl) (fun _ _ _ h => h) (Or.inr ⟨by rfl, rfl⟩) ?_ ?_
                  rotate_left
                  · simp only [Act.put, List.setIfInBounds_toArray, List.set_cons_zero, List.set_cons_succ, i64_w, i32_w]
                    rfl
                  refine pure_ (i := 24) (N := (some 70)) (v := undef) (a' := ?_) #[true, true, true, true, true, true, true, true, true, true, true, true, true, true, true, true, true, true, true, true, true, true, true, true, true, false, false, false, false, false, false, false, false, false, false, false, false, false, false, false] rfl rfl (by kernel_rfl) (fun _ _ _ h => h) (Or.inr ⟨by rfl, rfl⟩) ?_ ?_
                  rotate_left
                  · simp only [Act.put, List.setIfInBounds_toArray, List.set_cons_zero, List.set_cons_succ, i64_w, i32_w]
                    rfl
                  refine pure_ (i := 25) (N := (some 71)) (v := undef) (a' := ?_) #[true, true, true, true, true, true, true, true, true, true, true, true, true, true, true, true, true, true, true, true, true, true, true, true, true, true, false, false, false, false, false, false, false, false, false, false, false, false, false, false] rfl rfl (by kernel_rfl) (fun _ _ _ h => h) (Or.inr ⟨by rfl, rfl⟩) ?_ ?_
                  rotate_left
                  · simp only [Act.put, List.setIfInBounds_toArray, List.set_cons_zero, List.set_cons_succ, i64_w, i32_w]
                    rfl
                  refine pure_ (i := 26) (N := (some 72)) (v := undef) (a' := ?_) #[true, true, true, true, true, true, true, true, true, true, true, true, true, true, true, true, true, true, true, true, true, true, true, true, true, true, true, false, false, false, false, false, false, false, false, false, false, false, false, false] rfl rfl (by kernel_rfl) (fun _ _ _ h => h) (Or.inr ⟨by rfl, rfl⟩) ?_ ?_
                  rotate_left
                  · simp only [Act.put, List.setIfInBounds_toArray, List.set_cons_zero, List.set_cons_succ, i64_w, i32_w]
                    rfl
                  refine pure_ (i := 27) (N := (some 73)) (v := undef) (a' := ?_) #[true, true, true, true, true, true, true, true, true, true, true, true, true, true, true, true, true, true, true, true, true, true, true, true, true, true, true, true, false, false, false, false, false, false, false, false, false, false, false, false] rfl rfl (by kernel_rfl) (fun _ _ _ h => h) (Or.inr ⟨by rfl, rfl⟩) ?_ ?_
                  rotate_left
                  · simp only [Act.put, List.setIfInBounds_toArray, List.set_cons_zero, List.set_cons_succ, i64_w, i32_w]
                    rfl
                  refine pure_ (i := 28) (N := (some 74)) (v := undef) (a' := ?_) #[true, true, true, true, true, true, true, true, true, true, true, true, true, true, true, true, true, true, true, true, true, true, true, true, true, true, true, true, true, false, false, false, false, false, false, false, false, false, false, false] rfl rfl (by kernel_rfl) (fun _ _ _ h => h) (Or.inr ⟨by rfl, rfl⟩) ?_ ?_
                  rotate_left
                  · simp only [Act.put, List.setIfInBounds_toArray, List.set_cons_zero, List.set_cons_succ, i64_w, i32_w]
                    rfl
                  refine pure_ (i := 29) (N := (some 75)) (v := undef) (a' := ?_) #[true, true, true, true, true, true, true, true, true, true, true, true, true, true, true, true, true, true, true, true, true, true, true, true, true, true, true, true, true, true, false, false, false, false, false, false, false, false, false, false] rfl rfl (by kernel_rfl) (fun _ _ _ h => h) (Or.inr ⟨by rfl, rfl⟩) ?_ ?_
                  rotate_left
                  · simp only [Act.put, List.setIfInBounds_toArray, List.set_cons_zero, List.set_cons_succ, i64_w, i32_w]
                    rfl
                  refine pure_ (i := 30) (N := (some 76)) (v := undef) (a' := ?_) #[true, true, true, true, true, true, true, true, true, true, true, true, true, true, true, true, true, true, true, true, true, true, true, true, true, true, true, true, true, true, true, false, false, false, false, false, false, false, false, false] rfl rfl (by kernel_rfl) (fun _ _ _ h => h) (Or.inr ⟨by rfl, rfl⟩) ?_ ?_
                  rotate_left
                  · simp only [Act.put, List.setIfInBounds_toArray, List.set_cons_zero, List.set_cons_succ, i64_w, i32_w]
                    rfl
                  refine pure_ (i := 31) (N := (some 77)) (v := undef) (a' := ?_) #[true, true, true, true, true, true, true, true, true, true, true, true, true, true, true, true, true, true, true, true, true, true, true, true, true, true, true, true, true, true, true, true, false, false, false, false, false, false, false, false] rfl rfl (by kernel_rfl) (fun _ _ _ h => h) (Or.inr ⟨by rfl, rfl⟩) ?_ ?_
                  rotate_left
                  · simp only [Act.put, List.setIfInBounds_toArray, List.set_cons_zero, List.set_cons_succ, i64_w, i32_w]
                    rfl
                  refine pure_ (i := 32) (N := (some 78)) (v := undef) (a' := ?_) #[true, true, true, true, true, true, true, true, true, true, true, true, true, true, true, true, true, true, true, true, true, true, true, true, true, true, true, true, true, true, true, true, true, false, false, false, false, false, false, false] rfl rfl (by kernel_rfl) (fun _ _ _ h => h) (Or.inr ⟨by rfl, rfl⟩) ?_ ?_
                  rotate_left
                  · simp only [Act.put, List.setIfInBounds_toArray, List.set_cons_zero, List.set_cons_succ, i64_w, i32_w]
                    rfl
                  refine pure_ (i := 33) (N := (some 79)) (v := undef) (a' := ?_) #[true, true, true, true, true, true, true, true, true, true, true, true, true, true, true, true, true, true, true, true, true, true, true, true, true, true, true, true, true, true, true, true, true, true, false, false, false, false, false, false] rfl rfl (by kernel_rfl) (fun _ _ _ h => h) (Or.inr ⟨by rfl, rfl⟩) ?_ ?_
                  rotate_left
                  · simp only [Act.put, List.setIfInBounds_toArray, List.set_cons_zero, List.set_cons_succ, i64_w, i32_w]
                    rfl
                  refine pure_ (i := 34) (N := (some 80)) (v := undef) (a' := ?_) #[true, true, true, true, true, true, true, true, true, true, true, true, true, true, true, true, true, true, true, true, true, true, true, true, true, true, true, true, true, true, true, true, true, true, true, false, false, false, false, false] rfl rfl (by kernel_rfl) (fun _ _ _ h => h) (Or.inr ⟨by rfl, rfl⟩) ?_ ?_
                  rotate_left
                  · simp only [Act.put, List.setIfInBounds_toArray, List.set_cons_zero, List.set_cons_succ, i64_w, i32_w]
                    rfl
                  refine pure_ (i := 35) (N := (some 81)) (v := undef) (a' := ?_) #[true, true, true, true, true, true, true, true, true, true, true, true, true, true, true, true, true, true, true, true, true, true, true, true, true, true, true, true, true, true, true, true, true, true, true, true, false, false, false, false] rfl rfl (by kernel_rfl) (fun _ _ _ h => h) (Or.inr ⟨by rfl, rfl⟩) ?_ ?_
                  rotate_left
                  · simp only [Act.put, List.setIfInBounds_toArray, List.set_cons_zero, List.set_cons_succ, i64_w, i32_w]
                    rfl
                  refine pure_ (i := 36) (N := (some 82)) (v := undef) (a' := ?_) #[true, true, true, true, true, true, true, true, true, true, true, true, true, true, true, true, true, true, true, true, true, true, true, true, true, true, true, true, true, true, true, true, true, true, true, true, true, false, false, false] rfl rfl (by kernel_rfl) (fun _ _ _ h => h) (Or.inr ⟨by rfl, rfl⟩) ?_ ?_
                  rotate_left
                  · simp only [Act.put, List.setIfInBounds_toArray, List.set_cons_zero, List.set_cons_succ, i64_w, i32_w]
                    rfl
                  refine pure_ (i := 37) (N := (some 83)) (v := undef) (a' := ?_) #[true, true, true, true, true, true, true, true, true, true, true, true, true, true, true, true, true, true, true, true, true, true, true, true, true, true, true, true, true, true, true, true, true, true, true, true, true, true, false, false] rfl rfl (by kernel_rfl) (fun _ _ _ h => h) (Or.inr ⟨by rfl, rfl⟩) ?_ ?_
                  rotate_left
                  · simp only [Act.put, List.setIfInBounds_toArray, List.set_cons_zero, List.set_cons_succ, i64_w, i32_w]
                    rfl
                  refine pure_ (i := 38) (N := (some 84)) (v := undef) (a' := ?_) #[true, true, true, true, true, true, true, true, true, true, true, true, true, true, true, true, true, true, true, true, true, true, true, true, true, true, true, true, true, true, true, true, true, true, true, true, true, true, true, false] rfl rfl (by kernel_rfl) (fun _ _ _ h => h) (Or.inr ⟨by rfl, rfl⟩) ?_ ?_
                  rotate_left
                  · simp only [Act.put, List.setIfInBounds_toArray, List.set_cons_zero, List.set_cons_succ, i64_w, i32_w]
                    rfl
                  refine pure_ (i := 39) (N := (some 85)) (v := ?_) (a' := ?_) #[true, true, true, true, true, true, true, true, true, true, true, true, true, true, true, true, true, true, true, true, true, true, true, true, true, true, true, true, true, true, true, true, true, true, true, true, true, true, true, true] rfl rfl (by kernel_rfl) (fun _ _ _ h => h) (Or.inl ⟨by rfl, ?_⟩) ?_ ?_
                  rotate_left
                  · intro w'
                    go_simp
                    with_reducible rfl
                  rotate_left
                  · simp only [Act.put, List.setIfInBounds_toArray, List.set_cons_zero, List.set_cons_succ, i64_w, i32_w]
                    rfl
                  refine done_ (by kernel_rfl) ?_
                  clear hHeld
                  go_wp2
                  go_roundg gq3
                  case measure => omega
                  case rel => exact ⟨b + 1, by go_num, by omega, HS1⟩
                | false =>
                  have HWA := Aside0.mk hwA
                  cases hwB : hB.f2 with
                  | true =>
                    have HWB := Aside0.mk hwB
                    clear hwA hwB
                    go_wp2
                    refine start_ (n := 40) (S := fun w' => w'.cell? ⟨gS, a * 3 + 2, none⟩ = some (.bool false) ∧ w'.cell? ⟨gS, b * 3 + 2, none⟩ = some (.bool true)) (ds := []) #[false, false, false, false, false, false, false, false, false, false, false, false, false, false, false, false, false, false, false, false, false, false, false, false, false, false, false, false, false, false, false, false, false, false, false, false, false, false, false, false] (by kernel_rfl) rfl rfl ⟨(HWA.out ▸ ((HS.out.rest.rowX 0 rfl).held HHA.out).2.2), (HWB.out ▸ ((HS.out.rest.rowX 0 rfl).held HHB.out).2.2)⟩ (fun hHeld => ?_)
                    have HS1 := Aside0.mk (HS.out.drew)
                    clear HS
                    generalize wr.drew = w7 at HS1 hHeld  ⊢
                    refine pure_ (i := 0) (N := (some 46)) (v := ?_) (a' := ?_) #[true, false, false, false, false, false, false, false, false, false, false, false, false, false, false, false, false, false, false, false, false, false, false, false, false, false, false, false, false, false, false, false, false, false, false, false, false, false, false, false] rfl rfl (by kernel_rfl) (fun _ _ _ h => h) (Or.inl ⟨by rfl, ?_⟩) ?_ ?_
                    rotate_left
                    · intro w'
                      go_simp
                      with_reducible rfl
                    rotate_left
                    · simp only [Act.put, List.setIfInBounds_toArray, List.set_cons_zero, List.set_cons_succ, i64_w, i32_w]
                      rfl
                    refine pure_ (i := 1) (N := (some 47)) (v := ?_) (a' := ?_) #[true, true, false, false, false, false, false, false, false, false, false, false, false, false, false, false, false, false, false, false, false, false, false, false, false, false, false, false, false, false, false, false, false, false, false, false, false, false, false, false] rfl rfl (by kernel_rfl) (fun _ _ _ h => h) (Or.inl ⟨by rfl, ?_⟩) ?_ ?_
                    rotate_left
                    · intro w'
                      go_simp
                      with_reducible rfl
                    rotate_left
                    · simp only [Act.put, List.setIfInBounds_toArray, List.set_cons_zero, List.set_cons_succ, i64_w, i32_w]
                      rfl
                    refine pure_ (i := 2) (N := (some 48)) (v := ?_) (a' := ?_) #[true, true, true, false, false, false, false, false, false, false, false, false, false, false, false, false, false, false, false, false, false, false, false, false, false, false, false, false, false, false, false, false, false, false, false, false, false, false, false, false] rfl rfl (by kernel_rfl) (fun _ _ _ h => h) (Or.inl ⟨by rfl, ?_⟩) ?_ ?_
                    rotate_left
                    · intro w'
                      go_simp
                      with_reducible rfl
                    rotate_left
                    · simp only [Act.put, List.setIfInBounds_toArray, List.set_cons_zero, List.set_cons_succ, i64_w, i32_w]
                      rfl
                    refine pure_ (i := 3) (N := (some 49)) (v := ?_) (a' := ?_) #[true, true, true, true, false, false, false, false, false, false, false, false, false, false, false, false, false, false, false, false, false, false, false, false, false, false, false, false, false, false, false, false, false, false, false, false, false, false, false, false] rfl rfl (by kernel_rfl) (fun _ _ _ h => h) (Or.inl ⟨by rfl, ?_⟩) ?_ ?_
                    rotate_left
                    · intro w'
                      go_simp
                      with_reducible rfl
                    rotate_left
                    · simp only [Act.put, List.setIfInBounds_toArray, List.set_cons_zero, List.set_cons_succ, i64_w, i32_w]
                      rfl
                    refine take_ (i := 4) (N := (some 50)) (v := ?_) (a' := ?_) #[true, true, true, true, true, false, false, false, false, false, false, false, false, false, false, false, false, false, false, false, false, false, false, false, false, false, false, false, false, false, false, false, false, false, false, false, false, false, false, false] rfl rfl (by kernel_rfl) (fun _ _ _ h => h) (Or.inl ⟨by rfl, ?_⟩) hHeld ?_ ?_
                    rotate_left
                    · rintro w' ⟨s0, s1⟩
                      go_simp
                      with_reducible rfl
                    rotate_left
                    · simp only [Act.put, List.setIfInBounds_toArray, List.set_cons_zero, List.set_cons_succ, i64_w, i32_w]
                      rfl
                    refine pure_ (i := 5) (N := (some 51)) (v := ?_) (a' := ?_) #[true, true, true, true, true, true, false, false, false, false, false, false, false, false, false, false, false, false, false, false, false, false, false, false, false, false, false, false, false, false, false, false, false, false, false, false, false, false, false, false] rfl rfl (by kernel_rfl) (fun _ _ _ h => h) (Or.inl ⟨by rfl, ?_⟩) ?_ ?_
                    rotate_left
                    · intro w'
                      go_simp
                      with_reducible rfl
                    rotate_left
                    · simp only [Act.put, List.setIfInBounds_toArray, List.set_cons_zero, List.set_cons_succ, i64_w, i32_w]
                      rfl
                    refine pure_ (i := 6) (N := (some 52)) (v := ?_) (a' := ?_) #[true, true, true, true, true, true, true, false, false, false, false, false, false, false, false, false, false, false, false, false, false, false, false, false, false, false, false, false, false, false, false, false, false, false, false, false, false, false, false, false] rfl rfl (by kernel_rfl) (fun _ _ _ h => h) (Or.inl ⟨by rfl, ?_⟩) ?_ ?_
                    rotate_left
                    · intro w'
                      go_simp
                      with_reducible rfl
                    rotate_left
                    · simp only [Act.put, List.setIfInBounds_toArray, List.set_cons_zero, List.set_cons_succ, i64_w, i32_w]
                      rfl
                    refine pure_ (i := 7) (N := (some 53)) (v := ?_) (a' := ?_) #[true, true, true, true, true, true, true, true, false, false, false, false, false, false, false, false, false, false, false, false, false, false, false, false, false, false, false, false, false, false, false, false, false, false, false, false, false, false, false, false] rfl rfl (by kernel_rfl) (fun _ _ _ h => h) (Or.inl ⟨by rfl, ?_⟩) ?_ ?_
                    rotate_left
                    · intro w'
                      go_simp
                      with_reducible rfl
                    rotate_left
                    · simp only [Act.put, List.setIfInBounds_toArray, List.set_cons_zero, List.set_cons_succ, i64_w, i32_w]
                      rfl
                    refine pure_ (i := 8) (N := (some 54)) (v := ?_) (a' := ?_) #[true, true, true, true, true, true, true, true, true, false, false, false, false, false, false, false, false, false, false, false, false, false, false, false, false, false, false, false, false, false, false, false, false, false, false, false, false, false, false, false] rfl rfl (by kernel_rfl) (fun _ _ _ h => h) (Or.inl ⟨by rfl, ?_⟩) ?_ ?_
                    rotate_left
                    · intro w'
                      go_simp
                      with_reducible rfl
                    rotate_left
                    · simp only [Act.put, List.setIfInBounds_toArray, List.set_cons_zero, List.set_cons_succ, i64_w, i32_w]
                      rfl
                    refine pure_ (i := 9) (N := (some 55)) (v := ?_) (a' := ?_) #[true, true, true, true, true, true, true, true, true, true, false, false, false, false, false, false, false, false, false, false, false, false, false, false, false, false, false, false, false, false, false, false, false, false, false, false, false, false, false, false] rfl rfl (by kernel_rfl) (fun _ _ _ h => h) (Or.inl ⟨by rfl, ?_⟩) ?_ ?_
                    rotate_left
                    · intro w'
                      go_simp
                      with_reducible rfl
                    rotate_left
                    · simp only [Act.put, List.setIfInBounds_toArray, List.set_cons_zero, List.set_cons_succ, i64_w, i32_w]
                      rfl
                    refine pure_ (i := 10) (N := (some 56)) (v := ?_) (a' := ?_) #[true, true, true, true, true, true, true, true, true, true, true, false, false, false, false, false, false, false, false, false, false, false, false, false, false, false, false, false, false, false, false, false, false, false, false, false, false, false, false, false] rfl rfl (by kernel_rfl) (fun _ _ _ h => h) (Or.inl ⟨by rfl, ?_⟩) ?_ ?_
                    rotate_left
                    · intro w'
                      go_simp
                      with_reducible rfl
                    rotate_left
                    · simp only [Act.put, List.setIfInBounds_toArray, List.set_cons_zero, List.set_cons_succ, i64_w, i32_w]
                      rfl
                    refine take_ (i := 11) (N := (some 57)) (v := ?_) (a' := ?_) #[true, true, true, true, true, true, true, true, true, true, true, true, false, false, false, false, false, false, false, false, false, false, false, false, false, false, false, false, false, false, false, false, false, false, false, false, false, false, false, false] rfl rfl (by kernel_rfl) (fun _ _ _ h => h) (Or.inl ⟨by rfl, ?_⟩) hHeld ?_ ?_
                    rotate_left
                    · rintro w' ⟨s0, s1⟩
                      go_simp
                      with_reducible rfl
                    rotate_left
                    · simp only [Act.put, List.setIfInBounds_toArray, List.set_cons_zero, List.set_cons_succ, i64_w, i32_w]
                      rfl
                    refine pure_ (i := 12) (N := (some 58)) (v := ?_) (a' := ?_) #[true, true, true, true, true, true, true, true, true, true, true, true, true, false, false, false, false, false, false, false, false, false, false, false, false, false, false, false, false, false, false, false, false, false, false, false, false, false, false, false] rfl rfl (by kernel_rfl) (fun _ _ _ h => h) (Or.inl ⟨by rfl, ?_⟩) ?_ ?_
                    rotate_left
                    · intro w'
                      go_simp
                      with_reducible rfl
                    rotate_left
                    · simp only [Act.put, List.setIfInBounds_toArray, List.set_cons_zero, List.set_cons_succ, i64_w, i32_w]
                      rfl
                    refine pure_ (i := 13) (N := (some 59)) (v := ?_) (a' := ?_) #[true, true, true, true, true, true, true, true, true, true, true, true, true, true, false, false, false, false, false, false, false, false, false, false, false, false, false, false, false, false, false, false, false, false, false, false, false, false, false, false] rfl rfl (by kernel_rfl) (fun _ _ _ h => h) (Or.inl ⟨by rfl, ?_⟩) ?_ ?_
                    rotate_left
                    · intro w'
                      go_simp
                      with_reducible rfl
                    rotate_left
                    · simp only [Act.put, List.setIfInBounds_toArray, List.set_cons_zero, List.set_cons_succ, i64_w, i32_w]
                      rfl
                    refine pure_ (i := 14) (N := (some 60)) (v := ?_) (a' := ?_) #[true, true, true, true, true, true, true, true, true, true, true, true, true, true, true, false, false, false, false, false, false, false, false, false, false, false, false, false, false, false, false, false, false, false, false, false, false, false, false, false] rfl rfl (by kernel_rfl) (fun _ _ _ h => h) (Or.inl ⟨by rfl, ?_⟩) ?_ ?_
                    rotate_left
                    · intro w'
                      go_simp
                      with_reducible rfl
                    rotate_left
                    · simp only [Act.put, List.setIfInBounds_toArray, List.set_cons_zero, List.set_cons_succ, i64_w, i32_w]
                      rfl
                    refine pure_ (i := 15) (N := (some 61)) (v := undef) (a' := ?_) #[true, true, true, true, true, true, true, true, true, true, true, true, true, true, true, true, false, false, false, false, false, false, false, false, false, false, false, false, false, false, false, false, false, false, false, false, false, false, false, false] rfl rfl (by kernel_rfl) (fun _ _ _ h => h) (Or.inr ⟨by rfl, rfl⟩) ?_ ?_
                    rotate_left
                    · simp only [Act.put, List.setIfInBounds_toArray, List.set_cons_zero, List.set_cons_succ, i64_w, i32_w]
                      rfl
                    refine pure_ (i := 16) (N := (some 62)) (v := undef) (a' := ?_) #[true, true, true, true, true, true, true, true, true, true, true, true, true, true, true, true, true, false, false, false, false, false, false, false, false, false, false, false, false, false, false, false, false, false, false, false, false, false, false, false] rfl rfl (by kernel_rfl) (fun _ _ _ h => h) (Or.inr ⟨by rfl, rfl⟩) ?_ ?_
                    rotate_left
                    · simp only [Act.put, List.setIfInBounds_toArray, List.set_cons_zero, List.set_cons_succ, i64_w, i32_w]
                      rfl
                    refine pure_ (i := 17) (N := (some 63)) (v := undef) (a' := ?_) #[true, true, true, true, true, true, true, true, true, true, true, true, true, true, true, true, true, true, false, false, false, false, false, false, false, false, false, false, false, false, false, false, false, false, false, false, false, false, false, false] rfl rfl (by kernel_rfl) (fun _ _ _ h => h) (Or.inr ⟨by rfl, rfl⟩) ?_ ?_
                    rotate_left
                    · simp only [Act.put, List.setIfInBounds_toArray, List.set_cons_zero, List.set_cons_succ, i64_w, i32_w]
                      rfl
                    refine pure_ (i := 18) (N := (some 64)) (v := undef) (a' := ?_) #[true, true, true, true, true, true, true, true, true, true, true, true, true, true, true, true, true, true, true, false, false, false, false, false, false, false, false, false, false, false, false, false, false, false, false, false, false, false, false, false] rfl rfl (by kernel_rfl) (fun _ _ _ h => h) (Or.inr ⟨by rfl, rfl⟩) ?_ ?_
                    rotate_left
                    · simp only [Act.put, List.setIfInBounds_toArray, List.set_cons_zero, List.set_cons_succ, i64_w, i32_w]
                      rfl
                    refine pure_ (i := 19) (N := (some 65)) (v := undef) (a' := ?_) #[true, true, true, true, true, true, true, true, true, true, true, true, true, true, true, true, true, true, true, true, false, false, false, false, false, false, false, false, false, false, false, false, false, false, false, false, false, false, false, false] rfl rfl (by kernel_rfl) (fun _ _ _ h => h) (Or.inr ⟨by rfl, rfl⟩) ?_ ?_
                    rotate_left
                    · simp only [Act.put, List.setIfInBounds_toArray, List.set_cons_zero, List.set_cons_succ, i64_w, i32_w]
                      rfl
                    refine pure_ (i := 20) (N := (some 66)) (v := undef) (a' := ?_) #[true, true, true, true, true, true, true, true, true, true, true, true, true, true, true, true, true, true, true, true, true, false, false, false, false, false, false, false, false, false, false, false, false, false, false, false, false, false, false, false] rfl rfl (by kernel_rfl) (fun _ _ _ h => h) (Or.inr ⟨by rfl, rfl⟩) ?_ ?_
                    rotate_left
                    · simp only [Act.put, List.setIfInBounds_toArray, List.set_cons_zero, List.set_cons_succ, i64_w, i32_w]
                      rfl
                    refine pure_ (i := 21) (N := (some 67)) (v := undef) (a' := ?_) #[true, true, true, true, true, true, true, true, true, true, true, true, true, true, true, true, true, true, true, true, true, true, false, false, false, false, false, false, false, false, false, false, false, false, false, false, false, false, false, false] rfl rfl (by kernel_rfl) (fun _ _ _ h => h) (Or.inr ⟨by rfl, rfl⟩) ?_ ?_
                    rotate_left
                    · simp only [Act.put, List.setIfInBounds_toArray, List.set_cons_zero, List.set_cons_succ, i64_w, i32_w]
                      rfl
                    refine pure_ (i := 22) (N := (some 68)) (v := undef) (a' := ?_) #[true, true, true, true, true, true, true, true, true, true, true, true, true, true, true, true, true, true, true, true, true, true, true, false, false, false, false, false, false, false, false, false, false, false, false, false, false, false, false, false] rfl rfl (by kernel_rfl) (fun _ _ _ h => h) (Or.inr ⟨by rfl, rfl⟩) ?_ ?_
                    rotate_left
                    · simp only [Act.put, List.setIfInBounds_toArray, List.set_cons_zero, List.set_cons_succ, i64_w, i32_w]
                      rfl
                    refine pure_ (i := 23) (N := (some 69)) (v := undef) (a' := ?_) #[true, true, true, true, true, true, true, true, true, true, true, true, true, true, true, true, true, true, true, true, true, true, true, true, false, false, false, false, false, false, false, false, false, false, false, false, false, false, false, false] rfl rfl (by kernel_rfl) (fun _ _ _ h => h) (Or.inr ⟨by rfl, rfl⟩) ?_ ?_
                    rotate_left
                    · simp only [Act.put, List.setIfInBounds_toArray, List.set_cons_zero, List.set_cons_succ, i64_w, i32_w]
                      rfl
                    refine pure_ (i := 24) (N := (some 70)) (v := undef) (a' := ?_) #[true, true, true, true, true, true, true, true, true, true, true, true, true, true, true, true, true, true, true, true, true, true, true, true, true, false, false, false, false, false, false, false, false, false, false, false, false, false, false, false] rfl rfl (by kernel_rfl) (fun _ _ _ h => h) (Or.inr ⟨by rfl, rfl⟩) ?_ ?_
                    rotate_left
                    · simp only [Act.put, List.setIfInBounds_toArray, List.set_cons_zero, List.set_cons_succ, i64_w, i32_w]
                      rfl
                    refine pure_ (i := 25) (N := (some 71)) (v := undef) (a' := ?_) #[true, true, true, true, true, true, true, true, true, true, true, true, true, true, true, true, true, true, true, true, true, true, true, true, true, true, false, false, false, false, false, false, false, false, false, false, false, false, false, false] rfl rfl (by kernel_rfl) (fun _ _ _ h => h) (Or.inr ⟨by rfl, rfl⟩) ?_ ?_
                    rotate_left
                    · simp only [Act.put, List.setIfInBounds_toArray, List.set_cons_zero, List.set_cons_succ, i64_w, i32_w]
                      rfl
                    refine pure_ (i := 26) (N := (some 72)) (v := undef) (a' := ?_) #[true, true, true, true, true, true, true, true, true, true, true, true, true, true, true, true, true, true, true, true, true, true, true, true, true, true, true, false, false, false, false, false, false, false, false, false, false, false, false, false] rfl rfl (by kernel_rfl) (fun _ _ _ h => h) (Or.inr ⟨by rfl, rfl⟩) ?_ ?_
                    rotate_left
                    · simp only [Act.put, List.setIfInBounds_toArray, List.set_cons_zero, List.set_cons_succ, i64_w, i32_w]
                      rfl
                    refine pure_ (i := 27) (N := (some 73)) (v := undef) (a' := ?_) #[true, true, true, true, true, true, true, true, true, true, true, true, true, true, true, true, true, true, true, true, true, true, true, true, true, true, true, true, false, false, false, false, false, false, false, false, false, false, false, false] rfl rfl (by kernel_rfl) (fun _ _ _ h => h) (Or.inr ⟨by rfl, rfl⟩) ?_ ?_
                    rotate_left
                    · simp only [Act.put, List.setIfInBounds_toArray, List.set_cons_zero, List.set_cons_succ, i64_w, i32_w]
                      rfl
                    refine pure_ (i := 28) (N := (some 74)) (v := undef) (a' := ?_) #[true, true, true, true, true, true, true, true, true, true, true, true, true, true, true, true, true, true, true, true, true, true, true, true, true, true, true, true, true, false, false, false, false, false, false, false, false, false, false, false] rfl rfl (by kernel_rfl) (fun _ _ _ h => h) (Or.inr ⟨by rfl, rfl⟩) ?_ ?_
                    rotate_left
                    · simp only [Act.put, List.setIfInBounds_toArray, List.set_cons_zero, List.set_cons_succ, i64_w, i32_w]
                      rfl
                    refine pure_ (i := 29) (N := (some 75)) (v := undef) (a' := ?_) #[true, true, true, true, true, true, true, true, true, true, true, true, true, true, true, true, true, true, true, true, true, true, true, true, true, true, true, true, true, true, false, false, false, false, false, false, false, false, false, false] rfl rfl (by kernel_rfl) (fun _ _ _ h => h) (Or.inr ⟨by rfl, rfl⟩) ?_ ?_
                    rotate_left
                    · simp only [Act.put, List.setIfInBounds_toArray, List.set_cons_zero, List.set_cons_succ, i64_w, i32_w]
                      rfl
                    refine pure_ (i := 30) (N := (some 76)) (v := undef) (a' := ?_) #[true, true, true, true, true, true, true, true, true, true, true, true, true, true, true, true, true, true, true, true, true, true, true, true, true, true, true, true, true, true, true, false, false, false, false, false, false, false, false, false] rfl rfl (by kernel_rfl) (fun _ _ _ h => h) (Or.inr ⟨by rfl, rfl⟩) ?_ ?_
                    rotate_left
                    · simp only [Act.put, List.setIfInBounds_toArray, List.set_cons_zero, List.set_cons_succ, i64_w, i32_w]
                      rfl
                    refine pure_ (i := 31) (N := (some 77)) (v := undef) (a' := ?_) #[true, true, true, true, true, true, true, true, true, true, true, true, true, true, true, true, true, true, true, true, true, true, true, true, true, true, true, true, true, true, true, true, false, false, false, false, false, false, false, false] rfl rfl (by kernel_rfl) (fun _ _ _ h => h) (Or.inr ⟨by rfl, rfl⟩) ?_ ?_
                    rotate_left
                    · simp only [Act.put, List.setIfInBounds_toArray, List.set_cons_zero, List.set_cons_succ, i64_w, i32_w]
                      rfl
                    refine pure_ (i := 32) (N := (some 78)) (v := undef) (a' := ?_) #[true, true, true, true, true, true, true, true, true, true, true, true, true, true, true, true, true, true, true, true, true, true, true, true, true, true, true, true, true, true, true, true, true, false, false, false, false, false, false, false] rfl rfl (by kernel_rfl) (fun _ _ _ h => h) (Or.inr ⟨by rfl, rfl⟩) ?_ ?_
                    rotate_left
                    · simp only [Act.put, List.setIfInBounds_toArray, List.set_cons_zero, List.set_cons_succ, i64_w, i32_w]
                      rfl
                    refine pure_ (i := 33) (N := (some 79)) (v := undef) (a' := ?_) #[true, true, true, true, true, true, true, true, true, true, true, true, true, true, true, true, true, true, true, true, true, true, true, true, true, true, true, true, true, true, true, true, true, true, false, false, false, false, false, false] rfl rfl (by kernel_rfl) (fun _ _ _ h => h) (Or.inr ⟨by rfl, rfl⟩) ?_ ?_
                    rotate_left
                    · simp only [Act.put, List.setIfInBounds_toArray, List.set_cons_zero, List.set_cons_succ, i64_w, i32_w]
                      rfl
                    refine pure_ (i := 34) (N := (some 80)) (v := undef) (a' := ?_) #[true, true, true, true, true, true, true, true, true, true, true, true, true, true, true, true, true, true, true, true, true, true, true, true, true, true, true, true, true, true, true, true, true, true, true, false, false, false, false, false] rfl rfl (by kernel_rfl) (fun _ _ _ h => h) (Or.inr ⟨by rfl, rfl⟩) ?_ ?_
                    rotate_left
                    · simp only [Act.put, List.setIfInBounds_toArray, List.set_cons_zero, List.set_cons_succ, i64_w, i32_w]
                      rfl
                    refine pure_ (i := 35) (N := (some 81)) (v := undef) (a' := ?_) #[true, true, true, true, true, true, true, true, true, true, true, true, true, true, true, true, true, true, true, true, true, true, true, true, true, true, true, true, true, true, true, true, true, true, true, true, false, false, false, false] rfl rfl (by kernel_rfl) (fun _ _ _ h => h) (Or.inr ⟨by rfl, rfl⟩) ?_ ?_
                    rotate_left
                    · simp only [Act.put, List.setIfInBounds_toArray, List.set_cons_zero, List.set_cons_succ, i64_w, i32_w]
                      rfl
                    refine pure_ (i := 36) (N := (some 82)) (v := undef) (a' := ?_) #[true, true, true, true, true, true, true, true, true, true, true, true, true, true, true, true, true, true, true, true, true, true, true, true, true, true, true, true, true, true, true, true, true, true, true, true, true, false, false, false] rfl rfl (by kernel_rfl) (fun _ _ _ h => h) (Or.inr ⟨by rfl, rfl⟩) ?_ ?_
                    rotate_left
                    · simp only [Act.put, List.setIfInBounds_toArray, List.set_cons_zero, List.set_cons_succ, i64_w, i32_w]
                      rfl
                    refine pure_ (i := 37) (N := (some 83)) (v := undef) (a' := ?_) #[true, true, true, true, true, true, true, true, true, true, true, true, true, true, true, true, true, true, true, true, true, true, true, true, true, true, true, true, true, true, true, true, true, true, true, true, true, true, false, false] rfl rfl (by kernel_rfl) (fun _ _ _ h => h) (Or.inr ⟨by rfl, rfl⟩) ?_ ?_
                    rotate_left
                    · simp only [Act.put, List.setIfInBounds_toArray, List.set_cons_zero, List.set_cons_succ, i64_w, i32_w]
                      rfl
                    refine pure_ (i := 38) (N := (some 84)) (v := undef) (a' := ?_) #[true, true, true, true, true, true, true, true, true, true, true, true, true, true, true, true, true, true, true, true, true, true, true, true, true, true, true, true, true, true, true, true, true, true, true, true, true, true, true, false] rfl rfl (by kernel_rfl) (fun _ _ _ h => h) (Or.inr ⟨by rfl, rfl⟩) ?_ ?_
                    rotate_left
                    · simp only [Act.put, List.setIfInBounds_toArray, List.set_cons_zero, List.set_cons_succ, i64_w, i32_w]
                      rfl
                    refine pure_ (i := 39) (N := (some 85)) (v := ?_) (a' := ?_) #[true, true, true, true, true, true, true, true, true, true, true, true, true, true, true, true, true, true, true, true, true, true, true, true, true, true, true, true, true, true, true, true, true, true, true, true, true, true, true, true] rfl rfl (by kernel_rfl) (fun _ _ _ h => h) (Or.inl ⟨by rfl, ?_⟩) ?_ ?_
                    rotate_left
                    · intro w'
                      go_simp
                      with_reducible rfl
                    rotate_left
                    · simp only [Act.put, List.setIfInBounds_toArray, List.set_cons_zero, List.set_cons_succ, i64_w, i32_w]
                      rfl
                    refine done_ (by kernel_rfl) ?_
                    clear hHeld
                    go_wp2
                    go_roundg gq3
                    case measure => omega
                    case rel => exact ⟨b + 1, by go_num, by omega, HS1⟩
                  | false =>
                    have HWB := Aside0.mk hwB
                    have hsafe : hA.f0 ≠ hB.f0 ∧ conf hA.f1 hB.f1 = false := by
                      rcases stateL_get (HL.out.symm ▸ HHA.out) with ⟨o1, p1, e1⟩ | ⟨o1, p1, e1⟩
                      · rcases stateL_get (HL.out.symm ▸ HHB.out) with ⟨o2, p2, e2⟩ | ⟨o2, p2, e2⟩
                        · rw [e1, e2]
                          exact (safe_law HG.out.inv c.f2.f0).1 a b o1 o2 p1 p2 (by omega)
                        · rw [e2] at hwB
                          cases hwB
                      · rw [e1] at hwA
                        cases hwA
                    obtain ⟨hf1, hf2⟩ := hsafe
                    have HCF := Aside0.mk hf2
                    have hf1b : (hA.f0 == hB.f0) = false := beq_eq_false_iff_ne.2 hf1
                    have hf1c : decide (hA.f0 = hB.f0) = false := decide_eq_false hf1
                    clear hwA hwB hf2
                    go_wp2
                    refine start_ (n := 40) (S := fun w' => w'.cell? ⟨gS, a * 3 + 2, none⟩ = some (.bool false) ∧ w'.cell? ⟨gS, b * 3 + 2, none⟩ = some (.bool false) ∧ w'.cell? ⟨gS, a * 3, none⟩ = some (.int .i64 hA.f0) ∧ w'.cell? ⟨gS, b * 3, none⟩ = some (.int .i64 hB.f0) ∧ w'.cell? ⟨gS, a * 3 + 1, none⟩ = some (.int .i64 hA.f1) ∧ w'.cell? ⟨gS, b * 3 + 1, none⟩ = some (.int .i64 hB.f1)) (ds := []) #[false, false, false, false, false, false, false, false, false, false, false, false, false, false, false, false, false, false, false, false, false, false, false, false, false, false, false, false, false, false, false, false, false, false, false, false, false, false, false, false] (by kernel_rfl) rfl rfl ⟨(HWA.out ▸ ((HS.out.rest.rowX 0 rfl).held HHA.out).2.2), (HWB.out ▸ ((HS.out.rest.rowX 0 rfl).held HHB.out).2.2), ((HS.out.rest.rowX 0 rfl).held HHA.out).1, ((HS.out.rest.rowX 0 rfl).held HHB.out).1, ((HS.out.rest.rowX 0 rfl).held HHA.out).2.1, ((HS.out.rest.rowX 0 rfl).held HHB.out).2.1⟩ (fun hHeld => ?_)
                    have HS1 := Aside0.mk (HS.out.drew)
                    clear HS
                    generalize wr.drew = w7 at HS1 hHeld  ⊢
                    refine pure_ (i := 0) (N := (some 46)) (v := ?_) (a' := ?_) #[true, false, false, false, false, false, false, false, false, false, false, false, false, false, false, false, false, false, false, false, false, false, false, false, false, false, false, false, false, false, false, false, false, false, false, false, false, false, false, false] rfl rfl (by kernel_rfl) (fun _ _ _ h => h) (Or.inl ⟨by rfl, ?_⟩) ?_ ?_
                    rotate_left
                    · intro w'
                      go_simp
                      with_reducible rfl
                    rotate_left
                    · simp only [Act.put, List.setIfInBounds_toArray, List.set_cons_zero, List.set_cons_succ, i64_w, i32_w]
                      rfl
                    refine pure_ (i := 1) (N := (some 47)) (v := ?_) (a' := ?_) #[true, true, false, false, false, false, false, false, false, false, false, false, false, false, false, false, false, false, false, false, false, false, false, false, false, false, false, false, false, false, false, false, false, false, false, false, false, false, false, false] rfl rfl (by kernel_rfl) (fun _ _ _ h => h) (Or.inl ⟨by rfl, ?_⟩) ?_ ?_
                    rotate_left
                    · intro w'
                      go_simp
                      with_reducible rfl
                    rotate_left
                    · simp only [Act.put, List.setIfInBounds_toArray, List.set_cons_zero, List.set_cons_succ, i64_w, i32_w]
                      rfl
                    refine pure_ (i := 2) (N := (some 48)) (v := ?_) (a' := ?_) #[true, true, true, false, false, false, false, false, false, false, false, false, false, false, false, false, false, false, false, false, false, false, false, false, false, false, false, false, false, false, false, false, false, false, false, false, false, false, false, false] rfl rfl (by kernel_rfl) (fun _ _ _ h => h) (Or.inl ⟨by rfl, ?_⟩) ?_ ?_
                    rotate_left
                    · intro w'
                      go_simp
                      with_reducible rfl
                    rotate_left
                    · simp only [Act.put, List.setIfInBounds_toArray, List.set_cons_zero, List.set_cons_succ, i64_w, i32_w]
                      rfl
                    refine pure_ (i := 3) (N := (some 49)) (v := ?_) (a' := ?_) #[true, true, true, true, false, false, false, false, false, false, false, false, false, false, false, false, false, false, false, false, false, false, false, false, false, false, false, false, false, false, false, false, false, false, false, false, false, false, false, false] rfl rfl (by kernel_rfl) (fun _ _ _ h => h) (Or.inl ⟨by rfl, ?_⟩) ?_ ?_
                    rotate_left
                    · intro w'
                      go_simp
                      with_reducible rfl
                    rotate_left
                    · simp only [Act.put, List.setIfInBounds_toArray, List.set_cons_zero, List.set_cons_succ, i64_w, i32_w]
                      rfl
                    refine take_ (i := 4) (N := (some 50)) (v := ?_) (a' := ?_) #[true, true, true, true, true, false, false, false, false, false, false, false, false, false, false, false, false, false, false, false, false, false, false, false, false, false, false, false, false, false, false, false, false, false, false, false, false, false, false, false] rfl rfl (by kernel_rfl) (fun _ _ _ h => h) (Or.inl ⟨by rfl, ?_⟩) hHeld ?_ ?_
                    rotate_left
                    · rintro w' ⟨s0, s1, s2, s3, s4, s5⟩
                      go_simp
                      with_reducible rfl
                    rotate_left
                    · simp only [Act.put, List.setIfInBounds_toArray, List.set_cons_zero, List.set_cons_succ, i64_w, i32_w]
                      rfl
                    refine pure_ (i := 5) (N := (some 51)) (v := ?_) (a' := ?_) #[true, true, true, true, true, true, false, false, false, false, false, false, false, false, false, false, false, false, false, false, false, false, false, false, false, false, false, false, false, false, false, false, false, false, false, false, false, false, false, false] rfl rfl (by kernel_rfl) (fun _ _ _ h => h) (Or.inl ⟨by rfl, ?_⟩) ?_ ?_
                    rotate_left
                    · intro w'
                      go_simp
                      with_reducible rfl
                    rotate_left
                    · simp only [Act.put, List.setIfInBounds_toArray, List.set_cons_zero, List.set_cons_succ, i64_w, i32_w]
                      rfl
                    refine pure_ (i := 6) (N := (some 52)) (v := ?_) (a' := ?_) #[true, true, true, true, true, true, true, false, false, false, false, false, false, false, false, false, false, false, false, false, false, false, false, false, false, false, false, false, false, false, false, false, false, false, false, false, false, false, false, false] rfl rfl (by kernel_rfl) (fun _ _ _ h => h) (Or.inl ⟨by rfl, ?_⟩) ?_ ?_
                    rotate_left
                    · intro w'
                      go_simp
                      with_reducible rfl
                    rotate_left
                    · simp only [Act.put, List.setIfInBounds_toArray, List.set_cons_zero, List.set_cons_succ, i64_w, i32_w]
                      rfl
                    refine pure_ (i := 7) (N := (some 53)) (v := ?_) (a' := ?_) #[true, true, true, true, true, true, true, true, false, false, false, false, false, false, false, false, false, false, false, false, false, false, false, false, false, false, false, false, false, false, false, false, false, false, false, false, false, false, false, false] rfl rfl (by kernel_rfl) (fun _ _ _ h => h) (Or.inl ⟨by rfl, ?_⟩) ?_ ?_
                    rotate_left
                    · intro w'
                      go_simp
                      with_reducible rfl
                    rotate_left
                    · simp only [Act.put, List.setIfInBounds_toArray, List.set_cons_zero, List.set_cons_succ, i64_w, i32_w]
                      rfl
                    refine pure_ (i := 8) (N := (some 54)) (v := ?_) (a' := ?_) #[true, true, true, true, true, true, true, true, true, false, false, false, false, false, false, false, false, false, false, false, false, false, false, false, false, false, false, false, false, false, false, false, false, false, false, false, false, false, false, false] rfl rfl (by kernel_rfl) (fun _ _ _ h => h) (Or.inl ⟨by rfl, ?_⟩) ?_ ?_
                    rotate_left
                    · intro w'
                      go_simp
                      with_reducible rfl
                    rotate_left
                    · simp only [Act.put, List.setIfInBounds_toArray, List.set_cons_zero, List.set_cons_succ, i64_w, i32_w]
                      rfl
                    refine pure_ (i := 9) (N := (some 55)) (v := ?_) (a' := ?_) #[true, true, true, true, true, true, true, true, true, true, false, false, false, false, false, false, false, false, false, false, false, false, false, false, false, false, false, false, false, false, false, false, false, false, false, false, false, false, false, false] rfl rfl (by kernel_rfl) (fun _ _ _ h => h) (Or.inl ⟨by rfl, ?_⟩) ?_ ?_
                    rotate_left
                    · intro w'
                      go_simp
                      with_reducible rfl
                    rotate_left
                    · simp only [Act.put, List.setIfInBounds_toArray, List.set_cons_zero, List.set_cons_succ, i64_w, i32_w]
                      rfl
                    refine pure_ (i := 10) (N := (some 56)) (v := ?_) (a' := ?_) #[true, true, true, true, true, true, true, true, true, true, true, false, false, false, false, false, false, false, false, false, false, false, false, false, false, false, false, false, false, false, false, false, false, false, false, false, false, false, false, false] rfl rfl (by kernel_rfl) (fun _ _ _ h => h) (Or.inl ⟨by rfl, ?_⟩) ?_ ?_
                    rotate_left
                    · intro w'
                      go_simp
                      with_reducible rfl
                    rotate_left
                    · simp only [Act.put, List.setIfInBounds_toArray, List.set_cons_zero, List.set_cons_succ, i64_w, i32_w]
                      rfl
                    refine take_ (i := 11) (N := (some 57)) (v := ?_) (a' := ?_) #[true, true, true, true, true, true, true, true, true, true, true, true, false, false, false, false, false, false, false, false, false, false, false, false, false, false, false, false, false, false, false, false, false, false, false, false, false, false, false, false] rfl rfl (by kernel_rfl) (fun _ _ _ h => h) (Or.inl ⟨by rfl, ?_⟩) hHeld ?_ ?_
                    rotate_left
                    · rintro w' ⟨s0, s1, s2, s3, s4, s5⟩
                      go_simp
                      with_reducible rfl
                    rotate_left
                    · simp only [Act.put, List.setIfInBounds_toArray, List.set_cons_zero, List.set_cons_succ, i64_w, i32_w]
                      rfl
                    refine pure_ (i := 12) (N := (some 58)) (v := ?_) (a' := ?_) #[true, true, true, true, true, true, true, true, true, true, true, true, true, false, false, false, false, false, false, false, false, false, false, false, false, false, false, false, false, false, false, false, false, false, false, false, false, false, false, false] rfl rfl (by kernel_rfl) (fun _ _ _ h => h) (Or.inl ⟨by rfl, ?_⟩) ?_ ?_
                    rotate_left
                    · intro w'
                      go_simp
                      with_reducible rfl
                    rotate_left
                    · simp only [Act.put, List.setIfInBounds_toArray, List.set_cons_zero, List.set_cons_succ, i64_w, i32_w]
                      rfl
                    refine pure_ (i := 13) (N := (some 59)) (v := ?_) (a' := ?_) #[true, true, true, true, true, true, true, true, true, true, true, true, true, true, false, false, false, false, false, false, false, false, false, false, false, false, false, false, false, false, false, false, false, false, false, false, false, false, false, false] rfl rfl (by kernel_rfl) (fun _ _ _ h => h) (Or.inl ⟨by rfl, ?_⟩) ?_ ?_
                    rotate_left
                    · intro w'
                      go_simp
                      with_reducible rfl
                    rotate_left
                    · simp only [Act.put, List.setIfInBounds_toArray, List.set_cons_zero, List.set_cons_succ, i64_w, i32_w]
                      rfl
                    refine pure_ (i := 14) (N := (some 60)) (v := ?_) (a' := ?_) #[true, true, true, true, true, true, true, true, true, true, true, true, true, true, true, false, false, false, false, false, false, false, false, false, false, false, false, false, false, false, false, false, false, false, false, false, false, false, false, false] rfl rfl (by kernel_rfl) (fun _ _ _ h => h) (Or.inl ⟨by rfl, ?_⟩) ?_ ?_
                    rotate_left
                    · intro w'
                      go_simp
                      with_reducible rfl
                    rotate_left
                    · simp only [Act.put, List.setIfInBounds_toArray, List.set_cons_zero, List.set_cons_succ, i64_w, i32_w]
                      rfl
                    refine pure_ (i := 15) (N := (some 61)) (v := ?_) (a' := ?_) #[true, true, true, true, true, true, true, true, true, true, true, true, true, true, true, true, false, false, false, false, false, false, false, false, false, false, false, false, false, false, false, false, false, false, false, false, false, false, false, false] rfl rfl (by kernel_rfl) (fun _ _ _ h => h) (Or.inl ⟨by rfl, ?_⟩) ?_ ?_
                    rotate_left
                    · intro w'
                      go_simp
                      with_reducible rfl
                    rotate_left
                    · simp only [Act.put, List.setIfInBounds_toArray, List.set_cons_zero, List.set_cons_succ, i64_w, i32_w]
                      rfl
                    refine pure_ (i := 16) (N := (some 62)) (v := ?_) (a' := ?_) #[true, true, true, true, true, true, true, true, true, true, true, true, true, true, true, true, true, false, false, false, false, false, false, false, false, false, false, false, false, false, false, false, false, false, false, false, false, false, false, false] rfl rfl (by kernel_rfl) (fun _ _ _ h => h) (Or.inl ⟨by rfl, ?_⟩) ?_ ?_
                    rotate_left
                    · intro w'
                      go_simp
                      with_reducible rfl
                    rotate_left
                    · simp only [Act.put, List.setIfInBounds_toArray, List.set_cons_zero, List.set_cons_succ, i64_w, i32_w]
                      rfl
                    refine pure_ (i := 17) (N := (some 63)) (v := ?_) (a' := ?_) #[true, true, true, true, true, true, true, true, true, true, true, true, true, true, true, true, true, true, false, false, false, false, false, false, false, false, false, false, false, false, false, false, false, false, false, false, false, false, false, false] rfl rfl (by kernel_rfl) (fun _ _ _ h => h) (Or.inl ⟨by rfl, ?_⟩) ?_ ?_
                    rotate_left
                    · intro w'
                      go_simp
                      with_reducible rfl
                    rotate_left
                    · simp only [Act.put, List.setIfInBounds_toArray, List.set_cons_zero, List.set_cons_succ, i64_w, i32_w]
                      rfl
                    refine pure_ (i := 18) (N := (some 64)) (v := ?_) (a' := ?_) #[true, true, true, true, true, true, true, true, true, true, true, true, true, true, true, true, true, true, true, false, false, false, false, false, false, false, false, false, false, false, false, false, false, false, false, false, false, false, false, false] rfl rfl (by kernel_rfl) (fun _ _ _ h => h) (Or.inl ⟨by rfl, ?_⟩) ?_ ?_
                    rotate_left
                    · intro w'
                      go_simp
                      with_reducible rfl
                    rotate_left
                    · simp only [Act.put, List.setIfInBounds_toArray, List.set_cons_zero, List.set_cons_succ, i64_w, i32_w]
                      rfl
                    refine pure_ (i := 20) (N := (some 66)) (v := ?_) (a' := ?_) #[true, true, true, true, true, true, true, true, true, true, true, true, true, true, true, true, true, true, true, false, true, false, false, false, false, false, false, false, false, false, false, false, false, false, false, false, false, false, false, false] rfl rfl (by kernel_rfl) (fun _ _ _ h => h) (Or.inl ⟨by rfl, ?_⟩) ?_ ?_
                    rotate_left
                    · intro w'
                      go_simp
                      with_reducible rfl
                    rotate_left
                    · simp only [Act.put, List.setIfInBounds_toArray, List.set_cons_zero, List.set_cons_succ, i64_w, i32_w]
                      rfl
                    refine pure_ (i := 21) (N := (some 67)) (v := ?_) (a' := ?_) #[true, true, true, true, true, true, true, true, true, true, true, true, true, true, true, true, true, true, true, false, true, true, false, false, false, false, false, false, false, false, false, false, false, false, false, false, false, false, false, false] rfl rfl (by kernel_rfl) (fun _ _ _ h => h) (Or.inl ⟨by rfl, ?_⟩) ?_ ?_
                    rotate_left
                    · intro w'
                      go_simp
                      with_reducible rfl
                    rotate_left
                    · simp only [Act.put, List.setIfInBounds_toArray, List.set_cons_zero, List.set_cons_succ, i64_w, i32_w]
                      rfl
                    refine pure_ (i := 22) (N := (some 68)) (v := ?_) (a' := ?_) #[true, true, true, true, true, true, true, true, true, true, true, true, true, true, true, true, true, true, true, false, true, true, true, false, false, false, false, false, false, false, false, false, false, false, false, false, false, false, false, false] rfl rfl (by kernel_rfl) (fun _ _ _ h => h) (Or.inl ⟨by rfl, ?_⟩) ?_ ?_
                    rotate_left
                    · intro w'
                      go_simp
                      with_reducible rfl
                    rotate_left
                    · simp only [Act.put, List.setIfInBounds_toArray, List.set_cons_zero, List.set_cons_succ, i64_w, i32_w]
                      rfl
                    refine pure_ (i := 23) (N := (some 69)) (v := ?_) (a' := ?_) #[true, true, true, true, true, true, true, true, true, true, true, true, true, true, true, true, true, true, true, false, true, true, true, true, false, false, false, false, false, false, false, false, false, false, false, false, false, false, false, false] rfl rfl (by kernel_rfl) (fun _ _ _ h => h) (Or.inl ⟨by rfl, ?_⟩) ?_ ?_
                    rotate_left
                    · intro w'
                      go_simp
                      with_reducible rfl
                    rotate_left
                    · simp only [Act.put, List.setIfInBounds_toArray, List.set_cons_zero, List.set_cons_succ, i64_w, i32_w]
                      rfl
                    refine take_ (i := 19) (N := (some 65)) (v := ?_) (a' := ?_) #[true, true, true, true, true, true, true, true, true, true, true, true, true, true, true, true, true, true, true, true, true, true, true, true, false, false, false, false, false, false, false, false, false, false, false, false, false, false, false, false] rfl rfl (by kernel_rfl) (fun _ _ _ h => h) (Or.inl ⟨by rfl, ?_⟩) hHeld ?_ ?_
                    rotate_left
                    · rintro w' ⟨s0, s1, s2, s3, s4, s5⟩
                      go_simp
                      with_reducible rfl
                    rotate_left
                    · simp only [Act.put, List.setIfInBounds_toArray, List.set_cons_zero, List.set_cons_succ, i64_w, i32_w]
                      rfl
                    refine take_ (i := 24) (N := (some 70)) (v := ?_) (a' := ?_) #[true, true, true, true, true, true, true, true, true, true, true, true, true, true, true, true, true, true, true, true, true, true, true, true, true, false, false, false, false, false, false, false, false, false, false, false, false, false, false, false] rfl rfl (by kernel_rfl) (fun _ _ _ h => h) (Or.inl ⟨by rfl, ?_⟩) hHeld ?_ ?_
                    rotate_left
                    · rintro w' ⟨s0, s1, s2, s3, s4, s5⟩
                      go_simp
                      with_reducible rfl
                    rotate_left
                    · simp only [Act.put, List.setIfInBounds_toArray, List.set_cons_zero, List.set_cons_succ, i64_w, i32_w]
                      rfl
                    refine pure_ (i := 25) (N := (some 71)) (v := ?_) (a' := ?_) #[true, true, true, true, true, true, true, true, true, true, true, true, true, true, true, true, true, true, true, true, true, true, true, true, true, true, false, false, false, false, false, false, false, false, false, false, false, false, false, false] rfl rfl (by kernel_rfl) (fun _ _ _ h => h) (Or.inl ⟨by rfl, ?_⟩) ?_ ?_
                    rotate_left
                    · intro w'
                      go_simp
                      with_reducible rfl
                    rotate_left
                    · simp only [Act.put, List.setIfInBounds_toArray, List.set_cons_zero, List.set_cons_succ, i64_w, i32_w]
                      rfl
                    refine pure_ (i := 26) (N := (some 72)) (v := ?_) (a' := ?_) #[true, true, true, true, true, true, true, true, true, true, true, true, true, true, true, true, true, true, true, true, true, true, true, true, true, true, true, false, false, false, false, false, false, false, false, false, false, false, false, false] rfl rfl (by kernel_rfl) (fun _ _ _ h => h) (Or.inl ⟨by rfl, ?_⟩) ?_ ?_
                    rotate_left
                    · intro w'
                      go_simp
                      with_reducible rfl
                    rotate_left
                    · simp only [Act.put, List.setIfInBounds_toArray, List.set_cons_zero, List.set_cons_succ, i64_w, i32_w]
                      rfl
                    refine pure_ (i := 27) (N := (some 73)) (v := ?_) (a' := ?_) #[true, true, true, true, true, true, true, true, true, true, true, true, true, true, true, true, true, true, true, true, true, true, true, true, true, true, true, true, false, false, false, false, false, false, false, false, false, false, false, false] rfl rfl (by kernel_rfl) (fun _ _ _ h => h) (Or.inl ⟨by rfl, ?_⟩) ?_ ?_
                    rotate_left
                    · intro w'
                      go_simp
                      with_reducible rfl
                    rotate_left
                    · simp only [Act.put, List.setIfInBounds_toArray, List.set_cons_zero, List.set_cons_succ, i64_w, i32_w]
                      rfl
                    refine pure_ (i := 28) (N := (some 74)) (v := ?_) (a' := ?_) #[true, true, true, true, true, true, true, true, true, true, true, true, true, true, true, true, true, true, true, true, true, true, true, true, true, true, true, true, true, false, false, false, false, false, false, false, false, false, false, false] rfl rfl (by kernel_rfl) (fun _ _ _ h => h) (Or.inl ⟨by rfl, ?_⟩) ?_ ?_
                    rotate_left
                    · intro w'
                      go_simp
                      with_reducible rfl
                    rotate_left
                    · simp only [Act.put, List.setIfInBounds_toArray, List.set_cons_zero, List.set_cons_succ, i64_w, i32_w]
                      rfl
                    refine pure_ (i := 29) (N := (some 75)) (v := ?_) (a' := ?_) #[true, true, true, true, true, true, true, true, true, true, true, true, true, true, true, true, true, true, true, true, true, true, true, true, true, true, true, true, true, true, false, false, false, false, false, false, false, false, false, false] rfl rfl (by kernel_rfl) (fun _ _ _ h => h) (Or.inl ⟨by rfl, ?_⟩) ?_ ?_
                    rotate_left
                    · intro w'
                      go_simp
                      with_reducible rfl
                    rotate_left
                    · simp only [Act.put, List.setIfInBounds_toArray, List.set_cons_zero, List.set_cons_succ, i64_w, i32_w]
                      rfl
                    refine pure_ (i := 30) (N := (some 76)) (v := ?_) (a' := ?_) #[true, true, true, true, true, true, true, true, true, true, true, true, true, true, true, true, true, true, true, true, true, true, true, true, true, true, true, true, true, true, true, false, false, false, false, false, false, false, false, false] rfl rfl (by kernel_rfl) (fun _ _ _ h => h) (Or.inl ⟨by rfl, ?_⟩) ?_ ?_
                    rotate_left
                    · intro w'
                      go_simp
                      with_reducible rfl
                    rotate_left
                    · simp only [Act.put, List.setIfInBounds_toArray, List.set_cons_zero, List.set_cons_succ, i64_w, i32_w]
                      rfl
                    refine pure_ (i := 32) (N := (some 78)) (v := ?_) (a' := ?_) #[true, true, true, true, true, true, true, true, true, true, true, true, true, true, true, true, true, true, true, true, true, true, true, true, true, true, true, true, true, true, true, false, true, false, false, false, false, false, false, false] rfl rfl (by kernel_rfl) (fun _ _ _ h => h) (Or.inl ⟨by rfl, ?_⟩) ?_ ?_
                    rotate_left
                    · intro w'
                      go_simp
                      with_reducible rfl
                    rotate_left
                    · simp only [Act.put, List.setIfInBounds_toArray, List.set_cons_zero, List.set_cons_succ, i64_w, i32_w]
                      rfl
                    refine pure_ (i := 33) (N := (some 79)) (v := ?_) (a' := ?_) #[true, true, true, true, true, true, true, true, true, true, true, true, true, true, true, true, true, true, true, true, true, true, true, true, true, true, true, true, true, true, true, false, true, true, false, false, false, false, false, false] rfl rfl (by kernel_rfl) (fun _ _ _ h => h) (Or.inl ⟨by rfl, ?_⟩) ?_ ?_
                    rotate_left
                    · intro w'
                      go_simp
                      with_reducible rfl
                    rotate_left
                    · simp only [Act.put, List.setIfInBounds_toArray, List.set_cons_zero, List.set_cons_succ, i64_w, i32_w]
                      rfl
                    refine pure_ (i := 34) (N := (some 80)) (v := ?_) (a' := ?_) #[true, true, true, true, true, true, true, true, true, true, true, true, true, true, true, true, true, true, true, true, true, true, true, true, true, true, true, true, true, true, true, false, true, true, true, false, false, false, false, false] rfl rfl (by kernel_rfl) (fun _ _ _ h => h) (Or.inl ⟨by rfl, ?_⟩) ?_ ?_
                    rotate_left
                    · intro w'
                      go_simp
                      with_reducible rfl
                    rotate_left
                    · simp only [Act.put, List.setIfInBounds_toArray, List.set_cons_zero, List.set_cons_succ, i64_w, i32_w]
                      rfl
                    refine pure_ (i := 35) (N := (some 81)) (v := ?_) (a' := ?_) #[true, true, true, true, true, true, true, true, true, true, true, true, true, true, true, true, true, true, true, true, true, true, true, true, true, true, true, true, true, true, true, false, true, true, true, true, false, false, false, false] rfl rfl (by kernel_rfl) (fun _ _ _ h => h) (Or.inl ⟨by rfl, ?_⟩) ?_ ?_
                    rotate_left
                    · intro w'
                      go_simp
                      with_reducible rfl
                    rotate_left
                    · simp only [Act.put, List.setIfInBounds_toArray, List.set_cons_zero, List.set_cons_succ, i64_w, i32_w]
                      rfl
                    refine take_ (i := 31) (N := (some 77)) (v := ?_) (a' := ?_) #[true, true, true, true, true, true, true, true, true, true, true, true, true, true, true, true, true, true, true, true, true, true, true, true, true, true, true, true, true, true, true, true, true, true, true, true, false, false, false, false] rfl rfl (by kernel_rfl) (fun _ _ _ h => h) (Or.inl ⟨by rfl, ?_⟩) hHeld ?_ ?_
                    rotate_left
                    · rintro w' ⟨s0, s1, s2, s3, s4, s5⟩
                      go_simp
                      with_reducible rfl
                    rotate_left
                    · simp only [Act.put, List.setIfInBounds_toArray, List.set_cons_zero, List.set_cons_succ, i64_w, i32_w]
                      rfl
                    refine take_ (i := 36) (N := (some 82)) (v := ?_) (a' := ?_) #[true, true, true, true, true, true, true, true, true, true, true, true, true, true, true, true, true, true, true, true, true, true, true, true, true, true, true, true, true, true, true, true, true, true, true, true, true, false, false, false] rfl rfl (by kernel_rfl) (fun _ _ _ h => h) (Or.inl ⟨by rfl, ?_⟩) hHeld ?_ ?_
                    rotate_left
                    · rintro w' ⟨s0, s1, s2, s3, s4, s5⟩
                      go_simp
                      with_reducible rfl
                    rotate_left
                    · simp only [Act.put, List.setIfInBounds_toArray, List.set_cons_zero, List.set_cons_succ, i64_w, i32_w]
                      rfl
                    refine one_ (i := 37) (N := (some 83)) #[true, true, true, true, true, true, true, true, true, true, true, true, true, true, true, true, true, true, true, true, true, true, true, true, true, true, true, true, true, true, true, true, true, true, true, true, true, true, false, false] rfl rfl (by kernel_rfl) (by decide) (fun K_ hK => ?_)
                    refine goes_ Try.func15 (by kernel_rfl) rfl #[.int .i64 hA.f1, .int .i64 hB.f1] (by rfl) rfl rfl (by (try simp only [List.map_toArray, List.map_cons, List.map_nil]); first | done | rfl) ?_
                    refine (rconf_calls _ hA.f1 hB.f1).mono ?_
                    rintro E w8 ⟨rfl, hbq⟩
                    have HS2 := Aside0.mk (HS1.out.below hbq)
                    clear HS1
                    clear hbq
                    rw [HCF.out]
                    refine ⟨_, rfl, ?_⟩
                    clear hHeld
                    refine hK.out _ _ ⟨(HWA.out ▸ ((HS2.out.rest.rowX 0 rfl).held HHA.out).2.2), (HWB.out ▸ ((HS2.out.rest.rowX 0 rfl).held HHB.out).2.2), ((HS2.out.rest.rowX 0 rfl).held HHA.out).1, ((HS2.out.rest.rowX 0 rfl).held HHB.out).1, ((HS2.out.rest.rowX 0 rfl).held HHA.out).2.1, ((HS2.out.rest.rowX 0 rfl).held HHB.out).2.1⟩ (fun hHeld => ?_)
                    clear hK K_
                    refine norm_ (a' := ?_) ?_ ?_
                    rotate_left
                    · show Act.put _ (some 83) _ = _
                      simp only [Act.put, List.setIfInBounds_toArray, List.set_cons_zero, List.set_cons_succ, i64_w, i32_w]
                      rfl
                    refine pure_ (i := 38) (N := (some 84)) (v := ?_) (a' := ?_) #[true, true, true, true, true, true, true, true, true, true, true, true, true, true, true, true, true, true, true, true, true, true, true, true, true, true, true, true, true, true, true, true, true, true, true, true, true, true, true, false] rfl rfl (by kernel_rfl) (fun _ _ _ h => h) (Or.inl ⟨by rfl, ?_⟩) ?_ ?_
                    rotate_left
                    · intro w'
                      go_simp
                      with_reducible rfl
                    rotate_left
                    · simp only [Act.put, List.setIfInBounds_toArray, List.set_cons_zero, List.set_cons_succ, i64_w, i32_w]
                      rfl
                    refine pure_ (i := 39) (N := (some 85)) (v := ?_) (a' := ?_) #[true, true, true, true, true, true, true, true, true, true, true, true, true, true, true, true, true, true, true, true, true, true, true, true, true, true, true, true, true, true, true, true, true, true, true, true, true, true, true, true] rfl rfl (by kernel_rfl) (fun _ _ _ h => h) (Or.inl ⟨by rfl, ?_⟩) ?_ ?_
                    rotate_left
                    · intro w'
                      go_simp
                      with_reducible rfl
                    rotate_left
                    · simp only [Act.put, List.setIfInBounds_toArray, List.set_cons_zero, List.set_cons_succ, i64_w, i32_w]
                      rfl
                    refine done_ (by kernel_rfl) ?_
                    clear hHeld
                    go_wp2
                    go_roundg gq3
                    case measure => omega
                    case rel => exact ⟨b + 1, by go_num, by omega, HS2⟩
end Go.Proofs.Kb
end
