/- Packed by shake.py: YtjaddmflopahiaaE7 YtjaddmflopahiaaP10 YtjaddmflopahiaaR YtjaddmflopahiaaP11 YtjaddmflopahiaaQ54 YtjaddmflopahiaaQ34 YtjaddmflopahiaaQ21 YtjaddmflopahiaaP13 YtjaddmflopahiaaE15 YtjaddmflopahiaaE16 YtjaddmflopahiaaE17 YtjaddmflopahiaaE18 YtjaddmflopahiaaE19 YtjaddmflopahiaaE8 YtjaddmflopahiaaE9 YtjaddmflopahiaaQ17 YtjaddmflopahiaaE10 YtjaddmflopahiaaE20 YtjaddmflopahiaaE21 YtjaddmflopahiaaE11 YtjaddmflopahiaaE22 YtjaddmflopahiaaE23 YtjaddmflopahiaaP12 YtjaddmflopahiaaE13 YtjaddmflopahiaaE24 YtjaddmflopahiaaP14 YtjaddmflopahiaaQ38 -/
import Derived.Deep.Slices
import Derived.ChangeArms
import Derived.DataReads
import Derived.Test.YtjaddmflopahiaaV6
section
namespace Go.Proofs.Bt
open Go Go.RowKit Go.Proofs.Ytjaddmflopahiaa.Q Go.Proofs.YtjaddmflopahiaaW.PrintWords Go.Proofs.YtjaddmflopahiaaW.PrintLast Go.Proofs.YtjaddmflopahiaaW.PrintMore
set_option linter.unusedVariables false
set_option linter.unusedSimpArgs false
set_option maxRecDepth 100000
abbrev ST := Σ h, BT h
def tinsS (T : ST) (e : S29) : ST × Bool := tins T.1 T.2 e
def tcutS (T : ST) (e : S29) : ST × Bool := tcut T.1 T.2 e
def flatS (T : ST) : List It := flat T.1 T.2
def TInvS (T : ST) : Prop := TInv T.1 T.2
def TS (w0 : World) (F : Nat → Prop) (W : World) (tp : Nat) (T : ST) (cnt : Int) (R : List Chunk) : Prop := ∃ m : MT T.1, abs T.1 m = T.2 ∧ St w0 F W (treeT tp T.1 m cnt ++ R)
theorem TS.open {w0 W : World} {F : Nat → Prop} {tp h : Nat} {t : BT h} {cnt : Int} {R : List Chunk} (s : TS w0 F W tp ⟨h, t⟩ cnt R) : ∃ m : MT h, abs h m = t ∧ St w0 F W (treeT tp h m cnt ++ R) := s
section
variable {w0 W W' : World} {F : Nat → Prop} {tp : Nat} {T : ST} {cnt : Int} {R R' : List Chunk}
theorem TS.below (s : TS w0 F W tp T cnt R) (hb : Below W.heap.size W W') : TS w0 F W' tp T cnt R := by
  obtain ⟨m, h1, s⟩ := s
  exact ⟨m, h1, s.below hb⟩
theorem TS.rest (s : TS w0 F W tp T cnt R) : St w0 F W R := by
  obtain ⟨m, h1, s⟩ := s
  exact s.drop
theorem TS.keep (s : TS w0 F W tp T cnt R) : Keep w0 W F := by
  obtain ⟨m, h1, s⟩ := s
  exact s.keep
theorem TS.upd (s : TS w0 F W tp T cnt R) (k : ∀ X, St w0 F W (R ++ X) → St w0 F W' (R' ++ X)) : TS w0 F W' tp T cnt R' := by
  obtain ⟨m, h1, s⟩ := s
  exact ⟨m, h1, (k _ (s.perm List.perm_append_comm)).perm List.perm_append_comm⟩
end
theorem new_ts (w w0 : World) (F : Nat → Prop) (R : List Chunk) (s : St w0 F w R) : Calls Try.prog 10 #[] w fun E w' => ∃ tp, E = .returned (.pointer (some ⟨tp, 0, none⟩)) ∧ TS w0 F w' tp ⟨0, ([] : List S29)⟩ 0 R := by
  refine (new_calls w).mono ?_
  rintro E w' ⟨tp, m, rfl, ⟨h1, h2, h3⟩, h4, h5, h6⟩
  refine ⟨tp, rfl, m, h4, ?_⟩
  have s1 := s.fresh h5 (treeC 0 m) h2 (fun a => by have := h3 a; rw [List.count_cons] at this; exact (show (fp 0 m).count a ≤ 1 by omega)) (fun b hb => h6 b (List.mem_cons_of_mem _ hb))
  have hne : tp ∉ fp 0 m := fun hm => by
    have h1 := h3 tp
    have h2 := count_mem.1 hm
    rw [List.count_cons_self] at h1
    omega
  refine ⟨s1.keep, ?_, ?_, ?_⟩
  · intro c hc
    rcases List.mem_cons.1 (show c ∈ tatC tp (ptr 0 m) 0 :: (treeC 0 m :: R) from hc) with rfl | hc
    · exact h1
    · exact s1.h c hc
  · have e : fpc (treeT tp 0 m 0 ++ R) = [tp] ++ fpc (treeC 0 m :: R) := rfl
    rw [e]
    refine nd_app.2 ⟨nd_one tp, s1.nd, fun x hx hm => ?_⟩
    simp at hx
    subst hx
    rw [fpc_cons] at hm
    rcases List.mem_append.1 hm with hm | hm
    · exact hne hm
    · have := s.lt x hm
      have := h6 x (by simp)
      omega
  · intro b hb
    have hb : b ∈ [tp] ++ fpc (treeC 0 m :: R) := hb
    rcases List.mem_append.1 hb with hb | hb
    · simp at hb
      subst hb
      have := s.keep.size
      have := h6 b (by simp)
      exact .inr (by omega)
    · exact s1.own b hb
theorem insert_ts (W w0 : World) (F : Nat → Prop) (tp : Nat) (T : ST) (cnt : Int) (R : List Chunk) (e : S29) (s : TS w0 F W tp T cnt R) (hi : TInvS T) (hc0 : 0 ≤ cnt) (hc1 : cnt < 1000000) :
    Calls Try.prog 11 #[.pointer (some ⟨tp, 0, none⟩), entryV e] W fun E w' => E = .returned (.bool (tinsS T e).2) ∧ TS w0 F w' tp (tinsS T e).1 (if (tinsS T e).2 = true then cnt + 1 else cnt) R := by
  obtain ⟨h, t⟩ := T
  obtain ⟨m, hm, sX⟩ := TS.open s
  subst hm
  have s' : St w0 F W (treeT tp h m cnt ++ R) := sX
  have hT : TreeAt W tp (ptr h m) cnt := s'.tat 0 rfl
  have hok : Ok W h m := s'.tree 1 rfl
  have hsub := s'.sub
  have hfp : fpc (treeT tp h m cnt) = tp :: fp h m := by simp [fpc, treeT, tatC, treeC]
  have hnd : ND (tp :: fp h m) := by
    have := hsub.nd
    rw [hfp] at this
    exact this
  refine (tinsert_calls W tp h m cnt e ⟨hT, hok, hnd⟩ (fit_of h _ _ e hi.shape hi.srt) hc0 hc1).mono ?_
  rintro E w' ⟨h', m', rfl, ⟨g1, g2, g3⟩, g4, g5, g6⟩
  refine ⟨rfl, ?_⟩
  have hTS : TS w0 F w' tp ⟨h', abs h' m'⟩ (if (tins h (abs h m) e).2 = true then cnt + 1 else cnt) R := by
    refine ⟨m', rfl, s'.frame (B := treeT tp h' m' (if (tins h (abs h m) e).2 = true then cnt + 1 else cnt)) ?_ ?_ ?_ ?_⟩
    · rw [hfp]
      exact g5
    · intro c hc
      simp only [treeT, List.mem_cons, List.not_mem_nil, or_false] at hc
      rcases hc with rfl | rfl
      · exact g1
      · exact g2
    · have : fpc (treeT tp h' m' (if (tins h (abs h m) e).2 = true then cnt + 1 else cnt)) = tp :: fp h' m' := by simp [fpc, treeT, tatC, treeC]
      rw [this]
      exact g3
    · intro b hb
      have : fpc (treeT tp h' m' (if (tins h (abs h m) e).2 = true then cnt + 1 else cnt)) = tp :: fp h' m' := by simp [fpc, treeT, tatC, treeC]
      rw [this] at hb
      rw [hfp]
      rcases List.mem_cons.1 hb with rfl | hb
      · exact .inl List.mem_cons_self
      · exact (g6 b hb).imp (List.mem_cons_of_mem _) id
  have e1 : (tinsS ⟨h, abs h m⟩ e).1 = ⟨h', abs h' m'⟩ := g4.symm
  rw [e1]
  exact hTS
theorem delete_ts (W w0 : World) (F : Nat → Prop) (tp : Nat) (T : ST) (cnt : Int) (R : List Chunk) (e : S29) (s : TS w0 F W tp T cnt R) (hi : TInvS T) (hc0 : 0 ≤ cnt) (hc1 : cnt < 1000000) :
    Calls Try.prog 15 #[.pointer (some ⟨tp, 0, none⟩), entryV e] W fun E w' => E = .returned (.bool (tcutS T e).2) ∧ TS w0 F w' tp (tcutS T e).1 (if (tcutS T e).2 = true then cnt - 1 else cnt) R := by
  obtain ⟨h, t⟩ := T
  obtain ⟨m, hm, sX⟩ := TS.open s
  subst hm
  have s' : St w0 F W (treeT tp h m cnt ++ R) := sX
  refine (tdelete_calls W tp h m cnt e s'.sub (cutfit_of h _ _ e hi.shape (by cases h <;> simp) hi.srt) hc0 hc1).mono ?_
  rintro E w' ⟨h', m', rfl, g1, st⟩
  refine ⟨rfl, ?_⟩
  have e1 : (tcutS ⟨h, abs h m⟩ e).1 = ⟨h', abs h' m'⟩ := g1.symm
  rw [e1]
  exact ⟨m', rfl, s'.call st⟩
theorem count_ts (W w0 : World) (F : Nat → Prop) (tp : Nat) (T : ST) (cnt : Int) (R : List Chunk) (s : TS w0 F W tp T cnt R) : Calls Try.prog 13 #[.pointer (some ⟨tp, 0, none⟩)] W fun E w' => E = .returned (.int .i64 cnt) ∧ w' = W := by
  obtain ⟨m, hm, s⟩ := s
  exact count_calls W tp _ cnt (St.tat (cs := treeT tp T.1 m cnt ++ R) s 0 rfl)
theorem small_of : ∀ (h n : Nat) (t : BT h), Shape h n t → Small h t
  | 0, n, t, hs => by have := hs.2; exact (show List.length (α := S29) t < 900 by omega)
  | h + 1, n, t, hs => by
    obtain ⟨h1, h2, h3, h4⟩ := hs
    exact ⟨by omega, by omega, fun k hk => small_of h 2 k (h4 k hk)⟩
def pagesOf (T : ST) : List PgA := blay T.1 T.2 0
theorem pages_ts (W w0 : World) (F : Nat → Prop) (tp : Nat) (T : ST) (cnt : Int) (R : List Chunk) (s : TS w0 F W tp T cnt R) (hi : TInvS T) (hb : (pagesOf T).length < 100000) :
    Calls Try.prog 12 #[.pointer (some ⟨tp, 0, none⟩)] W fun E w' => ∃ (g n c : Nat) (l : List Pg), E = .returned (.slice (some ⟨g, 0, none⟩) n c) ∧ l.map Pg.a = pagesOf T ∧ TS w0 F w' tp T cnt (pagesC (.slice (some ⟨g, 0, none⟩) n c) l :: R) := by
  obtain ⟨h, t⟩ := T
  obtain ⟨m, hm, sX⟩ := TS.open s
  subst hm
  have s' : St w0 F W (treeT tp h m cnt ++ R) := sX
  refine (pages_calls W tp h m cnt _ s'.sub (small_of h _ _ hi.shape) hb).mono ?_
  rintro E w' ⟨g, n, c, l, rfl, hl, st⟩
  exact ⟨g, n, c, l, rfl, hl, m, rfl, s'.call st⟩
theorem TS.made {w0 W W' : World} {F : Nat → Prop} {tp : Nat} {T : ST} {cnt : Int} {R : List Chunk} {c : Chunk} (s : TS w0 F W tp T cnt R) (k : St W NoF W' [c]) : TS w0 F W' tp T cnt (c :: R) := by
  obtain ⟨m, hm, s⟩ := s
  have hb := keep_below k.keep
  have hc := k.h c (by simp)
  have hnd : ND c.bs := k.ndi 0 rfl
  have s2 := s.fresh hb c hc hnd (fun b hb => (k.own b (by simp [fpc, hb])).elim (fun h => h.elim) id)
  refine ⟨m, hm, s2.perm ?_⟩
  exact (List.perm_middle (a := c) (l₁ := treeT tp T.1 m cnt) (l₂ := R)).symm
def fromS (T : ST) (e : S29) : List S29 := bfrom T.1 T.2 e
theorem range_ts (W w0 : World) (F : Nat → Prop) (tp : Nat) (T : ST) (cnt : Int) (R : List Chunk) (frm hiK : ByteArray) (most : Int) (s : TS w0 F W tp T cnt R) (hi : TInvS T) (hb : (fromS T (lowS frm)).length < 90000) :
    Calls Try.prog 19 #[.pointer (some ⟨tp, 0, none⟩), .string frm, .string hiK, .int .i64 most] W fun E w' => ∃ v, E = .returned v ∧ TS w0 F w' tp T cnt (rowEC v (rng hiK most (fromS T (lowS frm)) 0) :: R) := by
  have s0 := s
  obtain ⟨h, t⟩ := T
  obtain ⟨m, hm, sX⟩ := TS.open s
  subst hm
  have s' : St w0 F W (treeT tp h m cnt ++ R) := sX
  refine (range_calls W tp h m cnt frm hiK most (s'.tat 0 rfl) (s'.tree 1 rfl) (fit_of h _ _ _ hi.shape hi.srt) hb).mono ?_
  rintro E w' ⟨v, rfl, st⟩
  exact ⟨v, rfl, s0.made st⟩
end Go.Proofs.Bt
end
section
namespace Go.Proofs.Bt
open Go Go.RowKit Go.Proofs.Ytjaddmflopahiaa.Q
set_option linter.unusedVariables false
set_option linter.unusedSimpArgs false
def ent (F : List It) : List S29 := F.filterMap fun i => if i.2 = true then some i.1 else none
theorem ent_app (a b : List It) : ent (a ++ b) = ent a ++ ent b := by simp [ent]
theorem ent_sep (z : S29) (F : List It) : ent ((z, false) :: F) = ent F := by simp [ent]
theorem ent_ents (l : List S29) : ent (ents l) = l := by
  induction l with
  | nil => rfl
  | cons x l ih =>
    show ent ((x, true) :: ents l) = x :: l
    simp only [ent, List.filterMap_cons]
    simp
    exact ih
theorem mem_ent (F : List It) (z : S29) : z ∈ ent F ↔ (z, true) ∈ F := by
  simp only [ent, List.mem_filterMap]
  constructor
  · rintro ⟨i, hi, h⟩
    split at h
    · rename_i h2
      simp at h
      rw [← h, ← h2]
      exact hi
    · cases h
  · intro h
    exact ⟨(z, true), h, by simp⟩
theorem ent_sorted {F : List It} (h : Srt F) : Sorted (ent F) := by
  unfold Sorted ent
  rw [List.pairwise_filterMap]
  refine h.imp fun {a b} hab x hx y hy => ?_
  split at hx
  · split at hy
    · rename_i h1 h2
      simp at hx hy
      subst hx
      subst hy
      rcases hab with hab | ⟨_, h3, _⟩
      · exact hab
      · rw [h1] at h3
        cases h3
    · cases hy
  · cases hx
theorem sorted_ext : ∀ {a b : List S29}, Sorted a → Sorted b → (∀ z, z ∈ a ↔ z ∈ b) → a = b
  | [], [], _, _, _ => rfl
  | [], y :: b, _, _, h => by have := (h y).2 (by simp); simp at this
  | x :: a, [], _, _, h => by have := (h x).1 (by simp); simp at this
  | x :: a, y :: b, ha, hb, h => by
    obtain ⟨a1, a2⟩ := List.pairwise_cons.1 ha
    obtain ⟨b1, b2⟩ := List.pairwise_cons.1 hb
    have hxy : x = y := by
      rcases List.mem_cons.1 ((h x).1 (by simp)) with h1 | h1
      · exact h1
      · rcases List.mem_cons.1 ((h y).2 (by simp)) with h2 | h2
        · exact h2.symm
        · exact absurd (ltE_trans (b1 x h1) (a1 y h2)) (ltE_irr _)
    subst hxy
    rw [sorted_ext a2 b2 fun z => ?_]
    constructor
    · intro hz
      rcases List.mem_cons.1 ((h z).1 (List.mem_cons_of_mem _ hz)) with h1 | h1
      · subst h1
        exact absurd (a1 z hz) (ltE_irr _)
      · exact h1
    · intro hz
      rcases List.mem_cons.1 ((h z).2 (List.mem_cons_of_mem _ hz)) with h1 | h1
      · subst h1
        exact absurd (b1 z hz) (ltE_irr _)
      · exact h1
def sins (l : List S29) (e : S29) : List S29 := if found l e = true then l else insAt l (low l e) e
def sdel (l : List S29) (e : S29) : List S29 := if found l e = true then delAt l (low l e) else l
theorem ent_ins {e : S29} {F F' : List It} (hs : Srt F) (k : Insd e F F') : ent F' = sins (ent F) e := by
  have hso := ent_sorted hs
  have hl := (leaf_ins (ent F) e hso).1
  refine sorted_ext (ent_sorted k.srt) (srt_keys hl.srt) fun z => ?_
  rw [mem_ent, k.mem, ← mem_ent]
  have := hl.mem z
  rw [ents_mem, ents_mem] at this
  exact this.symm
theorem ent_del {e : S29} {F F' : List It} (hs : Srt F) (k : Deld e F F') : ent F' = sdel (ent F) e := by
  have hso := ent_sorted hs
  have hl := leaf_del (ent F) e hso
  refine sorted_ext (ent_sorted k.srt) (srt_keys hl.srt) fun z => ?_
  rw [mem_ent, k.mem, ← mem_ent]
  have := hl.mem z
  rw [ents_mem, ents_mem] at this
  exact this.symm
def entS (T : ST) : List S29 := ent (flatS T)
theorem entS_sorted {T : ST} (h : TInvS T) : Sorted (entS T) := ent_sorted h.srt
theorem tins_ent {T : ST} (e : S29) (h : TInvS T) : TInvS (tinsS T e).1 ∧ entS (tinsS T e).1 = sins (entS T) e ∧ ((tinsS T e).2 = true ↔ e ∉ entS T) := by
  obtain ⟨h1, h2, h3⟩ := tins_good T.1 T.2 e h
  refine ⟨h1, ent_ins h.srt h2, ?_⟩
  have : e ∈ entS T ↔ (e, true) ∈ flatS T := mem_ent _ _
  rw [this]
  exact h3
theorem tcut_ent {T : ST} (e : S29) (h : TInvS T) : TInvS (tcutS T e).1 ∧ entS (tcutS T e).1 = sdel (entS T) e ∧ ((tcutS T e).2 = true ↔ e ∈ entS T) := by
  obtain ⟨h1, h2, h3⟩ := tcut_good T.1 T.2 e h
  refine ⟨h1, ent_del h.srt h2, ?_⟩
  have : e ∈ entS T ↔ (e, true) ∈ flatS T := mem_ent _ _
  rw [this]
  exact h3
theorem sins_len (l : List S29) (e : S29) (hs : Sorted l) (b : Bool) (hb : b = true ↔ e ∉ l) : ((sins l e).length : Int) = if b = true then (l.length : Int) + 1 else l.length := by
  have := found_mem l e hs
  unfold sins
  by_cases he : e ∈ l
  · rw [if_pos (this.2 he), if_neg (fun h => hb.1 h he)]
  · rw [if_neg (fun h => he (this.1 h)), if_pos (hb.2 he), insAt_len _ _ _ (low_le l e)]
    omega
theorem sdel_len (l : List S29) (e : S29) (hs : Sorted l) (b : Bool) (hb : b = true ↔ e ∈ l) : ((sdel l e).length : Int) = if b = true then (l.length : Int) - 1 else l.length := by
  have := found_mem l e hs
  unfold sdel
  by_cases he : e ∈ l
  · have hl := found_lt (this.2 he)
    rw [if_pos (this.2 he), if_pos (hb.2 he), delAt_len _ _ hl]
    omega
  · rw [if_neg (fun h => he (this.1 h)), if_neg (fun h => he (hb.1 h))]
theorem tins_count {T : ST} (e : S29) (h : TInvS T) {cnt : Int} (hc : cnt = (entS T).length) : (if (tinsS T e).2 = true then cnt + 1 else cnt) = ((entS (tinsS T e).1).length : Int) := by
  obtain ⟨_, h2, h3⟩ := tins_ent e h
  rw [h2, sins_len _ e (entS_sorted h) _ h3, hc]
theorem tcut_count {T : ST} (e : S29) (h : TInvS T) {cnt : Int} (hc : cnt = (entS T).length) : (if (tcutS T e).2 = true then cnt - 1 else cnt) = ((entS (tcutS T e).1).length : Int) := by
  obtain ⟨_, h2, h3⟩ := tcut_ent e h
  rw [h2, sdel_len _ e (entS_sorted h) _ h3, hc]
def sumL {α : Type} (f : α → Nat) : List α → Nat
  | [] => 0
  | x :: l => f x + sumL f l
theorem sumL_ge {α : Type} (f : α → Nat) (c : Nat) : ∀ (l : List α), (∀ x ∈ l, c ≤ f x) → l.length * c ≤ sumL f l
  | [], h => by simp [sumL]
  | x :: l, h => by
    have := sumL_ge f c l (fun y hy => h y (List.mem_cons_of_mem _ hy))
    have := h x (by simp)
    simp only [sumL, List.length_cons, Nat.add_mul, Nat.one_mul]
    omega
theorem sumL_le {α : Type} (f g : α → Nat) : ∀ (l : List α), (∀ x ∈ l, f x + 1 ≤ g x) → sumL f l + l.length ≤ sumL g l
  | [], h => by simp [sumL]
  | x :: l, h => by
    have := sumL_le f g l (fun y hy => h y (List.mem_cons_of_mem _ hy))
    have := h x (by simp)
    simp only [sumL, List.length_cons]
    omega
def ecnt : (h : Nat) → BT h → Nat
  | 0, ks => List.length (α := S29) ks
  | h + 1, t => sumL (ecnt h) t.2
theorem lpost_ent : ∀ (ks : List S29) (B : List (List It)), B.length ≤ ks.length → (ent (lpost ks B)).length = sumL (fun f => (ent f).length) B
  | ks, [], h => by simp [lpost, ent, sumL]
  | [], b :: B, h => by simp at h
  | k :: ks, b :: B, h => by
    rw [lpost_cons, ent_sep, ent_app, List.length_append, lpost_ent ks B (by simpa using h)]
    rfl
theorem il_ent (ks : List S29) (fs : List (List It)) (h : fs.length = ks.length + 1) : (ent (il ks fs)).length = sumL (fun f => (ent f).length) fs := by
  cases fs with
  | nil => simp at h
  | cons f fs =>
    show (ent (f ++ lpost ks fs)).length = _
    rw [ent_app, List.length_append, lpost_ent ks fs (by simpa using Nat.le_of_eq (Nat.succ.inj h))]
    rfl
theorem sumL_map {α β : Type} (f : β → Nat) (g : α → β) : ∀ (l : List α), sumL f (l.map g) = sumL (fun x => f (g x)) l
  | [] => rfl
  | x :: l => by simp only [List.map_cons, sumL, sumL_map f g l]
theorem sumL_congr {α : Type} {f g : α → Nat} : ∀ {l : List α}, (∀ x ∈ l, f x = g x) → sumL f l = sumL g l
  | [], _ => rfl
  | x :: l, h => by simp only [sumL, h x (by simp), sumL_congr (fun y hy => h y (List.mem_cons_of_mem _ hy))]
theorem ent_cnt : ∀ (h n : Nat) (t : BT h), Shape h n t → (ent (flat h t)).length = ecnt h t
  | 0, n, t, hs => congrArg List.length (ent_ents t)
  | h + 1, n, t, hs => by
    obtain ⟨ks, ts⟩ := t
    obtain ⟨h1, h2, h3, h4⟩ := hs
    change ts.length = ks.length + 1 at h3
    change ∀ k ∈ ts, Shape h 2 k at h4
    show (ent (il ks (ts.map (flat h)))).length = sumL (ecnt h) ts
    rw [il_ent _ _ (by rw [List.length_map]; exact h3), sumL_map]
    exact sumL_congr fun x hx => ent_cnt h 2 x (h4 x hx)
theorem ecnt_ge : ∀ (h : Nat) (t : BT h), Shape h 2 t → 2 * 3 ^ h ≤ ecnt h t
  | 0, t, hs => by have := hs.1; exact (show 2 * 1 ≤ List.length (α := S29) t by omega)
  | h + 1, t, hs => by
    obtain ⟨ks, ts⟩ := t
    obtain ⟨h1, h2, h3, h4⟩ := hs
    change 2 ≤ ks.length at h1
    change ts.length = ks.length + 1 at h3
    change ∀ k ∈ ts, Shape h 2 k at h4
    have := sumL_ge (ecnt h) (2 * 3 ^ h) ts fun x hx => ecnt_ge h x (h4 x hx)
    have h5 : 3 * (2 * 3 ^ h) ≤ ts.length * (2 * 3 ^ h) := Nat.mul_le_mul_right _ (by omega)
    show 2 * 3 ^ (h + 1) ≤ sumL (ecnt h) ts
    rw [Nat.pow_succ]
    omega
def pcnt : (h : Nat) → BT h → Nat
  | 0, _ => 1
  | h + 1, t => 1 + sumL (pcnt h) t.2
theorem layK_len (h : Nat) (ih : ∀ (t : BT h) (a : Nat), (blay h t a).length = pcnt h t) : ∀ (ts : List (BT h)) (a : Nat), (layK (ts.map (blay h)) a).length = sumL (pcnt h) ts
  | [], a => rfl
  | t :: ts, a => by
    show (blay h t a ++ layK (ts.map (blay h)) (a + (blay h t a).length)).length = pcnt h t + sumL (pcnt h) ts
    rw [List.length_append, ih, layK_len h ih ts]
theorem blay_len : ∀ (h : Nat) (t : BT h) (a : Nat), (blay h t a).length = pcnt h t
  | 0, t, a => rfl
  | h + 1, t, a => by
    show (layK (t.2.map (blay h)) (a + 1)).length + 1 = 1 + sumL (pcnt h) t.2
    rw [layK_len h (blay_len h)]
    omega
theorem pcnt_lt : ∀ (h : Nat) (t : BT h), Shape h 2 t → pcnt h t + 1 ≤ ecnt h t
  | 0, t, hs => hs.1
  | h + 1, t, hs => by
    obtain ⟨ks, ts⟩ := t
    obtain ⟨h1, h2, h3, h4⟩ := hs
    change 2 ≤ ks.length at h1
    change ts.length = ks.length + 1 at h3
    change ∀ k ∈ ts, Shape h 2 k at h4
    have := sumL_le (pcnt h) (ecnt h) ts fun x hx => pcnt_lt h x (h4 x hx)
    show 1 + sumL (pcnt h) ts + 1 ≤ sumL (ecnt h) ts
    omega
theorem deep_law (T : ST) (hi : TInvS T) : (pagesOf T).length ≤ (entS T).length + 1 ∧ (T.1 = 0 ∨ ∃ d, T.1 = d + 1 ∧ 2 * (2 * 3 ^ d) ≤ (entS T).length) := by
  obtain ⟨h, t⟩ := T
  have hs : Shape h (if h = 0 then 0 else 1) t := hi.shape
  have hc : (entS ⟨h, t⟩).length = ecnt h t := ent_cnt h _ t hs
  have hp : (pagesOf ⟨h, t⟩).length = pcnt h t := blay_len h t 0
  rw [hc, hp]
  cases h with
  | zero => exact ⟨by simp [pcnt], .inl rfl⟩
  | succ h =>
    obtain ⟨ks, ts⟩ := t
    obtain ⟨h1, h2, h3, h4⟩ := hs
    change 1 ≤ ks.length at h1
    change ts.length = ks.length + 1 at h3
    change ∀ k ∈ ts, Shape h 2 k at h4
    have g1 := sumL_le (pcnt h) (ecnt h) ts fun x hx => pcnt_lt h x (h4 x hx)
    have g2 := sumL_ge (ecnt h) (2 * 3 ^ h) ts fun x hx => ecnt_ge h x (h4 x hx)
    have h5 : 2 * (2 * 3 ^ h) ≤ ts.length * (2 * 3 ^ h) := Nat.mul_le_mul_right _ (by omega)
    refine ⟨?_, .inr ⟨h, rfl, ?_⟩⟩
    · show 1 + sumL (pcnt h) ts ≤ sumL (ecnt h) ts + 1
      omega
    · show 2 * (2 * 3 ^ h) ≤ sumL (ecnt h) ts
      omega
end Go.Proofs.Bt
end
section
namespace Go.Proofs.Ytjaddmflopahiaa.Q
open Go.RowKit Go.Proofs.YtjaddmflopahiaaW.PrintWords Go.Proofs.YtjaddmflopahiaaW.PrintLast Go.Proofs.YtjaddmflopahiaaW.PrintMore
attribute [local go_sem] max2_int min2_int max_two min_two max_three min_three max_four min_four
set_option linter.unusedVariables false
set_option linter.unusedSimpArgs false
def Rd {α : Type} (P : Program) (d : Kd α) (t : TypeId) (wf : α → Prop) : Prop :=
  ∀ {H : Type} (enc : TypeId × Value → H) (w : World) (base : Nat) (spare : Nat → Bool) (held : Bool) (fuel : Nat) (cs : List Value) (x : DataW H × List MemPlace),
    DataW.trod enc P w base spare held fuel t cs = some x → ∃ a, d.K w a cs ∧ wf a
theorem Rd.int {P : Program} {t : TypeId} {k : IntKind} (ht : P.underlying t = some (.int k)) : Rd P (Kd.int k) t (fun n => (Lit.int k n).wf = true) := by
  intro H enc w base spare held fuel cs x h
  obtain ⟨n, rfl, _, hw⟩ := DataW.trod_int ht h
  exact ⟨n, rfl, hw⟩
theorem Rd.bool {P : Program} {t : TypeId} (ht : P.underlying t = some .bool) : Rd P Kd.bool t (fun _ => True) := by
  intro H enc w base spare held fuel cs x h
  obtain ⟨n, rfl, _⟩ := DataW.trod_bool ht h
  exact ⟨n, rfl, trivial⟩
theorem Rd.string {P : Program} {t : TypeId} (ht : P.underlying t = some .string) : Rd P Kd.string t (fun s => s.size ≤ maxLen) := by
  intro H enc w base spare held fuel cs x h
  obtain ⟨n, rfl, _, hs⟩ := DataW.trod_string ht h
  exact ⟨n, rfl, hs⟩
theorem Rd.slice {α : Type} {P : Program} {d : Kd α} {t e : TypeId} {wf : α → Prop} (ht : P.underlying t = some (.slice e)) (hc : P.cellsOf e = d.sz) (hd : Rd P d e wf) :
    Rd P (Kd.slice e d) t (fun l => l.length ≤ maxLen ∧ ∀ a ∈ l, wf a) := by
  intro H enc w base spare held fuel cs x h
  rcases Go.Deep.open_slice ht h with ⟨rfl, _⟩ | ⟨a, len, cap, m, n, D, Pl, rfl, _, hl, hm, hmm, _, hi⟩
  · exact ⟨[], ⟨none, 0, rfl, Nat.le_refl _, rfl, Nat.zero_le _, fun h => absurd h (Nat.lt_irrefl _)⟩, Nat.zero_le _, fun _ h => by cases h⟩
  · have hlm : len ≤ m := by rw [hmm]; split <;> omega
    have hex : ∀ i, i < len → ∃ v, wf v ∧ ∃ c, c.length = d.sz ∧ d.K w v c ∧ ∀ j u, c[j]? = some u → w.cell? (a.add (i * d.sz + j)) = some u := by
      intro i hilt
      obtain ⟨cs', hcs, ht'⟩ := hi i (by omega)
      obtain ⟨v, hK, hw⟩ := hd enc w base spare held n cs' _ ht'
      rw [hc] at hcs
      obtain ⟨_, hlen, hat⟩ := World.cells?_some hcs
      refine ⟨v, hw, cs', hlen, hK, fun j u hj => ?_⟩
      have hjl : j < d.sz := by rw [← hlen]; exact (List.getElem?_eq_some_iff.1 hj).1
      have := hat j hjl
      rw [Go.Deep.add_add] at this
      rw [this, hj]
    have hex' : ∀ i : Fin len, ∃ v, wf v ∧ ∃ c, c.length = d.sz ∧ d.K w v c ∧ ∀ j u, c[j]? = some u → w.cell? (a.add (i.val * d.sz + j)) = some u := fun i => hex i.val i.isLt
    have hch : ∃ g : Fin len → α, ∀ i : Fin len, wf (g i) ∧ ∃ c, c.length = d.sz ∧ d.K w (g i) c ∧ ∀ j u, c[j]? = some u → w.cell? (a.add (i.val * d.sz + j)) = some u := ⟨fun i => Classical.choose (hex' i), fun i => Classical.choose_spec (hex' i)⟩
    obtain ⟨g, hg⟩ := hch
    have hlen : (List.ofFn g).length = len := List.length_ofFn
    refine ⟨List.ofFn g, ⟨some a, cap, by rw [hlen], by rw [hlen]; exact hl, rfl, by rw [hlen]; simp only [maxLen] at hm; omega, fun _ => ⟨a, rfl, fun j p hp => ?_⟩⟩, by rw [hlen]; omega, fun v hv => ?_⟩
    · obtain ⟨hj, he⟩ := List.getElem?_eq_some_iff.1 hp
      rw [List.getElem_ofFn] at he
      subst he
      exact (hg ⟨j, by omega⟩).2
    · obtain ⟨i, rfl⟩ := List.mem_ofFn.1 hv
      exact (hg i).1
theorem Rd.arg_slice {α : Type} {P : Program} {d : Kd α} {t e : TypeId} {wf : α → Prop} (hd : Rd P (Kd.slice e d) t (fun l => l.length ≤ maxLen ∧ ∀ a ∈ l, wf a)) {H : Type} {enc : TypeId × Value → H} {w : World} {base : Nat} {spare : Nat → Bool} {held : Bool} {A : Option Addr} {n c : Nat} {x : DataW H} {p : List MemPlace}
    (h : DataW.Trod enc P w base spare held t (.slice A n c) x p) : ∃ l : List α, l.length = n ∧ d.C w A l.length l ∧ l.length ≤ c ∧ l.length ≤ maxLen ∧ ∀ a ∈ l, wf a := by
  obtain ⟨fuel, hf⟩ := h
  obtain ⟨l, ⟨A', c', he, hl, hC⟩, hm, hw⟩ := hd enc w base spare held fuel _ _ hf
  have he' : [Value.slice A n c] = [.slice A' l.length c'] := he
  injection he' with he' _
  injection he' with h1 h2 h3
  subst h1; subst h3
  exact ⟨l, h2.symm, hC, hl, hm, hw⟩
theorem some_of_len {α : Type} {xs : List α} {n j : Nat} (h : xs.length = n) (hj : j < n) : ∃ y, xs[j]? = some y := ⟨_, List.getElem?_eq_getElem (by omega)⟩
def wf27 (v : S27) : Prop := (fun n => (Lit.int .i64 n).wf = true) v.f0 ∧ (fun n => (Lit.int .i64 n).wf = true) v.f1
theorem rd27 : Rd Try.prog k27 27 wf27 := by
  intro H enc w base spare held fuel cs x h
  obtain ⟨xs, n, _, _, hlen, hl, hf⟩ := DataW.trod_struct Try.underlying27 h
  rw [show Try.prog.cellsOf 27 = 2 by kernel_rfl] at hlen
  obtain ⟨c0, c1, rfl⟩ : ∃ c0 c1, cs = [c0, c1] := by
    match cs, hlen with
    | [c0, c1], _ => exact ⟨c0, c1, rfl⟩
  obtain ⟨y0, hy0⟩ := some_of_len hl (j := 0) (by decide)
  have g0 : DataW.trod enc Try.prog w base spare held n 3 ((([c0, c1] : List Value).drop 0).take (Try.prog.cellsOf 3)) = some y0 := (hf 0 _ rfl).trans hy0
  rw [show Try.prog.cellsOf 3 = 1 by kernel_rfl] at g0
  obtain ⟨a0, K0, w0⟩ := (Rd.int Try.underlying3) enc w base spare held n _ _ g0
  obtain ⟨y1, hy1⟩ := some_of_len hl (j := 1) (by decide)
  have g1 : DataW.trod enc Try.prog w base spare held n 3 ((([c0, c1] : List Value).drop 1).take (Try.prog.cellsOf 3)) = some y1 := (hf 1 _ rfl).trans hy1
  rw [show Try.prog.cellsOf 3 = 1 by kernel_rfl] at g1
  obtain ⟨a1, K1, w1⟩ := (Rd.int Try.underlying3) enc w base spare held n _ _ g1
  exact ⟨⟨a0, a1⟩, ⟨[c0], [c1], rfl, K0, K1⟩, ⟨w0, w1⟩⟩
def wf29 (v : S29) : Prop := (fun s => s.size ≤ maxLen) v.f0 ∧ wf27 v.f1
theorem rd29 : Rd Try.prog k29 29 wf29 := by
  intro H enc w base spare held fuel cs x h
  obtain ⟨xs, n, _, _, hlen, hl, hf⟩ := DataW.trod_struct Try.underlying29 h
  rw [show Try.prog.cellsOf 29 = 3 by kernel_rfl] at hlen
  obtain ⟨c0, c1, c2, rfl⟩ : ∃ c0 c1 c2, cs = [c0, c1, c2] := by
    match cs, hlen with
    | [c0, c1, c2], _ => exact ⟨c0, c1, c2, rfl⟩
  obtain ⟨y0, hy0⟩ := some_of_len hl (j := 0) (by decide)
  have g0 : DataW.trod enc Try.prog w base spare held n 9 ((([c0, c1, c2] : List Value).drop 0).take (Try.prog.cellsOf 9)) = some y0 := (hf 0 _ rfl).trans hy0
  rw [show Try.prog.cellsOf 9 = 1 by kernel_rfl] at g0
  obtain ⟨a0, K0, w0⟩ := (Rd.string Try.underlying9) enc w base spare held n _ _ g0
  obtain ⟨y1, hy1⟩ := some_of_len hl (j := 1) (by decide)
  have g1 : DataW.trod enc Try.prog w base spare held n 27 ((([c0, c1, c2] : List Value).drop 1).take (Try.prog.cellsOf 27)) = some y1 := (hf 1 _ rfl).trans hy1
  rw [show Try.prog.cellsOf 27 = 2 by kernel_rfl] at g1
  obtain ⟨a1, K1, w1⟩ := rd27 enc w base spare held n _ _ g1
  exact ⟨⟨a0, a1⟩, ⟨[c0], [c1, c2], rfl, K0, K1⟩, ⟨w0, w1⟩⟩
def wf41 (v : S41) : Prop := (fun n => (Lit.int .i64 n).wf = true) v.f0 ∧ (fun n => (Lit.int .i64 n).wf = true) v.f1 ∧ wf29 v.f2 ∧ (fun s => s.size ≤ maxLen) v.f3
theorem rd41 : Rd Try.prog k41 41 wf41 := by
  intro H enc w base spare held fuel cs x h
  obtain ⟨xs, n, _, _, hlen, hl, hf⟩ := DataW.trod_struct Try.underlying41 h
  rw [show Try.prog.cellsOf 41 = 6 by kernel_rfl] at hlen
  obtain ⟨c0, c1, c2, c3, c4, c5, rfl⟩ : ∃ c0 c1 c2 c3 c4 c5, cs = [c0, c1, c2, c3, c4, c5] := by
    match cs, hlen with
    | [c0, c1, c2, c3, c4, c5], _ => exact ⟨c0, c1, c2, c3, c4, c5, rfl⟩
  obtain ⟨y0, hy0⟩ := some_of_len hl (j := 0) (by decide)
  have g0 : DataW.trod enc Try.prog w base spare held n 3 ((([c0, c1, c2, c3, c4, c5] : List Value).drop 0).take (Try.prog.cellsOf 3)) = some y0 := (hf 0 _ rfl).trans hy0
  rw [show Try.prog.cellsOf 3 = 1 by kernel_rfl] at g0
  obtain ⟨a0, K0, w0⟩ := (Rd.int Try.underlying3) enc w base spare held n _ _ g0
  obtain ⟨y1, hy1⟩ := some_of_len hl (j := 1) (by decide)
  have g1 : DataW.trod enc Try.prog w base spare held n 3 ((([c0, c1, c2, c3, c4, c5] : List Value).drop 1).take (Try.prog.cellsOf 3)) = some y1 := (hf 1 _ rfl).trans hy1
  rw [show Try.prog.cellsOf 3 = 1 by kernel_rfl] at g1
  obtain ⟨a1, K1, w1⟩ := (Rd.int Try.underlying3) enc w base spare held n _ _ g1
  obtain ⟨y2, hy2⟩ := some_of_len hl (j := 2) (by decide)
  have g2 : DataW.trod enc Try.prog w base spare held n 29 ((([c0, c1, c2, c3, c4, c5] : List Value).drop 2).take (Try.prog.cellsOf 29)) = some y2 := (hf 2 _ rfl).trans hy2
  rw [show Try.prog.cellsOf 29 = 3 by kernel_rfl] at g2
  obtain ⟨a2, K2, w2⟩ := rd29 enc w base spare held n _ _ g2
  obtain ⟨y3, hy3⟩ := some_of_len hl (j := 3) (by decide)
  have g3 : DataW.trod enc Try.prog w base spare held n 9 ((([c0, c1, c2, c3, c4, c5] : List Value).drop 5).take (Try.prog.cellsOf 9)) = some y3 := (hf 3 _ rfl).trans hy3
  rw [show Try.prog.cellsOf 9 = 1 by kernel_rfl] at g3
  obtain ⟨a3, K3, w3⟩ := (Rd.string Try.underlying9) enc w base spare held n _ _ g3
  exact ⟨⟨a0, a1, a2, a3⟩, ⟨[c0], [c1, c2, c3, c4, c5], rfl, K0, ⟨[c1], [c2, c3, c4, c5], rfl, K1, ⟨[c2, c3, c4], [c5], rfl, K2, K3⟩⟩⟩, ⟨w0, w1, w2, w3⟩⟩
end Go.Proofs.Ytjaddmflopahiaa.Q
end
section
namespace Go.Proofs.Bt
open Go Go.RowKit Go.Proofs.Ytjaddmflopahiaa.Q
set_option linter.unusedVariables false
set_option linter.unusedSimpArgs false
def geB (e x : S29) : Bool := !(decide (ltE x e))
theorem lpost_ents : ∀ (ks : List S29) (B : List (List It)), B.length ≤ ks.length → ent (lpost ks B) = B.flatMap ent
  | ks, [], _ => by simp [lpost_nil, ent]
  | k :: ks, b :: B, h => by
    rw [lpost_cons, ent_sep, ent_app, lpost_ents ks B (by simpa using h), List.flatMap_cons]
  | [], b :: B, h => by simp at h
theorem filter_none {α : Type} {p : α → Bool} {l : List α} (h : ∀ x ∈ l, p x = false) : l.filter p = [] := by
  rw [List.filter_eq_nil_iff]
  intro x hx
  rw [h x hx]
  simp
theorem filter_whole {α : Type} {p : α → Bool} {l : List α} (h : ∀ x ∈ l, p x = true) : l.filter p = l := List.filter_eq_self.2 h
theorem drop_low (ks : List S29) (e : S29) (hs : Sorted ks) : ks.drop (low ks e) = ks.filter (geB e) := by
  obtain ⟨h1, h2⟩ := low_parts ks e hs
  conv => rhs; rw [← List.take_append_drop (low ks e) ks, List.filter_append]
  rw [filter_none (fun x hx => by simp [geB, h1 x hx]), filter_whole (fun x hx => by simp [geB, h2 x hx]), List.nil_append]
theorem flatMap_filter {α β : Type} (p : β → Bool) (f : α → List β) : ∀ (l : List α), (l.flatMap f).filter p = l.flatMap fun a => (f a).filter p
  | [] => rfl
  | a :: l => by rw [List.flatMap_cons, List.flatMap_cons, List.filter_append, flatMap_filter p f l]
theorem flatMap_congr {α β : Type} {f g : α → List β} : ∀ {l : List α}, (∀ x ∈ l, f x = g x) → l.flatMap f = l.flatMap g
  | [], _ => rfl
  | a :: l, h => by rw [List.flatMap_cons, List.flatMap_cons, h a (by simp), flatMap_congr fun x hx => h x (by simp [hx])]
theorem flatMap_map {α β γ : Type} (f : α → β) (g : β → List γ) : ∀ (l : List α), (l.map f).flatMap g = l.flatMap fun a => g (f a)
  | [] => rfl
  | a :: l => by rw [List.map_cons, List.flatMap_cons, List.flatMap_cons, flatMap_map f g l]
theorem leaf_from (ks : List S29) (e : S29) (hr : Srt (ents ks)) : ks.drop (low ks e) = (ent (ents ks)).filter (geB e) := by
  rw [ent_ents]
  exact drop_low ks e (srt_keys hr)
theorem bfrom_ent : ∀ (h n : Nat) (t : BT h) (e : S29), Shape h n t → Srt (flat h t) → bfrom h t e = (ent (flat h t)).filter (geB e)
  | 0, n, t, e, hs, hr => leaf_from t e hr
  | h + 1, n, t, e, hs, hr => by
    obtain ⟨ks, ts⟩ := t
    obtain ⟨h1, h2, h3, h4⟩ := hs
    change ts.length = ks.length + 1 at h3
    change ∀ k ∈ ts, Shape h 2 k at h4
    obtain ⟨A, k, B, rfl, hA, hAB, hX, hY⟩ := at_kid e h3 hr
    have hk := bfrom_ent h 2 k e (h4 k (by simp)) (srt_kid h3 hr k (by simp))
    have hB : B.flatMap (fun k => bfrom h k e) = B.flatMap (fun k => (ent (flat h k)).filter (geB e)) := flatMap_congr fun x hx => bfrom_ent h 2 x e (h4 x (by simp [hx])) (srt_kid h3 hr x (by simp [hx]))
    show ((A ++ k :: B).drop (kidIx ks e)).flatMap (fun k => bfrom h k e) = _
    rw [← hA, List.drop_left, List.flatMap_cons, hk, hB, flat_cut h ks A k B (by omega), ent_app, ent_app, lpost_ents _ _ (by rw [List.length_map, List.length_drop]; omega), List.filter_append, List.filter_append, flatMap_filter, flatMap_map,
      filter_none (l := ent (lpre (ks.take A.length) (A.map (flat h)))) (fun x hx => ?_), List.nil_append]
    rw [mem_ent] at hx
    rcases hX _ hx with hlt | ⟨_, h5, _⟩
    · simp [geB, show ltE x e from hlt]
    · cases h5
theorem from_ent (T : ST) (e : S29) (hi : TInvS T) : fromS T e = (entS T).filter (geB e) := bfrom_ent T.1 _ T.2 e hi.shape hi.srt
def Far (x : S29) : Prop := -9223372036854775808 ≤ x.f1.f0 ∧ -9223372036854775808 ≤ x.f1.f1
theorem low_far (x : S29) (s : ByteArray) (h : Far x) : geB (lowS s) x = !(keyLt x.f0 s) := by
  unfold geB keyLt
  congr 1
  cases hb : Op.bytesLess x.f0.toList s.toList
  · refine decide_eq_false fun hl => ?_
    rcases (ltE_iff _ _).1 hl with h1 | ⟨_, h1 | ⟨_, h1⟩⟩
    · rw [show Op.bytesLess x.f0.toList (lowS s).f0.toList = false from hb] at h1
      cases h1
    · have := h.1
      simp only [lowS] at h1
      omega
    · have := h.2
      simp only [lowS] at h1
      omega
  · exact decide_eq_true ((ltE_iff _ _).2 (.inl hb))
theorem keyLt_none (k : ByteArray) : keyLt k ⟨#[]⟩ = false := by
  have h : (⟨#[]⟩ : ByteArray).toList = [] := by
    unfold ByteArray.toList
    unfold ByteArray.toList.loop
    rfl
  unfold keyLt
  rw [h]
  cases k.toList <;> rfl
theorem all_ent (T : ST) (hi : TInvS T) (hf : ∀ x ∈ entS T, Far x) : fromS T (lowS ⟨#[]⟩) = entS T := by
  rw [from_ent T _ hi, filter_whole]
  intro x hx
  rw [low_far x _ (hf x hx), keyLt_none]
  rfl
theorem far_of {x : S29} (h : wf29 x) : Far x := by
  obtain ⟨_, h1, h2⟩ := h
  have hm : IntKind.min .i64 = -9223372036854775808 := by rfl
  have a1 : (decide (IntKind.min .i64 ≤ x.f1.f0) && decide (x.f1.f0 ≤ IntKind.max .i64)) = true := h1
  have a2 : (decide (IntKind.min .i64 ≤ x.f1.f1) && decide (x.f1.f1 ≤ IntKind.max .i64)) = true := h2
  rw [Bool.and_eq_true, decide_eq_true_eq, hm] at a1 a2
  exact ⟨a1.1, a2.1⟩
end Go.Proofs.Bt
end
section
namespace Go.Proofs.Ytjaddmflopahiaa.Q
open Go.RowKit Go.Proofs.YtjaddmflopahiaaW.PrintWords Go.Proofs.YtjaddmflopahiaaW.PrintLast Go.Proofs.YtjaddmflopahiaaW.PrintMore
attribute [local go_sem] max2_int min2_int max_two min_two max_three min_three max_four min_four
set_option linter.unusedVariables false
set_option linter.unusedSimpArgs false
def interlockref04_cmp.f (a0 : Int) (a1 : Int) : Option (Int) := if a0 < a1 then (some (-1)) else (if a0 > a1 then (some 1) else (some 0))
set_option maxHeartbeats 8000000 in
set_option maxRecDepth 100000 in
theorem interlockref04_cmp.calls (a0 : Int) (a1 : Int) (r : Int) (w : World) (h : interlockref04_cmp.f a0 a1 = some r) :
    Calls Try.prog 54 #[.int .i64 a0, .int .i64 a1] w fun e w' => e = .returned (.int .i64 r) ∧ Drawn0 w w' := by
  have H : (if a0 < a1 then (some (-1)) else (if a0 > a1 then (some 1) else (some 0))) = some r := h
  clear h
  by_cases c3 : a0 < a1
  · rw [if_pos c3] at H
    have c3b0 : decide (a0 < a1) = true := decide_eq_true c3
    clear c3
    obtain rfl := Option.some.inj H
    go_enter Try.func54, Try.ntmps54
    go_wp2
    go_ret
    exact ⟨by first | rfl | (simp; done) | (simp [*]; done), by repeat (first | exact Drawn0.refl _ | apply Drawn0.step)⟩
  · rw [if_neg c3] at H
    have c3b0 : decide (a0 < a1) = false := decide_eq_false c3
    clear c3
    by_cases c4 : a0 > a1
    · rw [if_pos c4] at H
      have c4b0 : decide (a1 < a0) = true := decide_eq_true c4
      clear c4
      obtain rfl := Option.some.inj H
      go_enter Try.func54, Try.ntmps54
      go_wp2
      go_ret
      exact ⟨by first | rfl | (simp; done) | (simp [*]; done), by repeat (first | exact Drawn0.refl _ | apply Drawn0.step)⟩
    · rw [if_neg c4] at H
      have c4b0 : decide (a1 < a0) = false := decide_eq_false c4
      clear c4
      obtain rfl := Option.some.inj H
      go_enter Try.func54, Try.ntmps54
      go_wp2
      go_ret
      exact ⟨by first | rfl | (simp; done) | (simp [*]; done), by repeat (first | exact Drawn0.refl _ | apply Drawn0.step)⟩
end Go.Proofs.Ytjaddmflopahiaa.Q
end
section
namespace Go.Proofs.Ytjaddmflopahiaa.Q
open Go.RowKit Go.Proofs.YtjaddmflopahiaaW.PrintWords Go.Proofs.YtjaddmflopahiaaW.PrintLast Go.Proofs.YtjaddmflopahiaaW.PrintMore
attribute [local go_sem] max2_int min2_int max_two min_two max_three min_three max_four min_four
set_option linter.unusedVariables false
set_option linter.unusedSimpArgs false
mutual
def interlockref04_Texts.l0 : Nat → ByteArray → ByteArray → Int → Option (Int)
  | 0, _, _, _ => none
  | k + 1, x0, x1, x5 => if x5 < (x0.size : Int) then (interlockref04_Texts.j1 k x0 x1 x5 (decide (x5 < (x1.size : Int)))) else (interlockref04_Texts.j1 k x0 x1 x5 false)
def interlockref04_Texts.j1 : Nat → ByteArray → ByteArray → Int → Bool → Option (Int)
  | 0, _, _, _, _ => none
  | k + 1, x0, x1, x5, x15 => if x15 = true then (if 0 ≤ x5 then (if x5 < (x0.size : Int) then (if x5 < (x1.size : Int) then (if (bt x0 x5) = (bt x1 x5) then (interlockref04_Texts.l0 k x0 x1 (wrap64 (x5 + 1))) else ((interlockref04_cmp.f (wrap64 (bt x0 x5)) (wrap64 (bt x1 x5))).bind fun t131 => (some t131))) else (none)) else (none)) else (none)) else ((interlockref04_cmp.f (x0.size : Int) (x1.size : Int)).bind fun t132 => (some t132))
end
def interlockref04_Texts.f (k : Nat) (a0 : ByteArray) (a1 : ByteArray) : Option (Int) := interlockref04_Texts.l0 k a0 a1 0
theorem interlockref04_Texts.mono_l : ∀ k, (∀ y0 y1 y2, LeO (interlockref04_Texts.l0 k y0 y1 y2) (interlockref04_Texts.l0 (k + 1) y0 y1 y2)) ∧ (∀ y0 y1 y2 y3, LeO (interlockref04_Texts.j1 k y0 y1 y2 y3) (interlockref04_Texts.j1 (k + 1) y0 y1 y2 y3))
  | 0 => ⟨fun _ _ _ r h => by simp [interlockref04_Texts.l0] at h, fun _ _ _ _ r h => by simp [interlockref04_Texts.j1] at h⟩
  | k + 1 => by
    obtain ⟨ih0, ih1⟩ := interlockref04_Texts.mono_l k
    refine ⟨?_, ?_⟩
    · intro y0 y1 y2
      unfold interlockref04_Texts.l0
      repeat' first
      | (with_reducible exact ih0 _ _ _)
      | (with_reducible exact ih1 _ _ _ _)
      | (with_reducible exact LeO.refl _)
      | (with_reducible exact LeO.none _)
      | (with_reducible refine LeO.ite ?_ ?_)
      | (with_reducible refine LeO.bind ?_ (fun _ => ?_))
      | exact ih0 _ _ _
      | exact ih1 _ _ _ _
      | exact LeO.none _
      | refine LeO.ite ?_ ?_
      | refine LeO.bind ?_ (fun _ => ?_)
    · intro y0 y1 y2 y3
      unfold interlockref04_Texts.j1
      repeat' first
      | (with_reducible exact ih0 _ _ _)
      | (with_reducible exact ih1 _ _ _ _)
      | (with_reducible exact LeO.refl _)
      | (with_reducible exact LeO.none _)
      | (with_reducible refine LeO.ite ?_ ?_)
      | (with_reducible refine LeO.bind ?_ (fun _ => ?_))
      | exact ih0 _ _ _
      | exact ih1 _ _ _ _
      | exact LeO.none _
      | refine LeO.ite ?_ ?_
      | refine LeO.bind ?_ (fun _ => ?_)
theorem interlockref04_Texts.mono : ∀ a0 a1 k, LeO (interlockref04_Texts.f k a0 a1) (interlockref04_Texts.f (k + 1) a0 a1) := by
  intro a0 a1 k
  obtain ⟨ih0, ih1⟩ := interlockref04_Texts.mono_l k
  unfold interlockref04_Texts.f
  repeat' first
      | (with_reducible exact ih0 _ _ _)
      | (with_reducible exact ih1 _ _ _ _)
      | (with_reducible exact LeO.refl _)
      | (with_reducible exact LeO.none _)
      | (with_reducible refine LeO.ite ?_ ?_)
      | (with_reducible refine LeO.bind ?_ (fun _ => ?_))
      | exact ih0 _ _ _
      | exact ih1 _ _ _ _
      | exact LeO.none _
      | refine LeO.ite ?_ ?_
      | refine LeO.bind ?_ (fun _ => ?_)
set_option maxHeartbeats 8000000 in
set_option maxRecDepth 100000 in
theorem interlockref04_Texts.calls (k : Nat) (a0 : ByteArray) (a1 : ByteArray) (r : Int) (w : World) (h : interlockref04_Texts.f k a0 a1 = some r) :
    Calls Try.prog 34 #[.string a0, .string a1] w fun e w' => e = .returned (.int .i64 r) ∧ Drawn0 w w' := by
  have H : (interlockref04_Texts.l0 k a0 a1 0) = some r := h
  clear h
  have H' := Aside0.mk H
  clear H
  go_enter Try.func34, Try.ntmps34
  go_wp2
  repeat (go_quiet (fail); try go_wp2)
  go_loopg [5] k (fun kq v5 w' => ∃ (x5_1 : Int), v5 = .int .i64 x5_1 ∧ Aside0 (interlockref04_Texts.l0 kq a0 a1 x5_1 = some r) ∧ Aside0 (kq ≤ k) ∧ Drawn0 w w')
  case atStart => exact ⟨(0), (by first | rfl | (simp; done) | (simp [*]; done)), H', ⟨Nat.le_refl _⟩, by repeat (first | exact Drawn0.refl _ | apply Drawn0.step)⟩
  case round =>
    clear H'
    try clear p2
    obtain ⟨x5_1, rfl, HA, HK1, ⟨m1, rfl⟩⟩ := hrel
    cases gk with
    | zero => exact absurd HA.out (by simp [interlockref04_Texts.l0])
    | succ k1 =>
      have H := HA.out
      clear HA
      simp only [interlockref04_Texts.l0] at H
      have HC3 := Aside0.mk H
      clear H
      go_upto_region 2 with (fail)
      repeat (go_quiet (fail); go_upto_region 2 with (fail))
      go_cut [15] (fun v15 wc => ∃ (kq : Nat) (x15_2 : Bool), v15 = .bool x15_2 ∧ Aside0 (interlockref04_Texts.j1 kq a0 a1 x5_1 x15_2 = some r) ∧ Aside0 (kq ≤ k1) ∧ Drawn0 w wc)
      case first =>
        have H := HC3.out
        clear HC3
        by_cases c4 : x5_1 < (a0.size : Int)
        · rw [if_pos c4] at H
          have c4b0 : decide (x5_1 < (a0.size : Int)) = true := decide_eq_true c4
          clear c4
          (first | rw [c4b0] | (simp only [i64_w, i32_w]; rw [c4b0]) | skip)
          have H' := Aside0.mk H
          clear H
          go_wp2
          repeat (go_quiet (fail); try go_wp2)
          go_meet
          case rel => exact ⟨_, (decide (x5_1 < (a1.size : Int))), (by first | rfl | (simp; done) | (simp [*]; done)), H', ⟨by have := HK1.out; first | omega | exact Nat.le_refl _⟩, by repeat (first | exact Drawn0.refl _ | apply Drawn0.step)⟩
        · rw [if_neg c4] at H
          have c4b0 : decide (x5_1 < (a0.size : Int)) = false := decide_eq_false c4
          clear c4
          (first | rw [c4b0] | (simp only [i64_w, i32_w]; rw [c4b0]) | skip)
          have H' := Aside0.mk H
          clear H
          go_wp2
          repeat (go_quiet (fail); try go_wp2)
          go_meet
          case rel => exact ⟨_, (false), (by first | rfl | (simp; done) | (simp [*]; done)), H', ⟨by have := HK1.out; first | omega | exact Nat.le_refl _⟩, by repeat (first | exact Drawn0.refl _ | apply Drawn0.step)⟩
      case rest =>
        clear HC3
        try clear p2
        try clear c3
        try clear c4
        try clear c4b0
        try clear p2
        obtain ⟨kq, x15_2, rfl, HA, HJ2, ⟨mc2, rfl⟩⟩ := hcut
        cases kq with
        | zero => exact absurd HA.out (by simp [interlockref04_Texts.j1])
        | succ kj2 =>
          have H := HA.out
          clear HA
          simp only [interlockref04_Texts.j1] at H
          by_cases c5 : x15_2 = true
          · subst c5
            have H1 : (if 0 ≤ x5_1 then (if x5_1 < (a0.size : Int) then (if x5_1 < (a1.size : Int) then (if (bt a0 x5_1) = (bt a1 x5_1) then (interlockref04_Texts.l0 kj2 a0 a1 (wrap64 (x5_1 + 1))) else ((interlockref04_cmp.f (wrap64 (bt a0 x5_1)) (wrap64 (bt a1 x5_1))).bind fun t131 => (some t131))) else (none)) else (none)) else (none)) = some r := by rw [if_pos rfl] at H; exact H
            clear H
            have H := H1
            clear H1
            by_cases c6 : 0 ≤ x5_1
            · rw [if_pos c6] at H
              have c6b0 : decide (0 ≤ x5_1) = true := decide_eq_true c6
              clear c6
              by_cases c7 : x5_1 < (a0.size : Int)
              · rw [if_pos c7] at H
                have c7b0 : decide (x5_1 < (a0.size : Int)) = true := decide_eq_true c7
                clear c7
                by_cases c9 : x5_1 < (a1.size : Int)
                · rw [if_pos c9] at H
                  have c9b0 : decide (x5_1 < (a1.size : Int)) = true := decide_eq_true c9
                  clear c9
                  by_cases c11 : (bt a0 x5_1) = (bt a1 x5_1)
                  · rw [if_pos c11] at H
                    have c11b0 : ((bt a0 x5_1) == (bt a1 x5_1)) = true := beq_iff_eq.mpr c11
                    have c11b1 : ((bt a0 x5_1) != (bt a1 x5_1)) = false := bne_eq_false_iff_eq.mpr c11
                    clear c11
                    have H' := Aside0.mk H
                    clear H
                    have p8 : 0 ≤ (x5_1 : Int) := of_decide_eq_true (by first | (with_reducible assumption) | assumption)
                    have q8 : x5_1 < (a0.size : Int) := of_decide_eq_true (by first | (with_reducible assumption) | assumption)
                    have hx8 := bt_at a0 x5_1
                    replace p8 := eq_true p8
                    replace q8 := eq_true q8
                    have p10 : 0 ≤ (x5_1 : Int) := of_decide_eq_true (by first | (with_reducible assumption) | assumption)
                    have q10 : x5_1 < (a1.size : Int) := of_decide_eq_true (by first | (with_reducible assumption) | assumption)
                    have hx10 := bt_at a1 x5_1
                    replace p10 := eq_true p10
                    replace q10 := eq_true q10
                    go_wp2
                    repeat (go_quiet (fail); try go_wp2)
                    go_roundg kj2
                    case measure => have := HK1.out; have := HJ2.out; omega
                    case rel => exact ⟨(wrap64 (x5_1 + 1)), (by first | rfl | (simp; done) | (simp [*]; done)), H', ⟨by have := HK1.out; have := HJ2.out; omega⟩, by repeat (first | exact Drawn0.refl _ | apply Drawn0.step)⟩
                  · rw [if_neg c11] at H
                    have c11b0 : ((bt a0 x5_1) == (bt a1 x5_1)) = false := beq_eq_false_iff_ne.mpr c11
                    have c11b1 : ((bt a0 x5_1) != (bt a1 x5_1)) = true := bne_iff_ne.mpr c11
                    replace H := Option.bind_eq_some_iff.mp H
                    obtain ⟨t131, A140, H⟩ := H
                    replace H : (some t131) = some r := H
                    have A14 := Aside0.mk A140
                    clear A140
                    obtain rfl := Option.some.inj H
                    have p8 : 0 ≤ (x5_1 : Int) := of_decide_eq_true (by first | (with_reducible assumption) | assumption)
                    have q8 : x5_1 < (a0.size : Int) := of_decide_eq_true (by first | (with_reducible assumption) | assumption)
                    have hx8 := bt_at a0 x5_1
                    replace p8 := eq_true p8
                    replace q8 := eq_true q8
                    have p10 : 0 ≤ (x5_1 : Int) := of_decide_eq_true (by first | (with_reducible assumption) | assumption)
                    have q10 : x5_1 < (a1.size : Int) := of_decide_eq_true (by first | (with_reducible assumption) | assumption)
                    have hx10 := bt_at a1 x5_1
                    replace p10 := eq_true p10
                    replace q10 := eq_true q10
                    have p12 : 0 ≤ (x5_1 : Int) := of_decide_eq_true (by first | (with_reducible assumption) | assumption)
                    have q12 : x5_1 < (a0.size : Int) := of_decide_eq_true (by first | (with_reducible assumption) | assumption)
                    have hx12 := bt_at a0 x5_1
                    replace p12 := eq_true p12
                    replace q12 := eq_true q12
                    have p13 : 0 ≤ (x5_1 : Int) := of_decide_eq_true (by first | (with_reducible assumption) | assumption)
                    have q13 : x5_1 < (a1.size : Int) := of_decide_eq_true (by first | (with_reducible assumption) | assumption)
                    have hx13 := bt_at a1 x5_1
                    replace p13 := eq_true p13
                    replace q13 := eq_true q13
                    go_wp2_with (first | (go_at_call 54; (with_reducible refine (interlockref04_cmp.calls (wrap64 (bt a0 x5_1)) (wrap64 (bt a1 x5_1)) t131 _ A14.out).mono ?_); rintro e w' ⟨rfl, ⟨nd, rfl⟩⟩; (try first | exact ⟨rfl, _, World.drewN_drewN _ _ _⟩ | exact ⟨rfl, _, Eq.trans (World.drewN_drewN _ _ _) (congrArg (World.drewN _) (Nat.add_assoc _ _ _))⟩)))
                    repeat (go_quiet (first | (go_at_call 54; (with_reducible refine (interlockref04_cmp.calls (wrap64 (bt a0 x5_1)) (wrap64 (bt a1 x5_1)) t131 _ A14.out).mono ?_); rintro e w' ⟨rfl, ⟨nd, rfl⟩⟩; (try first | exact ⟨rfl, _, World.drewN_drewN _ _ _⟩ | exact ⟨rfl, _, Eq.trans (World.drewN_drewN _ _ _) (congrArg (World.drewN _) (Nat.add_assoc _ _ _))⟩))); try go_wp2_with (first | (go_at_call 54; (with_reducible refine (interlockref04_cmp.calls (wrap64 (bt a0 x5_1)) (wrap64 (bt a1 x5_1)) t131 _ A14.out).mono ?_); rintro e w' ⟨rfl, ⟨nd, rfl⟩⟩; (try first | exact ⟨rfl, _, World.drewN_drewN _ _ _⟩ | exact ⟨rfl, _, Eq.trans (World.drewN_drewN _ _ _) (congrArg (World.drewN _) (Nat.add_assoc _ _ _))⟩))))
                    go_ret
                    exact ⟨by first | rfl | (simp; done) | (simp [*]; done), by repeat (first | exact Drawn0.refl _ | apply Drawn0.step)⟩
                · rw [if_neg c9] at H
                  exact absurd H (by simp)
              · rw [if_neg c7] at H
                exact absurd H (by simp)
            · rw [if_neg c6] at H
              exact absurd H (by simp)
          · replace c5 := Bool.eq_false_iff.mpr c5
            subst c5
            have H1 : ((interlockref04_cmp.f (a0.size : Int) (a1.size : Int)).bind fun t132 => (some t132)) = some r := by rw [if_neg (show ¬ (false = true) by decide)] at H; exact H
            clear H
            have H := H1
            clear H1
            replace H := Option.bind_eq_some_iff.mp H
            obtain ⟨t132, A150, H⟩ := H
            replace H : (some t132) = some r := H
            have A15 := Aside0.mk A150
            clear A150
            obtain rfl := Option.some.inj H
            go_wp2_with (first | (go_at_call 54; (with_reducible refine (interlockref04_cmp.calls (a0.size : Int) (a1.size : Int) t132 _ A15.out).mono ?_); rintro e w' ⟨rfl, ⟨nd, rfl⟩⟩; (try first | exact ⟨rfl, _, World.drewN_drewN _ _ _⟩ | exact ⟨rfl, _, Eq.trans (World.drewN_drewN _ _ _) (congrArg (World.drewN _) (Nat.add_assoc _ _ _))⟩)))
            repeat (go_quiet (first | (go_at_call 54; (with_reducible refine (interlockref04_cmp.calls (a0.size : Int) (a1.size : Int) t132 _ A15.out).mono ?_); rintro e w' ⟨rfl, ⟨nd, rfl⟩⟩; (try first | exact ⟨rfl, _, World.drewN_drewN _ _ _⟩ | exact ⟨rfl, _, Eq.trans (World.drewN_drewN _ _ _) (congrArg (World.drewN _) (Nat.add_assoc _ _ _))⟩))); try go_wp2_with (first | (go_at_call 54; (with_reducible refine (interlockref04_cmp.calls (a0.size : Int) (a1.size : Int) t132 _ A15.out).mono ?_); rintro e w' ⟨rfl, ⟨nd, rfl⟩⟩; (try first | exact ⟨rfl, _, World.drewN_drewN _ _ _⟩ | exact ⟨rfl, _, Eq.trans (World.drewN_drewN _ _ _) (congrArg (World.drewN _) (Nat.add_assoc _ _ _))⟩))))
            go_ret
            exact ⟨by first | rfl | (simp; done) | (simp [*]; done), by repeat (first | exact Drawn0.refl _ | apply Drawn0.step)⟩
end Go.Proofs.Ytjaddmflopahiaa.Q
end
section
namespace Go.Proofs.Ytjaddmflopahiaa.Q
open Go.RowKit Go.Proofs.YtjaddmflopahiaaW.PrintWords Go.Proofs.YtjaddmflopahiaaW.PrintLast Go.Proofs.YtjaddmflopahiaaW.PrintMore
attribute [local go_sem] max2_int min2_int max_two min_two max_three min_three max_four min_four
set_option linter.unusedVariables false
set_option linter.unusedSimpArgs false
def interlockref08_Order.f (k : Nat) (a0_0 : ByteArray) (a0_1 : Int) (a0_2 : Int) (a1_0 : ByteArray) (a1_1 : Int) (a1_2 : Int) : Option (Int) := (interlockref04_Texts.f k a0_0 a1_0).bind fun t135 => (if t135 = 0 then (if a0_1 = a1_1 then (if a0_2 = a1_2 then (some 0) else (if a0_2 < a1_2 then (some (-1)) else (some 1))) else (if a0_1 < a1_1 then (some (-1)) else (some 1))) else (some t135))
theorem interlockref08_Order.mono : ∀ a0 a1 a2 a3 a4 a5 k, LeO (interlockref08_Order.f k a0 a1 a2 a3 a4 a5) (interlockref08_Order.f (k + 1) a0 a1 a2 a3 a4 a5) := by
  intro a0 a1 a2 a3 a4 a5 k
  unfold interlockref08_Order.f
  repeat' first
      | (with_reducible exact interlockref04_Texts.mono _ _ _)
      | (with_reducible exact LeO.refl _)
      | (with_reducible exact LeO.none _)
      | (with_reducible refine LeO.ite ?_ ?_)
      | (with_reducible refine LeO.bind ?_ (fun _ => ?_))
      | exact interlockref04_Texts.mono _ _ _
      | exact LeO.none _
      | refine LeO.ite ?_ ?_
      | refine LeO.bind ?_ (fun _ => ?_)
set_option maxHeartbeats 8000000 in
set_option maxRecDepth 100000 in
theorem interlockref08_Order.calls (k : Nat) (a0_0 : ByteArray) (a0_1 : Int) (a0_2 : Int) (a1_0 : ByteArray) (a1_1 : Int) (a1_2 : Int) (r : Int) (w : World) (h : interlockref08_Order.f k a0_0 a0_1 a0_2 a1_0 a1_1 a1_2 = some r) :
    Calls Try.prog 21 #[.agg #[.string a0_0, .int .i64 a0_1, .int .i64 a0_2], .agg #[.string a1_0, .int .i64 a1_1, .int .i64 a1_2]] w fun e w' => e = .returned (.int .i64 r) ∧ Below w.heap.size w w' := by
  have hu29 := Try.underlying29
  have HB := Aside0.mk (Below.refl w.heap.size w)
  have H : ((interlockref04_Texts.f k a0_0 a1_0).bind fun t135 => (if t135 = 0 then (if a0_1 = a1_1 then (if a0_2 = a1_2 then (some 0) else (if a0_2 < a1_2 then (some (-1)) else (some 1))) else (if a0_1 < a1_1 then (some (-1)) else (some 1))) else (some t135))) = some r := h
  clear h
  replace H := Option.bind_eq_some_iff.mp H
  obtain ⟨t135, A30, H⟩ := H
  replace H : (if t135 = 0 then (if a0_1 = a1_1 then (if a0_2 = a1_2 then (some 0) else (if a0_2 < a1_2 then (some (-1)) else (some 1))) else (if a0_1 < a1_1 then (some (-1)) else (some 1))) else (some t135)) = some r := H
  have A3 := Aside0.mk A30
  clear A30
  by_cases c4 : t135 = 0
  · rw [if_pos c4] at H
    have c4b0 : (t135 == 0) = true := beq_iff_eq.mpr c4
    have c4b1 : (t135 != 0) = false := bne_eq_false_iff_eq.mpr c4
    clear c4
    by_cases c5 : a0_1 = a1_1
    · rw [if_pos c5] at H
      have c5b0 : (a0_1 == a1_1) = true := beq_iff_eq.mpr c5
      have c5b1 : (a0_1 != a1_1) = false := bne_eq_false_iff_eq.mpr c5
      clear c5
      by_cases c6 : a0_2 = a1_2
      · rw [if_pos c6] at H
        have c6b0 : (a0_2 == a1_2) = true := beq_iff_eq.mpr c6
        have c6b1 : (a0_2 != a1_2) = false := bne_eq_false_iff_eq.mpr c6
        clear c6
        obtain rfl := Option.some.inj H
        go_enter Try.func21, Try.ntmps21
        go_wp2_with (first | ((with_reducible refine gate_dst (N := 2) rfl ?_); refine box_event ?hg (N := 2) ?hd (cs := #[.string a0_0, .int .i64 a0_1, .int .i64 a0_2]) (t := 29) ?hr ?_; (case hd => rfl); (case hg => rfl); (case hr => first | (go_simp; done) | (go_simp; rfl)); intro gb133 hg w7 hbox hb; have n0_ := Aside0.mk (below_step (by repeat (first | (with_reducible first | exact HB.out | apply below_alloc | apply pw_below_drewN | apply below_drew1) | exact HB.out)) hb); have n1_ := Aside0.mk (hbox); have n2_ := Aside0.mk ((by rw [hg]; exact (below_size (by repeat (first | (with_reducible first | exact HB.out | apply below_alloc | apply pw_below_drewN | apply below_drew1) | exact HB.out))) : w.heap.size ≤ gb133)); have n3_ := Aside0.mk ((by rw [hg]; exact (below_size (by repeat (first | (with_reducible first | exact HB.out | apply below_alloc | apply pw_below_drewN | apply below_drew1) | exact HB.out))) : w.heap.size ≤ gb133)); clear HB; have HB := n0_; have BK133 := n1_; have GW133 := n2_; have GE133 := n3_; clear n0_ n1_ n2_ n3_; clear hb hbox hg) | ((with_reducible refine gate_dst (N := 3) rfl ?_); refine box_event ?hg (N := 3) ?hd (cs := #[.string a1_0, .int .i64 a1_1, .int .i64 a1_2]) (t := 29) ?hr ?_; (case hd => rfl); (case hg => rfl); (case hr => first | (go_simp; done) | (go_simp; rfl)); intro gb134 hg w8 hbox hb; have n0_ := Aside0.mk (blk_below (g := gb133) (o := .cells #[.string a0_0, .int .i64 a0_1, .int .i64 a0_2] 29 (0, 0)) (by (with_reducible repeat (first | refine blk_drewN ?_ _ | refine blk_drew ?_ | refine blk_alloc ?_ _)); exact BK133.out) hb); have n1_ := Aside0.mk (below_step (by repeat (first | (with_reducible first | exact HB.out | apply below_alloc | apply pw_below_drewN | apply below_drew1 | refine below_set ?_ GE133.out) | exact HB.out)) hb); have n2_ := Aside0.mk (hbox); have n3_ := Aside0.mk ((by rw [hg]; exact (below_size (by repeat (first | (with_reducible first | exact HB.out | apply below_alloc | apply pw_below_drewN | apply below_drew1 | refine below_set ?_ GE133.out) | exact HB.out))) : w.heap.size ≤ gb134)); have n4_ := Aside0.mk ((by rw [hg]; exact (below_size (by repeat (first | (with_reducible first | exact HB.out | apply below_alloc | apply pw_below_drewN | apply below_drew1 | refine below_set ?_ GE133.out) | exact HB.out))) : w.heap.size ≤ gb134)); have n5_ := Aside0.mk ((by rw [hg]; exact Nat.ne_of_lt (blk_lt (g := gb133) (o := .cells #[.string a0_0, .int .i64 a0_1, .int .i64 a0_2] 29 (0, 0)) (by (with_reducible repeat (first | refine blk_drewN ?_ _ | refine blk_drew ?_ | refine blk_alloc ?_ _)); exact BK133.out)) : gb133 ≠ gb134)); have n6_ := Aside0.mk ((by rw [hg]; exact Nat.ne_of_gt (blk_lt (g := gb133) (o := .cells #[.string a0_0, .int .i64 a0_1, .int .i64 a0_2] 29 (0, 0)) (by (with_reducible repeat (first | refine blk_drewN ?_ _ | refine blk_drew ?_ | refine blk_alloc ?_ _)); exact BK133.out)) : gb134 ≠ gb133)); clear BK133; clear HB; have BK133 := n0_; have HB := n1_; have BK134 := n2_; have GW134 := n3_; have GE134 := n4_; have NB133_134 := n5_; have NB134_133 := n6_; clear n0_ n1_ n2_ n3_ n4_ n5_ n6_; clear hb hbox hg; have hnb9 := NB133_134.out; have hnc9 := NB134_133.out; have hcz10_0 : w8.cell? ⟨gb133, 0, none⟩ = some (.string a0_0) := (blk_cell BK133.out 0).trans rfl; have hcz10_1 : w8.cell? ⟨gb133, 1, none⟩ = some (.int .i64 a0_1) := (blk_cell BK133.out 1).trans rfl; have hcz10_2 : w8.cell? ⟨gb133, 2, none⟩ = some (.int .i64 a0_2) := (blk_cell BK133.out 2).trans rfl; have hfz10_0 := blk_frozen BK133.out 0; have hfz10_1 := blk_frozen BK133.out 1; have hfz10_2 := blk_frozen BK133.out 2; have hcz11_0 : w8.cell? ⟨gb134, 0, none⟩ = some (.string a1_0) := (blk_cell BK134.out 0).trans rfl; have hcz11_1 : w8.cell? ⟨gb134, 1, none⟩ = some (.int .i64 a1_1) := (blk_cell BK134.out 1).trans rfl; have hcz11_2 : w8.cell? ⟨gb134, 2, none⟩ = some (.int .i64 a1_2) := (blk_cell BK134.out 2).trans rfl; have hfz11_0 := blk_frozen BK134.out 0; have hfz11_1 := blk_frozen BK134.out 1; have hfz11_2 := blk_frozen BK134.out 2) | ((with_reducible refine gate_callee (f := 34) rfl ?_); refine goesL_ (some 10) rfl rfl Try.func34 (by kernel_rfl) rfl #[.string a0_0, .string a1_0] rfl (by (try simp only [List.map_toArray, List.map_cons, List.map_nil]); first | done | rfl | (simp only [List.length_drop, List.length_take]; rfl)) ?_; (with_reducible refine (interlockref04_Texts.calls k a0_0 a1_0 t135 _ A3.out).mono ?_); rintro e w' ⟨rfl, ⟨nd, rfl⟩⟩; refine ⟨_, rfl, ?_⟩))
        go_ret
        exact ⟨by first | rfl | (simp [errW_none, errW_some] <;> rfl) | (simp [*, errW_none, errW_some] <;> rfl), by repeat (first | (with_reducible first | exact HB.out | apply below_alloc | apply pw_below_drewN | apply below_drew1 | refine below_set ?_ GE133.out | refine below_set ?_ GE134.out) | exact HB.out)⟩
      · rw [if_neg c6] at H
        have c6b0 : (a0_2 == a1_2) = false := beq_eq_false_iff_ne.mpr c6
        have c6b1 : (a0_2 != a1_2) = true := bne_iff_ne.mpr c6
        by_cases c12 : a0_2 < a1_2
        · rw [if_pos c12] at H
          have c12b0 : decide (a0_2 < a1_2) = true := decide_eq_true c12
          clear c12
          obtain rfl := Option.some.inj H
          go_enter Try.func21, Try.ntmps21
          go_wp2_with (first | ((with_reducible refine gate_dst (N := 2) rfl ?_); refine box_event ?hg (N := 2) ?hd (cs := #[.string a0_0, .int .i64 a0_1, .int .i64 a0_2]) (t := 29) ?hr ?_; (case hd => rfl); (case hg => rfl); (case hr => first | (go_simp; done) | (go_simp; rfl)); intro gb133 hg w13 hbox hb; have n0_ := Aside0.mk (below_step (by repeat (first | (with_reducible first | exact HB.out | apply below_alloc | apply pw_below_drewN | apply below_drew1) | exact HB.out)) hb); have n1_ := Aside0.mk (hbox); have n2_ := Aside0.mk ((by rw [hg]; exact (below_size (by repeat (first | (with_reducible first | exact HB.out | apply below_alloc | apply pw_below_drewN | apply below_drew1) | exact HB.out))) : w.heap.size ≤ gb133)); have n3_ := Aside0.mk ((by rw [hg]; exact (below_size (by repeat (first | (with_reducible first | exact HB.out | apply below_alloc | apply pw_below_drewN | apply below_drew1) | exact HB.out))) : w.heap.size ≤ gb133)); clear HB; have HB := n0_; have BK133 := n1_; have GW133 := n2_; have GE133 := n3_; clear n0_ n1_ n2_ n3_; clear hb hbox hg) | ((with_reducible refine gate_dst (N := 3) rfl ?_); refine box_event ?hg (N := 3) ?hd (cs := #[.string a1_0, .int .i64 a1_1, .int .i64 a1_2]) (t := 29) ?hr ?_; (case hd => rfl); (case hg => rfl); (case hr => first | (go_simp; done) | (go_simp; rfl)); intro gb134 hg w14 hbox hb; have n0_ := Aside0.mk (blk_below (g := gb133) (o := .cells #[.string a0_0, .int .i64 a0_1, .int .i64 a0_2] 29 (0, 0)) (by (with_reducible repeat (first | refine blk_drewN ?_ _ | refine blk_drew ?_ | refine blk_alloc ?_ _)); exact BK133.out) hb); have n1_ := Aside0.mk (below_step (by repeat (first | (with_reducible first | exact HB.out | apply below_alloc | apply pw_below_drewN | apply below_drew1 | refine below_set ?_ GE133.out) | exact HB.out)) hb); have n2_ := Aside0.mk (hbox); have n3_ := Aside0.mk ((by rw [hg]; exact (below_size (by repeat (first | (with_reducible first | exact HB.out | apply below_alloc | apply pw_below_drewN | apply below_drew1 | refine below_set ?_ GE133.out) | exact HB.out))) : w.heap.size ≤ gb134)); have n4_ := Aside0.mk ((by rw [hg]; exact (below_size (by repeat (first | (with_reducible first | exact HB.out | apply below_alloc | apply pw_below_drewN | apply below_drew1 | refine below_set ?_ GE133.out) | exact HB.out))) : w.heap.size ≤ gb134)); have n5_ := Aside0.mk ((by rw [hg]; exact Nat.ne_of_lt (blk_lt (g := gb133) (o := .cells #[.string a0_0, .int .i64 a0_1, .int .i64 a0_2] 29 (0, 0)) (by (with_reducible repeat (first | refine blk_drewN ?_ _ | refine blk_drew ?_ | refine blk_alloc ?_ _)); exact BK133.out)) : gb133 ≠ gb134)); have n6_ := Aside0.mk ((by rw [hg]; exact Nat.ne_of_gt (blk_lt (g := gb133) (o := .cells #[.string a0_0, .int .i64 a0_1, .int .i64 a0_2] 29 (0, 0)) (by (with_reducible repeat (first | refine blk_drewN ?_ _ | refine blk_drew ?_ | refine blk_alloc ?_ _)); exact BK133.out)) : gb134 ≠ gb133)); clear BK133; clear HB; have BK133 := n0_; have HB := n1_; have BK134 := n2_; have GW134 := n3_; have GE134 := n4_; have NB133_134 := n5_; have NB134_133 := n6_; clear n0_ n1_ n2_ n3_ n4_ n5_ n6_; clear hb hbox hg; have hnb15 := NB133_134.out; have hnc15 := NB134_133.out; have hcz16_0 : w14.cell? ⟨gb133, 0, none⟩ = some (.string a0_0) := (blk_cell BK133.out 0).trans rfl; have hcz16_1 : w14.cell? ⟨gb133, 1, none⟩ = some (.int .i64 a0_1) := (blk_cell BK133.out 1).trans rfl; have hcz16_2 : w14.cell? ⟨gb133, 2, none⟩ = some (.int .i64 a0_2) := (blk_cell BK133.out 2).trans rfl; have hfz16_0 := blk_frozen BK133.out 0; have hfz16_1 := blk_frozen BK133.out 1; have hfz16_2 := blk_frozen BK133.out 2; have hcz17_0 : w14.cell? ⟨gb134, 0, none⟩ = some (.string a1_0) := (blk_cell BK134.out 0).trans rfl; have hcz17_1 : w14.cell? ⟨gb134, 1, none⟩ = some (.int .i64 a1_1) := (blk_cell BK134.out 1).trans rfl; have hcz17_2 : w14.cell? ⟨gb134, 2, none⟩ = some (.int .i64 a1_2) := (blk_cell BK134.out 2).trans rfl; have hfz17_0 := blk_frozen BK134.out 0; have hfz17_1 := blk_frozen BK134.out 1; have hfz17_2 := blk_frozen BK134.out 2) | ((with_reducible refine gate_callee (f := 34) rfl ?_); refine goesL_ (some 10) rfl rfl Try.func34 (by kernel_rfl) rfl #[.string a0_0, .string a1_0] rfl (by (try simp only [List.map_toArray, List.map_cons, List.map_nil]); first | done | rfl | (simp only [List.length_drop, List.length_take]; rfl)) ?_; (with_reducible refine (interlockref04_Texts.calls k a0_0 a1_0 t135 _ A3.out).mono ?_); rintro e w' ⟨rfl, ⟨nd, rfl⟩⟩; refine ⟨_, rfl, ?_⟩))
          go_ret
          exact ⟨by first | rfl | (simp [errW_none, errW_some] <;> rfl) | (simp [*, errW_none, errW_some] <;> rfl), by repeat (first | (with_reducible first | exact HB.out | apply below_alloc | apply pw_below_drewN | apply below_drew1 | refine below_set ?_ GE133.out | refine below_set ?_ GE134.out) | exact HB.out)⟩
        · rw [if_neg c12] at H
          have c12b0 : decide (a0_2 < a1_2) = false := decide_eq_false c12
          clear c12
          obtain rfl := Option.some.inj H
          go_enter Try.func21, Try.ntmps21
          go_wp2_with (first | ((with_reducible refine gate_dst (N := 2) rfl ?_); refine box_event ?hg (N := 2) ?hd (cs := #[.string a0_0, .int .i64 a0_1, .int .i64 a0_2]) (t := 29) ?hr ?_; (case hd => rfl); (case hg => rfl); (case hr => first | (go_simp; done) | (go_simp; rfl)); intro gb133 hg w18 hbox hb; have n0_ := Aside0.mk (below_step (by repeat (first | (with_reducible first | exact HB.out | apply below_alloc | apply pw_below_drewN | apply below_drew1) | exact HB.out)) hb); have n1_ := Aside0.mk (hbox); have n2_ := Aside0.mk ((by rw [hg]; exact (below_size (by repeat (first | (with_reducible first | exact HB.out | apply below_alloc | apply pw_below_drewN | apply below_drew1) | exact HB.out))) : w.heap.size ≤ gb133)); have n3_ := Aside0.mk ((by rw [hg]; exact (below_size (by repeat (first | (with_reducible first | exact HB.out | apply below_alloc | apply pw_below_drewN | apply below_drew1) | exact HB.out))) : w.heap.size ≤ gb133)); clear HB; have HB := n0_; have BK133 := n1_; have GW133 := n2_; have GE133 := n3_; clear n0_ n1_ n2_ n3_; clear hb hbox hg) | ((with_reducible refine gate_dst (N := 3) rfl ?_); refine box_event ?hg (N := 3) ?hd (cs := #[.string a1_0, .int .i64 a1_1, .int .i64 a1_2]) (t := 29) ?hr ?_; (case hd => rfl); (case hg => rfl); (case hr => first | (go_simp; done) | (go_simp; rfl)); intro gb134 hg w19 hbox hb; have n0_ := Aside0.mk (blk_below (g := gb133) (o := .cells #[.string a0_0, .int .i64 a0_1, .int .i64 a0_2] 29 (0, 0)) (by (with_reducible repeat (first | refine blk_drewN ?_ _ | refine blk_drew ?_ | refine blk_alloc ?_ _)); exact BK133.out) hb); have n1_ := Aside0.mk (below_step (by repeat (first | (with_reducible first | exact HB.out | apply below_alloc | apply pw_below_drewN | apply below_drew1 | refine below_set ?_ GE133.out) | exact HB.out)) hb); have n2_ := Aside0.mk (hbox); have n3_ := Aside0.mk ((by rw [hg]; exact (below_size (by repeat (first | (with_reducible first | exact HB.out | apply below_alloc | apply pw_below_drewN | apply below_drew1 | refine below_set ?_ GE133.out) | exact HB.out))) : w.heap.size ≤ gb134)); have n4_ := Aside0.mk ((by rw [hg]; exact (below_size (by repeat (first | (with_reducible first | exact HB.out | apply below_alloc | apply pw_below_drewN | apply below_drew1 | refine below_set ?_ GE133.out) | exact HB.out))) : w.heap.size ≤ gb134)); have n5_ := Aside0.mk ((by rw [hg]; exact Nat.ne_of_lt (blk_lt (g := gb133) (o := .cells #[.string a0_0, .int .i64 a0_1, .int .i64 a0_2] 29 (0, 0)) (by (with_reducible repeat (first | refine blk_drewN ?_ _ | refine blk_drew ?_ | refine blk_alloc ?_ _)); exact BK133.out)) : gb133 ≠ gb134)); have n6_ := Aside0.mk ((by rw [hg]; exact Nat.ne_of_gt (blk_lt (g := gb133) (o := .cells #[.string a0_0, .int .i64 a0_1, .int .i64 a0_2] 29 (0, 0)) (by (with_reducible repeat (first | refine blk_drewN ?_ _ | refine blk_drew ?_ | refine blk_alloc ?_ _)); exact BK133.out)) : gb134 ≠ gb133)); clear BK133; clear HB; have BK133 := n0_; have HB := n1_; have BK134 := n2_; have GW134 := n3_; have GE134 := n4_; have NB133_134 := n5_; have NB134_133 := n6_; clear n0_ n1_ n2_ n3_ n4_ n5_ n6_; clear hb hbox hg; have hnb20 := NB133_134.out; have hnc20 := NB134_133.out; have hcz21_0 : w19.cell? ⟨gb133, 0, none⟩ = some (.string a0_0) := (blk_cell BK133.out 0).trans rfl; have hcz21_1 : w19.cell? ⟨gb133, 1, none⟩ = some (.int .i64 a0_1) := (blk_cell BK133.out 1).trans rfl; have hcz21_2 : w19.cell? ⟨gb133, 2, none⟩ = some (.int .i64 a0_2) := (blk_cell BK133.out 2).trans rfl; have hfz21_0 := blk_frozen BK133.out 0; have hfz21_1 := blk_frozen BK133.out 1; have hfz21_2 := blk_frozen BK133.out 2; have hcz22_0 : w19.cell? ⟨gb134, 0, none⟩ = some (.string a1_0) := (blk_cell BK134.out 0).trans rfl; have hcz22_1 : w19.cell? ⟨gb134, 1, none⟩ = some (.int .i64 a1_1) := (blk_cell BK134.out 1).trans rfl; have hcz22_2 : w19.cell? ⟨gb134, 2, none⟩ = some (.int .i64 a1_2) := (blk_cell BK134.out 2).trans rfl; have hfz22_0 := blk_frozen BK134.out 0; have hfz22_1 := blk_frozen BK134.out 1; have hfz22_2 := blk_frozen BK134.out 2) | ((with_reducible refine gate_callee (f := 34) rfl ?_); refine goesL_ (some 10) rfl rfl Try.func34 (by kernel_rfl) rfl #[.string a0_0, .string a1_0] rfl (by (try simp only [List.map_toArray, List.map_cons, List.map_nil]); first | done | rfl | (simp only [List.length_drop, List.length_take]; rfl)) ?_; (with_reducible refine (interlockref04_Texts.calls k a0_0 a1_0 t135 _ A3.out).mono ?_); rintro e w' ⟨rfl, ⟨nd, rfl⟩⟩; refine ⟨_, rfl, ?_⟩))
          go_ret
          exact ⟨by first | rfl | (simp [errW_none, errW_some] <;> rfl) | (simp [*, errW_none, errW_some] <;> rfl), by repeat (first | (with_reducible first | exact HB.out | apply below_alloc | apply pw_below_drewN | apply below_drew1 | refine below_set ?_ GE133.out | refine below_set ?_ GE134.out) | exact HB.out)⟩
    · rw [if_neg c5] at H
      have c5b0 : (a0_1 == a1_1) = false := beq_eq_false_iff_ne.mpr c5
      have c5b1 : (a0_1 != a1_1) = true := bne_iff_ne.mpr c5
      by_cases c23 : a0_1 < a1_1
      · rw [if_pos c23] at H
        have c23b0 : decide (a0_1 < a1_1) = true := decide_eq_true c23
        clear c23
        obtain rfl := Option.some.inj H
        go_enter Try.func21, Try.ntmps21
        go_wp2_with (first | ((with_reducible refine gate_dst (N := 2) rfl ?_); refine box_event ?hg (N := 2) ?hd (cs := #[.string a0_0, .int .i64 a0_1, .int .i64 a0_2]) (t := 29) ?hr ?_; (case hd => rfl); (case hg => rfl); (case hr => first | (go_simp; done) | (go_simp; rfl)); intro gb133 hg w24 hbox hb; have n0_ := Aside0.mk (below_step (by repeat (first | (with_reducible first | exact HB.out | apply below_alloc | apply pw_below_drewN | apply below_drew1) | exact HB.out)) hb); have n1_ := Aside0.mk (hbox); have n2_ := Aside0.mk ((by rw [hg]; exact (below_size (by repeat (first | (with_reducible first | exact HB.out | apply below_alloc | apply pw_below_drewN | apply below_drew1) | exact HB.out))) : w.heap.size ≤ gb133)); have n3_ := Aside0.mk ((by rw [hg]; exact (below_size (by repeat (first | (with_reducible first | exact HB.out | apply below_alloc | apply pw_below_drewN | apply below_drew1) | exact HB.out))) : w.heap.size ≤ gb133)); clear HB; have HB := n0_; have BK133 := n1_; have GW133 := n2_; have GE133 := n3_; clear n0_ n1_ n2_ n3_; clear hb hbox hg) | ((with_reducible refine gate_dst (N := 3) rfl ?_); refine box_event ?hg (N := 3) ?hd (cs := #[.string a1_0, .int .i64 a1_1, .int .i64 a1_2]) (t := 29) ?hr ?_; (case hd => rfl); (case hg => rfl); (case hr => first | (go_simp; done) | (go_simp; rfl)); intro gb134 hg w25 hbox hb; have n0_ := Aside0.mk (blk_below (g := gb133) (o := .cells #[.string a0_0, .int .i64 a0_1, .int .i64 a0_2] 29 (0, 0)) (by (with_reducible repeat (first | refine blk_drewN ?_ _ | refine blk_drew ?_ | refine blk_alloc ?_ _)); exact BK133.out) hb); have n1_ := Aside0.mk (below_step (by repeat (first | (with_reducible first | exact HB.out | apply below_alloc | apply pw_below_drewN | apply below_drew1 | refine below_set ?_ GE133.out) | exact HB.out)) hb); have n2_ := Aside0.mk (hbox); have n3_ := Aside0.mk ((by rw [hg]; exact (below_size (by repeat (first | (with_reducible first | exact HB.out | apply below_alloc | apply pw_below_drewN | apply below_drew1 | refine below_set ?_ GE133.out) | exact HB.out))) : w.heap.size ≤ gb134)); have n4_ := Aside0.mk ((by rw [hg]; exact (below_size (by repeat (first | (with_reducible first | exact HB.out | apply below_alloc | apply pw_below_drewN | apply below_drew1 | refine below_set ?_ GE133.out) | exact HB.out))) : w.heap.size ≤ gb134)); have n5_ := Aside0.mk ((by rw [hg]; exact Nat.ne_of_lt (blk_lt (g := gb133) (o := .cells #[.string a0_0, .int .i64 a0_1, .int .i64 a0_2] 29 (0, 0)) (by (with_reducible repeat (first | refine blk_drewN ?_ _ | refine blk_drew ?_ | refine blk_alloc ?_ _)); exact BK133.out)) : gb133 ≠ gb134)); have n6_ := Aside0.mk ((by rw [hg]; exact Nat.ne_of_gt (blk_lt (g := gb133) (o := .cells #[.string a0_0, .int .i64 a0_1, .int .i64 a0_2] 29 (0, 0)) (by (with_reducible repeat (first | refine blk_drewN ?_ _ | refine blk_drew ?_ | refine blk_alloc ?_ _)); exact BK133.out)) : gb134 ≠ gb133)); clear BK133; clear HB; have BK133 := n0_; have HB := n1_; have BK134 := n2_; have GW134 := n3_; have GE134 := n4_; have NB133_134 := n5_; have NB134_133 := n6_; clear n0_ n1_ n2_ n3_ n4_ n5_ n6_; clear hb hbox hg; have hnb26 := NB133_134.out; have hnc26 := NB134_133.out; have hcz27_0 : w25.cell? ⟨gb133, 0, none⟩ = some (.string a0_0) := (blk_cell BK133.out 0).trans rfl; have hcz27_1 : w25.cell? ⟨gb133, 1, none⟩ = some (.int .i64 a0_1) := (blk_cell BK133.out 1).trans rfl; have hcz27_2 : w25.cell? ⟨gb133, 2, none⟩ = some (.int .i64 a0_2) := (blk_cell BK133.out 2).trans rfl; have hfz27_0 := blk_frozen BK133.out 0; have hfz27_1 := blk_frozen BK133.out 1; have hfz27_2 := blk_frozen BK133.out 2; have hcz28_0 : w25.cell? ⟨gb134, 0, none⟩ = some (.string a1_0) := (blk_cell BK134.out 0).trans rfl; have hcz28_1 : w25.cell? ⟨gb134, 1, none⟩ = some (.int .i64 a1_1) := (blk_cell BK134.out 1).trans rfl; have hcz28_2 : w25.cell? ⟨gb134, 2, none⟩ = some (.int .i64 a1_2) := (blk_cell BK134.out 2).trans rfl; have hfz28_0 := blk_frozen BK134.out 0; have hfz28_1 := blk_frozen BK134.out 1; have hfz28_2 := blk_frozen BK134.out 2) | ((with_reducible refine gate_callee (f := 34) rfl ?_); refine goesL_ (some 10) rfl rfl Try.func34 (by kernel_rfl) rfl #[.string a0_0, .string a1_0] rfl (by (try simp only [List.map_toArray, List.map_cons, List.map_nil]); first | done | rfl | (simp only [List.length_drop, List.length_take]; rfl)) ?_; (with_reducible refine (interlockref04_Texts.calls k a0_0 a1_0 t135 _ A3.out).mono ?_); rintro e w' ⟨rfl, ⟨nd, rfl⟩⟩; refine ⟨_, rfl, ?_⟩))
        go_ret
        exact ⟨by first | rfl | (simp [errW_none, errW_some] <;> rfl) | (simp [*, errW_none, errW_some] <;> rfl), by repeat (first | (with_reducible first | exact HB.out | apply below_alloc | apply pw_below_drewN | apply below_drew1 | refine below_set ?_ GE133.out | refine below_set ?_ GE134.out) | exact HB.out)⟩
      · rw [if_neg c23] at H
        have c23b0 : decide (a0_1 < a1_1) = false := decide_eq_false c23
        clear c23
        obtain rfl := Option.some.inj H
        go_enter Try.func21, Try.ntmps21
        go_wp2_with (first | ((with_reducible refine gate_dst (N := 2) rfl ?_); refine box_event ?hg (N := 2) ?hd (cs := #[.string a0_0, .int .i64 a0_1, .int .i64 a0_2]) (t := 29) ?hr ?_; (case hd => rfl); (case hg => rfl); (case hr => first | (go_simp; done) | (go_simp; rfl)); intro gb133 hg w29 hbox hb; have n0_ := Aside0.mk (below_step (by repeat (first | (with_reducible first | exact HB.out | apply below_alloc | apply pw_below_drewN | apply below_drew1) | exact HB.out)) hb); have n1_ := Aside0.mk (hbox); have n2_ := Aside0.mk ((by rw [hg]; exact (below_size (by repeat (first | (with_reducible first | exact HB.out | apply below_alloc | apply pw_below_drewN | apply below_drew1) | exact HB.out))) : w.heap.size ≤ gb133)); have n3_ := Aside0.mk ((by rw [hg]; exact (below_size (by repeat (first | (with_reducible first | exact HB.out | apply below_alloc | apply pw_below_drewN | apply below_drew1) | exact HB.out))) : w.heap.size ≤ gb133)); clear HB; have HB := n0_; have BK133 := n1_; have GW133 := n2_; have GE133 := n3_; clear n0_ n1_ n2_ n3_; clear hb hbox hg) | ((with_reducible refine gate_dst (N := 3) rfl ?_); refine box_event ?hg (N := 3) ?hd (cs := #[.string a1_0, .int .i64 a1_1, .int .i64 a1_2]) (t := 29) ?hr ?_; (case hd => rfl); (case hg => rfl); (case hr => first | (go_simp; done) | (go_simp; rfl)); intro gb134 hg w30 hbox hb; have n0_ := Aside0.mk (blk_below (g := gb133) (o := .cells #[.string a0_0, .int .i64 a0_1, .int .i64 a0_2] 29 (0, 0)) (by (with_reducible repeat (first | refine blk_drewN ?_ _ | refine blk_drew ?_ | refine blk_alloc ?_ _)); exact BK133.out) hb); have n1_ := Aside0.mk (below_step (by repeat (first | (with_reducible first | exact HB.out | apply below_alloc | apply pw_below_drewN | apply below_drew1 | refine below_set ?_ GE133.out) | exact HB.out)) hb); have n2_ := Aside0.mk (hbox); have n3_ := Aside0.mk ((by rw [hg]; exact (below_size (by repeat (first | (with_reducible first | exact HB.out | apply below_alloc | apply pw_below_drewN | apply below_drew1 | refine below_set ?_ GE133.out) | exact HB.out))) : w.heap.size ≤ gb134)); have n4_ := Aside0.mk ((by rw [hg]; exact (below_size (by repeat (first | (with_reducible first | exact HB.out | apply below_alloc | apply pw_below_drewN | apply below_drew1 | refine below_set ?_ GE133.out) | exact HB.out))) : w.heap.size ≤ gb134)); have n5_ := Aside0.mk ((by rw [hg]; exact Nat.ne_of_lt (blk_lt (g := gb133) (o := .cells #[.string a0_0, .int .i64 a0_1, .int .i64 a0_2] 29 (0, 0)) (by (with_reducible repeat (first | refine blk_drewN ?_ _ | refine blk_drew ?_ | refine blk_alloc ?_ _)); exact BK133.out)) : gb133 ≠ gb134)); have n6_ := Aside0.mk ((by rw [hg]; exact Nat.ne_of_gt (blk_lt (g := gb133) (o := .cells #[.string a0_0, .int .i64 a0_1, .int .i64 a0_2] 29 (0, 0)) (by (with_reducible repeat (first | refine blk_drewN ?_ _ | refine blk_drew ?_ | refine blk_alloc ?_ _)); exact BK133.out)) : gb134 ≠ gb133)); clear BK133; clear HB; have BK133 := n0_; have HB := n1_; have BK134 := n2_; have GW134 := n3_; have GE134 := n4_; have NB133_134 := n5_; have NB134_133 := n6_; clear n0_ n1_ n2_ n3_ n4_ n5_ n6_; clear hb hbox hg; have hnb31 := NB133_134.out; have hnc31 := NB134_133.out; have hcz32_0 : w30.cell? ⟨gb133, 0, none⟩ = some (.string a0_0) := (blk_cell BK133.out 0).trans rfl; have hcz32_1 : w30.cell? ⟨gb133, 1, none⟩ = some (.int .i64 a0_1) := (blk_cell BK133.out 1).trans rfl; have hcz32_2 : w30.cell? ⟨gb133, 2, none⟩ = some (.int .i64 a0_2) := (blk_cell BK133.out 2).trans rfl; have hfz32_0 := blk_frozen BK133.out 0; have hfz32_1 := blk_frozen BK133.out 1; have hfz32_2 := blk_frozen BK133.out 2; have hcz33_0 : w30.cell? ⟨gb134, 0, none⟩ = some (.string a1_0) := (blk_cell BK134.out 0).trans rfl; have hcz33_1 : w30.cell? ⟨gb134, 1, none⟩ = some (.int .i64 a1_1) := (blk_cell BK134.out 1).trans rfl; have hcz33_2 : w30.cell? ⟨gb134, 2, none⟩ = some (.int .i64 a1_2) := (blk_cell BK134.out 2).trans rfl; have hfz33_0 := blk_frozen BK134.out 0; have hfz33_1 := blk_frozen BK134.out 1; have hfz33_2 := blk_frozen BK134.out 2) | ((with_reducible refine gate_callee (f := 34) rfl ?_); refine goesL_ (some 10) rfl rfl Try.func34 (by kernel_rfl) rfl #[.string a0_0, .string a1_0] rfl (by (try simp only [List.map_toArray, List.map_cons, List.map_nil]); first | done | rfl | (simp only [List.length_drop, List.length_take]; rfl)) ?_; (with_reducible refine (interlockref04_Texts.calls k a0_0 a1_0 t135 _ A3.out).mono ?_); rintro e w' ⟨rfl, ⟨nd, rfl⟩⟩; refine ⟨_, rfl, ?_⟩))
        go_ret
        exact ⟨by first | rfl | (simp [errW_none, errW_some] <;> rfl) | (simp [*, errW_none, errW_some] <;> rfl), by repeat (first | (with_reducible first | exact HB.out | apply below_alloc | apply pw_below_drewN | apply below_drew1 | refine below_set ?_ GE133.out | refine below_set ?_ GE134.out) | exact HB.out)⟩
  · rw [if_neg c4] at H
    have c4b0 : (t135 == 0) = false := beq_eq_false_iff_ne.mpr c4
    have c4b1 : (t135 != 0) = true := bne_iff_ne.mpr c4
    obtain rfl := Option.some.inj H
    go_enter Try.func21, Try.ntmps21
    go_wp2_with (first | ((with_reducible refine gate_dst (N := 2) rfl ?_); refine box_event ?hg (N := 2) ?hd (cs := #[.string a0_0, .int .i64 a0_1, .int .i64 a0_2]) (t := 29) ?hr ?_; (case hd => rfl); (case hg => rfl); (case hr => first | (go_simp; done) | (go_simp; rfl)); intro gb133 hg w34 hbox hb; have n0_ := Aside0.mk (below_step (by repeat (first | (with_reducible first | exact HB.out | apply below_alloc | apply pw_below_drewN | apply below_drew1) | exact HB.out)) hb); have n1_ := Aside0.mk (hbox); have n2_ := Aside0.mk ((by rw [hg]; exact (below_size (by repeat (first | (with_reducible first | exact HB.out | apply below_alloc | apply pw_below_drewN | apply below_drew1) | exact HB.out))) : w.heap.size ≤ gb133)); have n3_ := Aside0.mk ((by rw [hg]; exact (below_size (by repeat (first | (with_reducible first | exact HB.out | apply below_alloc | apply pw_below_drewN | apply below_drew1) | exact HB.out))) : w.heap.size ≤ gb133)); clear HB; have HB := n0_; have BK133 := n1_; have GW133 := n2_; have GE133 := n3_; clear n0_ n1_ n2_ n3_; clear hb hbox hg) | ((with_reducible refine gate_dst (N := 3) rfl ?_); refine box_event ?hg (N := 3) ?hd (cs := #[.string a1_0, .int .i64 a1_1, .int .i64 a1_2]) (t := 29) ?hr ?_; (case hd => rfl); (case hg => rfl); (case hr => first | (go_simp; done) | (go_simp; rfl)); intro gb134 hg w35 hbox hb; have n0_ := Aside0.mk (blk_below (g := gb133) (o := .cells #[.string a0_0, .int .i64 a0_1, .int .i64 a0_2] 29 (0, 0)) (by (with_reducible repeat (first | refine blk_drewN ?_ _ | refine blk_drew ?_ | refine blk_alloc ?_ _)); exact BK133.out) hb); have n1_ := Aside0.mk (below_step (by repeat (first | (with_reducible first | exact HB.out | apply below_alloc | apply pw_below_drewN | apply below_drew1 | refine below_set ?_ GE133.out) | exact HB.out)) hb); have n2_ := Aside0.mk (hbox); have n3_ := Aside0.mk ((by rw [hg]; exact (below_size (by repeat (first | (with_reducible first | exact HB.out | apply below_alloc | apply pw_below_drewN | apply below_drew1 | refine below_set ?_ GE133.out) | exact HB.out))) : w.heap.size ≤ gb134)); have n4_ := Aside0.mk ((by rw [hg]; exact (below_size (by repeat (first | (with_reducible first | exact HB.out | apply below_alloc | apply pw_below_drewN | apply below_drew1 | refine below_set ?_ GE133.out) | exact HB.out))) : w.heap.size ≤ gb134)); have n5_ := Aside0.mk ((by rw [hg]; exact Nat.ne_of_lt (blk_lt (g := gb133) (o := .cells #[.string a0_0, .int .i64 a0_1, .int .i64 a0_2] 29 (0, 0)) (by (with_reducible repeat (first | refine blk_drewN ?_ _ | refine blk_drew ?_ | refine blk_alloc ?_ _)); exact BK133.out)) : gb133 ≠ gb134)); have n6_ := Aside0.mk ((by rw [hg]; exact Nat.ne_of_gt (blk_lt (g := gb133) (o := .cells #[.string a0_0, .int .i64 a0_1, .int .i64 a0_2] 29 (0, 0)) (by (with_reducible repeat (first | refine blk_drewN ?_ _ | refine blk_drew ?_ | refine blk_alloc ?_ _)); exact BK133.out)) : gb134 ≠ gb133)); clear BK133; clear HB; have BK133 := n0_; have HB := n1_; have BK134 := n2_; have GW134 := n3_; have GE134 := n4_; have NB133_134 := n5_; have NB134_133 := n6_; clear n0_ n1_ n2_ n3_ n4_ n5_ n6_; clear hb hbox hg; have hnb36 := NB133_134.out; have hnc36 := NB134_133.out; have hcz37_0 : w35.cell? ⟨gb133, 0, none⟩ = some (.string a0_0) := (blk_cell BK133.out 0).trans rfl; have hcz37_1 : w35.cell? ⟨gb133, 1, none⟩ = some (.int .i64 a0_1) := (blk_cell BK133.out 1).trans rfl; have hcz37_2 : w35.cell? ⟨gb133, 2, none⟩ = some (.int .i64 a0_2) := (blk_cell BK133.out 2).trans rfl; have hfz37_0 := blk_frozen BK133.out 0; have hfz37_1 := blk_frozen BK133.out 1; have hfz37_2 := blk_frozen BK133.out 2; have hcz38_0 : w35.cell? ⟨gb134, 0, none⟩ = some (.string a1_0) := (blk_cell BK134.out 0).trans rfl; have hcz38_1 : w35.cell? ⟨gb134, 1, none⟩ = some (.int .i64 a1_1) := (blk_cell BK134.out 1).trans rfl; have hcz38_2 : w35.cell? ⟨gb134, 2, none⟩ = some (.int .i64 a1_2) := (blk_cell BK134.out 2).trans rfl; have hfz38_0 := blk_frozen BK134.out 0; have hfz38_1 := blk_frozen BK134.out 1; have hfz38_2 := blk_frozen BK134.out 2) | ((with_reducible refine gate_callee (f := 34) rfl ?_); refine goesL_ (some 10) rfl rfl Try.func34 (by kernel_rfl) rfl #[.string a0_0, .string a1_0] rfl (by (try simp only [List.map_toArray, List.map_cons, List.map_nil]); first | done | rfl | (simp only [List.length_drop, List.length_take]; rfl)) ?_; (with_reducible refine (interlockref04_Texts.calls k a0_0 a1_0 t135 _ A3.out).mono ?_); rintro e w' ⟨rfl, ⟨nd, rfl⟩⟩; refine ⟨_, rfl, ?_⟩))
    go_ret
    exact ⟨by first | rfl | (simp [errW_none, errW_some] <;> rfl) | (simp [*, errW_none, errW_some] <;> rfl), by repeat (first | (with_reducible first | exact HB.out | apply below_alloc | apply pw_below_drewN | apply below_drew1 | refine below_set ?_ GE133.out | refine below_set ?_ GE134.out) | exact HB.out)⟩
end Go.Proofs.Ytjaddmflopahiaa.Q
end
section
namespace Go.Proofs.Bt
open Go Go.RowKit Go.Proofs.Ytjaddmflopahiaa.Q Go.Proofs.YtjaddmflopahiaaW.PrintWords
set_option linter.unusedVariables false
set_option linter.unusedSimpArgs false
def cmpL (a b : List UInt8) : Int := if Op.bytesLess a b = true then -1 else if (a == b) = true then 0 else 1
theorem cmpL_nil : cmpL [] [] = 0 := by simp [cmpL, Op.bytesLess]
theorem cmpL_l (y : UInt8) (b : List UInt8) : cmpL [] (y :: b) = -1 := by simp [cmpL, Op.bytesLess]
theorem cmpL_r (x : UInt8) (a : List UInt8) : cmpL (x :: a) [] = 1 := by simp [cmpL, Op.bytesLess]
theorem cmpL_eq (x : UInt8) (a b : List UInt8) : cmpL (x :: a) (x :: b) = cmpL a b := by simp [cmpL, Op.bytesLess]
theorem cmpL_lt {x y : UInt8} (a b : List UInt8) (h : x.toNat < y.toNat) : cmpL (x :: a) (y :: b) = -1 := by
  have : x < y := h
  simp [cmpL, Op.bytesLess, this]
theorem cmpL_gt {x y : UInt8} (a b : List UInt8) (h : y.toNat < x.toNat) : cmpL (x :: a) (y :: b) = 1 := by
  have h1 : ¬ x < y := fun h2 => by have : x.toNat < y.toNat := h2; omega
  have h2 : x ≠ y := fun e => by rw [e] at h; omega
  simp [cmpL, Op.bytesLess, h1, h2]
theorem len_size (x : ByteArray) : x.toList.length = x.size := by
  rw [ByteArray.toList_eq]
  rfl
theorem drop_byte (x : ByteArray) (i : Nat) (h : i < x.size) : ∃ u : UInt8, x.toList.drop i = u :: x.toList.drop (i + 1) ∧ bt x (i : Int) = (u.toNat : Int) := by
  have hl : i < x.toList.length := by rw [len_size]; exact h
  refine ⟨x.toList[i], List.drop_eq_getElem_cons hl, ?_⟩
  have h1 := bt_at x (i : Int) (by simpa using h)
  rw [← h1]
  congr 1
  have e : x.toList[i] = x.data.toList[i]'(by simpa using h) := by
    congr 1
    exact ByteArray.toList_eq x
  rw [e]
  rfl
theorem cmp_f (a b : Int) : interlockref04_cmp.f a b = some (if a < b then -1 else if a > b then 1 else 0) := by
  unfold interlockref04_cmp.f
  split
  · rfl
  · split <;> rfl
theorem texts_l0 (x y : ByteArray) (hx : x.size < 1000000) (hy : y.size < 1000000) : ∀ (k i : Nat), x.size < i + k → i ≤ x.size → i ≤ y.size → interlockref04_Texts.l0 (2 * k) x y (i : Int) = some (cmpL (x.toList.drop i) (y.toList.drop i))
  | 0, i, h1, h2, h3 => by omega
  | k + 1, i, h1, h2, h3 => by
    rw [show 2 * (k + 1) = 2 * k + 1 + 1 by omega]
    unfold interlockref04_Texts.l0
    by_cases hix : i < x.size
    · obtain ⟨u, hu, hbu⟩ := drop_byte x i hix
      rw [if_pos (by omega)]
      unfold interlockref04_Texts.j1
      by_cases hiy : i < y.size
      · obtain ⟨v, hv, hbv⟩ := drop_byte y i hiy
        rw [if_pos (decide_eq_true (by omega)), if_pos (by omega), if_pos (by omega), if_pos (by omega), hbu, hbv, hu, hv]
        by_cases he : (u.toNat : Int) = (v.toNat : Int)
        · have : u = v := UInt8.toNat_inj.1 (by omega)
          subst this
          rw [if_pos rfl, IntWalk.wrap64_in _ (by omega), cmpL_eq]
          exact texts_l0 x y hx hy k (i + 1) (by omega) (by omega) (by omega)
        · have hu2 := u.toNat_lt
          have hv2 := v.toNat_lt
          rw [if_neg he, IntWalk.wrap64_in _ (by omega), IntWalk.wrap64_in _ (by omega), cmp_f]
          show some _ = some _
          by_cases hlt : u.toNat < v.toNat
          · rw [if_pos (by omega), cmpL_lt _ _ hlt]
          · rw [if_neg (by omega), if_pos (by omega), cmpL_gt _ _ (by omega)]
      · have hiy2 : i = y.size := by omega
        have hd : y.toList.drop i = [] := List.drop_eq_nil_iff.2 (by rw [len_size]; omega)
        rw [if_neg (by simp; omega), cmp_f, hu, hd, cmpL_r]
        show some _ = some _
        rw [if_neg (by omega), if_pos (by omega)]
    · have hd : x.toList.drop i = [] := List.drop_eq_nil_iff.2 (by rw [len_size]; omega)
      rw [if_neg (by omega)]
      unfold interlockref04_Texts.j1
      rw [if_neg (by simp), cmp_f, hd]
      show some _ = some _
      by_cases hiy : i < y.size
      · obtain ⟨v, hv, hbv⟩ := drop_byte y i hiy
        rw [hv, cmpL_l, if_pos (by omega)]
      · have hd2 : y.toList.drop i = [] := List.drop_eq_nil_iff.2 (by rw [len_size]; omega)
        rw [hd2, cmpL_nil, if_neg (by omega), if_neg (by omega)]
theorem texts_f (x y : ByteArray) (hx : x.size < 1000000) (hy : y.size < 1000000) : interlockref04_Texts.f (2 * (x.size + 1)) x y = some (cmpB x y) := by
  unfold interlockref04_Texts.f
  exact texts_l0 x y hx hy (x.size + 1) 0 (by omega) (by omega) (by omega)
theorem cmpI_tri (a b : Int) : (a < b ∧ cmpI a b = -1) ∨ (a = b ∧ cmpI a b = 0) ∨ (b < a ∧ cmpI a b = 1) := by
  unfold cmpI
  rcases Int.lt_trichotomy a b with h | h | h
  · exact .inl ⟨h, by rw [if_pos h]⟩
  · exact .inr (.inl ⟨h, by rw [if_neg (by omega), if_neg (by omega)]⟩)
  · exact .inr (.inr ⟨h, by rw [if_neg (by omega), if_pos h]⟩)
theorem order_f (a b : S29) (ha : a.f0.size < 1000000) (hb : b.f0.size < 1000000) : interlockref08_Order.f (2 * (a.f0.size + 1)) a.f0 a.f1.f0 a.f1.f1 b.f0 b.f1.f0 b.f1.f1 = some (ord a b) := by
  unfold interlockref08_Order.f
  rw [texts_f _ _ ha hb]
  show (if cmpB a.f0 b.f0 = 0 then _ else some (cmpB a.f0 b.f0)) = _
  unfold ord
  by_cases h0 : cmpB a.f0 b.f0 = 0
  · rw [if_pos h0, if_pos h0]
    rcases cmpI_tri a.f1.f0 b.f1.f0 with ⟨h1, e1⟩ | ⟨h1, e1⟩ | ⟨h1, e1⟩
    · rw [e1, if_neg (by omega), if_pos h1, if_neg (by decide)]
    · rw [e1, if_pos h1, if_pos rfl]
      rcases cmpI_tri a.f1.f1 b.f1.f1 with ⟨h2, e2⟩ | ⟨h2, e2⟩ | ⟨h2, e2⟩
      · rw [e2, if_neg (by omega), if_pos h2]
      · rw [e2, if_pos h2]
      · rw [e2, if_neg (by omega), if_neg (by omega)]
    · rw [e1, if_neg (by omega), if_neg (by omega), if_neg (by decide)]
  · rw [if_neg h0, if_neg h0]
theorem reforder_calls (W : World) (a b : S29) (ha : a.f0.size < 1000000) (hb : b.f0.size < 1000000) : Calls Try.prog 21 #[entryV a, entryV b] W fun E w' => E = .returned (.int .i64 (ord a b)) ∧ Below W.heap.size W w' :=
  interlockref08_Order.calls _ _ _ _ _ _ _ _ W (order_f a b ha hb)
end Go.Proofs.Bt
end
section
namespace Go.Proofs.Bt
open Go Go.RowKit Go.Proofs.Ytjaddmflopahiaa.Q Go.Proofs.YtjaddmflopahiaaW.PrintWords Go.Proofs.YtjaddmflopahiaaW.PrintLast Go.Proofs.YtjaddmflopahiaaW.PrintMore
set_option linter.unusedVariables false
set_option linter.unusedSimpArgs false
set_option maxRecDepth 100000
structure PF (W : World) (rp : Nat) (v : Value) (ks : List S29) (bx : Nat) (e : S29) : Prop where
  cell : W.heap[rp]? = some (.cells #[v] 57 (0, 0))
  row : RowE W v ks
  box : W.heap[bx]? = some (boxE e)
theorem PF.below {W W' : World} {rp bx : Nat} {v : Value} {ks : List S29} {e : S29} (h : PF W rp v ks bx e) (hb : Below W.heap.size W W') : PF W' rp v ks bx e :=
  ⟨(hb.block rp (lt_of_some h.cell)).trans h.cell, Row.below h.row hb, (hb.block bx (lt_of_some h.box)).trans h.box⟩
theorem PF.cells {W : World} {rp g n c bx i : Nat} {ks : List S29} {e x : S29} (h : PF W rp (.slice (some ⟨g, 0, none⟩) n c) ks bx e) (hx : ks[i]? = some x) :
    W.cell? ⟨rp, 0, none⟩ = some (.slice (some ⟨g, 0, none⟩) n c) ∧ W.cell? ⟨g, i * 3, none⟩ = some (.string x.f0) ∧ W.cell? ⟨g, i * 3 + 1, none⟩ = some (.int .i64 x.f1.f0) ∧ W.cell? ⟨g, i * 3 + 2, none⟩ = some (.int .i64 x.f1.f1) ∧
      W.cell? ⟨bx, 0, none⟩ = some (.string e.f0) ∧ W.cell? ⟨bx, 1, none⟩ = some (.int .i64 e.f1.f0) ∧ W.cell? ⟨bx, 2, none⟩ = some (.int .i64 e.f1.f1) := by
  obtain ⟨hi, rfl⟩ := List.getElem?_eq_some_iff.1 hx
  obtain ⟨d0, d1, d2⟩ := RowE.cells h.row i hi
  exact ⟨(blk_cell h.cell 0).trans rfl, d0, d1, d2, (blk_cell h.box 0).trans rfl, (blk_cell h.box 1).trans rfl, (blk_cell h.box 2).trans rfl⟩
end Go.Proofs.Bt
end
section
namespace Go.Proofs.Bt
open Go Go.RowKit Go.Proofs.Ytjaddmflopahiaa.Q Go.Proofs.YtjaddmflopahiaaW.PrintWords Go.Proofs.YtjaddmflopahiaaW.PrintLast Go.Proofs.YtjaddmflopahiaaW.PrintMore
set_option linter.unusedVariables false
set_option linter.unusedSimpArgs false
set_option maxRecDepth 100000
theorem append_nothing (w : World) (v : Value) (ks : List S29) (ty : TypeId) (hR : RowE w v ks) :
    (Builtin.append_ #[22, 22] ty #[v, .slice none 0 0]).run Try.prog w = .ok v w := by
  obtain ⟨i0, hi0, hz0, hzs, hzb⟩ := info_parts ins42_info
  rcases hR.2.2 with ⟨rfl, h0⟩ | ⟨g, cap, cur, rfl, hg, hnc, hcm, hcs, htake⟩
  · simp [Builtin.append_, run_underlying Try.underlying22, sizeOf, typeInfo, hi0, Builtin.lenOf, Builtin.firstCells, loadCells, loadCellsFrom]
  · simp [Builtin.append_, run_underlying Try.underlying22, sizeOf, typeInfo, hi0, Builtin.lenOf, Builtin.firstCells, loadCells, loadCellsFrom, hnc, storeCells]
def PartE (w : World) (u : Value) (ls : List S29) : Prop := (u = .slice none 0 0 ∧ ls = []) ∨ ∃ a c, u = .slice (some a) ls.length c ∧ ∀ j x, (encEs ls)[j]? = some x → w.cell? (a.add j) = some x
theorem PartE.below {w w' : World} {u : Value} {ls : List S29} (h : PartE w u ls) (hb : Below w.heap.size w w') : PartE w' u ls :=
  h.imp id fun ⟨a, c, h1, h2⟩ => ⟨a, c, h1, fun j x hx => pw_cell_below hb (h2 j x hx)⟩
theorem appendPart (w : World) (v u : Value) (ks ls : List S29) (ty : TypeId) (hR : RowE w v ks) (hu : PartE w u ls) (hn : ks.length + ls.length < 100000) :
    ∃ v' w', (Builtin.append_ #[22, 22] ty #[v, u]).run Try.prog w = .ok v' w' ∧ RowE w' v' (ks ++ ls) ∧ w.grownBy w' v.ownBlock ∧ Owns w v v' := by
  rcases hu with ⟨rfl, rfl⟩ | ⟨a, c, rfl, hc⟩
  · exact ⟨v, w, append_nothing w v ks ty hR, by rw [List.append_nil]; exact hR, ⟨rfl, rfl, rfl, Nat.le_refl _, fun _ _ _ => rfl⟩, .inl rfl⟩
  · obtain ⟨i0, hi0, hz0, hzs, hzb⟩ := info_parts ins42_info
    obtain ⟨v', w', h1, h2, h3, h4⟩ := run_append_R (P := Try.prog) w 22 ty 29 i0 _ 3 32 Try.underlying22 hi0 hz0 hzs hzb rfl (by decide) (by decide) v ks.length (encEs ks) hR a ls.length c (encEs ls) (encEs_len ls) hc (encEs_one ls) (by omega)
    rw [← encEs_app] at h2
    exact ⟨v', w', h1, RowE.of h2 (by simp), h3, h4⟩
end Go.Proofs.Bt
end
section
namespace Go.Proofs.Bt
open Go Go.RowKit Go.Proofs.Ytjaddmflopahiaa.Q Go.Proofs.YtjaddmflopahiaaW.PrintWords Go.Proofs.YtjaddmflopahiaaW.PrintLast Go.Proofs.YtjaddmflopahiaaW.PrintMore
set_option linter.unusedVariables false
set_option linter.unusedSimpArgs false
set_option maxRecDepth 100000
def refC (rp : Nat) (v : Value) (ks : List S29) : List Chunk := [boxC rp 57 v, rowEC v ks]
theorem st_row0 {w0 W : World} {F : Nat → Prop} {cs : List Chunk} (s : St w0 F W cs) : St w0 F (W.alloc (.cells #[] 29)) (rowEC (.slice (some ⟨W.heap.size, 0, none⟩) 0 0) [] :: cs) := by
  refine s.fresh ((Below.refl _ W).alloc (Nat.le_refl _) _) (rowEC (.slice (some ⟨W.heap.size, 0, none⟩) 0 0) []) ?_ (nd_bl (.slice (some ⟨W.heap.size, 0, none⟩) 0 0)) (fun b hb => ?_)
  · exact ⟨by simp [encEs], by simp [encEs], .inr ⟨_, 0, #[], rfl, heap_alloc_new W _, Nat.le_refl _, by simp [maxLen], by simp, by simp [encEs]⟩⟩
  · have hb : b ∈ bl (.slice (some ⟨W.heap.size, 0, none⟩) 0 0) := hb
    have := bl_mem.1 hb
    simp [Value.ownBlock] at this
    omega
end Go.Proofs.Bt
end
section
namespace Go.Proofs.Bt
open Go Go.RowKit Go.Proofs.Ytjaddmflopahiaa.Q Go.Proofs.YtjaddmflopahiaaW.PrintWords Go.Proofs.YtjaddmflopahiaaW.PrintLast Go.Proofs.YtjaddmflopahiaaW.PrintMore
set_option linter.unusedVariables false
set_option linter.unusedSimpArgs false
set_option maxRecDepth 100000
end Go.Proofs.Bt
end
section
namespace Go.Proofs.Bt
open Go Go.RowKit Go.Proofs.Ytjaddmflopahiaa.Q Go.Proofs.YtjaddmflopahiaaW.PrintWords Go.Proofs.YtjaddmflopahiaaW.PrintLast Go.Proofs.YtjaddmflopahiaaW.PrintMore
set_option linter.unusedVariables false
set_option linter.unusedSimpArgs false
set_option maxRecDepth 100000
end Go.Proofs.Bt
end
section
namespace Go.Proofs.Bt
open Go Go.RowKit Go.Proofs.Ytjaddmflopahiaa.Q Go.Proofs.YtjaddmflopahiaaW.PrintWords Go.Proofs.YtjaddmflopahiaaW.PrintLast Go.Proofs.YtjaddmflopahiaaW.PrintMore
set_option linter.unusedVariables false
set_option linter.unusedSimpArgs false
set_option maxRecDepth 100000
def ea (b : UInt8) : S29 := ⟨⟨#[b]⟩, ⟨0, 0⟩⟩
def TA : Nat → ST
  | 0 => ⟨0, ([] : List S29)⟩
  | 1 => ⟨0, ([ea 97] : List S29)⟩
  | 2 => ⟨0, ([ea 97, ea 98] : List S29)⟩
  | 3 => ⟨0, ([ea 97, ea 98, ea 99] : List S29)⟩
  | 4 => ⟨0, ([ea 97, ea 98, ea 99, ea 100] : List S29)⟩
  | _ => ⟨1, (([ea 99], [[ea 97, ea 98], [ea 99, ea 100, ea 101]]) : List S29 × List (List S29))⟩
theorem ta0 : tinsS (TA 0) (ea 97) = (TA 1, true) := by kernel_rfl
theorem ta1 : tinsS (TA 1) (ea 98) = (TA 2, true) := by kernel_rfl
theorem ta2 : tinsS (TA 2) (ea 99) = (TA 3, true) := by kernel_rfl
theorem ta3 : tinsS (TA 3) (ea 100) = (TA 4, true) := by kernel_rfl
theorem ta4 : tinsS (TA 4) (ea 101) = (TA 5, true) := by kernel_rfl
theorem ta5 : tinsS (TA 5) (ea 97) = (TA 5, false) := by kernel_rfl
theorem tad : (tcutS (TA 5) (ea 97)).2 = true := by kernel_rfl
theorem tap : pagesOf (TA 5) = [(false, [ea 99], [1, 2]), (true, [ea 97, ea 98], []), (true, [ea 99, ea 100, ea 101], [])] := by kernel_rfl
theorem tar : rng ⟨#[100]⟩ 9 (fromS (TA 5) (lowS ⟨#[98]⟩)) 0 = [ea 98, ea 99] := by kernel_rfl
theorem tfl : (fromS (TA 5) (lowS ⟨#[98]⟩)).length < 90000 := by decide +kernel
theorem tinv0 : TInvS (TA 0) := ⟨⟨Nat.le_refl _, by decide⟩, List.Pairwise.nil⟩
theorem tinv_step {T T' : ST} {e : S29} {b : Bool} (hi : TInvS T) (h : tinsS T e = (T', b)) : TInvS T' := by
  have := (tins_good T.1 T.2 e hi).1
  have e1 : (tins T.1 T.2 e).1 = T' := by
    have := congrArg Prod.fst h
    exact this
  rw [e1] at this
  exact this
theorem tinv1 : TInvS (TA 1) := tinv_step tinv0 ta0
theorem tinv2 : TInvS (TA 2) := tinv_step tinv1 ta1
theorem tinv3 : TInvS (TA 3) := tinv_step tinv2 ta2
theorem tinv4 : TInvS (TA 4) := tinv_step tinv3 ta3
theorem tinv5 : TInvS (TA 5) := tinv_step tinv4 ta4
theorem insert_ta (W w0 : World) (F : Nat → Prop) (tp : Nat) (T T' : ST) (cnt : Int) (R : List Chunk) (e : S29) (b : Bool) (s : TS w0 F W tp T cnt R) (hi : TInvS T) (h : tinsS T e = (T', b)) (hc0 : 0 ≤ cnt) (hc1 : cnt < 1000000) :
    Calls Try.prog 11 #[.pointer (some ⟨tp, 0, none⟩), entryV e] W fun E w' => E = .returned (.bool b) ∧ TS w0 F w' tp T' (if b = true then cnt + 1 else cnt) R := by
  have := insert_ts W w0 F tp T cnt R e s hi hc0 hc1
  rw [h] at this
  exact this
theorem pages_row {v : Value} {l : List Pg} {w0 w : World} {F : Nat → Prop} {R : List Chunk} (s : St w0 F w (pagesC v l :: R)) : RowPg w v l ∧ ∀ p ∈ l, PgOk w p := s.h (pagesC v l) (by simp)
theorem three_pages {l : List Pg} {a b c : PgA} (h : l.map Pg.a = [a, b, c]) : ∃ p q r, l = [p, q, r] ∧ p.a = a ∧ q.a = b ∧ r.a = c := by
  match l, h with
  | [p, q, r], h =>
    simp at h
    exact ⟨p, q, r, rfl, h.1, h.2.1, h.2.2⟩
set_option maxHeartbeats 4000000 in
theorem alive_calls (w : World) : Calls Try.prog 9 #[] w fun E w' => E = .returned (.bool true) ∧ Below w.heap.size w w' := by
  obtain ⟨R, hR⟩ : ∃ R, (fun E w' => E = Ending.returned (.bool true) ∧ Below w.heap.size w w') = R := ⟨_, rfl⟩
  have HR := Aside0.mk hR
  rw [hR]
  clear hR
  have HN := Aside0.mk (new_ts w w NoF [] (St.none w NoF))
  go_enter Try.func9, Try.ntmps9
  go_wp2_with (go_at_call 10; refine HN.out.mono ?_; rintro E w1 ⟨tp, rfl, hs⟩; have HS := Aside0.mk hs; clear hs)
  go_loopg [2] 5 (fun gq v2 wx => ∃ j : Nat, v2 = .int .i64 j ∧ j + gq = 5 ∧ Aside0 (TS w NoF wx tp (TA j) j []))
  case atStart => exact ⟨0, rfl, rfl, HS⟩
  case round =>
    clear HS
    obtain ⟨j, rfl, hj, HS⟩ := hrel
    cases gk with
    | zero =>
      obtain rfl : j = 5 := by omega
      have HP := Aside0.mk (pages_ts wr w NoF tp (TA 5) 5 [] HS.out tinv5 (by decide +kernel))
      go_wp2_with (first
        | (go_at_call 12; refine HP.out.mono ?_; clear HP; rintro E w2 ⟨g, n, c, l, rfl, hl, hs2⟩; rw [tap] at hl; obtain ⟨p, q, r, rfl, hp, hq, hr⟩ := three_pages hl; have HS2 := Aside0.mk hs2; have HPA := Aside0.mk hp; clear hs2 hl hp hq hr HS)
        | (go_at_call 19; refine (range_ts w2 w NoF tp (TA 5) 5 _ ⟨#[98]⟩ ⟨#[100]⟩ 9 HS2.out tinv5 tfl).mono ?_; rw [tar]; rintro E w3 ⟨v, rfl, hs3⟩; have HS3 := Aside0.mk hs3; clear hs3; obtain ⟨gv, cv, rfl, _⟩ := (HS3.out.rest.rowE 0 rfl).formS (by decide); obtain ⟨q0, y1, y2⟩ := (HS3.out.rest.rowE 0 rfl).cells 1 (by decide); have y0 : w3.cell? ⟨gv, 1 * 3, none⟩ = some (.string ⟨#[99]⟩) := q0; clear q0; have hpg := pages_row (HS3.out.rest.perm (List.Perm.swap _ _ _)); obtain ⟨Ak, ck, hk⟩ := (hpg.2 p (by simp)).1.slice; have hks : p.ks = [ea 99] := congrArg (fun x : PgA => x.2.1) HPA.out; have hlf : p.leaf = false := congrArg (fun x : PgA => x.1) HPA.out; rw [hks] at hk; have hn : n = 3 := (by rcases hpg.1.2.2 with ⟨h1, _⟩ | ⟨g', c', cur, h1, _⟩; (simp at h1); (simp at h1; exact h1.2.1)); have z0 := hpg.1.cell (by rw [hn]; rfl) 0 (.bool false) (by rw [← hlf]; rfl); have z1 := hpg.1.cell (by rw [hn]; rfl) 1 (.slice Ak [ea 99].length ck) (by rw [← hk]; rfl); subst hn; clear hpg hk hks hlf)
        | (go_at_call 13; refine (count_ts _ w NoF tp (TA 5) 5 _ HS3.out).mono ?_; rintro E w3 ⟨rfl, rfl⟩)
        | (go_at_call 11; refine (insert_ta _ w NoF tp _ _ _ _ (ea 97) false HS3.out tinv5 ta5 (by omega) (by omega)).mono ?_; clear y0 y1 y2 z0 z1; rintro E w4 ⟨rfl, hs4⟩; have HS4 := Aside0.mk hs4; clear hs4)
        | (go_at_call 15; refine (delete_ts _ w NoF tp _ _ _ (ea 97) HS4.out tinv5 (by simp) (by simp)).mono ?_; rw [tad]; rintro E w5 ⟨rfl, hs5⟩; have HS5 := Aside0.mk hs5; clear hs5))
      rw [← HR.out]
      exact ⟨rfl, keep_below HS5.out.keep⟩
    | succ g =>
      have hcase : j = 0 ∨ j = 1 ∨ j = 2 ∨ j = 3 ∨ j = 4 := by omega
      rcases hcase with rfl | rfl | rfl | rfl | rfl
      · have h0 : (⟨#[97, 98, 99, 100, 101]⟩ : ByteArray).extract 0 1 = ⟨#[97]⟩ := by kernel_rfl
        have HC := Aside0.mk (insert_ta wr w NoF tp _ _ _ [] (ea 97) true HS.out tinv0 ta0 (by omega) (by omega))
        go_wp2_with (go_at_call 11; refine HC.out.mono ?_; clear HC; rintro E w2 ⟨rfl, hs2⟩; have HS2 := Aside0.mk hs2; clear hs2)
        go_roundg g
        case measure => omega
        case rel => exact ⟨1, by go_num, by omega, HS2⟩
      · have h0 : (⟨#[97, 98, 99, 100, 101]⟩ : ByteArray).extract 1 2 = ⟨#[98]⟩ := by kernel_rfl
        have HC := Aside0.mk (insert_ta wr w NoF tp _ _ _ [] (ea 98) true HS.out tinv1 ta1 (by omega) (by omega))
        go_wp2_with (go_at_call 11; refine HC.out.mono ?_; clear HC; rintro E w2 ⟨rfl, hs2⟩; have HS2 := Aside0.mk hs2; clear hs2)
        go_roundg g
        case measure => omega
        case rel => exact ⟨2, by go_num, by omega, HS2⟩
      · have h0 : (⟨#[97, 98, 99, 100, 101]⟩ : ByteArray).extract 2 3 = ⟨#[99]⟩ := by kernel_rfl
        have HC := Aside0.mk (insert_ta wr w NoF tp _ _ _ [] (ea 99) true HS.out tinv2 ta2 (by omega) (by omega))
        go_wp2_with (go_at_call 11; refine HC.out.mono ?_; clear HC; rintro E w2 ⟨rfl, hs2⟩; have HS2 := Aside0.mk hs2; clear hs2)
        go_roundg g
        case measure => omega
        case rel => exact ⟨3, by go_num, by omega, HS2⟩
      · have h0 : (⟨#[97, 98, 99, 100, 101]⟩ : ByteArray).extract 3 4 = ⟨#[100]⟩ := by kernel_rfl
        have HC := Aside0.mk (insert_ta wr w NoF tp _ _ _ [] (ea 100) true HS.out tinv3 ta3 (by omega) (by omega))
        go_wp2_with (go_at_call 11; refine HC.out.mono ?_; clear HC; rintro E w2 ⟨rfl, hs2⟩; have HS2 := Aside0.mk hs2; clear hs2)
        go_roundg g
        case measure => omega
        case rel => exact ⟨4, by go_num, by omega, HS2⟩
      · have h0 : (⟨#[97, 98, 99, 100, 101]⟩ : ByteArray).extract 4 5 = ⟨#[101]⟩ := by kernel_rfl
        have HC := Aside0.mk (insert_ta wr w NoF tp _ _ _ [] (ea 101) true HS.out tinv4 ta4 (by omega) (by omega))
        go_wp2_with (go_at_call 11; refine HC.out.mono ?_; clear HC; rintro E w2 ⟨rfl, hs2⟩; have HS2 := Aside0.mk hs2; clear hs2)
        go_roundg g
        case measure => omega
        case rel => exact ⟨5, by go_num, by omega, HS2⟩
end Go.Proofs.Bt
end
section
namespace Go.Proofs.Bt
open Go Go.RowKit Go.Proofs.Ytjaddmflopahiaa.Q Go.Proofs.YtjaddmflopahiaaW.PrintWords Go.Proofs.YtjaddmflopahiaaW.PrintLast Go.Proofs.YtjaddmflopahiaaW.PrintMore
set_option linter.unusedVariables false
set_option linter.unusedSimpArgs false
set_option maxRecDepth 100000
theorem encPgs_get : ∀ (l : List Pg) (i : Nat) (p : Pg), l[i]? = some p → (encPgs l)[i * 3]? = some (.bool p.leaf) ∧ (encPgs l)[i * 3 + 1]? = some p.K ∧ (encPgs l)[i * 3 + 2]? = some p.C
  | [], i, p, h => by simp at h
  | q :: l, 0, p, h => by
    simp at h
    subst h
    exact ⟨rfl, rfl, rfl⟩
  | q :: l, i + 1, p, h => by
    obtain ⟨h1, h2, h3⟩ := encPgs_get l i p (by simpa using h)
    have e : ∀ k, (encPg q ++ encPgs l)[3 + k]? = (encPgs l)[k]? := fun k => by
      rw [List.getElem?_append_right (by simp [encPg])]
      simp [encPg]
    show (encPg q ++ encPgs l)[(i + 1) * 3]? = _ ∧ (encPg q ++ encPgs l)[(i + 1) * 3 + 1]? = _ ∧ (encPg q ++ encPgs l)[(i + 1) * 3 + 2]? = _
    rw [show (i + 1) * 3 = 3 + i * 3 by omega, e, Nat.add_assoc, e, Nat.add_assoc, e]
    exact ⟨h1, h2, h3⟩
theorem pages_at {l : List Pg} {pg : List PgA} (h : l.map Pg.a = pg) {i : Nat} {x : PgA} (hx : pg[i]? = some x) : ∃ p, l[i]? = some p ∧ p.a = x := by
  rw [← h, List.getElem?_map] at hx
  cases hl : l[i]? with
  | none => rw [hl] at hx; simp at hx
  | some p =>
    rw [hl] at hx
    simp at hx
    exact ⟨p, rfl, hx⟩
end Go.Proofs.Bt
end
section
namespace Go.Proofs.Ytjaddmflopahiaa.Q
open Go.RowKit Go.Proofs.YtjaddmflopahiaaW.PrintWords Go.Proofs.YtjaddmflopahiaaW.PrintLast Go.Proofs.YtjaddmflopahiaaW.PrintMore
attribute [local go_sem] max2_int min2_int max_two min_two max_three min_three max_four min_four
set_option linter.unusedVariables false
set_option linter.unusedSimpArgs false
attribute [local go_sem high] eqA29
def interlockref08_Same.l0 : Nat → List (S29) → List (S29) → Int → Option (Bool)
  | 0, _, _, _ => none
  | k + 1, x0, x1, x5 => if x5 < (x0.length : Int) then (if 0 ≤ x5 then (if x5 < (x1.length : Int) then (if (!((((rd_T29 x0 x5).f0).toList) == (((rd_T29 x1 x5).f0).toList)) || ((!(((rd_T29 x0 x5).f1.f0) == ((rd_T29 x1 x5).f1.f0)) || (!(((rd_T29 x0 x5).f1.f1) == ((rd_T29 x1 x5).f1.f1)))))) = true then (some false) else (interlockref08_Same.l0 k x0 x1 (wrap64 (x5 + 1)))) else (none)) else (none)) else (some true)
def interlockref08_Same.f (k : Nat) (l0 : List (S29)) (l1 : List (S29)) : Option (Bool) := if (l0.length : Int) = (l1.length : Int) then (interlockref08_Same.l0 k l0 l1 0) else (some false)
theorem interlockref08_Same.mono_l : ∀ k, (∀ y0 y1 y2, LeO (interlockref08_Same.l0 k y0 y1 y2) (interlockref08_Same.l0 (k + 1) y0 y1 y2))
  | 0 => fun _ _ _ r h => by simp [interlockref08_Same.l0] at h
  | k + 1 => by
    have ih0 := interlockref08_Same.mono_l k
    · intro y0 y1 y2
      unfold interlockref08_Same.l0
      repeat' first
      | (with_reducible exact ih0 _ _ _)
      | (with_reducible exact LeO.refl _)
      | (with_reducible exact LeO.none _)
      | (with_reducible refine LeO.ite ?_ ?_)
      | (with_reducible refine LeO.bind ?_ (fun _ => ?_))
      | exact ih0 _ _ _
      | exact LeO.none _
      | refine LeO.ite ?_ ?_
      | refine LeO.bind ?_ (fun _ => ?_)
theorem interlockref08_Same.mono : ∀ a0 a1 k, LeO (interlockref08_Same.f k a0 a1) (interlockref08_Same.f (k + 1) a0 a1) := by
  intro a0 a1 k
  have ih0 := interlockref08_Same.mono_l k
  unfold interlockref08_Same.f
  repeat' first
      | (with_reducible exact ih0 _ _ _)
      | (with_reducible exact LeO.refl _)
      | (with_reducible exact LeO.none _)
      | (with_reducible refine LeO.ite ?_ ?_)
      | (with_reducible refine LeO.bind ?_ (fun _ => ?_))
      | exact ih0 _ _ _
      | exact LeO.none _
      | refine LeO.ite ?_ ?_
      | refine LeO.bind ?_ (fun _ => ?_)
set_option maxHeartbeats 8000000 in
set_option maxRecDepth 100000 in
theorem interlockref08_Same.calls (k : Nat) (A0 : Option Addr) (c0 : Nat) (l0 : List (S29)) (A1 : Option Addr) (c1 : Nat) (l1 : List (S29)) (r : Bool) (w : World) (hr0 : Kd.C k29 w A0 l0.length l0) (hc0 : l0.length ≤ c0) (hr1 : Kd.C k29 w A1 l1.length l1) (hc1 : l1.length ≤ c1) (h : interlockref08_Same.f k l0 l1 = some r) :
    Calls Try.prog 17 #[.slice A0 l0.length c0, .slice A1 l1.length c1] w fun e w' => e = .returned (.bool r) ∧ Drawn0 w w' := by
  have hu29 := Try.underlying29
  have HR0 := Aside0.mk hr0
  have HC0 := Aside0.mk hc0
  clear hr0 hc0
  have HR1 := Aside0.mk hr1
  have HC1 := Aside0.mk hc1
  clear hr1 hc1
  have H : (if (l0.length : Int) = (l1.length : Int) then (interlockref08_Same.l0 k l0 l1 0) else (some false)) = some r := h
  clear h
  by_cases c3 : (l0.length : Int) = (l1.length : Int)
  · rw [if_pos c3] at H
    have c3b0 : ((l0.length : Int) == (l1.length : Int)) = true := beq_iff_eq.mpr c3
    have c3b1 : ((l0.length : Int) != (l1.length : Int)) = false := bne_eq_false_iff_eq.mpr c3
    have c3b2 : (l0.length == l1.length) = true := by first | simpa using c3 | (simp at c3 ⊢; omega)
    clear c3
    have H' := Aside0.mk H
    clear H
    go_enter Try.func17, Try.ntmps17
    go_wp2
    repeat (go_quiet (fail); try go_wp2)
    go_loopg [5] k (fun kq v5 w' => ∃ (x5_1 : Int), v5 = .int .i64 x5_1 ∧ Aside0 (interlockref08_Same.l0 kq l0 l1 x5_1 = some r) ∧ Aside0 (kq ≤ k) ∧ Drawn0 w w')
    case atStart => exact ⟨(0), (by first | rfl | (simp; done) | (simp [*]; done)), H', ⟨Nat.le_refl _⟩, by repeat (first | exact Drawn0.refl _ | apply Drawn0.step)⟩
    case round =>
      clear H'
      try clear c1
      try clear p2
      try clear c3
      try clear c3b0
      try clear c3b1
      try clear c3b2
      obtain ⟨x5_1, rfl, HA, HK1, ⟨m1, rfl⟩⟩ := hrel
      cases gk with
      | zero => exact absurd HA.out (by simp [interlockref08_Same.l0])
      | succ k1 =>
        have H := HA.out
        clear HA
        simp only [interlockref08_Same.l0] at H
        by_cases c4 : x5_1 < (l0.length : Int)
        · rw [if_pos c4] at H
          have c4b0 : decide (x5_1 < (l0.length : Int)) = true := decide_eq_true c4
          clear c4
          by_cases c5 : 0 ≤ x5_1
          · rw [if_pos c5] at H
            have c5b0 : decide (0 ≤ x5_1) = true := decide_eq_true c5
            clear c5
            by_cases c6 : x5_1 < (l1.length : Int)
            · rw [if_pos c6] at H
              have c6b0 : decide (x5_1 < (l1.length : Int)) = true := decide_eq_true c6
              clear c6
              by_cases c7 : (!((((rd_T29 l0 x5_1).f0).toList) == (((rd_T29 l1 x5_1).f0).toList)) || ((!(((rd_T29 l0 x5_1).f1.f0) == ((rd_T29 l1 x5_1).f1.f0)) || (!(((rd_T29 l0 x5_1).f1.f1) == ((rd_T29 l1 x5_1).f1.f1)))))) = true
              · rw [if_pos c7] at H
                have c7b0 : (!((((rd_T29 l0 x5_1).f0).toList) == (((rd_T29 l1 x5_1).f0).toList)) || ((!(((rd_T29 l0 x5_1).f1.f0) == ((rd_T29 l1 x5_1).f1.f0)) || (!(((rd_T29 l0 x5_1).f1.f1) == ((rd_T29 l1 x5_1).f1.f1)))))) = true := c7
                clear c7
                obtain rfl := Option.some.inj H
                have p138 : 0 ≤ (x5_1 : Int) := of_decide_eq_true (by first | (with_reducible assumption) | assumption)
                have q138 : x5_1 < (l0.length : Int) := of_decide_eq_true (by first | (with_reducible assumption) | assumption)
                obtain ⟨ad138, e138, hx138_0, hx138_1, hx138_2⟩ := at_T29 HR0.out x5_1 p138 q138
                cases e138
                replace p138 := eq_true p138
                replace q138 := eq_true q138
                have p139 : 0 ≤ (x5_1 : Int) := of_decide_eq_true (by first | (with_reducible assumption) | assumption)
                have q139 : x5_1 < (l1.length : Int) := of_decide_eq_true (by first | (with_reducible assumption) | assumption)
                obtain ⟨ad139, e139, hx139_0, hx139_1, hx139_2⟩ := at_T29 HR1.out x5_1 p139 q139
                cases e139
                replace p139 := eq_true p139
                replace q139 := eq_true q139
                go_wp2
                repeat (go_quiet (fail); try go_wp2)
                go_ret
                exact ⟨by first | rfl | (simp; done) | (simp [*]; done), by repeat (first | exact Drawn0.refl _ | apply Drawn0.step)⟩
              · rw [if_neg c7] at H
                have c7b0 : (!((((rd_T29 l0 x5_1).f0).toList) == (((rd_T29 l1 x5_1).f0).toList)) || ((!(((rd_T29 l0 x5_1).f1.f0) == ((rd_T29 l1 x5_1).f1.f0)) || (!(((rd_T29 l0 x5_1).f1.f1) == ((rd_T29 l1 x5_1).f1.f1)))))) = false := by simpa using c7
                clear c7
                have H' := Aside0.mk H
                clear H
                have p138 : 0 ≤ (x5_1 : Int) := of_decide_eq_true (by first | (with_reducible assumption) | assumption)
                have q138 : x5_1 < (l0.length : Int) := of_decide_eq_true (by first | (with_reducible assumption) | assumption)
                obtain ⟨ad138, e138, hx138_0, hx138_1, hx138_2⟩ := at_T29 HR0.out x5_1 p138 q138
                cases e138
                replace p138 := eq_true p138
                replace q138 := eq_true q138
                have p139 : 0 ≤ (x5_1 : Int) := of_decide_eq_true (by first | (with_reducible assumption) | assumption)
                have q139 : x5_1 < (l1.length : Int) := of_decide_eq_true (by first | (with_reducible assumption) | assumption)
                obtain ⟨ad139, e139, hx139_0, hx139_1, hx139_2⟩ := at_T29 HR1.out x5_1 p139 q139
                cases e139
                replace p139 := eq_true p139
                replace q139 := eq_true q139
                go_wp2
                repeat (go_quiet (fail); try go_wp2)
                go_roundg k1
                case measure => have := HK1.out; omega
                case rel => exact ⟨(wrap64 (x5_1 + 1)), (by first | rfl | (simp; done) | (simp [*]; done)), H', ⟨by have := HK1.out; omega⟩, by repeat (first | exact Drawn0.refl _ | apply Drawn0.step)⟩
            · rw [if_neg c6] at H
              exact absurd H (by simp)
          · rw [if_neg c5] at H
            exact absurd H (by simp)
        · rw [if_neg c4] at H
          have c4b0 : decide (x5_1 < (l0.length : Int)) = false := decide_eq_false c4
          clear c4
          obtain rfl := Option.some.inj H
          go_wp2
          repeat (go_quiet (fail); try go_wp2)
          go_ret
          exact ⟨by first | rfl | (simp; done) | (simp [*]; done), by repeat (first | exact Drawn0.refl _ | apply Drawn0.step)⟩
  · rw [if_neg c3] at H
    have c3b0 : ((l0.length : Int) == (l1.length : Int)) = false := beq_eq_false_iff_ne.mpr c3
    have c3b1 : ((l0.length : Int) != (l1.length : Int)) = true := bne_iff_ne.mpr c3
    have c3b2 : (l0.length == l1.length) = false := by first | simpa using c3 | (simp at c3 ⊢; omega)
    obtain rfl := Option.some.inj H
    go_enter Try.func17, Try.ntmps17
    go_wp2
    repeat (go_quiet (fail); try go_wp2)
    go_ret
    exact ⟨by first | rfl | (simp; done) | (simp [*]; done), by repeat (first | exact Drawn0.refl _ | apply Drawn0.step)⟩
end Go.Proofs.Ytjaddmflopahiaa.Q
end
section
namespace Go.Proofs.Bt
open Go Go.RowKit Go.Proofs.Ytjaddmflopahiaa.Q Go.Proofs.YtjaddmflopahiaaW.PrintWords Go.Proofs.YtjaddmflopahiaaW.PrintLast Go.Proofs.YtjaddmflopahiaaW.PrintMore
set_option linter.unusedVariables false
set_option linter.unusedSimpArgs false
set_option maxRecDepth 100000
theorem rowE_C {w : World} {v : Value} {ks : List S29} (h : RowE w v ks) (hn : ks.length < 100000) : ∃ A c, v = .slice A ks.length c ∧ ks.length ≤ c ∧ Kd.C k29 w A ks.length ks := by
  by_cases h0 : 0 < ks.length
  · obtain ⟨g, c, rfl, hc⟩ := row_slice h h0
    refine ⟨_, c, rfl, hc, rfl, by omega, fun _ => ⟨⟨g, 0, none⟩, rfl, fun j p hj => ⟨_, rfl, k29_mk w p, fun i u hu => ?_⟩⟩⟩
    obtain ⟨hjl, rfl⟩ := List.getElem?_eq_some_iff.1 hj
    obtain ⟨d0, d1, d2⟩ := RowE.cells h j hjl
    rw [Addr.add_lit, Nat.zero_add]
    match i, hu with
    | 0, hu => simp at hu; subst hu; exact d0
    | 1, hu => simp at hu; subst hu; exact d1
    | 2, hu => simp at hu; subst hu; exact d2
  · have hks : ks = [] := List.eq_nil_of_length_eq_zero (by omega)
    subst hks
    rcases h.2.2 with ⟨rfl, _⟩ | ⟨g, c, cur, rfl, _, hc, _⟩
    · exact ⟨none, 0, rfl, Nat.le_refl _, rfl, by simp, fun h => absurd h (by simp)⟩
    · exact ⟨_, c, rfl, hc, rfl, by simp, fun h => absurd h (by simp)⟩
theorem same_l0 (ks : List S29) (hn : ks.length < 100000) : ∀ (k i : Nat), i ≤ ks.length → ks.length < i + k → interlockref08_Same.l0 k ks ks (i : Int) = some true
  | 0, i, h1, h2 => by omega
  | k + 1, i, h1, h2 => by
    unfold interlockref08_Same.l0
    by_cases h : i < ks.length
    · rw [if_pos (by omega), if_pos (by omega), if_pos (by omega), if_neg (by simp), IntWalk.wrap64_in _ (by omega)]
      exact same_l0 ks hn k (i + 1) (by omega) (by omega)
    · rw [if_neg (by omega)]
theorem same_calls (W : World) (v u : Value) (ks : List S29) (hv : RowE W v ks) (hu : RowE W u ks) (hn : ks.length < 100000) : Calls Try.prog 17 #[v, u] W fun E w' => E = .returned (.bool true) ∧ Below W.heap.size W w' := by
  obtain ⟨A, c, rfl, hc, hC⟩ := rowE_C hv hn
  obtain ⟨A', c', rfl, hc', hC'⟩ := rowE_C hu hn
  refine (interlockref08_Same.calls (ks.length + 1) A c ks A' c' ks true W hC hc hC' hc' ?_).mono fun E w' h => ⟨h.1, h.2.below⟩
  unfold interlockref08_Same.f
  rw [if_pos rfl]
  exact same_l0 ks hn _ 0 (by omega) (by omega)
attribute [local go_sem] max_two max2_int
end Go.Proofs.Bt
end
section
namespace Go.Proofs.Bt
open Go Go.RowKit Go.Proofs.Ytjaddmflopahiaa.Q Go.Proofs.YtjaddmflopahiaaW.PrintWords Go.Proofs.YtjaddmflopahiaaW.PrintLast Go.Proofs.YtjaddmflopahiaaW.PrintMore
set_option linter.unusedVariables false
set_option linter.unusedSimpArgs false
set_option maxRecDepth 100000
end Go.Proofs.Bt
end
section
namespace Go.Proofs.Bt
open Go Go.RowKit Go.Proofs.Ytjaddmflopahiaa.Q Go.Proofs.YtjaddmflopahiaaW.PrintWords Go.Proofs.YtjaddmflopahiaaW.PrintLast Go.Proofs.YtjaddmflopahiaaW.PrintMore
set_option linter.unusedVariables false
set_option linter.unusedSimpArgs false
set_option maxRecDepth 100000
end Go.Proofs.Bt
end
section
namespace Go.Proofs.Bt
open Go Go.RowKit Go.Proofs.Ytjaddmflopahiaa.Q Go.Proofs.YtjaddmflopahiaaW.PrintWords Go.Proofs.YtjaddmflopahiaaW.PrintLast Go.Proofs.YtjaddmflopahiaaW.PrintMore
set_option linter.unusedVariables false
set_option linter.unusedSimpArgs false
set_option maxRecDepth 100000
attribute [local go_sem] Oper.semAt_some
end Go.Proofs.Bt
end
section
namespace Go.Proofs.Bt
open Go Go.RowKit Go.Proofs.Ytjaddmflopahiaa.Q Go.Proofs.YtjaddmflopahiaaW.PrintWords Go.Proofs.YtjaddmflopahiaaW.PrintLast Go.Proofs.YtjaddmflopahiaaW.PrintMore
set_option linter.unusedVariables false
set_option linter.unusedSimpArgs false
set_option maxRecDepth 100000
end Go.Proofs.Bt
end
section
namespace Go.Proofs.Bt
open Go Go.RowKit Go.Proofs.Ytjaddmflopahiaa.Q Go.Proofs.YtjaddmflopahiaaW.PrintWords Go.Proofs.YtjaddmflopahiaaW.PrintLast Go.Proofs.YtjaddmflopahiaaW.PrintMore
set_option linter.unusedVariables false
set_option linter.unusedSimpArgs false
set_option maxRecDepth 100000
end Go.Proofs.Bt
end
section
namespace Go.Proofs.Bt
open Go Go.RowKit Go.Proofs.Ytjaddmflopahiaa.Q
set_option linter.unusedVariables false
set_option linter.unusedSimpArgs false
def kc (k : ByteArray) (L : List S29) : Nat := (L.filter fun x => x.f0.toList == k.toList).length
end Go.Proofs.Bt
end
section
namespace Go.Proofs.Bt
open Go Go.RowKit Go.Proofs.Ytjaddmflopahiaa.Q Go.Proofs.YtjaddmflopahiaaW.PrintWords Go.Proofs.YtjaddmflopahiaaW.PrintLast Go.Proofs.YtjaddmflopahiaaW.PrintMore
set_option linter.unusedVariables false
set_option linter.unusedSimpArgs false
set_option maxRecDepth 100000
end Go.Proofs.Bt
end
section
namespace Go.Proofs.Bt
open Go Go.RowKit Go.Proofs.Ytjaddmflopahiaa.Q Go.Proofs.YtjaddmflopahiaaW.PrintWords Go.Proofs.YtjaddmflopahiaaW.PrintLast Go.Proofs.YtjaddmflopahiaaW.PrintMore
set_option linter.unusedVariables false
set_option linter.unusedSimpArgs false
set_option maxRecDepth 100000
section
variable {w0 W W' : World} {F : Nat → Prop} {tp rp : Nat} {T : ST} {cnt : Int} {v v' : Value} {ks ks' : List S29} {R : List Chunk}
end
end Go.Proofs.Bt
end
section
namespace Go.Proofs.Bt
open Go Go.RowKit Go.Proofs.Ytjaddmflopahiaa.Q
set_option linter.unusedVariables false
set_option linter.unusedSimpArgs false
end Go.Proofs.Bt
end
section
namespace Go.Proofs.Ytjaddmflopahiaa.Q
open Go.RowKit Go.Proofs.YtjaddmflopahiaaW.PrintWords Go.Proofs.YtjaddmflopahiaaW.PrintLast Go.Proofs.YtjaddmflopahiaaW.PrintMore
attribute [local go_sem] max2_int min2_int max_two min_two max_three min_three max_four min_four
set_option linter.unusedVariables false
set_option linter.unusedSimpArgs false
attribute [local go_sem high] eqA27
def interlockref07_SameRids.l0 : Nat → List (S27) → List (S27) → Int → Option (Bool)
  | 0, _, _, _ => none
  | k + 1, x0, x1, x5 => if x5 < (x0.length : Int) then (if 0 ≤ x5 then (if x5 < (x1.length : Int) then (if (!(((rd_T27 x0 x5).f0) == ((rd_T27 x1 x5).f0)) || (!(((rd_T27 x0 x5).f1) == ((rd_T27 x1 x5).f1)))) = true then (some false) else (interlockref07_SameRids.l0 k x0 x1 (wrap64 (x5 + 1)))) else (none)) else (none)) else (some true)
def interlockref07_SameRids.f (k : Nat) (l0 : List (S27)) (l1 : List (S27)) : Option (Bool) := if (l0.length : Int) = (l1.length : Int) then (interlockref07_SameRids.l0 k l0 l1 0) else (some false)
theorem interlockref07_SameRids.mono_l : ∀ k, (∀ y0 y1 y2, LeO (interlockref07_SameRids.l0 k y0 y1 y2) (interlockref07_SameRids.l0 (k + 1) y0 y1 y2))
  | 0 => fun _ _ _ r h => by simp [interlockref07_SameRids.l0] at h
  | k + 1 => by
    have ih0 := interlockref07_SameRids.mono_l k
    · intro y0 y1 y2
      unfold interlockref07_SameRids.l0
      repeat' first
      | (with_reducible exact ih0 _ _ _)
      | (with_reducible exact LeO.refl _)
      | (with_reducible exact LeO.none _)
      | (with_reducible refine LeO.ite ?_ ?_)
      | (with_reducible refine LeO.bind ?_ (fun _ => ?_))
      | exact ih0 _ _ _
      | exact LeO.none _
      | refine LeO.ite ?_ ?_
      | refine LeO.bind ?_ (fun _ => ?_)
theorem interlockref07_SameRids.mono : ∀ a0 a1 k, LeO (interlockref07_SameRids.f k a0 a1) (interlockref07_SameRids.f (k + 1) a0 a1) := by
  intro a0 a1 k
  have ih0 := interlockref07_SameRids.mono_l k
  unfold interlockref07_SameRids.f
  repeat' first
      | (with_reducible exact ih0 _ _ _)
      | (with_reducible exact LeO.refl _)
      | (with_reducible exact LeO.none _)
      | (with_reducible refine LeO.ite ?_ ?_)
      | (with_reducible refine LeO.bind ?_ (fun _ => ?_))
      | exact ih0 _ _ _
      | exact LeO.none _
      | refine LeO.ite ?_ ?_
      | refine LeO.bind ?_ (fun _ => ?_)
set_option maxHeartbeats 8000000 in
set_option maxRecDepth 100000 in
theorem interlockref07_SameRids.calls (k : Nat) (A0 : Option Addr) (c0 : Nat) (l0 : List (S27)) (A1 : Option Addr) (c1 : Nat) (l1 : List (S27)) (r : Bool) (w : World) (hr0 : Kd.C k27 w A0 l0.length l0) (hc0 : l0.length ≤ c0) (hr1 : Kd.C k27 w A1 l1.length l1) (hc1 : l1.length ≤ c1) (h : interlockref07_SameRids.f k l0 l1 = some r) :
    Calls Try.prog 38 #[.slice A0 l0.length c0, .slice A1 l1.length c1] w fun e w' => e = .returned (.bool r) ∧ Drawn0 w w' := by
  have hu27 := Try.underlying27
  have HR0 := Aside0.mk hr0
  have HC0 := Aside0.mk hc0
  clear hr0 hc0
  have HR1 := Aside0.mk hr1
  have HC1 := Aside0.mk hc1
  clear hr1 hc1
  have H : (if (l0.length : Int) = (l1.length : Int) then (interlockref07_SameRids.l0 k l0 l1 0) else (some false)) = some r := h
  clear h
  by_cases c3 : (l0.length : Int) = (l1.length : Int)
  · rw [if_pos c3] at H
    have c3b0 : ((l0.length : Int) == (l1.length : Int)) = true := beq_iff_eq.mpr c3
    have c3b1 : ((l0.length : Int) != (l1.length : Int)) = false := bne_eq_false_iff_eq.mpr c3
    have c3b2 : (l0.length == l1.length) = true := by first | simpa using c3 | (simp at c3 ⊢; omega)
    clear c3
    have H' := Aside0.mk H
    clear H
    go_enter Try.func38, Try.ntmps38
    go_wp2
    repeat (go_quiet (fail); try go_wp2)
    go_loopg [5] k (fun kq v5 w' => ∃ (x5_1 : Int), v5 = .int .i64 x5_1 ∧ Aside0 (interlockref07_SameRids.l0 kq l0 l1 x5_1 = some r) ∧ Aside0 (kq ≤ k) ∧ Drawn0 w w')
    case atStart => exact ⟨(0), (by first | rfl | (simp; done) | (simp [*]; done)), H', ⟨Nat.le_refl _⟩, by repeat (first | exact Drawn0.refl _ | apply Drawn0.step)⟩
    case round =>
      clear H'
      try clear c1
      try clear p2
      try clear c3
      try clear c3b0
      try clear c3b1
      try clear c3b2
      obtain ⟨x5_1, rfl, HA, HK1, ⟨m1, rfl⟩⟩ := hrel
      cases gk with
      | zero => exact absurd HA.out (by simp [interlockref07_SameRids.l0])
      | succ k1 =>
        have H := HA.out
        clear HA
        simp only [interlockref07_SameRids.l0] at H
        by_cases c4 : x5_1 < (l0.length : Int)
        · rw [if_pos c4] at H
          have c4b0 : decide (x5_1 < (l0.length : Int)) = true := decide_eq_true c4
          clear c4
          by_cases c5 : 0 ≤ x5_1
          · rw [if_pos c5] at H
            have c5b0 : decide (0 ≤ x5_1) = true := decide_eq_true c5
            clear c5
            by_cases c6 : x5_1 < (l1.length : Int)
            · rw [if_pos c6] at H
              have c6b0 : decide (x5_1 < (l1.length : Int)) = true := decide_eq_true c6
              clear c6
              by_cases c7 : (!(((rd_T27 l0 x5_1).f0) == ((rd_T27 l1 x5_1).f0)) || (!(((rd_T27 l0 x5_1).f1) == ((rd_T27 l1 x5_1).f1)))) = true
              · rw [if_pos c7] at H
                have c7b0 : (!(((rd_T27 l0 x5_1).f0) == ((rd_T27 l1 x5_1).f0)) || (!(((rd_T27 l0 x5_1).f1) == ((rd_T27 l1 x5_1).f1)))) = true := c7
                clear c7
                obtain rfl := Option.some.inj H
                have p146 : 0 ≤ (x5_1 : Int) := of_decide_eq_true (by first | (with_reducible assumption) | assumption)
                have q146 : x5_1 < (l0.length : Int) := of_decide_eq_true (by first | (with_reducible assumption) | assumption)
                obtain ⟨ad146, e146, hx146_0, hx146_1⟩ := at_T27 HR0.out x5_1 p146 q146
                cases e146
                replace p146 := eq_true p146
                replace q146 := eq_true q146
                have p147 : 0 ≤ (x5_1 : Int) := of_decide_eq_true (by first | (with_reducible assumption) | assumption)
                have q147 : x5_1 < (l1.length : Int) := of_decide_eq_true (by first | (with_reducible assumption) | assumption)
                obtain ⟨ad147, e147, hx147_0, hx147_1⟩ := at_T27 HR1.out x5_1 p147 q147
                cases e147
                replace p147 := eq_true p147
                replace q147 := eq_true q147
                go_wp2
                repeat (go_quiet (fail); try go_wp2)
                go_ret
                exact ⟨by first | rfl | (simp; done) | (simp [*]; done), by repeat (first | exact Drawn0.refl _ | apply Drawn0.step)⟩
              · rw [if_neg c7] at H
                have c7b0 : (!(((rd_T27 l0 x5_1).f0) == ((rd_T27 l1 x5_1).f0)) || (!(((rd_T27 l0 x5_1).f1) == ((rd_T27 l1 x5_1).f1)))) = false := by simpa using c7
                clear c7
                have H' := Aside0.mk H
                clear H
                have p146 : 0 ≤ (x5_1 : Int) := of_decide_eq_true (by first | (with_reducible assumption) | assumption)
                have q146 : x5_1 < (l0.length : Int) := of_decide_eq_true (by first | (with_reducible assumption) | assumption)
                obtain ⟨ad146, e146, hx146_0, hx146_1⟩ := at_T27 HR0.out x5_1 p146 q146
                cases e146
                replace p146 := eq_true p146
                replace q146 := eq_true q146
                have p147 : 0 ≤ (x5_1 : Int) := of_decide_eq_true (by first | (with_reducible assumption) | assumption)
                have q147 : x5_1 < (l1.length : Int) := of_decide_eq_true (by first | (with_reducible assumption) | assumption)
                obtain ⟨ad147, e147, hx147_0, hx147_1⟩ := at_T27 HR1.out x5_1 p147 q147
                cases e147
                replace p147 := eq_true p147
                replace q147 := eq_true q147
                go_wp2
                repeat (go_quiet (fail); try go_wp2)
                go_roundg k1
                case measure => have := HK1.out; omega
                case rel => exact ⟨(wrap64 (x5_1 + 1)), (by first | rfl | (simp; done) | (simp [*]; done)), H', ⟨by have := HK1.out; omega⟩, by repeat (first | exact Drawn0.refl _ | apply Drawn0.step)⟩
            · rw [if_neg c6] at H
              exact absurd H (by simp)
          · rw [if_neg c5] at H
            exact absurd H (by simp)
        · rw [if_neg c4] at H
          have c4b0 : decide (x5_1 < (l0.length : Int)) = false := decide_eq_false c4
          clear c4
          obtain rfl := Option.some.inj H
          go_wp2
          repeat (go_quiet (fail); try go_wp2)
          go_ret
          exact ⟨by first | rfl | (simp; done) | (simp [*]; done), by repeat (first | exact Drawn0.refl _ | apply Drawn0.step)⟩
  · rw [if_neg c3] at H
    have c3b0 : ((l0.length : Int) == (l1.length : Int)) = false := beq_eq_false_iff_ne.mpr c3
    have c3b1 : ((l0.length : Int) != (l1.length : Int)) = true := bne_iff_ne.mpr c3
    have c3b2 : (l0.length == l1.length) = false := by first | simpa using c3 | (simp at c3 ⊢; omega)
    obtain rfl := Option.some.inj H
    go_enter Try.func38, Try.ntmps38
    go_wp2
    repeat (go_quiet (fail); try go_wp2)
    go_ret
    exact ⟨by first | rfl | (simp; done) | (simp [*]; done), by repeat (first | exact Drawn0.refl _ | apply Drawn0.step)⟩
end Go.Proofs.Ytjaddmflopahiaa.Q
end
