/- Packed by chunk.py: YtjaddmflopahiaaP7 YtjaddmflopahiaaP8 YtjaddmflopahiaaP9 YtjaddmflopahiaaE7 YtjaddmflopahiaaE8 YtjaddmflopahiaaP10 YtjaddmflopahiaaR YtjaddmflopahiaaE9 YtjaddmflopahiaaP11 YtjaddmflopahiaaE10 YtjaddmflopahiaaE11 YtjaddmflopahiaaE12 YtjaddmflopahiaaP12 YtjaddmflopahiaaE13 -/
import Derived.Test.YtjaddmflopahiaaQ0
import Derived.Deep.Slices
import Derived.ChangeArms
import Derived.DataReads
import Derived.Test.YtjaddmflopahiaaDeep7
section
/- Plain law: what insert makes of a tree in order. -/
namespace Go.Proofs.Bt
open Go Go.RowKit Go.Proofs.Ytjaddmflopahiaa.Q
set_option linter.unusedVariables false
set_option linter.unusedSimpArgs false

/-- Sizes: n keys at least here, two below; four at most; a kid more than keys. -/
def Shape : (h : Nat) → (n : Nat) → BT h → Prop
  | 0, n, ks => n ≤ List.length (α := S29) ks ∧ List.length (α := S29) ks ≤ 4
  | h + 1, n, t => n ≤ t.1.length ∧ t.1.length ≤ 4 ∧ t.2.length = t.1.length + 1 ∧ ∀ k ∈ t.2, Shape h 2 k
theorem Shape.mono : ∀ {h n m : Nat} {t : BT h}, Shape h n t → m ≤ n → Shape h m t
  | 0, n, m, t, hs, hm => ⟨Nat.le_trans hm hs.1, hs.2⟩
  | h + 1, n, m, t, hs, hm => ⟨Nat.le_trans hm hs.1, hs.2⟩
theorem Shape.ge : ∀ {h n : Nat} {t : BT h}, Shape h n t → n ≤ blen h t
  | 0, _, _, hs => hs.1
  | _ + 1, _, _, hs => hs.1
theorem Shape.le : ∀ {h n : Nat} {t : BT h}, Shape h n t → blen h t ≤ 4
  | 0, _, _, hs => hs.2
  | _ + 1, _, _, hs => hs.2.1
theorem srt_kid {h : Nat} {ks : List S29} {ts : List (BT h)} (hl : ts.length = ks.length + 1) (hs : Srt (flat (h + 1) (ks, ts))) : ∀ k ∈ ts, Srt (flat h k) := by
  intro k hk
  obtain ⟨i, hi, rfl⟩ := List.mem_iff_getElem.1 hk
  obtain ⟨A, k, B, rfl, hA⟩ := cut_at ts i hi
  have hkk : (A ++ k :: B)[i] = k := by
    rw [List.getElem_append_right (by omega)]
    simp [hA]
  rw [hkk]
  rw [List.length_append, List.length_cons] at hl
  rw [flat_cut h ks A k B (by omega)] at hs
  exact (srt_mid.1 hs).2.1
theorem srt_seps {h : Nat} {ks : List S29} {ts : List (BT h)} (hl : ts.length = ks.length + 1) (hs : Srt (flat (h + 1) (ks, ts))) : Sorted ks :=
  srt_keys (b := false) (List.Pairwise.sublist (keys_sub ks (ts.map (flat h)) (by rw [List.length_map]; exact hl)) hs)
theorem fit_of : ∀ (h n : Nat) (t : BT h) (e : S29), Shape h n t → Srt (flat h t) → Fit e h t
  | 0, n, t, e, hs, hr => ⟨hs.2, (srt_keys hr).mono e⟩
  | h + 1, n, t, e, hs, hr => by
    obtain ⟨h1, h2, h3, h4⟩ := hs
    exact ⟨h2, (srt_seps h3 hr).mono e, h3, fun k hk => fit_of h 2 k e (h4 k hk) (srt_kid h3 hr k hk)⟩
theorem cutfit_of : ∀ (h n : Nat) (t : BT h) (e : S29), Shape h n t → (h = 0 ∨ 1 ≤ n) → Srt (flat h t) → CutFit e h t
  | 0, n, t, e, hs, _, hr => ⟨by have := hs.2; omega, (srt_keys hr).mono e⟩
  | h + 1, n, t, e, hs, hn, hr => by
    obtain ⟨h1, h2, h3, h4⟩ := hs
    exact ⟨by omega, by omega, (srt_seps h3 hr).mono e, h3, fun k hk => ⟨cutfit_of h 2 k e (h4 k hk) (.inr (by decide)) (srt_kid h3 hr k hk), (h4 k hk).ge⟩⟩
/-- Where an entry's kid stands. -/
theorem at_kid {h : Nat} {ks : List S29} {ts : List (BT h)} (e : S29) (hl : ts.length = ks.length + 1) (hs : Srt (flat (h + 1) (ks, ts))) :
    ∃ A k B, ts = A ++ k :: B ∧ A.length = kidIx ks e ∧ A.length + B.length = ks.length ∧ (∀ x ∈ lpre (ks.take A.length) (A.map (flat h)), ltI x (e, true)) ∧ (∀ y ∈ lpost (ks.drop A.length) (B.map (flat h)), ltI (e, true) y) := by
  have hi := kidIx_le ks e
  obtain ⟨A, k, B, rfl, hA⟩ := cut_at ts (kidIx ks e) (by omega)
  rw [List.length_append, List.length_cons] at hl
  obtain ⟨p1, p2⟩ := kid_parts ks e (srt_seps (by rw [List.length_append, List.length_cons]; omega) hs)
  rw [flat_cut h ks A k B (by omega)] at hs
  obtain ⟨h1, h2, h3, h4, h5, h6⟩ := srt_mid.1 hs
  refine ⟨A, k, B, rfl, hA, by omega, pre_lt _ _ (by rw [List.length_map, List.length_take]; omega) h1 (by rw [hA]; exact p1), post_gt _ _ h3 (by rw [hA]; exact p2)⟩
theorem del_sep {X Y : List It} {z : S29} (hs : Srt (X ++ (z, false) :: Y)) : Sam (X ++ (z, false) :: Y) (X ++ Y) := by
  have hsub : (X ++ Y).Sublist (X ++ (z, false) :: Y) := List.Sublist.append_left (List.sublist_cons_self _ _) X
  refine ⟨List.Pairwise.sublist hsub hs, fun x hx y hy => hx y (hsub.subset hy), fun x hx y hy => hx y (hsub.subset hy), fun u => ?_⟩
  simp
theorem ins_sep {X Y : List It} {c : S29} (hX : X ≠ []) (ht : ∀ x ∈ X, x.2 = true) (hs : Srt (X ++ (c, true) :: Y)) : Sam (X ++ (c, true) :: Y) (X ++ (c, false) :: (c, true) :: Y) := by
  obtain ⟨h1, h2, h3⟩ := List.pairwise_append.1 hs
  obtain ⟨h4, h5⟩ := List.pairwise_cons.1 h2
  have hXc : ∀ x ∈ X, ltI x (c, false) := fun x hx => by
    rcases h3 x hx (c, true) (by simp) with h | ⟨_, h6, _⟩
    · exact .inl h
    · rw [ht x hx] at h6
      cases h6
  have hcc : ltI (c, false) (c, true) := .inr ⟨rfl, rfl, rfl⟩
  refine ⟨?_, fun x hx y hy => ?_, fun x hx y hy => ?_, fun u => ?_⟩
  · refine List.pairwise_append.2 ⟨h1, List.pairwise_cons.2 ⟨fun y hy => ?_, h2⟩, fun x hx y hy => ?_⟩
    · rcases List.mem_cons.1 hy with rfl | hy
      · exact hcc
      · exact ltI_trans hcc (h4 y hy)
    · rcases List.mem_cons.1 hy with rfl | hy
      · exact hXc x hx
      · exact h3 x hx y hy
  · rcases List.mem_append.1 hy with hy | hy
    · exact hx y (List.mem_append_left _ hy)
    · rcases List.mem_cons.1 hy with rfl | hy
      · obtain ⟨x0, hx0⟩ := List.exists_mem_of_ne_nil X hX
        exact ltI_trans (hx x0 (List.mem_append_left _ hx0)) (hXc x0 hx0)
      · exact hx y (List.mem_append_right _ hy)
  · rcases List.mem_append.1 hy with hy | hy
    · exact hx y (List.mem_append_left _ hy)
    · rcases List.mem_cons.1 hy with rfl | hy
      · exact ltI_trans hcc (hx (c, true) (by simp))
      · exact hx y (List.mem_append_right _ hy)
  · simp
theorem il_cons (k : S29) (ks : List S29) (f g : List It) (fs : List (List It)) : il (k :: ks) (f :: g :: fs) = f ++ (k, false) :: il ks (g :: fs) := by
  show f ++ lpost (k :: ks) (g :: fs) = _
  rw [lpost_cons]
  rfl
theorem il_app : ∀ (k1 : List S29) (z : S29) (k2 : List S29) (f1 f2 : List (List It)), f1.length = k1.length + 1 → f2 ≠ [] → il (k1 ++ z :: k2) (f1 ++ f2) = il k1 f1 ++ (z, false) :: il k2 f2
  | [], z, k2, [f], g :: f2, _, _ => by
    show il (z :: k2) (f :: g :: f2) = _
    rw [il_cons]
    simp [il, lpost]
  | k :: k1, z, k2, f :: g :: f1, f2, h, h2 => by
    have ih := il_app k1 z k2 (g :: f1) f2 (by simpa using h) h2
    show il (k :: (k1 ++ z :: k2)) (f :: g :: (f1 ++ f2)) = _
    rw [il_cons, il_cons]
    have ih' : il (k1 ++ z :: k2) (g :: (f1 ++ f2)) = il k1 (g :: f1) ++ (z, false) :: il k2 f2 := ih
    rw [ih']
    simp
  | [], z, k2, f1, [], _, h2 => absurd rfl h2
  | [], z, k2, [], f2, h, _ => by simp at h
  | [], z, k2, f :: g :: f1, f2, h, _ => by simp at h
  | k :: k1, z, k2, [], f2, h, _ => by simp at h
  | k :: k1, z, k2, [f], f2, h, _ => by simp at h
theorem flat_app (h : Nat) (k1 : List S29) (z : S29) (k2 : List S29) (t1 t2 : List (BT h)) (h1 : t1.length = k1.length + 1) (h2 : t2 ≠ []) : flat (h + 1) (k1 ++ z :: k2, t1 ++ t2) = flat (h + 1) (k1, t1) ++ (z, false) :: flat (h + 1) (k2, t2) := by
  show il (k1 ++ z :: k2) ((t1 ++ t2).map (flat h)) = il k1 (t1.map (flat h)) ++ (z, false) :: il k2 (t2.map (flat h))
  rw [List.map_append, il_app k1 z k2 _ _ (by rw [List.length_map]; exact h1) (by simpa using h2)]
def ents (l : List S29) : List It := l.map (fun x : S29 => ((x, true) : It))
theorem ents_app (a b : List S29) : ents (a ++ b) = ents a ++ ents b := by simp [ents]
theorem ents_true {l : List S29} : ∀ x ∈ ents l, x.2 = true := by
  intro x hx
  obtain ⟨y, _, rfl⟩ := List.mem_map.1 hx
  rfl
/-- Five keys parted: nothing is lost. -/
theorem split_sam : ∀ (h : Nat) (t : BT h), blen h t = 5 → (h = 0 ∨ bkids h t = 6) → Srt (flat h t) → Sam (flat h t) (flat h (bsplit h t).2.1 ++ ((bsplit h t).1, false) :: flat h (bsplit h t).2.2)
  | 0, t, h5, _, hs => by
    have h5 : List.length (α := S29) t = 5 := h5
    obtain ⟨a, b, c, r, ht⟩ : ∃ a b c r, t = (a :: b :: c :: r : List S29) := by
      match t, h5 with
      | a :: b :: c :: r, _ => exact ⟨a, b, c, r, rfl⟩
    subst ht
    exact ins_sep (X := [(a, true), (b, true)]) (Y := ents r) (by simp) (by simp) hs
  | h + 1, t, h5, h6, hs => by
    obtain ⟨ks, ts⟩ := t
    have h5 : ks.length = 5 := h5
    have h6 : ts.length = 6 := h6.resolve_left (by omega)
    have e1 : ks = ks.take 2 ++ ks.getD 2 z29 :: ks.drop 3 := by
      have h2 : 2 < ks.length := by omega
      conv => lhs; rw [← List.take_append_drop 2 ks, List.drop_eq_getElem_cons h2]
      rw [List.getD_eq_getElem?_getD, List.getElem?_eq_getElem h2]
      rfl
    have e2 : ts = ts.take 3 ++ ts.drop 3 := (List.take_append_drop 3 ts).symm
    have hf : flat (h + 1) (ks, ts) = flat (h + 1) (ks.take 2, ts.take 3) ++ (ks.getD 2 z29, false) :: flat (h + 1) (ks.drop 3, ts.drop 3) := by
      conv => lhs; rw [e1, e2]
      exact flat_app h _ _ _ _ _ (by rw [List.length_take, List.length_take]; omega) (by intro e; have := congrArg List.length e; rw [List.length_drop] at this; simp at this; omega)
    show Sam (flat (h + 1) (ks, ts)) (flat (h + 1) (ks.take 2, ts.take 3) ++ (ks.getD 2 z29, false) :: flat (h + 1) (ks.drop 3, ts.drop 3))
    rw [← hf]
    exact Sam.refl hs
theorem leaf_ins (ks : List S29) (e : S29) (hs : Sorted ks) : Insd e (ents ks) (ents (if found ks e = true then ks else insAt ks (low ks e) e)) ∧ (found ks e = true ↔ e ∈ ks) := by
  have hfm := found_mem ks e hs
  refine ⟨?_, hfm⟩
  by_cases hf : found ks e = true
  · rw [if_pos hf]
    exact ⟨srt_of_keys hs, fun x hx _ => hx, fun x hx _ => hx, fun z => ⟨.inr, fun hz => hz.elim (fun hz => by rw [hz]; exact List.mem_map_of_mem (hfm.1 hf)) id⟩⟩
  · rw [if_neg hf]
    have hs2 : Sorted (insAt ks (low ks e) e) := ins_sorted ks e hs (by simpa using hf)
    have hm : ∀ y, y ∈ ents (insAt ks (low ks e) e) ↔ y = (e, true) ∨ y ∈ ents ks := fun y => by
      simp only [ents, List.mem_map, mem_insAt]
      constructor
      · rintro ⟨z, (rfl | hz), rfl⟩
        · exact .inl rfl
        · exact .inr ⟨z, hz, rfl⟩
      · rintro (rfl | ⟨z, hz, rfl⟩)
        · exact ⟨e, .inl rfl, rfl⟩
        · exact ⟨z, .inr hz, rfl⟩
    refine ⟨srt_of_keys hs2, fun x hx he y hy => ?_, fun x hx he y hy => ?_, fun z => ?_⟩
    · rcases (hm y).1 hy with rfl | hy
      · exact he
      · exact hx y hy
    · rcases (hm y).1 hy with rfl | hy
      · exact he
      · exact hx y hy
    · rw [hm]
      simp
theorem insAt_take {α : Type} (l : List α) (i : Nat) (x : α) (h : i ≤ l.length) : (insAt l i x).take i = l.take i := by
  unfold insAt
  rw [List.take_append_of_le_length (by rw [List.length_take]; omega), List.take_take, Nat.min_self]
theorem insAt_drop {α : Type} (l : List α) (i : Nat) (x : α) (h : i ≤ l.length) : (insAt l i x).drop (i + 1) = l.drop i := by
  unfold insAt
  have hl : (l.take i).length = i := by rw [List.length_take]; omega
  rw [List.drop_append, List.drop_eq_nil_iff.2 (by omega), hl]
  simp
theorem insAt_at {α : Type} (l : List α) (i : Nat) (x : α) (h : i ≤ l.length) : (insAt l i x)[i]? = some x := by
  unfold insAt
  have hl : (l.take i).length = i := by rw [List.length_take]; omega
  rw [List.getElem?_append_right (by omega), hl]
  simp
/-- What insert leaves: at most one key too many here, all else in shape, in order, with the entry. -/
structure InsGood (h n : Nat) (t : BT h) (e : S29) : Prop where
  ge : n ≤ blen h (ins h t e).1
  le : blen h (ins h t e).1 ≤ 5
  kids : h = 0 ∨ bkids h (ins h t e).1 = blen h (ins h t e).1 + 1
  good : Insd e (flat h t) (flat h (ins h t e).1)
  fresh : (ins h t e).2 = true ↔ (e, true) ∉ flat h t
def KidsOk : (h : Nat) → BT h → Prop
  | 0, _ => True
  | h + 1, t => ∀ k ∈ t.2, Shape h 2 k
theorem shape_of {h n : Nat} {t : BT h} (h1 : n ≤ blen h t) (h2 : blen h t ≤ 4) (h3 : h = 0 ∨ bkids h t = blen h t + 1) (h4 : KidsOk h t) : Shape h n t := by
  cases h with
  | zero => exact ⟨h1, h2⟩
  | succ h => exact ⟨h1, h2, h3.resolve_left (by omega), h4⟩
theorem kidsOk_of {h n : Nat} {t : BT h} (hs : Shape h n t) : KidsOk h t := by
  cases h with
  | zero => trivial
  | succ h => exact hs.2.2.2
theorem five_parts (l : List S29) (h5 : l.length = 5) : (2 ≤ (l.take 2).length ∧ (l.take 2).length ≤ 4) ∧ (2 ≤ (l.drop 2).length ∧ (l.drop 2).length ≤ 4) := by
  rw [List.length_take, List.length_drop]
  omega
theorem leaf_len (l : List S29) (n : Nat) (e : S29) (h : n ≤ l.length) : n ≤ (if found l e = true then l else insAt l (low l e) e).length := by
  split
  · exact h
  · rw [insAt_len _ _ _ (low_le l e)]
    omega
theorem ents_mem (l : List S29) (e : S29) : (e, true) ∈ ents l ↔ e ∈ l := by simp [ents]
theorem leaf_fresh (l : List S29) (e : S29) (hs : Sorted l) : (!(found l e)) = true ↔ (e, true) ∉ ents l := by
  rw [ents_mem, ← found_mem l e hs]
  simp
theorem split_shape : ∀ (h : Nat) (t : BT h), blen h t = 5 → (h = 0 ∨ bkids h t = 6) → KidsOk h t → Shape h 2 (bsplit h t).2.1 ∧ Shape h 2 (bsplit h t).2.2
  | 0, t, h5, _, _ => five_parts t h5
  | h + 1, t, h5, h6, hk => by
    obtain ⟨ks, ts⟩ := t
    have h5 : ks.length = 5 := h5
    have h6 : ts.length = 6 := h6.resolve_left (by omega)
    have hk : ∀ k ∈ ts, Shape h 2 k := hk
    refine ⟨⟨?_, ?_, ?_, fun k hkk => hk k (List.mem_of_mem_take hkk)⟩, ⟨?_, ?_, ?_, fun k hkk => hk k (List.mem_of_mem_drop hkk)⟩⟩
    · show 2 ≤ (ks.take 2).length; rw [List.length_take]; omega
    · show (ks.take 2).length ≤ 4; rw [List.length_take]; omega
    · show (ts.take 3).length = (ks.take 2).length + 1; rw [List.length_take, List.length_take]; omega
    · show 2 ≤ (ks.drop 3).length; rw [List.length_drop]; omega
    · show (ks.drop 3).length ≤ 4; rw [List.length_drop]; omega
    · show (ts.drop 3).length = (ks.drop 3).length + 1; rw [List.length_drop, List.length_drop]; omega
theorem ins_good : ∀ (h n : Nat) (t : BT h) (e : S29), Shape h n t → Srt (flat h t) → InsGood h n t e ∧ KidsOk h (ins h t e).1
  | 0, n, t, e, hs, hr => by
    obtain ⟨q1, q2⟩ := leaf_ins t e (srt_keys hr)
    exact ⟨⟨leaf_len t n e hs.1, len0 t e hs.2, .inl rfl, q1, leaf_fresh t e (srt_keys hr)⟩, trivial⟩
  | h + 1, n, t, e, hs, hr => by
    obtain ⟨ks, ts⟩ := t
    obtain ⟨h1, h2, h3, h4⟩ := hs
    change n ≤ ks.length at h1
    change ks.length ≤ 4 at h2
    change ts.length = ks.length + 1 at h3
    change ∀ k ∈ ts, Shape h 2 k at h4
    obtain ⟨A, k, B, rfl, hA, hAB, hX, hY⟩ := at_kid e h3 hr
    have hrk := srt_kid h3 hr k (by simp)
    obtain ⟨ih, ihk⟩ := ins_good h 2 k e (h4 k (by simp)) hrk
    have hx : ins (h + 1) (ks, A ++ k :: B) e = _ := ins_at h ks A k B e hA
    have hfl : flat (h + 1) (ks, A ++ k :: B) = _ := flat_cut h ks A k B (by omega)
    have hr2 := hr
    rw [hfl] at hr2
    have hgood := Insd.ctx hr2 hX hY ih.good
    have hfresh : (ins h k e).2 = true ↔ (e, true) ∉ flat (h + 1) (ks, A ++ k :: B) := by
      rw [ih.fresh, hfl]
      simp only [List.mem_append, not_or]
      exact ⟨fun hh => ⟨fun h0 => ltI_irr _ (hX _ h0), hh, fun h0 => ltI_irr _ (hY _ h0)⟩, fun hh => hh.2.1⟩
    by_cases h5 : 4 < (bkeys h (ins h k e).1).length
    · rw [if_pos h5] at hx
      have hle := ih.le
      have h55 : blen h (ins h k e).1 = 5 := by unfold blen at hle ⊢; omega
      have h6 : h = 0 ∨ bkids h (ins h k e).1 = 6 := ih.kids.imp id (fun h7 => by rw [h7, h55])
      obtain ⟨s1, s2⟩ := split_shape h _ h55 h6 ihk
      have hsp := split_sam h _ h55 h6 ih.good.srt
      have hil : kidIx ks e ≤ ks.length := kidIx_le ks e
      have hf2 : flat (h + 1) (ins (h + 1) (ks, A ++ k :: B) e).1 = lpre (ks.take A.length) (A.map (flat h)) ++ ((flat h (bsplit h (ins h k e).1).2.1 ++ ((bsplit h (ins h k e).1).1, false) :: flat h (bsplit h (ins h k e).1).2.2) ++ lpost (ks.drop A.length) (B.map (flat h))) := by
        rw [hx]
        show flat (h + 1) (insAt ks (kidIx ks e) _, A ++ _ :: _ :: B) = _
        rw [flat_pair h _ A _ _ B (bsplit h (ins h k e).1).1 (by rw [hA, insAt_at _ _ _ hil]), hA, insAt_take _ _ _ hil, insAt_drop _ _ _ hil, List.append_assoc]
      refine ⟨⟨?_, ?_, .inr ?_, ?_, ?_⟩, ?_⟩
      · rw [hx]
        show n ≤ (insAt ks (kidIx ks e) _).length
        rw [insAt_len _ _ _ hil]; omega
      · rw [hx]
        show (insAt ks (kidIx ks e) _).length ≤ 5
        rw [insAt_len _ _ _ hil]; omega
      · rw [hx]
        show (A ++ _ :: _ :: B).length = (insAt ks (kidIx ks e) _).length + 1
        rw [insAt_len _ _ _ hil, List.length_append, List.length_cons, List.length_cons]; omega
      · rw [hf2, hfl]
        have hmid := hgood.srt
        exact hgood.then (Sam.ctx hmid hsp)
      · rw [hx]
        exact hfresh
      · rw [hx]
        intro k' hk'
        simp only [List.mem_append, List.mem_cons] at hk'
        rcases hk' with hk' | rfl | rfl | hk'
        · exact h4 k' (by simp [hk'])
        · exact s1
        · exact s2
        · exact h4 k' (by simp [hk'])
    · rw [if_neg h5] at hx
      have hf2 : flat (h + 1) (ins (h + 1) (ks, A ++ k :: B) e).1 = lpre (ks.take A.length) (A.map (flat h)) ++ (flat h (ins h k e).1 ++ lpost (ks.drop A.length) (B.map (flat h))) := by
        rw [hx]
        exact flat_cut h ks A _ B (by omega)
      refine ⟨⟨?_, ?_, .inr ?_, ?_, ?_⟩, ?_⟩
      · rw [hx]; exact h1
      · rw [hx]; exact (show ks.length ≤ 5 by omega)
      · rw [hx]
        show (A ++ _ :: B).length = ks.length + 1
        rw [List.length_append, List.length_cons]; omega
      · rw [hf2, hfl]
        exact hgood
      · rw [hx]
        exact hfresh
      · rw [hx]
        intro k' hk'
        simp only [List.mem_append, List.mem_cons] at hk'
        rcases hk' with hk' | rfl | hk'
        · exact h4 k' (by simp [hk'])
        · exact shape_of ih.ge (by unfold blen; omega) ih.kids ihk
        · exact h4 k' (by simp [hk'])
end Go.Proofs.Bt
end
section
/- Plain law: Insert and Delete at the root. -/
namespace Go.Proofs.Bt
open Go Go.RowKit Go.Proofs.Ytjaddmflopahiaa.Q
set_option linter.unusedVariables false
set_option linter.unusedSimpArgs false

/-- A tree in order. -/
structure TInv (h : Nat) (t : BT h) : Prop where
  shape : Shape h (if h = 0 then 0 else 1) t
  srt : Srt (flat h t)
theorem leaf_same (l : List S29) (e : S29) (h : (!(found l e)) = false) : (if found l e = true then l else insAt l (low l e) e) = l := by
  have hf : found l e = true := by simpa using h
  rw [if_pos hf]
theorem ins_same : ∀ (h n : Nat) (t : BT h) (e : S29), Shape h n t → Srt (flat h t) → (ins h t e).2 = false → (ins h t e).1 = t
  | 0, n, t, e, hs, hr, hf => leaf_same t e hf
  | h + 1, n, t, e, hs, hr, hf => by
    obtain ⟨ks, ts⟩ := t
    obtain ⟨h1, h2, h3, h4⟩ := hs
    change ts.length = ks.length + 1 at h3
    change ∀ k ∈ ts, Shape h 2 k at h4
    obtain ⟨A, k, B, rfl, hA, hAB, hX, hY⟩ := at_kid e h3 hr
    have hx : ins (h + 1) (ks, A ++ k :: B) e = _ := ins_at h ks A k B e hA
    have hk : (ins h k e).2 = false := by
      rw [hx] at hf
      split at hf <;> exact hf
    have ih := ins_same h 2 k e (h4 k (by simp)) (srt_kid h3 hr k (by simp)) hk
    have hle := (h4 k (by simp)).le
    rw [hx, ih, if_neg (by unfold blen at hle; omega)]
theorem one_keys (h : Nat) (x : S29) (l r : BT h) : flat (h + 1) ([x], [l, r]) = flat h l ++ (x, false) :: flat h r := by
  show il [x] [flat h l, flat h r] = _
  rw [il_cons]
  simp [il, lpost]
theorem tins_good (h : Nat) (t : BT h) (e : S29) (hi : TInv h t) : TInv (tins h t e).1.1 (tins h t e).1.2 ∧ Insd e (flat h t) (flat (tins h t e).1.1 (tins h t e).1.2) ∧ ((tins h t e).2 = true ↔ (e, true) ∉ flat h t) := by
  obtain ⟨g, gk⟩ := ins_good h _ t e hi.shape hi.srt
  by_cases hc : (ins h t e).2 = true ∧ 4 < (bkeys h (ins h t e).1).length
  · have ht : tins h t e = (⟨h + 1, ([(bsplit h (ins h t e).1).1], [(bsplit h (ins h t e).1).2.1, (bsplit h (ins h t e).1).2.2])⟩, (ins h t e).2) := by
      unfold tins
      rw [if_pos hc]
    have hle := g.le
    have h55 : blen h (ins h t e).1 = 5 := by have := hc.2; unfold blen at hle ⊢; omega
    have h6 : h = 0 ∨ bkids h (ins h t e).1 = 6 := g.kids.imp id (fun h7 => by rw [h7, h55])
    obtain ⟨s1, s2⟩ := split_shape h _ h55 h6 gk
    have hsp := split_sam h _ h55 h6 g.good.srt
    have hfl := one_keys h (bsplit h (ins h t e).1).1 (bsplit h (ins h t e).1).2.1 (bsplit h (ins h t e).1).2.2
    rw [ht]
    refine ⟨⟨⟨?_, ?_, rfl, ?_⟩, ?_⟩, ?_, g.fresh⟩
    · simp
    · simp
    · intro k hk
      simp at hk
      rcases hk with rfl | rfl
      · exact s1
      · exact s2
    · rw [hfl]
      exact hsp.srt
    · rw [hfl]
      exact g.good.then hsp
  · have ht : tins h t e = (⟨h, (ins h t e).1⟩, (ins h t e).2) := by
      unfold tins
      rw [if_neg hc]
    rw [ht]
    refine ⟨⟨shape_of g.ge ?_ g.kids gk, g.good.srt⟩, g.good, g.fresh⟩
    cases hf : (ins h t e).2 with
    | true =>
      have : ¬ 4 < (bkeys h (ins h t e).1).length := fun h4 => hc ⟨hf, h4⟩
      show (bkeys h (ins h t e).1).length ≤ 4
      omega
    | false =>
      rw [ins_same h _ t e hi.shape hi.srt hf]
      exact hi.shape.le
/-! ### delete -/
theorem leaf_del (l : List S29) (e : S29) (hs : Sorted l) : Deld e (ents l) (ents (if found l e = true then delAt l (low l e) else l)) := by
  have hfm := found_mem l e hs
  by_cases hf : found l e = true
  · rw [if_pos hf]
    have hl := found_lt hf
    have he : l[low l e] = e := by
      unfold found at hf
      rw [dif_pos hl, decide_eq_true_eq, ord_zero] at hf
      exact hf
    have hsub : (delAt l (low l e)).Sublist l := by
      unfold delAt
      conv => rhs; rw [← List.take_append_drop (low l e) l]
      exact List.Sublist.append_left (List.drop_sublist_drop_left l (Nat.le_succ _)) _
    have hmem : ∀ z, z ∈ delAt l (low l e) ↔ z ≠ e ∧ z ∈ l := fun z => by
      have hl2 : l = l.take (low l e) ++ e :: l.drop (low l e + 1) := by
        conv => lhs; rw [← List.take_append_drop (low l e) l, List.drop_eq_getElem_cons hl, he]
      have hp : (l.take (low l e) ++ e :: l.drop (low l e + 1)).Pairwise ltE := by rw [← hl2]; exact hs
      obtain ⟨p1, p2, p3⟩ := List.pairwise_append.1 hp
      obtain ⟨p4, p5⟩ := List.pairwise_cons.1 p2
      constructor
      · intro hz
        refine ⟨fun e0 => ?_, hsub.subset hz⟩
        subst e0
        unfold delAt at hz
        rcases List.mem_append.1 hz with hz | hz
        · exact ltE_irr _ (p3 z hz z (by simp))
        · exact ltE_irr _ (p4 z hz)
      · rintro ⟨h0, hz⟩
        rw [hl2] at hz
        unfold delAt
        rcases List.mem_append.1 hz with hz | hz
        · exact List.mem_append_left _ hz
        · rcases List.mem_cons.1 hz with hz | hz
          · exact absurd hz h0
          · exact List.mem_append_right _ hz
    have hsubE : ∀ y, y ∈ ents (delAt l (low l e)) → y ∈ ents l := fun y hy => by
      obtain ⟨z, hz, rfl⟩ := List.mem_map.1 hy
      exact List.mem_map_of_mem (hsub.subset hz)
    refine ⟨srt_of_keys (hs.sublist hsub), fun x hx y hy => hx y (hsubE y hy), fun x hx y hy => hx y (hsubE y hy), fun z => ?_⟩
    rw [ents_mem, ents_mem]
    exact hmem z
  · rw [if_neg hf]
    refine ⟨srt_of_keys hs, fun x hx => hx, fun x hx => hx, fun z => ?_⟩
    rw [ents_mem]
    exact ⟨fun hz => ⟨fun e0 => hf (hfm.2 (e0 ▸ hz)), hz⟩, fun hz => hz.2⟩
theorem getLast_ne {α : Type} {l : List α} (h : 0 < l.length) : l ≠ [] := by rintro rfl; simp at h
theorem snoc_cases {α : Type} (l : List α) (h : 0 < l.length) : ∃ l' x, l = l' ++ [x] := ⟨l.dropLast, l.getLast (getLast_ne h), (List.dropLast_concat_getLast (getLast_ne h)).symm⟩
theorem cons_cases' {α : Type} (l : List α) (h : 0 < l.length) : ∃ x l', l = x :: l' := by
  match l, h with
  | x :: l', _ => exact ⟨x, l', rfl⟩
theorem bleft_leaf_sam (a b : List S29) (z : S29) (ha : 2 < a.length) (hs : Srt (ents a ++ (z, false) :: ents b)) : Sam (ents a ++ (z, false) :: ents b) (ents a.dropLast ++ (a.getLastD z29, false) :: ents (a.getLastD z29 :: b)) := by
  obtain ⟨a', x, rfl⟩ := snoc_cases a (by omega)
  have e1 : (a' ++ [x]).dropLast = a' := by simp
  have e2 : (a' ++ [x]).getLastD z29 = x := by simp
  rw [e1, e2]
  have h1 := del_sep hs
  have hx : ents (a' ++ [x]) ++ ents b = ents a' ++ (x, true) :: ents b := by simp [ents]
  rw [hx] at h1
  have h2 := ins_sep (X := ents a') (c := x) (Y := ents b) (by
    have : 0 < a'.length := by rw [List.length_append] at ha; simp at ha; omega
    intro e
    rw [ents, List.map_eq_nil_iff] at e
    rw [e] at this
    simp at this) ents_true h1.srt
  exact ⟨h2.srt, fun u hu => h2.lo u (h1.lo u hu), fun u hu => h2.hi u (h1.hi u hu), fun u => (h2.mem u).trans (h1.mem u)⟩
theorem bright_leaf_sam (a b : List S29) (z : S29) (hb : 2 < b.length) (hs : Srt (ents a ++ (z, false) :: ents b)) : Sam (ents a ++ (z, false) :: ents b) (ents (a ++ [b.getD 0 z29]) ++ (b.getD 1 z29, false) :: ents b.tail) := by
  obtain ⟨x, b1, rfl⟩ := cons_cases' b (by omega)
  obtain ⟨y, b2, rfl⟩ := cons_cases' b1 (by rw [List.length_cons] at hb; omega)
  show Sam _ (ents (a ++ [x]) ++ (y, false) :: ents (y :: b2))
  have h1 := del_sep hs
  have hx : ents a ++ ents (x :: y :: b2) = ents (a ++ [x]) ++ (y, true) :: ents b2 := by simp [ents]
  rw [hx] at h1
  have h2 := ins_sep (X := ents (a ++ [x])) (c := y) (Y := ents b2) (by simp [ents]) ents_true h1.srt
  exact ⟨h2.srt, fun u hu => h2.lo u (h1.lo u hu), fun u hu => h2.hi u (h1.hi u hu), fun u => (h2.mem u).trans (h1.mem u)⟩
/-- A kid's neighbours' moves: the row of items is the same but for separators. -/
theorem bleft_sam : ∀ (h : Nat) (a b : BT h) (z : S29), 2 < blen h a → (h = 0 ∨ bkids h a = blen h a + 1) → (h = 0 ∨ bkids h b = blen h b + 1) → Srt (flat h a ++ (z, false) :: flat h b) →
    Sam (flat h a ++ (z, false) :: flat h b) (flat h (bleft h a b z).2.1 ++ ((bleft h a b z).1, false) :: flat h (bleft h a b z).2.2)
  | 0, a, b, z, ha, _, _, hs => bleft_leaf_sam a b z ha hs
  | h + 1, a, b, z, ha, ha2, hb2, hs => by
    obtain ⟨ka, la⟩ := a
    obtain ⟨kb, lb⟩ := b
    have ha : 2 < ka.length := ha
    have ha2 : la.length = ka.length + 1 := ha2.resolve_left (by omega)
    have hb2 : lb.length = kb.length + 1 := hb2.resolve_left (by omega)
    obtain ⟨ka, x, rfl⟩ := snoc_cases ka (by omega)
    obtain ⟨la, q, rfl⟩ := snoc_cases la (by omega)
    rw [List.length_append, List.length_append] at ha2
    simp at ha2
    have hlb : lb ≠ [] := getLast_ne (by omega)
    have e1 : (bleft (h + 1) (ka ++ [x], la ++ [q]) (kb, lb) z) = (x, (ka, la), (z :: kb, q :: lb)) := by
      show (List.getLastD (ka ++ [x]) z29, (List.dropLast (ka ++ [x]), List.dropLast (la ++ [q])), (z :: kb, (la ++ [q]).getLast?.toList ++ lb)) = _
      simp
    rw [e1]
    have f1 : flat (h + 1) (ka ++ [x], la ++ [q]) = flat (h + 1) (ka, la) ++ (x, false) :: flat h q := by
      rw [flat_app h ka x [] la [q] (by omega) (by simp)]
      simp [flat, il, lpost]
    have f2 : flat (h + 1) (z :: kb, q :: lb) = flat h q ++ (z, false) :: flat (h + 1) (kb, lb) := by
      have := flat_app h [] z kb [q] lb rfl hlb
      rw [show ([] : List S29) ++ z :: kb = z :: kb from rfl, show [q] ++ lb = q :: lb from rfl] at this
      rw [this]
      simp [flat, il, lpost]
    show Sam (flat (h + 1) (ka ++ [x], la ++ [q]) ++ (z, false) :: flat (h + 1) (kb, lb)) (flat (h + 1) (ka, la) ++ (x, false) :: flat (h + 1) (z :: kb, q :: lb))
    have e : flat (h + 1) (ka ++ [x], la ++ [q]) ++ (z, false) :: flat (h + 1) (kb, lb) = flat (h + 1) (ka, la) ++ (x, false) :: flat (h + 1) (z :: kb, q :: lb) := by
      rw [f1, f2]
      simp
    rw [← e]
    exact Sam.refl hs
theorem bright_sam : ∀ (h : Nat) (a b : BT h) (z : S29), 2 < blen h b → (h = 0 ∨ bkids h a = blen h a + 1) → (h = 0 ∨ bkids h b = blen h b + 1) → Srt (flat h a ++ (z, false) :: flat h b) →
    Sam (flat h a ++ (z, false) :: flat h b) (flat h (bright h a b z).2.1 ++ ((bright h a b z).1, false) :: flat h (bright h a b z).2.2)
  | 0, a, b, z, hb, _, _, hs => bright_leaf_sam a b z hb hs
  | h + 1, a, b, z, hb, ha2, hb2, hs => by
    obtain ⟨ka, la⟩ := a
    obtain ⟨kb, lb⟩ := b
    have hb : 2 < kb.length := hb
    have ha2 : la.length = ka.length + 1 := ha2.resolve_left (by omega)
    have hb2 : lb.length = kb.length + 1 := hb2.resolve_left (by omega)
    obtain ⟨x, kb, rfl⟩ := cons_cases' kb (by omega)
    obtain ⟨q, lb, rfl⟩ := cons_cases' lb (by omega)
    rw [List.length_cons, List.length_cons] at hb2
    have hlb : lb ≠ [] := getLast_ne (by omega)
    have e1 : (bright (h + 1) (ka, la) (x :: kb, q :: lb) z) = (x, (ka ++ [z], la ++ [q]), (kb, lb)) := rfl
    rw [e1]
    have f1 : flat (h + 1) (ka ++ [z], la ++ [q]) = flat (h + 1) (ka, la) ++ (z, false) :: flat h q := by
      rw [flat_app h ka z [] la [q] (by omega) (by simp)]
      simp [flat, il, lpost]
    have f2 : flat (h + 1) (x :: kb, q :: lb) = flat h q ++ (x, false) :: flat (h + 1) (kb, lb) := by
      have := flat_app h [] x kb [q] lb rfl hlb
      rw [show ([] : List S29) ++ x :: kb = x :: kb from rfl, show [q] ++ lb = q :: lb from rfl] at this
      rw [this]
      simp [flat, il, lpost]
    show Sam (flat (h + 1) (ka, la) ++ (z, false) :: flat (h + 1) (x :: kb, q :: lb)) (flat (h + 1) (ka ++ [z], la ++ [q]) ++ (x, false) :: flat (h + 1) (kb, lb))
    have e : flat (h + 1) (ka, la) ++ (z, false) :: flat (h + 1) (x :: kb, q :: lb) = flat (h + 1) (ka ++ [z], la ++ [q]) ++ (x, false) :: flat (h + 1) (kb, lb) := by
      rw [f1, f2]
      simp
    rw [← e]
    exact Sam.refl hs
theorem bjoin_sam : ∀ (h : Nat) (a b : BT h) (z : S29), (h = 0 ∨ bkids h a = blen h a + 1) → (h = 0 ∨ bkids h b = blen h b + 1) → Srt (flat h a ++ (z, false) :: flat h b) →
    Sam (flat h a ++ (z, false) :: flat h b) (flat h (bjoin h a b z))
  | 0, a, b, z, _, _, hs => by
    have h1 := del_sep hs
    have : flat 0 (bjoin 0 a b z) = flat 0 a ++ flat 0 b := ents_app a b
    rw [this]
    exact h1
  | h + 1, a, b, z, ha2, hb2, hs => by
    obtain ⟨ka, la⟩ := a
    obtain ⟨kb, lb⟩ := b
    have ha2 : la.length = ka.length + 1 := ha2.resolve_left (by omega)
    have hb2 : lb.length = kb.length + 1 := hb2.resolve_left (by omega)
    have e : flat (h + 1) (bjoin (h + 1) (ka, la) (kb, lb) z) = flat (h + 1) (ka, la) ++ (z, false) :: flat (h + 1) (kb, lb) := by
      show flat (h + 1) (ka ++ [z] ++ kb, la ++ lb) = _
      rw [show ka ++ [z] ++ kb = ka ++ z :: kb by simp]
      exact flat_app h ka z kb la lb ha2 (getLast_ne (by omega))
    rw [e]
    exact Sam.refl hs
end Go.Proofs.Bt
end
section
/- Plain law: what delete makes of a tree in order. -/
namespace Go.Proofs.Bt
open Go Go.RowKit Go.Proofs.Ytjaddmflopahiaa.Q
set_option linter.unusedVariables false
set_option linter.unusedSimpArgs false

theorem bleft_len (a b : List S29) (ha : 2 < a.length) (ha4 : a.length ≤ 4) (hb : b.length = 1) : (2 ≤ a.dropLast.length ∧ a.dropLast.length ≤ 4) ∧ (2 ≤ (a.getLastD z29 :: b).length ∧ (a.getLastD z29 :: b).length ≤ 4) := by
  rw [List.length_dropLast, List.length_cons]
  omega
theorem bright_len (a b : List S29) (ha : a.length = 1) (hb : 2 < b.length) (hb4 : b.length ≤ 4) : (2 ≤ (a ++ [b.getD 0 z29]).length ∧ (a ++ [b.getD 0 z29]).length ≤ 4) ∧ (2 ≤ b.tail.length ∧ b.tail.length ≤ 4) := by
  rw [List.length_tail, List.length_append, List.length_singleton]
  omega
theorem bleft_shape : ∀ (h : Nat) (a b : BT h) (z : S29), 2 < blen h a → blen h a ≤ 4 → (h = 0 ∨ bkids h a = blen h a + 1) → KidsOk h a → blen h b = 1 → (h = 0 ∨ bkids h b = blen h b + 1) → KidsOk h b → Shape h 2 (bleft h a b z).2.1 ∧ Shape h 2 (bleft h a b z).2.2
  | 0, a, b, z, h1, h2, _, _, h3, _, _ => bleft_len a b h1 h2 h3
  | h + 1, a, b, z, h1, h2, h3, h4, h5, h6, h7 => by
    obtain ⟨ka, la⟩ := a
    obtain ⟨kb, lb⟩ := b
    have h1 : 2 < ka.length := h1
    have h2 : ka.length ≤ 4 := h2
    have h3 : la.length = ka.length + 1 := h3.resolve_left (by omega)
    have h4 : ∀ k ∈ la, Shape h 2 k := h4
    have h5 : kb.length = 1 := h5
    have h6 : lb.length = kb.length + 1 := h6.resolve_left (by omega)
    have h7 : ∀ k ∈ lb, Shape h 2 k := h7
    obtain ⟨la, q, rfl⟩ := snoc_cases la (by omega)
    have e1 : (bleft (h + 1) (ka, la ++ [q]) (kb, lb) z) = (ka.getLastD z29, (ka.dropLast, la), (z :: kb, q :: lb)) := by
      show (ka.getLastD z29, (ka.dropLast, List.dropLast (la ++ [q])), (z :: kb, (la ++ [q]).getLast?.toList ++ lb)) = _
      simp
    rw [e1]
    rw [List.length_append, List.length_singleton] at h3
    refine ⟨⟨?_, ?_, ?_, fun k hk => h4 k (List.mem_append_left _ hk)⟩, ⟨?_, ?_, ?_, fun k hk => ?_⟩⟩
    · show 2 ≤ ka.dropLast.length; rw [List.length_dropLast]; omega
    · show ka.dropLast.length ≤ 4; rw [List.length_dropLast]; omega
    · show la.length = ka.dropLast.length + 1; rw [List.length_dropLast]; omega
    · show 2 ≤ (z :: kb).length; rw [List.length_cons]; omega
    · show (z :: kb).length ≤ 4; rw [List.length_cons]; omega
    · show (q :: lb).length = (z :: kb).length + 1; rw [List.length_cons, List.length_cons]; omega
    · rcases List.mem_cons.1 hk with rfl | hk
      · exact h4 _ (by simp)
      · exact h7 k hk
theorem bright_shape : ∀ (h : Nat) (a b : BT h) (z : S29), blen h a = 1 → (h = 0 ∨ bkids h a = blen h a + 1) → KidsOk h a → 2 < blen h b → blen h b ≤ 4 → (h = 0 ∨ bkids h b = blen h b + 1) → KidsOk h b → Shape h 2 (bright h a b z).2.1 ∧ Shape h 2 (bright h a b z).2.2
  | 0, a, b, z, h1, _, _, h2, h3, _, _ => bright_len a b h1 h2 h3
  | h + 1, a, b, z, h5, h6, h7, h1, h2, h3, h4 => by
    obtain ⟨ka, la⟩ := a
    obtain ⟨kb, lb⟩ := b
    have h1 : 2 < kb.length := h1
    have h2 : kb.length ≤ 4 := h2
    have h3 : lb.length = kb.length + 1 := h3.resolve_left (by omega)
    have h4 : ∀ k ∈ lb, Shape h 2 k := h4
    have h5 : ka.length = 1 := h5
    have h6 : la.length = ka.length + 1 := h6.resolve_left (by omega)
    have h7 : ∀ k ∈ la, Shape h 2 k := h7
    obtain ⟨q, lb, rfl⟩ := cons_cases' lb (by omega)
    have e1 : (bright (h + 1) (ka, la) (kb, q :: lb) z) = (kb.getD 0 z29, (ka ++ [z], la ++ [q]), (kb.tail, lb)) := rfl
    rw [e1]
    rw [List.length_cons] at h3
    refine ⟨⟨?_, ?_, ?_, fun k hk => ?_⟩, ⟨?_, ?_, ?_, fun k hk => h4 k (List.mem_cons_of_mem _ hk)⟩⟩
    · show 2 ≤ (ka ++ [z]).length; rw [List.length_append, List.length_singleton]; omega
    · show (ka ++ [z]).length ≤ 4; rw [List.length_append, List.length_singleton]; omega
    · show (la ++ [q]).length = (ka ++ [z]).length + 1; rw [List.length_append, List.length_append, List.length_singleton, List.length_singleton]; omega
    · rcases List.mem_append.1 hk with hk | hk
      · exact h7 k hk
      · simp at hk
        subst hk
        exact h4 _ (by simp)
    · show 2 ≤ kb.tail.length; rw [List.length_tail]; omega
    · show kb.tail.length ≤ 4; rw [List.length_tail]; omega
    · show lb.length = kb.tail.length + 1; rw [List.length_tail]; omega
theorem bjoin_shape : ∀ (h : Nat) (a b : BT h) (z : S29), blen h a + blen h b = 3 → (h = 0 ∨ bkids h a = blen h a + 1) → KidsOk h a → (h = 0 ∨ bkids h b = blen h b + 1) → KidsOk h b → Shape h 2 (bjoin h a b z)
  | 0, a, b, z, h1, _, _, _, _ => by
    have h1 : List.length (α := S29) a + List.length (α := S29) b = 3 := h1
    have e : blen 0 (bjoin 0 a b z) = List.length (α := S29) a + List.length (α := S29) b := List.length_append
    exact ⟨by show 2 ≤ blen 0 (bjoin 0 a b z); rw [e]; omega, by show blen 0 (bjoin 0 a b z) ≤ 4; rw [e]; omega⟩
  | h + 1, a, b, z, h1, h2, h3, h4, h5 => by
    obtain ⟨ka, la⟩ := a
    obtain ⟨kb, lb⟩ := b
    have h1 : ka.length + kb.length = 3 := h1
    have h2 : la.length = ka.length + 1 := h2.resolve_left (by omega)
    have h3 : ∀ k ∈ la, Shape h 2 k := h3
    have h4 : lb.length = kb.length + 1 := h4.resolve_left (by omega)
    have h5 : ∀ k ∈ lb, Shape h 2 k := h5
    refine ⟨?_, ?_, ?_, fun k hk => (List.mem_append.1 hk).elim (h3 k) (h5 k)⟩
    · show 2 ≤ (ka ++ [z] ++ kb).length; simp; omega
    · show (ka ++ [z] ++ kb).length ≤ 4; simp; omega
    · show (la ++ lb).length = (ka ++ [z] ++ kb).length + 1; simp; omega
theorem delAt_take {α : Type} (l : List α) (i : Nat) (h : i ≤ l.length) : (delAt l i).take i = l.take i := by
  unfold delAt
  rw [List.take_append_of_le_length (by rw [List.length_take]; omega), List.take_take, Nat.min_self]
theorem delAt_drop {α : Type} (l : List α) (i : Nat) (h : i ≤ l.length) : (delAt l i).drop i = l.drop (i + 1) := by
  unfold delAt
  have hl : (l.take i).length = i := by rw [List.length_take]; omega
  rw [List.drop_append, List.drop_eq_nil_iff.2 (by omega), hl]
  simp
theorem set_at {α : Type} (l : List α) (i : Nat) (x : α) (h : i < l.length) : (l.set i x)[i]? = some x := by
  rw [List.getElem?_set_self h]
theorem set_take {α : Type} (l : List α) (i : Nat) (x : α) : (l.set i x).take i = l.take i := by
  rw [List.take_set_of_le (Nat.le_refl i)]
theorem set_drop {α : Type} (l : List α) (i : Nat) (x : α) : (l.set i x).drop (i + 1) = l.drop (i + 1) := by
  rw [List.drop_set_of_lt (Nat.lt_succ_self i)]
theorem getD_some {ks : List S29} {i : Nat} (hi : i < ks.length) : ks[i]? = some (ks.getD i z29) := by
  rw [List.getD_eq_getElem?_getD, List.getElem?_eq_getElem hi]
  rfl
/-- One pair of neighbours is moved: the whole row of items. -/
theorem pair_moved {h : Nat} {ks : List S29} {X : List (BT h)} {l c : BT h} {Y : List (BT h)} {r : S29} {l' c' : BT h} (hi : X.length < ks.length) (hs : Srt (flat (h + 1) (ks, X ++ l :: c :: Y)))
    (k : Srt (flat h l ++ (ks.getD X.length z29, false) :: flat h c) → Sam (flat h l ++ (ks.getD X.length z29, false) :: flat h c) (flat h l' ++ (r, false) :: flat h c')) :
    Sam (flat (h + 1) (ks, X ++ l :: c :: Y)) (flat (h + 1) (ks.set X.length r, X ++ l' :: c' :: Y)) := by
  have e1 := (flat_pair h ks X l c Y _ (getD_some hi)).trans (List.append_assoc _ _ _)
  have e2 := flat_pair h (ks.set X.length r) X l' c' Y r (set_at _ _ _ hi)
  rw [set_take, set_drop] at e2
  have e2 := e2.trans (List.append_assoc _ _ _)
  rw [e1] at hs
  rw [e1, e2]
  exact Sam.ctx hs (k (srt_mid.1 hs).2.1)
theorem pair_joined {h : Nat} {ks : List S29} {X : List (BT h)} {l c : BT h} {Y : List (BT h)} {j : BT h} (hi : X.length < ks.length) (hs : Srt (flat (h + 1) (ks, X ++ l :: c :: Y)))
    (k : Srt (flat h l ++ (ks.getD X.length z29, false) :: flat h c) → Sam (flat h l ++ (ks.getD X.length z29, false) :: flat h c) (flat h j)) :
    Sam (flat (h + 1) (ks, X ++ l :: c :: Y)) (flat (h + 1) (delAt ks X.length, X ++ j :: Y)) := by
  have e1 := (flat_pair h ks X l c Y _ (getD_some hi)).trans (List.append_assoc _ _ _)
  have e2 := flat_cut h (delAt ks X.length) X j Y (by rw [delAt_len _ _ hi]; omega)
  rw [delAt_take _ _ (by omega), delAt_drop _ _ (by omega)] at e2
  rw [e1] at hs
  rw [e1, e2]
  exact Sam.ctx hs (k (srt_mid.1 hs).2.1)
theorem Shape.kids {h n : Nat} {t : BT h} (hs : Shape h n t) : h = 0 ∨ bkids h t = blen h t + 1 := by
  cases h with
  | zero => exact .inl rfl
  | succ h => exact .inr hs.2.2.1
theorem bmend_good (h : Nat) (ks : List S29) (A : List (BT h)) (c : BT h) (B : List (BT h)) (hl : A.length + B.length = ks.length) (h1 : 1 ≤ ks.length) (hA : ∀ k ∈ A, Shape h 2 k) (hB : ∀ k ∈ B, Shape h 2 k) (hc1 : 1 ≤ blen h c) (hc4 : blen h c ≤ 4) (hck : h = 0 ∨ bkids h c = blen h c + 1) (hcc : KidsOk h c)
    (hs : Srt (flat (h + 1) (ks, A ++ c :: B))) : Sam (flat (h + 1) (ks, A ++ c :: B)) (flat (h + 1) (bmend h ks A c B)) ∧ ∀ k ∈ (bmend h ks A c B).2, Shape h 2 k := by
  unfold bmend
  by_cases hc : 2 ≤ blen h c
  · rw [if_pos hc]
    refine ⟨Sam.refl hs, fun k hk => ?_⟩
    simp only [List.mem_append, List.mem_cons] at hk
    rcases hk with hk | rfl | hk
    · exact hA k hk
    · exact shape_of hc hc4 hck hcc
    · exact hB k hk
  · rw [if_neg hc]
    have hce : blen h c = 1 := by omega
    rcases List.eq_nil_or_concat A with rfl | ⟨X, l, hAl⟩
    · simp only [List.getLast?_nil]
      obtain ⟨r, B', rfl⟩ := cons_cases' B (by simp at hl; omega)
      have hsr := hB r (by simp)
      have hB' : ∀ k ∈ B', Shape h 2 k := fun k hk => hB k (by simp [hk])
      by_cases hr : 2 < blen h r
      · simp only [if_pos hr]
        obtain ⟨s1, s2⟩ := bright_shape h c r (ks.getD 0 z29) hce hck hcc hr hsr.le hsr.kids (kidsOk_of hsr)
        refine ⟨pair_moved (X := []) (by simp; omega) hs (bright_sam h c r _ hr hck hsr.kids), fun k hk => ?_⟩
        simp only [List.mem_cons] at hk
        rcases hk with rfl | rfl | hk
        · exact s1
        · exact s2
        · exact hB' k hk
      · simp only [if_neg hr]
        have s1 := bjoin_shape h c r (ks.getD 0 z29) (by have := hsr.ge; omega) hck hcc hsr.kids (kidsOk_of hsr)
        refine ⟨pair_joined (X := []) (by simp; omega) hs (bjoin_sam h c r _ hck hsr.kids), fun k hk => ?_⟩
        simp only [List.mem_cons] at hk
        rcases hk with rfl | hk
        · exact s1
        · exact hB' k hk
    · have hAl : A = X ++ [l] := by simpa using hAl
      subst hAl
      have hgl : (X ++ [l]).getLast? = some l := by simp
      have hdl : (X ++ [l]).dropLast = X := by simp
      have hll : (X ++ [l]).length = X.length + 1 := by simp
      have hXl : X ++ [l] ++ c :: B = X ++ l :: c :: B := by simp
      have e0 : X.length + 1 - 1 = X.length := by omega
      have hsl := hA l (by simp)
      have hX : ∀ k ∈ X, Shape h 2 k := fun k hk => hA k (by simp [hk])
      simp only [hgl, hll, hdl, e0]
      rw [hll] at hl
      by_cases hl2 : 2 < blen h l
      · simp only [if_pos hl2]
        obtain ⟨s1, s2⟩ := bleft_shape h l c (ks.getD X.length z29) hl2 hsl.le hsl.kids (kidsOk_of hsl) hce hck hcc
        rw [hXl] at hs ⊢
        refine ⟨pair_moved (by omega) hs (bleft_sam h l c _ hl2 hsl.kids hck), fun k hk => ?_⟩
        simp only [List.mem_append, List.mem_cons] at hk
        rcases hk with hk | rfl | rfl | hk
        · exact hX k hk
        · exact s1
        · exact s2
        · exact hB k hk
      · simp only [if_neg hl2]
        have sj := bjoin_shape h l c (ks.getD X.length z29) (by have := hsl.ge; omega) hsl.kids (kidsOk_of hsl) hck hcc
        cases B with
        | nil =>
          simp only
          rw [hXl] at hs ⊢
          refine ⟨pair_joined (by omega) hs (bjoin_sam h l c _ hsl.kids hck), fun k hk => ?_⟩
          simp only [List.mem_append, List.mem_cons, List.not_mem_nil, or_false] at hk
          rcases hk with hk | rfl
          · exact hX k hk
          · exact sj
        | cons r B' =>
          rw [List.length_cons] at hl
          have hsr := hB r (by simp)
          have hB' : ∀ k ∈ B', Shape h 2 k := fun k hk => hB k (by simp [hk])
          by_cases hr : 2 < blen h r
          · simp only [if_pos hr]
            obtain ⟨s1, s2⟩ := bright_shape h c r (ks.getD (X.length + 1) z29) hce hck hcc hr hsr.le hsr.kids (kidsOk_of hsr)
            refine ⟨?_, fun k hk => ?_⟩
            · have hpm := pair_moved (X := X ++ [l]) (l := c) (c := r) (Y := B') (r := (bright h c r (ks.getD (X.length + 1) z29)).1) (l' := (bright h c r (ks.getD (X.length + 1) z29)).2.1) (c' := (bright h c r (ks.getD (X.length + 1) z29)).2.2) (by rw [hll]; omega) hs
                (by rw [hll]; exact bright_sam h c r _ hr hck hsr.kids)
              rw [hll] at hpm
              exact hpm
            · simp only [List.mem_append, List.mem_cons, List.not_mem_nil, or_false] at hk
              rcases hk with (hk | rfl) | rfl | rfl | hk
              · exact hX k hk
              · exact hsl
              · exact s1
              · exact s2
              · exact hB' k hk
          · simp only [if_neg hr]
            rw [hXl] at hs ⊢
            refine ⟨pair_joined (by omega) hs (bjoin_sam h l c _ hsl.kids hck), fun k hk => ?_⟩
            simp only [List.mem_append, List.mem_cons] at hk
            rcases hk with hk | rfl | rfl | hk
            · exact hX k hk
            · exact sj
            · exact hsr
            · exact hB' k hk
theorem leaf_found (l : List S29) (e : S29) (hs : Sorted l) : found l e = true ↔ (e, true) ∈ ents l := by
  rw [ents_mem, ← found_mem l e hs]
theorem bcut_good : ∀ (h n : Nat) (t : BT h) (e : S29), Shape h n t → (h = 0 ∨ 1 ≤ n) → Srt (flat h t) → Deld e (flat h t) (flat h (bcut h t e).1) ∧ KidsOk h (bcut h t e).1 ∧ ((bcut h t e).2 = true ↔ (e, true) ∈ flat h t)
  | 0, n, t, e, hs, _, hr => by
    exact ⟨leaf_del t e (srt_keys hr), trivial, leaf_found t e (srt_keys hr)⟩
  | h + 1, n, t, e, hs, hn, hr => by
    have hcf := cutfit_of (h + 1) n t e hs hn hr
    obtain ⟨ks, ts⟩ := t
    obtain ⟨h1, h2, h3, h4⟩ := hs
    change n ≤ ks.length at h1
    change ks.length ≤ 4 at h2
    change ts.length = ks.length + 1 at h3
    change ∀ k ∈ ts, Shape h 2 k at h4
    obtain ⟨A, k, B, rfl, hA, hAB, hX, hY⟩ := at_kid e h3 hr
    have hrk := srt_kid h3 hr k (by simp)
    have hsk := h4 k (by simp)
    obtain ⟨g1, g2, g3⟩ := bcut_good h 2 k e hsk (.inr (by decide)) hrk
    have hx : bcut (h + 1) (ks, A ++ k :: B) e = _ := bcut_at h ks A k B e hA
    have hfl : flat (h + 1) (ks, A ++ k :: B) = _ := flat_cut h ks A k B (by omega)
    have hr2 := hr
    rw [hfl] at hr2
    have hdel := Deld.ctx hr2 hX hY g1
    have hfl2 : flat (h + 1) (ks, A ++ (bcut h k e).1 :: B) = _ := flat_cut h ks A (bcut h k e).1 B (by omega)
    have hbs := bcut_shape h k e (cutfit_of h 2 k e hsk (.inr (by decide)) hrk)
    have hm := bmend_good h ks A (bcut h k e).1 B hAB (by omega) (fun x hxm => h4 x (by simp [hxm])) (fun x hxm => h4 x (by simp [hxm])) (by have := hsk.ge; omega) (by have := hsk.le; omega) hbs.2.2 g2 (by rw [hfl2]; exact hdel.srt)
    rw [hx]
    refine ⟨?_, hm.2, ?_⟩
    · rw [hfl]
      exact hdel.then (by rw [← hfl2]; exact hm.1)
    · rw [hfl]
      simp only [List.mem_append, g3]
      exact ⟨fun hh => .inr (.inl hh), fun hh => hh.elim (fun h0 => absurd (hX _ h0) (ltI_irr _)) (fun hh => hh.elim id (fun h0 => absurd (hY _ h0) (ltI_irr _)))⟩
theorem leaf_cut_same (l : List S29) (e : S29) (h : found l e = false) : (if found l e = true then delAt l (low l e) else l) = l := by
  rw [if_neg (by rw [h]; simp)]
theorem bcut_same : ∀ (h n : Nat) (t : BT h) (e : S29), Shape h n t → Srt (flat h t) → (bcut h t e).2 = false → (bcut h t e).1 = t
  | 0, n, t, e, hs, hr, hf => leaf_cut_same t e hf
  | h + 1, n, t, e, hs, hr, hf => by
    obtain ⟨ks, ts⟩ := t
    obtain ⟨h1, h2, h3, h4⟩ := hs
    change ts.length = ks.length + 1 at h3
    change ∀ k ∈ ts, Shape h 2 k at h4
    obtain ⟨A, k, B, rfl, hA, hAB, hX, hY⟩ := at_kid e h3 hr
    have hx : bcut (h + 1) (ks, A ++ k :: B) e = _ := bcut_at h ks A k B e hA
    have hk : (bcut h k e).2 = false := by rw [hx] at hf; exact hf
    have ih := bcut_same h 2 k e (h4 k (by simp)) (srt_kid h3 hr k (by simp)) hk
    rw [hx, ih]
    show bmend h ks A k B = _
    unfold bmend
    rw [if_pos (h4 k (by simp)).ge]
theorem tcut_good (h : Nat) (t : BT h) (e : S29) (hi : TInv h t) : TInv (tcut h t e).1.1 (tcut h t e).1.2 ∧ Deld e (flat h t) (flat (tcut h t e).1.1 (tcut h t e).1.2) ∧ ((tcut h t e).2 = true ↔ (e, true) ∈ flat h t) := by
  obtain ⟨hs, hr⟩ := hi
  have hn : h = 0 ∨ 1 ≤ (if h = 0 then 0 else 1) := by cases h <;> simp
  obtain ⟨g1, g2, g3⟩ := bcut_good h _ t e hs hn hr
  have hbs := bcut_shape h t e (cutfit_of h _ t e hs hn hr)
  have hle := hs.le
  cases hb : (bcut h t e).2 with
  | false =>
    have hsame := bcut_same h _ t e hs hr hb
    have ht : tcut h t e = (⟨h, t⟩, false) := by
      unfold tcut
      rw [if_neg (by rw [hb]; simp), hsame]
    have hne : (e, true) ∉ flat h t := fun h0 => by have := g3.2 h0; rw [hb] at this; cases this
    rw [hsame] at g1
    rw [ht]
    exact ⟨⟨hs, hr⟩, g1, by simp [hne]⟩
  | true =>
    have hin : (e, true) ∈ flat h t := g3.1 hb
    cases h with
    | zero =>
      have ht : tcut 0 t e = (⟨0, (bcut 0 t e).1⟩, true) := by
        unfold tcut
        rw [if_pos hb]
      rw [ht]
      exact ⟨⟨shape_of (t := (bcut 0 t e).1) (Nat.zero_le _) (by omega) hbs.2.2 g2, g1.srt⟩, g1, by simp [hin]⟩
    | succ h =>
      obtain ⟨r, hx⟩ : ∃ r, (bcut (h + 1) t e).1 = r := ⟨_, rfl⟩
      obtain ⟨ks, ts⟩ := r
      rw [hx] at g1 g2 hbs
      have hk : ts.length = ks.length + 1 := hbs.2.2.resolve_left (by omega)
      cases ks with
      | nil =>
        obtain ⟨k, ts', rfl⟩ := cons_cases' ts (by rw [hk]; simp)
        have hts : ts' = [] := List.eq_nil_of_length_eq_zero (by simpa using hk)
        subst hts
        have ht : tcut (h + 1) t e = (⟨h, k⟩, true) := by
          unfold tcut
          rw [if_pos hb]
          simp only [hx]
        have hfk : flat (h + 1) ([], [k]) = flat h k := by simp [flat, il, lpost]
        rw [hfk] at g1
        have hsk : Shape h 2 k := g2 k (by simp)
        rw [ht]
        exact ⟨⟨hsk.mono (by split <;> omega), g1.srt⟩, g1, by simp [hin]⟩
      | cons x ks =>
        have ht : tcut (h + 1) t e = (⟨h + 1, (x :: ks, ts)⟩, true) := by
          unfold tcut
          rw [if_pos hb]
          simp only [hx]
        have hl4 : (x :: ks).length ≤ 4 := by have := hbs.2.1; exact Nat.le_trans this hle
        rw [ht]
        refine ⟨⟨⟨?_, hl4, hk, g2⟩, g1.srt⟩, g1, by simp [hin]⟩
        simp
end Go.Proofs.Bt
end
section
/- The tree's methods over a state of chunks. -/
namespace Go.Proofs.Bt
open Go Go.RowKit Go.Proofs.Ytjaddmflopahiaa.Q Go.Proofs.YtjaddmflopahiaaW.PrintWords Go.Proofs.YtjaddmflopahiaaW.PrintLast Go.Proofs.YtjaddmflopahiaaW.PrintMore
set_option linter.unusedVariables false
set_option linter.unusedSimpArgs false
set_option maxRecDepth 100000

abbrev ST := Σ h, BT h
def tinsS (T : ST) (e : S29) : ST × Bool := tins T.1 T.2 e
def tcutS (T : ST) (e : S29) : ST × Bool := tcut T.1 T.2 e
def flatS (T : ST) : List It := flat T.1 T.2
def TInvS (T : ST) : Prop := TInv T.1 T.2
/-- A tree T of so many entries at tp, beside other chunks. -/
def TS (w0 : World) (F : Nat → Prop) (W : World) (tp : Nat) (T : ST) (cnt : Int) (R : List Chunk) : Prop := ∃ m : MT T.1, abs T.1 m = T.2 ∧ St w0 F W (treeT tp T.1 m cnt ++ R)
theorem TS.open {w0 W : World} {F : Nat → Prop} {tp h : Nat} {t : BT h} {cnt : Int} {R : List Chunk} (s : TS w0 F W tp ⟨h, t⟩ cnt R) : ∃ m : MT h, abs h m = t ∧ St w0 F W (treeT tp h m cnt ++ R) := s
section
variable {w0 W W' : World} {F : Nat → Prop} {tp : Nat} {T : ST} {cnt : Int} {R R' : List Chunk}
theorem TS.below (s : TS w0 F W tp T cnt R) (hb : Below W.heap.size W W') : TS w0 F W' tp T cnt R := by
  obtain ⟨m, h1, s⟩ := s
  exact ⟨m, h1, s.below hb⟩
theorem TS.rest (s : TS w0 F W tp T cnt R) : St w0 F W R := by
  obtain ⟨m, h1, s⟩ := s
  exact s.drop
theorem TS.keep (s : TS w0 F W tp T cnt R) : Keep w0 W F := by
  obtain ⟨m, h1, s⟩ := s
  exact s.keep
/-- The chunks beside the tree are changed. -/
theorem TS.upd (s : TS w0 F W tp T cnt R) (k : ∀ X, St w0 F W (R ++ X) → St w0 F W' (R' ++ X)) : TS w0 F W' tp T cnt R' := by
  obtain ⟨m, h1, s⟩ := s
  exact ⟨m, h1, (k _ (s.perm List.perm_append_comm)).perm List.perm_append_comm⟩
end
theorem new_ts (w w0 : World) (F : Nat → Prop) (R : List Chunk) (s : St w0 F w R) : Calls Try.prog 10 #[] w fun E w' => ∃ tp, E = .returned (.pointer (some ⟨tp, 0, none⟩)) ∧ TS w0 F w' tp ⟨0, ([] : List S29)⟩ 0 R := by
  refine (new_calls w).mono ?_
  rintro E w' ⟨tp, m, rfl, ⟨h1, h2, h3⟩, h4, h5, h6⟩
  refine ⟨tp, rfl, m, h4, ?_⟩
  have s1 := s.fresh h5 (treeC 0 m) h2 (fun a => by have := h3 a; rw [List.count_cons] at this; exact (show (fp 0 m).count a ≤ 1 by omega)) (fun b hb => h6 b (List.mem_cons_of_mem _ hb))
  have hne : tp ∉ fp 0 m := fun hm => by
    have h1 := h3 tp
    have h2 := count_mem.1 hm
    rw [List.count_cons_self] at h1
    omega
  refine ⟨s1.keep, ?_, ?_, ?_⟩
  · intro c hc
    rcases List.mem_cons.1 (show c ∈ tatC tp (ptr 0 m) 0 :: (treeC 0 m :: R) from hc) with rfl | hc
    · exact h1
    · exact s1.h c hc
  · have e : fpc (treeT tp 0 m 0 ++ R) = [tp] ++ fpc (treeC 0 m :: R) := rfl
    rw [e]
    refine nd_app.2 ⟨nd_one tp, s1.nd, fun x hx hm => ?_⟩
    simp at hx
    subst hx
    rw [fpc_cons] at hm
    rcases List.mem_append.1 hm with hm | hm
    · exact hne hm
    · have := s.lt x hm
      have := h6 x (by simp)
      omega
  · intro b hb
    have hb : b ∈ [tp] ++ fpc (treeC 0 m :: R) := hb
    rcases List.mem_append.1 hb with hb | hb
    · simp at hb
      subst hb
      have := s.keep.size
      have := h6 b (by simp)
      exact .inr (by omega)
    · exact s1.own b hb
theorem insert_ts (W w0 : World) (F : Nat → Prop) (tp : Nat) (T : ST) (cnt : Int) (R : List Chunk) (e : S29) (s : TS w0 F W tp T cnt R) (hi : TInvS T) (hc0 : 0 ≤ cnt) (hc1 : cnt < 1000000) :
    Calls Try.prog 11 #[.pointer (some ⟨tp, 0, none⟩), entryV e] W fun E w' => E = .returned (.bool (tinsS T e).2) ∧ TS w0 F w' tp (tinsS T e).1 (if (tinsS T e).2 = true then cnt + 1 else cnt) R := by
  obtain ⟨h, t⟩ := T
  obtain ⟨m, hm, sX⟩ := TS.open s
  subst hm
  have s' : St w0 F W (treeT tp h m cnt ++ R) := sX
  have hT : TreeAt W tp (ptr h m) cnt := s'.tat 0 rfl
  have hok : Ok W h m := s'.tree 1 rfl
  have hsub := s'.sub
  have hfp : fpc (treeT tp h m cnt) = tp :: fp h m := by simp [fpc, treeT, tatC, treeC]
  have hnd : ND (tp :: fp h m) := by
    have := hsub.nd
    rw [hfp] at this
    exact this
  refine (tinsert_calls W tp h m cnt e ⟨hT, hok, hnd⟩ (fit_of h _ _ e hi.shape hi.srt) hc0 hc1).mono ?_
  rintro E w' ⟨h', m', rfl, ⟨g1, g2, g3⟩, g4, g5, g6⟩
  refine ⟨rfl, ?_⟩
  have hTS : TS w0 F w' tp ⟨h', abs h' m'⟩ (if (tins h (abs h m) e).2 = true then cnt + 1 else cnt) R := by
    refine ⟨m', rfl, s'.frame (B := treeT tp h' m' (if (tins h (abs h m) e).2 = true then cnt + 1 else cnt)) ?_ ?_ ?_ ?_⟩
    · rw [hfp]
      exact g5
    · intro c hc
      simp only [treeT, List.mem_cons, List.not_mem_nil, or_false] at hc
      rcases hc with rfl | rfl
      · exact g1
      · exact g2
    · have : fpc (treeT tp h' m' (if (tins h (abs h m) e).2 = true then cnt + 1 else cnt)) = tp :: fp h' m' := by simp [fpc, treeT, tatC, treeC]
      rw [this]
      exact g3
    · intro b hb
      have : fpc (treeT tp h' m' (if (tins h (abs h m) e).2 = true then cnt + 1 else cnt)) = tp :: fp h' m' := by simp [fpc, treeT, tatC, treeC]
      rw [this] at hb
      rw [hfp]
      rcases List.mem_cons.1 hb with rfl | hb
      · exact .inl List.mem_cons_self
      · exact (g6 b hb).imp (List.mem_cons_of_mem _) id
  have e1 : (tinsS ⟨h, abs h m⟩ e).1 = ⟨h', abs h' m'⟩ := g4.symm
  rw [e1]
  exact hTS
theorem delete_ts (W w0 : World) (F : Nat → Prop) (tp : Nat) (T : ST) (cnt : Int) (R : List Chunk) (e : S29) (s : TS w0 F W tp T cnt R) (hi : TInvS T) (hc0 : 0 ≤ cnt) (hc1 : cnt < 1000000) :
    Calls Try.prog 15 #[.pointer (some ⟨tp, 0, none⟩), entryV e] W fun E w' => E = .returned (.bool (tcutS T e).2) ∧ TS w0 F w' tp (tcutS T e).1 (if (tcutS T e).2 = true then cnt - 1 else cnt) R := by
  obtain ⟨h, t⟩ := T
  obtain ⟨m, hm, sX⟩ := TS.open s
  subst hm
  have s' : St w0 F W (treeT tp h m cnt ++ R) := sX
  refine (tdelete_calls W tp h m cnt e s'.sub (cutfit_of h _ _ e hi.shape (by cases h <;> simp) hi.srt) hc0 hc1).mono ?_
  rintro E w' ⟨h', m', rfl, g1, st⟩
  refine ⟨rfl, ?_⟩
  have e1 : (tcutS ⟨h, abs h m⟩ e).1 = ⟨h', abs h' m'⟩ := g1.symm
  rw [e1]
  exact ⟨m', rfl, s'.call st⟩
theorem count_ts (W w0 : World) (F : Nat → Prop) (tp : Nat) (T : ST) (cnt : Int) (R : List Chunk) (s : TS w0 F W tp T cnt R) : Calls Try.prog 13 #[.pointer (some ⟨tp, 0, none⟩)] W fun E w' => E = .returned (.int .i64 cnt) ∧ w' = W := by
  obtain ⟨m, hm, s⟩ := s
  exact count_calls W tp _ cnt (St.tat (cs := treeT tp T.1 m cnt ++ R) s 0 rfl)
theorem small_of : ∀ (h n : Nat) (t : BT h), Shape h n t → Small h t
  | 0, n, t, hs => by have := hs.2; exact (show List.length (α := S29) t < 900 by omega)
  | h + 1, n, t, hs => by
    obtain ⟨h1, h2, h3, h4⟩ := hs
    exact ⟨by omega, by omega, fun k hk => small_of h 2 k (h4 k hk)⟩
def pagesOf (T : ST) : List PgA := blay T.1 T.2 0
theorem pages_ts (W w0 : World) (F : Nat → Prop) (tp : Nat) (T : ST) (cnt : Int) (R : List Chunk) (s : TS w0 F W tp T cnt R) (hi : TInvS T) (hb : (pagesOf T).length < 100000) :
    Calls Try.prog 12 #[.pointer (some ⟨tp, 0, none⟩)] W fun E w' => ∃ (g n c : Nat) (l : List Pg), E = .returned (.slice (some ⟨g, 0, none⟩) n c) ∧ l.map Pg.a = pagesOf T ∧ TS w0 F w' tp T cnt (pagesC (.slice (some ⟨g, 0, none⟩) n c) l :: R) := by
  obtain ⟨h, t⟩ := T
  obtain ⟨m, hm, sX⟩ := TS.open s
  subst hm
  have s' : St w0 F W (treeT tp h m cnt ++ R) := sX
  refine (pages_calls W tp h m cnt _ s'.sub (small_of h _ _ hi.shape) hb).mono ?_
  rintro E w' ⟨g, n, c, l, rfl, hl, st⟩
  exact ⟨g, n, c, l, rfl, hl, m, rfl, s'.call st⟩
/-- What a call that keeps all old memory makes. -/
theorem TS.made {w0 W W' : World} {F : Nat → Prop} {tp : Nat} {T : ST} {cnt : Int} {R : List Chunk} {c : Chunk} (s : TS w0 F W tp T cnt R) (k : St W NoF W' [c]) : TS w0 F W' tp T cnt (c :: R) := by
  obtain ⟨m, hm, s⟩ := s
  have hb := keep_below k.keep
  have hc := k.h c (by simp)
  have hnd : ND c.bs := k.ndi 0 rfl
  have s2 := s.fresh hb c hc hnd (fun b hb => (k.own b (by simp [fpc, hb])).elim (fun h => h.elim) id)
  refine ⟨m, hm, s2.perm ?_⟩
  exact (List.perm_middle (a := c) (l₁ := treeT tp T.1 m cnt) (l₂ := R)).symm
def fromS (T : ST) (e : S29) : List S29 := bfrom T.1 T.2 e
theorem range_ts (W w0 : World) (F : Nat → Prop) (tp : Nat) (T : ST) (cnt : Int) (R : List Chunk) (frm hiK : ByteArray) (most : Int) (s : TS w0 F W tp T cnt R) (hi : TInvS T) (hb : (fromS T (lowS frm)).length < 90000) :
    Calls Try.prog 19 #[.pointer (some ⟨tp, 0, none⟩), .string frm, .string hiK, .int .i64 most] W fun E w' => ∃ v, E = .returned v ∧ TS w0 F w' tp T cnt (rowEC v (rng hiK most (fromS T (lowS frm)) 0) :: R) := by
  have s0 := s
  obtain ⟨h, t⟩ := T
  obtain ⟨m, hm, sX⟩ := TS.open s
  subst hm
  have s' : St w0 F W (treeT tp h m cnt ++ R) := sX
  refine (range_calls W tp h m cnt frm hiK most (s'.tat 0 rfl) (s'.tree 1 rfl) (fit_of h _ _ _ hi.shape hi.srt) hb).mono ?_
  rintro E w' ⟨v, rfl, st⟩
  exact ⟨v, rfl, s0.made st⟩
theorem all_ts (W w0 : World) (F : Nat → Prop) (tp : Nat) (T : ST) (cnt : Int) (R : List Chunk) (s : TS w0 F W tp T cnt R) (hi : TInvS T) (hb : (fromS T (lowS ⟨#[]⟩)).length < 90000) :
    Calls Try.prog 18 #[.pointer (some ⟨tp, 0, none⟩)] W fun E w' => ∃ v, E = .returned v ∧ TS w0 F w' tp T cnt (rowEC v (fromS T (lowS ⟨#[]⟩)) :: R) := by
  have s0 := s
  obtain ⟨h, t⟩ := T
  obtain ⟨m, hm, sX⟩ := TS.open s
  subst hm
  have s' : St w0 F W (treeT tp h m cnt ++ R) := sX
  refine (all_calls W tp h m cnt (s'.tat 0 rfl) (s'.tree 1 rfl) (fit_of h _ _ _ hi.shape hi.srt) hb).mono ?_
  rintro E w' ⟨v, rfl, st⟩
  exact ⟨v, rfl, s0.made st⟩
end Go.Proofs.Bt
end
section
/- alive: five entries in three pages. -/
namespace Go.Proofs.Bt
open Go Go.RowKit Go.Proofs.Ytjaddmflopahiaa.Q Go.Proofs.YtjaddmflopahiaaW.PrintWords Go.Proofs.YtjaddmflopahiaaW.PrintLast Go.Proofs.YtjaddmflopahiaaW.PrintMore
set_option linter.unusedVariables false
set_option linter.unusedSimpArgs false
set_option maxRecDepth 100000

def ea (b : UInt8) : S29 := ⟨⟨#[b]⟩, ⟨0, 0⟩⟩
/-- The tree behind so many inserts. -/
def TA : Nat → ST
  | 0 => ⟨0, ([] : List S29)⟩
  | 1 => ⟨0, ([ea 97] : List S29)⟩
  | 2 => ⟨0, ([ea 97, ea 98] : List S29)⟩
  | 3 => ⟨0, ([ea 97, ea 98, ea 99] : List S29)⟩
  | 4 => ⟨0, ([ea 97, ea 98, ea 99, ea 100] : List S29)⟩
  | _ => ⟨1, (([ea 99], [[ea 97, ea 98], [ea 99, ea 100, ea 101]]) : List S29 × List (List S29))⟩
theorem ta0 : tinsS (TA 0) (ea 97) = (TA 1, true) := by kernel_rfl
theorem ta1 : tinsS (TA 1) (ea 98) = (TA 2, true) := by kernel_rfl
theorem ta2 : tinsS (TA 2) (ea 99) = (TA 3, true) := by kernel_rfl
theorem ta3 : tinsS (TA 3) (ea 100) = (TA 4, true) := by kernel_rfl
theorem ta4 : tinsS (TA 4) (ea 101) = (TA 5, true) := by kernel_rfl
theorem ta5 : tinsS (TA 5) (ea 97) = (TA 5, false) := by kernel_rfl
theorem tad : (tcutS (TA 5) (ea 97)).2 = true := by kernel_rfl
theorem tap : pagesOf (TA 5) = [(false, [ea 99], [1, 2]), (true, [ea 97, ea 98], []), (true, [ea 99, ea 100, ea 101], [])] := by kernel_rfl
theorem tar : rng ⟨#[100]⟩ 9 (fromS (TA 5) (lowS ⟨#[98]⟩)) 0 = [ea 98, ea 99] := by kernel_rfl
theorem tfl : (fromS (TA 5) (lowS ⟨#[98]⟩)).length < 90000 := by decide +kernel
theorem tinv0 : TInvS (TA 0) := ⟨⟨Nat.le_refl _, by decide⟩, List.Pairwise.nil⟩
theorem tinv_step {T T' : ST} {e : S29} {b : Bool} (hi : TInvS T) (h : tinsS T e = (T', b)) : TInvS T' := by
  have := (tins_good T.1 T.2 e hi).1
  have e1 : (tins T.1 T.2 e).1 = T' := by
    have := congrArg Prod.fst h
    exact this
  rw [e1] at this
  exact this
theorem tinv1 : TInvS (TA 1) := tinv_step tinv0 ta0
theorem tinv2 : TInvS (TA 2) := tinv_step tinv1 ta1
theorem tinv3 : TInvS (TA 3) := tinv_step tinv2 ta2
theorem tinv4 : TInvS (TA 4) := tinv_step tinv3 ta3
theorem tinv5 : TInvS (TA 5) := tinv_step tinv4 ta4
theorem insert_ta (W w0 : World) (F : Nat → Prop) (tp : Nat) (T T' : ST) (cnt : Int) (R : List Chunk) (e : S29) (b : Bool) (s : TS w0 F W tp T cnt R) (hi : TInvS T) (h : tinsS T e = (T', b)) (hc0 : 0 ≤ cnt) (hc1 : cnt < 1000000) :
    Calls Try.prog 11 #[.pointer (some ⟨tp, 0, none⟩), entryV e] W fun E w' => E = .returned (.bool b) ∧ TS w0 F w' tp T' (if b = true then cnt + 1 else cnt) R := by
  have := insert_ts W w0 F tp T cnt R e s hi hc0 hc1
  rw [h] at this
  exact this
theorem pages_row {v : Value} {l : List Pg} {w0 w : World} {F : Nat → Prop} {R : List Chunk} (s : St w0 F w (pagesC v l :: R)) : RowPg w v l ∧ ∀ p ∈ l, PgOk w p := s.h (pagesC v l) (by simp)
theorem three_pages {l : List Pg} {a b c : PgA} (h : l.map Pg.a = [a, b, c]) : ∃ p q r, l = [p, q, r] ∧ p.a = a ∧ q.a = b ∧ r.a = c := by
  match l, h with
  | [p, q, r], h =>
    simp at h
    exact ⟨p, q, r, rfl, h.1, h.2.1, h.2.2⟩
set_option maxHeartbeats 4000000 in
theorem alive_calls (w : World) : Calls Try.prog 9 #[] w fun E w' => E = .returned (.bool true) ∧ Below w.heap.size w w' := by
  obtain ⟨R, hR⟩ : ∃ R, (fun E w' => E = Ending.returned (.bool true) ∧ Below w.heap.size w w') = R := ⟨_, rfl⟩
  have HR := Aside0.mk hR
  rw [hR]
  clear hR
  have HN := Aside0.mk (new_ts w w NoF [] (St.none w NoF))
  go_enter Try.func9, Try.ntmps9
  go_wp2_with (go_at_call 10; refine HN.out.mono ?_; rintro E w1 ⟨tp, rfl, hs⟩; have HS := Aside0.mk hs; clear hs)
  go_loopg [2] 5 (fun gq v2 wx => ∃ j : Nat, v2 = .int .i64 j ∧ j + gq = 5 ∧ Aside0 (TS w NoF wx tp (TA j) j []))
  case atStart => exact ⟨0, rfl, rfl, HS⟩
  case round =>
    clear HS
    obtain ⟨j, rfl, hj, HS⟩ := hrel
    cases gk with
    | zero =>
      obtain rfl : j = 5 := by omega
      have HP := Aside0.mk (pages_ts wr w NoF tp (TA 5) 5 [] HS.out tinv5 (by decide +kernel))
      go_wp2_with (first
        | (go_at_call 12; refine HP.out.mono ?_; clear HP; rintro E w2 ⟨g, n, c, l, rfl, hl, hs2⟩; rw [tap] at hl; obtain ⟨p, q, r, rfl, hp, hq, hr⟩ := three_pages hl; have HS2 := Aside0.mk hs2; have HPA := Aside0.mk hp; clear hs2 hl hp hq hr HS)
        | (go_at_call 19; refine (range_ts w2 w NoF tp (TA 5) 5 _ ⟨#[98]⟩ ⟨#[100]⟩ 9 HS2.out tinv5 tfl).mono ?_; rw [tar]; rintro E w3 ⟨v, rfl, hs3⟩; have HS3 := Aside0.mk hs3; clear hs3; obtain ⟨gv, cv, rfl, _⟩ := (HS3.out.rest.rowE 0 rfl).formS (by decide); obtain ⟨q0, y1, y2⟩ := (HS3.out.rest.rowE 0 rfl).cells 1 (by decide); have y0 : w3.cell? ⟨gv, 1 * 3, none⟩ = some (.string ⟨#[99]⟩) := q0; clear q0; have hpg := pages_row (HS3.out.rest.perm (List.Perm.swap _ _ _)); obtain ⟨Ak, ck, hk⟩ := (hpg.2 p (by simp)).1.slice; have hks : p.ks = [ea 99] := congrArg (fun x : PgA => x.2.1) HPA.out; have hlf : p.leaf = false := congrArg (fun x : PgA => x.1) HPA.out; rw [hks] at hk; have hn : n = 3 := (by rcases hpg.1.2.2 with ⟨h1, _⟩ | ⟨g', c', cur, h1, _⟩; (simp at h1); (simp at h1; exact h1.2.1)); have z0 := hpg.1.cell (by rw [hn]; rfl) 0 (.bool false) (by rw [← hlf]; rfl); have z1 := hpg.1.cell (by rw [hn]; rfl) 1 (.slice Ak [ea 99].length ck) (by rw [← hk]; rfl); subst hn; clear hpg hk hks hlf)
        | (go_at_call 13; refine (count_ts _ w NoF tp (TA 5) 5 _ HS3.out).mono ?_; rintro E w3 ⟨rfl, rfl⟩)
        | (go_at_call 11; refine (insert_ta _ w NoF tp _ _ _ _ (ea 97) false HS3.out tinv5 ta5 (by omega) (by omega)).mono ?_; clear y0 y1 y2 z0 z1; rintro E w4 ⟨rfl, hs4⟩; have HS4 := Aside0.mk hs4; clear hs4)
        | (go_at_call 15; refine (delete_ts _ w NoF tp _ _ _ (ea 97) HS4.out tinv5 (by simp) (by simp)).mono ?_; rw [tad]; rintro E w5 ⟨rfl, hs5⟩; have HS5 := Aside0.mk hs5; clear hs5))
      rw [← HR.out]
      exact ⟨rfl, keep_below HS5.out.keep⟩
    | succ g =>
      have hcase : j = 0 ∨ j = 1 ∨ j = 2 ∨ j = 3 ∨ j = 4 := by omega
      rcases hcase with rfl | rfl | rfl | rfl | rfl
      · have h0 : (⟨#[97, 98, 99, 100, 101]⟩ : ByteArray).extract 0 1 = ⟨#[97]⟩ := by kernel_rfl
        have HC := Aside0.mk (insert_ta wr w NoF tp _ _ _ [] (ea 97) true HS.out tinv0 ta0 (by omega) (by omega))
        go_wp2_with (go_at_call 11; refine HC.out.mono ?_; clear HC; rintro E w2 ⟨rfl, hs2⟩; have HS2 := Aside0.mk hs2; clear hs2)
        go_roundg g
        case measure => omega
        case rel => exact ⟨1, by go_num, by omega, HS2⟩
      · have h0 : (⟨#[97, 98, 99, 100, 101]⟩ : ByteArray).extract 1 2 = ⟨#[98]⟩ := by kernel_rfl
        have HC := Aside0.mk (insert_ta wr w NoF tp _ _ _ [] (ea 98) true HS.out tinv1 ta1 (by omega) (by omega))
        go_wp2_with (go_at_call 11; refine HC.out.mono ?_; clear HC; rintro E w2 ⟨rfl, hs2⟩; have HS2 := Aside0.mk hs2; clear hs2)
        go_roundg g
        case measure => omega
        case rel => exact ⟨2, by go_num, by omega, HS2⟩
      · have h0 : (⟨#[97, 98, 99, 100, 101]⟩ : ByteArray).extract 2 3 = ⟨#[99]⟩ := by kernel_rfl
        have HC := Aside0.mk (insert_ta wr w NoF tp _ _ _ [] (ea 99) true HS.out tinv2 ta2 (by omega) (by omega))
        go_wp2_with (go_at_call 11; refine HC.out.mono ?_; clear HC; rintro E w2 ⟨rfl, hs2⟩; have HS2 := Aside0.mk hs2; clear hs2)
        go_roundg g
        case measure => omega
        case rel => exact ⟨3, by go_num, by omega, HS2⟩
      · have h0 : (⟨#[97, 98, 99, 100, 101]⟩ : ByteArray).extract 3 4 = ⟨#[100]⟩ := by kernel_rfl
        have HC := Aside0.mk (insert_ta wr w NoF tp _ _ _ [] (ea 100) true HS.out tinv3 ta3 (by omega) (by omega))
        go_wp2_with (go_at_call 11; refine HC.out.mono ?_; clear HC; rintro E w2 ⟨rfl, hs2⟩; have HS2 := Aside0.mk hs2; clear hs2)
        go_roundg g
        case measure => omega
        case rel => exact ⟨4, by go_num, by omega, HS2⟩
      · have h0 : (⟨#[97, 98, 99, 100, 101]⟩ : ByteArray).extract 4 5 = ⟨#[101]⟩ := by kernel_rfl
        have HC := Aside0.mk (insert_ta wr w NoF tp _ _ _ [] (ea 101) true HS.out tinv4 ta4 (by omega) (by omega))
        go_wp2_with (go_at_call 11; refine HC.out.mono ?_; clear HC; rintro E w2 ⟨rfl, hs2⟩; have HS2 := Aside0.mk hs2; clear hs2)
        go_roundg g
        case measure => omega
        case rel => exact ⟨5, by go_num, by omega, HS2⟩
end Go.Proofs.Bt
end
section
/- Plain law: the entries of a tree in order; how many there are, and how many pages. -/
namespace Go.Proofs.Bt
open Go Go.RowKit Go.Proofs.Ytjaddmflopahiaa.Q
set_option linter.unusedVariables false
set_option linter.unusedSimpArgs false

/-- The entries of a row of items. -/
def ent (F : List It) : List S29 := F.filterMap fun i => if i.2 = true then some i.1 else none
theorem ent_app (a b : List It) : ent (a ++ b) = ent a ++ ent b := by simp [ent]
theorem ent_sep (z : S29) (F : List It) : ent ((z, false) :: F) = ent F := by simp [ent]
theorem ent_ents (l : List S29) : ent (ents l) = l := by
  induction l with
  | nil => rfl
  | cons x l ih =>
    show ent ((x, true) :: ents l) = x :: l
    simp only [ent, List.filterMap_cons]
    simp
    exact ih
theorem mem_ent (F : List It) (z : S29) : z ∈ ent F ↔ (z, true) ∈ F := by
  simp only [ent, List.mem_filterMap]
  constructor
  · rintro ⟨i, hi, h⟩
    split at h
    · rename_i h2
      simp at h
      rw [← h, ← h2]
      exact hi
    · cases h
  · intro h
    exact ⟨(z, true), h, by simp⟩
theorem ent_sorted {F : List It} (h : Srt F) : Sorted (ent F) := by
  unfold Sorted ent
  rw [List.pairwise_filterMap]
  refine h.imp fun {a b} hab x hx y hy => ?_
  split at hx
  · split at hy
    · rename_i h1 h2
      simp at hx hy
      subst hx
      subst hy
      rcases hab with hab | ⟨_, h3, _⟩
      · exact hab
      · rw [h1] at h3
        cases h3
    · cases hy
  · cases hx
theorem sorted_ext : ∀ {a b : List S29}, Sorted a → Sorted b → (∀ z, z ∈ a ↔ z ∈ b) → a = b
  | [], [], _, _, _ => rfl
  | [], y :: b, _, _, h => by have := (h y).2 (by simp); simp at this
  | x :: a, [], _, _, h => by have := (h x).1 (by simp); simp at this
  | x :: a, y :: b, ha, hb, h => by
    obtain ⟨a1, a2⟩ := List.pairwise_cons.1 ha
    obtain ⟨b1, b2⟩ := List.pairwise_cons.1 hb
    have hxy : x = y := by
      rcases List.mem_cons.1 ((h x).1 (by simp)) with h1 | h1
      · exact h1
      · rcases List.mem_cons.1 ((h y).2 (by simp)) with h2 | h2
        · exact h2.symm
        · exact absurd (ltE_trans (b1 x h1) (a1 y h2)) (ltE_irr _)
    subst hxy
    rw [sorted_ext a2 b2 fun z => ?_]
    constructor
    · intro hz
      rcases List.mem_cons.1 ((h z).1 (List.mem_cons_of_mem _ hz)) with h1 | h1
      · subst h1
        exact absurd (a1 z hz) (ltE_irr _)
      · exact h1
    · intro hz
      rcases List.mem_cons.1 ((h z).2 (List.mem_cons_of_mem _ hz)) with h1 | h1
      · subst h1
        exact absurd (b1 z hz) (ltE_irr _)
      · exact h1
def sins (l : List S29) (e : S29) : List S29 := if found l e = true then l else insAt l (low l e) e
def sdel (l : List S29) (e : S29) : List S29 := if found l e = true then delAt l (low l e) else l
theorem ent_ins {e : S29} {F F' : List It} (hs : Srt F) (k : Insd e F F') : ent F' = sins (ent F) e := by
  have hso := ent_sorted hs
  have hl := (leaf_ins (ent F) e hso).1
  refine sorted_ext (ent_sorted k.srt) (srt_keys hl.srt) fun z => ?_
  rw [mem_ent, k.mem, ← mem_ent]
  have := hl.mem z
  rw [ents_mem, ents_mem] at this
  exact this.symm
theorem ent_del {e : S29} {F F' : List It} (hs : Srt F) (k : Deld e F F') : ent F' = sdel (ent F) e := by
  have hso := ent_sorted hs
  have hl := leaf_del (ent F) e hso
  refine sorted_ext (ent_sorted k.srt) (srt_keys hl.srt) fun z => ?_
  rw [mem_ent, k.mem, ← mem_ent]
  have := hl.mem z
  rw [ents_mem, ents_mem] at this
  exact this.symm
def entS (T : ST) : List S29 := ent (flatS T)
theorem entS_sorted {T : ST} (h : TInvS T) : Sorted (entS T) := ent_sorted h.srt
theorem tins_ent {T : ST} (e : S29) (h : TInvS T) : TInvS (tinsS T e).1 ∧ entS (tinsS T e).1 = sins (entS T) e ∧ ((tinsS T e).2 = true ↔ e ∉ entS T) := by
  obtain ⟨h1, h2, h3⟩ := tins_good T.1 T.2 e h
  refine ⟨h1, ent_ins h.srt h2, ?_⟩
  have : e ∈ entS T ↔ (e, true) ∈ flatS T := mem_ent _ _
  rw [this]
  exact h3
theorem tcut_ent {T : ST} (e : S29) (h : TInvS T) : TInvS (tcutS T e).1 ∧ entS (tcutS T e).1 = sdel (entS T) e ∧ ((tcutS T e).2 = true ↔ e ∈ entS T) := by
  obtain ⟨h1, h2, h3⟩ := tcut_good T.1 T.2 e h
  refine ⟨h1, ent_del h.srt h2, ?_⟩
  have : e ∈ entS T ↔ (e, true) ∈ flatS T := mem_ent _ _
  rw [this]
  exact h3
theorem sins_len (l : List S29) (e : S29) (hs : Sorted l) (b : Bool) (hb : b = true ↔ e ∉ l) : ((sins l e).length : Int) = if b = true then (l.length : Int) + 1 else l.length := by
  have := found_mem l e hs
  unfold sins
  by_cases he : e ∈ l
  · rw [if_pos (this.2 he), if_neg (fun h => hb.1 h he)]
  · rw [if_neg (fun h => he (this.1 h)), if_pos (hb.2 he), insAt_len _ _ _ (low_le l e)]
    omega
theorem sdel_len (l : List S29) (e : S29) (hs : Sorted l) (b : Bool) (hb : b = true ↔ e ∈ l) : ((sdel l e).length : Int) = if b = true then (l.length : Int) - 1 else l.length := by
  have := found_mem l e hs
  unfold sdel
  by_cases he : e ∈ l
  · have hl := found_lt (this.2 he)
    rw [if_pos (this.2 he), if_pos (hb.2 he), delAt_len _ _ hl]
    omega
  · rw [if_neg (fun h => he (this.1 h)), if_neg (fun h => he (hb.1 h))]
/-- Behind an insert the count is that of the entries; likewise behind a delete. -/
theorem tins_count {T : ST} (e : S29) (h : TInvS T) {cnt : Int} (hc : cnt = (entS T).length) : (if (tinsS T e).2 = true then cnt + 1 else cnt) = ((entS (tinsS T e).1).length : Int) := by
  obtain ⟨_, h2, h3⟩ := tins_ent e h
  rw [h2, sins_len _ e (entS_sorted h) _ h3, hc]
theorem tcut_count {T : ST} (e : S29) (h : TInvS T) {cnt : Int} (hc : cnt = (entS T).length) : (if (tcutS T e).2 = true then cnt - 1 else cnt) = ((entS (tcutS T e).1).length : Int) := by
  obtain ⟨_, h2, h3⟩ := tcut_ent e h
  rw [h2, sdel_len _ e (entS_sorted h) _ h3, hc]
/-! ### how many -/
def sumL {α : Type} (f : α → Nat) : List α → Nat
  | [] => 0
  | x :: l => f x + sumL f l
def ecnt : (h : Nat) → BT h → Nat
  | 0, ks => List.length (α := S29) ks
  | h + 1, t => sumL (ecnt h) t.2
def pcnt : (h : Nat) → BT h → Nat
  | 0, _ => 1
  | h + 1, t => 1 + sumL (pcnt h) t.2
end Go.Proofs.Bt
end
section
/- What Go functions compute, as Lean functions, and that the machine's call comes to just that; no conditions beyond each theorem's own. (Written by pp.py of this repo, over the kit's print.py.) -/
namespace Go.Proofs.Ytjaddmflopahiaa.Q
open Go.RowKit Go.Proofs.YtjaddmflopahiaaW.PrintWords Go.Proofs.YtjaddmflopahiaaW.PrintLast Go.Proofs.YtjaddmflopahiaaW.PrintMore
attribute [local go_sem] max2_int min2_int max_two min_two max_three min_three max_four min_four   -- for this text's walks alone
set_option linter.unusedVariables false
set_option linter.unusedSimpArgs false

/-- What is read of a value of type t in memory (the claim's own reading), as the print's words tell it. -/
def Rd {α : Type} (P : Program) (d : Kd α) (t : TypeId) (wf : α → Prop) : Prop :=
  ∀ {H : Type} (enc : TypeId × Value → H) (w : World) (base : Nat) (spare : Nat → Bool) (held : Bool) (fuel : Nat) (cs : List Value) (x : DataW H × List MemPlace),
    DataW.trod enc P w base spare held fuel t cs = some x → ∃ a, d.K w a cs ∧ wf a
theorem Rd.int {P : Program} {t : TypeId} {k : IntKind} (ht : P.underlying t = some (.int k)) : Rd P (Kd.int k) t (fun n => (Lit.int k n).wf = true) := by
  intro H enc w base spare held fuel cs x h
  obtain ⟨n, rfl, _, hw⟩ := DataW.trod_int ht h
  exact ⟨n, rfl, hw⟩
theorem Rd.bool {P : Program} {t : TypeId} (ht : P.underlying t = some .bool) : Rd P Kd.bool t (fun _ => True) := by
  intro H enc w base spare held fuel cs x h
  obtain ⟨n, rfl, _⟩ := DataW.trod_bool ht h
  exact ⟨n, rfl, trivial⟩
theorem Rd.string {P : Program} {t : TypeId} (ht : P.underlying t = some .string) : Rd P Kd.string t (fun s => s.size ≤ maxLen) := by
  intro H enc w base spare held fuel cs x h
  obtain ⟨n, rfl, _, hs⟩ := DataW.trod_string ht h
  exact ⟨n, rfl, hs⟩
theorem Rd.slice {α : Type} {P : Program} {d : Kd α} {t e : TypeId} {wf : α → Prop} (ht : P.underlying t = some (.slice e)) (hc : P.cellsOf e = d.sz) (hd : Rd P d e wf) :
    Rd P (Kd.slice e d) t (fun l => l.length ≤ maxLen ∧ ∀ a ∈ l, wf a) := by
  intro H enc w base spare held fuel cs x h
  rcases Go.Deep.open_slice ht h with ⟨rfl, _⟩ | ⟨a, len, cap, m, n, D, Pl, rfl, _, hl, hm, hmm, _, hi⟩
  · exact ⟨[], ⟨none, 0, rfl, Nat.le_refl _, rfl, Nat.zero_le _, fun h => absurd h (Nat.lt_irrefl _)⟩, Nat.zero_le _, fun _ h => by cases h⟩
  · have hlm : len ≤ m := by rw [hmm]; split <;> omega
    have hex : ∀ i, i < len → ∃ v, wf v ∧ ∃ c, c.length = d.sz ∧ d.K w v c ∧ ∀ j u, c[j]? = some u → w.cell? (a.add (i * d.sz + j)) = some u := by
      intro i hilt
      obtain ⟨cs', hcs, ht'⟩ := hi i (by omega)
      obtain ⟨v, hK, hw⟩ := hd enc w base spare held n cs' _ ht'
      rw [hc] at hcs
      obtain ⟨_, hlen, hat⟩ := World.cells?_some hcs
      refine ⟨v, hw, cs', hlen, hK, fun j u hj => ?_⟩
      have hjl : j < d.sz := by rw [← hlen]; exact (List.getElem?_eq_some_iff.1 hj).1
      have := hat j hjl
      rw [Go.Deep.add_add] at this
      rw [this, hj]
    have hex' : ∀ i : Fin len, ∃ v, wf v ∧ ∃ c, c.length = d.sz ∧ d.K w v c ∧ ∀ j u, c[j]? = some u → w.cell? (a.add (i.val * d.sz + j)) = some u := fun i => hex i.val i.isLt
    have hch : ∃ g : Fin len → α, ∀ i : Fin len, wf (g i) ∧ ∃ c, c.length = d.sz ∧ d.K w (g i) c ∧ ∀ j u, c[j]? = some u → w.cell? (a.add (i.val * d.sz + j)) = some u := ⟨fun i => Classical.choose (hex' i), fun i => Classical.choose_spec (hex' i)⟩
    obtain ⟨g, hg⟩ := hch
    have hlen : (List.ofFn g).length = len := List.length_ofFn
    refine ⟨List.ofFn g, ⟨some a, cap, by rw [hlen], by rw [hlen]; exact hl, rfl, by rw [hlen]; simp only [maxLen] at hm; omega, fun _ => ⟨a, rfl, fun j p hp => ?_⟩⟩, by rw [hlen]; omega, fun v hv => ?_⟩
    · obtain ⟨hj, he⟩ := List.getElem?_eq_some_iff.1 hp
      rw [List.getElem_ofFn] at he
      subst he
      exact (hg ⟨j, by omega⟩).2
    · obtain ⟨i, rfl⟩ := List.mem_ofFn.1 hv
      exact (hg i).1
/-- A slice that came in. -/
theorem Rd.arg_slice {α : Type} {P : Program} {d : Kd α} {t e : TypeId} {wf : α → Prop} (hd : Rd P (Kd.slice e d) t (fun l => l.length ≤ maxLen ∧ ∀ a ∈ l, wf a)) {H : Type} {enc : TypeId × Value → H} {w : World} {base : Nat} {spare : Nat → Bool} {held : Bool} {A : Option Addr} {n c : Nat} {x : DataW H} {p : List MemPlace}
    (h : DataW.Trod enc P w base spare held t (.slice A n c) x p) : ∃ l : List α, l.length = n ∧ d.C w A l.length l ∧ l.length ≤ c ∧ l.length ≤ maxLen ∧ ∀ a ∈ l, wf a := by
  obtain ⟨fuel, hf⟩ := h
  obtain ⟨l, ⟨A', c', he, hl, hC⟩, hm, hw⟩ := hd enc w base spare held fuel _ _ hf
  have he' : [Value.slice A n c] = [.slice A' l.length c'] := he
  injection he' with he' _
  injection he' with h1 h2 h3
  subst h1; subst h3
  exact ⟨l, h2.symm, hC, hl, hm, hw⟩
theorem some_of_len {α : Type} {xs : List α} {n j : Nat} (h : xs.length = n) (hj : j < n) : ∃ y, xs[j]? = some y := ⟨_, List.getElem?_eq_getElem (by omega)⟩

def wf27 (v : S27) : Prop := (fun n => (Lit.int .i64 n).wf = true) v.f0 ∧ (fun n => (Lit.int .i64 n).wf = true) v.f1
theorem rd27 : Rd Try.prog k27 27 wf27 := by
  intro H enc w base spare held fuel cs x h
  obtain ⟨xs, n, _, _, hlen, hl, hf⟩ := DataW.trod_struct Try.underlying27 h
  rw [show Try.prog.cellsOf 27 = 2 by kernel_rfl] at hlen
  obtain ⟨c0, c1, rfl⟩ : ∃ c0 c1, cs = [c0, c1] := by
    match cs, hlen with
    | [c0, c1], _ => exact ⟨c0, c1, rfl⟩
  obtain ⟨y0, hy0⟩ := some_of_len hl (j := 0) (by decide)
  have g0 : DataW.trod enc Try.prog w base spare held n 3 ((([c0, c1] : List Value).drop 0).take (Try.prog.cellsOf 3)) = some y0 := (hf 0 _ rfl).trans hy0
  rw [show Try.prog.cellsOf 3 = 1 by kernel_rfl] at g0
  obtain ⟨a0, K0, w0⟩ := (Rd.int Try.underlying3) enc w base spare held n _ _ g0
  obtain ⟨y1, hy1⟩ := some_of_len hl (j := 1) (by decide)
  have g1 : DataW.trod enc Try.prog w base spare held n 3 ((([c0, c1] : List Value).drop 1).take (Try.prog.cellsOf 3)) = some y1 := (hf 1 _ rfl).trans hy1
  rw [show Try.prog.cellsOf 3 = 1 by kernel_rfl] at g1
  obtain ⟨a1, K1, w1⟩ := (Rd.int Try.underlying3) enc w base spare held n _ _ g1
  exact ⟨⟨a0, a1⟩, ⟨[c0], [c1], rfl, K0, K1⟩, ⟨w0, w1⟩⟩
def wf29 (v : S29) : Prop := (fun s => s.size ≤ maxLen) v.f0 ∧ wf27 v.f1
theorem rd29 : Rd Try.prog k29 29 wf29 := by
  intro H enc w base spare held fuel cs x h
  obtain ⟨xs, n, _, _, hlen, hl, hf⟩ := DataW.trod_struct Try.underlying29 h
  rw [show Try.prog.cellsOf 29 = 3 by kernel_rfl] at hlen
  obtain ⟨c0, c1, c2, rfl⟩ : ∃ c0 c1 c2, cs = [c0, c1, c2] := by
    match cs, hlen with
    | [c0, c1, c2], _ => exact ⟨c0, c1, c2, rfl⟩
  obtain ⟨y0, hy0⟩ := some_of_len hl (j := 0) (by decide)
  have g0 : DataW.trod enc Try.prog w base spare held n 9 ((([c0, c1, c2] : List Value).drop 0).take (Try.prog.cellsOf 9)) = some y0 := (hf 0 _ rfl).trans hy0
  rw [show Try.prog.cellsOf 9 = 1 by kernel_rfl] at g0
  obtain ⟨a0, K0, w0⟩ := (Rd.string Try.underlying9) enc w base spare held n _ _ g0
  obtain ⟨y1, hy1⟩ := some_of_len hl (j := 1) (by decide)
  have g1 : DataW.trod enc Try.prog w base spare held n 27 ((([c0, c1, c2] : List Value).drop 1).take (Try.prog.cellsOf 27)) = some y1 := (hf 1 _ rfl).trans hy1
  rw [show Try.prog.cellsOf 27 = 2 by kernel_rfl] at g1
  obtain ⟨a1, K1, w1⟩ := rd27 enc w base spare held n _ _ g1
  exact ⟨⟨a0, a1⟩, ⟨[c0], [c1, c2], rfl, K0, K1⟩, ⟨w0, w1⟩⟩
end Go.Proofs.Ytjaddmflopahiaa.Q
end
section
/- BtreeDeep: the walk. -/
namespace Go.Proofs.Bt
open Go Go.RowKit Go.Proofs.Ytjaddmflopahiaa.Q Go.Proofs.YtjaddmflopahiaaW.PrintWords Go.Proofs.YtjaddmflopahiaaW.PrintLast Go.Proofs.YtjaddmflopahiaaW.PrintMore
set_option linter.unusedVariables false
set_option linter.unusedSimpArgs false
set_option maxRecDepth 100000

/-- The tree behind the inserts of a list. -/
def TI (l : List S29) : ST := l.foldl (fun T e => (tinsS T e).1) ⟨0, ([] : List S29)⟩
theorem TI_snoc (l : List S29) (e : S29) : TI (l ++ [e]) = (tinsS (TI l) e).1 := by simp [TI]
theorem TI_inv (l : List S29) : TInvS (TI l) := by
  have : ∀ (l : List S29) (T : ST), TInvS T → TInvS (l.foldl (fun T e => (tinsS T e).1) T) := by
    intro l
    induction l with
    | nil => intro T h; exact h
    | cons e l ih => intro T h; exact ih _ (tins_ent e h).1
  exact this l _ tinv0
theorem TI_len : ∀ (l : List S29) (T : ST), TInvS T → (entS (l.foldl (fun T e => (tinsS T e).1) T)).length ≤ (entS T).length + l.length := by
  intro l
  induction l with
  | nil => intro T h; exact Nat.le_refl _
  | cons e l ih =>
    intro T h
    have h1 := ih _ (tins_ent e h).1
    have h2 := tins_count e h (cnt := ((entS T).length : Int)) rfl
    rw [List.length_cons]
    show (entS (l.foldl _ (tinsS T e).1)).length ≤ _
    split at h2 <;> omega
theorem TI_le (l : List S29) : (entS (TI l)).length ≤ l.length := by
  have := TI_len l ⟨0, ([] : List S29)⟩ tinv0
  have e : (entS ⟨0, ([] : List S29)⟩).length = 0 := rfl
  rw [e] at this
  simpa [TI] using this
def IL (w : World) (l : List S29) (tp j : Nat) (wx : World) : Prop := TS w NoF wx tp (TI (l.take j)) ((entS (TI (l.take j))).length : Int) []
/-- One more is inserted. -/
theorem insert_il (w : World) (l : List S29) (tp j : Nat) (W : World) (x : S29) (hx : l[j]? = some x) (hl : l.length ≤ 300) (s : IL w l tp j W) : Calls Try.prog 11 #[.pointer (some ⟨tp, 0, none⟩), entryV x] W fun E w' => (∃ b, E = .returned (.bool b)) ∧ IL w l tp (j + 1) w' := by
  have hle := TI_le (l.take j)
  rw [List.length_take] at hle
  refine (insert_ts W w NoF tp _ _ [] x s (TI_inv _) (by omega) (by omega)).mono ?_
  rintro E w' ⟨rfl, hs⟩
  refine ⟨⟨_, rfl⟩, ?_⟩
  have e : l.take (j + 1) = l.take j ++ [x] := by
    rw [List.take_add_one, hx]
    rfl
  unfold IL
  rw [e, TI_snoc]
  rw [tins_count x (TI_inv _) rfl] at hs
  exact hs
theorem below_C {w w' : World} {A : Option Addr} {n : Nat} {xs : List S29} (h : Kd.C k29 w A n xs) (hb : Below w.heap.size w w') : Kd.C k29 w' A n xs := Kd.C_below h hb
end Go.Proofs.Bt
end
section
/- Plain law: what an iteration from an entry on tells: the entries of a tree that are not below it. -/
namespace Go.Proofs.Bt
open Go Go.RowKit Go.Proofs.Ytjaddmflopahiaa.Q
set_option linter.unusedVariables false
set_option linter.unusedSimpArgs false

def geB (e x : S29) : Bool := !(decide (ltE x e))
theorem lpost_ents : ∀ (ks : List S29) (B : List (List It)), B.length ≤ ks.length → ent (lpost ks B) = B.flatMap ent
  | ks, [], _ => by simp [lpost_nil, ent]
  | k :: ks, b :: B, h => by
    rw [lpost_cons, ent_sep, ent_app, lpost_ents ks B (by simpa using h), List.flatMap_cons]
  | [], b :: B, h => by simp at h
theorem filter_none {α : Type} {p : α → Bool} {l : List α} (h : ∀ x ∈ l, p x = false) : l.filter p = [] := by
  rw [List.filter_eq_nil_iff]
  intro x hx
  rw [h x hx]
  simp
theorem filter_whole {α : Type} {p : α → Bool} {l : List α} (h : ∀ x ∈ l, p x = true) : l.filter p = l := List.filter_eq_self.2 h
theorem drop_low (ks : List S29) (e : S29) (hs : Sorted ks) : ks.drop (low ks e) = ks.filter (geB e) := by
  obtain ⟨h1, h2⟩ := low_parts ks e hs
  conv => rhs; rw [← List.take_append_drop (low ks e) ks, List.filter_append]
  rw [filter_none (fun x hx => by simp [geB, h1 x hx]), filter_whole (fun x hx => by simp [geB, h2 x hx]), List.nil_append]
theorem flatMap_filter {α β : Type} (p : β → Bool) (f : α → List β) : ∀ (l : List α), (l.flatMap f).filter p = l.flatMap fun a => (f a).filter p
  | [] => rfl
  | a :: l => by rw [List.flatMap_cons, List.flatMap_cons, List.filter_append, flatMap_filter p f l]
theorem flatMap_congr {α β : Type} {f g : α → List β} : ∀ {l : List α}, (∀ x ∈ l, f x = g x) → l.flatMap f = l.flatMap g
  | [], _ => rfl
  | a :: l, h => by rw [List.flatMap_cons, List.flatMap_cons, h a (by simp), flatMap_congr fun x hx => h x (by simp [hx])]
theorem flatMap_map {α β γ : Type} (f : α → β) (g : β → List γ) : ∀ (l : List α), (l.map f).flatMap g = l.flatMap fun a => g (f a)
  | [] => rfl
  | a :: l => by rw [List.map_cons, List.flatMap_cons, List.flatMap_cons, flatMap_map f g l]
theorem leaf_from (ks : List S29) (e : S29) (hr : Srt (ents ks)) : ks.drop (low ks e) = (ent (ents ks)).filter (geB e) := by
  rw [ent_ents]
  exact drop_low ks e (srt_keys hr)
theorem bfrom_ent : ∀ (h n : Nat) (t : BT h) (e : S29), Shape h n t → Srt (flat h t) → bfrom h t e = (ent (flat h t)).filter (geB e)
  | 0, n, t, e, hs, hr => leaf_from t e hr
  | h + 1, n, t, e, hs, hr => by
    obtain ⟨ks, ts⟩ := t
    obtain ⟨h1, h2, h3, h4⟩ := hs
    change ts.length = ks.length + 1 at h3
    change ∀ k ∈ ts, Shape h 2 k at h4
    obtain ⟨A, k, B, rfl, hA, hAB, hX, hY⟩ := at_kid e h3 hr
    have hk := bfrom_ent h 2 k e (h4 k (by simp)) (srt_kid h3 hr k (by simp))
    have hB : B.flatMap (fun k => bfrom h k e) = B.flatMap (fun k => (ent (flat h k)).filter (geB e)) := flatMap_congr fun x hx => bfrom_ent h 2 x e (h4 x (by simp [hx])) (srt_kid h3 hr x (by simp [hx]))
    show ((A ++ k :: B).drop (kidIx ks e)).flatMap (fun k => bfrom h k e) = _
    rw [← hA, List.drop_left, List.flatMap_cons, hk, hB, flat_cut h ks A k B (by omega), ent_app, ent_app, lpost_ents _ _ (by rw [List.length_map, List.length_drop]; omega), List.filter_append, List.filter_append, flatMap_filter, flatMap_map,
      filter_none (l := ent (lpre (ks.take A.length) (A.map (flat h)))) (fun x hx => ?_), List.nil_append]
    rw [mem_ent] at hx
    rcases hX _ hx with hlt | ⟨_, h5, _⟩
    · simp [geB, show ltE x e from hlt]
    · cases h5
theorem from_ent (T : ST) (e : S29) (hi : TInvS T) : fromS T e = (entS T).filter (geB e) := bfrom_ent T.1 _ T.2 e hi.shape hi.srt

/-- Rids such as there may be: none below the least number. -/
def Far (x : S29) : Prop := -9223372036854775808 ≤ x.f1.f0 ∧ -9223372036854775808 ≤ x.f1.f1
theorem low_far (x : S29) (s : ByteArray) (h : Far x) : geB (lowS s) x = !(keyLt x.f0 s) := by
  unfold geB keyLt
  congr 1
  cases hb : Op.bytesLess x.f0.toList s.toList
  · refine decide_eq_false fun hl => ?_
    rcases (ltE_iff _ _).1 hl with h1 | ⟨_, h1 | ⟨_, h1⟩⟩
    · rw [show Op.bytesLess x.f0.toList (lowS s).f0.toList = false from hb] at h1
      cases h1
    · have := h.1
      simp only [lowS] at h1
      omega
    · have := h.2
      simp only [lowS] at h1
      omega
  · exact decide_eq_true ((ltE_iff _ _).2 (.inl hb))
theorem key_mono {x y : S29} {s : ByteArray} (h : ltE x y) (hk : keyLt x.f0 s = false) : keyLt y.f0 s = false := by
  cases hy : keyLt y.f0 s
  · rfl
  · have : keyLt x.f0 s = true := by
      rcases (ltE_iff _ _).1 h with h1 | ⟨h1, _⟩
      · exact bl_trans _ _ _ h1 hy
      · rw [h1]
        exact hy
    rw [this] at hk
    cases hk
/-- One step of the list that is wanted. -/
def wst (frm hiK : ByteArray) (most : Int) (acc : List S29) (x : S29) : List S29 := if keyLt x.f0 frm = false ∧ keyLt x.f0 hiK = true ∧ (acc.length : Int) < most then acc ++ [x] else acc
theorem keyLt_none (k : ByteArray) : keyLt k ⟨#[]⟩ = false := by
  have h : (⟨#[]⟩ : ByteArray).toList = [] := by
    unfold ByteArray.toList
    unfold ByteArray.toList.loop
    rfl
  unfold keyLt
  rw [h]
  cases k.toList <;> rfl
theorem all_ent (T : ST) (hi : TInvS T) (hf : ∀ x ∈ entS T, Far x) : fromS T (lowS ⟨#[]⟩) = entS T := by
  rw [from_ent T _ hi, filter_whole]
  intro x hx
  rw [low_far x _ (hf x hx), keyLt_none]
  rfl
theorem mem_sins {l : List S29} {e z : S29} (h : z ∈ sins l e) : z = e ∨ z ∈ l := by
  unfold sins at h
  split at h
  · exact .inr h
  · exact (mem_insAt _ _ _ _).1 h
theorem far_of {x : S29} (h : wf29 x) : Far x := by
  obtain ⟨_, h1, h2⟩ := h
  have hm : IntKind.min .i64 = -9223372036854775808 := by rfl
  have a1 : (decide (IntKind.min .i64 ≤ x.f1.f0) && decide (x.f1.f0 ≤ IntKind.max .i64)) = true := h1
  have a2 : (decide (IntKind.min .i64 ≤ x.f1.f1) && decide (x.f1.f1 ≤ IntKind.max .i64)) = true := h2
  rw [Bool.and_eq_true, decide_eq_true_eq, hm] at a1 a2
  exact ⟨a1.1, a2.1⟩
end Go.Proofs.Bt
end
section
/- BtreeRanges: the walk. -/
namespace Go.Proofs.Bt
open Go Go.RowKit Go.Proofs.Ytjaddmflopahiaa.Q Go.Proofs.YtjaddmflopahiaaW.PrintWords Go.Proofs.YtjaddmflopahiaaW.PrintLast Go.Proofs.YtjaddmflopahiaaW.PrintMore
set_option linter.unusedVariables false
set_option linter.unusedSimpArgs false
set_option maxRecDepth 100000

/-- A row of entries, as the printed functions read it. -/
theorem rowE_C {w : World} {v : Value} {ks : List S29} (h : RowE w v ks) (hn : ks.length < 100000) : ∃ A c, v = .slice A ks.length c ∧ ks.length ≤ c ∧ Kd.C k29 w A ks.length ks := by
  by_cases h0 : 0 < ks.length
  · obtain ⟨g, c, rfl, hc⟩ := row_slice h h0
    refine ⟨_, c, rfl, hc, rfl, by omega, fun _ => ⟨⟨g, 0, none⟩, rfl, fun j p hj => ⟨_, rfl, k29_mk w p, fun i u hu => ?_⟩⟩⟩
    obtain ⟨hjl, rfl⟩ := List.getElem?_eq_some_iff.1 hj
    obtain ⟨d0, d1, d2⟩ := RowE.cells h j hjl
    rw [Addr.add_lit, Nat.zero_add]
    match i, hu with
    | 0, hu => simp at hu; subst hu; exact d0
    | 1, hu => simp at hu; subst hu; exact d1
    | 2, hu => simp at hu; subst hu; exact d2
  · have hks : ks = [] := List.eq_nil_of_length_eq_zero (by omega)
    subst hks
    rcases h.2.2 with ⟨rfl, _⟩ | ⟨g, c, cur, rfl, _, hc, _⟩
    · exact ⟨none, 0, rfl, Nat.le_refl _, rfl, by simp, fun h => absurd h (by simp)⟩
    · exact ⟨_, c, rfl, hc, rfl, by simp, fun h => absurd h (by simp)⟩
theorem TI_mem (l : List S29) : ∀ z ∈ entS (TI l), z ∈ l := by
  have : ∀ (l : List S29) (T : ST), TInvS T → ∀ z ∈ entS (l.foldl (fun T e => (tinsS T e).1) T), z ∈ entS T ∨ z ∈ l := by
    intro l
    induction l with
    | nil => intro T _ z hz; exact .inl hz
    | cons e l ih =>
      intro T hT z hz
      obtain ⟨h1, h2, _⟩ := tins_ent e hT
      rcases ih _ h1 z hz with h | h
      · rw [h2] at h
        rcases mem_sins h with rfl | h
        · exact .inr (by simp)
        · exact .inl h
      · exact .inr (by simp [h])
  intro z hz
  rcases this l _ tinv0 z hz with h | h
  · have e : entS (TA 0) = [] := rfl
    rw [e] at h
    simp at h
  · exact h
end Go.Proofs.Bt
end
section
/- (*Tree).Twice (function 22). -/
namespace Go.Proofs.Bt
open Go Go.RowKit Go.Proofs.Ytjaddmflopahiaa.Q Go.Proofs.YtjaddmflopahiaaW.PrintWords Go.Proofs.YtjaddmflopahiaaW.PrintLast Go.Proofs.YtjaddmflopahiaaW.PrintMore
set_option linter.unusedVariables false
set_option linter.unusedSimpArgs false
set_option maxRecDepth 100000
attribute [local go_sem] Oper.semAt_some

/-- The least key that two entries have, told from an entry on. -/
def twi : List S29 → Bool → ByteArray → ByteArray × Bool
  | [], _, _ => (⟨#[]⟩, false)
  | x :: xs, so, la => if so = true ∧ (x.f0.toList == la.toList) = true then (la, true) else twi xs true x.f0
def TWPost (w : World) (xs : List S29) (E : Ending) (w' : World) : Prop := E = .returned (.tuple #[.string (twi xs false ⟨#[]⟩).1, .bool (twi xs false ⟨#[]⟩).2]) ∧ Below w.heap.size w w'
theorem own_plain {Bs : List Nat} {W : World} (h : ∀ b ∈ Bs, ∃ t v, Boxed W b t v ∧ v.ownBlock = none) (k : Nat) : Own Bs W k ↔ k ∈ Bs := by
  unfold Own
  constructor
  · rintro (h1 | ⟨b, hb, u, hu, ho⟩)
    · exact h1
    · obtain ⟨t, v, hv, hn⟩ := h b hb
      rw [hv.cell] at hu
      cases hu
      rw [hn] at ho
      cases ho
  · exact .inl
/-- The four boxes. -/
def twB (n0 : Nat) (r : ByteArray) (f : Bool) (la : ByteArray) (so : Bool) : List Chunk := [boxC n0 9 (.string r), boxC (n0 + 1) 4 (.bool f), boxC (n0 + 2) 9 (.string la), boxC (n0 + 3) 4 (.bool so)]
theorem twB_cells {n0 : Nat} {r : ByteArray} {f : Bool} {la : ByteArray} {so : Bool} : ∀ c ∈ twB n0 r f la so, CellsC c := by
  intro c hc
  simp [twB] at hc
  rcases hc with rfl | rfl | rfl | rfl <;> exact boxC_cells _ _ _
theorem twB_own {w0 W : World} {F : Nat → Prop} {n0 : Nat} {r : ByteArray} {f : Bool} {la : ByteArray} {so : Bool} (s : St w0 F W (twB n0 r f la so)) (k : Nat) : Own [n0, n0 + 1, n0 + 2, n0 + 3] W k ↔ k ∈ [n0, n0 + 1, n0 + 2, n0 + 3] := own_plain (fun b hb => by
  simp at hb
  rcases hb with rfl | rfl | rfl | rfl
  · exact ⟨_, _, s.box 0 rfl, rfl⟩
  · exact ⟨_, _, s.box 1 rfl, rfl⟩
  · exact ⟨_, _, s.box 2 rfl, rfl⟩
  · exact ⟨_, _, s.box 3 rfl, rfl⟩) k
theorem twB_good {w0 W : World} {F : Nat → Prop} {n0 : Nat} {r : ByteArray} {f : Bool} {la : ByteArray} {so : Bool} (s : St w0 F W (twB n0 r f la so)) : Good [n0, n0 + 1, n0 + 2, n0 + 3] W := fun k hk => by
  have hk := (twB_own s k).1 hk
  simp at hk
  rcases hk with rfl | rfl | rfl | rfl
  · exact (s.box 0 rfl).lt
  · exact (s.box 1 rfl).lt
  · exact (s.box 2 rfl).lt
  · exact (s.box 3 rfl).lt
theorem twB_keeps {w0 W W' : World} {F : Nat → Prop} {n0 : Nat} {r : ByteArray} {f : Bool} {la : ByteArray} {so : Bool} {r' : ByteArray} {f' : Bool} {la' : ByteArray} {so' : Bool} (s : St w0 F W (twB n0 r f la so)) (s' : St w0 F W' (twB n0 r' f' la' so')) (hk : Keep W W' (fun b => b ∈ [n0, n0 + 1, n0 + 2, n0 + 3])) (B : Nat) :
    KeepsFrom B W W' ∧ KpR [n0, n0 + 1, n0 + 2, n0 + 3] W W' := by
  have hk2 : Keep W W' (Own [n0, n0 + 1, n0 + 2, n0 + 3] W) := ⟨hk.os, hk.tape, hk.output, hk.size, fun k h1 h2 => hk.block k h1 fun h3 => h2 ((twB_own s k).2 h3)⟩
  refine ⟨keepsFrom_of hk2 (fun k o ho hko => ?_) B, KpR.of_keep hk2 (twB_good s') fun k h => .inl ((twB_own s k).2 ((twB_own s' k).1 h))⟩
  have ho := (twB_own s k).1 ho
  simp at ho
  rcases ho with rfl | rfl | rfl | rfl
  · rw [show W.heap[k]? = _ from s.box 0 rfl] at hko; cases hko; rfl
  · rw [show W.heap[n0 + 1]? = _ from s.box 1 rfl] at hko; cases hko; rfl
  · rw [show W.heap[n0 + 2]? = _ from s.box 2 rfl] at hko; cases hko; rfl
  · rw [show W.heap[n0 + 3]? = _ from s.box 3 rfl] at hko; cases hko; rfl
theorem twi_no {x : S29} {r : List S29} {so : Bool} {la : ByteArray} (h : ¬ (so = true ∧ (x.f0.toList == la.toList) = true)) : twi (x :: r) so la = twi r true x.f0 := by
  show (if so = true ∧ (x.f0.toList == la.toList) = true then (la, true) else twi r true x.f0) = _
  rw [if_neg h]
theorem twB_results {W : World} {n0 : Nat} {r : ByteArray} {f : Bool} (h0 : Boxed W n0 9 (.string r)) (h1 : Boxed W (n0 + 1) 4 (.bool f)) (tmps : Array Value) (t2 : tmps.getD 2 undef = .pointer (some ⟨n0, 0, none⟩)) (t3 : tmps.getD 3 undef = .pointer (some ⟨n0 + 1, 0, none⟩)) :
    (results Try.f22 tmps).run Try.prog W = .ok (.tuple #[.string r, .bool f]) W := by
  have c0 := h0.cell
  have c1 := h1.cell
  have t2' : tmps[2]?.getD undef = .pointer (some ⟨n0, 0, none⟩) := by simpa using t2
  have t3' : tmps[3]?.getD undef = .pointer (some ⟨n0 + 1, 0, none⟩) := by simpa using t3
  simp [results, Try.results22, t2', t3', asAddr, loadVar, run_underlying Try.underlying9, run_underlying Try.underlying4, go_sem, c0, c1]
def TwI (w W : World) (n0 : Nat) (pre : List S29) : Prop := ∃ la so, St w NoF W (twB n0 ⟨#[]⟩ false la so) ∧ ∀ r, twi (pre ++ r) false ⟨#[]⟩ = twi r so la
def TwX (w W : World) (n0 : Nat) (pre : List S29) : Prop := ∃ la so, St w NoF W (twB n0 la true la so) ∧ ∀ r, twi (pre ++ r) false ⟨#[]⟩ = (la, true)
set_option maxHeartbeats 4000000 in
theorem twice_calls (w : World) (tp h : Nat) (m : MT h) (cnt : Int) (hT : TreeAt w tp (ptr h m) cnt) (hok : Ok w h m) (hf : Fit (lowS ⟨#[]⟩) h (abs h m)) (hlen : (bfrom h (abs h m) (lowS ⟨#[]⟩)).length < 90000) :
    Calls Try.prog 22 #[.pointer (some ⟨tp, 0, none⟩)] w (TWPost w (bfrom h (abs h m) (lowS ⟨#[]⟩))) := by
  have mixed : Try.prog.follows Departure.mixedOrders = true := by kernel_rfl
  have hu29 := Try.underlying29
  have hu64 := Try.underlying64
  obtain ⟨R, hR⟩ : ∃ R, TWPost w (bfrom h (abs h m) (lowS ⟨#[]⟩)) = R := ⟨_, rfl⟩
  rw [hR]
  have HR := Aside0.mk hR
  obtain ⟨n0, hn0⟩ : ∃ n, w.heap.size = n := ⟨_, rfl⟩
  have s1 := (St.none w NoF).boxed 9 (.string ⟨#[]⟩) hn0
  have s2 := s1.boxed 4 (.bool false) (n := n0 + 1) (by simp [hn0])
  have s3 := s2.boxed 9 (.string ⟨#[]⟩) (n := n0 + 2) (by simp [hn0])
  have s4 := s3.boxed 4 (.bool false) (n := n0 + 3) (by simp [hn0])
  obtain ⟨W2, hW2⟩ : ∃ W, (((w.alloc (.cells #[.string ⟨#[]⟩] 9)).alloc (.cells #[.bool false] 4)).alloc (.cells #[.string ⟨#[]⟩] 9)).alloc (.cells #[.bool false] 4) = W := ⟨_, rfl⟩
  rw [hW2] at s4
  have HS0 := Aside0.mk (show St w NoF W2 (twB n0 ⟨#[]⟩ false ⟨#[]⟩ false) from s4)
  have HTA := Aside0.mk hT
  have HOK := Aside0.mk hok
  have HFT := Aside0.mk hf
  have HLN := Aside0.mk hlen
  have HN0 := Aside0.mk hn0
  have c2 : W2.cell? ⟨n0 + 1 + 1, 0, none⟩ = some (.string ⟨#[]⟩) := (HS0.out.box 2 rfl).cell
  have c3 : W2.cell? ⟨n0 + 1 + 1 + 1, 0, none⟩ = some (.bool false) := (HS0.out.box 3 rfl).cell
  have f2 : W2.frozen? ⟨n0 + 1 + 1, 0, none⟩ = false := (HS0.out.box 2 rfl).frozen
  have f3 : W2.frozen? ⟨n0 + 1 + 1 + 1, 0, none⟩ = false := (HS0.out.box 3 rfl).frozen
  clear hR s1 s2 s3 s4 hT hok hf hlen
  refine (callsIn_wide (n := 5)).1 ?_
  refine callsIn_of_wp_marks Try.func22 rfl trivial ?_ rfl
  simp only [Try.ntmps22, List.size_toArray, List.length_cons, List.length_nil, Nat.reduceAdd, Nat.reduceSub, Array.replicate_succ, Array.replicate_zero, List.push_toArray, List.append_toArray, List.nil_append, List.cons_append]
  gi_wp2
  obtain ⟨W3, hW3⟩ : ∃ W, (W2.setCell ⟨n0 + 1 + 1, 0, none⟩ (.string ⟨#[]⟩)).setCell ⟨n0 + 1 + 1 + 1, 0, none⟩ (.bool false) = W := ⟨_, rfl⟩
  have HS := Aside0.mk (show St w NoF W3 (twB n0 ⟨#[]⟩ false ⟨#[]⟩ false) from hW3 ▸ ((HS0.out.putB 2 rfl (.string ⟨#[]⟩)).putB 3 rfl (.bool false)))
  have hs3 : n0 + 4 ≤ W3.heap.size := (HS.out.box 3 rfl).lt
  have HT3 := Aside0.mk (show TreeAt W3 _ _ _ from blk_below HTA.out (keep_below HS.out.keep))
  rw [hW3]
  clear HS0 hW2 hW3 c2 c3 f2 f3
  refine wpIn_wide.2 (wp_norm ?_)
  refine start_ (n := 6) (S := fun w' => w'.cell? ⟨tp, 0, none⟩ = some (.pointer (some ⟨ptr h m, 0, none⟩))) (ds := []) #[false, false, false, false, false, false] (by kernel_rfl) rfl rfl HT3.out.c0 (fun hHeld => ?_)
  refine pure_ (i := 0) (N := (some 7)) (v := ?_) (a' := ?_) #[true, false, false, false, false, false] rfl rfl (by kernel_rfl) (fun _ _ _ h => h) (Or.inl ⟨by rfl, ?_⟩) ?_ ?_
  rotate_left
  · intro w'
    go_simp
    with_reducible rfl
  rotate_left
  · simp only [Act.put, List.setIfInBounds_toArray, List.set_cons_zero, List.set_cons_succ, i64_w, i32_w]
    rfl
  refine pure_ (i := 1) (N := (some 8)) (v := ?_) (a' := ?_) #[true, true, false, false, false, false] rfl rfl (by kernel_rfl) (fun _ _ _ h => h) (Or.inl ⟨by rfl, ?_⟩) ?_ ?_
  rotate_left
  · intro w'
    go_simp
    with_reducible rfl
  rotate_left
  · simp only [Act.put, List.setIfInBounds_toArray, List.set_cons_zero, List.set_cons_succ, i64_w, i32_w]
    rfl
  refine pure_ (i := 2) (N := (some 9)) (v := ?_) (a' := ?_) #[true, true, true, false, false, false] rfl rfl (by kernel_rfl) (fun _ _ _ h => h) (Or.inl ⟨by rfl, ?_⟩) ?_ ?_
  rotate_left
  · intro w'
    go_simp
    with_reducible rfl
  rotate_left
  · simp only [Act.put, List.setIfInBounds_toArray, List.set_cons_zero, List.set_cons_succ, i64_w, i32_w]
    rfl
  refine take_ (i := 3) (N := (some 10)) (v := ?_) (a' := ?_) #[true, true, true, true, false, false] rfl rfl (by kernel_rfl) (fun _ _ _ h => h) (Or.inl ⟨by rfl, ?_⟩) hHeld ?_ ?_
  rotate_left
  · rintro w' s0
    go_simp
    with_reducible rfl
  rotate_left
  · simp only [Act.put, List.setIfInBounds_toArray, List.set_cons_zero, List.set_cons_succ, i64_w, i32_w]
    rfl
  refine one_ (i := 4) (N := (some 11)) #[true, true, true, true, true, false] rfl rfl (by kernel_rfl) (by decide) (fun K_ hK => ?_)
  refine goes_ Try.func33 (by kernel_rfl) rfl #[.string ⟨#[]⟩] (by rfl) rfl rfl (by (try simp only [List.map_toArray, List.map_cons, List.map_nil]); first | done | rfl) ?_
  refine (lowest_calls _ ⟨#[]⟩).mono ?_
  rintro E w2 ⟨rfl, hb⟩
  have HB2 := Aside0.mk (show Below W3.heap.size W3 w2 from (⟨rfl, rfl, rfl, Nat.le_refl _, fun _ _ => rfl⟩ : Below W3.heap.size W3 W3.drew).trans hb)
  refine ⟨_, rfl, ?_⟩
  clear hHeld hb
  refine hK.out _ _ (show TreeAt w2 _ _ _ from blk_below HT3.out HB2.out).c0 (fun hHeld => ?_)
  clear hK K_
  unfold entryV
  refine norm_ (a' := ?_) ?_ ?_
  rotate_left
  · show Act.put _ (some 11) _ = _
    simp only [Act.put, List.setIfInBounds_toArray, List.set_cons_zero, List.set_cons_succ, i64_w, i32_w]
    rfl
  refine one_ (i := 5) (N := (some 12)) #[true, true, true, true, true, true] rfl rfl (by kernel_rfl) (by decide) (fun K_ hK => ?_)
  refine goes_ Try.func32 (by kernel_rfl) rfl #[.pointer (some ⟨ptr h m, 0, none⟩), entryV (lowS ⟨#[]⟩)] (by rfl) rfl rfl (by (try simp only [List.map_toArray, List.map_cons, List.map_nil]); first | done | rfl) ?_
  refine (from_calls _ _ _).mono ?_
  rintro E W4 ⟨rfl, hw4⟩
  have hb4 : Below w2.heap.size w2 W4 := by rw [hw4]; exact ((Below.refl _ w2).alloc (Nat.le_refl _) _).alloc (by simp) _
  have HX1 := Aside0.mk (show W4.heap[w2.heap.size]? = some (.cells #[.pointer (some ⟨ptr h m, 0, none⟩)] 59 (0, 0)) by rw [hw4]; exact blk_alloc (blk_new w2 _) _)
  have HX2 := Aside0.mk (show W4.heap[w2.heap.size + 1]? = some (boxE (lowS ⟨#[]⟩)) by rw [hw4]; have := blk_new (w2.alloc (.cells #[.pointer (some ⟨ptr h m, 0, none⟩)] 59)) (boxE (lowS ⟨#[]⟩)); rwa [World.size_alloc] at this)
  have HB4 := Aside0.mk (HB2.out.trans (hb4.mono HB2.out.size))
  have HS4 := Aside0.mk (HS.out.below HB4.out)
  have hs4 : n0 + 4 ≤ w2.heap.size := by have := HB2.out.size; omega
  have hs5 := hb4.size
  refine ⟨_, rfl, ?_⟩
  clear hHeld hb4 hw4
  refine hK.out _ _ (show TreeAt W4 _ _ _ from blk_below HT3.out HB4.out).c0 (fun hHeld => ?_)
  clear hK K_
  refine norm_ (a' := ?_) ?_ ?_
  rotate_left
  · show Act.put _ (some 12) _ = _
    simp only [Act.put, List.setIfInBounds_toArray, List.set_cons_zero, List.set_cons_succ, i64_w, i32_w]
    rfl
  refine done_ (by kernel_rfl) ?_
  clear hHeld HT3 HS
  refine NormQ.of ?_
  gi_wp2
  have hOK4 : Ok W4 h m := HOK.out.below (keep_below HS4.out.keep)
  have hfp4 : ∀ a ∈ fp h m, ¬ Own [n0, n0 + 1, n0 + 2, n0 + 3] W4 a := fun a ha ho => by
    have h1 := HOK.out.lt a ha
    rw [HN0.out] at h1
    have h2 := (twB_own HS4.out a).1 ho
    simp at h2
    omega
  obtain ⟨X1, hX1⟩ : ∃ n, w2.heap.size = n := ⟨_, rfl⟩
  rw [hX1] at HX1 HX2 hs4 hs5 ⊢
  refine wpIn_rangeFunc_ownH (n := 5) (F := Fence.wide) (w := W4) rfl (by decide) (gf := 52) (lb := #[.pointer (some ⟨X1, 0, none⟩), .pointer (some ⟨X1 + 1, 0, none⟩)]) rfl trivial (enters_of Try.func52 (by kernel_rfl) rfl)
    (from_stops 4 [n0, n0 + 1, n0 + 2, n0 + 3] X1 (X1 + 1) h m (lowS ⟨#[]⟩) W4 HX1.out HX2.out hOK4 hfp4 (twB_good HS4.out) HFT.out) Kp.t (fun W l o o' hl h hc _ => Kp.b1 (W0 := W4) (by intro b hb; simp at hb; omega) W l o o' hl h hc) (Below.refl _ _) (fun _ => rfl)
    (fun pre W => TwI w W n0 pre)
    (fun c pre W => c = .ret ∧ TwX w W n0 pre)
    ?hI ?hIx ?h0
    (fun x a' W => ∃ Bx, n0 + 3 < Bx ∧ W.heap[Bx]? = some (boxE x) ∧ a' = { tmps := #[.pointer (some ⟨tp, 0, none⟩), undef, .pointer (some ⟨n0, 0, none⟩), .pointer (some ⟨n0 + 1, 0, none⟩), .pointer (some ⟨n0 + 1 + 1, 0, none⟩), .pointer (some ⟨n0 + 1 + 1 + 1, 0, none⟩), .pointer (some ⟨Bx, 0, none⟩), .pointer (some ⟨tp, 0, none⟩), .pointer (some ⟨tp, 0, none⟩), .pointer (some ⟨tp, 0, none⟩), .pointer (some ⟨ptr h m, 0, none⟩), entryV (lowS ⟨#[]⟩), .func (.func 52) #[] #[.pointer (some ⟨X1, 0, none⟩), .pointer (some ⟨X1 + 1, 0, none⟩)], entryV x, undef, undef, undef, undef, undef, undef, undef, undef, undef, undef], defers := [] })
    ?hAx ?assign ?body ?done ?stop
  case hI =>
    rintro s X Y row ⟨la, so, hs, hfn⟩ hg hr
    exact ⟨la, so, hs.turned hg (fun r e => ⟨by have := (hr r e).1; omega, (hr r e).2⟩) twB_cells, hfn⟩
  case hIx =>
    rintro c s X Y row ⟨hc, la, so, hs, hfn⟩ hg hr
    exact ⟨hc, la, so, hs.turned hg (fun r e => ⟨by have := (hr r e).1; omega, (hr r e).2⟩) twB_cells, hfn⟩
  case h0 => exact ⟨⟨#[]⟩, false, HS4.out, fun r => rfl⟩
  case hAx =>
    rintro x a' _ X Y row ⟨Bx, h1, h2, h4⟩ hg hr
    have hne : ∀ b o, X.heap[b]? = some o → o.isCells = true → some b ≠ row := fun b o hb ho e => by
      obtain ⟨_, o2, ho2, hc2⟩ := hr b e.symm
      rw [hb] at ho2
      cases ho2
      rw [ho] at hc2
      cases hc2
    exact ⟨Bx, h1, (hg.block Bx (lt_of_some h2) (hne Bx _ h2 rfl)).trans h2, h4⟩
  case assign =>
    rintro l pre x W K ⟨la, so, hs, hfn⟩ hK
    have HS1 := Aside0.mk hs
    have HF1 := Aside0.mk hfn
    have HK := Aside0.mk hK
    clear hs hfn hK
    unfold entryV
    gi_wp2
    have hba : Below W.heap.size W (W.alloc (.cells #[.string x.f0, .int .i64 x.f1.f0, .int .i64 x.f1.f1] 29)) := (Below.refl _ W).alloc (Nat.le_refl _) _
    exact HK.out _ _ ((KeepsOthers.alloc _ _).from _) (fun g => KpR.below g hba) ⟨la, so, HS1.out.below hba, HF1.out⟩ ⟨W.heap.size, (HS1.out.box 3 rfl).lt, heap_alloc_new W _, rfl⟩
  case body =>
    rintro l pre x a' W hl hrr ⟨la, so, hs, hfn⟩ ⟨Bx, hBx, hX, rfl⟩ hlt
    have HS1 := Aside0.mk hs
    have HF1 := Aside0.mk hfn
    have HXB := Aside0.mk hX
    have c0 := (hs.box 0 rfl).cell
    have c1 := (hs.box 1 rfl).cell
    have c2 : W.cell? ⟨n0 + 1 + 1, 0, none⟩ = _ := (hs.box 2 rfl).cell
    have c3 : W.cell? ⟨n0 + 1 + 1 + 1, 0, none⟩ = _ := (hs.box 3 rfl).cell
    have f0 := (hs.box 0 rfl).frozen
    have f1 := (hs.box 1 rfl).frozen
    have f2 : W.frozen? ⟨n0 + 1 + 1, 0, none⟩ = false := (hs.box 2 rfl).frozen
    have f3 : W.frozen? ⟨n0 + 1 + 1 + 1, 0, none⟩ = false := (hs.box 3 rfl).frozen
    have x0 : W.cell? ⟨Bx, 0, none⟩ = some (.string x.f0) := (blk_cell hX 0).trans rfl
    have x1 : W.cell? ⟨Bx, 1, none⟩ = some (.int .i64 x.f1.f0) := (blk_cell hX 1).trans rfl
    have x2 : W.cell? ⟨Bx, 2, none⟩ = some (.int .i64 x.f1.f1) := (blk_cell hX 2).trans rfl
    clear hs hfn hX hrr hlt
    unfold entryV
    have hgo : (¬ (so = true ∧ (x.f0.toList == la.toList) = true)) → ∀ W', W' = (W.setCell ⟨n0 + 1 + 1, 0, none⟩ (.string x.f0)).setCell ⟨n0 + 1 + 1 + 1, 0, none⟩ (.bool true) → KeepsFrom W4.heap.size W W' ∧ Kp [n0, n0 + 1, n0 + 2, n0 + 3] W W' ∧ TwI w W' n0 (pre ++ [x]) := by
      rintro hn W' rfl
      have hst : St w NoF _ (twB n0 ⟨#[]⟩ false x.f0 true) := (HS1.out.putB 2 rfl (.string x.f0)).putB 3 rfl (.bool true)
      obtain ⟨k1, k2⟩ := twB_keeps HS1.out hst (show Keep W _ (fun b => b ∈ [n0, n0 + 1, n0 + 2, n0 + 3]) from ((Keep.of_below (Below.refl _ W) (fun b => b ∈ [n0, n0 + 1, n0 + 2, n0 + 3])).cell (p := ⟨n0 + 2, 0, none⟩) (.inl (by simp)) _).cell (p := ⟨n0 + 3, 0, none⟩) (.inl (by simp)) _) W4.heap.size
      refine ⟨k1, fun _ => k2, x.f0, true, hst, fun r => ?_⟩
      rw [List.append_assoc, HF1.out]
      exact twi_no hn
    have HGO := Aside0.mk hgo
    clear hgo
    cases so
    · gi_wp2
      exact HGO.out (by simp) _ rfl
    · cases hkk : (x.f0.toList == la.toList)
      · gi_wp2
        exact HGO.out (by rw [hkk]; simp) _ rfl
      · have HKK := Aside0.mk hkk
        gi_wp2
        have hst : St w NoF _ (twB n0 la true la true) := (HS1.out.putB 0 rfl (.string la)).putB 1 rfl (.bool true)
        obtain ⟨k1, k2⟩ := twB_keeps HS1.out hst (show Keep W _ (fun b => b ∈ [n0, n0 + 1, n0 + 2, n0 + 3]) from ((Keep.of_below (Below.refl _ W) (fun b => b ∈ [n0, n0 + 1, n0 + 2, n0 + 3])).cell (p := ⟨n0, 0, none⟩) (.inl (by simp)) _).cell (p := ⟨n0 + 1, 0, none⟩) (.inl (by simp)) _) W4.heap.size
        refine ⟨k1, rfl, la, true, hst, fun r => ?_⟩
        rw [List.append_assoc, HF1.out]
        show twi (x :: r) true la = _
        unfold twi
        rw [if_pos ⟨rfl, HKK.out⟩]
  case done =>
    rintro D ys W hD rfl ⟨la, so, hs, hfn⟩ hK
    have hfin := hfn []
    rw [List.append_nil] at hfin
    have HFIN := Aside0.mk (show twi (bfrom h (abs h m) (lowS ⟨#[]⟩)) false ⟨#[]⟩ = (⟨#[]⟩, false) from hfin)
    have HS1 := Aside0.mk hs
    have c0 := (hs.box 0 rfl).cell
    have c1 := (hs.box 1 rfl).cell
    have f0 := (hs.box 0 rfl).frozen
    have f1 := (hs.box 1 rfl).frozen
    clear hfin hs hfn
    gi_wp2
    have hst : St w NoF _ (twB n0 ⟨#[]⟩ false la so) := (HS1.out.putB 0 rfl (.string ⟨#[]⟩)).putB 1 rfl (.bool false)
    have hkk : Keep W _ (fun b => b ∈ [n0, n0 + 1, n0 + 2, n0 + 3]) := ((Keep.of_below (Below.refl _ W) (fun b => b ∈ [n0, n0 + 1, n0 + 2, n0 + 3])).cell (p := ⟨n0, 0, none⟩) (.inl (by simp)) (.string ⟨#[]⟩)).cell (p := ⟨n0 + 1, 0, none⟩) (.inl (by simp)) (.bool false)
    have hK5 := (hkk.block D (lt_of_some hK) (by simp; omega)).trans hK
    refine ⟨by simp, .inl ⟨_, _, rfl, run_takeDeferred hK5, ?_⟩⟩
    have hst6 : St w NoF (World.putObj _ D (.deferred none)) _ := hst.turned (grownBy_putObj' _ D _) (fun r e => by cases e; exact ⟨by omega, _, hK5, rfl⟩) twB_cells
    refine ⟨_, twB_results (hst6.box 0 rfl) (hst6.box 1 rfl) _ rfl rfl, ?_⟩
    rw [← HR.out]
    refine ⟨?_, keep_below hst6.keep⟩
    rw [HFIN.out]
  case stop =>
    rintro D c pre W hD hpre ⟨rfl, la, so, hs, hfn⟩ hK
    obtain ⟨r, hr⟩ := hpre
    have hfin := hfn r
    have HFIN := Aside0.mk (show twi (bfrom h (abs h m) (lowS ⟨#[]⟩)) false ⟨#[]⟩ = (la, true) from hr ▸ hfin)
    have HS1 := Aside0.mk hs
    clear hfin hs hfn hr
    gi_wp2
    refine ⟨by simp, .inl ⟨_, _, rfl, run_takeDeferred hK, ?_⟩⟩
    have hst6 : St w NoF (World.putObj W D (.deferred none)) _ := HS1.out.turned (grownBy_putObj' _ D _) (fun r e => by cases e; exact ⟨by omega, _, hK, rfl⟩) twB_cells
    refine ⟨_, twB_results (hst6.box 0 rfl) (hst6.box 1 rfl) _ rfl rfl, ?_⟩
    rw [← HR.out]
    refine ⟨?_, keep_below hst6.keep⟩
    rw [HFIN.out]
end Go.Proofs.Bt
end
section
/- (*Tree).Find (function 23). -/
namespace Go.Proofs.Bt
open Go Go.RowKit Go.Proofs.Ytjaddmflopahiaa.Q Go.Proofs.YtjaddmflopahiaaW.PrintWords Go.Proofs.YtjaddmflopahiaaW.PrintLast Go.Proofs.YtjaddmflopahiaaW.PrintMore
set_option linter.unusedVariables false
set_option linter.unusedSimpArgs false
set_option maxRecDepth 100000
attribute [local go_sem] Oper.semAt_some

abbrev S27 := Go.Proofs.Ytjaddmflopahiaa.Q.S27
def encR (x : S27) : List Value := [.int .i64 x.f0, .int .i64 x.f1]
def encRs (l : List S27) : List Value := l.flatMap encR
theorem encRs_len : ∀ (l : List S27), (encRs l).length = l.length * 2
  | [] => rfl
  | x :: l => by
    show (encR x ++ encRs l).length = _
    rw [List.length_append, encRs_len l, List.length_cons]
    simp [encR]
    omega
theorem encRs_app (a b : List S27) : encRs (a ++ b) = encRs a ++ encRs b := by simp [encRs]
def RowR (w : World) (v : Value) (l : List S27) : Prop := Row w 27 2 v l.length (encRs l)
def rowRC (v : Value) (l : List S27) : Chunk := ⟨fun w => RowR w v l, bl v, fun h x hx => Row.lt h x (bl_mem.1 hx), fun h hm => Row.move h fun k hk => hm k (bl_mem.2 hk)⟩
theorem info27 : (Try.prog.info? 27).map (fun i => (i.zero, i.size, i.bytes)) = some (some (.agg #[.int .i64 0, .int .i64 0]), 2, 16) := by kernel_rfl
theorem appendR (w : World) (v : Value) (l : List S27) (x : S27) (vb : Nat) (ty : TypeId) (hR : RowR w v l) (hv : w.heap[vb]? = some (.cells #[.int .i64 x.f0, .int .i64 x.f1] 27 (0, 0))) (hn : l.length < 100000) :
    ∃ g c w', (Builtin.append_ #[53, 53] ty #[v, .slice (some ⟨vb, 0, none⟩) 1 1]).run Try.prog w = .ok (.slice (some ⟨g, 0, none⟩) (l.length + 1) c) w' ∧ RowR w' (.slice (some ⟨g, 0, none⟩) (l.length + 1) c) (l ++ [x]) ∧ w.grownBy w' v.ownBlock ∧ Owns w v (.slice (some ⟨g, 0, none⟩) (l.length + 1) c) := by
  obtain ⟨i0, hi0, hz0, hzs, hzb⟩ := info_parts info27
  obtain ⟨v', w', h1, h2, h3, h4⟩ := run_append_R (P := Try.prog) w 53 ty 27 i0 _ 2 16 Try.underlying53 hi0 hz0 hzs hzb rfl (by decide) (by decide) v l.length (encRs l) hR ⟨vb, 0, none⟩ 1 1 (encR x) rfl (fun j u hu => by
    rw [Addr.add_lit, Nat.zero_add, cell_of_row w vb j _ 27 (0, 0) hv]
    rw [← hu, List.getElem?_toArray]
    rfl) (by
    intro u hu
    simp [encR] at hu
    rcases hu with rfl | rfl <;> rfl) (by omega)
  obtain ⟨g, c, rfl, _⟩ := row_slice h2 (by omega)
  refine ⟨g, c, w', h1, ?_, h3, h4⟩
  unfold RowR
  rw [List.length_append]
  have : encRs (l ++ [x]) = encRs l ++ encR x := by simp [encRs]
  rw [this]
  exact h2
theorem rowRC_cells (v : Value) (l : List S27) : CellsC (rowRC v l) := fun w h b hb => row_cellsC h b hb
section
variable {w0 w w' : World} {F : Nat → Prop} {cs : List Chunk}
theorem St.rowR {v : Value} {l : List S27} (s : St w0 F w cs) (i : Nat) (hi : cs[i]? = some (rowRC v l)) : RowR w v l := s.get i hi
theorem St.setR {u u' : Value} {is is' : List S27} (s : St w0 F w cs) (i : Nat) (hi : cs[i]? = some (rowRC u is)) (hg : w.grownBy w' u.ownBlock) (hr : RowR w' u' is') (ho : Owns w u u') : St w0 F w' (cs.set i (rowRC u' is')) :=
  s.upd i hi _ (keep_row hg) hr (nd_bl u') (bl_sub ho)
end
theorem RowR.slice {w : World} {v : Value} {l : List S27} (h : RowR w v l) : ∃ A c, v = .slice A l.length c := by
  rcases h.2.2 with ⟨rfl, h0⟩ | ⟨g, cap, cur, rfl, _⟩
  · exact ⟨none, 0, by rw [h0]⟩
  · exact ⟨_, _, rfl⟩
/-- The rids of the first entries of a list, as long as they have a key. -/
def fnd (key : ByteArray) : List S29 → List S27
  | [] => []
  | x :: xs => if (x.f0.toList == key.toList) = true then x.f1 :: fnd key xs else []
def FndPost (w : World) (xs : List S27) (E : Ending) (w' : World) : Prop := ∃ v, E = .returned v ∧ St w NoF w' [rowRC v xs]
/-- What the loop knows behind some entries. -/
def FdI (w W : World) (n0 : Nat) (key : ByteArray) (pre : List S29) : Prop := ∃ v rs, St w NoF W [boxC n0 9 (.string key), boxC (n0 + 1) 53 v, rowRC v rs] ∧ rs.length = pre.length ∧ ∀ r, fnd key (pre ++ r) = rs ++ fnd key r
def FdX (w W : World) (n0 : Nat) (key : ByteArray) (pre : List S29) : Prop := ∃ v rs, St w NoF W [boxC n0 9 (.string key), boxC (n0 + 1) 53 v, rowRC v rs] ∧ ∀ r, fnd key (pre ++ r) = rs
theorem fd_cells {n0 : Nat} {key : ByteArray} {v : Value} {rs : List S27} : ∀ c ∈ [boxC n0 9 (.string key), boxC (n0 + 1) 53 v, rowRC v rs], CellsC c := by
  intro c hc
  simp at hc
  rcases hc with rfl | rfl | rfl
  · exact boxC_cells _ _ _
  · exact boxC_cells _ _ _
  · exact rowRC_cells _ _
theorem fnd_yes {key : ByteArray} {x : S29} {r : List S29} (h : (x.f0.toList == key.toList) = true) : fnd key (x :: r) = x.f1 :: fnd key r := by
  show (if (x.f0.toList == key.toList) = true then x.f1 :: fnd key r else []) = _
  rw [if_pos h]
theorem fnd_no {key : ByteArray} {x : S29} {r : List S29} (h : (x.f0.toList == key.toList) = false) : fnd key (x :: r) = [] := by
  show (if (x.f0.toList == key.toList) = true then x.f1 :: fnd key r else []) = _
  rw [if_neg (by rw [h]; simp)]
set_option maxHeartbeats 4000000 in
theorem tfind_calls (w : World) (tp h : Nat) (m : MT h) (cnt : Int) (key : ByteArray) (hT : TreeAt w tp (ptr h m) cnt) (hok : Ok w h m) (hf : Fit (lowS key) h (abs h m)) (hlen : (bfrom h (abs h m) (lowS key)).length < 90000) :
    Calls Try.prog 23 #[.pointer (some ⟨tp, 0, none⟩), .string key] w (FndPost w (fnd key (bfrom h (abs h m) (lowS key)))) := by
  have mixed : Try.prog.follows Departure.mixedOrders = true := by kernel_rfl
  have hu29 := Try.underlying29
  have hu64 := Try.underlying64
  obtain ⟨R, hR⟩ : ∃ R, FndPost w (fnd key (bfrom h (abs h m) (lowS key))) = R := ⟨_, rfl⟩
  rw [hR]
  have HR := Aside0.mk hR
  obtain ⟨n0, hn0⟩ : ∃ n, w.heap.size = n := ⟨_, rfl⟩
  have s1 := (St.none w NoF).boxed 9 (.string key) hn0
  have s3 := s1.boxed 53 (.slice none 0 0) (n := n0 + 1) (by simp [hn0])
  obtain ⟨W3, hW3⟩ : ∃ W, (w.alloc (.cells #[.string key] 9)).alloc (.cells #[.slice none 0 0] 53) = W := ⟨_, rfl⟩
  rw [hW3] at s3
  have HS := Aside0.mk (show St w NoF W3 [boxC n0 9 (.string key), boxC (n0 + 1) 53 (.slice none 0 0)] from s3)
  have HTA := Aside0.mk hT
  have HOK := Aside0.mk hok
  have HFT := Aside0.mk hf
  have HLN := Aside0.mk hlen
  have HN0 := Aside0.mk hn0
  have HT3 := Aside0.mk (show TreeAt W3 _ _ _ from blk_below hT (keep_below HS.out.keep))
  have hs3 : n0 + 2 ≤ W3.heap.size := (HS.out.box 1 rfl).lt
  clear hR s1 s3 hT hok hf hlen
  refine (callsIn_wide (n := 5)).1 ?_
  refine callsIn_of_wp_marks Try.func23 rfl trivial ?_ rfl
  simp only [Try.ntmps23, List.size_toArray, List.length_cons, List.length_nil, Nat.reduceAdd, Nat.reduceSub, Array.replicate_succ, Array.replicate_zero, List.push_toArray, List.append_toArray, List.nil_append, List.cons_append]
  gi_wp2
  refine wpIn_wide.2 (wp_norm ?_)
  refine start_ (n := 7) (S := fun w' => w'.cell? ⟨tp, 0, none⟩ = some (.pointer (some ⟨ptr h m, 0, none⟩)) ∧ w'.cell? ⟨n0, 0, none⟩ = some (.string key)) (ds := []) #[false, false, false, false, false, false, false] (by kernel_rfl) rfl rfl ⟨HT3.out.c0, (HS.out.box 0 rfl).cell⟩ (fun hHeld => ?_)
  refine pure_ (i := 0) (N := (some 7)) (v := ?_) (a' := ?_) #[true, false, false, false, false, false, false] rfl rfl (by kernel_rfl) (fun _ _ _ h => h) (Or.inl ⟨by rfl, ?_⟩) ?_ ?_
  rotate_left
  · intro w'
    go_simp
    with_reducible rfl
  rotate_left
  · simp only [Act.put, List.setIfInBounds_toArray, List.set_cons_zero, List.set_cons_succ, i64_w, i32_w]
    rfl
  refine pure_ (i := 1) (N := (some 8)) (v := ?_) (a' := ?_) #[true, true, false, false, false, false, false] rfl rfl (by kernel_rfl) (fun _ _ _ h => h) (Or.inl ⟨by rfl, ?_⟩) ?_ ?_
  rotate_left
  · intro w'
    go_simp
    with_reducible rfl
  rotate_left
  · simp only [Act.put, List.setIfInBounds_toArray, List.set_cons_zero, List.set_cons_succ, i64_w, i32_w]
    rfl
  refine pure_ (i := 2) (N := (some 9)) (v := ?_) (a' := ?_) #[true, true, true, false, false, false, false] rfl rfl (by kernel_rfl) (fun _ _ _ h => h) (Or.inl ⟨by rfl, ?_⟩) ?_ ?_
  rotate_left
  · intro w'
    go_simp
    with_reducible rfl
  rotate_left
  · simp only [Act.put, List.setIfInBounds_toArray, List.set_cons_zero, List.set_cons_succ, i64_w, i32_w]
    rfl
  refine take_ (i := 3) (N := (some 10)) (v := ?_) (a' := ?_) #[true, true, true, true, false, false, false] rfl rfl (by kernel_rfl) (fun _ _ _ h => h) (Or.inl ⟨by rfl, ?_⟩) hHeld ?_ ?_
  rotate_left
  · rintro w' ⟨s0, s1⟩
    go_simp
    with_reducible rfl
  rotate_left
  · simp only [Act.put, List.setIfInBounds_toArray, List.set_cons_zero, List.set_cons_succ, i64_w, i32_w]
    rfl
  refine take_ (i := 4) (N := (some 11)) (v := ?_) (a' := ?_) #[true, true, true, true, true, false, false] rfl rfl (by kernel_rfl) (fun _ _ _ h => h) (Or.inl ⟨by rfl, ?_⟩) hHeld ?_ ?_
  rotate_left
  · rintro w' ⟨s0, s1⟩
    go_simp
    with_reducible rfl
  rotate_left
  · simp only [Act.put, List.setIfInBounds_toArray, List.set_cons_zero, List.set_cons_succ, i64_w, i32_w]
    rfl
  refine one_ (i := 5) (N := (some 12)) #[true, true, true, true, true, true, false] rfl rfl (by kernel_rfl) (by decide) (fun K_ hK => ?_)
  refine goes_ Try.func33 (by kernel_rfl) rfl #[.string key] (by rfl) rfl rfl (by (try simp only [List.map_toArray, List.map_cons, List.map_nil]); first | done | rfl) ?_
  refine (lowest_calls _ key).mono ?_
  rintro E w2 ⟨rfl, hb⟩
  have HB2 := Aside0.mk (show Below W3.heap.size W3 w2 from (⟨rfl, rfl, rfl, Nat.le_refl _, fun _ _ => rfl⟩ : Below W3.heap.size W3 W3.drew).trans hb)
  refine ⟨_, rfl, ?_⟩
  clear hHeld hb
  refine hK.out _ _ ⟨(show TreeAt w2 _ _ _ from blk_below HT3.out HB2.out).c0, ((HS.out.below HB2.out).box 0 rfl).cell⟩ (fun hHeld => ?_)
  clear hK K_
  unfold entryV
  refine norm_ (a' := ?_) ?_ ?_
  rotate_left
  · show Act.put _ (some 12) _ = _
    simp only [Act.put, List.setIfInBounds_toArray, List.set_cons_zero, List.set_cons_succ, i64_w, i32_w]
    rfl
  refine one_ (i := 6) (N := (some 13)) #[true, true, true, true, true, true, true] rfl rfl (by kernel_rfl) (by decide) (fun K_ hK => ?_)
  refine goes_ Try.func32 (by kernel_rfl) rfl #[.pointer (some ⟨ptr h m, 0, none⟩), entryV (lowS key)] (by rfl) rfl rfl (by (try simp only [List.map_toArray, List.map_cons, List.map_nil]); first | done | rfl) ?_
  refine (from_calls _ _ _).mono ?_
  rintro E W4 ⟨rfl, hw4⟩
  have hb4 : Below w2.heap.size w2 W4 := by rw [hw4]; exact ((Below.refl _ w2).alloc (Nat.le_refl _) _).alloc (by simp) _
  have HX1 := Aside0.mk (show W4.heap[w2.heap.size]? = some (.cells #[.pointer (some ⟨ptr h m, 0, none⟩)] 59 (0, 0)) by rw [hw4]; exact blk_alloc (blk_new w2 _) _)
  have HX2 := Aside0.mk (show W4.heap[w2.heap.size + 1]? = some (boxE (lowS key)) by rw [hw4]; have := blk_new (w2.alloc (.cells #[.pointer (some ⟨ptr h m, 0, none⟩)] 59)) (boxE (lowS key)); rwa [World.size_alloc] at this)
  have HB4 := Aside0.mk (HB2.out.trans (hb4.mono HB2.out.size))
  have HS4 := Aside0.mk (HS.out.below HB4.out)
  have hs4 : n0 + 2 ≤ w2.heap.size := by have := HB2.out.size; omega
  have hs5 := hb4.size
  refine ⟨_, rfl, ?_⟩
  clear hHeld hb4 hw4
  refine hK.out _ _ ⟨(show TreeAt W4 _ _ _ from blk_below HT3.out HB4.out).c0, (HS4.out.box 0 rfl).cell⟩ (fun hHeld => ?_)
  clear hK K_
  refine norm_ (a' := ?_) ?_ ?_
  rotate_left
  · show Act.put _ (some 13) _ = _
    simp only [Act.put, List.setIfInBounds_toArray, List.set_cons_zero, List.set_cons_succ, i64_w, i32_w]
    rfl
  refine done_ (by kernel_rfl) ?_
  clear hHeld HT3 HS hW3
  refine NormQ.of ?_
  gi_wp2
  have hbx : Boxed W4 (n0 + 1) 53 (.slice none 0 0) := HS4.out.box 1 rfl
  have hg4 : Good [n0 + 1] W4 := fun k hk => by
    rcases (own_one hbx k).1 hk with rfl | hk
    · exact hbx.lt
    · simp [Value.ownBlock] at hk
  have hOK4 : Ok W4 h m := HOK.out.below (keep_below HS4.out.keep)
  have hfp4 : ∀ a ∈ fp h m, ¬ Own [n0 + 1] W4 a := fun a ha ho => by
    have h1 := HOK.out.lt a ha
    rw [HN0.out] at h1
    rcases (own_one hbx a).1 ho with h2 | h2
    · omega
    · simp [Value.ownBlock] at h2
  obtain ⟨X1, hX1⟩ : ∃ n, w2.heap.size = n := ⟨_, rfl⟩
  rw [hX1] at HX1 HX2 hs4 hs5 ⊢
  refine wpIn_rangeFunc_ownH (n := 5) (F := Fence.wide) (w := W4) rfl (by decide) (gf := 52) (lb := #[.pointer (some ⟨X1, 0, none⟩), .pointer (some ⟨X1 + 1, 0, none⟩)]) rfl trivial (enters_of Try.func52 (by kernel_rfl) rfl)
    (from_stops 4 [n0 + 1] X1 (X1 + 1) h m (lowS key) W4 HX1.out HX2.out hOK4 hfp4 hg4 HFT.out) Kp.t (fun W l o o' hl h hc _ => Kp.b1 (W0 := W4) (by intro b hb; simp at hb; omega) W l o o' hl h hc) (Below.refl _ _) (fun _ => rfl)
    (fun pre W => FdI w W n0 key pre)
    (fun c pre W => c = .exit 0 ∧ FdX w W n0 key pre)
    ?hI ?hIx ?h0
    (fun x a' W => ∃ Bx, n0 + 1 < Bx ∧ W.heap[Bx]? = some (boxE x) ∧ ¬ Own [n0 + 1] W Bx ∧ a' = { tmps := #[.pointer (some ⟨tp, 0, none⟩), .string key, undef, .pointer (some ⟨n0, 0, none⟩), .slice none 0 0, .pointer (some ⟨n0 + 1, 0, none⟩), .pointer (some ⟨Bx, 0, none⟩), .pointer (some ⟨tp, 0, none⟩), .pointer (some ⟨tp, 0, none⟩), .pointer (some ⟨tp, 0, none⟩), .pointer (some ⟨ptr h m, 0, none⟩), .string key, entryV (lowS key), .func (.func 52) #[] #[.pointer (some ⟨X1, 0, none⟩), .pointer (some ⟨X1 + 1, 0, none⟩)], entryV x, undef, undef, undef, undef, undef, undef, undef, undef, undef, undef], defers := [] })
    ?hAx ?assign ?body ?done ?stop
  case hI =>
    rintro s X Y row ⟨v, rs, hs, hl, hfn⟩ hg hr
    exact ⟨v, rs, hs.turned hg (fun r e => ⟨by have := (hr r e).1; omega, (hr r e).2⟩) fd_cells, hl, hfn⟩
  case hIx =>
    rintro c s X Y row ⟨hc, v, rs, hs, hfn⟩ hg hr
    exact ⟨hc, v, rs, hs.turned hg (fun r e => ⟨by have := (hr r e).1; omega, (hr r e).2⟩) fd_cells, hfn⟩
  case h0 =>
    refine ⟨.slice none 0 0, [], ?_, rfl, fun r => rfl⟩
    exact (HS4.out.fresh (Below.refl _ _) (rowRC (.slice none 0 0) []) (Row.nil _ _ _) (by intro x; simp [rowRC, bl, Value.ownBlock]) (by intro x hx; simp [rowRC, bl, Value.ownBlock] at hx)).perm (perm_ix _ [1, 2, 0] 3 rfl (by decide))
  case hAx =>
    rintro x a' _ X Y row ⟨Bx, h1, h2, h3, h4⟩ hg hr
    have hne : ∀ b o, X.heap[b]? = some o → o.isCells = true → some b ≠ row := fun b o hb ho e => by
      obtain ⟨_, o2, ho2, hc2⟩ := hr b e.symm
      rw [hb] at ho2
      cases ho2
      rw [ho] at hc2
      cases hc2
    refine ⟨Bx, h1, (hg.block Bx (lt_of_some h2) (hne Bx _ h2 rfl)).trans h2, ?_, h4⟩
    intro ho
    have hcell : Y.cell? ⟨n0 + 1, 0, none⟩ = X.cell? ⟨n0 + 1, 0, none⟩ := World.cell?_of_block (a := ⟨n0 + 1, 0, none⟩) (hg.block (n0 + 1) (by have := lt_of_some h2; omega) (fun e => by have := (hr _ e.symm).1; omega))
    exact h3 ((own_eq (fun b hb => by simp at hb; subst hb; exact hcell) Bx).1 ho)
  case assign =>
    rintro l pre x W K ⟨v, rs, hs, hl, hfn⟩ hK
    have HS1 := Aside0.mk hs
    have HL1 := Aside0.mk hl
    have HF1 := Aside0.mk hfn
    have HK := Aside0.mk hK
    clear hs hl hfn hK
    unfold entryV
    gi_wp2
    have hba : Below W.heap.size W (W.alloc (.cells #[.string x.f0, .int .i64 x.f1.f0, .int .i64 x.f1.f1] 29)) := (Below.refl _ W).alloc (Nat.le_refl _) _
    have hs2 := HS1.out.below hba
    refine HK.out _ _ ((KeepsOthers.alloc _ _).from _) (fun g => KpR.below g hba) ⟨v, rs, hs2, HL1.out, HF1.out⟩ ⟨W.heap.size, (HS1.out.box 1 rfl).lt, heap_alloc_new W _, fun ho => ?_, rfl⟩
    rcases (own_one (hs2.box 1 rfl) _).1 ho with h1 | h1
    · have := (HS1.out.box 1 rfl).lt
      omega
    · have := Row.lt (HS1.out.rowR 2 rfl) _ h1
      omega
  case body =>
    rintro l pre x a' W hl hrr ⟨v, rs, hs, hrl, hfn⟩ ⟨Bx, hBx, hX, hno, rfl⟩ hlt
    obtain ⟨A, c, rfl⟩ := (hs.rowR 2 rfl).slice
    have HS1 := Aside0.mk hs
    have HRL := Aside0.mk hrl
    have HF1 := Aside0.mk hfn
    have HXB := Aside0.mk hX
    have HNO := Aside0.mk hno
    have c0 := (hs.box 0 rfl).cell
    have c1 := (hs.box 1 rfl).cell
    have f1 := (hs.box 1 rfl).frozen
    have x0 : W.cell? ⟨Bx, 0, none⟩ = some (.string x.f0) := (blk_cell hX 0).trans rfl
    have x1 : W.cell? ⟨Bx, 1, none⟩ = some (.int .i64 x.f1.f0) := (blk_cell hX 1).trans rfl
    have x2 : W.cell? ⟨Bx, 2, none⟩ = some (.int .i64 x.f1.f1) := (blk_cell hX 2).trans rfl
    obtain ⟨L, hL⟩ : ∃ L, rs.length = L := ⟨_, rfl⟩
    rw [hL] at c1
    have HL := Aside0.mk hL
    have hLb : L < 100000 := by
      have := HLN.out
      omega
    clear hs hfn hX hno hrr hL hlt hrl
    unfold entryV
    cases hkk : (x.f0.toList == key.toList)
    · have HKK := Aside0.mk hkk
      gi_wp2
      refine ⟨KeepsFrom.refl _ _, rfl, _, rs, HS1.out, fun r => ?_⟩
      rw [List.append_assoc, HF1.out]
      show rs ++ fnd key (x :: r) = rs
      rw [fnd_no HKK.out, List.append_nil]
    · have HKK := Aside0.mk hkk
      have HSa := Aside0.mk (HS1.out.alloc #[.int .i64 x.f1.f0, .int .i64 x.f1.f1] 27 rfl)
      gi_wp2_with (gi_at_builtin; obtain ⟨g', c', w3, hrun, hrow, hgrow, hown⟩ := appendR _ _ rs x.f1 W.heap.size 53 (HSa.out.rowR 2 rfl) (HSa.out.blk 3 rfl) (by rw [HL.out]; omega); rw [HL.out] at hrun hrow hgrow hown; have HSb := Aside0.mk (HSa.out.setR 2 rfl (by rw [HL.out]; exact hgrow) hrow (by rw [HL.out]; exact hown)); have HG := Aside0.mk hgrow; have HO := Aside0.mk hown; refine wpListIn_append_run rfl (.tmp 19) (.tmp 22) 53 53 rfl (.slice A L c) (.slice (some ⟨W.heap.size, 0, none⟩) 1 1) rfl rfl hrun ?_; clear hrun hrow hgrow hown c0 c1 f1 x0 x1 x2; have c1 := (HSb.out.box 1 rfl).cell; have f1 := (HSb.out.box 1 rfl).frozen)
      have hst := HSb.out.putB 1 rfl (.slice (some ⟨g', 0, none⟩) (L + 1) c')
      have hbx1 := HS1.out.box 1 rfl
      rw [HL.out] at hbx1
      have hrw1 : RowR W (.slice A L c) rs := by have := HS1.out.rowR 2 rfl; rw [HL.out] at this; exact this
      have hkeep : Keep W (w3.setCell ⟨n0 + 1, 0, none⟩ (.slice (some ⟨g', 0, none⟩) (L + 1) c')) (Own [n0 + 1] W) :=
        (((Keep.of_below (Below.refl _ W) _).below ((Below.refl _ W).alloc (Nat.le_refl _) (.cells #[.int .i64 x.f1.f0, .int .i64 x.f1.f1] 27))).grown HG.out (fun b hb => .inl ((own_one hbx1 b).2 (.inr hb)))).cell (p := ⟨n0 + 1, 0, none⟩) (.inl ((own_one hbx1 _).2 (.inl rfl))) _
      have hown : ∀ k, Own [n0 + 1] (w3.setCell ⟨n0 + 1, 0, none⟩ (.slice (some ⟨g', 0, none⟩) (L + 1) c')) k → Own [n0 + 1] W k ∨ W.heap.size ≤ k := fun k hk => by
        rcases (own_one (hst.box 1 rfl) k).1 hk with h1 | h1
        · exact .inl ((own_one hbx1 k).2 (.inl h1))
        · rcases HO.out with h2 | ⟨k2, h2, h3⟩
          · exact .inl ((own_one hbx1 k).2 (.inr (h2 ▸ h1)))
          · rw [h1] at h2
            simp at h2 h3
            exact .inr (by omega)
      have hgood : Good [n0 + 1] (w3.setCell ⟨n0 + 1, 0, none⟩ (.slice (some ⟨g', 0, none⟩) (L + 1) c')) := fun k hk => by
        rcases (own_one (hst.box 1 rfl) k).1 hk with h1 | h1
        · rw [h1]
          exact (hst.box 1 rfl).lt
        · exact Row.lt (hst.rowR 2 rfl) k h1
      refine ⟨keepsFrom_of hkeep (fun k o ho hko => ?_) _, fun _ => KpR.of_keep hkeep hgood hown, _, rs ++ [x.f1], hst.left, ?_, fun r => ?_⟩
      · rcases (own_one hbx1 k).1 ho with h1 | h1
        · rw [h1, show W.heap[n0 + 1]? = _ from hbx1] at hko
          cases hko
          rfl
        · obtain ⟨o2, h2, h3⟩ := row_cellsC hrw1 k (bl_mem.2 h1)
          rw [hko] at h2
          cases h2
          exact h3
      · rw [List.length_append, List.length_append, HRL.out]
        rfl
      · rw [List.append_assoc, HF1.out]
        show rs ++ fnd key (x :: r) = _
        rw [fnd_yes HKK.out, List.append_assoc]
        rfl
  case done =>
    rintro D ys W hD rfl ⟨v, rs, hs, hrl, hfn⟩ hK
    have hfin := hfn []
    rw [List.append_nil] at hfin
    have HFIN := Aside0.mk (show fnd key (bfrom h (abs h m) (lowS key)) = rs from hfin.trans (List.append_nil rs))
    have HS1 := Aside0.mk hs
    have c1 := (hs.box 1 rfl).cell
    clear hfin hs hfn hrl
    gi_wp2
    refine ⟨by simp, .inl ⟨_, _, rfl, run_takeDeferred hK, ?_⟩⟩
    refine ⟨_, results_tmp rfl _ _ _, ?_⟩
    rw [← HR.out, HFIN.out]
    have hst : St w NoF (W.putObj D (.deferred none)) _ := HS1.out.turned (grownBy_putObj' W D _) (fun r e => by cases e; exact ⟨by omega, _, hK, rfl⟩) fd_cells
    exact ⟨v, rfl, St.drop (A := [boxC n0 9 (.string key), boxC (n0 + 1) 53 v]) hst⟩
  case stop =>
    rintro D c pre W hD hpre ⟨rfl, v, rs, hs, hfn⟩ hK
    obtain ⟨r, hr⟩ := hpre
    have HFIN := Aside0.mk (show fnd key (bfrom h (abs h m) (lowS key)) = rs from hr ▸ hfn r)
    have HS1 := Aside0.mk hs
    have c1 := (hs.box 1 rfl).cell
    clear hs hfn hr
    gi_wp2
    refine ⟨by simp, .inl ⟨_, _, rfl, run_takeDeferred hK, ?_⟩⟩
    refine ⟨_, results_tmp rfl _ _ _, ?_⟩
    rw [← HR.out, HFIN.out]
    have hst : St w NoF (W.putObj D (.deferred none)) _ := HS1.out.turned (grownBy_putObj' W D _) (fun r e => by cases e; exact ⟨by omega, _, hK, rfl⟩) fd_cells
    exact ⟨v, rfl, St.drop (A := [boxC n0 9 (.string key), boxC (n0 + 1) 53 v]) hst⟩
end Go.Proofs.Bt
end
section
/- Plain law: a key that two entries have. -/
namespace Go.Proofs.Bt
open Go Go.RowKit Go.Proofs.Ytjaddmflopahiaa.Q
set_option linter.unusedVariables false
set_option linter.unusedSimpArgs false

/-- How many entries have a key. -/
def kc (k : ByteArray) (L : List S29) : Nat := (L.filter fun x => x.f0.toList == k.toList).length
theorem kc_nil (k : ByteArray) : kc k [] = 0 := rfl
theorem kc_cons (k : ByteArray) (x : S29) (L : List S29) : kc k (x :: L) = (if (x.f0.toList == k.toList) = true then 1 else 0) + kc k L := by
  unfold kc
  rw [List.filter_cons]
  split
  · rw [List.length_cons]; omega
  · omega
theorem kc_app (k : ByteArray) (A B : List S29) : kc k (A ++ B) = kc k A + kc k B := by
  unfold kc
  rw [List.filter_append, List.length_append]
theorem kc_zero {k : ByteArray} {L : List S29} (h : ∀ x ∈ L, (x.f0.toList == k.toList) = false) : kc k L = 0 := by
  unfold kc
  rw [filter_none h]
  rfl
theorem lt_ne {a b : ByteArray} (h : keyLt a b = true) : (a.toList == b.toList) = false := by
  rw [beq_eq_false_iff_ne]
  intro e
  unfold keyLt at h
  rw [e, bl_irr] at h
  cases h
theorem lt_ne' {a b : ByteArray} (h : keyLt a b = true) : (b.toList == a.toList) = false := by
  rw [beq_eq_false_iff_ne]
  intro e
  unfold keyLt at h
  rw [e, bl_irr] at h
  cases h
/-- In order: the key of the later entry isn't below. -/
theorem ord_key {x y : S29} (h : ltE x y) : keyLt x.f0 y.f0 = true ∨ x.f0.toList = y.f0.toList := by
  rcases (ltE_iff _ _).1 h with h1 | ⟨h1, _⟩
  · exact .inl h1
  · exact .inr (by rw [h1])
theorem lt_le {a : ByteArray} {x y : S29} (h : keyLt a x.f0 = true) (k : ltE x y) : keyLt a y.f0 = true := by
  rcases ord_key k with h1 | h1
  · exact bl_trans _ _ _ h h1
  · unfold keyLt at h ⊢
    rw [← h1]
    exact h
theorem fnd_kc (k : ByteArray) : ∀ (L : List S29), Sorted L → (∀ x ∈ L, Far x) → (fnd k (L.filter (geB (lowS k)))).length = kc k L
  | [], _, _ => rfl
  | x :: L, hs, hf => by
    obtain ⟨h1, h2⟩ := List.pairwise_cons.1 hs
    have ih := fnd_kc k L h2 fun y hy => hf y (by simp [hy])
    rw [List.filter_cons, low_far x k (hf x (by simp)), kc_cons]
    cases hk : keyLt x.f0 k
    · rw [if_pos (by rfl)]
      cases he : (x.f0.toList == k.toList)
      · rw [fnd_no he, if_neg (by simp)]
        have hlt : keyLt k x.f0 = true := by
          rcases bl_tri x.f0.toList k.toList with h3 | h3 | h3
          · unfold keyLt at hk
            rw [h3] at hk
            cases hk
          · rw [h3] at he
            simp at he
          · exact h3
        rw [kc_zero fun y hy => lt_ne' (lt_le hlt (h1 y hy))]
        rfl
      · rw [fnd_yes he, if_pos rfl, List.length_cons, ih]
        omega
    · rw [if_neg (by simp), ih, if_neg (by rw [lt_ne hk]; simp)]
      omega
/-- The keys are in strict order. -/
abbrev PK (L : List S29) : Prop := L.Pairwise fun x y => keyLt x.f0 y.f0 = true
theorem pk_kc (k : ByteArray) : ∀ (L : List S29), PK L → kc k L ≤ 1
  | [], _ => Nat.zero_le _
  | x :: L, h => by
    obtain ⟨h1, h2⟩ := List.pairwise_cons.1 h
    rw [kc_cons]
    split
    · rename_i he
      have he := eq_of_beq he
      rw [kc_zero fun y hy => ?_]
      · omega
      · have := lt_ne' (h1 y hy)
        rw [he] at this
        exact this
    · have := pk_kc k L h2
      omega
theorem tw_rec : ∀ (rest pre : List S29) (e : S29), Sorted (pre ++ e :: rest) → PK (pre ++ [e]) →
    (twi rest true e.f0 = (⟨#[]⟩, false) ∧ PK (pre ++ e :: rest)) ∨ (∃ A x y B, pre ++ e :: rest = A ++ x :: y :: B ∧ (x.f0.toList == y.f0.toList) = true ∧ PK (A ++ [x]) ∧ twi rest true e.f0 = (x.f0, true))
  | [], pre, e, hs, hp => .inl ⟨rfl, hp⟩
  | x :: r, pre, e, hs, hp => by
    by_cases he : (x.f0.toList == e.f0.toList) = true
    · refine .inr ⟨pre, e, x, r, rfl, ?_, hp, ?_⟩
      · rw [eq_of_beq he]
        simp
      · show (if true = true ∧ (x.f0.toList == e.f0.toList) = true then (e.f0, true) else twi r true x.f0) = _
        rw [if_pos ⟨rfl, he⟩]
    · have ht : twi (x :: r) true e.f0 = twi r true x.f0 := twi_no (by rintro ⟨_, h⟩; exact he h)
      have happ : pre ++ e :: x :: r = (pre ++ [e]) ++ x :: r := by simp
      have hex : keyLt e.f0 x.f0 = true := by
        have h1 := (List.pairwise_append.1 hs).2.1
        rcases ord_key ((List.pairwise_cons.1 h1).1 x (by simp)) with h2 | h2
        · exact h2
        · rw [h2] at he
          simp at he
      rw [ht, happ]
      refine tw_rec r (pre ++ [e]) x (happ ▸ hs) ?_
      refine List.pairwise_append.2 ⟨hp, List.pairwise_singleton _ _, fun z hz y hy => ?_⟩
      simp at hy
      subst hy
      rcases List.mem_append.1 hz with hz | hz
      · exact bl_trans _ _ _ ((List.pairwise_append.1 hp).2.2 z hz e (by simp)) hex
      · simp at hz
        subst hz
        exact hex
theorem tw_law (L : List S29) (hs : Sorted L) : ∃ N, N ≤ L.length ∧ (∀ j x, j < N → L[j]? = some x → kc x.f0 L ≤ 1) ∧
    ((N = L.length ∧ twi L false ⟨#[]⟩ = (⟨#[]⟩, false)) ∨ (∃ x, L[N]? = some x ∧ 2 ≤ kc x.f0 L ∧ twi L false ⟨#[]⟩ = (x.f0, true))) := by
  cases L with
  | nil => exact ⟨0, Nat.le_refl _, fun j x hj => by omega, .inl ⟨rfl, rfl⟩⟩
  | cons e r =>
    have ht : twi (e :: r) false ⟨#[]⟩ = twi r true e.f0 := twi_no (by rintro ⟨h, _⟩; cases h)
    rw [ht]
    rcases tw_rec r [] e hs (List.pairwise_singleton _ _) with ⟨h1, h2⟩ | ⟨A, x, y, B, h1, h2, h3, h4⟩
    · exact ⟨(e :: r).length, Nat.le_refl _, fun j x _ _ => pk_kc _ _ h2, .inl ⟨rfl, h1⟩⟩
    · rw [List.nil_append] at h1
      rw [h1] at hs ⊢
      rw [h4]
      have hs2 := (List.pairwise_append.1 hs).2.1
      have hxy := eq_of_beq h2
      refine ⟨A.length, by simp, fun j z hj hz => ?_, .inr ⟨x, by simp, ?_, rfl⟩⟩
      · rw [List.getElem?_append_left hj] at hz
        have hzA := List.mem_of_getElem? hz
        have hzx : keyLt z.f0 x.f0 = true := (List.pairwise_append.1 h3).2.2 z hzA x (by simp)
        have e1 : A ++ x :: y :: B = (A ++ [x]) ++ y :: B := by simp
        rw [e1, kc_app, kc_zero (L := y :: B) fun w hw => ?_]
        · have := pk_kc z.f0 _ h3
          omega
        · exact lt_ne' (lt_le hzx ((List.pairwise_cons.1 hs2).1 w hw))
      · rw [kc_app, kc_cons, kc_cons, if_pos (by simp), if_pos (by rw [hxy]; simp)]
        omega
end Go.Proofs.Bt
end
section
/- BtreeTwice: the walk. -/
namespace Go.Proofs.Bt
open Go Go.RowKit Go.Proofs.Ytjaddmflopahiaa.Q Go.Proofs.YtjaddmflopahiaaW.PrintWords Go.Proofs.YtjaddmflopahiaaW.PrintLast Go.Proofs.YtjaddmflopahiaaW.PrintMore
set_option linter.unusedVariables false
set_option linter.unusedSimpArgs false
set_option maxRecDepth 100000

theorem twice_ts (W w0 : World) (F : Nat → Prop) (tp : Nat) (T : ST) (cnt : Int) (R : List Chunk) (s : TS w0 F W tp T cnt R) (hi : TInvS T) (hb : (fromS T (lowS ⟨#[]⟩)).length < 90000) :
    Calls Try.prog 22 #[.pointer (some ⟨tp, 0, none⟩)] W fun E w' => E = .returned (.tuple #[.string (twi (fromS T (lowS ⟨#[]⟩)) false ⟨#[]⟩).1, .bool (twi (fromS T (lowS ⟨#[]⟩)) false ⟨#[]⟩).2]) ∧ TS w0 F w' tp T cnt R := by
  have s0 := s
  obtain ⟨h, t⟩ := T
  obtain ⟨m, hm, sX⟩ := TS.open s
  subst hm
  have s' : St w0 F W (treeT tp h m cnt ++ R) := sX
  refine (twice_calls W tp h m cnt (s'.tat 0 rfl) (s'.tree 1 rfl) (fit_of h _ _ _ hi.shape hi.srt) hb).mono ?_
  rintro E w' ⟨he, hb⟩
  exact ⟨he, s0.below hb⟩
theorem find_ts (W w0 : World) (F : Nat → Prop) (tp : Nat) (T : ST) (cnt : Int) (R : List Chunk) (key : ByteArray) (s : TS w0 F W tp T cnt R) (hi : TInvS T) (hb : (fromS T (lowS key)).length < 90000) :
    Calls Try.prog 23 #[.pointer (some ⟨tp, 0, none⟩), .string key] W fun E w' => (∃ A c, E = .returned (.slice A (fnd key (fromS T (lowS key))).length c)) ∧ TS w0 F w' tp T cnt R := by
  have s0 := s
  obtain ⟨h, t⟩ := T
  obtain ⟨m, hm, sX⟩ := TS.open s
  subst hm
  have s' : St w0 F W (treeT tp h m cnt ++ R) := sX
  refine (tfind_calls W tp h m cnt key (s'.tat 0 rfl) (s'.tree 1 rfl) (fit_of h _ _ _ hi.shape hi.srt) hb).mono ?_
  rintro E w' ⟨v, rfl, st⟩
  obtain ⟨A, c, rfl⟩ := (st.rowR 0 rfl).slice
  exact ⟨⟨A, c, rfl⟩, s0.below (keep_below st.keep)⟩
set_option maxHeartbeats 1500000 in
theorem twicelaw_calls (w : World) (A0 : Option Addr) (c0 : Nat) (l : List S29) (hC : Kd.C k29 w A0 l.length l) (hfar : ∀ x ∈ l, Far x) : Calls Try.prog 7 #[.slice A0 l.length c0] w fun E w' => E = .returned (.bool true) ∧ Below w.heap.size w w' := by
  obtain ⟨R, hR⟩ : ∃ R, (fun E w' => E = Ending.returned (.bool true) ∧ Below w.heap.size w w') = R := ⟨_, rfl⟩
  have HR := Aside0.mk hR
  rw [hR]
  have HC := Aside0.mk hC
  have HFAR := Aside0.mk hfar
  obtain ⟨n, hn⟩ : ∃ n, l.length = n := ⟨_, rfl⟩
  have HN := Aside0.mk hn
  have HA := Aside0.mk (alive_calls w)
  rw [hn]
  clear hR hC hn hfar
  by_cases hg : 300 < n
  · have hg2 : decide ((300 : Int) < (n : Int)) = true := by simp; omega
    go_enter Try.func7, Try.ntmps7
    go_wp2_with (go_at_call 9; refine HA.out.mono ?_; clear HA; rintro E w1 ⟨rfl, hb⟩; have HB1 := Aside0.mk hb; clear hb)
    first | (rw [← HR.out]) | (go_ret; rw [← HR.out])
    exact ⟨rfl, HB1.out⟩
  · have hg1 : decide ((300 : Int) < (n : Int)) = false := by simp; omega
    go_enter Try.func7, Try.ntmps7
    go_wp2_with (first
      | (go_at_call 9; refine HA.out.mono ?_; clear HA; rintro E w1 ⟨rfl, hb⟩; have HB1 := Aside0.mk hb; clear hb)
      | (go_at_call 10; refine (new_ts _ w NoF [] ⟨Keep.of_below HB1.out _, fun c hc => (by cases hc), fun a => (by simp [fpc]), fun b hb => (by simp [fpc] at hb)⟩).mono ?_; rintro E w2 ⟨tp, rfl, hs⟩; have HS := Aside0.mk (show IL w l tp 0 w2 from hs); clear hs))
    go_loopg [4] n (fun gq v4 wx => ∃ j : Nat, v4 = .int .i64 j ∧ j + gq = n ∧ Aside0 (IL w l tp j wx))
    case atStart => exact ⟨0, rfl, by omega, HS⟩
    case round =>
      clear HS HB1 hg1
      obtain ⟨j, rfl, hj, HS⟩ := hrel
      cases gk with
      | succ gq =>
        have hjn : j < n := by omega
        have hjn2 : (j : Int) < (n : Int) := by omega
        have hj0 : (0 : Int) ≤ (j : Int) := by omega
        obtain ⟨x, hx⟩ : ∃ x, l[j]? = some x := ⟨_, List.getElem?_eq_getElem (by rw [HN.out]; exact hjn)⟩
        have hrx : rd_T29 l (j : Int) = x := by simp [rd_T29, List.getD_eq_getElem?_getD, hx]
        obtain ⟨ad, rfl, d0, d1, d2⟩ := at_T29 (below_C HC.out (keep_below HS.out.keep)) (j : Int) hj0 (by rw [HN.out]; exact hjn2)
        rw [hrx, Int.toNat_natCast] at d0 d1 d2
        have HX := Aside0.mk hx
        clear hrx hx
        by_cases hsz : 500 < x.f0.size
        · have hs2 : decide ((500 : Int) < (x.f0.size : Int)) = true := by simp; omega
          go_wp2
          first | (rw [← HR.out]) | (go_ret; rw [← HR.out])
          exact ⟨rfl, keep_below HS.out.keep⟩
        · have hs2 : decide ((500 : Int) < (x.f0.size : Int)) = false := by simp; omega
          go_wp2_with (go_at_call 11; refine (insert_il w l tp j wr x HX.out (by rw [HN.out]; omega) HS.out).mono ?_; clear d0 d1 d2; rintro E w3 ⟨⟨b, rfl⟩, hs3⟩; have HS3 := Aside0.mk hs3; clear hs3)
          go_roundg gq
          case measure => omega
          case rel => exact ⟨j + 1, by go_num, by omega, HS3⟩
      | zero =>
        obtain rfl : j = n := by omega
        have HTK := Aside0.mk (show l.take j = l by rw [List.take_of_length_le]; rw [HN.out]; omega)
        have hs1 : TS w NoF wr tp (TI l) ((entS (TI l)).length : Int) [] := by
          have := HS.out
          unfold IL at this
          rw [HTK.out] at this
          exact this
        have hfr : ∀ x ∈ entS (TI l), Far x := fun x hx => HFAR.out x (TI_mem l x hx)
        obtain ⟨T, hT⟩ : ∃ T, TI l = T := ⟨_, rfl⟩
        have hinv := TI_inv l
        have hle := TI_le l
        rw [hT] at hs1 hinv hle hfr
        have hall := all_ent T hinv hfr
        have hso := entS_sorted hinv
        have hfr2 := fun e => from_ent T e hinv
        obtain ⟨L, hL⟩ : ∃ L, entS T = L := ⟨_, rfl⟩
        rw [hL] at hs1 hle hfr hall hso
        rw [HN.out] at hle
        have hfl : ∀ e, (fromS T e).length < 90000 := fun e => by
          rw [hfr2 e, hL]
          have := List.length_filter_le (geB e) L
          omega
        have HFL := Aside0.mk hfl
        have hfk : ∀ k, (fnd k (fromS T (lowS k))).length = kc k L := fun k => by
          rw [hfr2, hL]
          exact fnd_kc k L hso hfr
        have HFK := Aside0.mk hfk
        have HSA := Aside0.mk hs1
        have HINV := Aside0.mk hinv
        have HALL := Aside0.mk hall
        obtain ⟨m, hm⟩ : ∃ m, L.length = m := ⟨_, rfl⟩
        have HM := Aside0.mk hm
        have hm3 : m ≤ 300 := by omega
        obtain ⟨N, hN1, hN2, hN3⟩ := tw_law L hso
        rw [hm] at hN1 hN3
        have HN2 := Aside0.mk hN2
        have hkm : ∀ k, kc k L ≤ m := fun k => by rw [← hm]; exact List.length_filter_le _ _
        have HKM := Aside0.mk hkm
        clear hs1 hinv hT HS HTK hfr hso hfr2 hall hL hle hfl hm hfk hN2 hkm
        rcases hN3 with ⟨rfl, htw⟩ | ⟨x0, hx0, hk0, htw⟩
        · have HTW := Aside0.mk htw
          clear htw
          go_wp2_with (first
            | (go_at_call 22; refine (twice_ts _ w NoF tp T _ [] HSA.out HINV.out (HFL.out _)).mono ?_; rw [HALL.out, HTW.out]; rintro E w3 ⟨rfl, hs2⟩; have HS2 := Aside0.mk hs2; clear hs2)
            | (go_at_call 18; refine (all_ts _ w NoF tp T _ [] HS2.out HINV.out (HFL.out _)).mono ?_; rintro E w4 ⟨va, rfl, hs3⟩; rw [HALL.out] at hs3; obtain ⟨AL, cL, rfl, hcL, hCL⟩ := rowE_C (hs3.rest.rowE 0 rfl) (by rw [HM.out]; omega); rw [HM.out] at hs3 hcL; have HS3 := Aside0.mk hs3; rw [HM.out]; clear hs3 hCL hcL))
          go_loopg [8] N (fun gq v8 wx => ∃ j : Nat, v8 = .int .i64 j ∧ j + gq = N ∧ Aside0 (TS w NoF wx tp T (N : Int) [rowEC (.slice AL N cL) L]))
          case atStart => exact ⟨0, rfl, by omega, HS3⟩
          case round =>
            clear HS3 HS2
            obtain ⟨j, rfl, hj, HS⟩ := hrel
            cases gk with
            | succ gq =>
              have hjn : j < N := by omega
              have hjn2 : (j : Int) < (N : Int) := by omega
              have hj0 : (0 : Int) ≤ (j : Int) := by omega
              obtain ⟨x, hx⟩ : ∃ x, L[j]? = some x := ⟨_, List.getElem?_eq_getElem (by rw [HM.out]; exact hjn)⟩
              have hrx : rd_T29 L (j : Int) = x := by simp [rd_T29, List.getD_eq_getElem?_getD, hx]
              obtain ⟨AL', cL', eL, hcL, hCL⟩ := rowE_C (HS.out.rest.rowE 0 rfl) (by rw [HM.out]; omega)
              rw [HM.out] at eL hcL hCL
              obtain ⟨rfl, rfl⟩ : AL = AL' ∧ cL = cL' := by
                injection eL with e1 e2 e3
                exact ⟨e1, e3⟩
              obtain ⟨ad, rfl, d0, d1, d2⟩ := at_T29 hCL (j : Int) hj0 hjn2
              rw [hrx, Int.toNat_natCast] at d0 d1 d2
              have hk1 := HN2.out j x hjn hx
              obtain ⟨q, hq⟩ : ∃ q, kc x.f0 L = q := ⟨_, rfl⟩
              rw [hq] at hk1
              have HQ := Aside0.mk (show (fnd x.f0 (fromS T (lowS x.f0))).length = q from (HFK.out _).trans hq)
              have hq2 : decide ((1 : Int) < (q : Int)) = false := by simp; omega
              clear hrx hx eL hCL hq
              go_wp2_with (go_at_call 23; refine (find_ts _ w NoF tp T _ _ x.f0 HS.out HINV.out (HFL.out _)).mono ?_; rw [HQ.out]; rintro E w5 ⟨⟨AF, cF, rfl⟩, hs5⟩; have HS5 := Aside0.mk hs5; clear hs5 d0 d1 d2)
              go_roundg gq
              case measure => omega
              case rel => exact ⟨j + 1, by go_num, by omega, HS5⟩
            | zero =>
              obtain rfl : j = N := by omega
              go_wp2
              first | (rw [← HR.out]) | (go_ret; rw [← HR.out])
              exact ⟨rfl, keep_below HS.out.keep⟩
        · have HTW := Aside0.mk htw
          have HX0 := Aside0.mk hx0
          have hk1 := HKM.out x0.f0
          obtain ⟨q0, hq0⟩ : ∃ q, kc x0.f0 L = q := ⟨_, rfl⟩
          rw [hq0] at hk0 hk1
          have HQ0 := Aside0.mk (show (fnd x0.f0 (fromS T (lowS x0.f0))).length = q0 from (HFK.out _).trans hq0)
          have hNm : N < m := by
            have := (List.getElem?_eq_some_iff.1 hx0).1
            rw [HM.out] at this
            exact this
          have hq02 : decide ((q0 : Int) < 2) = false := by simp; omega
          clear htw hx0 hq0
          go_wp2_with (first
            | (go_at_call 22; refine (twice_ts _ w NoF tp T _ [] HSA.out HINV.out (HFL.out _)).mono ?_; rw [HALL.out, HTW.out]; rintro E w3 ⟨rfl, hs2⟩; have HS2 := Aside0.mk hs2; clear hs2)
            | (go_at_call 23; refine (find_ts _ w NoF tp T _ _ x0.f0 HS2.out HINV.out (HFL.out _)).mono ?_; rw [HQ0.out]; rintro E w5 ⟨⟨AF, cF, rfl⟩, hs5⟩; have HS5 := Aside0.mk hs5; clear hs5)
            | (go_at_call 18; refine (all_ts _ w NoF tp T _ [] HS5.out HINV.out (HFL.out _)).mono ?_; rintro E w4 ⟨va, rfl, hs3⟩; rw [HALL.out] at hs3; obtain ⟨AL, cL, rfl, hcL, hCL⟩ := rowE_C (hs3.rest.rowE 0 rfl) (by rw [HM.out]; omega); rw [HM.out] at hs3 hcL; have HS3 := Aside0.mk hs3; rw [HM.out]; clear hs3 hCL hcL))
          go_loopg [8] N (fun gq v8 wx => ∃ j : Nat, v8 = .int .i64 j ∧ j + gq = N ∧ Aside0 (TS w NoF wx tp T (m : Int) [rowEC (.slice AL m cL) L]))
          case atStart => exact ⟨0, rfl, by omega, HS3⟩
          case round =>
            clear HS3 HS2 HS5
            obtain ⟨j, rfl, hj, HS⟩ := hrel
            have hjn : j < m := by omega
            have hjn2 : (j : Int) < (m : Int) := by omega
            have hj0 : (0 : Int) ≤ (j : Int) := by omega
            obtain ⟨x, hx⟩ : ∃ x, L[j]? = some x := ⟨_, List.getElem?_eq_getElem (by rw [HM.out]; exact hjn)⟩
            have hrx : rd_T29 L (j : Int) = x := by simp [rd_T29, List.getD_eq_getElem?_getD, hx]
            obtain ⟨AL', cL', eL, hcL, hCL⟩ := rowE_C (HS.out.rest.rowE 0 rfl) (by rw [HM.out]; omega)
            rw [HM.out] at eL hcL hCL
            obtain ⟨rfl, rfl⟩ : AL = AL' ∧ cL = cL' := by
              injection eL with e1 e2 e3
              exact ⟨e1, e3⟩
            have HCL := Aside0.mk hCL
            obtain ⟨ad, rfl, d0, d1, d2⟩ := at_T29 hCL (j : Int) hj0 hjn2
            rw [hrx, Int.toNat_natCast] at d0 d1 d2
            clear eL hCL
            cases gk with
            | succ gq =>
              have hk1' := HN2.out j x (by omega) hx
              obtain ⟨q, hq⟩ : ∃ q, kc x.f0 L = q := ⟨_, rfl⟩
              rw [hq] at hk1'
              have HQ := Aside0.mk (show (fnd x.f0 (fromS T (lowS x.f0))).length = q from (HFK.out _).trans hq)
              have hq2 : decide ((1 : Int) < (q : Int)) = false := by simp; omega
              clear hrx hx hq
              go_wp2_with (go_at_call 23; refine (find_ts _ w NoF tp T _ _ x.f0 HS.out HINV.out (HFL.out _)).mono ?_; rw [HQ.out]; rintro E w5 ⟨⟨AF, cF, rfl⟩, hs5⟩; have HS5 := Aside0.mk hs5; clear hs5 d0 d1 d2)
              go_roundg gq
              case measure => omega
              case rel => exact ⟨j + 1, by go_num, by omega, HS5⟩
            | zero =>
              obtain rfl : j = N := by omega
              obtain rfl : x = x0 := Option.some.inj (hx.symm.trans HX0.out)
              have hq2 : decide ((1 : Int) < (q0 : Int)) = true := by simp; omega
              have heq : (x.f0.toList == x.f0.toList) = true := by simp
              clear hrx hx
              go_wp2_with (go_at_call 23; refine (find_ts _ w NoF tp T _ _ x.f0 HS.out HINV.out (HFL.out _)).mono ?_; rw [HQ0.out]; rintro E w5 ⟨⟨AF, cF, rfl⟩, hs5⟩; have HS5 := Aside0.mk hs5; clear hs5; obtain ⟨AL2, cL2, eL2, hcL2, hCL2⟩ := rowE_C (HS5.out.rest.rowE 0 rfl) (by rw [HM.out]; omega); rw [HM.out] at eL2 hCL2; injection eL2 with e1 e2 e3; subst e1; obtain ⟨ad2, e4, d02, d12, d22⟩ := at_T29 hCL2 (j : Int) hj0 hjn2; injection e4 with e4; subst e4; rw [show rd_T29 L (j : Int) = x from (by simp [rd_T29, List.getD_eq_getElem?_getD, HX0.out]), Int.toNat_natCast] at d02 d12 d22; clear d0 d1 d2 hCL2 hcL2 e2 e3)
              first | (rw [← HR.out]) | (go_ret; rw [← HR.out])
              exact ⟨rfl, keep_below HS5.out.keep⟩
/-- As the row wants it. -/
theorem twice_row (w : World) (A0 : Option Addr) (c0 : Nat) (l : List S29) (hC : Kd.C k29 w A0 l.length l) (hcap : l.length ≤ c0) (hwf : l.length ≤ maxLen ∧ ∀ a ∈ l, wf29 a) : Calls Try.prog 7 #[.slice A0 l.length c0] w fun E w' => E = .returned (.bool true) ∧ Below w.heap.size w w' := twicelaw_calls w A0 c0 l hC fun x hx => far_of (hwf.2 x hx)
end Go.Proofs.Bt
end
