/- Packed by chunk.py: YtjaddmflopahiaaP7 YtjaddmflopahiaaP8 YtjaddmflopahiaaP9 YtjaddmflopahiaaE7 YtjaddmflopahiaaE8 YtjaddmflopahiaaP10 YtjaddmflopahiaaR YtjaddmflopahiaaE9 -/
import Derived.Test.YtjaddmflopahiaaQ0
import Derived.Deep.Slices
import Derived.ChangeArms
import Derived.DataReads
import Derived.Test.YtjaddmflopahiaaDeep7
section
/- Plain law: what insert makes of a tree in order. -/
namespace Go.Proofs.Bt
open Go Go.RowKit Go.Proofs.Ytjaddmflopahiaa.Q
set_option linter.unusedVariables false
set_option linter.unusedSimpArgs false

/-- Sizes: n keys at least here, two below; four at most; a kid more than keys. -/
def Shape : (h : Nat) → (n : Nat) → BT h → Prop
  | 0, n, ks => n ≤ List.length (α := S29) ks ∧ List.length (α := S29) ks ≤ 4
  | h + 1, n, t => n ≤ t.1.length ∧ t.1.length ≤ 4 ∧ t.2.length = t.1.length + 1 ∧ ∀ k ∈ t.2, Shape h 2 k
theorem Shape.mono : ∀ {h n m : Nat} {t : BT h}, Shape h n t → m ≤ n → Shape h m t
  | 0, n, m, t, hs, hm => ⟨Nat.le_trans hm hs.1, hs.2⟩
  | h + 1, n, m, t, hs, hm => ⟨Nat.le_trans hm hs.1, hs.2⟩
theorem Shape.ge : ∀ {h n : Nat} {t : BT h}, Shape h n t → n ≤ blen h t
  | 0, _, _, hs => hs.1
  | _ + 1, _, _, hs => hs.1
theorem Shape.le : ∀ {h n : Nat} {t : BT h}, Shape h n t → blen h t ≤ 4
  | 0, _, _, hs => hs.2
  | _ + 1, _, _, hs => hs.2.1
theorem srt_kid {h : Nat} {ks : List S29} {ts : List (BT h)} (hl : ts.length = ks.length + 1) (hs : Srt (flat (h + 1) (ks, ts))) : ∀ k ∈ ts, Srt (flat h k) := by
  intro k hk
  obtain ⟨i, hi, rfl⟩ := List.mem_iff_getElem.1 hk
  obtain ⟨A, k, B, rfl, hA⟩ := cut_at ts i hi
  have hkk : (A ++ k :: B)[i] = k := by
    rw [List.getElem_append_right (by omega)]
    simp [hA]
  rw [hkk]
  rw [List.length_append, List.length_cons] at hl
  rw [flat_cut h ks A k B (by omega)] at hs
  exact (srt_mid.1 hs).2.1
theorem srt_seps {h : Nat} {ks : List S29} {ts : List (BT h)} (hl : ts.length = ks.length + 1) (hs : Srt (flat (h + 1) (ks, ts))) : Sorted ks :=
  srt_keys (b := false) (List.Pairwise.sublist (keys_sub ks (ts.map (flat h)) (by rw [List.length_map]; exact hl)) hs)
theorem fit_of : ∀ (h n : Nat) (t : BT h) (e : S29), Shape h n t → Srt (flat h t) → Fit e h t
  | 0, n, t, e, hs, hr => ⟨hs.2, (srt_keys hr).mono e⟩
  | h + 1, n, t, e, hs, hr => by
    obtain ⟨h1, h2, h3, h4⟩ := hs
    exact ⟨h2, (srt_seps h3 hr).mono e, h3, fun k hk => fit_of h 2 k e (h4 k hk) (srt_kid h3 hr k hk)⟩
theorem cutfit_of : ∀ (h n : Nat) (t : BT h) (e : S29), Shape h n t → (h = 0 ∨ 1 ≤ n) → Srt (flat h t) → CutFit e h t
  | 0, n, t, e, hs, _, hr => ⟨by have := hs.2; omega, (srt_keys hr).mono e⟩
  | h + 1, n, t, e, hs, hn, hr => by
    obtain ⟨h1, h2, h3, h4⟩ := hs
    exact ⟨by omega, by omega, (srt_seps h3 hr).mono e, h3, fun k hk => ⟨cutfit_of h 2 k e (h4 k hk) (.inr (by decide)) (srt_kid h3 hr k hk), (h4 k hk).ge⟩⟩
/-- Where an entry's kid stands. -/
theorem at_kid {h : Nat} {ks : List S29} {ts : List (BT h)} (e : S29) (hl : ts.length = ks.length + 1) (hs : Srt (flat (h + 1) (ks, ts))) :
    ∃ A k B, ts = A ++ k :: B ∧ A.length = kidIx ks e ∧ A.length + B.length = ks.length ∧ (∀ x ∈ lpre (ks.take A.length) (A.map (flat h)), ltI x (e, true)) ∧ (∀ y ∈ lpost (ks.drop A.length) (B.map (flat h)), ltI (e, true) y) := by
  have hi := kidIx_le ks e
  obtain ⟨A, k, B, rfl, hA⟩ := cut_at ts (kidIx ks e) (by omega)
  rw [List.length_append, List.length_cons] at hl
  obtain ⟨p1, p2⟩ := kid_parts ks e (srt_seps (by rw [List.length_append, List.length_cons]; omega) hs)
  rw [flat_cut h ks A k B (by omega)] at hs
  obtain ⟨h1, h2, h3, h4, h5, h6⟩ := srt_mid.1 hs
  refine ⟨A, k, B, rfl, hA, by omega, pre_lt _ _ (by rw [List.length_map, List.length_take]; omega) h1 (by rw [hA]; exact p1), post_gt _ _ h3 (by rw [hA]; exact p2)⟩
theorem del_sep {X Y : List It} {z : S29} (hs : Srt (X ++ (z, false) :: Y)) : Sam (X ++ (z, false) :: Y) (X ++ Y) := by
  have hsub : (X ++ Y).Sublist (X ++ (z, false) :: Y) := List.Sublist.append_left (List.sublist_cons_self _ _) X
  refine ⟨List.Pairwise.sublist hsub hs, fun x hx y hy => hx y (hsub.subset hy), fun x hx y hy => hx y (hsub.subset hy), fun u => ?_⟩
  simp
theorem ins_sep {X Y : List It} {c : S29} (hX : X ≠ []) (ht : ∀ x ∈ X, x.2 = true) (hs : Srt (X ++ (c, true) :: Y)) : Sam (X ++ (c, true) :: Y) (X ++ (c, false) :: (c, true) :: Y) := by
  obtain ⟨h1, h2, h3⟩ := List.pairwise_append.1 hs
  obtain ⟨h4, h5⟩ := List.pairwise_cons.1 h2
  have hXc : ∀ x ∈ X, ltI x (c, false) := fun x hx => by
    rcases h3 x hx (c, true) (by simp) with h | ⟨_, h6, _⟩
    · exact .inl h
    · rw [ht x hx] at h6
      cases h6
  have hcc : ltI (c, false) (c, true) := .inr ⟨rfl, rfl, rfl⟩
  refine ⟨?_, fun x hx y hy => ?_, fun x hx y hy => ?_, fun u => ?_⟩
  · refine List.pairwise_append.2 ⟨h1, List.pairwise_cons.2 ⟨fun y hy => ?_, h2⟩, fun x hx y hy => ?_⟩
    · rcases List.mem_cons.1 hy with rfl | hy
      · exact hcc
      · exact ltI_trans hcc (h4 y hy)
    · rcases List.mem_cons.1 hy with rfl | hy
      · exact hXc x hx
      · exact h3 x hx y hy
  · rcases List.mem_append.1 hy with hy | hy
    · exact hx y (List.mem_append_left _ hy)
    · rcases List.mem_cons.1 hy with rfl | hy
      · obtain ⟨x0, hx0⟩ := List.exists_mem_of_ne_nil X hX
        exact ltI_trans (hx x0 (List.mem_append_left _ hx0)) (hXc x0 hx0)
      · exact hx y (List.mem_append_right _ hy)
  · rcases List.mem_append.1 hy with hy | hy
    · exact hx y (List.mem_append_left _ hy)
    · rcases List.mem_cons.1 hy with rfl | hy
      · exact ltI_trans hcc (hx (c, true) (by simp))
      · exact hx y (List.mem_append_right _ hy)
  · simp
theorem il_cons (k : S29) (ks : List S29) (f g : List It) (fs : List (List It)) : il (k :: ks) (f :: g :: fs) = f ++ (k, false) :: il ks (g :: fs) := by
  show f ++ lpost (k :: ks) (g :: fs) = _
  rw [lpost_cons]
  rfl
theorem il_app : ∀ (k1 : List S29) (z : S29) (k2 : List S29) (f1 f2 : List (List It)), f1.length = k1.length + 1 → f2 ≠ [] → il (k1 ++ z :: k2) (f1 ++ f2) = il k1 f1 ++ (z, false) :: il k2 f2
  | [], z, k2, [f], g :: f2, _, _ => by
    show il (z :: k2) (f :: g :: f2) = _
    rw [il_cons]
    simp [il, lpost]
  | k :: k1, z, k2, f :: g :: f1, f2, h, h2 => by
    have ih := il_app k1 z k2 (g :: f1) f2 (by simpa using h) h2
    show il (k :: (k1 ++ z :: k2)) (f :: g :: (f1 ++ f2)) = _
    rw [il_cons, il_cons]
    have ih' : il (k1 ++ z :: k2) (g :: (f1 ++ f2)) = il k1 (g :: f1) ++ (z, false) :: il k2 f2 := ih
    rw [ih']
    simp
  | [], z, k2, f1, [], _, h2 => absurd rfl h2
  | [], z, k2, [], f2, h, _ => by simp at h
  | [], z, k2, f :: g :: f1, f2, h, _ => by simp at h
  | k :: k1, z, k2, [], f2, h, _ => by simp at h
  | k :: k1, z, k2, [f], f2, h, _ => by simp at h
theorem flat_app (h : Nat) (k1 : List S29) (z : S29) (k2 : List S29) (t1 t2 : List (BT h)) (h1 : t1.length = k1.length + 1) (h2 : t2 ≠ []) : flat (h + 1) (k1 ++ z :: k2, t1 ++ t2) = flat (h + 1) (k1, t1) ++ (z, false) :: flat (h + 1) (k2, t2) := by
  show il (k1 ++ z :: k2) ((t1 ++ t2).map (flat h)) = il k1 (t1.map (flat h)) ++ (z, false) :: il k2 (t2.map (flat h))
  rw [List.map_append, il_app k1 z k2 _ _ (by rw [List.length_map]; exact h1) (by simpa using h2)]
def ents (l : List S29) : List It := l.map (fun x : S29 => ((x, true) : It))
theorem ents_app (a b : List S29) : ents (a ++ b) = ents a ++ ents b := by simp [ents]
theorem ents_true {l : List S29} : ∀ x ∈ ents l, x.2 = true := by
  intro x hx
  obtain ⟨y, _, rfl⟩ := List.mem_map.1 hx
  rfl
/-- Five keys parted: nothing is lost. -/
theorem split_sam : ∀ (h : Nat) (t : BT h), blen h t = 5 → (h = 0 ∨ bkids h t = 6) → Srt (flat h t) → Sam (flat h t) (flat h (bsplit h t).2.1 ++ ((bsplit h t).1, false) :: flat h (bsplit h t).2.2)
  | 0, t, h5, _, hs => by
    have h5 : List.length (α := S29) t = 5 := h5
    obtain ⟨a, b, c, r, ht⟩ : ∃ a b c r, t = (a :: b :: c :: r : List S29) := by
      match t, h5 with
      | a :: b :: c :: r, _ => exact ⟨a, b, c, r, rfl⟩
    subst ht
    exact ins_sep (X := [(a, true), (b, true)]) (Y := ents r) (by simp) (by simp) hs
  | h + 1, t, h5, h6, hs => by
    obtain ⟨ks, ts⟩ := t
    have h5 : ks.length = 5 := h5
    have h6 : ts.length = 6 := h6.resolve_left (by omega)
    have e1 : ks = ks.take 2 ++ ks.getD 2 z29 :: ks.drop 3 := by
      have h2 : 2 < ks.length := by omega
      conv => lhs; rw [← List.take_append_drop 2 ks, List.drop_eq_getElem_cons h2]
      rw [List.getD_eq_getElem?_getD, List.getElem?_eq_getElem h2]
      rfl
    have e2 : ts = ts.take 3 ++ ts.drop 3 := (List.take_append_drop 3 ts).symm
    have hf : flat (h + 1) (ks, ts) = flat (h + 1) (ks.take 2, ts.take 3) ++ (ks.getD 2 z29, false) :: flat (h + 1) (ks.drop 3, ts.drop 3) := by
      conv => lhs; rw [e1, e2]
      exact flat_app h _ _ _ _ _ (by rw [List.length_take, List.length_take]; omega) (by intro e; have := congrArg List.length e; rw [List.length_drop] at this; simp at this; omega)
    show Sam (flat (h + 1) (ks, ts)) (flat (h + 1) (ks.take 2, ts.take 3) ++ (ks.getD 2 z29, false) :: flat (h + 1) (ks.drop 3, ts.drop 3))
    rw [← hf]
    exact Sam.refl hs
theorem leaf_ins (ks : List S29) (e : S29) (hs : Sorted ks) : Insd e (ents ks) (ents (if found ks e = true then ks else insAt ks (low ks e) e)) ∧ (found ks e = true ↔ e ∈ ks) := by
  have hfm := found_mem ks e hs
  refine ⟨?_, hfm⟩
  by_cases hf : found ks e = true
  · rw [if_pos hf]
    exact ⟨srt_of_keys hs, fun x hx _ => hx, fun x hx _ => hx, fun z => ⟨.inr, fun hz => hz.elim (fun hz => by rw [hz]; exact List.mem_map_of_mem (hfm.1 hf)) id⟩⟩
  · rw [if_neg hf]
    have hs2 : Sorted (insAt ks (low ks e) e) := ins_sorted ks e hs (by simpa using hf)
    have hm : ∀ y, y ∈ ents (insAt ks (low ks e) e) ↔ y = (e, true) ∨ y ∈ ents ks := fun y => by
      simp only [ents, List.mem_map, mem_insAt]
      constructor
      · rintro ⟨z, (rfl | hz), rfl⟩
        · exact .inl rfl
        · exact .inr ⟨z, hz, rfl⟩
      · rintro (rfl | ⟨z, hz, rfl⟩)
        · exact ⟨e, .inl rfl, rfl⟩
        · exact ⟨z, .inr hz, rfl⟩
    refine ⟨srt_of_keys hs2, fun x hx he y hy => ?_, fun x hx he y hy => ?_, fun z => ?_⟩
    · rcases (hm y).1 hy with rfl | hy
      · exact he
      · exact hx y hy
    · rcases (hm y).1 hy with rfl | hy
      · exact he
      · exact hx y hy
    · rw [hm]
      simp
theorem insAt_take {α : Type} (l : List α) (i : Nat) (x : α) (h : i ≤ l.length) : (insAt l i x).take i = l.take i := by
  unfold insAt
  rw [List.take_append_of_le_length (by rw [List.length_take]; omega), List.take_take, Nat.min_self]
theorem insAt_drop {α : Type} (l : List α) (i : Nat) (x : α) (h : i ≤ l.length) : (insAt l i x).drop (i + 1) = l.drop i := by
  unfold insAt
  have hl : (l.take i).length = i := by rw [List.length_take]; omega
  rw [List.drop_append, List.drop_eq_nil_iff.2 (by omega), hl]
  simp
theorem insAt_at {α : Type} (l : List α) (i : Nat) (x : α) (h : i ≤ l.length) : (insAt l i x)[i]? = some x := by
  unfold insAt
  have hl : (l.take i).length = i := by rw [List.length_take]; omega
  rw [List.getElem?_append_right (by omega), hl]
  simp
/-- What insert leaves: at most one key too many here, all else in shape, in order, with the entry. -/
structure InsGood (h n : Nat) (t : BT h) (e : S29) : Prop where
  ge : n ≤ blen h (ins h t e).1
  le : blen h (ins h t e).1 ≤ 5
  kids : h = 0 ∨ bkids h (ins h t e).1 = blen h (ins h t e).1 + 1
  good : Insd e (flat h t) (flat h (ins h t e).1)
  fresh : (ins h t e).2 = true ↔ (e, true) ∉ flat h t
def KidsOk : (h : Nat) → BT h → Prop
  | 0, _ => True
  | h + 1, t => ∀ k ∈ t.2, Shape h 2 k
theorem shape_of {h n : Nat} {t : BT h} (h1 : n ≤ blen h t) (h2 : blen h t ≤ 4) (h3 : h = 0 ∨ bkids h t = blen h t + 1) (h4 : KidsOk h t) : Shape h n t := by
  cases h with
  | zero => exact ⟨h1, h2⟩
  | succ h => exact ⟨h1, h2, h3.resolve_left (by omega), h4⟩
theorem kidsOk_of {h n : Nat} {t : BT h} (hs : Shape h n t) : KidsOk h t := by
  cases h with
  | zero => trivial
  | succ h => exact hs.2.2.2
theorem five_parts (l : List S29) (h5 : l.length = 5) : (2 ≤ (l.take 2).length ∧ (l.take 2).length ≤ 4) ∧ (2 ≤ (l.drop 2).length ∧ (l.drop 2).length ≤ 4) := by
  rw [List.length_take, List.length_drop]
  omega
theorem leaf_len (l : List S29) (n : Nat) (e : S29) (h : n ≤ l.length) : n ≤ (if found l e = true then l else insAt l (low l e) e).length := by
  split
  · exact h
  · rw [insAt_len _ _ _ (low_le l e)]
    omega
theorem ents_mem (l : List S29) (e : S29) : (e, true) ∈ ents l ↔ e ∈ l := by simp [ents]
theorem leaf_fresh (l : List S29) (e : S29) (hs : Sorted l) : (!(found l e)) = true ↔ (e, true) ∉ ents l := by
  rw [ents_mem, ← found_mem l e hs]
  simp
theorem split_shape : ∀ (h : Nat) (t : BT h), blen h t = 5 → (h = 0 ∨ bkids h t = 6) → KidsOk h t → Shape h 2 (bsplit h t).2.1 ∧ Shape h 2 (bsplit h t).2.2
  | 0, t, h5, _, _ => five_parts t h5
  | h + 1, t, h5, h6, hk => by
    obtain ⟨ks, ts⟩ := t
    have h5 : ks.length = 5 := h5
    have h6 : ts.length = 6 := h6.resolve_left (by omega)
    have hk : ∀ k ∈ ts, Shape h 2 k := hk
    refine ⟨⟨?_, ?_, ?_, fun k hkk => hk k (List.mem_of_mem_take hkk)⟩, ⟨?_, ?_, ?_, fun k hkk => hk k (List.mem_of_mem_drop hkk)⟩⟩
    · show 2 ≤ (ks.take 2).length; rw [List.length_take]; omega
    · show (ks.take 2).length ≤ 4; rw [List.length_take]; omega
    · show (ts.take 3).length = (ks.take 2).length + 1; rw [List.length_take, List.length_take]; omega
    · show 2 ≤ (ks.drop 3).length; rw [List.length_drop]; omega
    · show (ks.drop 3).length ≤ 4; rw [List.length_drop]; omega
    · show (ts.drop 3).length = (ks.drop 3).length + 1; rw [List.length_drop, List.length_drop]; omega
theorem ins_good : ∀ (h n : Nat) (t : BT h) (e : S29), Shape h n t → Srt (flat h t) → InsGood h n t e ∧ KidsOk h (ins h t e).1
  | 0, n, t, e, hs, hr => by
    obtain ⟨q1, q2⟩ := leaf_ins t e (srt_keys hr)
    exact ⟨⟨leaf_len t n e hs.1, len0 t e hs.2, .inl rfl, q1, leaf_fresh t e (srt_keys hr)⟩, trivial⟩
  | h + 1, n, t, e, hs, hr => by
    obtain ⟨ks, ts⟩ := t
    obtain ⟨h1, h2, h3, h4⟩ := hs
    change n ≤ ks.length at h1
    change ks.length ≤ 4 at h2
    change ts.length = ks.length + 1 at h3
    change ∀ k ∈ ts, Shape h 2 k at h4
    obtain ⟨A, k, B, rfl, hA, hAB, hX, hY⟩ := at_kid e h3 hr
    have hrk := srt_kid h3 hr k (by simp)
    obtain ⟨ih, ihk⟩ := ins_good h 2 k e (h4 k (by simp)) hrk
    have hx : ins (h + 1) (ks, A ++ k :: B) e = _ := ins_at h ks A k B e hA
    have hfl : flat (h + 1) (ks, A ++ k :: B) = _ := flat_cut h ks A k B (by omega)
    have hr2 := hr
    rw [hfl] at hr2
    have hgood := Insd.ctx hr2 hX hY ih.good
    have hfresh : (ins h k e).2 = true ↔ (e, true) ∉ flat (h + 1) (ks, A ++ k :: B) := by
      rw [ih.fresh, hfl]
      simp only [List.mem_append, not_or]
      exact ⟨fun hh => ⟨fun h0 => ltI_irr _ (hX _ h0), hh, fun h0 => ltI_irr _ (hY _ h0)⟩, fun hh => hh.2.1⟩
    by_cases h5 : 4 < (bkeys h (ins h k e).1).length
    · rw [if_pos h5] at hx
      have hle := ih.le
      have h55 : blen h (ins h k e).1 = 5 := by unfold blen at hle ⊢; omega
      have h6 : h = 0 ∨ bkids h (ins h k e).1 = 6 := ih.kids.imp id (fun h7 => by rw [h7, h55])
      obtain ⟨s1, s2⟩ := split_shape h _ h55 h6 ihk
      have hsp := split_sam h _ h55 h6 ih.good.srt
      have hil : kidIx ks e ≤ ks.length := kidIx_le ks e
      have hf2 : flat (h + 1) (ins (h + 1) (ks, A ++ k :: B) e).1 = lpre (ks.take A.length) (A.map (flat h)) ++ ((flat h (bsplit h (ins h k e).1).2.1 ++ ((bsplit h (ins h k e).1).1, false) :: flat h (bsplit h (ins h k e).1).2.2) ++ lpost (ks.drop A.length) (B.map (flat h))) := by
        rw [hx]
        show flat (h + 1) (insAt ks (kidIx ks e) _, A ++ _ :: _ :: B) = _
        rw [flat_pair h _ A _ _ B (bsplit h (ins h k e).1).1 (by rw [hA, insAt_at _ _ _ hil]), hA, insAt_take _ _ _ hil, insAt_drop _ _ _ hil, List.append_assoc]
      refine ⟨⟨?_, ?_, .inr ?_, ?_, ?_⟩, ?_⟩
      · rw [hx]
        show n ≤ (insAt ks (kidIx ks e) _).length
        rw [insAt_len _ _ _ hil]; omega
      · rw [hx]
        show (insAt ks (kidIx ks e) _).length ≤ 5
        rw [insAt_len _ _ _ hil]; omega
      · rw [hx]
        show (A ++ _ :: _ :: B).length = (insAt ks (kidIx ks e) _).length + 1
        rw [insAt_len _ _ _ hil, List.length_append, List.length_cons, List.length_cons]; omega
      · rw [hf2, hfl]
        have hmid := hgood.srt
        exact hgood.then (Sam.ctx hmid hsp)
      · rw [hx]
        exact hfresh
      · rw [hx]
        intro k' hk'
        simp only [List.mem_append, List.mem_cons] at hk'
        rcases hk' with hk' | rfl | rfl | hk'
        · exact h4 k' (by simp [hk'])
        · exact s1
        · exact s2
        · exact h4 k' (by simp [hk'])
    · rw [if_neg h5] at hx
      have hf2 : flat (h + 1) (ins (h + 1) (ks, A ++ k :: B) e).1 = lpre (ks.take A.length) (A.map (flat h)) ++ (flat h (ins h k e).1 ++ lpost (ks.drop A.length) (B.map (flat h))) := by
        rw [hx]
        exact flat_cut h ks A _ B (by omega)
      refine ⟨⟨?_, ?_, .inr ?_, ?_, ?_⟩, ?_⟩
      · rw [hx]; exact h1
      · rw [hx]; exact (show ks.length ≤ 5 by omega)
      · rw [hx]
        show (A ++ _ :: B).length = ks.length + 1
        rw [List.length_append, List.length_cons]; omega
      · rw [hf2, hfl]
        exact hgood
      · rw [hx]
        exact hfresh
      · rw [hx]
        intro k' hk'
        simp only [List.mem_append, List.mem_cons] at hk'
        rcases hk' with hk' | rfl | hk'
        · exact h4 k' (by simp [hk'])
        · exact shape_of ih.ge (by unfold blen; omega) ih.kids ihk
        · exact h4 k' (by simp [hk'])
end Go.Proofs.Bt
end
section
/- Plain law: Insert and Delete at the root. -/
namespace Go.Proofs.Bt
open Go Go.RowKit Go.Proofs.Ytjaddmflopahiaa.Q
set_option linter.unusedVariables false
set_option linter.unusedSimpArgs false

/-- A tree in order. -/
structure TInv (h : Nat) (t : BT h) : Prop where
  shape : Shape h (if h = 0 then 0 else 1) t
  srt : Srt (flat h t)
theorem leaf_same (l : List S29) (e : S29) (h : (!(found l e)) = false) : (if found l e = true then l else insAt l (low l e) e) = l := by
  have hf : found l e = true := by simpa using h
  rw [if_pos hf]
theorem ins_same : ∀ (h n : Nat) (t : BT h) (e : S29), Shape h n t → Srt (flat h t) → (ins h t e).2 = false → (ins h t e).1 = t
  | 0, n, t, e, hs, hr, hf => leaf_same t e hf
  | h + 1, n, t, e, hs, hr, hf => by
    obtain ⟨ks, ts⟩ := t
    obtain ⟨h1, h2, h3, h4⟩ := hs
    change ts.length = ks.length + 1 at h3
    change ∀ k ∈ ts, Shape h 2 k at h4
    obtain ⟨A, k, B, rfl, hA, hAB, hX, hY⟩ := at_kid e h3 hr
    have hx : ins (h + 1) (ks, A ++ k :: B) e = _ := ins_at h ks A k B e hA
    have hk : (ins h k e).2 = false := by
      rw [hx] at hf
      split at hf <;> exact hf
    have ih := ins_same h 2 k e (h4 k (by simp)) (srt_kid h3 hr k (by simp)) hk
    have hle := (h4 k (by simp)).le
    rw [hx, ih, if_neg (by unfold blen at hle; omega)]
theorem one_keys (h : Nat) (x : S29) (l r : BT h) : flat (h + 1) ([x], [l, r]) = flat h l ++ (x, false) :: flat h r := by
  show il [x] [flat h l, flat h r] = _
  rw [il_cons]
  simp [il, lpost]
theorem tins_good (h : Nat) (t : BT h) (e : S29) (hi : TInv h t) : TInv (tins h t e).1.1 (tins h t e).1.2 ∧ Insd e (flat h t) (flat (tins h t e).1.1 (tins h t e).1.2) ∧ ((tins h t e).2 = true ↔ (e, true) ∉ flat h t) := by
  obtain ⟨g, gk⟩ := ins_good h _ t e hi.shape hi.srt
  by_cases hc : (ins h t e).2 = true ∧ 4 < (bkeys h (ins h t e).1).length
  · have ht : tins h t e = (⟨h + 1, ([(bsplit h (ins h t e).1).1], [(bsplit h (ins h t e).1).2.1, (bsplit h (ins h t e).1).2.2])⟩, (ins h t e).2) := by
      unfold tins
      rw [if_pos hc]
    have hle := g.le
    have h55 : blen h (ins h t e).1 = 5 := by have := hc.2; unfold blen at hle ⊢; omega
    have h6 : h = 0 ∨ bkids h (ins h t e).1 = 6 := g.kids.imp id (fun h7 => by rw [h7, h55])
    obtain ⟨s1, s2⟩ := split_shape h _ h55 h6 gk
    have hsp := split_sam h _ h55 h6 g.good.srt
    have hfl := one_keys h (bsplit h (ins h t e).1).1 (bsplit h (ins h t e).1).2.1 (bsplit h (ins h t e).1).2.2
    rw [ht]
    refine ⟨⟨⟨?_, ?_, rfl, ?_⟩, ?_⟩, ?_, g.fresh⟩
    · simp
    · simp
    · intro k hk
      simp at hk
      rcases hk with rfl | rfl
      · exact s1
      · exact s2
    · rw [hfl]
      exact hsp.srt
    · rw [hfl]
      exact g.good.then hsp
  · have ht : tins h t e = (⟨h, (ins h t e).1⟩, (ins h t e).2) := by
      unfold tins
      rw [if_neg hc]
    rw [ht]
    refine ⟨⟨shape_of g.ge ?_ g.kids gk, g.good.srt⟩, g.good, g.fresh⟩
    cases hf : (ins h t e).2 with
    | true =>
      have : ¬ 4 < (bkeys h (ins h t e).1).length := fun h4 => hc ⟨hf, h4⟩
      show (bkeys h (ins h t e).1).length ≤ 4
      omega
    | false =>
      rw [ins_same h _ t e hi.shape hi.srt hf]
      exact hi.shape.le
/-! ### delete -/
theorem leaf_del (l : List S29) (e : S29) (hs : Sorted l) : Deld e (ents l) (ents (if found l e = true then delAt l (low l e) else l)) := by
  have hfm := found_mem l e hs
  by_cases hf : found l e = true
  · rw [if_pos hf]
    have hl := found_lt hf
    have he : l[low l e] = e := by
      unfold found at hf
      rw [dif_pos hl, decide_eq_true_eq, ord_zero] at hf
      exact hf
    have hsub : (delAt l (low l e)).Sublist l := by
      unfold delAt
      conv => rhs; rw [← List.take_append_drop (low l e) l]
      exact List.Sublist.append_left (List.drop_sublist_drop_left l (Nat.le_succ _)) _
    have hmem : ∀ z, z ∈ delAt l (low l e) ↔ z ≠ e ∧ z ∈ l := fun z => by
      have hl2 : l = l.take (low l e) ++ e :: l.drop (low l e + 1) := by
        conv => lhs; rw [← List.take_append_drop (low l e) l, List.drop_eq_getElem_cons hl, he]
      have hp : (l.take (low l e) ++ e :: l.drop (low l e + 1)).Pairwise ltE := by rw [← hl2]; exact hs
      obtain ⟨p1, p2, p3⟩ := List.pairwise_append.1 hp
      obtain ⟨p4, p5⟩ := List.pairwise_cons.1 p2
      constructor
      · intro hz
        refine ⟨fun e0 => ?_, hsub.subset hz⟩
        subst e0
        unfold delAt at hz
        rcases List.mem_append.1 hz with hz | hz
        · exact ltE_irr _ (p3 z hz z (by simp))
        · exact ltE_irr _ (p4 z hz)
      · rintro ⟨h0, hz⟩
        rw [hl2] at hz
        unfold delAt
        rcases List.mem_append.1 hz with hz | hz
        · exact List.mem_append_left _ hz
        · rcases List.mem_cons.1 hz with hz | hz
          · exact absurd hz h0
          · exact List.mem_append_right _ hz
    have hsubE : ∀ y, y ∈ ents (delAt l (low l e)) → y ∈ ents l := fun y hy => by
      obtain ⟨z, hz, rfl⟩ := List.mem_map.1 hy
      exact List.mem_map_of_mem (hsub.subset hz)
    refine ⟨srt_of_keys (hs.sublist hsub), fun x hx y hy => hx y (hsubE y hy), fun x hx y hy => hx y (hsubE y hy), fun z => ?_⟩
    rw [ents_mem, ents_mem]
    exact hmem z
  · rw [if_neg hf]
    refine ⟨srt_of_keys hs, fun x hx => hx, fun x hx => hx, fun z => ?_⟩
    rw [ents_mem]
    exact ⟨fun hz => ⟨fun e0 => hf (hfm.2 (e0 ▸ hz)), hz⟩, fun hz => hz.2⟩
theorem getLast_ne {α : Type} {l : List α} (h : 0 < l.length) : l ≠ [] := by rintro rfl; simp at h
theorem snoc_cases {α : Type} (l : List α) (h : 0 < l.length) : ∃ l' x, l = l' ++ [x] := ⟨l.dropLast, l.getLast (getLast_ne h), (List.dropLast_concat_getLast (getLast_ne h)).symm⟩
theorem cons_cases' {α : Type} (l : List α) (h : 0 < l.length) : ∃ x l', l = x :: l' := by
  match l, h with
  | x :: l', _ => exact ⟨x, l', rfl⟩
theorem bleft_leaf_sam (a b : List S29) (z : S29) (ha : 2 < a.length) (hs : Srt (ents a ++ (z, false) :: ents b)) : Sam (ents a ++ (z, false) :: ents b) (ents a.dropLast ++ (a.getLastD z29, false) :: ents (a.getLastD z29 :: b)) := by
  obtain ⟨a', x, rfl⟩ := snoc_cases a (by omega)
  have e1 : (a' ++ [x]).dropLast = a' := by simp
  have e2 : (a' ++ [x]).getLastD z29 = x := by simp
  rw [e1, e2]
  have h1 := del_sep hs
  have hx : ents (a' ++ [x]) ++ ents b = ents a' ++ (x, true) :: ents b := by simp [ents]
  rw [hx] at h1
  have h2 := ins_sep (X := ents a') (c := x) (Y := ents b) (by
    have : 0 < a'.length := by rw [List.length_append] at ha; simp at ha; omega
    intro e
    rw [ents, List.map_eq_nil_iff] at e
    rw [e] at this
    simp at this) ents_true h1.srt
  exact ⟨h2.srt, fun u hu => h2.lo u (h1.lo u hu), fun u hu => h2.hi u (h1.hi u hu), fun u => (h2.mem u).trans (h1.mem u)⟩
theorem bright_leaf_sam (a b : List S29) (z : S29) (hb : 2 < b.length) (hs : Srt (ents a ++ (z, false) :: ents b)) : Sam (ents a ++ (z, false) :: ents b) (ents (a ++ [b.getD 0 z29]) ++ (b.getD 1 z29, false) :: ents b.tail) := by
  obtain ⟨x, b1, rfl⟩ := cons_cases' b (by omega)
  obtain ⟨y, b2, rfl⟩ := cons_cases' b1 (by rw [List.length_cons] at hb; omega)
  show Sam _ (ents (a ++ [x]) ++ (y, false) :: ents (y :: b2))
  have h1 := del_sep hs
  have hx : ents a ++ ents (x :: y :: b2) = ents (a ++ [x]) ++ (y, true) :: ents b2 := by simp [ents]
  rw [hx] at h1
  have h2 := ins_sep (X := ents (a ++ [x])) (c := y) (Y := ents b2) (by simp [ents]) ents_true h1.srt
  exact ⟨h2.srt, fun u hu => h2.lo u (h1.lo u hu), fun u hu => h2.hi u (h1.hi u hu), fun u => (h2.mem u).trans (h1.mem u)⟩
/-- A kid's neighbours' moves: the row of items is the same but for separators. -/
theorem bleft_sam : ∀ (h : Nat) (a b : BT h) (z : S29), 2 < blen h a → (h = 0 ∨ bkids h a = blen h a + 1) → (h = 0 ∨ bkids h b = blen h b + 1) → Srt (flat h a ++ (z, false) :: flat h b) →
    Sam (flat h a ++ (z, false) :: flat h b) (flat h (bleft h a b z).2.1 ++ ((bleft h a b z).1, false) :: flat h (bleft h a b z).2.2)
  | 0, a, b, z, ha, _, _, hs => bleft_leaf_sam a b z ha hs
  | h + 1, a, b, z, ha, ha2, hb2, hs => by
    obtain ⟨ka, la⟩ := a
    obtain ⟨kb, lb⟩ := b
    have ha : 2 < ka.length := ha
    have ha2 : la.length = ka.length + 1 := ha2.resolve_left (by omega)
    have hb2 : lb.length = kb.length + 1 := hb2.resolve_left (by omega)
    obtain ⟨ka, x, rfl⟩ := snoc_cases ka (by omega)
    obtain ⟨la, q, rfl⟩ := snoc_cases la (by omega)
    rw [List.length_append, List.length_append] at ha2
    simp at ha2
    have hlb : lb ≠ [] := getLast_ne (by omega)
    have e1 : (bleft (h + 1) (ka ++ [x], la ++ [q]) (kb, lb) z) = (x, (ka, la), (z :: kb, q :: lb)) := by
      show (List.getLastD (ka ++ [x]) z29, (List.dropLast (ka ++ [x]), List.dropLast (la ++ [q])), (z :: kb, (la ++ [q]).getLast?.toList ++ lb)) = _
      simp
    rw [e1]
    have f1 : flat (h + 1) (ka ++ [x], la ++ [q]) = flat (h + 1) (ka, la) ++ (x, false) :: flat h q := by
      rw [flat_app h ka x [] la [q] (by omega) (by simp)]
      simp [flat, il, lpost]
    have f2 : flat (h + 1) (z :: kb, q :: lb) = flat h q ++ (z, false) :: flat (h + 1) (kb, lb) := by
      have := flat_app h [] z kb [q] lb rfl hlb
      rw [show ([] : List S29) ++ z :: kb = z :: kb from rfl, show [q] ++ lb = q :: lb from rfl] at this
      rw [this]
      simp [flat, il, lpost]
    show Sam (flat (h + 1) (ka ++ [x], la ++ [q]) ++ (z, false) :: flat (h + 1) (kb, lb)) (flat (h + 1) (ka, la) ++ (x, false) :: flat (h + 1) (z :: kb, q :: lb))
    have e : flat (h + 1) (ka ++ [x], la ++ [q]) ++ (z, false) :: flat (h + 1) (kb, lb) = flat (h + 1) (ka, la) ++ (x, false) :: flat (h + 1) (z :: kb, q :: lb) := by
      rw [f1, f2]
      simp
    rw [← e]
    exact Sam.refl hs
theorem bright_sam : ∀ (h : Nat) (a b : BT h) (z : S29), 2 < blen h b → (h = 0 ∨ bkids h a = blen h a + 1) → (h = 0 ∨ bkids h b = blen h b + 1) → Srt (flat h a ++ (z, false) :: flat h b) →
    Sam (flat h a ++ (z, false) :: flat h b) (flat h (bright h a b z).2.1 ++ ((bright h a b z).1, false) :: flat h (bright h a b z).2.2)
  | 0, a, b, z, hb, _, _, hs => bright_leaf_sam a b z hb hs
  | h + 1, a, b, z, hb, ha2, hb2, hs => by
    obtain ⟨ka, la⟩ := a
    obtain ⟨kb, lb⟩ := b
    have hb : 2 < kb.length := hb
    have ha2 : la.length = ka.length + 1 := ha2.resolve_left (by omega)
    have hb2 : lb.length = kb.length + 1 := hb2.resolve_left (by omega)
    obtain ⟨x, kb, rfl⟩ := cons_cases' kb (by omega)
    obtain ⟨q, lb, rfl⟩ := cons_cases' lb (by omega)
    rw [List.length_cons, List.length_cons] at hb2
    have hlb : lb ≠ [] := getLast_ne (by omega)
    have e1 : (bright (h + 1) (ka, la) (x :: kb, q :: lb) z) = (x, (ka ++ [z], la ++ [q]), (kb, lb)) := rfl
    rw [e1]
    have f1 : flat (h + 1) (ka ++ [z], la ++ [q]) = flat (h + 1) (ka, la) ++ (z, false) :: flat h q := by
      rw [flat_app h ka z [] la [q] (by omega) (by simp)]
      simp [flat, il, lpost]
    have f2 : flat (h + 1) (x :: kb, q :: lb) = flat h q ++ (x, false) :: flat (h + 1) (kb, lb) := by
      have := flat_app h [] x kb [q] lb rfl hlb
      rw [show ([] : List S29) ++ x :: kb = x :: kb from rfl, show [q] ++ lb = q :: lb from rfl] at this
      rw [this]
      simp [flat, il, lpost]
    show Sam (flat (h + 1) (ka, la) ++ (z, false) :: flat (h + 1) (x :: kb, q :: lb)) (flat (h + 1) (ka ++ [z], la ++ [q]) ++ (x, false) :: flat (h + 1) (kb, lb))
    have e : flat (h + 1) (ka, la) ++ (z, false) :: flat (h + 1) (x :: kb, q :: lb) = flat (h + 1) (ka ++ [z], la ++ [q]) ++ (x, false) :: flat (h + 1) (kb, lb) := by
      rw [f1, f2]
      simp
    rw [← e]
    exact Sam.refl hs
theorem bjoin_sam : ∀ (h : Nat) (a b : BT h) (z : S29), (h = 0 ∨ bkids h a = blen h a + 1) → (h = 0 ∨ bkids h b = blen h b + 1) → Srt (flat h a ++ (z, false) :: flat h b) →
    Sam (flat h a ++ (z, false) :: flat h b) (flat h (bjoin h a b z))
  | 0, a, b, z, _, _, hs => by
    have h1 := del_sep hs
    have : flat 0 (bjoin 0 a b z) = flat 0 a ++ flat 0 b := ents_app a b
    rw [this]
    exact h1
  | h + 1, a, b, z, ha2, hb2, hs => by
    obtain ⟨ka, la⟩ := a
    obtain ⟨kb, lb⟩ := b
    have ha2 : la.length = ka.length + 1 := ha2.resolve_left (by omega)
    have hb2 : lb.length = kb.length + 1 := hb2.resolve_left (by omega)
    have e : flat (h + 1) (bjoin (h + 1) (ka, la) (kb, lb) z) = flat (h + 1) (ka, la) ++ (z, false) :: flat (h + 1) (kb, lb) := by
      show flat (h + 1) (ka ++ [z] ++ kb, la ++ lb) = _
      rw [show ka ++ [z] ++ kb = ka ++ z :: kb by simp]
      exact flat_app h ka z kb la lb ha2 (getLast_ne (by omega))
    rw [e]
    exact Sam.refl hs
end Go.Proofs.Bt
end
section
/- Plain law: what delete makes of a tree in order. -/
namespace Go.Proofs.Bt
open Go Go.RowKit Go.Proofs.Ytjaddmflopahiaa.Q
set_option linter.unusedVariables false
set_option linter.unusedSimpArgs false

theorem bleft_len (a b : List S29) (ha : 2 < a.length) (ha4 : a.length ≤ 4) (hb : b.length = 1) : (2 ≤ a.dropLast.length ∧ a.dropLast.length ≤ 4) ∧ (2 ≤ (a.getLastD z29 :: b).length ∧ (a.getLastD z29 :: b).length ≤ 4) := by
  rw [List.length_dropLast, List.length_cons]
  omega
theorem bright_len (a b : List S29) (ha : a.length = 1) (hb : 2 < b.length) (hb4 : b.length ≤ 4) : (2 ≤ (a ++ [b.getD 0 z29]).length ∧ (a ++ [b.getD 0 z29]).length ≤ 4) ∧ (2 ≤ b.tail.length ∧ b.tail.length ≤ 4) := by
  rw [List.length_tail, List.length_append, List.length_singleton]
  omega
theorem bleft_shape : ∀ (h : Nat) (a b : BT h) (z : S29), 2 < blen h a → blen h a ≤ 4 → (h = 0 ∨ bkids h a = blen h a + 1) → KidsOk h a → blen h b = 1 → (h = 0 ∨ bkids h b = blen h b + 1) → KidsOk h b → Shape h 2 (bleft h a b z).2.1 ∧ Shape h 2 (bleft h a b z).2.2
  | 0, a, b, z, h1, h2, _, _, h3, _, _ => bleft_len a b h1 h2 h3
  | h + 1, a, b, z, h1, h2, h3, h4, h5, h6, h7 => by
    obtain ⟨ka, la⟩ := a
    obtain ⟨kb, lb⟩ := b
    have h1 : 2 < ka.length := h1
    have h2 : ka.length ≤ 4 := h2
    have h3 : la.length = ka.length + 1 := h3.resolve_left (by omega)
    have h4 : ∀ k ∈ la, Shape h 2 k := h4
    have h5 : kb.length = 1 := h5
    have h6 : lb.length = kb.length + 1 := h6.resolve_left (by omega)
    have h7 : ∀ k ∈ lb, Shape h 2 k := h7
    obtain ⟨la, q, rfl⟩ := snoc_cases la (by omega)
    have e1 : (bleft (h + 1) (ka, la ++ [q]) (kb, lb) z) = (ka.getLastD z29, (ka.dropLast, la), (z :: kb, q :: lb)) := by
      show (ka.getLastD z29, (ka.dropLast, List.dropLast (la ++ [q])), (z :: kb, (la ++ [q]).getLast?.toList ++ lb)) = _
      simp
    rw [e1]
    rw [List.length_append, List.length_singleton] at h3
    refine ⟨⟨?_, ?_, ?_, fun k hk => h4 k (List.mem_append_left _ hk)⟩, ⟨?_, ?_, ?_, fun k hk => ?_⟩⟩
    · show 2 ≤ ka.dropLast.length; rw [List.length_dropLast]; omega
    · show ka.dropLast.length ≤ 4; rw [List.length_dropLast]; omega
    · show la.length = ka.dropLast.length + 1; rw [List.length_dropLast]; omega
    · show 2 ≤ (z :: kb).length; rw [List.length_cons]; omega
    · show (z :: kb).length ≤ 4; rw [List.length_cons]; omega
    · show (q :: lb).length = (z :: kb).length + 1; rw [List.length_cons, List.length_cons]; omega
    · rcases List.mem_cons.1 hk with rfl | hk
      · exact h4 _ (by simp)
      · exact h7 k hk
theorem bright_shape : ∀ (h : Nat) (a b : BT h) (z : S29), blen h a = 1 → (h = 0 ∨ bkids h a = blen h a + 1) → KidsOk h a → 2 < blen h b → blen h b ≤ 4 → (h = 0 ∨ bkids h b = blen h b + 1) → KidsOk h b → Shape h 2 (bright h a b z).2.1 ∧ Shape h 2 (bright h a b z).2.2
  | 0, a, b, z, h1, _, _, h2, h3, _, _ => bright_len a b h1 h2 h3
  | h + 1, a, b, z, h5, h6, h7, h1, h2, h3, h4 => by
    obtain ⟨ka, la⟩ := a
    obtain ⟨kb, lb⟩ := b
    have h1 : 2 < kb.length := h1
    have h2 : kb.length ≤ 4 := h2
    have h3 : lb.length = kb.length + 1 := h3.resolve_left (by omega)
    have h4 : ∀ k ∈ lb, Shape h 2 k := h4
    have h5 : ka.length = 1 := h5
    have h6 : la.length = ka.length + 1 := h6.resolve_left (by omega)
    have h7 : ∀ k ∈ la, Shape h 2 k := h7
    obtain ⟨q, lb, rfl⟩ := cons_cases' lb (by omega)
    have e1 : (bright (h + 1) (ka, la) (kb, q :: lb) z) = (kb.getD 0 z29, (ka ++ [z], la ++ [q]), (kb.tail, lb)) := rfl
    rw [e1]
    rw [List.length_cons] at h3
    refine ⟨⟨?_, ?_, ?_, fun k hk => ?_⟩, ⟨?_, ?_, ?_, fun k hk => h4 k (List.mem_cons_of_mem _ hk)⟩⟩
    · show 2 ≤ (ka ++ [z]).length; rw [List.length_append, List.length_singleton]; omega
    · show (ka ++ [z]).length ≤ 4; rw [List.length_append, List.length_singleton]; omega
    · show (la ++ [q]).length = (ka ++ [z]).length + 1; rw [List.length_append, List.length_append, List.length_singleton, List.length_singleton]; omega
    · rcases List.mem_append.1 hk with hk | hk
      · exact h7 k hk
      · simp at hk
        subst hk
        exact h4 _ (by simp)
    · show 2 ≤ kb.tail.length; rw [List.length_tail]; omega
    · show kb.tail.length ≤ 4; rw [List.length_tail]; omega
    · show lb.length = kb.tail.length + 1; rw [List.length_tail]; omega
theorem bjoin_shape : ∀ (h : Nat) (a b : BT h) (z : S29), blen h a + blen h b = 3 → (h = 0 ∨ bkids h a = blen h a + 1) → KidsOk h a → (h = 0 ∨ bkids h b = blen h b + 1) → KidsOk h b → Shape h 2 (bjoin h a b z)
  | 0, a, b, z, h1, _, _, _, _ => by
    have h1 : List.length (α := S29) a + List.length (α := S29) b = 3 := h1
    have e : blen 0 (bjoin 0 a b z) = List.length (α := S29) a + List.length (α := S29) b := List.length_append
    exact ⟨by show 2 ≤ blen 0 (bjoin 0 a b z); rw [e]; omega, by show blen 0 (bjoin 0 a b z) ≤ 4; rw [e]; omega⟩
  | h + 1, a, b, z, h1, h2, h3, h4, h5 => by
    obtain ⟨ka, la⟩ := a
    obtain ⟨kb, lb⟩ := b
    have h1 : ka.length + kb.length = 3 := h1
    have h2 : la.length = ka.length + 1 := h2.resolve_left (by omega)
    have h3 : ∀ k ∈ la, Shape h 2 k := h3
    have h4 : lb.length = kb.length + 1 := h4.resolve_left (by omega)
    have h5 : ∀ k ∈ lb, Shape h 2 k := h5
    refine ⟨?_, ?_, ?_, fun k hk => (List.mem_append.1 hk).elim (h3 k) (h5 k)⟩
    · show 2 ≤ (ka ++ [z] ++ kb).length; simp; omega
    · show (ka ++ [z] ++ kb).length ≤ 4; simp; omega
    · show (la ++ lb).length = (ka ++ [z] ++ kb).length + 1; simp; omega
theorem delAt_take {α : Type} (l : List α) (i : Nat) (h : i ≤ l.length) : (delAt l i).take i = l.take i := by
  unfold delAt
  rw [List.take_append_of_le_length (by rw [List.length_take]; omega), List.take_take, Nat.min_self]
theorem delAt_drop {α : Type} (l : List α) (i : Nat) (h : i ≤ l.length) : (delAt l i).drop i = l.drop (i + 1) := by
  unfold delAt
  have hl : (l.take i).length = i := by rw [List.length_take]; omega
  rw [List.drop_append, List.drop_eq_nil_iff.2 (by omega), hl]
  simp
theorem set_at {α : Type} (l : List α) (i : Nat) (x : α) (h : i < l.length) : (l.set i x)[i]? = some x := by
  rw [List.getElem?_set_self h]
theorem set_take {α : Type} (l : List α) (i : Nat) (x : α) : (l.set i x).take i = l.take i := by
  rw [List.take_set_of_le (Nat.le_refl i)]
theorem set_drop {α : Type} (l : List α) (i : Nat) (x : α) : (l.set i x).drop (i + 1) = l.drop (i + 1) := by
  rw [List.drop_set_of_lt (Nat.lt_succ_self i)]
theorem getD_some {ks : List S29} {i : Nat} (hi : i < ks.length) : ks[i]? = some (ks.getD i z29) := by
  rw [List.getD_eq_getElem?_getD, List.getElem?_eq_getElem hi]
  rfl
/-- One pair of neighbours is moved: the whole row of items. -/
theorem pair_moved {h : Nat} {ks : List S29} {X : List (BT h)} {l c : BT h} {Y : List (BT h)} {r : S29} {l' c' : BT h} (hi : X.length < ks.length) (hs : Srt (flat (h + 1) (ks, X ++ l :: c :: Y)))
    (k : Srt (flat h l ++ (ks.getD X.length z29, false) :: flat h c) → Sam (flat h l ++ (ks.getD X.length z29, false) :: flat h c) (flat h l' ++ (r, false) :: flat h c')) :
    Sam (flat (h + 1) (ks, X ++ l :: c :: Y)) (flat (h + 1) (ks.set X.length r, X ++ l' :: c' :: Y)) := by
  have e1 := (flat_pair h ks X l c Y _ (getD_some hi)).trans (List.append_assoc _ _ _)
  have e2 := flat_pair h (ks.set X.length r) X l' c' Y r (set_at _ _ _ hi)
  rw [set_take, set_drop] at e2
  have e2 := e2.trans (List.append_assoc _ _ _)
  rw [e1] at hs
  rw [e1, e2]
  exact Sam.ctx hs (k (srt_mid.1 hs).2.1)
theorem pair_joined {h : Nat} {ks : List S29} {X : List (BT h)} {l c : BT h} {Y : List (BT h)} {j : BT h} (hi : X.length < ks.length) (hs : Srt (flat (h + 1) (ks, X ++ l :: c :: Y)))
    (k : Srt (flat h l ++ (ks.getD X.length z29, false) :: flat h c) → Sam (flat h l ++ (ks.getD X.length z29, false) :: flat h c) (flat h j)) :
    Sam (flat (h + 1) (ks, X ++ l :: c :: Y)) (flat (h + 1) (delAt ks X.length, X ++ j :: Y)) := by
  have e1 := (flat_pair h ks X l c Y _ (getD_some hi)).trans (List.append_assoc _ _ _)
  have e2 := flat_cut h (delAt ks X.length) X j Y (by rw [delAt_len _ _ hi]; omega)
  rw [delAt_take _ _ (by omega), delAt_drop _ _ (by omega)] at e2
  rw [e1] at hs
  rw [e1, e2]
  exact Sam.ctx hs (k (srt_mid.1 hs).2.1)
theorem Shape.kids {h n : Nat} {t : BT h} (hs : Shape h n t) : h = 0 ∨ bkids h t = blen h t + 1 := by
  cases h with
  | zero => exact .inl rfl
  | succ h => exact .inr hs.2.2.1
theorem bmend_good (h : Nat) (ks : List S29) (A : List (BT h)) (c : BT h) (B : List (BT h)) (hl : A.length + B.length = ks.length) (h1 : 1 ≤ ks.length) (hA : ∀ k ∈ A, Shape h 2 k) (hB : ∀ k ∈ B, Shape h 2 k) (hc1 : 1 ≤ blen h c) (hc4 : blen h c ≤ 4) (hck : h = 0 ∨ bkids h c = blen h c + 1) (hcc : KidsOk h c)
    (hs : Srt (flat (h + 1) (ks, A ++ c :: B))) : Sam (flat (h + 1) (ks, A ++ c :: B)) (flat (h + 1) (bmend h ks A c B)) ∧ ∀ k ∈ (bmend h ks A c B).2, Shape h 2 k := by
  unfold bmend
  by_cases hc : 2 ≤ blen h c
  · rw [if_pos hc]
    refine ⟨Sam.refl hs, fun k hk => ?_⟩
    simp only [List.mem_append, List.mem_cons] at hk
    rcases hk with hk | rfl | hk
    · exact hA k hk
    · exact shape_of hc hc4 hck hcc
    · exact hB k hk
  · rw [if_neg hc]
    have hce : blen h c = 1 := by omega
    rcases List.eq_nil_or_concat A with rfl | ⟨X, l, hAl⟩
    · simp only [List.getLast?_nil]
      obtain ⟨r, B', rfl⟩ := cons_cases' B (by simp at hl; omega)
      have hsr := hB r (by simp)
      have hB' : ∀ k ∈ B', Shape h 2 k := fun k hk => hB k (by simp [hk])
      by_cases hr : 2 < blen h r
      · simp only [if_pos hr]
        obtain ⟨s1, s2⟩ := bright_shape h c r (ks.getD 0 z29) hce hck hcc hr hsr.le hsr.kids (kidsOk_of hsr)
        refine ⟨pair_moved (X := []) (by simp; omega) hs (bright_sam h c r _ hr hck hsr.kids), fun k hk => ?_⟩
        simp only [List.mem_cons] at hk
        rcases hk with rfl | rfl | hk
        · exact s1
        · exact s2
        · exact hB' k hk
      · simp only [if_neg hr]
        have s1 := bjoin_shape h c r (ks.getD 0 z29) (by have := hsr.ge; omega) hck hcc hsr.kids (kidsOk_of hsr)
        refine ⟨pair_joined (X := []) (by simp; omega) hs (bjoin_sam h c r _ hck hsr.kids), fun k hk => ?_⟩
        simp only [List.mem_cons] at hk
        rcases hk with rfl | hk
        · exact s1
        · exact hB' k hk
    · have hAl : A = X ++ [l] := by simpa using hAl
      subst hAl
      have hgl : (X ++ [l]).getLast? = some l := by simp
      have hdl : (X ++ [l]).dropLast = X := by simp
      have hll : (X ++ [l]).length = X.length + 1 := by simp
      have hXl : X ++ [l] ++ c :: B = X ++ l :: c :: B := by simp
      have e0 : X.length + 1 - 1 = X.length := by omega
      have hsl := hA l (by simp)
      have hX : ∀ k ∈ X, Shape h 2 k := fun k hk => hA k (by simp [hk])
      simp only [hgl, hll, hdl, e0]
      rw [hll] at hl
      by_cases hl2 : 2 < blen h l
      · simp only [if_pos hl2]
        obtain ⟨s1, s2⟩ := bleft_shape h l c (ks.getD X.length z29) hl2 hsl.le hsl.kids (kidsOk_of hsl) hce hck hcc
        rw [hXl] at hs ⊢
        refine ⟨pair_moved (by omega) hs (bleft_sam h l c _ hl2 hsl.kids hck), fun k hk => ?_⟩
        simp only [List.mem_append, List.mem_cons] at hk
        rcases hk with hk | rfl | rfl | hk
        · exact hX k hk
        · exact s1
        · exact s2
        · exact hB k hk
      · simp only [if_neg hl2]
        have sj := bjoin_shape h l c (ks.getD X.length z29) (by have := hsl.ge; omega) hsl.kids (kidsOk_of hsl) hck hcc
        cases B with
        | nil =>
          simp only
          rw [hXl] at hs ⊢
          refine ⟨pair_joined (by omega) hs (bjoin_sam h l c _ hsl.kids hck), fun k hk => ?_⟩
          simp only [List.mem_append, List.mem_cons, List.not_mem_nil, or_false] at hk
          rcases hk with hk | rfl
          · exact hX k hk
          · exact sj
        | cons r B' =>
          rw [List.length_cons] at hl
          have hsr := hB r (by simp)
          have hB' : ∀ k ∈ B', Shape h 2 k := fun k hk => hB k (by simp [hk])
          by_cases hr : 2 < blen h r
          · simp only [if_pos hr]
            obtain ⟨s1, s2⟩ := bright_shape h c r (ks.getD (X.length + 1) z29) hce hck hcc hr hsr.le hsr.kids (kidsOk_of hsr)
            refine ⟨?_, fun k hk => ?_⟩
            · have hpm := pair_moved (X := X ++ [l]) (l := c) (c := r) (Y := B') (r := (bright h c r (ks.getD (X.length + 1) z29)).1) (l' := (bright h c r (ks.getD (X.length + 1) z29)).2.1) (c' := (bright h c r (ks.getD (X.length + 1) z29)).2.2) (by rw [hll]; omega) hs
                (by rw [hll]; exact bright_sam h c r _ hr hck hsr.kids)
              rw [hll] at hpm
              exact hpm
            · simp only [List.mem_append, List.mem_cons, List.not_mem_nil, or_false] at hk
              rcases hk with (hk | rfl) | rfl | rfl | hk
              · exact hX k hk
              · exact hsl
              · exact s1
              · exact s2
              · exact hB' k hk
          · simp only [if_neg hr]
            rw [hXl] at hs ⊢
            refine ⟨pair_joined (by omega) hs (bjoin_sam h l c _ hsl.kids hck), fun k hk => ?_⟩
            simp only [List.mem_append, List.mem_cons] at hk
            rcases hk with hk | rfl | rfl | hk
            · exact hX k hk
            · exact sj
            · exact hsr
            · exact hB' k hk
theorem leaf_found (l : List S29) (e : S29) (hs : Sorted l) : found l e = true ↔ (e, true) ∈ ents l := by
  rw [ents_mem, ← found_mem l e hs]
theorem bcut_good : ∀ (h n : Nat) (t : BT h) (e : S29), Shape h n t → (h = 0 ∨ 1 ≤ n) → Srt (flat h t) → Deld e (flat h t) (flat h (bcut h t e).1) ∧ KidsOk h (bcut h t e).1 ∧ ((bcut h t e).2 = true ↔ (e, true) ∈ flat h t)
  | 0, n, t, e, hs, _, hr => by
    exact ⟨leaf_del t e (srt_keys hr), trivial, leaf_found t e (srt_keys hr)⟩
  | h + 1, n, t, e, hs, hn, hr => by
    have hcf := cutfit_of (h + 1) n t e hs hn hr
    obtain ⟨ks, ts⟩ := t
    obtain ⟨h1, h2, h3, h4⟩ := hs
    change n ≤ ks.length at h1
    change ks.length ≤ 4 at h2
    change ts.length = ks.length + 1 at h3
    change ∀ k ∈ ts, Shape h 2 k at h4
    obtain ⟨A, k, B, rfl, hA, hAB, hX, hY⟩ := at_kid e h3 hr
    have hrk := srt_kid h3 hr k (by simp)
    have hsk := h4 k (by simp)
    obtain ⟨g1, g2, g3⟩ := bcut_good h 2 k e hsk (.inr (by decide)) hrk
    have hx : bcut (h + 1) (ks, A ++ k :: B) e = _ := bcut_at h ks A k B e hA
    have hfl : flat (h + 1) (ks, A ++ k :: B) = _ := flat_cut h ks A k B (by omega)
    have hr2 := hr
    rw [hfl] at hr2
    have hdel := Deld.ctx hr2 hX hY g1
    have hfl2 : flat (h + 1) (ks, A ++ (bcut h k e).1 :: B) = _ := flat_cut h ks A (bcut h k e).1 B (by omega)
    have hbs := bcut_shape h k e (cutfit_of h 2 k e hsk (.inr (by decide)) hrk)
    have hm := bmend_good h ks A (bcut h k e).1 B hAB (by omega) (fun x hxm => h4 x (by simp [hxm])) (fun x hxm => h4 x (by simp [hxm])) (by have := hsk.ge; omega) (by have := hsk.le; omega) hbs.2.2 g2 (by rw [hfl2]; exact hdel.srt)
    rw [hx]
    refine ⟨?_, hm.2, ?_⟩
    · rw [hfl]
      exact hdel.then (by rw [← hfl2]; exact hm.1)
    · rw [hfl]
      simp only [List.mem_append, g3]
      exact ⟨fun hh => .inr (.inl hh), fun hh => hh.elim (fun h0 => absurd (hX _ h0) (ltI_irr _)) (fun hh => hh.elim id (fun h0 => absurd (hY _ h0) (ltI_irr _)))⟩
theorem leaf_cut_same (l : List S29) (e : S29) (h : found l e = false) : (if found l e = true then delAt l (low l e) else l) = l := by
  rw [if_neg (by rw [h]; simp)]
theorem bcut_same : ∀ (h n : Nat) (t : BT h) (e : S29), Shape h n t → Srt (flat h t) → (bcut h t e).2 = false → (bcut h t e).1 = t
  | 0, n, t, e, hs, hr, hf => leaf_cut_same t e hf
  | h + 1, n, t, e, hs, hr, hf => by
    obtain ⟨ks, ts⟩ := t
    obtain ⟨h1, h2, h3, h4⟩ := hs
    change ts.length = ks.length + 1 at h3
    change ∀ k ∈ ts, Shape h 2 k at h4
    obtain ⟨A, k, B, rfl, hA, hAB, hX, hY⟩ := at_kid e h3 hr
    have hx : bcut (h + 1) (ks, A ++ k :: B) e = _ := bcut_at h ks A k B e hA
    have hk : (bcut h k e).2 = false := by rw [hx] at hf; exact hf
    have ih := bcut_same h 2 k e (h4 k (by simp)) (srt_kid h3 hr k (by simp)) hk
    rw [hx, ih]
    show bmend h ks A k B = _
    unfold bmend
    rw [if_pos (h4 k (by simp)).ge]
theorem tcut_good (h : Nat) (t : BT h) (e : S29) (hi : TInv h t) : TInv (tcut h t e).1.1 (tcut h t e).1.2 ∧ Deld e (flat h t) (flat (tcut h t e).1.1 (tcut h t e).1.2) ∧ ((tcut h t e).2 = true ↔ (e, true) ∈ flat h t) := by
  obtain ⟨hs, hr⟩ := hi
  have hn : h = 0 ∨ 1 ≤ (if h = 0 then 0 else 1) := by cases h <;> simp
  obtain ⟨g1, g2, g3⟩ := bcut_good h _ t e hs hn hr
  have hbs := bcut_shape h t e (cutfit_of h _ t e hs hn hr)
  have hle := hs.le
  cases hb : (bcut h t e).2 with
  | false =>
    have hsame := bcut_same h _ t e hs hr hb
    have ht : tcut h t e = (⟨h, t⟩, false) := by
      unfold tcut
      rw [if_neg (by rw [hb]; simp), hsame]
    have hne : (e, true) ∉ flat h t := fun h0 => by have := g3.2 h0; rw [hb] at this; cases this
    rw [hsame] at g1
    rw [ht]
    exact ⟨⟨hs, hr⟩, g1, by simp [hne]⟩
  | true =>
    have hin : (e, true) ∈ flat h t := g3.1 hb
    cases h with
    | zero =>
      have ht : tcut 0 t e = (⟨0, (bcut 0 t e).1⟩, true) := by
        unfold tcut
        rw [if_pos hb]
      rw [ht]
      exact ⟨⟨shape_of (t := (bcut 0 t e).1) (Nat.zero_le _) (by omega) hbs.2.2 g2, g1.srt⟩, g1, by simp [hin]⟩
    | succ h =>
      obtain ⟨r, hx⟩ : ∃ r, (bcut (h + 1) t e).1 = r := ⟨_, rfl⟩
      obtain ⟨ks, ts⟩ := r
      rw [hx] at g1 g2 hbs
      have hk : ts.length = ks.length + 1 := hbs.2.2.resolve_left (by omega)
      cases ks with
      | nil =>
        obtain ⟨k, ts', rfl⟩ := cons_cases' ts (by rw [hk]; simp)
        have hts : ts' = [] := List.eq_nil_of_length_eq_zero (by simpa using hk)
        subst hts
        have ht : tcut (h + 1) t e = (⟨h, k⟩, true) := by
          unfold tcut
          rw [if_pos hb]
          simp only [hx]
        have hfk : flat (h + 1) ([], [k]) = flat h k := by simp [flat, il, lpost]
        rw [hfk] at g1
        have hsk : Shape h 2 k := g2 k (by simp)
        rw [ht]
        exact ⟨⟨hsk.mono (by split <;> omega), g1.srt⟩, g1, by simp [hin]⟩
      | cons x ks =>
        have ht : tcut (h + 1) t e = (⟨h + 1, (x :: ks, ts)⟩, true) := by
          unfold tcut
          rw [if_pos hb]
          simp only [hx]
        have hl4 : (x :: ks).length ≤ 4 := by have := hbs.2.1; exact Nat.le_trans this hle
        rw [ht]
        refine ⟨⟨⟨?_, hl4, hk, g2⟩, g1.srt⟩, g1, by simp [hin]⟩
        simp
end Go.Proofs.Bt
end
section
/- The tree's methods over a state of chunks. -/
namespace Go.Proofs.Bt
open Go Go.RowKit Go.Proofs.Ytjaddmflopahiaa.Q Go.Proofs.YtjaddmflopahiaaW.PrintWords Go.Proofs.YtjaddmflopahiaaW.PrintLast Go.Proofs.YtjaddmflopahiaaW.PrintMore
set_option linter.unusedVariables false
set_option linter.unusedSimpArgs false
set_option maxRecDepth 100000

abbrev ST := Σ h, BT h
def tinsS (T : ST) (e : S29) : ST × Bool := tins T.1 T.2 e
def tcutS (T : ST) (e : S29) : ST × Bool := tcut T.1 T.2 e
def flatS (T : ST) : List It := flat T.1 T.2
def TInvS (T : ST) : Prop := TInv T.1 T.2
/-- A tree T of so many entries at tp, beside other chunks. -/
def TS (w0 : World) (F : Nat → Prop) (W : World) (tp : Nat) (T : ST) (cnt : Int) (R : List Chunk) : Prop := ∃ m : MT T.1, abs T.1 m = T.2 ∧ St w0 F W (treeT tp T.1 m cnt ++ R)
theorem TS.open {w0 W : World} {F : Nat → Prop} {tp h : Nat} {t : BT h} {cnt : Int} {R : List Chunk} (s : TS w0 F W tp ⟨h, t⟩ cnt R) : ∃ m : MT h, abs h m = t ∧ St w0 F W (treeT tp h m cnt ++ R) := s
section
variable {w0 W W' : World} {F : Nat → Prop} {tp : Nat} {T : ST} {cnt : Int} {R R' : List Chunk}
theorem TS.below (s : TS w0 F W tp T cnt R) (hb : Below W.heap.size W W') : TS w0 F W' tp T cnt R := by
  obtain ⟨m, h1, s⟩ := s
  exact ⟨m, h1, s.below hb⟩
theorem TS.rest (s : TS w0 F W tp T cnt R) : St w0 F W R := by
  obtain ⟨m, h1, s⟩ := s
  exact s.drop
theorem TS.keep (s : TS w0 F W tp T cnt R) : Keep w0 W F := by
  obtain ⟨m, h1, s⟩ := s
  exact s.keep
/-- The chunks beside the tree are changed. -/
theorem TS.upd (s : TS w0 F W tp T cnt R) (k : ∀ X, St w0 F W (R ++ X) → St w0 F W' (R' ++ X)) : TS w0 F W' tp T cnt R' := by
  obtain ⟨m, h1, s⟩ := s
  exact ⟨m, h1, (k _ (s.perm List.perm_append_comm)).perm List.perm_append_comm⟩
end
theorem new_ts (w w0 : World) (F : Nat → Prop) (R : List Chunk) (s : St w0 F w R) : Calls Try.prog 10 #[] w fun E w' => ∃ tp, E = .returned (.pointer (some ⟨tp, 0, none⟩)) ∧ TS w0 F w' tp ⟨0, ([] : List S29)⟩ 0 R := by
  refine (new_calls w).mono ?_
  rintro E w' ⟨tp, m, rfl, ⟨h1, h2, h3⟩, h4, h5, h6⟩
  refine ⟨tp, rfl, m, h4, ?_⟩
  have s1 := s.fresh h5 (treeC 0 m) h2 (fun a => by have := h3 a; rw [List.count_cons] at this; exact (show (fp 0 m).count a ≤ 1 by omega)) (fun b hb => h6 b (List.mem_cons_of_mem _ hb))
  have hne : tp ∉ fp 0 m := fun hm => by
    have h1 := h3 tp
    have h2 := count_mem.1 hm
    rw [List.count_cons_self] at h1
    omega
  refine ⟨s1.keep, ?_, ?_, ?_⟩
  · intro c hc
    rcases List.mem_cons.1 (show c ∈ tatC tp (ptr 0 m) 0 :: (treeC 0 m :: R) from hc) with rfl | hc
    · exact h1
    · exact s1.h c hc
  · have e : fpc (treeT tp 0 m 0 ++ R) = [tp] ++ fpc (treeC 0 m :: R) := rfl
    rw [e]
    refine nd_app.2 ⟨nd_one tp, s1.nd, fun x hx hm => ?_⟩
    simp at hx
    subst hx
    rw [fpc_cons] at hm
    rcases List.mem_append.1 hm with hm | hm
    · exact hne hm
    · have := s.lt x hm
      have := h6 x (by simp)
      omega
  · intro b hb
    have hb : b ∈ [tp] ++ fpc (treeC 0 m :: R) := hb
    rcases List.mem_append.1 hb with hb | hb
    · simp at hb
      subst hb
      have := s.keep.size
      have := h6 b (by simp)
      exact .inr (by omega)
    · exact s1.own b hb
theorem insert_ts (W w0 : World) (F : Nat → Prop) (tp : Nat) (T : ST) (cnt : Int) (R : List Chunk) (e : S29) (s : TS w0 F W tp T cnt R) (hi : TInvS T) (hc0 : 0 ≤ cnt) (hc1 : cnt < 1000000) :
    Calls Try.prog 11 #[.pointer (some ⟨tp, 0, none⟩), entryV e] W fun E w' => E = .returned (.bool (tinsS T e).2) ∧ TS w0 F w' tp (tinsS T e).1 (if (tinsS T e).2 = true then cnt + 1 else cnt) R := by
  obtain ⟨h, t⟩ := T
  obtain ⟨m, hm, sX⟩ := TS.open s
  subst hm
  have s' : St w0 F W (treeT tp h m cnt ++ R) := sX
  have hT : TreeAt W tp (ptr h m) cnt := s'.tat 0 rfl
  have hok : Ok W h m := s'.tree 1 rfl
  have hsub := s'.sub
  have hfp : fpc (treeT tp h m cnt) = tp :: fp h m := by simp [fpc, treeT, tatC, treeC]
  have hnd : ND (tp :: fp h m) := by
    have := hsub.nd
    rw [hfp] at this
    exact this
  refine (tinsert_calls W tp h m cnt e ⟨hT, hok, hnd⟩ (fit_of h _ _ e hi.shape hi.srt) hc0 hc1).mono ?_
  rintro E w' ⟨h', m', rfl, ⟨g1, g2, g3⟩, g4, g5, g6⟩
  refine ⟨rfl, ?_⟩
  have hTS : TS w0 F w' tp ⟨h', abs h' m'⟩ (if (tins h (abs h m) e).2 = true then cnt + 1 else cnt) R := by
    refine ⟨m', rfl, s'.frame (B := treeT tp h' m' (if (tins h (abs h m) e).2 = true then cnt + 1 else cnt)) ?_ ?_ ?_ ?_⟩
    · rw [hfp]
      exact g5
    · intro c hc
      simp only [treeT, List.mem_cons, List.not_mem_nil, or_false] at hc
      rcases hc with rfl | rfl
      · exact g1
      · exact g2
    · have : fpc (treeT tp h' m' (if (tins h (abs h m) e).2 = true then cnt + 1 else cnt)) = tp :: fp h' m' := by simp [fpc, treeT, tatC, treeC]
      rw [this]
      exact g3
    · intro b hb
      have : fpc (treeT tp h' m' (if (tins h (abs h m) e).2 = true then cnt + 1 else cnt)) = tp :: fp h' m' := by simp [fpc, treeT, tatC, treeC]
      rw [this] at hb
      rw [hfp]
      rcases List.mem_cons.1 hb with rfl | hb
      · exact .inl List.mem_cons_self
      · exact (g6 b hb).imp (List.mem_cons_of_mem _) id
  have e1 : (tinsS ⟨h, abs h m⟩ e).1 = ⟨h', abs h' m'⟩ := g4.symm
  rw [e1]
  exact hTS
theorem delete_ts (W w0 : World) (F : Nat → Prop) (tp : Nat) (T : ST) (cnt : Int) (R : List Chunk) (e : S29) (s : TS w0 F W tp T cnt R) (hi : TInvS T) (hc0 : 0 ≤ cnt) (hc1 : cnt < 1000000) :
    Calls Try.prog 15 #[.pointer (some ⟨tp, 0, none⟩), entryV e] W fun E w' => E = .returned (.bool (tcutS T e).2) ∧ TS w0 F w' tp (tcutS T e).1 (if (tcutS T e).2 = true then cnt - 1 else cnt) R := by
  obtain ⟨h, t⟩ := T
  obtain ⟨m, hm, sX⟩ := TS.open s
  subst hm
  have s' : St w0 F W (treeT tp h m cnt ++ R) := sX
  refine (tdelete_calls W tp h m cnt e s'.sub (cutfit_of h _ _ e hi.shape (by cases h <;> simp) hi.srt) hc0 hc1).mono ?_
  rintro E w' ⟨h', m', rfl, g1, st⟩
  refine ⟨rfl, ?_⟩
  have e1 : (tcutS ⟨h, abs h m⟩ e).1 = ⟨h', abs h' m'⟩ := g1.symm
  rw [e1]
  exact ⟨m', rfl, s'.call st⟩
theorem count_ts (W w0 : World) (F : Nat → Prop) (tp : Nat) (T : ST) (cnt : Int) (R : List Chunk) (s : TS w0 F W tp T cnt R) : Calls Try.prog 13 #[.pointer (some ⟨tp, 0, none⟩)] W fun E w' => E = .returned (.int .i64 cnt) ∧ w' = W := by
  obtain ⟨m, hm, s⟩ := s
  exact count_calls W tp _ cnt (St.tat (cs := treeT tp T.1 m cnt ++ R) s 0 rfl)
theorem small_of : ∀ (h n : Nat) (t : BT h), Shape h n t → Small h t
  | 0, n, t, hs => by have := hs.2; exact (show List.length (α := S29) t < 900 by omega)
  | h + 1, n, t, hs => by
    obtain ⟨h1, h2, h3, h4⟩ := hs
    exact ⟨by omega, by omega, fun k hk => small_of h 2 k (h4 k hk)⟩
def pagesOf (T : ST) : List PgA := blay T.1 T.2 0
theorem pages_ts (W w0 : World) (F : Nat → Prop) (tp : Nat) (T : ST) (cnt : Int) (R : List Chunk) (s : TS w0 F W tp T cnt R) (hi : TInvS T) (hb : (pagesOf T).length < 100000) :
    Calls Try.prog 12 #[.pointer (some ⟨tp, 0, none⟩)] W fun E w' => ∃ (g n c : Nat) (l : List Pg), E = .returned (.slice (some ⟨g, 0, none⟩) n c) ∧ l.map Pg.a = pagesOf T ∧ TS w0 F w' tp T cnt (pagesC (.slice (some ⟨g, 0, none⟩) n c) l :: R) := by
  obtain ⟨h, t⟩ := T
  obtain ⟨m, hm, sX⟩ := TS.open s
  subst hm
  have s' : St w0 F W (treeT tp h m cnt ++ R) := sX
  refine (pages_calls W tp h m cnt _ s'.sub (small_of h _ _ hi.shape) hb).mono ?_
  rintro E w' ⟨g, n, c, l, rfl, hl, st⟩
  exact ⟨g, n, c, l, rfl, hl, m, rfl, s'.call st⟩
/-- What a call that keeps all old memory makes. -/
theorem TS.made {w0 W W' : World} {F : Nat → Prop} {tp : Nat} {T : ST} {cnt : Int} {R : List Chunk} {c : Chunk} (s : TS w0 F W tp T cnt R) (k : St W NoF W' [c]) : TS w0 F W' tp T cnt (c :: R) := by
  obtain ⟨m, hm, s⟩ := s
  have hb := keep_below k.keep
  have hc := k.h c (by simp)
  have hnd : ND c.bs := k.ndi 0 rfl
  have s2 := s.fresh hb c hc hnd (fun b hb => (k.own b (by simp [fpc, hb])).elim (fun h => h.elim) id)
  refine ⟨m, hm, s2.perm ?_⟩
  exact (List.perm_middle (a := c) (l₁ := treeT tp T.1 m cnt) (l₂ := R)).symm
def fromS (T : ST) (e : S29) : List S29 := bfrom T.1 T.2 e
theorem range_ts (W w0 : World) (F : Nat → Prop) (tp : Nat) (T : ST) (cnt : Int) (R : List Chunk) (frm hiK : ByteArray) (most : Int) (s : TS w0 F W tp T cnt R) (hi : TInvS T) (hb : (fromS T (lowS frm)).length < 90000) :
    Calls Try.prog 19 #[.pointer (some ⟨tp, 0, none⟩), .string frm, .string hiK, .int .i64 most] W fun E w' => ∃ v, E = .returned v ∧ TS w0 F w' tp T cnt (rowEC v (rng hiK most (fromS T (lowS frm)) 0) :: R) := by
  have s0 := s
  obtain ⟨h, t⟩ := T
  obtain ⟨m, hm, sX⟩ := TS.open s
  subst hm
  have s' : St w0 F W (treeT tp h m cnt ++ R) := sX
  refine (range_calls W tp h m cnt frm hiK most (s'.tat 0 rfl) (s'.tree 1 rfl) (fit_of h _ _ _ hi.shape hi.srt) hb).mono ?_
  rintro E w' ⟨v, rfl, st⟩
  exact ⟨v, rfl, s0.made st⟩
theorem all_ts (W w0 : World) (F : Nat → Prop) (tp : Nat) (T : ST) (cnt : Int) (R : List Chunk) (s : TS w0 F W tp T cnt R) (hi : TInvS T) (hb : (fromS T (lowS ⟨#[]⟩)).length < 90000) :
    Calls Try.prog 18 #[.pointer (some ⟨tp, 0, none⟩)] W fun E w' => ∃ v, E = .returned v ∧ TS w0 F w' tp T cnt (rowEC v (fromS T (lowS ⟨#[]⟩)) :: R) := by
  have s0 := s
  obtain ⟨h, t⟩ := T
  obtain ⟨m, hm, sX⟩ := TS.open s
  subst hm
  have s' : St w0 F W (treeT tp h m cnt ++ R) := sX
  refine (all_calls W tp h m cnt (s'.tat 0 rfl) (s'.tree 1 rfl) (fit_of h _ _ _ hi.shape hi.srt) hb).mono ?_
  rintro E w' ⟨v, rfl, st⟩
  exact ⟨v, rfl, s0.made st⟩
end Go.Proofs.Bt
end
section
/- alive: five entries in three pages. -/
namespace Go.Proofs.Bt
open Go Go.RowKit Go.Proofs.Ytjaddmflopahiaa.Q Go.Proofs.YtjaddmflopahiaaW.PrintWords Go.Proofs.YtjaddmflopahiaaW.PrintLast Go.Proofs.YtjaddmflopahiaaW.PrintMore
set_option linter.unusedVariables false
set_option linter.unusedSimpArgs false
set_option maxRecDepth 100000

def ea (b : UInt8) : S29 := ⟨⟨#[b]⟩, ⟨0, 0⟩⟩
/-- The tree behind so many inserts. -/
def TA : Nat → ST
  | 0 => ⟨0, ([] : List S29)⟩
  | 1 => ⟨0, ([ea 97] : List S29)⟩
  | 2 => ⟨0, ([ea 97, ea 98] : List S29)⟩
  | 3 => ⟨0, ([ea 97, ea 98, ea 99] : List S29)⟩
  | 4 => ⟨0, ([ea 97, ea 98, ea 99, ea 100] : List S29)⟩
  | _ => ⟨1, (([ea 99], [[ea 97, ea 98], [ea 99, ea 100, ea 101]]) : List S29 × List (List S29))⟩
theorem ta0 : tinsS (TA 0) (ea 97) = (TA 1, true) := by kernel_rfl
theorem ta1 : tinsS (TA 1) (ea 98) = (TA 2, true) := by kernel_rfl
theorem ta2 : tinsS (TA 2) (ea 99) = (TA 3, true) := by kernel_rfl
theorem ta3 : tinsS (TA 3) (ea 100) = (TA 4, true) := by kernel_rfl
theorem ta4 : tinsS (TA 4) (ea 101) = (TA 5, true) := by kernel_rfl
theorem ta5 : tinsS (TA 5) (ea 97) = (TA 5, false) := by kernel_rfl
theorem tad : (tcutS (TA 5) (ea 97)).2 = true := by kernel_rfl
theorem tap : pagesOf (TA 5) = [(false, [ea 99], [1, 2]), (true, [ea 97, ea 98], []), (true, [ea 99, ea 100, ea 101], [])] := by kernel_rfl
theorem tar : rng ⟨#[100]⟩ 9 (fromS (TA 5) (lowS ⟨#[98]⟩)) 0 = [ea 98, ea 99] := by kernel_rfl
theorem tfl : (fromS (TA 5) (lowS ⟨#[98]⟩)).length < 90000 := by decide +kernel
theorem tinv0 : TInvS (TA 0) := ⟨⟨Nat.le_refl _, by decide⟩, List.Pairwise.nil⟩
theorem tinv_step {T T' : ST} {e : S29} {b : Bool} (hi : TInvS T) (h : tinsS T e = (T', b)) : TInvS T' := by
  have := (tins_good T.1 T.2 e hi).1
  have e1 : (tins T.1 T.2 e).1 = T' := by
    have := congrArg Prod.fst h
    exact this
  rw [e1] at this
  exact this
theorem tinv1 : TInvS (TA 1) := tinv_step tinv0 ta0
theorem tinv2 : TInvS (TA 2) := tinv_step tinv1 ta1
theorem tinv3 : TInvS (TA 3) := tinv_step tinv2 ta2
theorem tinv4 : TInvS (TA 4) := tinv_step tinv3 ta3
theorem tinv5 : TInvS (TA 5) := tinv_step tinv4 ta4
theorem insert_ta (W w0 : World) (F : Nat → Prop) (tp : Nat) (T T' : ST) (cnt : Int) (R : List Chunk) (e : S29) (b : Bool) (s : TS w0 F W tp T cnt R) (hi : TInvS T) (h : tinsS T e = (T', b)) (hc0 : 0 ≤ cnt) (hc1 : cnt < 1000000) :
    Calls Try.prog 11 #[.pointer (some ⟨tp, 0, none⟩), entryV e] W fun E w' => E = .returned (.bool b) ∧ TS w0 F w' tp T' (if b = true then cnt + 1 else cnt) R := by
  have := insert_ts W w0 F tp T cnt R e s hi hc0 hc1
  rw [h] at this
  exact this
theorem pages_row {v : Value} {l : List Pg} {w0 w : World} {F : Nat → Prop} {R : List Chunk} (s : St w0 F w (pagesC v l :: R)) : RowPg w v l ∧ ∀ p ∈ l, PgOk w p := s.h (pagesC v l) (by simp)
theorem three_pages {l : List Pg} {a b c : PgA} (h : l.map Pg.a = [a, b, c]) : ∃ p q r, l = [p, q, r] ∧ p.a = a ∧ q.a = b ∧ r.a = c := by
  match l, h with
  | [p, q, r], h =>
    simp at h
    exact ⟨p, q, r, rfl, h.1, h.2.1, h.2.2⟩
set_option maxHeartbeats 4000000 in
theorem alive_calls (w : World) : Calls Try.prog 9 #[] w fun E w' => E = .returned (.bool true) ∧ Below w.heap.size w w' := by
  obtain ⟨R, hR⟩ : ∃ R, (fun E w' => E = Ending.returned (.bool true) ∧ Below w.heap.size w w') = R := ⟨_, rfl⟩
  have HR := Aside0.mk hR
  rw [hR]
  clear hR
  have HN := Aside0.mk (new_ts w w NoF [] (St.none w NoF))
  go_enter Try.func9, Try.ntmps9
  go_wp2_with (go_at_call 10; refine HN.out.mono ?_; rintro E w1 ⟨tp, rfl, hs⟩; have HS := Aside0.mk hs; clear hs)
  go_loopg [2] 5 (fun gq v2 wx => ∃ j : Nat, v2 = .int .i64 j ∧ j + gq = 5 ∧ Aside0 (TS w NoF wx tp (TA j) j []))
  case atStart => exact ⟨0, rfl, rfl, HS⟩
  case round =>
    clear HS
    obtain ⟨j, rfl, hj, HS⟩ := hrel
    cases gk with
    | zero =>
      obtain rfl : j = 5 := by omega
      have HP := Aside0.mk (pages_ts wr w NoF tp (TA 5) 5 [] HS.out tinv5 (by decide +kernel))
      go_wp2_with (first
        | (go_at_call 12; refine HP.out.mono ?_; clear HP; rintro E w2 ⟨g, n, c, l, rfl, hl, hs2⟩; rw [tap] at hl; obtain ⟨p, q, r, rfl, hp, hq, hr⟩ := three_pages hl; have HS2 := Aside0.mk hs2; have HPA := Aside0.mk hp; clear hs2 hl hp hq hr HS)
        | (go_at_call 19; refine (range_ts w2 w NoF tp (TA 5) 5 _ ⟨#[98]⟩ ⟨#[100]⟩ 9 HS2.out tinv5 tfl).mono ?_; rw [tar]; rintro E w3 ⟨v, rfl, hs3⟩; have HS3 := Aside0.mk hs3; clear hs3; obtain ⟨gv, cv, rfl, _⟩ := (HS3.out.rest.rowE 0 rfl).formS (by decide); obtain ⟨q0, y1, y2⟩ := (HS3.out.rest.rowE 0 rfl).cells 1 (by decide); have y0 : w3.cell? ⟨gv, 1 * 3, none⟩ = some (.string ⟨#[99]⟩) := q0; clear q0; have hpg := pages_row (HS3.out.rest.perm (List.Perm.swap _ _ _)); obtain ⟨Ak, ck, hk⟩ := (hpg.2 p (by simp)).1.slice; have hks : p.ks = [ea 99] := congrArg (fun x : PgA => x.2.1) HPA.out; have hlf : p.leaf = false := congrArg (fun x : PgA => x.1) HPA.out; rw [hks] at hk; have hn : n = 3 := (by rcases hpg.1.2.2 with ⟨h1, _⟩ | ⟨g', c', cur, h1, _⟩; (simp at h1); (simp at h1; exact h1.2.1)); have z0 := hpg.1.cell (by rw [hn]; rfl) 0 (.bool false) (by rw [← hlf]; rfl); have z1 := hpg.1.cell (by rw [hn]; rfl) 1 (.slice Ak [ea 99].length ck) (by rw [← hk]; rfl); subst hn; clear hpg hk hks hlf)
        | (go_at_call 13; refine (count_ts _ w NoF tp (TA 5) 5 _ HS3.out).mono ?_; rintro E w3 ⟨rfl, rfl⟩)
        | (go_at_call 11; refine (insert_ta _ w NoF tp _ _ _ _ (ea 97) false HS3.out tinv5 ta5 (by omega) (by omega)).mono ?_; clear y0 y1 y2 z0 z1; rintro E w4 ⟨rfl, hs4⟩; have HS4 := Aside0.mk hs4; clear hs4)
        | (go_at_call 15; refine (delete_ts _ w NoF tp _ _ _ (ea 97) HS4.out tinv5 (by simp) (by simp)).mono ?_; rw [tad]; rintro E w5 ⟨rfl, hs5⟩; have HS5 := Aside0.mk hs5; clear hs5))
      rw [← HR.out]
      exact ⟨rfl, keep_below HS5.out.keep⟩
    | succ g =>
      have hcase : j = 0 ∨ j = 1 ∨ j = 2 ∨ j = 3 ∨ j = 4 := by omega
      rcases hcase with rfl | rfl | rfl | rfl | rfl
      · have h0 : (⟨#[97, 98, 99, 100, 101]⟩ : ByteArray).extract 0 1 = ⟨#[97]⟩ := by kernel_rfl
        have HC := Aside0.mk (insert_ta wr w NoF tp _ _ _ [] (ea 97) true HS.out tinv0 ta0 (by omega) (by omega))
        go_wp2_with (go_at_call 11; refine HC.out.mono ?_; clear HC; rintro E w2 ⟨rfl, hs2⟩; have HS2 := Aside0.mk hs2; clear hs2)
        go_roundg g
        case measure => omega
        case rel => exact ⟨1, by go_num, by omega, HS2⟩
      · have h0 : (⟨#[97, 98, 99, 100, 101]⟩ : ByteArray).extract 1 2 = ⟨#[98]⟩ := by kernel_rfl
        have HC := Aside0.mk (insert_ta wr w NoF tp _ _ _ [] (ea 98) true HS.out tinv1 ta1 (by omega) (by omega))
        go_wp2_with (go_at_call 11; refine HC.out.mono ?_; clear HC; rintro E w2 ⟨rfl, hs2⟩; have HS2 := Aside0.mk hs2; clear hs2)
        go_roundg g
        case measure => omega
        case rel => exact ⟨2, by go_num, by omega, HS2⟩
      · have h0 : (⟨#[97, 98, 99, 100, 101]⟩ : ByteArray).extract 2 3 = ⟨#[99]⟩ := by kernel_rfl
        have HC := Aside0.mk (insert_ta wr w NoF tp _ _ _ [] (ea 99) true HS.out tinv2 ta2 (by omega) (by omega))
        go_wp2_with (go_at_call 11; refine HC.out.mono ?_; clear HC; rintro E w2 ⟨rfl, hs2⟩; have HS2 := Aside0.mk hs2; clear hs2)
        go_roundg g
        case measure => omega
        case rel => exact ⟨3, by go_num, by omega, HS2⟩
      · have h0 : (⟨#[97, 98, 99, 100, 101]⟩ : ByteArray).extract 3 4 = ⟨#[100]⟩ := by kernel_rfl
        have HC := Aside0.mk (insert_ta wr w NoF tp _ _ _ [] (ea 100) true HS.out tinv3 ta3 (by omega) (by omega))
        go_wp2_with (go_at_call 11; refine HC.out.mono ?_; clear HC; rintro E w2 ⟨rfl, hs2⟩; have HS2 := Aside0.mk hs2; clear hs2)
        go_roundg g
        case measure => omega
        case rel => exact ⟨4, by go_num, by omega, HS2⟩
      · have h0 : (⟨#[97, 98, 99, 100, 101]⟩ : ByteArray).extract 4 5 = ⟨#[101]⟩ := by kernel_rfl
        have HC := Aside0.mk (insert_ta wr w NoF tp _ _ _ [] (ea 101) true HS.out tinv4 ta4 (by omega) (by omega))
        go_wp2_with (go_at_call 11; refine HC.out.mono ?_; clear HC; rintro E w2 ⟨rfl, hs2⟩; have HS2 := Aside0.mk hs2; clear hs2)
        go_roundg g
        case measure => omega
        case rel => exact ⟨5, by go_num, by omega, HS2⟩
end Go.Proofs.Bt
end
section
/- Plain law: the entries of a tree in order; how many there are, and how many pages. -/
namespace Go.Proofs.Bt
open Go Go.RowKit Go.Proofs.Ytjaddmflopahiaa.Q
set_option linter.unusedVariables false
set_option linter.unusedSimpArgs false

/-- The entries of a row of items. -/
def ent (F : List It) : List S29 := F.filterMap fun i => if i.2 = true then some i.1 else none
theorem ent_app (a b : List It) : ent (a ++ b) = ent a ++ ent b := by simp [ent]
theorem ent_sep (z : S29) (F : List It) : ent ((z, false) :: F) = ent F := by simp [ent]
theorem ent_ents (l : List S29) : ent (ents l) = l := by
  induction l with
  | nil => rfl
  | cons x l ih =>
    show ent ((x, true) :: ents l) = x :: l
    simp only [ent, List.filterMap_cons]
    simp
    exact ih
theorem mem_ent (F : List It) (z : S29) : z ∈ ent F ↔ (z, true) ∈ F := by
  simp only [ent, List.mem_filterMap]
  constructor
  · rintro ⟨i, hi, h⟩
    split at h
    · rename_i h2
      simp at h
      rw [← h, ← h2]
      exact hi
    · cases h
  · intro h
    exact ⟨(z, true), h, by simp⟩
theorem ent_sorted {F : List It} (h : Srt F) : Sorted (ent F) := by
  unfold Sorted ent
  rw [List.pairwise_filterMap]
  refine h.imp fun {a b} hab x hx y hy => ?_
  split at hx
  · split at hy
    · rename_i h1 h2
      simp at hx hy
      subst hx
      subst hy
      rcases hab with hab | ⟨_, h3, _⟩
      · exact hab
      · rw [h1] at h3
        cases h3
    · cases hy
  · cases hx
theorem sorted_ext : ∀ {a b : List S29}, Sorted a → Sorted b → (∀ z, z ∈ a ↔ z ∈ b) → a = b
  | [], [], _, _, _ => rfl
  | [], y :: b, _, _, h => by have := (h y).2 (by simp); simp at this
  | x :: a, [], _, _, h => by have := (h x).1 (by simp); simp at this
  | x :: a, y :: b, ha, hb, h => by
    obtain ⟨a1, a2⟩ := List.pairwise_cons.1 ha
    obtain ⟨b1, b2⟩ := List.pairwise_cons.1 hb
    have hxy : x = y := by
      rcases List.mem_cons.1 ((h x).1 (by simp)) with h1 | h1
      · exact h1
      · rcases List.mem_cons.1 ((h y).2 (by simp)) with h2 | h2
        · exact h2.symm
        · exact absurd (ltE_trans (b1 x h1) (a1 y h2)) (ltE_irr _)
    subst hxy
    rw [sorted_ext a2 b2 fun z => ?_]
    constructor
    · intro hz
      rcases List.mem_cons.1 ((h z).1 (List.mem_cons_of_mem _ hz)) with h1 | h1
      · subst h1
        exact absurd (a1 z hz) (ltE_irr _)
      · exact h1
    · intro hz
      rcases List.mem_cons.1 ((h z).2 (List.mem_cons_of_mem _ hz)) with h1 | h1
      · subst h1
        exact absurd (b1 z hz) (ltE_irr _)
      · exact h1
def sins (l : List S29) (e : S29) : List S29 := if found l e = true then l else insAt l (low l e) e
def sdel (l : List S29) (e : S29) : List S29 := if found l e = true then delAt l (low l e) else l
theorem ent_ins {e : S29} {F F' : List It} (hs : Srt F) (k : Insd e F F') : ent F' = sins (ent F) e := by
  have hso := ent_sorted hs
  have hl := (leaf_ins (ent F) e hso).1
  refine sorted_ext (ent_sorted k.srt) (srt_keys hl.srt) fun z => ?_
  rw [mem_ent, k.mem, ← mem_ent]
  have := hl.mem z
  rw [ents_mem, ents_mem] at this
  exact this.symm
theorem ent_del {e : S29} {F F' : List It} (hs : Srt F) (k : Deld e F F') : ent F' = sdel (ent F) e := by
  have hso := ent_sorted hs
  have hl := leaf_del (ent F) e hso
  refine sorted_ext (ent_sorted k.srt) (srt_keys hl.srt) fun z => ?_
  rw [mem_ent, k.mem, ← mem_ent]
  have := hl.mem z
  rw [ents_mem, ents_mem] at this
  exact this.symm
def entS (T : ST) : List S29 := ent (flatS T)
theorem entS_sorted {T : ST} (h : TInvS T) : Sorted (entS T) := ent_sorted h.srt
theorem tins_ent {T : ST} (e : S29) (h : TInvS T) : TInvS (tinsS T e).1 ∧ entS (tinsS T e).1 = sins (entS T) e ∧ ((tinsS T e).2 = true ↔ e ∉ entS T) := by
  obtain ⟨h1, h2, h3⟩ := tins_good T.1 T.2 e h
  refine ⟨h1, ent_ins h.srt h2, ?_⟩
  have : e ∈ entS T ↔ (e, true) ∈ flatS T := mem_ent _ _
  rw [this]
  exact h3
theorem tcut_ent {T : ST} (e : S29) (h : TInvS T) : TInvS (tcutS T e).1 ∧ entS (tcutS T e).1 = sdel (entS T) e ∧ ((tcutS T e).2 = true ↔ e ∈ entS T) := by
  obtain ⟨h1, h2, h3⟩ := tcut_good T.1 T.2 e h
  refine ⟨h1, ent_del h.srt h2, ?_⟩
  have : e ∈ entS T ↔ (e, true) ∈ flatS T := mem_ent _ _
  rw [this]
  exact h3
theorem sins_len (l : List S29) (e : S29) (hs : Sorted l) (b : Bool) (hb : b = true ↔ e ∉ l) : ((sins l e).length : Int) = if b = true then (l.length : Int) + 1 else l.length := by
  have := found_mem l e hs
  unfold sins
  by_cases he : e ∈ l
  · rw [if_pos (this.2 he), if_neg (fun h => hb.1 h he)]
  · rw [if_neg (fun h => he (this.1 h)), if_pos (hb.2 he), insAt_len _ _ _ (low_le l e)]
    omega
theorem sdel_len (l : List S29) (e : S29) (hs : Sorted l) (b : Bool) (hb : b = true ↔ e ∈ l) : ((sdel l e).length : Int) = if b = true then (l.length : Int) - 1 else l.length := by
  have := found_mem l e hs
  unfold sdel
  by_cases he : e ∈ l
  · have hl := found_lt (this.2 he)
    rw [if_pos (this.2 he), if_pos (hb.2 he), delAt_len _ _ hl]
    omega
  · rw [if_neg (fun h => he (this.1 h)), if_neg (fun h => he (hb.1 h))]
/-- Behind an insert the count is that of the entries; likewise behind a delete. -/
theorem tins_count {T : ST} (e : S29) (h : TInvS T) {cnt : Int} (hc : cnt = (entS T).length) : (if (tinsS T e).2 = true then cnt + 1 else cnt) = ((entS (tinsS T e).1).length : Int) := by
  obtain ⟨_, h2, h3⟩ := tins_ent e h
  rw [h2, sins_len _ e (entS_sorted h) _ h3, hc]
theorem tcut_count {T : ST} (e : S29) (h : TInvS T) {cnt : Int} (hc : cnt = (entS T).length) : (if (tcutS T e).2 = true then cnt - 1 else cnt) = ((entS (tcutS T e).1).length : Int) := by
  obtain ⟨_, h2, h3⟩ := tcut_ent e h
  rw [h2, sdel_len _ e (entS_sorted h) _ h3, hc]
/-! ### how many -/
def sumL {α : Type} (f : α → Nat) : List α → Nat
  | [] => 0
  | x :: l => f x + sumL f l
theorem sumL_ge {α : Type} (f : α → Nat) (c : Nat) : ∀ (l : List α), (∀ x ∈ l, c ≤ f x) → l.length * c ≤ sumL f l
  | [], h => by simp [sumL]
  | x :: l, h => by
    have := sumL_ge f c l (fun y hy => h y (List.mem_cons_of_mem _ hy))
    have := h x (by simp)
    simp only [sumL, List.length_cons, Nat.add_mul, Nat.one_mul]
    omega
theorem sumL_le {α : Type} (f g : α → Nat) : ∀ (l : List α), (∀ x ∈ l, f x + 1 ≤ g x) → sumL f l + l.length ≤ sumL g l
  | [], h => by simp [sumL]
  | x :: l, h => by
    have := sumL_le f g l (fun y hy => h y (List.mem_cons_of_mem _ hy))
    have := h x (by simp)
    simp only [sumL, List.length_cons]
    omega
def ecnt : (h : Nat) → BT h → Nat
  | 0, ks => List.length (α := S29) ks
  | h + 1, t => sumL (ecnt h) t.2
theorem lpost_ent : ∀ (ks : List S29) (B : List (List It)), B.length ≤ ks.length → (ent (lpost ks B)).length = sumL (fun f => (ent f).length) B
  | ks, [], h => by simp [lpost, ent, sumL]
  | [], b :: B, h => by simp at h
  | k :: ks, b :: B, h => by
    rw [lpost_cons, ent_sep, ent_app, List.length_append, lpost_ent ks B (by simpa using h)]
    rfl
theorem il_ent (ks : List S29) (fs : List (List It)) (h : fs.length = ks.length + 1) : (ent (il ks fs)).length = sumL (fun f => (ent f).length) fs := by
  cases fs with
  | nil => simp at h
  | cons f fs =>
    show (ent (f ++ lpost ks fs)).length = _
    rw [ent_app, List.length_append, lpost_ent ks fs (by simpa using Nat.le_of_eq (Nat.succ.inj h))]
    rfl
theorem sumL_map {α β : Type} (f : β → Nat) (g : α → β) : ∀ (l : List α), sumL f (l.map g) = sumL (fun x => f (g x)) l
  | [] => rfl
  | x :: l => by simp only [List.map_cons, sumL, sumL_map f g l]
theorem sumL_congr {α : Type} {f g : α → Nat} : ∀ {l : List α}, (∀ x ∈ l, f x = g x) → sumL f l = sumL g l
  | [], _ => rfl
  | x :: l, h => by simp only [sumL, h x (by simp), sumL_congr (fun y hy => h y (List.mem_cons_of_mem _ hy))]
theorem ent_cnt : ∀ (h n : Nat) (t : BT h), Shape h n t → (ent (flat h t)).length = ecnt h t
  | 0, n, t, hs => congrArg List.length (ent_ents t)
  | h + 1, n, t, hs => by
    obtain ⟨ks, ts⟩ := t
    obtain ⟨h1, h2, h3, h4⟩ := hs
    change ts.length = ks.length + 1 at h3
    change ∀ k ∈ ts, Shape h 2 k at h4
    show (ent (il ks (ts.map (flat h)))).length = sumL (ecnt h) ts
    rw [il_ent _ _ (by rw [List.length_map]; exact h3), sumL_map]
    exact sumL_congr fun x hx => ent_cnt h 2 x (h4 x hx)
theorem ecnt_ge : ∀ (h : Nat) (t : BT h), Shape h 2 t → 2 * 3 ^ h ≤ ecnt h t
  | 0, t, hs => by have := hs.1; exact (show 2 * 1 ≤ List.length (α := S29) t by omega)
  | h + 1, t, hs => by
    obtain ⟨ks, ts⟩ := t
    obtain ⟨h1, h2, h3, h4⟩ := hs
    change 2 ≤ ks.length at h1
    change ts.length = ks.length + 1 at h3
    change ∀ k ∈ ts, Shape h 2 k at h4
    have := sumL_ge (ecnt h) (2 * 3 ^ h) ts fun x hx => ecnt_ge h x (h4 x hx)
    have h5 : 3 * (2 * 3 ^ h) ≤ ts.length * (2 * 3 ^ h) := Nat.mul_le_mul_right _ (by omega)
    show 2 * 3 ^ (h + 1) ≤ sumL (ecnt h) ts
    rw [Nat.pow_succ]
    omega
def pcnt : (h : Nat) → BT h → Nat
  | 0, _ => 1
  | h + 1, t => 1 + sumL (pcnt h) t.2
theorem layK_len (h : Nat) (ih : ∀ (t : BT h) (a : Nat), (blay h t a).length = pcnt h t) : ∀ (ts : List (BT h)) (a : Nat), (layK (ts.map (blay h)) a).length = sumL (pcnt h) ts
  | [], a => rfl
  | t :: ts, a => by
    show (blay h t a ++ layK (ts.map (blay h)) (a + (blay h t a).length)).length = pcnt h t + sumL (pcnt h) ts
    rw [List.length_append, ih, layK_len h ih ts]
theorem blay_len : ∀ (h : Nat) (t : BT h) (a : Nat), (blay h t a).length = pcnt h t
  | 0, t, a => rfl
  | h + 1, t, a => by
    show (layK (t.2.map (blay h)) (a + 1)).length + 1 = 1 + sumL (pcnt h) t.2
    rw [layK_len h (blay_len h)]
    omega
theorem pcnt_lt : ∀ (h : Nat) (t : BT h), Shape h 2 t → pcnt h t + 1 ≤ ecnt h t
  | 0, t, hs => hs.1
  | h + 1, t, hs => by
    obtain ⟨ks, ts⟩ := t
    obtain ⟨h1, h2, h3, h4⟩ := hs
    change 2 ≤ ks.length at h1
    change ts.length = ks.length + 1 at h3
    change ∀ k ∈ ts, Shape h 2 k at h4
    have := sumL_le (pcnt h) (ecnt h) ts fun x hx => pcnt_lt h x (h4 x hx)
    show 1 + sumL (pcnt h) ts + 1 ≤ sumL (ecnt h) ts
    omega
/-- A tree in order has no more pages than entries and one; its depth asks for entries. -/
theorem deep_law (T : ST) (hi : TInvS T) : (pagesOf T).length ≤ (entS T).length + 1 ∧ (T.1 = 0 ∨ ∃ d, T.1 = d + 1 ∧ 2 * (2 * 3 ^ d) ≤ (entS T).length) := by
  obtain ⟨h, t⟩ := T
  have hs : Shape h (if h = 0 then 0 else 1) t := hi.shape
  have hc : (entS ⟨h, t⟩).length = ecnt h t := ent_cnt h _ t hs
  have hp : (pagesOf ⟨h, t⟩).length = pcnt h t := blay_len h t 0
  rw [hc, hp]
  cases h with
  | zero => exact ⟨by simp [pcnt], .inl rfl⟩
  | succ h =>
    obtain ⟨ks, ts⟩ := t
    obtain ⟨h1, h2, h3, h4⟩ := hs
    change 1 ≤ ks.length at h1
    change ts.length = ks.length + 1 at h3
    change ∀ k ∈ ts, Shape h 2 k at h4
    have g1 := sumL_le (pcnt h) (ecnt h) ts fun x hx => pcnt_lt h x (h4 x hx)
    have g2 := sumL_ge (ecnt h) (2 * 3 ^ h) ts fun x hx => ecnt_ge h x (h4 x hx)
    have h5 : 2 * (2 * 3 ^ h) ≤ ts.length * (2 * 3 ^ h) := Nat.mul_le_mul_right _ (by omega)
    refine ⟨?_, .inr ⟨h, rfl, ?_⟩⟩
    · show 1 + sumL (pcnt h) ts ≤ sumL (ecnt h) ts + 1
      omega
    · show 2 * (2 * 3 ^ h) ≤ sumL (ecnt h) ts
      omega
/-- The first page of each level. -/
theorem path_at : ∀ (h n : Nat) (t : BT h) (a i : Nat), Shape h n t → i ≤ h → ∃ (ks : List S29) (is : List Int), (blay h t a)[i]? = some (decide (i = h), ks, is) ∧ (i < h → ∃ is', is = ((a + i + 1 : Nat) : Int) :: is')
  | 0, n, t, a, i, hs, hi => by
    obtain rfl : i = 0 := by omega
    exact ⟨t, [], rfl, fun h => by omega⟩
  | h + 1, n, t, a, 0, hs, hi => by
    obtain ⟨ks, ts⟩ := t
    have h3 : ts.length = ks.length + 1 := hs.2.2.1
    obtain ⟨k, ts, rfl⟩ := cons_cases' ts (by omega)
    exact ⟨ks, lidx ((k :: ts).map (blay h)) (a + 1), by simp [blay], fun _ => ⟨_, rfl⟩⟩
  | h + 1, n, t, a, i + 1, hs, hi => by
    obtain ⟨ks, ts⟩ := t
    have h3 : ts.length = ks.length + 1 := hs.2.2.1
    have h4 : ∀ k ∈ ts, Shape h 2 k := hs.2.2.2
    obtain ⟨k, ts, rfl⟩ := cons_cases' ts (by omega)
    obtain ⟨ks', is, g1, g2⟩ := path_at h 2 k (a + 1) i (h4 k (by simp)) (by omega)
    refine ⟨ks', is, ?_, fun hlt => ?_⟩
    · show (layK ((k :: ts).map (blay h)) (a + 1))[i]? = _
      show (blay h k (a + 1) ++ _)[i]? = _
      rw [List.getElem?_append_left (List.getElem?_eq_some_iff.1 g1).1, g1]
      simp
    · obtain ⟨is', rfl⟩ := g2 (by omega)
      exact ⟨is', by congr 1; omega⟩
end Go.Proofs.Bt
end
section
/- What Go functions compute, as Lean functions, and that the machine's call comes to just that; no conditions beyond each theorem's own. (Written by pp.py of this repo, over the kit's print.py.) -/
namespace Go.Proofs.Ytjaddmflopahiaa.Q
open Go.RowKit Go.Proofs.YtjaddmflopahiaaW.PrintWords Go.Proofs.YtjaddmflopahiaaW.PrintLast Go.Proofs.YtjaddmflopahiaaW.PrintMore
attribute [local go_sem] max2_int min2_int max_two min_two max_three min_three max_four min_four   -- for this text's walks alone
set_option linter.unusedVariables false
set_option linter.unusedSimpArgs false

/-- What is read of a value of type t in memory (the claim's own reading), as the print's words tell it. -/
def Rd {α : Type} (P : Program) (d : Kd α) (t : TypeId) (wf : α → Prop) : Prop :=
  ∀ {H : Type} (enc : TypeId × Value → H) (w : World) (base : Nat) (spare : Nat → Bool) (held : Bool) (fuel : Nat) (cs : List Value) (x : DataW H × List MemPlace),
    DataW.trod enc P w base spare held fuel t cs = some x → ∃ a, d.K w a cs ∧ wf a
theorem Rd.int {P : Program} {t : TypeId} {k : IntKind} (ht : P.underlying t = some (.int k)) : Rd P (Kd.int k) t (fun n => (Lit.int k n).wf = true) := by
  intro H enc w base spare held fuel cs x h
  obtain ⟨n, rfl, _, hw⟩ := DataW.trod_int ht h
  exact ⟨n, rfl, hw⟩
theorem Rd.bool {P : Program} {t : TypeId} (ht : P.underlying t = some .bool) : Rd P Kd.bool t (fun _ => True) := by
  intro H enc w base spare held fuel cs x h
  obtain ⟨n, rfl, _⟩ := DataW.trod_bool ht h
  exact ⟨n, rfl, trivial⟩
theorem Rd.string {P : Program} {t : TypeId} (ht : P.underlying t = some .string) : Rd P Kd.string t (fun s => s.size ≤ maxLen) := by
  intro H enc w base spare held fuel cs x h
  obtain ⟨n, rfl, _, hs⟩ := DataW.trod_string ht h
  exact ⟨n, rfl, hs⟩
theorem Rd.slice {α : Type} {P : Program} {d : Kd α} {t e : TypeId} {wf : α → Prop} (ht : P.underlying t = some (.slice e)) (hc : P.cellsOf e = d.sz) (hd : Rd P d e wf) :
    Rd P (Kd.slice e d) t (fun l => l.length ≤ maxLen ∧ ∀ a ∈ l, wf a) := by
  intro H enc w base spare held fuel cs x h
  rcases Go.Deep.open_slice ht h with ⟨rfl, _⟩ | ⟨a, len, cap, m, n, D, Pl, rfl, _, hl, hm, hmm, _, hi⟩
  · exact ⟨[], ⟨none, 0, rfl, Nat.le_refl _, rfl, Nat.zero_le _, fun h => absurd h (Nat.lt_irrefl _)⟩, Nat.zero_le _, fun _ h => by cases h⟩
  · have hlm : len ≤ m := by rw [hmm]; split <;> omega
    have hex : ∀ i, i < len → ∃ v, wf v ∧ ∃ c, c.length = d.sz ∧ d.K w v c ∧ ∀ j u, c[j]? = some u → w.cell? (a.add (i * d.sz + j)) = some u := by
      intro i hilt
      obtain ⟨cs', hcs, ht'⟩ := hi i (by omega)
      obtain ⟨v, hK, hw⟩ := hd enc w base spare held n cs' _ ht'
      rw [hc] at hcs
      obtain ⟨_, hlen, hat⟩ := World.cells?_some hcs
      refine ⟨v, hw, cs', hlen, hK, fun j u hj => ?_⟩
      have hjl : j < d.sz := by rw [← hlen]; exact (List.getElem?_eq_some_iff.1 hj).1
      have := hat j hjl
      rw [Go.Deep.add_add] at this
      rw [this, hj]
    have hex' : ∀ i : Fin len, ∃ v, wf v ∧ ∃ c, c.length = d.sz ∧ d.K w v c ∧ ∀ j u, c[j]? = some u → w.cell? (a.add (i.val * d.sz + j)) = some u := fun i => hex i.val i.isLt
    have hch : ∃ g : Fin len → α, ∀ i : Fin len, wf (g i) ∧ ∃ c, c.length = d.sz ∧ d.K w (g i) c ∧ ∀ j u, c[j]? = some u → w.cell? (a.add (i.val * d.sz + j)) = some u := ⟨fun i => Classical.choose (hex' i), fun i => Classical.choose_spec (hex' i)⟩
    obtain ⟨g, hg⟩ := hch
    have hlen : (List.ofFn g).length = len := List.length_ofFn
    refine ⟨List.ofFn g, ⟨some a, cap, by rw [hlen], by rw [hlen]; exact hl, rfl, by rw [hlen]; simp only [maxLen] at hm; omega, fun _ => ⟨a, rfl, fun j p hp => ?_⟩⟩, by rw [hlen]; omega, fun v hv => ?_⟩
    · obtain ⟨hj, he⟩ := List.getElem?_eq_some_iff.1 hp
      rw [List.getElem_ofFn] at he
      subst he
      exact (hg ⟨j, by omega⟩).2
    · obtain ⟨i, rfl⟩ := List.mem_ofFn.1 hv
      exact (hg i).1
/-- A slice that came in. -/
theorem Rd.arg_slice {α : Type} {P : Program} {d : Kd α} {t e : TypeId} {wf : α → Prop} (hd : Rd P (Kd.slice e d) t (fun l => l.length ≤ maxLen ∧ ∀ a ∈ l, wf a)) {H : Type} {enc : TypeId × Value → H} {w : World} {base : Nat} {spare : Nat → Bool} {held : Bool} {A : Option Addr} {n c : Nat} {x : DataW H} {p : List MemPlace}
    (h : DataW.Trod enc P w base spare held t (.slice A n c) x p) : ∃ l : List α, l.length = n ∧ d.C w A l.length l ∧ l.length ≤ c ∧ l.length ≤ maxLen ∧ ∀ a ∈ l, wf a := by
  obtain ⟨fuel, hf⟩ := h
  obtain ⟨l, ⟨A', c', he, hl, hC⟩, hm, hw⟩ := hd enc w base spare held fuel _ _ hf
  have he' : [Value.slice A n c] = [.slice A' l.length c'] := he
  injection he' with he' _
  injection he' with h1 h2 h3
  subst h1; subst h3
  exact ⟨l, h2.symm, hC, hl, hm, hw⟩
theorem some_of_len {α : Type} {xs : List α} {n j : Nat} (h : xs.length = n) (hj : j < n) : ∃ y, xs[j]? = some y := ⟨_, List.getElem?_eq_getElem (by omega)⟩

def wf27 (v : S27) : Prop := (fun n => (Lit.int .i64 n).wf = true) v.f0 ∧ (fun n => (Lit.int .i64 n).wf = true) v.f1
theorem rd27 : Rd Try.prog k27 27 wf27 := by
  intro H enc w base spare held fuel cs x h
  obtain ⟨xs, n, _, _, hlen, hl, hf⟩ := DataW.trod_struct Try.underlying27 h
  rw [show Try.prog.cellsOf 27 = 2 by kernel_rfl] at hlen
  obtain ⟨c0, c1, rfl⟩ : ∃ c0 c1, cs = [c0, c1] := by
    match cs, hlen with
    | [c0, c1], _ => exact ⟨c0, c1, rfl⟩
  obtain ⟨y0, hy0⟩ := some_of_len hl (j := 0) (by decide)
  have g0 : DataW.trod enc Try.prog w base spare held n 3 ((([c0, c1] : List Value).drop 0).take (Try.prog.cellsOf 3)) = some y0 := (hf 0 _ rfl).trans hy0
  rw [show Try.prog.cellsOf 3 = 1 by kernel_rfl] at g0
  obtain ⟨a0, K0, w0⟩ := (Rd.int Try.underlying3) enc w base spare held n _ _ g0
  obtain ⟨y1, hy1⟩ := some_of_len hl (j := 1) (by decide)
  have g1 : DataW.trod enc Try.prog w base spare held n 3 ((([c0, c1] : List Value).drop 1).take (Try.prog.cellsOf 3)) = some y1 := (hf 1 _ rfl).trans hy1
  rw [show Try.prog.cellsOf 3 = 1 by kernel_rfl] at g1
  obtain ⟨a1, K1, w1⟩ := (Rd.int Try.underlying3) enc w base spare held n _ _ g1
  exact ⟨⟨a0, a1⟩, ⟨[c0], [c1], rfl, K0, K1⟩, ⟨w0, w1⟩⟩
def wf29 (v : S29) : Prop := (fun s => s.size ≤ maxLen) v.f0 ∧ wf27 v.f1
theorem rd29 : Rd Try.prog k29 29 wf29 := by
  intro H enc w base spare held fuel cs x h
  obtain ⟨xs, n, _, _, hlen, hl, hf⟩ := DataW.trod_struct Try.underlying29 h
  rw [show Try.prog.cellsOf 29 = 3 by kernel_rfl] at hlen
  obtain ⟨c0, c1, c2, rfl⟩ : ∃ c0 c1 c2, cs = [c0, c1, c2] := by
    match cs, hlen with
    | [c0, c1, c2], _ => exact ⟨c0, c1, c2, rfl⟩
  obtain ⟨y0, hy0⟩ := some_of_len hl (j := 0) (by decide)
  have g0 : DataW.trod enc Try.prog w base spare held n 9 ((([c0, c1, c2] : List Value).drop 0).take (Try.prog.cellsOf 9)) = some y0 := (hf 0 _ rfl).trans hy0
  rw [show Try.prog.cellsOf 9 = 1 by kernel_rfl] at g0
  obtain ⟨a0, K0, w0⟩ := (Rd.string Try.underlying9) enc w base spare held n _ _ g0
  obtain ⟨y1, hy1⟩ := some_of_len hl (j := 1) (by decide)
  have g1 : DataW.trod enc Try.prog w base spare held n 27 ((([c0, c1, c2] : List Value).drop 1).take (Try.prog.cellsOf 27)) = some y1 := (hf 1 _ rfl).trans hy1
  rw [show Try.prog.cellsOf 27 = 2 by kernel_rfl] at g1
  obtain ⟨a1, K1, w1⟩ := rd27 enc w base spare held n _ _ g1
  exact ⟨⟨a0, a1⟩, ⟨[c0], [c1, c2], rfl, K0, K1⟩, ⟨w0, w1⟩⟩
end Go.Proofs.Ytjaddmflopahiaa.Q
end
section
/- BtreeDeep: the walk. -/
namespace Go.Proofs.Bt
open Go Go.RowKit Go.Proofs.Ytjaddmflopahiaa.Q Go.Proofs.YtjaddmflopahiaaW.PrintWords Go.Proofs.YtjaddmflopahiaaW.PrintLast Go.Proofs.YtjaddmflopahiaaW.PrintMore
set_option linter.unusedVariables false
set_option linter.unusedSimpArgs false
set_option maxRecDepth 100000

/-- The tree behind the inserts of a list. -/
def TI (l : List S29) : ST := l.foldl (fun T e => (tinsS T e).1) ⟨0, ([] : List S29)⟩
theorem TI_snoc (l : List S29) (e : S29) : TI (l ++ [e]) = (tinsS (TI l) e).1 := by simp [TI]
theorem TI_inv (l : List S29) : TInvS (TI l) := by
  have : ∀ (l : List S29) (T : ST), TInvS T → TInvS (l.foldl (fun T e => (tinsS T e).1) T) := by
    intro l
    induction l with
    | nil => intro T h; exact h
    | cons e l ih => intro T h; exact ih _ (tins_ent e h).1
  exact this l _ tinv0
theorem TI_len : ∀ (l : List S29) (T : ST), TInvS T → (entS (l.foldl (fun T e => (tinsS T e).1) T)).length ≤ (entS T).length + l.length := by
  intro l
  induction l with
  | nil => intro T h; exact Nat.le_refl _
  | cons e l ih =>
    intro T h
    have h1 := ih _ (tins_ent e h).1
    have h2 := tins_count e h (cnt := ((entS T).length : Int)) rfl
    rw [List.length_cons]
    show (entS (l.foldl _ (tinsS T e).1)).length ≤ _
    split at h2 <;> omega
theorem TI_le (l : List S29) : (entS (TI l)).length ≤ l.length := by
  have := TI_len l ⟨0, ([] : List S29)⟩ tinv0
  have e : (entS ⟨0, ([] : List S29)⟩).length = 0 := rfl
  rw [e] at this
  simpa [TI] using this
def IL (w : World) (l : List S29) (tp j : Nat) (wx : World) : Prop := TS w NoF wx tp (TI (l.take j)) ((entS (TI (l.take j))).length : Int) []
/-- One more is inserted. -/
theorem insert_il (w : World) (l : List S29) (tp j : Nat) (W : World) (x : S29) (hx : l[j]? = some x) (hl : l.length ≤ 300) (s : IL w l tp j W) : Calls Try.prog 11 #[.pointer (some ⟨tp, 0, none⟩), entryV x] W fun E w' => (∃ b, E = .returned (.bool b)) ∧ IL w l tp (j + 1) w' := by
  have hle := TI_le (l.take j)
  rw [List.length_take] at hle
  refine (insert_ts W w NoF tp _ _ [] x s (TI_inv _) (by omega) (by omega)).mono ?_
  rintro E w' ⟨rfl, hs⟩
  refine ⟨⟨_, rfl⟩, ?_⟩
  have e : l.take (j + 1) = l.take j ++ [x] := by
    rw [List.take_add_one, hx]
    rfl
  unfold IL
  rw [e, TI_snoc]
  rw [tins_count x (TI_inv _) rfl] at hs
  exact hs
theorem encPgs_get : ∀ (l : List Pg) (i : Nat) (p : Pg), l[i]? = some p → (encPgs l)[i * 3]? = some (.bool p.leaf) ∧ (encPgs l)[i * 3 + 1]? = some p.K ∧ (encPgs l)[i * 3 + 2]? = some p.C
  | [], i, p, h => by simp at h
  | q :: l, 0, p, h => by
    simp at h
    subst h
    exact ⟨rfl, rfl, rfl⟩
  | q :: l, i + 1, p, h => by
    obtain ⟨h1, h2, h3⟩ := encPgs_get l i p (by simpa using h)
    have e : ∀ k, (encPg q ++ encPgs l)[3 + k]? = (encPgs l)[k]? := fun k => by
      rw [List.getElem?_append_right (by simp [encPg])]
      simp [encPg]
    show (encPg q ++ encPgs l)[(i + 1) * 3]? = _ ∧ (encPg q ++ encPgs l)[(i + 1) * 3 + 1]? = _ ∧ (encPg q ++ encPgs l)[(i + 1) * 3 + 2]? = _
    rw [show (i + 1) * 3 = 3 + i * 3 by omega, e, Nat.add_assoc, e, Nat.add_assoc, e]
    exact ⟨h1, h2, h3⟩
theorem below_C {w w' : World} {A : Option Addr} {n : Nat} {xs : List S29} (h : Kd.C k29 w A n xs) (hb : Below w.heap.size w w') : Kd.C k29 w' A n xs := Kd.C_below h hb
theorem pages_at {l : List Pg} {pg : List PgA} (h : l.map Pg.a = pg) {i : Nat} {x : PgA} (hx : pg[i]? = some x) : ∃ p, l[i]? = some p ∧ p.a = x := by
  rw [← h, List.getElem?_map] at hx
  cases hl : l[i]? with
  | none => rw [hl] at hx; simp at hx
  | some p =>
    rw [hl] at hx
    simp at hx
    exact ⟨p, rfl, hx⟩
set_option maxHeartbeats 8000000 in
theorem deep_calls (w : World) (A0 : Option Addr) (c0 : Nat) (l : List S29) (hC : Kd.C k29 w A0 l.length l) : Calls Try.prog 3 #[.slice A0 l.length c0] w fun E w' => E = .returned (.bool true) ∧ Below w.heap.size w w' := by
  obtain ⟨R, hR⟩ : ∃ R, (fun E w' => E = Ending.returned (.bool true) ∧ Below w.heap.size w w') = R := ⟨_, rfl⟩
  have HR := Aside0.mk hR
  rw [hR]
  have HC := Aside0.mk hC
  obtain ⟨n, hn⟩ : ∃ n, l.length = n := ⟨_, rfl⟩
  have HN := Aside0.mk hn
  have HA := Aside0.mk (alive_calls w)
  rw [hn]
  clear hR hC hn
  by_cases hg : 300 < n
  · have hg2 : decide ((300 : Int) < (n : Int)) = true := by simp; omega
    go_enter Try.func3, Try.ntmps3
    go_wp2_with (go_at_call 9; refine HA.out.mono ?_; clear HA; rintro E w1 ⟨rfl, hb⟩; have HB1 := Aside0.mk hb; clear hb)
    first | (rw [← HR.out]) | (go_ret; rw [← HR.out])
    exact ⟨rfl, HB1.out⟩
  · have hg2 : decide ((300 : Int) < (n : Int)) = false := by simp; omega
    go_enter Try.func3, Try.ntmps3
    go_wp2_with (first
      | (go_at_call 9; refine HA.out.mono ?_; clear HA; rintro E w1 ⟨rfl, hb⟩; have HB1 := Aside0.mk hb; clear hb)
      | (go_at_call 10; refine (new_ts _ w NoF [] ⟨Keep.of_below HB1.out _, fun c hc => (by cases hc), fun a => (by simp [fpc]), fun b hb => (by simp [fpc] at hb)⟩).mono ?_; rintro E w2 ⟨tp, rfl, hs⟩; have HS := Aside0.mk (show IL w l tp 0 w2 from hs); clear hs))
    go_loopg [4] n (fun gq v4 wx => ∃ j : Nat, v4 = .int .i64 j ∧ j + gq = n ∧ Aside0 (IL w l tp j wx))
    case atStart => exact ⟨0, rfl, by omega, HS⟩
    case round =>
      clear HS HB1
      obtain ⟨j, rfl, hj, HS⟩ := hrel
      cases gk with
      | succ gq =>
        have hjn : j < n := by omega
        have hjn2 : (j : Int) < (n : Int) := by omega
        have hj0 : (0 : Int) ≤ (j : Int) := by omega
        obtain ⟨x, hx⟩ : ∃ x, l[j]? = some x := ⟨_, List.getElem?_eq_getElem (by rw [HN.out]; exact hjn)⟩
        have hrx : rd_T29 l (j : Int) = x := by simp [rd_T29, List.getD_eq_getElem?_getD, hx]
        obtain ⟨ad, rfl, d0, d1, d2⟩ := at_T29 (below_C HC.out (keep_below HS.out.keep)) (j : Int) hj0 (by rw [HN.out]; exact hjn2)
        rw [hrx, Int.toNat_natCast] at d0 d1 d2
        have HX := Aside0.mk hx
        clear hrx hx
        by_cases hsz : 500 < x.f0.size
        · have hs2 : decide ((500 : Int) < (x.f0.size : Int)) = true := by simp; omega
          go_wp2
          first | (rw [← HR.out]) | (go_ret; rw [← HR.out])
          exact ⟨rfl, keep_below HS.out.keep⟩
        · have hs2 : decide ((500 : Int) < (x.f0.size : Int)) = false := by simp; omega
          go_wp2_with (go_at_call 11; refine (insert_il w l tp j wr x HX.out (by rw [HN.out]; omega) HS.out).mono ?_; clear d0 d1 d2; rintro E w3 ⟨⟨b, rfl⟩, hs3⟩; have HS3 := Aside0.mk hs3; clear hs3)
          go_roundg gq
          case measure => omega
          case rel => exact ⟨j + 1, by go_num, by omega, HS3⟩
      | zero =>
        obtain rfl : j = n := by omega
        have HTK := Aside0.mk (show l.take j = l by rw [List.take_of_length_le]; rw [HN.out]; omega)
        have hs1 : TS w NoF wr tp (TI l) ((entS (TI l)).length : Int) [] := by
          have := HS.out
          unfold IL at this
          rw [HTK.out] at this
          exact this
        obtain ⟨T, hT⟩ : ∃ T, TI l = T := ⟨_, rfl⟩
        have hinv := TI_inv l
        have hle := TI_le l
        rw [hT] at hs1 hinv hle
        obtain ⟨dl1, dl2⟩ := deep_law T hinv
        obtain ⟨cnt, hcnt⟩ : ∃ c, (entS T).length = c := ⟨_, rfl⟩
        rw [hcnt] at hs1 hle dl1 dl2
        rw [HN.out] at hle
        have HSA := Aside0.mk hs1
        have HINV := Aside0.mk hinv
        have HDL := Aside0.mk dl2
        have hpl : (pagesOf T).length < 100000 := by omega
        have HPL := Aside0.mk hpl
        obtain ⟨np, hnp⟩ : ∃ k, (pagesOf T).length = k := ⟨_, rfl⟩
        rw [hnp] at dl1
        have HNP := Aside0.mk hnp
        have hpc : (np : Int) ≤ (cnt : Int) + 1 := by omega
        clear hs1 hinv dl2 hpl hnp hT hcnt HS HTK
        go_wp2_with (go_at_call 12; refine (pages_ts wr w NoF tp T cnt [] HSA.out HINV.out HPL.out).mono ?_; rintro E w3 ⟨g, m, c, pl, rfl, hl, hs2⟩; have HS2 := Aside0.mk hs2; have HL := Aside0.mk hl; clear hs2 hl)
        have hpg := pages_row HS2.out.rest
        have hml : pl.length = np := by rw [← HNP.out, ← HL.out, List.length_map]
        obtain rfl : m = np := by
          rcases hpg.1.2.2 with ⟨h1, _⟩ | ⟨g', c', cur, h1, _⟩
          · simp at h1
          · simp at h1
            rw [h1.2.1, hml]
        have HML := Aside0.mk hml
        obtain ⟨h, hh⟩ : ∃ h, T.1 = h := ⟨_, rfl⟩
        have HH := Aside0.mk hh
        have HPATH := Aside0.mk (show ∀ i, i ≤ h → ∃ (ks : List S29) (is : List Int), (pagesOf T)[i]? = some (decide (i = h), ks, is) ∧ (i < h → ∃ is', is = ((0 + i + 1 : Nat) : Int) :: is') from by subst hh; exact fun i hi => path_at T.1 _ T.2 0 i HINV.out.shape hi)
        have HB2 := Aside0.mk (keep_below HS2.out.keep)
        clear hpg hml hh
        go_loopg [6, 7] h (fun gq v6 v7 wx => ∃ i : Nat, v6 = .int .i64 i ∧ v7 = .int .i64 i ∧ i + gq = h ∧ Aside0 (wx = w3))
        case atStart => exact ⟨0, rfl, rfl, by omega, Aside0.mk rfl⟩
        case round =>
          obtain ⟨i, rfl, rfl, hi, HW⟩ := hrel
          obtain rfl := HW.out
          have hih : i ≤ h := by omega
          obtain ⟨ks, is, hp1, hp2⟩ := HPATH.out i hih
          obtain ⟨p, hp, hpa⟩ := pages_at HL.out hp1
          have him : i < m := by
            have := (List.getElem?_eq_some_iff.1 hp).1
            rw [HML.out] at this
            exact this
          have him2 : (i : Int) < (m : Int) := by omega
          have hi0 : (0 : Int) ≤ (i : Int) := by omega
          have him3 : (i : Int) ≤ (m : Int) := by omega
          obtain ⟨e0, e1, e2⟩ := encPgs_get pl i p hp
          have hpg := pages_row HS2.out.rest
          have z0 := hpg.1.cell (by rw [HML.out]) (i * 3) _ e0
          have hlf : p.leaf = decide (i = h) := congrArg (fun x : PgA => x.1) hpa
          have hkd : p.kids = is := congrArg (fun x : PgA => x.2.2) hpa
          rw [hlf] at z0
          have z2 := hpg.1.cell (by rw [HML.out]) (i * 3 + 2) _ e2
          have hrow : RowI _ p.C p.kids := (hpg.2 p (List.mem_of_getElem? hp)).2
          have HROW := Aside0.mk hrow
          have HP2 := Aside0.mk hp2
          have HKD := Aside0.mk hkd
          clear hp1 hp2 hp hpa e0 e1 e2 hpg hlf hkd hrow HW
          cases gk with
          | succ gq =>
            have hih2 : i < h := by omega
            have hne : decide (i = h) = false := decide_eq_false (by omega)
            rw [hne] at z0
            obtain ⟨is', his⟩ := HP2.out hih2
            obtain ⟨gk, ck, hpc, _⟩ := row_slice HROW.out (by rw [HKD.out, his]; simp)
            have hlk : p.kids.length = is'.length + 1 := by rw [HKD.out, his]; rfl
            have y0 := HROW.out
            rw [hpc] at y0
            have y0 := Row.cell y0 rfl 0 (.int .i64 ((0 + i + 1 : Nat) : Int)) (by rw [HKD.out, his]; rfl)
            rw [hpc, hlk] at z2
            have hl0 : ((is'.length : Int) + 1 == 0) = false := by simp; omega
            have hl1 : decide ((is'.length : Int) + 1 = 0) = false := by simp; omega
            have hl2 : (0 : Int) < (is'.length : Int) + 1 := by omega
            have hl3 : 0 < is'.length + 1 := by omega
            have hei : ((0 + i + 1 : Nat) : Int) = (i : Int) + 1 := by omega
            rw [hei] at y0
            clear his hne hpc hlk hei
            go_wp2
            go_roundg gq
            case measure => omega
            case rel => exact ⟨i + 1, by go_num, by go_num, by omega, Aside0.mk rfl⟩
          | zero =>
            obtain rfl : i = h := by omega
            have hne : decide (i = i) = true := decide_eq_true rfl
            rw [hne] at z0
            clear hne z2
            have hpow : ∀ k, 1 ≤ k → k ≤ i → 2 * 3 ^ (k - 1) ≤ 1000 := fun k hk1 hk2 => by
              rcases HDL.out with h1 | ⟨d, h1, h2⟩
              · rw [HH.out] at h1
                omega
              · rw [HH.out] at h1
                have h3 : 3 ^ (k - 1) ≤ 3 ^ d := Nat.pow_le_pow_right (by decide) (by omega)
                omega
            have HPOW := Aside0.mk hpow
            clear hpow
            go_wp2
            go_loopg [8, 9] (i - 1) (fun gq v8 v9 wx => ∃ k q : Nat, v9 = .int .i64 k ∧ v8 = .int .i64 q ∧ 1 ≤ k ∧ k - 1 + gq = i - 1 ∧ Aside0 (q = 2 * 3 ^ (k - 1)) ∧ Aside0 (wx = wr))
            case atStart => exact ⟨1, 2, rfl, rfl, Nat.le_refl _, by omega, Aside0.mk rfl, Aside0.mk rfl⟩
            case round =>
              obtain ⟨k, q, rfl, rfl, hk1, hk2, HQ, HW⟩ := hrel
              obtain rfl := HW.out
              clear HW
              cases gk with
              | succ gq =>
                have hki : (k : Int) < (i : Int) := by omega
                have hqb : (q : Int) ≤ 1000 := by
                  have := HPOW.out k hk1 (by omega)
                  rw [HQ.out]
                  exact_mod_cast this
                have hq0 : (0 : Int) ≤ (q : Int) := by omega
                have hk0 : (0 : Int) ≤ (k : Int) := by omega
                have hi0' : (i : Int) ≤ 100000 := by omega
                go_wp2
                go_roundg gq
                case measure => omega
                case rel => exact ⟨k + 1, 3 * q, by go_num, by go_num, by omega, by omega, Aside0.mk (by rw [HQ.out, show k + 1 - 1 = (k - 1) + 1 by omega, Nat.pow_succ]; omega), Aside0.mk rfl⟩
              | zero =>
                have hki : (i : Int) ≤ (k : Int) := by omega
                have hki2 : decide ((k : Int) < (i : Int)) = false := by simp; omega
                clear z0 him hih him2 hi0 him3
                by_cases hi0 : i = 0
                · subst hi0
                  go_wp2_with (go_at_call 13; refine (count_ts _ w NoF tp T cnt _ HS2.out).mono ?_; rintro E w4 ⟨rfl, rfl⟩)
                  first | (rw [← HR.out]) | (go_ret; rw [← HR.out])
                  exact ⟨rfl, HB2.out⟩
                · have hi1 : ((i : Int) == 0) = false := by simp; omega
                  have hi2 : decide ((i : Int) = 0) = false := by simp; omega
                  have hq : 2 * (q : Int) ≤ (cnt : Int) := by
                    rcases HDL.out with h1 | ⟨d, h1, h2⟩
                    · rw [HH.out] at h1
                      omega
                    · rw [HH.out] at h1
                      have := HQ.out
                      have e : k - 1 = d := by omega
                      rw [e] at this
                      omega
                  have hq0 : (0 : Int) ≤ (q : Int) := by omega
                  have hc0 : (cnt : Int) ≤ 300 := by omega
                  go_wp2_with (go_at_call 13; refine (count_ts _ w NoF tp T cnt _ HS2.out).mono ?_; rintro E w4 ⟨rfl, rfl⟩)
                  first | (rw [← HR.out]) | (go_ret; rw [← HR.out])
                  exact ⟨rfl, HB2.out⟩
/-- As the row wants it. -/
theorem deep_row (w : World) (A0 : Option Addr) (c0 : Nat) (l : List S29) (hC : Kd.C k29 w A0 l.length l) (hcap : l.length ≤ c0) (hwf : l.length ≤ maxLen ∧ ∀ a ∈ l, wf29 a) : Calls Try.prog 3 #[.slice A0 l.length c0] w fun E w' => E = .returned (.bool true) ∧ Below w.heap.size w w' := deep_calls w A0 c0 l hC
end Go.Proofs.Bt
end
