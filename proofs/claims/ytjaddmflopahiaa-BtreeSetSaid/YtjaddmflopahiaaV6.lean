/- Packed by shake.py: YtjaddmflopahiaaP2 YtjaddmflopahiaaP3 YtjaddmflopahiaaP4 YtjaddmflopahiaaP6 YtjaddmflopahiaaP7 YtjaddmflopahiaaP8 YtjaddmflopahiaaP9 YtjaddmflopahiaaE7 YtjaddmflopahiaaP10 YtjaddmflopahiaaR YtjaddmflopahiaaP11 YtjaddmflopahiaaQ54 YtjaddmflopahiaaQ34 YtjaddmflopahiaaQ21 YtjaddmflopahiaaP13 -/
import Derived.Deep.Slices
import Derived.ChangeArms
import Derived.DataReads
import Derived.Test.YtjaddmflopahiaaV5
section
namespace Go.Proofs.Bt
open Go Go.RowKit Go.Proofs.Ytjaddmflopahiaa.Q
set_option linter.unusedVariables false
set_option linter.unusedSimpArgs false
def Sorted (ks : List S29) : Prop := ks.Pairwise ltE
theorem Sorted.mono {ks : List S29} (h : Sorted ks) (e : S29) : Mono ks e := by
  intro a b hb ha hab hlt
  rcases Nat.lt_or_ge a b with hab2 | hab2
  · exact ltE_trans (List.pairwise_iff_getElem.1 h a b ha hb hab2) hlt
  · have : a = b := by omega
    subst this
    exact hlt
end Go.Proofs.Bt
end
section
namespace Go.Proofs.Bt
open Go Go.RowKit Go.Proofs.Ytjaddmflopahiaa.Q
set_option linter.unusedVariables false
set_option linter.unusedSimpArgs false
instance (a b : S29) : Decidable (ltE a b) := inferInstanceAs (Decidable (ord a b < 0))
theorem low_cons (x : S29) (ks : List S29) (e : S29) : low (x :: ks) e = if ltE x e then low ks e + 1 else 0 := by
  unfold low
  rw [List.takeWhile_cons]
  by_cases h : ltE x e
  · rw [if_pos (show decide (ord x e < 0) = true from decide_eq_true h), if_pos h, List.length_cons]
  · rw [if_neg (show ¬ decide (ord x e < 0) = true from fun hd => h (of_decide_eq_true hd)), if_neg h]
    rfl
theorem ltE_asymm {a b : S29} (h : ltE a b) : ¬ ltE b a := fun h2 => ltE_irr a (ltE_trans h h2)
theorem ltE_tri (a b : S29) : ltE a b ∨ a = b ∨ ltE b a := by
  rw [ltE_iff, ltE_iff]
  obtain ⟨a0, a1, a2⟩ := a
  obtain ⟨b0, b1, b2⟩ := b
  rcases bl_tri a0.toList b0.toList with h | h | h
  · exact .inl (.inl h)
  · have := toList_inj h
    subst this
    rcases Int.lt_trichotomy a1 b1 with h1 | h1 | h1
    · exact .inl (.inr ⟨rfl, .inl h1⟩)
    · subst h1
      rcases Int.lt_trichotomy a2 b2 with h2 | h2 | h2
      · exact .inl (.inr ⟨rfl, .inr ⟨rfl, h2⟩⟩)
      · subst h2
        exact .inr (.inl rfl)
      · exact .inr (.inr (.inr ⟨rfl, .inr ⟨rfl, h2⟩⟩))
    · exact .inr (.inr (.inr ⟨rfl, .inl h1⟩))
  · exact .inr (.inr (.inl h))
theorem low_parts : ∀ (ks : List S29) (e : S29), Sorted ks → (∀ x ∈ ks.take (low ks e), ltE x e) ∧ (∀ x ∈ ks.drop (low ks e), ¬ ltE x e)
  | [], e, _ => by simp [low]
  | y :: ks, e, hs => by
    obtain ⟨h1, h2⟩ := List.pairwise_cons.1 hs
    rw [low_cons]
    by_cases hy : ltE y e
    · rw [if_pos hy]
      obtain ⟨g1, g2⟩ := low_parts ks e h2
      refine ⟨fun x hx => ?_, fun x hx => g2 x (by simpa using hx)⟩
      rw [List.take_succ_cons] at hx
      rcases List.mem_cons.1 hx with rfl | hx
      · exact hy
      · exact g1 x hx
    · rw [if_neg hy]
      refine ⟨by simp, fun x hx hlt => ?_⟩
      rw [List.drop_zero] at hx
      rcases List.mem_cons.1 hx with rfl | hx
      · exact hy hlt
      · exact hy (ltE_trans (h1 x hx) hlt)
theorem found_mem (ks : List S29) (e : S29) (hs : Sorted ks) : found ks e = true ↔ e ∈ ks := by
  obtain ⟨h1, h2⟩ := low_parts ks e hs
  unfold found
  constructor
  · intro h
    by_cases hl : low ks e < ks.length
    · rw [dif_pos hl, decide_eq_true_eq, ord_zero] at h
      exact h ▸ List.getElem_mem hl
    · rw [dif_neg hl] at h
      cases h
  · intro h
    rw [← List.take_append_drop (low ks e) ks] at h
    rcases List.mem_append.1 h with h | h
    · exact absurd (h1 e h) (ltE_irr e)
    · by_cases hl : low ks e < ks.length
      · rw [dif_pos hl, decide_eq_true_eq, ord_zero]
        rw [List.drop_eq_getElem_cons hl] at h h2
        rcases List.mem_cons.1 h with h | h
        · exact h.symm
        · rcases ltE_tri ks[low ks e] e with g | g | g
          · exact absurd g (h2 _ List.mem_cons_self)
          · exact g
          · have hs2 : Sorted (ks.drop (low ks e)) := hs.sublist (List.drop_sublist _ _)
            rw [List.drop_eq_getElem_cons hl] at hs2
            exact absurd ((List.pairwise_cons.1 hs2).1 e h) (ltE_asymm g)
      · rw [List.drop_eq_nil_iff.2 (by omega)] at h
        cases h
theorem ins_sorted (ks : List S29) (e : S29) (hs : Sorted ks) (hf : found ks e = false) : Sorted (insAt ks (low ks e) e) := by
  obtain ⟨h1, h2⟩ := low_parts ks e hs
  have hne : e ∉ ks := fun h => by
    rw [(found_mem ks e hs).2 h] at hf
    cases hf
  unfold insAt
  have hs' : Sorted (ks.take (low ks e) ++ ks.drop (low ks e)) := by rw [List.take_append_drop]; exact hs
  obtain ⟨p1, p2, p3⟩ := List.pairwise_append.1 hs'
  have hgt : ∀ x ∈ ks.drop (low ks e), ltE e x := fun x hx => by
    rcases ltE_tri e x with g | g | g
    · exact g
    · exact absurd (g ▸ List.mem_of_mem_drop hx) hne
    · exact absurd g (h2 x hx)
  refine List.pairwise_append.2 ⟨p1, List.pairwise_cons.2 ⟨hgt, p2⟩, fun x hx y hy => ?_⟩
  rcases List.mem_cons.1 hy with rfl | hy
  · exact h1 x hx
  · exact p3 x hx y hy
theorem mem_insAt {α : Type} (l : List α) (i : Nat) (x y : α) : y ∈ insAt l i x ↔ y = x ∨ y ∈ l := by
  unfold insAt
  rw [List.mem_append, List.mem_cons]
  constructor
  · rintro (h | h | h)
    · exact .inr (List.mem_of_mem_take h)
    · exact .inl h
    · exact .inr (List.mem_of_mem_drop h)
  · rintro (h | h)
    · exact .inr (.inl h)
    · rw [← List.take_append_drop i l] at h
      rcases List.mem_append.1 h with h | h
      · exact .inl h
      · exact .inr (.inr h)
end Go.Proofs.Bt
end
section
namespace Go.Proofs.Bt
open Go Go.RowKit Go.Proofs.Ytjaddmflopahiaa.Q
set_option linter.unusedVariables false
set_option linter.unusedSimpArgs false
def leE (a b : S29) : Prop := a = b ∨ ltE a b
theorem kid_parts (ks : List S29) (e : S29) (hs : Sorted ks) : (∀ x ∈ ks.take (kidIx ks e), leE x e) ∧ (∀ x ∈ ks.drop (kidIx ks e), ltE e x) := by
  obtain ⟨h1, h2⟩ := low_parts ks e hs
  unfold kidIx
  by_cases hf : found ks e = true
  · rw [if_pos hf]
    have hl := found_lt hf
    have he : ks[low ks e] = e := by
      unfold found at hf
      rw [dif_pos hl, decide_eq_true_eq, ord_zero] at hf
      exact hf
    constructor
    · intro x hx
      rw [List.take_succ_eq_append_getElem hl] at hx
      rcases List.mem_append.1 hx with hx | hx
      · exact .inr (h1 x hx)
      · simp at hx
        exact .inl (hx.trans he)
    · intro x hx
      have hs2 : Sorted (ks.drop (low ks e)) := hs.sublist (List.drop_sublist _ _)
      rw [List.drop_eq_getElem_cons hl, he] at hs2
      exact (List.pairwise_cons.1 hs2).1 x hx
  · rw [if_neg hf, Nat.add_zero]
    refine ⟨fun x hx => .inr (h1 x hx), fun x hx => ?_⟩
    rcases ltE_tri e x with g | g | g
    · exact g
    · exact absurd ((found_mem ks e hs).2 (g ▸ List.mem_of_mem_drop hx)) hf
    · exact absurd g (h2 x hx)
end Go.Proofs.Bt
end
section
namespace Go.Proofs.Bt
open Go Go.RowKit Go.Proofs.Ytjaddmflopahiaa.Q
set_option linter.unusedVariables false
set_option linter.unusedSimpArgs false
abbrev It := S29 × Bool
def ltI (a b : It) : Prop := ltE a.1 b.1 ∨ (a.1 = b.1 ∧ a.2 = false ∧ b.2 = true)
theorem ltI_trans {a b c : It} (h : ltI a b) (k : ltI b c) : ltI a c := by
  rcases h with h | ⟨h1, h2, h3⟩ <;> rcases k with k | ⟨k1, k2, k3⟩
  · exact .inl (ltE_trans h k)
  · exact .inl (by rw [← k1]; exact h)
  · exact .inl (by rw [h1]; exact k)
  · rw [h3] at k2
    cases k2
theorem ltI_irr (a : It) : ¬ ltI a a := by
  rintro (h | ⟨h1, h2, h3⟩)
  · exact ltE_irr _ h
  · rw [h2] at h3
    cases h3
abbrev Srt (l : List It) : Prop := l.Pairwise ltI
def lpre (ks : List S29) (A : List (List It)) : List It := (A.zip ks).flatMap fun p => p.1 ++ [(p.2, false)]
def lpost (ks : List S29) (B : List (List It)) : List It := (ks.zip B).flatMap fun p => (p.1, false) :: p.2
def il (ks : List S29) : List (List It) → List It
  | [] => []
  | f :: fs => f ++ lpost ks fs
theorem lpost_cons (k : S29) (ks : List S29) (b : List It) (B : List (List It)) : lpost (k :: ks) (b :: B) = (k, false) :: (b ++ lpost ks B) := by simp [lpost]
theorem lpost_nil (ks : List S29) : lpost ks [] = [] := by simp [lpost]
theorem lpre_cons (k : S29) (ks : List S29) (a : List It) (A : List (List It)) : lpre (k :: ks) (a :: A) = a ++ (k, false) :: lpre ks A := by simp [lpre]
theorem lpre_snoc : ∀ (ks : List S29) (k : S29) (A : List (List It)) (a : List It), A.length = ks.length → lpre (ks ++ [k]) (A ++ [a]) = lpre ks A ++ (a ++ [(k, false)])
  | [], k, [], a, h => by simp [lpre]
  | x :: ks, k, b :: A, a, h => by
    show lpre (x :: (ks ++ [k])) (b :: (A ++ [a])) = _
    rw [lpre_cons, lpre_cons, lpre_snoc ks k A a (by simpa using h)]
    simp
  | [], k, b :: A, a, h => by simp at h
  | x :: ks, k, [], a, h => by simp at h
theorem il_cut : ∀ (ks : List S29) (A : List (List It)) (f : List It) (B : List (List It)), A.length ≤ ks.length → il ks (A ++ f :: B) = lpre (ks.take A.length) A ++ (f ++ lpost (ks.drop A.length) B)
  | ks, [], f, B, h => by simp [il, lpre]
  | k :: ks, a :: A, f, B, h => by
    have ih := il_cut ks A f B (by simpa using h)
    show a ++ lpost (k :: ks) (A ++ f :: B) = _
    have e : lpost (k :: ks) (A ++ f :: B) = (k, false) :: il ks (A ++ f :: B) := by
      cases A with
      | nil => simp [il, lpost]
      | cons x A => simp [il, lpost]
    rw [e, ih]
    simp only [List.length_cons, List.take_succ_cons, List.drop_succ_cons, lpre_cons]
    simp
  | [], a :: A, f, B, h => by simp at h
theorem il_pair (ks : List S29) (A : List (List It)) (f g : List It) (B : List (List It)) (z : S29) (hz : ks[A.length]? = some z) : il ks (A ++ f :: g :: B) = lpre (ks.take A.length) A ++ (f ++ (z, false) :: g) ++ lpost (ks.drop (A.length + 1)) B := by
  obtain ⟨hi, rfl⟩ := List.getElem?_eq_some_iff.1 hz
  rw [il_cut ks A f (g :: B) (by omega), List.drop_eq_getElem_cons hi, lpost_cons]
  simp
def flat : (h : Nat) → BT h → List It
  | 0, ks => List.map (fun x : S29 => ((x, true) : It)) ks
  | h + 1, t => il t.1 (t.2.map (flat h))
theorem flat_cut (h : Nat) (ks : List S29) (A : List (BT h)) (k : BT h) (B : List (BT h)) (hl : A.length ≤ ks.length) : flat (h + 1) (ks, A ++ k :: B) = lpre (ks.take A.length) (A.map (flat h)) ++ (flat h k ++ lpost (ks.drop A.length) (B.map (flat h))) := by
  show il ks ((A ++ k :: B).map (flat h)) = _
  rw [List.map_append, List.map_cons, il_cut _ _ _ _ (by rw [List.length_map]; exact hl), List.length_map]
theorem flat_pair (h : Nat) (ks : List S29) (A : List (BT h)) (k l : BT h) (B : List (BT h)) (z : S29) (hz : ks[A.length]? = some z) : flat (h + 1) (ks, A ++ k :: l :: B) = lpre (ks.take A.length) (A.map (flat h)) ++ (flat h k ++ (z, false) :: flat h l) ++ lpost (ks.drop (A.length + 1)) (B.map (flat h)) := by
  show il ks ((A ++ k :: l :: B).map (flat h)) = _
  rw [List.map_append, List.map_cons, List.map_cons, il_pair _ _ _ _ _ z (by rw [List.length_map]; exact hz), List.length_map]
structure Sam (F F' : List It) : Prop where
  srt : Srt F'
  lo : ∀ x, (∀ y ∈ F, ltI x y) → ∀ y ∈ F', ltI x y
  hi : ∀ x, (∀ y ∈ F, ltI y x) → ∀ y ∈ F', ltI y x
  mem : ∀ z, (z, true) ∈ F' ↔ (z, true) ∈ F
structure Insd (e : S29) (F F' : List It) : Prop where
  srt : Srt F'
  lo : ∀ x, (∀ y ∈ F, ltI x y) → ltI x (e, true) → ∀ y ∈ F', ltI x y
  hi : ∀ x, (∀ y ∈ F, ltI y x) → ltI (e, true) x → ∀ y ∈ F', ltI y x
  mem : ∀ z, (z, true) ∈ F' ↔ z = e ∨ (z, true) ∈ F
structure Deld (e : S29) (F F' : List It) : Prop where
  srt : Srt F'
  lo : ∀ x, (∀ y ∈ F, ltI x y) → ∀ y ∈ F', ltI x y
  hi : ∀ x, (∀ y ∈ F, ltI y x) → ∀ y ∈ F', ltI y x
  mem : ∀ z, (z, true) ∈ F' ↔ z ≠ e ∧ (z, true) ∈ F
theorem Sam.refl {F : List It} (h : Srt F) : Sam F F := ⟨h, fun _ h => h, fun _ h => h, fun _ => Iff.rfl⟩
theorem Insd.then {e : S29} {F G H : List It} (h : Insd e F G) (k : Sam G H) : Insd e F H := ⟨k.srt, fun x hx he => k.lo x (h.lo x hx he), fun x hx he => k.hi x (h.hi x hx he), fun z => (k.mem z).trans (h.mem z)⟩
theorem Deld.then {e : S29} {F G H : List It} (h : Deld e F G) (k : Sam G H) : Deld e F H := ⟨k.srt, fun x hx => k.lo x (h.lo x hx), fun x hx => k.hi x (h.hi x hx), fun z => (k.mem z).trans (h.mem z)⟩
theorem srt_mid {X F Y : List It} : Srt (X ++ (F ++ Y)) ↔ Srt X ∧ Srt F ∧ Srt Y ∧ (∀ x ∈ X, ∀ y ∈ F, ltI x y) ∧ (∀ x ∈ X, ∀ y ∈ Y, ltI x y) ∧ (∀ x ∈ F, ∀ y ∈ Y, ltI x y) := by
  unfold Srt
  rw [List.pairwise_append, List.pairwise_append]
  constructor
  · rintro ⟨h1, ⟨h2, h3, h4⟩, h5⟩
    exact ⟨h1, h2, h3, fun x hx y hy => h5 x hx y (List.mem_append_left _ hy), fun x hx y hy => h5 x hx y (List.mem_append_right _ hy), h4⟩
  · rintro ⟨h1, h2, h3, h4, h5, h6⟩
    exact ⟨h1, ⟨h2, h3, h6⟩, fun x hx y hy => (List.mem_append.1 hy).elim (h4 x hx y) (h5 x hx y)⟩
theorem Sam.ctx {X F G Y : List It} (hs : Srt (X ++ (F ++ Y))) (k : Sam F G) : Sam (X ++ (F ++ Y)) (X ++ (G ++ Y)) := by
  obtain ⟨h1, h2, h3, h4, h5, h6⟩ := srt_mid.1 hs
  refine ⟨srt_mid.2 ⟨h1, k.srt, h3, fun x hx => k.lo x (h4 x hx), h5, fun x hx y hy => k.hi y (fun z hz => h6 z hz y hy) x hx⟩, fun x hx y hy => ?_, fun x hx y hy => ?_, fun z => ?_⟩
  · simp only [List.mem_append] at hx hy
    rcases hy with hy | hy | hy
    · exact hx y (.inl hy)
    · exact k.lo x (fun z hz => hx z (.inr (.inl hz))) y hy
    · exact hx y (.inr (.inr hy))
  · simp only [List.mem_append] at hx hy
    rcases hy with hy | hy | hy
    · exact hx y (.inl hy)
    · exact k.hi x (fun z hz => hx z (.inr (.inl hz))) y hy
    · exact hx y (.inr (.inr hy))
  · simp only [List.mem_append, k.mem]
theorem Insd.ctx {e : S29} {X F G Y : List It} (hs : Srt (X ++ (F ++ Y))) (hX : ∀ x ∈ X, ltI x (e, true)) (hY : ∀ y ∈ Y, ltI (e, true) y) (k : Insd e F G) : Insd e (X ++ (F ++ Y)) (X ++ (G ++ Y)) := by
  obtain ⟨h1, h2, h3, h4, h5, h6⟩ := srt_mid.1 hs
  refine ⟨srt_mid.2 ⟨h1, k.srt, h3, fun x hx => k.lo x (h4 x hx) (hX x hx), h5, fun x hx y hy => k.hi y (fun z hz => h6 z hz y hy) (hY y hy) x hx⟩, fun x hx he y hy => ?_, fun x hx he y hy => ?_, fun z => ?_⟩
  · simp only [List.mem_append] at hx hy
    rcases hy with hy | hy | hy
    · exact hx y (.inl hy)
    · exact k.lo x (fun z hz => hx z (.inr (.inl hz))) he y hy
    · exact hx y (.inr (.inr hy))
  · simp only [List.mem_append] at hx hy
    rcases hy with hy | hy | hy
    · exact hx y (.inl hy)
    · exact k.hi x (fun z hz => hx z (.inr (.inl hz))) he y hy
    · exact hx y (.inr (.inr hy))
  · simp only [List.mem_append, k.mem]
    constructor
    · rintro (h | (h | h) | h)
      · exact .inr (.inl h)
      · exact .inl h
      · exact .inr (.inr (.inl h))
      · exact .inr (.inr (.inr h))
    · rintro (h | h | h | h)
      · exact .inr (.inl (.inl h))
      · exact .inl h
      · exact .inr (.inl (.inr h))
      · exact .inr (.inr h)
theorem Deld.ctx {e : S29} {X F G Y : List It} (hs : Srt (X ++ (F ++ Y))) (hX : ∀ x ∈ X, ltI x (e, true)) (hY : ∀ y ∈ Y, ltI (e, true) y) (k : Deld e F G) : Deld e (X ++ (F ++ Y)) (X ++ (G ++ Y)) := by
  obtain ⟨h1, h2, h3, h4, h5, h6⟩ := srt_mid.1 hs
  refine ⟨srt_mid.2 ⟨h1, k.srt, h3, fun x hx => k.lo x (h4 x hx), h5, fun x hx y hy => k.hi y (fun z hz => h6 z hz y hy) x hx⟩, fun x hx y hy => ?_, fun x hx y hy => ?_, fun z => ?_⟩
  · simp only [List.mem_append] at hx hy
    rcases hy with hy | hy | hy
    · exact hx y (.inl hy)
    · exact k.lo x (fun z hz => hx z (.inr (.inl hz))) y hy
    · exact hx y (.inr (.inr hy))
  · simp only [List.mem_append] at hx hy
    rcases hy with hy | hy | hy
    · exact hx y (.inl hy)
    · exact k.hi x (fun z hz => hx z (.inr (.inl hz))) y hy
    · exact hx y (.inr (.inr hy))
  · simp only [List.mem_append, k.mem]
    constructor
    · rintro (h | ⟨h0, h⟩ | h)
      · exact ⟨fun e0 => by have := hX _ h; rw [e0] at this; exact ltI_irr _ this, .inl h⟩
      · exact ⟨h0, .inr (.inl h)⟩
      · exact ⟨fun e0 => by have := hY _ h; rw [e0] at this; exact ltI_irr _ this, .inr (.inr h)⟩
    · rintro ⟨h0, h | h | h⟩
      · exact .inl h
      · exact .inr (.inl ⟨h0, h⟩)
      · exact .inr (.inr h)
theorem pre_lt {e : S29} : ∀ (ks : List S29) (A : List (List It)), A.length = ks.length → Srt (lpre ks A) → (∀ x ∈ ks, leE x e) → ∀ x ∈ lpre ks A, ltI x (e, true) := by
  intro ks A hl hs hk x hx
  rcases List.eq_nil_or_concat ks with rfl | ⟨ks', k, hks⟩
  · have : A = [] := List.eq_nil_of_length_eq_zero (by simpa using hl)
    subst this
    simp [lpre] at hx
  · have hks : ks = ks' ++ [k] := by simpa using hks
    subst hks
    obtain ⟨A', a, rfl⟩ : ∃ A' a, A = A' ++ [a] := by
      rcases List.eq_nil_or_concat A with rfl | ⟨A', a, hA⟩
      · simp at hl
      · exact ⟨A', a, by simpa using hA⟩
    rw [lpre_snoc ks' k A' a (by simpa using hl)] at hs hx
    have hlast : ltI (k, false) (e, true) := by
      rcases hk k (by simp) with h | h
      · exact .inr ⟨h, rfl, rfl⟩
      · exact .inl h
    rw [← List.append_assoc] at hs hx
    rcases List.mem_append.1 hx with hx | hx
    · exact ltI_trans ((List.pairwise_append.1 hs).2.2 x hx (k, false) (by simp)) hlast
    · simp at hx
      subst hx
      exact hlast
theorem post_gt {e : S29} (ks : List S29) (B : List (List It)) (hs : Srt (lpost ks B)) (hk : ∀ x ∈ ks, ltE e x) : ∀ y ∈ lpost ks B, ltI (e, true) y := by
  intro y hy
  cases ks with
  | nil => simp [lpost] at hy
  | cons k ks =>
    cases B with
    | nil => simp [lpost] at hy
    | cons b B =>
      rw [lpost_cons] at hs hy
      have h0 : ltI (e, true) (k, false) := .inl (hk k (by simp))
      rcases List.mem_cons.1 hy with rfl | hy
      · exact h0
      · exact ltI_trans h0 ((List.pairwise_cons.1 hs).1 y hy)
theorem keys_sub : ∀ (ks : List S29) (fs : List (List It)), fs.length = ks.length + 1 → (ks.map (fun x : S29 => ((x, false) : It))).Sublist (il ks fs)
  | [], fs, h => by simp
  | k :: ks, [], h => by simp at h
  | k :: ks, [f], h => by simp at h
  | k :: ks, f :: g :: fs, h => by
    have ih := keys_sub ks (g :: fs) (by simpa using h)
    show ((k, false) :: ks.map _).Sublist (f ++ lpost (k :: ks) (g :: fs))
    rw [lpost_cons]
    exact (List.Sublist.cons_cons (k, false) ih).trans (List.sublist_append_right _ _)
theorem srt_keys {ks : List S29} {b : Bool} (h : Srt (ks.map (fun x : S29 => ((x, b) : It)))) : Sorted ks := by
  unfold Sorted
  rw [Srt, List.pairwise_map] at h
  refine h.imp fun {x y} hxy => ?_
  rcases hxy with hxy | ⟨_, h1, h2⟩
  · exact hxy
  · have h1 : b = false := h1
    have h2 : b = true := h2
    rw [h1] at h2
    cases h2
theorem srt_of_keys {ks : List S29} {b : Bool} (h : Sorted ks) : Srt (ks.map (fun x : S29 => ((x, b) : It))) := by
  rw [Srt, List.pairwise_map]
  exact h.imp fun {x y} hxy => .inl hxy
end Go.Proofs.Bt
end
section
namespace Go.Proofs.Bt
open Go Go.RowKit Go.Proofs.Ytjaddmflopahiaa.Q
set_option linter.unusedVariables false
set_option linter.unusedSimpArgs false
def Shape : (h : Nat) → (n : Nat) → BT h → Prop
  | 0, n, ks => n ≤ List.length (α := S29) ks ∧ List.length (α := S29) ks ≤ 4
  | h + 1, n, t => n ≤ t.1.length ∧ t.1.length ≤ 4 ∧ t.2.length = t.1.length + 1 ∧ ∀ k ∈ t.2, Shape h 2 k
theorem Shape.mono : ∀ {h n m : Nat} {t : BT h}, Shape h n t → m ≤ n → Shape h m t
  | 0, n, m, t, hs, hm => ⟨Nat.le_trans hm hs.1, hs.2⟩
  | h + 1, n, m, t, hs, hm => ⟨Nat.le_trans hm hs.1, hs.2⟩
theorem Shape.ge : ∀ {h n : Nat} {t : BT h}, Shape h n t → n ≤ blen h t
  | 0, _, _, hs => hs.1
  | _ + 1, _, _, hs => hs.1
theorem Shape.le : ∀ {h n : Nat} {t : BT h}, Shape h n t → blen h t ≤ 4
  | 0, _, _, hs => hs.2
  | _ + 1, _, _, hs => hs.2.1
theorem srt_kid {h : Nat} {ks : List S29} {ts : List (BT h)} (hl : ts.length = ks.length + 1) (hs : Srt (flat (h + 1) (ks, ts))) : ∀ k ∈ ts, Srt (flat h k) := by
  intro k hk
  obtain ⟨i, hi, rfl⟩ := List.mem_iff_getElem.1 hk
  obtain ⟨A, k, B, rfl, hA⟩ := cut_at ts i hi
  have hkk : (A ++ k :: B)[i] = k := by
    rw [List.getElem_append_right (by omega)]
    simp [hA]
  rw [hkk]
  rw [List.length_append, List.length_cons] at hl
  rw [flat_cut h ks A k B (by omega)] at hs
  exact (srt_mid.1 hs).2.1
theorem srt_seps {h : Nat} {ks : List S29} {ts : List (BT h)} (hl : ts.length = ks.length + 1) (hs : Srt (flat (h + 1) (ks, ts))) : Sorted ks :=
  srt_keys (b := false) (List.Pairwise.sublist (keys_sub ks (ts.map (flat h)) (by rw [List.length_map]; exact hl)) hs)
theorem fit_of : ∀ (h n : Nat) (t : BT h) (e : S29), Shape h n t → Srt (flat h t) → Fit e h t
  | 0, n, t, e, hs, hr => ⟨hs.2, (srt_keys hr).mono e⟩
  | h + 1, n, t, e, hs, hr => by
    obtain ⟨h1, h2, h3, h4⟩ := hs
    exact ⟨h2, (srt_seps h3 hr).mono e, h3, fun k hk => fit_of h 2 k e (h4 k hk) (srt_kid h3 hr k hk)⟩
theorem cutfit_of : ∀ (h n : Nat) (t : BT h) (e : S29), Shape h n t → (h = 0 ∨ 1 ≤ n) → Srt (flat h t) → CutFit e h t
  | 0, n, t, e, hs, _, hr => ⟨by have := hs.2; omega, (srt_keys hr).mono e⟩
  | h + 1, n, t, e, hs, hn, hr => by
    obtain ⟨h1, h2, h3, h4⟩ := hs
    exact ⟨by omega, by omega, (srt_seps h3 hr).mono e, h3, fun k hk => ⟨cutfit_of h 2 k e (h4 k hk) (.inr (by decide)) (srt_kid h3 hr k hk), (h4 k hk).ge⟩⟩
theorem at_kid {h : Nat} {ks : List S29} {ts : List (BT h)} (e : S29) (hl : ts.length = ks.length + 1) (hs : Srt (flat (h + 1) (ks, ts))) :
    ∃ A k B, ts = A ++ k :: B ∧ A.length = kidIx ks e ∧ A.length + B.length = ks.length ∧ (∀ x ∈ lpre (ks.take A.length) (A.map (flat h)), ltI x (e, true)) ∧ (∀ y ∈ lpost (ks.drop A.length) (B.map (flat h)), ltI (e, true) y) := by
  have hi := kidIx_le ks e
  obtain ⟨A, k, B, rfl, hA⟩ := cut_at ts (kidIx ks e) (by omega)
  rw [List.length_append, List.length_cons] at hl
  obtain ⟨p1, p2⟩ := kid_parts ks e (srt_seps (by rw [List.length_append, List.length_cons]; omega) hs)
  rw [flat_cut h ks A k B (by omega)] at hs
  obtain ⟨h1, h2, h3, h4, h5, h6⟩ := srt_mid.1 hs
  refine ⟨A, k, B, rfl, hA, by omega, pre_lt _ _ (by rw [List.length_map, List.length_take]; omega) h1 (by rw [hA]; exact p1), post_gt _ _ h3 (by rw [hA]; exact p2)⟩
theorem del_sep {X Y : List It} {z : S29} (hs : Srt (X ++ (z, false) :: Y)) : Sam (X ++ (z, false) :: Y) (X ++ Y) := by
  have hsub : (X ++ Y).Sublist (X ++ (z, false) :: Y) := List.Sublist.append_left (List.sublist_cons_self _ _) X
  refine ⟨List.Pairwise.sublist hsub hs, fun x hx y hy => hx y (hsub.subset hy), fun x hx y hy => hx y (hsub.subset hy), fun u => ?_⟩
  simp
theorem ins_sep {X Y : List It} {c : S29} (hX : X ≠ []) (ht : ∀ x ∈ X, x.2 = true) (hs : Srt (X ++ (c, true) :: Y)) : Sam (X ++ (c, true) :: Y) (X ++ (c, false) :: (c, true) :: Y) := by
  obtain ⟨h1, h2, h3⟩ := List.pairwise_append.1 hs
  obtain ⟨h4, h5⟩ := List.pairwise_cons.1 h2
  have hXc : ∀ x ∈ X, ltI x (c, false) := fun x hx => by
    rcases h3 x hx (c, true) (by simp) with h | ⟨_, h6, _⟩
    · exact .inl h
    · rw [ht x hx] at h6
      cases h6
  have hcc : ltI (c, false) (c, true) := .inr ⟨rfl, rfl, rfl⟩
  refine ⟨?_, fun x hx y hy => ?_, fun x hx y hy => ?_, fun u => ?_⟩
  · refine List.pairwise_append.2 ⟨h1, List.pairwise_cons.2 ⟨fun y hy => ?_, h2⟩, fun x hx y hy => ?_⟩
    · rcases List.mem_cons.1 hy with rfl | hy
      · exact hcc
      · exact ltI_trans hcc (h4 y hy)
    · rcases List.mem_cons.1 hy with rfl | hy
      · exact hXc x hx
      · exact h3 x hx y hy
  · rcases List.mem_append.1 hy with hy | hy
    · exact hx y (List.mem_append_left _ hy)
    · rcases List.mem_cons.1 hy with rfl | hy
      · obtain ⟨x0, hx0⟩ := List.exists_mem_of_ne_nil X hX
        exact ltI_trans (hx x0 (List.mem_append_left _ hx0)) (hXc x0 hx0)
      · exact hx y (List.mem_append_right _ hy)
  · rcases List.mem_append.1 hy with hy | hy
    · exact hx y (List.mem_append_left _ hy)
    · rcases List.mem_cons.1 hy with rfl | hy
      · exact ltI_trans hcc (hx (c, true) (by simp))
      · exact hx y (List.mem_append_right _ hy)
  · simp
theorem il_cons (k : S29) (ks : List S29) (f g : List It) (fs : List (List It)) : il (k :: ks) (f :: g :: fs) = f ++ (k, false) :: il ks (g :: fs) := by
  show f ++ lpost (k :: ks) (g :: fs) = _
  rw [lpost_cons]
  rfl
theorem il_app : ∀ (k1 : List S29) (z : S29) (k2 : List S29) (f1 f2 : List (List It)), f1.length = k1.length + 1 → f2 ≠ [] → il (k1 ++ z :: k2) (f1 ++ f2) = il k1 f1 ++ (z, false) :: il k2 f2
  | [], z, k2, [f], g :: f2, _, _ => by
    show il (z :: k2) (f :: g :: f2) = _
    rw [il_cons]
    simp [il, lpost]
  | k :: k1, z, k2, f :: g :: f1, f2, h, h2 => by
    have ih := il_app k1 z k2 (g :: f1) f2 (by simpa using h) h2
    show il (k :: (k1 ++ z :: k2)) (f :: g :: (f1 ++ f2)) = _
    rw [il_cons, il_cons]
    have ih' : il (k1 ++ z :: k2) (g :: (f1 ++ f2)) = il k1 (g :: f1) ++ (z, false) :: il k2 f2 := ih
    rw [ih']
    simp
  | [], z, k2, f1, [], _, h2 => absurd rfl h2
  | [], z, k2, [], f2, h, _ => by simp at h
  | [], z, k2, f :: g :: f1, f2, h, _ => by simp at h
  | k :: k1, z, k2, [], f2, h, _ => by simp at h
  | k :: k1, z, k2, [f], f2, h, _ => by simp at h
theorem flat_app (h : Nat) (k1 : List S29) (z : S29) (k2 : List S29) (t1 t2 : List (BT h)) (h1 : t1.length = k1.length + 1) (h2 : t2 ≠ []) : flat (h + 1) (k1 ++ z :: k2, t1 ++ t2) = flat (h + 1) (k1, t1) ++ (z, false) :: flat (h + 1) (k2, t2) := by
  show il (k1 ++ z :: k2) ((t1 ++ t2).map (flat h)) = il k1 (t1.map (flat h)) ++ (z, false) :: il k2 (t2.map (flat h))
  rw [List.map_append, il_app k1 z k2 _ _ (by rw [List.length_map]; exact h1) (by simpa using h2)]
def ents (l : List S29) : List It := l.map (fun x : S29 => ((x, true) : It))
theorem ents_app (a b : List S29) : ents (a ++ b) = ents a ++ ents b := by simp [ents]
theorem ents_true {l : List S29} : ∀ x ∈ ents l, x.2 = true := by
  intro x hx
  obtain ⟨y, _, rfl⟩ := List.mem_map.1 hx
  rfl
theorem split_sam : ∀ (h : Nat) (t : BT h), blen h t = 5 → (h = 0 ∨ bkids h t = 6) → Srt (flat h t) → Sam (flat h t) (flat h (bsplit h t).2.1 ++ ((bsplit h t).1, false) :: flat h (bsplit h t).2.2)
  | 0, t, h5, _, hs => by
    have h5 : List.length (α := S29) t = 5 := h5
    obtain ⟨a, b, c, r, ht⟩ : ∃ a b c r, t = (a :: b :: c :: r : List S29) := by
      match t, h5 with
      | a :: b :: c :: r, _ => exact ⟨a, b, c, r, rfl⟩
    subst ht
    exact ins_sep (X := [(a, true), (b, true)]) (Y := ents r) (by simp) (by simp) hs
  | h + 1, t, h5, h6, hs => by
    obtain ⟨ks, ts⟩ := t
    have h5 : ks.length = 5 := h5
    have h6 : ts.length = 6 := h6.resolve_left (by omega)
    have e1 : ks = ks.take 2 ++ ks.getD 2 z29 :: ks.drop 3 := by
      have h2 : 2 < ks.length := by omega
      conv => lhs; rw [← List.take_append_drop 2 ks, List.drop_eq_getElem_cons h2]
      rw [List.getD_eq_getElem?_getD, List.getElem?_eq_getElem h2]
      rfl
    have e2 : ts = ts.take 3 ++ ts.drop 3 := (List.take_append_drop 3 ts).symm
    have hf : flat (h + 1) (ks, ts) = flat (h + 1) (ks.take 2, ts.take 3) ++ (ks.getD 2 z29, false) :: flat (h + 1) (ks.drop 3, ts.drop 3) := by
      conv => lhs; rw [e1, e2]
      exact flat_app h _ _ _ _ _ (by rw [List.length_take, List.length_take]; omega) (by intro e; have := congrArg List.length e; rw [List.length_drop] at this; simp at this; omega)
    show Sam (flat (h + 1) (ks, ts)) (flat (h + 1) (ks.take 2, ts.take 3) ++ (ks.getD 2 z29, false) :: flat (h + 1) (ks.drop 3, ts.drop 3))
    rw [← hf]
    exact Sam.refl hs
theorem leaf_ins (ks : List S29) (e : S29) (hs : Sorted ks) : Insd e (ents ks) (ents (if found ks e = true then ks else insAt ks (low ks e) e)) ∧ (found ks e = true ↔ e ∈ ks) := by
  have hfm := found_mem ks e hs
  refine ⟨?_, hfm⟩
  by_cases hf : found ks e = true
  · rw [if_pos hf]
    exact ⟨srt_of_keys hs, fun x hx _ => hx, fun x hx _ => hx, fun z => ⟨.inr, fun hz => hz.elim (fun hz => by rw [hz]; exact List.mem_map_of_mem (hfm.1 hf)) id⟩⟩
  · rw [if_neg hf]
    have hs2 : Sorted (insAt ks (low ks e) e) := ins_sorted ks e hs (by simpa using hf)
    have hm : ∀ y, y ∈ ents (insAt ks (low ks e) e) ↔ y = (e, true) ∨ y ∈ ents ks := fun y => by
      simp only [ents, List.mem_map, mem_insAt]
      constructor
      · rintro ⟨z, (rfl | hz), rfl⟩
        · exact .inl rfl
        · exact .inr ⟨z, hz, rfl⟩
      · rintro (rfl | ⟨z, hz, rfl⟩)
        · exact ⟨e, .inl rfl, rfl⟩
        · exact ⟨z, .inr hz, rfl⟩
    refine ⟨srt_of_keys hs2, fun x hx he y hy => ?_, fun x hx he y hy => ?_, fun z => ?_⟩
    · rcases (hm y).1 hy with rfl | hy
      · exact he
      · exact hx y hy
    · rcases (hm y).1 hy with rfl | hy
      · exact he
      · exact hx y hy
    · rw [hm]
      simp
theorem insAt_take {α : Type} (l : List α) (i : Nat) (x : α) (h : i ≤ l.length) : (insAt l i x).take i = l.take i := by
  unfold insAt
  rw [List.take_append_of_le_length (by rw [List.length_take]; omega), List.take_take, Nat.min_self]
theorem insAt_drop {α : Type} (l : List α) (i : Nat) (x : α) (h : i ≤ l.length) : (insAt l i x).drop (i + 1) = l.drop i := by
  unfold insAt
  have hl : (l.take i).length = i := by rw [List.length_take]; omega
  rw [List.drop_append, List.drop_eq_nil_iff.2 (by omega), hl]
  simp
theorem insAt_at {α : Type} (l : List α) (i : Nat) (x : α) (h : i ≤ l.length) : (insAt l i x)[i]? = some x := by
  unfold insAt
  have hl : (l.take i).length = i := by rw [List.length_take]; omega
  rw [List.getElem?_append_right (by omega), hl]
  simp
structure InsGood (h n : Nat) (t : BT h) (e : S29) : Prop where
  ge : n ≤ blen h (ins h t e).1
  le : blen h (ins h t e).1 ≤ 5
  kids : h = 0 ∨ bkids h (ins h t e).1 = blen h (ins h t e).1 + 1
  good : Insd e (flat h t) (flat h (ins h t e).1)
  fresh : (ins h t e).2 = true ↔ (e, true) ∉ flat h t
def KidsOk : (h : Nat) → BT h → Prop
  | 0, _ => True
  | h + 1, t => ∀ k ∈ t.2, Shape h 2 k
theorem shape_of {h n : Nat} {t : BT h} (h1 : n ≤ blen h t) (h2 : blen h t ≤ 4) (h3 : h = 0 ∨ bkids h t = blen h t + 1) (h4 : KidsOk h t) : Shape h n t := by
  cases h with
  | zero => exact ⟨h1, h2⟩
  | succ h => exact ⟨h1, h2, h3.resolve_left (by omega), h4⟩
theorem kidsOk_of {h n : Nat} {t : BT h} (hs : Shape h n t) : KidsOk h t := by
  cases h with
  | zero => trivial
  | succ h => exact hs.2.2.2
theorem five_parts (l : List S29) (h5 : l.length = 5) : (2 ≤ (l.take 2).length ∧ (l.take 2).length ≤ 4) ∧ (2 ≤ (l.drop 2).length ∧ (l.drop 2).length ≤ 4) := by
  rw [List.length_take, List.length_drop]
  omega
theorem leaf_len (l : List S29) (n : Nat) (e : S29) (h : n ≤ l.length) : n ≤ (if found l e = true then l else insAt l (low l e) e).length := by
  split
  · exact h
  · rw [insAt_len _ _ _ (low_le l e)]
    omega
theorem ents_mem (l : List S29) (e : S29) : (e, true) ∈ ents l ↔ e ∈ l := by simp [ents]
theorem leaf_fresh (l : List S29) (e : S29) (hs : Sorted l) : (!(found l e)) = true ↔ (e, true) ∉ ents l := by
  rw [ents_mem, ← found_mem l e hs]
  simp
theorem split_shape : ∀ (h : Nat) (t : BT h), blen h t = 5 → (h = 0 ∨ bkids h t = 6) → KidsOk h t → Shape h 2 (bsplit h t).2.1 ∧ Shape h 2 (bsplit h t).2.2
  | 0, t, h5, _, _ => five_parts t h5
  | h + 1, t, h5, h6, hk => by
    obtain ⟨ks, ts⟩ := t
    have h5 : ks.length = 5 := h5
    have h6 : ts.length = 6 := h6.resolve_left (by omega)
    have hk : ∀ k ∈ ts, Shape h 2 k := hk
    refine ⟨⟨?_, ?_, ?_, fun k hkk => hk k (List.mem_of_mem_take hkk)⟩, ⟨?_, ?_, ?_, fun k hkk => hk k (List.mem_of_mem_drop hkk)⟩⟩
    · show 2 ≤ (ks.take 2).length; rw [List.length_take]; omega
    · show (ks.take 2).length ≤ 4; rw [List.length_take]; omega
    · show (ts.take 3).length = (ks.take 2).length + 1; rw [List.length_take, List.length_take]; omega
    · show 2 ≤ (ks.drop 3).length; rw [List.length_drop]; omega
    · show (ks.drop 3).length ≤ 4; rw [List.length_drop]; omega
    · show (ts.drop 3).length = (ks.drop 3).length + 1; rw [List.length_drop, List.length_drop]; omega
theorem ins_good : ∀ (h n : Nat) (t : BT h) (e : S29), Shape h n t → Srt (flat h t) → InsGood h n t e ∧ KidsOk h (ins h t e).1
  | 0, n, t, e, hs, hr => by
    obtain ⟨q1, q2⟩ := leaf_ins t e (srt_keys hr)
    exact ⟨⟨leaf_len t n e hs.1, len0 t e hs.2, .inl rfl, q1, leaf_fresh t e (srt_keys hr)⟩, trivial⟩
  | h + 1, n, t, e, hs, hr => by
    obtain ⟨ks, ts⟩ := t
    obtain ⟨h1, h2, h3, h4⟩ := hs
    change n ≤ ks.length at h1
    change ks.length ≤ 4 at h2
    change ts.length = ks.length + 1 at h3
    change ∀ k ∈ ts, Shape h 2 k at h4
    obtain ⟨A, k, B, rfl, hA, hAB, hX, hY⟩ := at_kid e h3 hr
    have hrk := srt_kid h3 hr k (by simp)
    obtain ⟨ih, ihk⟩ := ins_good h 2 k e (h4 k (by simp)) hrk
    have hx : ins (h + 1) (ks, A ++ k :: B) e = _ := ins_at h ks A k B e hA
    have hfl : flat (h + 1) (ks, A ++ k :: B) = _ := flat_cut h ks A k B (by omega)
    have hr2 := hr
    rw [hfl] at hr2
    have hgood := Insd.ctx hr2 hX hY ih.good
    have hfresh : (ins h k e).2 = true ↔ (e, true) ∉ flat (h + 1) (ks, A ++ k :: B) := by
      rw [ih.fresh, hfl]
      simp only [List.mem_append, not_or]
      exact ⟨fun hh => ⟨fun h0 => ltI_irr _ (hX _ h0), hh, fun h0 => ltI_irr _ (hY _ h0)⟩, fun hh => hh.2.1⟩
    by_cases h5 : 4 < (bkeys h (ins h k e).1).length
    · rw [if_pos h5] at hx
      have hle := ih.le
      have h55 : blen h (ins h k e).1 = 5 := by unfold blen at hle ⊢; omega
      have h6 : h = 0 ∨ bkids h (ins h k e).1 = 6 := ih.kids.imp id (fun h7 => by rw [h7, h55])
      obtain ⟨s1, s2⟩ := split_shape h _ h55 h6 ihk
      have hsp := split_sam h _ h55 h6 ih.good.srt
      have hil : kidIx ks e ≤ ks.length := kidIx_le ks e
      have hf2 : flat (h + 1) (ins (h + 1) (ks, A ++ k :: B) e).1 = lpre (ks.take A.length) (A.map (flat h)) ++ ((flat h (bsplit h (ins h k e).1).2.1 ++ ((bsplit h (ins h k e).1).1, false) :: flat h (bsplit h (ins h k e).1).2.2) ++ lpost (ks.drop A.length) (B.map (flat h))) := by
        rw [hx]
        show flat (h + 1) (insAt ks (kidIx ks e) _, A ++ _ :: _ :: B) = _
        rw [flat_pair h _ A _ _ B (bsplit h (ins h k e).1).1 (by rw [hA, insAt_at _ _ _ hil]), hA, insAt_take _ _ _ hil, insAt_drop _ _ _ hil, List.append_assoc]
      refine ⟨⟨?_, ?_, .inr ?_, ?_, ?_⟩, ?_⟩
      · rw [hx]
        show n ≤ (insAt ks (kidIx ks e) _).length
        rw [insAt_len _ _ _ hil]; omega
      · rw [hx]
        show (insAt ks (kidIx ks e) _).length ≤ 5
        rw [insAt_len _ _ _ hil]; omega
      · rw [hx]
        show (A ++ _ :: _ :: B).length = (insAt ks (kidIx ks e) _).length + 1
        rw [insAt_len _ _ _ hil, List.length_append, List.length_cons, List.length_cons]; omega
      · rw [hf2, hfl]
        have hmid := hgood.srt
        exact hgood.then (Sam.ctx hmid hsp)
      · rw [hx]
        exact hfresh
      · rw [hx]
        intro k' hk'
        simp only [List.mem_append, List.mem_cons] at hk'
        rcases hk' with hk' | rfl | rfl | hk'
        · exact h4 k' (by simp [hk'])
        · exact s1
        · exact s2
        · exact h4 k' (by simp [hk'])
    · rw [if_neg h5] at hx
      have hf2 : flat (h + 1) (ins (h + 1) (ks, A ++ k :: B) e).1 = lpre (ks.take A.length) (A.map (flat h)) ++ (flat h (ins h k e).1 ++ lpost (ks.drop A.length) (B.map (flat h))) := by
        rw [hx]
        exact flat_cut h ks A _ B (by omega)
      refine ⟨⟨?_, ?_, .inr ?_, ?_, ?_⟩, ?_⟩
      · rw [hx]; exact h1
      · rw [hx]; exact (show ks.length ≤ 5 by omega)
      · rw [hx]
        show (A ++ _ :: B).length = ks.length + 1
        rw [List.length_append, List.length_cons]; omega
      · rw [hf2, hfl]
        exact hgood
      · rw [hx]
        exact hfresh
      · rw [hx]
        intro k' hk'
        simp only [List.mem_append, List.mem_cons] at hk'
        rcases hk' with hk' | rfl | hk'
        · exact h4 k' (by simp [hk'])
        · exact shape_of ih.ge (by unfold blen; omega) ih.kids ihk
        · exact h4 k' (by simp [hk'])
end Go.Proofs.Bt
end
section
namespace Go.Proofs.Bt
open Go Go.RowKit Go.Proofs.Ytjaddmflopahiaa.Q
set_option linter.unusedVariables false
set_option linter.unusedSimpArgs false
structure TInv (h : Nat) (t : BT h) : Prop where
  shape : Shape h (if h = 0 then 0 else 1) t
  srt : Srt (flat h t)
theorem leaf_same (l : List S29) (e : S29) (h : (!(found l e)) = false) : (if found l e = true then l else insAt l (low l e) e) = l := by
  have hf : found l e = true := by simpa using h
  rw [if_pos hf]
theorem ins_same : ∀ (h n : Nat) (t : BT h) (e : S29), Shape h n t → Srt (flat h t) → (ins h t e).2 = false → (ins h t e).1 = t
  | 0, n, t, e, hs, hr, hf => leaf_same t e hf
  | h + 1, n, t, e, hs, hr, hf => by
    obtain ⟨ks, ts⟩ := t
    obtain ⟨h1, h2, h3, h4⟩ := hs
    change ts.length = ks.length + 1 at h3
    change ∀ k ∈ ts, Shape h 2 k at h4
    obtain ⟨A, k, B, rfl, hA, hAB, hX, hY⟩ := at_kid e h3 hr
    have hx : ins (h + 1) (ks, A ++ k :: B) e = _ := ins_at h ks A k B e hA
    have hk : (ins h k e).2 = false := by
      rw [hx] at hf
      split at hf <;> exact hf
    have ih := ins_same h 2 k e (h4 k (by simp)) (srt_kid h3 hr k (by simp)) hk
    have hle := (h4 k (by simp)).le
    rw [hx, ih, if_neg (by unfold blen at hle; omega)]
theorem one_keys (h : Nat) (x : S29) (l r : BT h) : flat (h + 1) ([x], [l, r]) = flat h l ++ (x, false) :: flat h r := by
  show il [x] [flat h l, flat h r] = _
  rw [il_cons]
  simp [il, lpost]
theorem tins_good (h : Nat) (t : BT h) (e : S29) (hi : TInv h t) : TInv (tins h t e).1.1 (tins h t e).1.2 ∧ Insd e (flat h t) (flat (tins h t e).1.1 (tins h t e).1.2) ∧ ((tins h t e).2 = true ↔ (e, true) ∉ flat h t) := by
  obtain ⟨g, gk⟩ := ins_good h _ t e hi.shape hi.srt
  by_cases hc : (ins h t e).2 = true ∧ 4 < (bkeys h (ins h t e).1).length
  · have ht : tins h t e = (⟨h + 1, ([(bsplit h (ins h t e).1).1], [(bsplit h (ins h t e).1).2.1, (bsplit h (ins h t e).1).2.2])⟩, (ins h t e).2) := by
      unfold tins
      rw [if_pos hc]
    have hle := g.le
    have h55 : blen h (ins h t e).1 = 5 := by have := hc.2; unfold blen at hle ⊢; omega
    have h6 : h = 0 ∨ bkids h (ins h t e).1 = 6 := g.kids.imp id (fun h7 => by rw [h7, h55])
    obtain ⟨s1, s2⟩ := split_shape h _ h55 h6 gk
    have hsp := split_sam h _ h55 h6 g.good.srt
    have hfl := one_keys h (bsplit h (ins h t e).1).1 (bsplit h (ins h t e).1).2.1 (bsplit h (ins h t e).1).2.2
    rw [ht]
    refine ⟨⟨⟨?_, ?_, rfl, ?_⟩, ?_⟩, ?_, g.fresh⟩
    · simp
    · simp
    · intro k hk
      simp at hk
      rcases hk with rfl | rfl
      · exact s1
      · exact s2
    · rw [hfl]
      exact hsp.srt
    · rw [hfl]
      exact g.good.then hsp
  · have ht : tins h t e = (⟨h, (ins h t e).1⟩, (ins h t e).2) := by
      unfold tins
      rw [if_neg hc]
    rw [ht]
    refine ⟨⟨shape_of g.ge ?_ g.kids gk, g.good.srt⟩, g.good, g.fresh⟩
    cases hf : (ins h t e).2 with
    | true =>
      have : ¬ 4 < (bkeys h (ins h t e).1).length := fun h4 => hc ⟨hf, h4⟩
      show (bkeys h (ins h t e).1).length ≤ 4
      omega
    | false =>
      rw [ins_same h _ t e hi.shape hi.srt hf]
      exact hi.shape.le
theorem leaf_del (l : List S29) (e : S29) (hs : Sorted l) : Deld e (ents l) (ents (if found l e = true then delAt l (low l e) else l)) := by
  have hfm := found_mem l e hs
  by_cases hf : found l e = true
  · rw [if_pos hf]
    have hl := found_lt hf
    have he : l[low l e] = e := by
      unfold found at hf
      rw [dif_pos hl, decide_eq_true_eq, ord_zero] at hf
      exact hf
    have hsub : (delAt l (low l e)).Sublist l := by
      unfold delAt
      conv => rhs; rw [← List.take_append_drop (low l e) l]
      exact List.Sublist.append_left (List.drop_sublist_drop_left l (Nat.le_succ _)) _
    have hmem : ∀ z, z ∈ delAt l (low l e) ↔ z ≠ e ∧ z ∈ l := fun z => by
      have hl2 : l = l.take (low l e) ++ e :: l.drop (low l e + 1) := by
        conv => lhs; rw [← List.take_append_drop (low l e) l, List.drop_eq_getElem_cons hl, he]
      have hp : (l.take (low l e) ++ e :: l.drop (low l e + 1)).Pairwise ltE := by rw [← hl2]; exact hs
      obtain ⟨p1, p2, p3⟩ := List.pairwise_append.1 hp
      obtain ⟨p4, p5⟩ := List.pairwise_cons.1 p2
      constructor
      · intro hz
        refine ⟨fun e0 => ?_, hsub.subset hz⟩
        subst e0
        unfold delAt at hz
        rcases List.mem_append.1 hz with hz | hz
        · exact ltE_irr _ (p3 z hz z (by simp))
        · exact ltE_irr _ (p4 z hz)
      · rintro ⟨h0, hz⟩
        rw [hl2] at hz
        unfold delAt
        rcases List.mem_append.1 hz with hz | hz
        · exact List.mem_append_left _ hz
        · rcases List.mem_cons.1 hz with hz | hz
          · exact absurd hz h0
          · exact List.mem_append_right _ hz
    have hsubE : ∀ y, y ∈ ents (delAt l (low l e)) → y ∈ ents l := fun y hy => by
      obtain ⟨z, hz, rfl⟩ := List.mem_map.1 hy
      exact List.mem_map_of_mem (hsub.subset hz)
    refine ⟨srt_of_keys (hs.sublist hsub), fun x hx y hy => hx y (hsubE y hy), fun x hx y hy => hx y (hsubE y hy), fun z => ?_⟩
    rw [ents_mem, ents_mem]
    exact hmem z
  · rw [if_neg hf]
    refine ⟨srt_of_keys hs, fun x hx => hx, fun x hx => hx, fun z => ?_⟩
    rw [ents_mem]
    exact ⟨fun hz => ⟨fun e0 => hf (hfm.2 (e0 ▸ hz)), hz⟩, fun hz => hz.2⟩
theorem getLast_ne {α : Type} {l : List α} (h : 0 < l.length) : l ≠ [] := by rintro rfl; simp at h
theorem snoc_cases {α : Type} (l : List α) (h : 0 < l.length) : ∃ l' x, l = l' ++ [x] := ⟨l.dropLast, l.getLast (getLast_ne h), (List.dropLast_concat_getLast (getLast_ne h)).symm⟩
theorem cons_cases' {α : Type} (l : List α) (h : 0 < l.length) : ∃ x l', l = x :: l' := by
  match l, h with
  | x :: l', _ => exact ⟨x, l', rfl⟩
theorem bleft_leaf_sam (a b : List S29) (z : S29) (ha : 2 < a.length) (hs : Srt (ents a ++ (z, false) :: ents b)) : Sam (ents a ++ (z, false) :: ents b) (ents a.dropLast ++ (a.getLastD z29, false) :: ents (a.getLastD z29 :: b)) := by
  obtain ⟨a', x, rfl⟩ := snoc_cases a (by omega)
  have e1 : (a' ++ [x]).dropLast = a' := by simp
  have e2 : (a' ++ [x]).getLastD z29 = x := by simp
  rw [e1, e2]
  have h1 := del_sep hs
  have hx : ents (a' ++ [x]) ++ ents b = ents a' ++ (x, true) :: ents b := by simp [ents]
  rw [hx] at h1
  have h2 := ins_sep (X := ents a') (c := x) (Y := ents b) (by
    have : 0 < a'.length := by rw [List.length_append] at ha; simp at ha; omega
    intro e
    rw [ents, List.map_eq_nil_iff] at e
    rw [e] at this
    simp at this) ents_true h1.srt
  exact ⟨h2.srt, fun u hu => h2.lo u (h1.lo u hu), fun u hu => h2.hi u (h1.hi u hu), fun u => (h2.mem u).trans (h1.mem u)⟩
theorem bright_leaf_sam (a b : List S29) (z : S29) (hb : 2 < b.length) (hs : Srt (ents a ++ (z, false) :: ents b)) : Sam (ents a ++ (z, false) :: ents b) (ents (a ++ [b.getD 0 z29]) ++ (b.getD 1 z29, false) :: ents b.tail) := by
  obtain ⟨x, b1, rfl⟩ := cons_cases' b (by omega)
  obtain ⟨y, b2, rfl⟩ := cons_cases' b1 (by rw [List.length_cons] at hb; omega)
  show Sam _ (ents (a ++ [x]) ++ (y, false) :: ents (y :: b2))
  have h1 := del_sep hs
  have hx : ents a ++ ents (x :: y :: b2) = ents (a ++ [x]) ++ (y, true) :: ents b2 := by simp [ents]
  rw [hx] at h1
  have h2 := ins_sep (X := ents (a ++ [x])) (c := y) (Y := ents b2) (by simp [ents]) ents_true h1.srt
  exact ⟨h2.srt, fun u hu => h2.lo u (h1.lo u hu), fun u hu => h2.hi u (h1.hi u hu), fun u => (h2.mem u).trans (h1.mem u)⟩
theorem bleft_sam : ∀ (h : Nat) (a b : BT h) (z : S29), 2 < blen h a → (h = 0 ∨ bkids h a = blen h a + 1) → (h = 0 ∨ bkids h b = blen h b + 1) → Srt (flat h a ++ (z, false) :: flat h b) →
    Sam (flat h a ++ (z, false) :: flat h b) (flat h (bleft h a b z).2.1 ++ ((bleft h a b z).1, false) :: flat h (bleft h a b z).2.2)
  | 0, a, b, z, ha, _, _, hs => bleft_leaf_sam a b z ha hs
  | h + 1, a, b, z, ha, ha2, hb2, hs => by
    obtain ⟨ka, la⟩ := a
    obtain ⟨kb, lb⟩ := b
    have ha : 2 < ka.length := ha
    have ha2 : la.length = ka.length + 1 := ha2.resolve_left (by omega)
    have hb2 : lb.length = kb.length + 1 := hb2.resolve_left (by omega)
    obtain ⟨ka, x, rfl⟩ := snoc_cases ka (by omega)
    obtain ⟨la, q, rfl⟩ := snoc_cases la (by omega)
    rw [List.length_append, List.length_append] at ha2
    simp at ha2
    have hlb : lb ≠ [] := getLast_ne (by omega)
    have e1 : (bleft (h + 1) (ka ++ [x], la ++ [q]) (kb, lb) z) = (x, (ka, la), (z :: kb, q :: lb)) := by
      show (List.getLastD (ka ++ [x]) z29, (List.dropLast (ka ++ [x]), List.dropLast (la ++ [q])), (z :: kb, (la ++ [q]).getLast?.toList ++ lb)) = _
      simp
    rw [e1]
    have f1 : flat (h + 1) (ka ++ [x], la ++ [q]) = flat (h + 1) (ka, la) ++ (x, false) :: flat h q := by
      rw [flat_app h ka x [] la [q] (by omega) (by simp)]
      simp [flat, il, lpost]
    have f2 : flat (h + 1) (z :: kb, q :: lb) = flat h q ++ (z, false) :: flat (h + 1) (kb, lb) := by
      have := flat_app h [] z kb [q] lb rfl hlb
      rw [show ([] : List S29) ++ z :: kb = z :: kb from rfl, show [q] ++ lb = q :: lb from rfl] at this
      rw [this]
      simp [flat, il, lpost]
    show Sam (flat (h + 1) (ka ++ [x], la ++ [q]) ++ (z, false) :: flat (h + 1) (kb, lb)) (flat (h + 1) (ka, la) ++ (x, false) :: flat (h + 1) (z :: kb, q :: lb))
    have e : flat (h + 1) (ka ++ [x], la ++ [q]) ++ (z, false) :: flat (h + 1) (kb, lb) = flat (h + 1) (ka, la) ++ (x, false) :: flat (h + 1) (z :: kb, q :: lb) := by
      rw [f1, f2]
      simp
    rw [← e]
    exact Sam.refl hs
theorem bright_sam : ∀ (h : Nat) (a b : BT h) (z : S29), 2 < blen h b → (h = 0 ∨ bkids h a = blen h a + 1) → (h = 0 ∨ bkids h b = blen h b + 1) → Srt (flat h a ++ (z, false) :: flat h b) →
    Sam (flat h a ++ (z, false) :: flat h b) (flat h (bright h a b z).2.1 ++ ((bright h a b z).1, false) :: flat h (bright h a b z).2.2)
  | 0, a, b, z, hb, _, _, hs => bright_leaf_sam a b z hb hs
  | h + 1, a, b, z, hb, ha2, hb2, hs => by
    obtain ⟨ka, la⟩ := a
    obtain ⟨kb, lb⟩ := b
    have hb : 2 < kb.length := hb
    have ha2 : la.length = ka.length + 1 := ha2.resolve_left (by omega)
    have hb2 : lb.length = kb.length + 1 := hb2.resolve_left (by omega)
    obtain ⟨x, kb, rfl⟩ := cons_cases' kb (by omega)
    obtain ⟨q, lb, rfl⟩ := cons_cases' lb (by omega)
    rw [List.length_cons, List.length_cons] at hb2
    have hlb : lb ≠ [] := getLast_ne (by omega)
    have e1 : (bright (h + 1) (ka, la) (x :: kb, q :: lb) z) = (x, (ka ++ [z], la ++ [q]), (kb, lb)) := rfl
    rw [e1]
    have f1 : flat (h + 1) (ka ++ [z], la ++ [q]) = flat (h + 1) (ka, la) ++ (z, false) :: flat h q := by
      rw [flat_app h ka z [] la [q] (by omega) (by simp)]
      simp [flat, il, lpost]
    have f2 : flat (h + 1) (x :: kb, q :: lb) = flat h q ++ (x, false) :: flat (h + 1) (kb, lb) := by
      have := flat_app h [] x kb [q] lb rfl hlb
      rw [show ([] : List S29) ++ x :: kb = x :: kb from rfl, show [q] ++ lb = q :: lb from rfl] at this
      rw [this]
      simp [flat, il, lpost]
    show Sam (flat (h + 1) (ka, la) ++ (z, false) :: flat (h + 1) (x :: kb, q :: lb)) (flat (h + 1) (ka ++ [z], la ++ [q]) ++ (x, false) :: flat (h + 1) (kb, lb))
    have e : flat (h + 1) (ka, la) ++ (z, false) :: flat (h + 1) (x :: kb, q :: lb) = flat (h + 1) (ka ++ [z], la ++ [q]) ++ (x, false) :: flat (h + 1) (kb, lb) := by
      rw [f1, f2]
      simp
    rw [← e]
    exact Sam.refl hs
theorem bjoin_sam : ∀ (h : Nat) (a b : BT h) (z : S29), (h = 0 ∨ bkids h a = blen h a + 1) → (h = 0 ∨ bkids h b = blen h b + 1) → Srt (flat h a ++ (z, false) :: flat h b) →
    Sam (flat h a ++ (z, false) :: flat h b) (flat h (bjoin h a b z))
  | 0, a, b, z, _, _, hs => by
    have h1 := del_sep hs
    have : flat 0 (bjoin 0 a b z) = flat 0 a ++ flat 0 b := ents_app a b
    rw [this]
    exact h1
  | h + 1, a, b, z, ha2, hb2, hs => by
    obtain ⟨ka, la⟩ := a
    obtain ⟨kb, lb⟩ := b
    have ha2 : la.length = ka.length + 1 := ha2.resolve_left (by omega)
    have hb2 : lb.length = kb.length + 1 := hb2.resolve_left (by omega)
    have e : flat (h + 1) (bjoin (h + 1) (ka, la) (kb, lb) z) = flat (h + 1) (ka, la) ++ (z, false) :: flat (h + 1) (kb, lb) := by
      show flat (h + 1) (ka ++ [z] ++ kb, la ++ lb) = _
      rw [show ka ++ [z] ++ kb = ka ++ z :: kb by simp]
      exact flat_app h ka z kb la lb ha2 (getLast_ne (by omega))
    rw [e]
    exact Sam.refl hs
end Go.Proofs.Bt
end
section
namespace Go.Proofs.Bt
open Go Go.RowKit Go.Proofs.Ytjaddmflopahiaa.Q
set_option linter.unusedVariables false
set_option linter.unusedSimpArgs false
theorem bleft_len (a b : List S29) (ha : 2 < a.length) (ha4 : a.length ≤ 4) (hb : b.length = 1) : (2 ≤ a.dropLast.length ∧ a.dropLast.length ≤ 4) ∧ (2 ≤ (a.getLastD z29 :: b).length ∧ (a.getLastD z29 :: b).length ≤ 4) := by
  rw [List.length_dropLast, List.length_cons]
  omega
theorem bright_len (a b : List S29) (ha : a.length = 1) (hb : 2 < b.length) (hb4 : b.length ≤ 4) : (2 ≤ (a ++ [b.getD 0 z29]).length ∧ (a ++ [b.getD 0 z29]).length ≤ 4) ∧ (2 ≤ b.tail.length ∧ b.tail.length ≤ 4) := by
  rw [List.length_tail, List.length_append, List.length_singleton]
  omega
theorem bleft_shape : ∀ (h : Nat) (a b : BT h) (z : S29), 2 < blen h a → blen h a ≤ 4 → (h = 0 ∨ bkids h a = blen h a + 1) → KidsOk h a → blen h b = 1 → (h = 0 ∨ bkids h b = blen h b + 1) → KidsOk h b → Shape h 2 (bleft h a b z).2.1 ∧ Shape h 2 (bleft h a b z).2.2
  | 0, a, b, z, h1, h2, _, _, h3, _, _ => bleft_len a b h1 h2 h3
  | h + 1, a, b, z, h1, h2, h3, h4, h5, h6, h7 => by
    obtain ⟨ka, la⟩ := a
    obtain ⟨kb, lb⟩ := b
    have h1 : 2 < ka.length := h1
    have h2 : ka.length ≤ 4 := h2
    have h3 : la.length = ka.length + 1 := h3.resolve_left (by omega)
    have h4 : ∀ k ∈ la, Shape h 2 k := h4
    have h5 : kb.length = 1 := h5
    have h6 : lb.length = kb.length + 1 := h6.resolve_left (by omega)
    have h7 : ∀ k ∈ lb, Shape h 2 k := h7
    obtain ⟨la, q, rfl⟩ := snoc_cases la (by omega)
    have e1 : (bleft (h + 1) (ka, la ++ [q]) (kb, lb) z) = (ka.getLastD z29, (ka.dropLast, la), (z :: kb, q :: lb)) := by
      show (ka.getLastD z29, (ka.dropLast, List.dropLast (la ++ [q])), (z :: kb, (la ++ [q]).getLast?.toList ++ lb)) = _
      simp
    rw [e1]
    rw [List.length_append, List.length_singleton] at h3
    refine ⟨⟨?_, ?_, ?_, fun k hk => h4 k (List.mem_append_left _ hk)⟩, ⟨?_, ?_, ?_, fun k hk => ?_⟩⟩
    · show 2 ≤ ka.dropLast.length; rw [List.length_dropLast]; omega
    · show ka.dropLast.length ≤ 4; rw [List.length_dropLast]; omega
    · show la.length = ka.dropLast.length + 1; rw [List.length_dropLast]; omega
    · show 2 ≤ (z :: kb).length; rw [List.length_cons]; omega
    · show (z :: kb).length ≤ 4; rw [List.length_cons]; omega
    · show (q :: lb).length = (z :: kb).length + 1; rw [List.length_cons, List.length_cons]; omega
    · rcases List.mem_cons.1 hk with rfl | hk
      · exact h4 _ (by simp)
      · exact h7 k hk
theorem bright_shape : ∀ (h : Nat) (a b : BT h) (z : S29), blen h a = 1 → (h = 0 ∨ bkids h a = blen h a + 1) → KidsOk h a → 2 < blen h b → blen h b ≤ 4 → (h = 0 ∨ bkids h b = blen h b + 1) → KidsOk h b → Shape h 2 (bright h a b z).2.1 ∧ Shape h 2 (bright h a b z).2.2
  | 0, a, b, z, h1, _, _, h2, h3, _, _ => bright_len a b h1 h2 h3
  | h + 1, a, b, z, h5, h6, h7, h1, h2, h3, h4 => by
    obtain ⟨ka, la⟩ := a
    obtain ⟨kb, lb⟩ := b
    have h1 : 2 < kb.length := h1
    have h2 : kb.length ≤ 4 := h2
    have h3 : lb.length = kb.length + 1 := h3.resolve_left (by omega)
    have h4 : ∀ k ∈ lb, Shape h 2 k := h4
    have h5 : ka.length = 1 := h5
    have h6 : la.length = ka.length + 1 := h6.resolve_left (by omega)
    have h7 : ∀ k ∈ la, Shape h 2 k := h7
    obtain ⟨q, lb, rfl⟩ := cons_cases' lb (by omega)
    have e1 : (bright (h + 1) (ka, la) (kb, q :: lb) z) = (kb.getD 0 z29, (ka ++ [z], la ++ [q]), (kb.tail, lb)) := rfl
    rw [e1]
    rw [List.length_cons] at h3
    refine ⟨⟨?_, ?_, ?_, fun k hk => ?_⟩, ⟨?_, ?_, ?_, fun k hk => h4 k (List.mem_cons_of_mem _ hk)⟩⟩
    · show 2 ≤ (ka ++ [z]).length; rw [List.length_append, List.length_singleton]; omega
    · show (ka ++ [z]).length ≤ 4; rw [List.length_append, List.length_singleton]; omega
    · show (la ++ [q]).length = (ka ++ [z]).length + 1; rw [List.length_append, List.length_append, List.length_singleton, List.length_singleton]; omega
    · rcases List.mem_append.1 hk with hk | hk
      · exact h7 k hk
      · simp at hk
        subst hk
        exact h4 _ (by simp)
    · show 2 ≤ kb.tail.length; rw [List.length_tail]; omega
    · show kb.tail.length ≤ 4; rw [List.length_tail]; omega
    · show lb.length = kb.tail.length + 1; rw [List.length_tail]; omega
theorem bjoin_shape : ∀ (h : Nat) (a b : BT h) (z : S29), blen h a + blen h b = 3 → (h = 0 ∨ bkids h a = blen h a + 1) → KidsOk h a → (h = 0 ∨ bkids h b = blen h b + 1) → KidsOk h b → Shape h 2 (bjoin h a b z)
  | 0, a, b, z, h1, _, _, _, _ => by
    have h1 : List.length (α := S29) a + List.length (α := S29) b = 3 := h1
    have e : blen 0 (bjoin 0 a b z) = List.length (α := S29) a + List.length (α := S29) b := List.length_append
    exact ⟨by show 2 ≤ blen 0 (bjoin 0 a b z); rw [e]; omega, by show blen 0 (bjoin 0 a b z) ≤ 4; rw [e]; omega⟩
  | h + 1, a, b, z, h1, h2, h3, h4, h5 => by
    obtain ⟨ka, la⟩ := a
    obtain ⟨kb, lb⟩ := b
    have h1 : ka.length + kb.length = 3 := h1
    have h2 : la.length = ka.length + 1 := h2.resolve_left (by omega)
    have h3 : ∀ k ∈ la, Shape h 2 k := h3
    have h4 : lb.length = kb.length + 1 := h4.resolve_left (by omega)
    have h5 : ∀ k ∈ lb, Shape h 2 k := h5
    refine ⟨?_, ?_, ?_, fun k hk => (List.mem_append.1 hk).elim (h3 k) (h5 k)⟩
    · show 2 ≤ (ka ++ [z] ++ kb).length; simp; omega
    · show (ka ++ [z] ++ kb).length ≤ 4; simp; omega
    · show (la ++ lb).length = (ka ++ [z] ++ kb).length + 1; simp; omega
theorem delAt_take {α : Type} (l : List α) (i : Nat) (h : i ≤ l.length) : (delAt l i).take i = l.take i := by
  unfold delAt
  rw [List.take_append_of_le_length (by rw [List.length_take]; omega), List.take_take, Nat.min_self]
theorem delAt_drop {α : Type} (l : List α) (i : Nat) (h : i ≤ l.length) : (delAt l i).drop i = l.drop (i + 1) := by
  unfold delAt
  have hl : (l.take i).length = i := by rw [List.length_take]; omega
  rw [List.drop_append, List.drop_eq_nil_iff.2 (by omega), hl]
  simp
theorem set_at {α : Type} (l : List α) (i : Nat) (x : α) (h : i < l.length) : (l.set i x)[i]? = some x := by
  rw [List.getElem?_set_self h]
theorem set_take {α : Type} (l : List α) (i : Nat) (x : α) : (l.set i x).take i = l.take i := by
  rw [List.take_set_of_le (Nat.le_refl i)]
theorem set_drop {α : Type} (l : List α) (i : Nat) (x : α) : (l.set i x).drop (i + 1) = l.drop (i + 1) := by
  rw [List.drop_set_of_lt (Nat.lt_succ_self i)]
theorem getD_some {ks : List S29} {i : Nat} (hi : i < ks.length) : ks[i]? = some (ks.getD i z29) := by
  rw [List.getD_eq_getElem?_getD, List.getElem?_eq_getElem hi]
  rfl
theorem pair_moved {h : Nat} {ks : List S29} {X : List (BT h)} {l c : BT h} {Y : List (BT h)} {r : S29} {l' c' : BT h} (hi : X.length < ks.length) (hs : Srt (flat (h + 1) (ks, X ++ l :: c :: Y)))
    (k : Srt (flat h l ++ (ks.getD X.length z29, false) :: flat h c) → Sam (flat h l ++ (ks.getD X.length z29, false) :: flat h c) (flat h l' ++ (r, false) :: flat h c')) :
    Sam (flat (h + 1) (ks, X ++ l :: c :: Y)) (flat (h + 1) (ks.set X.length r, X ++ l' :: c' :: Y)) := by
  have e1 := (flat_pair h ks X l c Y _ (getD_some hi)).trans (List.append_assoc _ _ _)
  have e2 := flat_pair h (ks.set X.length r) X l' c' Y r (set_at _ _ _ hi)
  rw [set_take, set_drop] at e2
  have e2 := e2.trans (List.append_assoc _ _ _)
  rw [e1] at hs
  rw [e1, e2]
  exact Sam.ctx hs (k (srt_mid.1 hs).2.1)
theorem pair_joined {h : Nat} {ks : List S29} {X : List (BT h)} {l c : BT h} {Y : List (BT h)} {j : BT h} (hi : X.length < ks.length) (hs : Srt (flat (h + 1) (ks, X ++ l :: c :: Y)))
    (k : Srt (flat h l ++ (ks.getD X.length z29, false) :: flat h c) → Sam (flat h l ++ (ks.getD X.length z29, false) :: flat h c) (flat h j)) :
    Sam (flat (h + 1) (ks, X ++ l :: c :: Y)) (flat (h + 1) (delAt ks X.length, X ++ j :: Y)) := by
  have e1 := (flat_pair h ks X l c Y _ (getD_some hi)).trans (List.append_assoc _ _ _)
  have e2 := flat_cut h (delAt ks X.length) X j Y (by rw [delAt_len _ _ hi]; omega)
  rw [delAt_take _ _ (by omega), delAt_drop _ _ (by omega)] at e2
  rw [e1] at hs
  rw [e1, e2]
  exact Sam.ctx hs (k (srt_mid.1 hs).2.1)
theorem Shape.kids {h n : Nat} {t : BT h} (hs : Shape h n t) : h = 0 ∨ bkids h t = blen h t + 1 := by
  cases h with
  | zero => exact .inl rfl
  | succ h => exact .inr hs.2.2.1
theorem bmend_good (h : Nat) (ks : List S29) (A : List (BT h)) (c : BT h) (B : List (BT h)) (hl : A.length + B.length = ks.length) (h1 : 1 ≤ ks.length) (hA : ∀ k ∈ A, Shape h 2 k) (hB : ∀ k ∈ B, Shape h 2 k) (hc1 : 1 ≤ blen h c) (hc4 : blen h c ≤ 4) (hck : h = 0 ∨ bkids h c = blen h c + 1) (hcc : KidsOk h c)
    (hs : Srt (flat (h + 1) (ks, A ++ c :: B))) : Sam (flat (h + 1) (ks, A ++ c :: B)) (flat (h + 1) (bmend h ks A c B)) ∧ ∀ k ∈ (bmend h ks A c B).2, Shape h 2 k := by
  unfold bmend
  by_cases hc : 2 ≤ blen h c
  · rw [if_pos hc]
    refine ⟨Sam.refl hs, fun k hk => ?_⟩
    simp only [List.mem_append, List.mem_cons] at hk
    rcases hk with hk | rfl | hk
    · exact hA k hk
    · exact shape_of hc hc4 hck hcc
    · exact hB k hk
  · rw [if_neg hc]
    have hce : blen h c = 1 := by omega
    rcases List.eq_nil_or_concat A with rfl | ⟨X, l, hAl⟩
    · simp only [List.getLast?_nil]
      obtain ⟨r, B', rfl⟩ := cons_cases' B (by simp at hl; omega)
      have hsr := hB r (by simp)
      have hB' : ∀ k ∈ B', Shape h 2 k := fun k hk => hB k (by simp [hk])
      by_cases hr : 2 < blen h r
      · simp only [if_pos hr]
        obtain ⟨s1, s2⟩ := bright_shape h c r (ks.getD 0 z29) hce hck hcc hr hsr.le hsr.kids (kidsOk_of hsr)
        refine ⟨pair_moved (X := []) (by simp; omega) hs (bright_sam h c r _ hr hck hsr.kids), fun k hk => ?_⟩
        simp only [List.mem_cons] at hk
        rcases hk with rfl | rfl | hk
        · exact s1
        · exact s2
        · exact hB' k hk
      · simp only [if_neg hr]
        have s1 := bjoin_shape h c r (ks.getD 0 z29) (by have := hsr.ge; omega) hck hcc hsr.kids (kidsOk_of hsr)
        refine ⟨pair_joined (X := []) (by simp; omega) hs (bjoin_sam h c r _ hck hsr.kids), fun k hk => ?_⟩
        simp only [List.mem_cons] at hk
        rcases hk with rfl | hk
        · exact s1
        · exact hB' k hk
    · have hAl : A = X ++ [l] := by simpa using hAl
      subst hAl
      have hgl : (X ++ [l]).getLast? = some l := by simp
      have hdl : (X ++ [l]).dropLast = X := by simp
      have hll : (X ++ [l]).length = X.length + 1 := by simp
      have hXl : X ++ [l] ++ c :: B = X ++ l :: c :: B := by simp
      have e0 : X.length + 1 - 1 = X.length := by omega
      have hsl := hA l (by simp)
      have hX : ∀ k ∈ X, Shape h 2 k := fun k hk => hA k (by simp [hk])
      simp only [hgl, hll, hdl, e0]
      rw [hll] at hl
      by_cases hl2 : 2 < blen h l
      · simp only [if_pos hl2]
        obtain ⟨s1, s2⟩ := bleft_shape h l c (ks.getD X.length z29) hl2 hsl.le hsl.kids (kidsOk_of hsl) hce hck hcc
        rw [hXl] at hs ⊢
        refine ⟨pair_moved (by omega) hs (bleft_sam h l c _ hl2 hsl.kids hck), fun k hk => ?_⟩
        simp only [List.mem_append, List.mem_cons] at hk
        rcases hk with hk | rfl | rfl | hk
        · exact hX k hk
        · exact s1
        · exact s2
        · exact hB k hk
      · simp only [if_neg hl2]
        have sj := bjoin_shape h l c (ks.getD X.length z29) (by have := hsl.ge; omega) hsl.kids (kidsOk_of hsl) hck hcc
        cases B with
        | nil =>
          simp only
          rw [hXl] at hs ⊢
          refine ⟨pair_joined (by omega) hs (bjoin_sam h l c _ hsl.kids hck), fun k hk => ?_⟩
          simp only [List.mem_append, List.mem_cons, List.not_mem_nil, or_false] at hk
          rcases hk with hk | rfl
          · exact hX k hk
          · exact sj
        | cons r B' =>
          rw [List.length_cons] at hl
          have hsr := hB r (by simp)
          have hB' : ∀ k ∈ B', Shape h 2 k := fun k hk => hB k (by simp [hk])
          by_cases hr : 2 < blen h r
          · simp only [if_pos hr]
            obtain ⟨s1, s2⟩ := bright_shape h c r (ks.getD (X.length + 1) z29) hce hck hcc hr hsr.le hsr.kids (kidsOk_of hsr)
            refine ⟨?_, fun k hk => ?_⟩
            · have hpm := pair_moved (X := X ++ [l]) (l := c) (c := r) (Y := B') (r := (bright h c r (ks.getD (X.length + 1) z29)).1) (l' := (bright h c r (ks.getD (X.length + 1) z29)).2.1) (c' := (bright h c r (ks.getD (X.length + 1) z29)).2.2) (by rw [hll]; omega) hs
                (by rw [hll]; exact bright_sam h c r _ hr hck hsr.kids)
              rw [hll] at hpm
              exact hpm
            · simp only [List.mem_append, List.mem_cons, List.not_mem_nil, or_false] at hk
              rcases hk with (hk | rfl) | rfl | rfl | hk
              · exact hX k hk
              · exact hsl
              · exact s1
              · exact s2
              · exact hB' k hk
          · simp only [if_neg hr]
            rw [hXl] at hs ⊢
            refine ⟨pair_joined (by omega) hs (bjoin_sam h l c _ hsl.kids hck), fun k hk => ?_⟩
            simp only [List.mem_append, List.mem_cons] at hk
            rcases hk with hk | rfl | rfl | hk
            · exact hX k hk
            · exact sj
            · exact hsr
            · exact hB' k hk
theorem leaf_found (l : List S29) (e : S29) (hs : Sorted l) : found l e = true ↔ (e, true) ∈ ents l := by
  rw [ents_mem, ← found_mem l e hs]
theorem bcut_good : ∀ (h n : Nat) (t : BT h) (e : S29), Shape h n t → (h = 0 ∨ 1 ≤ n) → Srt (flat h t) → Deld e (flat h t) (flat h (bcut h t e).1) ∧ KidsOk h (bcut h t e).1 ∧ ((bcut h t e).2 = true ↔ (e, true) ∈ flat h t)
  | 0, n, t, e, hs, _, hr => by
    exact ⟨leaf_del t e (srt_keys hr), trivial, leaf_found t e (srt_keys hr)⟩
  | h + 1, n, t, e, hs, hn, hr => by
    have hcf := cutfit_of (h + 1) n t e hs hn hr
    obtain ⟨ks, ts⟩ := t
    obtain ⟨h1, h2, h3, h4⟩ := hs
    change n ≤ ks.length at h1
    change ks.length ≤ 4 at h2
    change ts.length = ks.length + 1 at h3
    change ∀ k ∈ ts, Shape h 2 k at h4
    obtain ⟨A, k, B, rfl, hA, hAB, hX, hY⟩ := at_kid e h3 hr
    have hrk := srt_kid h3 hr k (by simp)
    have hsk := h4 k (by simp)
    obtain ⟨g1, g2, g3⟩ := bcut_good h 2 k e hsk (.inr (by decide)) hrk
    have hx : bcut (h + 1) (ks, A ++ k :: B) e = _ := bcut_at h ks A k B e hA
    have hfl : flat (h + 1) (ks, A ++ k :: B) = _ := flat_cut h ks A k B (by omega)
    have hr2 := hr
    rw [hfl] at hr2
    have hdel := Deld.ctx hr2 hX hY g1
    have hfl2 : flat (h + 1) (ks, A ++ (bcut h k e).1 :: B) = _ := flat_cut h ks A (bcut h k e).1 B (by omega)
    have hbs := bcut_shape h k e (cutfit_of h 2 k e hsk (.inr (by decide)) hrk)
    have hm := bmend_good h ks A (bcut h k e).1 B hAB (by omega) (fun x hxm => h4 x (by simp [hxm])) (fun x hxm => h4 x (by simp [hxm])) (by have := hsk.ge; omega) (by have := hsk.le; omega) hbs.2.2 g2 (by rw [hfl2]; exact hdel.srt)
    rw [hx]
    refine ⟨?_, hm.2, ?_⟩
    · rw [hfl]
      exact hdel.then (by rw [← hfl2]; exact hm.1)
    · rw [hfl]
      simp only [List.mem_append, g3]
      exact ⟨fun hh => .inr (.inl hh), fun hh => hh.elim (fun h0 => absurd (hX _ h0) (ltI_irr _)) (fun hh => hh.elim id (fun h0 => absurd (hY _ h0) (ltI_irr _)))⟩
theorem leaf_cut_same (l : List S29) (e : S29) (h : found l e = false) : (if found l e = true then delAt l (low l e) else l) = l := by
  rw [if_neg (by rw [h]; simp)]
theorem bcut_same : ∀ (h n : Nat) (t : BT h) (e : S29), Shape h n t → Srt (flat h t) → (bcut h t e).2 = false → (bcut h t e).1 = t
  | 0, n, t, e, hs, hr, hf => leaf_cut_same t e hf
  | h + 1, n, t, e, hs, hr, hf => by
    obtain ⟨ks, ts⟩ := t
    obtain ⟨h1, h2, h3, h4⟩ := hs
    change ts.length = ks.length + 1 at h3
    change ∀ k ∈ ts, Shape h 2 k at h4
    obtain ⟨A, k, B, rfl, hA, hAB, hX, hY⟩ := at_kid e h3 hr
    have hx : bcut (h + 1) (ks, A ++ k :: B) e = _ := bcut_at h ks A k B e hA
    have hk : (bcut h k e).2 = false := by rw [hx] at hf; exact hf
    have ih := bcut_same h 2 k e (h4 k (by simp)) (srt_kid h3 hr k (by simp)) hk
    rw [hx, ih]
    show bmend h ks A k B = _
    unfold bmend
    rw [if_pos (h4 k (by simp)).ge]
theorem tcut_good (h : Nat) (t : BT h) (e : S29) (hi : TInv h t) : TInv (tcut h t e).1.1 (tcut h t e).1.2 ∧ Deld e (flat h t) (flat (tcut h t e).1.1 (tcut h t e).1.2) ∧ ((tcut h t e).2 = true ↔ (e, true) ∈ flat h t) := by
  obtain ⟨hs, hr⟩ := hi
  have hn : h = 0 ∨ 1 ≤ (if h = 0 then 0 else 1) := by cases h <;> simp
  obtain ⟨g1, g2, g3⟩ := bcut_good h _ t e hs hn hr
  have hbs := bcut_shape h t e (cutfit_of h _ t e hs hn hr)
  have hle := hs.le
  cases hb : (bcut h t e).2 with
  | false =>
    have hsame := bcut_same h _ t e hs hr hb
    have ht : tcut h t e = (⟨h, t⟩, false) := by
      unfold tcut
      rw [if_neg (by rw [hb]; simp), hsame]
    have hne : (e, true) ∉ flat h t := fun h0 => by have := g3.2 h0; rw [hb] at this; cases this
    rw [hsame] at g1
    rw [ht]
    exact ⟨⟨hs, hr⟩, g1, by simp [hne]⟩
  | true =>
    have hin : (e, true) ∈ flat h t := g3.1 hb
    cases h with
    | zero =>
      have ht : tcut 0 t e = (⟨0, (bcut 0 t e).1⟩, true) := by
        unfold tcut
        rw [if_pos hb]
      rw [ht]
      exact ⟨⟨shape_of (t := (bcut 0 t e).1) (Nat.zero_le _) (by omega) hbs.2.2 g2, g1.srt⟩, g1, by simp [hin]⟩
    | succ h =>
      obtain ⟨r, hx⟩ : ∃ r, (bcut (h + 1) t e).1 = r := ⟨_, rfl⟩
      obtain ⟨ks, ts⟩ := r
      rw [hx] at g1 g2 hbs
      have hk : ts.length = ks.length + 1 := hbs.2.2.resolve_left (by omega)
      cases ks with
      | nil =>
        obtain ⟨k, ts', rfl⟩ := cons_cases' ts (by rw [hk]; simp)
        have hts : ts' = [] := List.eq_nil_of_length_eq_zero (by simpa using hk)
        subst hts
        have ht : tcut (h + 1) t e = (⟨h, k⟩, true) := by
          unfold tcut
          rw [if_pos hb]
          simp only [hx]
        have hfk : flat (h + 1) ([], [k]) = flat h k := by simp [flat, il, lpost]
        rw [hfk] at g1
        have hsk : Shape h 2 k := g2 k (by simp)
        rw [ht]
        exact ⟨⟨hsk.mono (by split <;> omega), g1.srt⟩, g1, by simp [hin]⟩
      | cons x ks =>
        have ht : tcut (h + 1) t e = (⟨h + 1, (x :: ks, ts)⟩, true) := by
          unfold tcut
          rw [if_pos hb]
          simp only [hx]
        have hl4 : (x :: ks).length ≤ 4 := by have := hbs.2.1; exact Nat.le_trans this hle
        rw [ht]
        refine ⟨⟨⟨?_, hl4, hk, g2⟩, g1.srt⟩, g1, by simp [hin]⟩
        simp
end Go.Proofs.Bt
end
section
namespace Go.Proofs.Bt
open Go Go.RowKit Go.Proofs.Ytjaddmflopahiaa.Q Go.Proofs.YtjaddmflopahiaaW.PrintWords Go.Proofs.YtjaddmflopahiaaW.PrintLast Go.Proofs.YtjaddmflopahiaaW.PrintMore
set_option linter.unusedVariables false
set_option linter.unusedSimpArgs false
set_option maxRecDepth 100000
abbrev ST := Σ h, BT h
def tinsS (T : ST) (e : S29) : ST × Bool := tins T.1 T.2 e
def tcutS (T : ST) (e : S29) : ST × Bool := tcut T.1 T.2 e
def flatS (T : ST) : List It := flat T.1 T.2
def TInvS (T : ST) : Prop := TInv T.1 T.2
def TS (w0 : World) (F : Nat → Prop) (W : World) (tp : Nat) (T : ST) (cnt : Int) (R : List Chunk) : Prop := ∃ m : MT T.1, abs T.1 m = T.2 ∧ St w0 F W (treeT tp T.1 m cnt ++ R)
theorem TS.open {w0 W : World} {F : Nat → Prop} {tp h : Nat} {t : BT h} {cnt : Int} {R : List Chunk} (s : TS w0 F W tp ⟨h, t⟩ cnt R) : ∃ m : MT h, abs h m = t ∧ St w0 F W (treeT tp h m cnt ++ R) := s
section
variable {w0 W W' : World} {F : Nat → Prop} {tp : Nat} {T : ST} {cnt : Int} {R R' : List Chunk}
theorem TS.below (s : TS w0 F W tp T cnt R) (hb : Below W.heap.size W W') : TS w0 F W' tp T cnt R := by
  obtain ⟨m, h1, s⟩ := s
  exact ⟨m, h1, s.below hb⟩
theorem TS.rest (s : TS w0 F W tp T cnt R) : St w0 F W R := by
  obtain ⟨m, h1, s⟩ := s
  exact s.drop
theorem TS.keep (s : TS w0 F W tp T cnt R) : Keep w0 W F := by
  obtain ⟨m, h1, s⟩ := s
  exact s.keep
theorem TS.upd (s : TS w0 F W tp T cnt R) (k : ∀ X, St w0 F W (R ++ X) → St w0 F W' (R' ++ X)) : TS w0 F W' tp T cnt R' := by
  obtain ⟨m, h1, s⟩ := s
  exact ⟨m, h1, (k _ (s.perm List.perm_append_comm)).perm List.perm_append_comm⟩
end
theorem new_ts (w w0 : World) (F : Nat → Prop) (R : List Chunk) (s : St w0 F w R) : Calls Try.prog 10 #[] w fun E w' => ∃ tp, E = .returned (.pointer (some ⟨tp, 0, none⟩)) ∧ TS w0 F w' tp ⟨0, ([] : List S29)⟩ 0 R := by
  refine (new_calls w).mono ?_
  rintro E w' ⟨tp, m, rfl, ⟨h1, h2, h3⟩, h4, h5, h6⟩
  refine ⟨tp, rfl, m, h4, ?_⟩
  have s1 := s.fresh h5 (treeC 0 m) h2 (fun a => by have := h3 a; rw [List.count_cons] at this; exact (show (fp 0 m).count a ≤ 1 by omega)) (fun b hb => h6 b (List.mem_cons_of_mem _ hb))
  have hne : tp ∉ fp 0 m := fun hm => by
    have h1 := h3 tp
    have h2 := count_mem.1 hm
    rw [List.count_cons_self] at h1
    omega
  refine ⟨s1.keep, ?_, ?_, ?_⟩
  · intro c hc
    rcases List.mem_cons.1 (show c ∈ tatC tp (ptr 0 m) 0 :: (treeC 0 m :: R) from hc) with rfl | hc
    · exact h1
    · exact s1.h c hc
  · have e : fpc (treeT tp 0 m 0 ++ R) = [tp] ++ fpc (treeC 0 m :: R) := rfl
    rw [e]
    refine nd_app.2 ⟨nd_one tp, s1.nd, fun x hx hm => ?_⟩
    simp at hx
    subst hx
    rw [fpc_cons] at hm
    rcases List.mem_append.1 hm with hm | hm
    · exact hne hm
    · have := s.lt x hm
      have := h6 x (by simp)
      omega
  · intro b hb
    have hb : b ∈ [tp] ++ fpc (treeC 0 m :: R) := hb
    rcases List.mem_append.1 hb with hb | hb
    · simp at hb
      subst hb
      have := s.keep.size
      have := h6 b (by simp)
      exact .inr (by omega)
    · exact s1.own b hb
theorem insert_ts (W w0 : World) (F : Nat → Prop) (tp : Nat) (T : ST) (cnt : Int) (R : List Chunk) (e : S29) (s : TS w0 F W tp T cnt R) (hi : TInvS T) (hc0 : 0 ≤ cnt) (hc1 : cnt < 1000000) :
    Calls Try.prog 11 #[.pointer (some ⟨tp, 0, none⟩), entryV e] W fun E w' => E = .returned (.bool (tinsS T e).2) ∧ TS w0 F w' tp (tinsS T e).1 (if (tinsS T e).2 = true then cnt + 1 else cnt) R := by
  obtain ⟨h, t⟩ := T
  obtain ⟨m, hm, sX⟩ := TS.open s
  subst hm
  have s' : St w0 F W (treeT tp h m cnt ++ R) := sX
  have hT : TreeAt W tp (ptr h m) cnt := s'.tat 0 rfl
  have hok : Ok W h m := s'.tree 1 rfl
  have hsub := s'.sub
  have hfp : fpc (treeT tp h m cnt) = tp :: fp h m := by simp [fpc, treeT, tatC, treeC]
  have hnd : ND (tp :: fp h m) := by
    have := hsub.nd
    rw [hfp] at this
    exact this
  refine (tinsert_calls W tp h m cnt e ⟨hT, hok, hnd⟩ (fit_of h _ _ e hi.shape hi.srt) hc0 hc1).mono ?_
  rintro E w' ⟨h', m', rfl, ⟨g1, g2, g3⟩, g4, g5, g6⟩
  refine ⟨rfl, ?_⟩
  have hTS : TS w0 F w' tp ⟨h', abs h' m'⟩ (if (tins h (abs h m) e).2 = true then cnt + 1 else cnt) R := by
    refine ⟨m', rfl, s'.frame (B := treeT tp h' m' (if (tins h (abs h m) e).2 = true then cnt + 1 else cnt)) ?_ ?_ ?_ ?_⟩
    · rw [hfp]
      exact g5
    · intro c hc
      simp only [treeT, List.mem_cons, List.not_mem_nil, or_false] at hc
      rcases hc with rfl | rfl
      · exact g1
      · exact g2
    · have : fpc (treeT tp h' m' (if (tins h (abs h m) e).2 = true then cnt + 1 else cnt)) = tp :: fp h' m' := by simp [fpc, treeT, tatC, treeC]
      rw [this]
      exact g3
    · intro b hb
      have : fpc (treeT tp h' m' (if (tins h (abs h m) e).2 = true then cnt + 1 else cnt)) = tp :: fp h' m' := by simp [fpc, treeT, tatC, treeC]
      rw [this] at hb
      rw [hfp]
      rcases List.mem_cons.1 hb with rfl | hb
      · exact .inl List.mem_cons_self
      · exact (g6 b hb).imp (List.mem_cons_of_mem _) id
  have e1 : (tinsS ⟨h, abs h m⟩ e).1 = ⟨h', abs h' m'⟩ := g4.symm
  rw [e1]
  exact hTS
theorem delete_ts (W w0 : World) (F : Nat → Prop) (tp : Nat) (T : ST) (cnt : Int) (R : List Chunk) (e : S29) (s : TS w0 F W tp T cnt R) (hi : TInvS T) (hc0 : 0 ≤ cnt) (hc1 : cnt < 1000000) :
    Calls Try.prog 15 #[.pointer (some ⟨tp, 0, none⟩), entryV e] W fun E w' => E = .returned (.bool (tcutS T e).2) ∧ TS w0 F w' tp (tcutS T e).1 (if (tcutS T e).2 = true then cnt - 1 else cnt) R := by
  obtain ⟨h, t⟩ := T
  obtain ⟨m, hm, sX⟩ := TS.open s
  subst hm
  have s' : St w0 F W (treeT tp h m cnt ++ R) := sX
  refine (tdelete_calls W tp h m cnt e s'.sub (cutfit_of h _ _ e hi.shape (by cases h <;> simp) hi.srt) hc0 hc1).mono ?_
  rintro E w' ⟨h', m', rfl, g1, st⟩
  refine ⟨rfl, ?_⟩
  have e1 : (tcutS ⟨h, abs h m⟩ e).1 = ⟨h', abs h' m'⟩ := g1.symm
  rw [e1]
  exact ⟨m', rfl, s'.call st⟩
theorem count_ts (W w0 : World) (F : Nat → Prop) (tp : Nat) (T : ST) (cnt : Int) (R : List Chunk) (s : TS w0 F W tp T cnt R) : Calls Try.prog 13 #[.pointer (some ⟨tp, 0, none⟩)] W fun E w' => E = .returned (.int .i64 cnt) ∧ w' = W := by
  obtain ⟨m, hm, s⟩ := s
  exact count_calls W tp _ cnt (St.tat (cs := treeT tp T.1 m cnt ++ R) s 0 rfl)
theorem small_of : ∀ (h n : Nat) (t : BT h), Shape h n t → Small h t
  | 0, n, t, hs => by have := hs.2; exact (show List.length (α := S29) t < 900 by omega)
  | h + 1, n, t, hs => by
    obtain ⟨h1, h2, h3, h4⟩ := hs
    exact ⟨by omega, by omega, fun k hk => small_of h 2 k (h4 k hk)⟩
def pagesOf (T : ST) : List PgA := blay T.1 T.2 0
theorem pages_ts (W w0 : World) (F : Nat → Prop) (tp : Nat) (T : ST) (cnt : Int) (R : List Chunk) (s : TS w0 F W tp T cnt R) (hi : TInvS T) (hb : (pagesOf T).length < 100000) :
    Calls Try.prog 12 #[.pointer (some ⟨tp, 0, none⟩)] W fun E w' => ∃ (g n c : Nat) (l : List Pg), E = .returned (.slice (some ⟨g, 0, none⟩) n c) ∧ l.map Pg.a = pagesOf T ∧ TS w0 F w' tp T cnt (pagesC (.slice (some ⟨g, 0, none⟩) n c) l :: R) := by
  obtain ⟨h, t⟩ := T
  obtain ⟨m, hm, sX⟩ := TS.open s
  subst hm
  have s' : St w0 F W (treeT tp h m cnt ++ R) := sX
  refine (pages_calls W tp h m cnt _ s'.sub (small_of h _ _ hi.shape) hb).mono ?_
  rintro E w' ⟨g, n, c, l, rfl, hl, st⟩
  exact ⟨g, n, c, l, rfl, hl, m, rfl, s'.call st⟩
theorem TS.made {w0 W W' : World} {F : Nat → Prop} {tp : Nat} {T : ST} {cnt : Int} {R : List Chunk} {c : Chunk} (s : TS w0 F W tp T cnt R) (k : St W NoF W' [c]) : TS w0 F W' tp T cnt (c :: R) := by
  obtain ⟨m, hm, s⟩ := s
  have hb := keep_below k.keep
  have hc := k.h c (by simp)
  have hnd : ND c.bs := k.ndi 0 rfl
  have s2 := s.fresh hb c hc hnd (fun b hb => (k.own b (by simp [fpc, hb])).elim (fun h => h.elim) id)
  refine ⟨m, hm, s2.perm ?_⟩
  exact (List.perm_middle (a := c) (l₁ := treeT tp T.1 m cnt) (l₂ := R)).symm
def fromS (T : ST) (e : S29) : List S29 := bfrom T.1 T.2 e
theorem range_ts (W w0 : World) (F : Nat → Prop) (tp : Nat) (T : ST) (cnt : Int) (R : List Chunk) (frm hiK : ByteArray) (most : Int) (s : TS w0 F W tp T cnt R) (hi : TInvS T) (hb : (fromS T (lowS frm)).length < 90000) :
    Calls Try.prog 19 #[.pointer (some ⟨tp, 0, none⟩), .string frm, .string hiK, .int .i64 most] W fun E w' => ∃ v, E = .returned v ∧ TS w0 F w' tp T cnt (rowEC v (rng hiK most (fromS T (lowS frm)) 0) :: R) := by
  have s0 := s
  obtain ⟨h, t⟩ := T
  obtain ⟨m, hm, sX⟩ := TS.open s
  subst hm
  have s' : St w0 F W (treeT tp h m cnt ++ R) := sX
  refine (range_calls W tp h m cnt frm hiK most (s'.tat 0 rfl) (s'.tree 1 rfl) (fit_of h _ _ _ hi.shape hi.srt) hb).mono ?_
  rintro E w' ⟨v, rfl, st⟩
  exact ⟨v, rfl, s0.made st⟩
theorem all_ts (W w0 : World) (F : Nat → Prop) (tp : Nat) (T : ST) (cnt : Int) (R : List Chunk) (s : TS w0 F W tp T cnt R) (hi : TInvS T) (hb : (fromS T (lowS ⟨#[]⟩)).length < 90000) :
    Calls Try.prog 18 #[.pointer (some ⟨tp, 0, none⟩)] W fun E w' => ∃ v, E = .returned v ∧ TS w0 F w' tp T cnt (rowEC v (fromS T (lowS ⟨#[]⟩)) :: R) := by
  have s0 := s
  obtain ⟨h, t⟩ := T
  obtain ⟨m, hm, sX⟩ := TS.open s
  subst hm
  have s' : St w0 F W (treeT tp h m cnt ++ R) := sX
  refine (all_calls W tp h m cnt (s'.tat 0 rfl) (s'.tree 1 rfl) (fit_of h _ _ _ hi.shape hi.srt) hb).mono ?_
  rintro E w' ⟨v, rfl, st⟩
  exact ⟨v, rfl, s0.made st⟩
end Go.Proofs.Bt
end
section
namespace Go.Proofs.Bt
open Go Go.RowKit Go.Proofs.Ytjaddmflopahiaa.Q
set_option linter.unusedVariables false
set_option linter.unusedSimpArgs false
def ent (F : List It) : List S29 := F.filterMap fun i => if i.2 = true then some i.1 else none
theorem ent_app (a b : List It) : ent (a ++ b) = ent a ++ ent b := by simp [ent]
theorem ent_sep (z : S29) (F : List It) : ent ((z, false) :: F) = ent F := by simp [ent]
theorem ent_ents (l : List S29) : ent (ents l) = l := by
  induction l with
  | nil => rfl
  | cons x l ih =>
    show ent ((x, true) :: ents l) = x :: l
    simp only [ent, List.filterMap_cons]
    simp
    exact ih
theorem mem_ent (F : List It) (z : S29) : z ∈ ent F ↔ (z, true) ∈ F := by
  simp only [ent, List.mem_filterMap]
  constructor
  · rintro ⟨i, hi, h⟩
    split at h
    · rename_i h2
      simp at h
      rw [← h, ← h2]
      exact hi
    · cases h
  · intro h
    exact ⟨(z, true), h, by simp⟩
theorem ent_sorted {F : List It} (h : Srt F) : Sorted (ent F) := by
  unfold Sorted ent
  rw [List.pairwise_filterMap]
  refine h.imp fun {a b} hab x hx y hy => ?_
  split at hx
  · split at hy
    · rename_i h1 h2
      simp at hx hy
      subst hx
      subst hy
      rcases hab with hab | ⟨_, h3, _⟩
      · exact hab
      · rw [h1] at h3
        cases h3
    · cases hy
  · cases hx
theorem sorted_ext : ∀ {a b : List S29}, Sorted a → Sorted b → (∀ z, z ∈ a ↔ z ∈ b) → a = b
  | [], [], _, _, _ => rfl
  | [], y :: b, _, _, h => by have := (h y).2 (by simp); simp at this
  | x :: a, [], _, _, h => by have := (h x).1 (by simp); simp at this
  | x :: a, y :: b, ha, hb, h => by
    obtain ⟨a1, a2⟩ := List.pairwise_cons.1 ha
    obtain ⟨b1, b2⟩ := List.pairwise_cons.1 hb
    have hxy : x = y := by
      rcases List.mem_cons.1 ((h x).1 (by simp)) with h1 | h1
      · exact h1
      · rcases List.mem_cons.1 ((h y).2 (by simp)) with h2 | h2
        · exact h2.symm
        · exact absurd (ltE_trans (b1 x h1) (a1 y h2)) (ltE_irr _)
    subst hxy
    rw [sorted_ext a2 b2 fun z => ?_]
    constructor
    · intro hz
      rcases List.mem_cons.1 ((h z).1 (List.mem_cons_of_mem _ hz)) with h1 | h1
      · subst h1
        exact absurd (a1 z hz) (ltE_irr _)
      · exact h1
    · intro hz
      rcases List.mem_cons.1 ((h z).2 (List.mem_cons_of_mem _ hz)) with h1 | h1
      · subst h1
        exact absurd (b1 z hz) (ltE_irr _)
      · exact h1
def sins (l : List S29) (e : S29) : List S29 := if found l e = true then l else insAt l (low l e) e
def sdel (l : List S29) (e : S29) : List S29 := if found l e = true then delAt l (low l e) else l
theorem ent_ins {e : S29} {F F' : List It} (hs : Srt F) (k : Insd e F F') : ent F' = sins (ent F) e := by
  have hso := ent_sorted hs
  have hl := (leaf_ins (ent F) e hso).1
  refine sorted_ext (ent_sorted k.srt) (srt_keys hl.srt) fun z => ?_
  rw [mem_ent, k.mem, ← mem_ent]
  have := hl.mem z
  rw [ents_mem, ents_mem] at this
  exact this.symm
theorem ent_del {e : S29} {F F' : List It} (hs : Srt F) (k : Deld e F F') : ent F' = sdel (ent F) e := by
  have hso := ent_sorted hs
  have hl := leaf_del (ent F) e hso
  refine sorted_ext (ent_sorted k.srt) (srt_keys hl.srt) fun z => ?_
  rw [mem_ent, k.mem, ← mem_ent]
  have := hl.mem z
  rw [ents_mem, ents_mem] at this
  exact this.symm
def entS (T : ST) : List S29 := ent (flatS T)
theorem entS_sorted {T : ST} (h : TInvS T) : Sorted (entS T) := ent_sorted h.srt
theorem tins_ent {T : ST} (e : S29) (h : TInvS T) : TInvS (tinsS T e).1 ∧ entS (tinsS T e).1 = sins (entS T) e ∧ ((tinsS T e).2 = true ↔ e ∉ entS T) := by
  obtain ⟨h1, h2, h3⟩ := tins_good T.1 T.2 e h
  refine ⟨h1, ent_ins h.srt h2, ?_⟩
  have : e ∈ entS T ↔ (e, true) ∈ flatS T := mem_ent _ _
  rw [this]
  exact h3
theorem tcut_ent {T : ST} (e : S29) (h : TInvS T) : TInvS (tcutS T e).1 ∧ entS (tcutS T e).1 = sdel (entS T) e ∧ ((tcutS T e).2 = true ↔ e ∈ entS T) := by
  obtain ⟨h1, h2, h3⟩ := tcut_good T.1 T.2 e h
  refine ⟨h1, ent_del h.srt h2, ?_⟩
  have : e ∈ entS T ↔ (e, true) ∈ flatS T := mem_ent _ _
  rw [this]
  exact h3
theorem sins_len (l : List S29) (e : S29) (hs : Sorted l) (b : Bool) (hb : b = true ↔ e ∉ l) : ((sins l e).length : Int) = if b = true then (l.length : Int) + 1 else l.length := by
  have := found_mem l e hs
  unfold sins
  by_cases he : e ∈ l
  · rw [if_pos (this.2 he), if_neg (fun h => hb.1 h he)]
  · rw [if_neg (fun h => he (this.1 h)), if_pos (hb.2 he), insAt_len _ _ _ (low_le l e)]
    omega
theorem sdel_len (l : List S29) (e : S29) (hs : Sorted l) (b : Bool) (hb : b = true ↔ e ∈ l) : ((sdel l e).length : Int) = if b = true then (l.length : Int) - 1 else l.length := by
  have := found_mem l e hs
  unfold sdel
  by_cases he : e ∈ l
  · have hl := found_lt (this.2 he)
    rw [if_pos (this.2 he), if_pos (hb.2 he), delAt_len _ _ hl]
    omega
  · rw [if_neg (fun h => he (this.1 h)), if_neg (fun h => he (hb.1 h))]
theorem tins_count {T : ST} (e : S29) (h : TInvS T) {cnt : Int} (hc : cnt = (entS T).length) : (if (tinsS T e).2 = true then cnt + 1 else cnt) = ((entS (tinsS T e).1).length : Int) := by
  obtain ⟨_, h2, h3⟩ := tins_ent e h
  rw [h2, sins_len _ e (entS_sorted h) _ h3, hc]
theorem tcut_count {T : ST} (e : S29) (h : TInvS T) {cnt : Int} (hc : cnt = (entS T).length) : (if (tcutS T e).2 = true then cnt - 1 else cnt) = ((entS (tcutS T e).1).length : Int) := by
  obtain ⟨_, h2, h3⟩ := tcut_ent e h
  rw [h2, sdel_len _ e (entS_sorted h) _ h3, hc]
end Go.Proofs.Bt
end
section
namespace Go.Proofs.Ytjaddmflopahiaa.Q
open Go.RowKit Go.Proofs.YtjaddmflopahiaaW.PrintWords Go.Proofs.YtjaddmflopahiaaW.PrintLast Go.Proofs.YtjaddmflopahiaaW.PrintMore
attribute [local go_sem] max2_int min2_int max_two min_two max_three min_three max_four min_four
set_option linter.unusedVariables false
set_option linter.unusedSimpArgs false
def Rd {α : Type} (P : Program) (d : Kd α) (t : TypeId) (wf : α → Prop) : Prop :=
  ∀ {H : Type} (enc : TypeId × Value → H) (w : World) (base : Nat) (spare : Nat → Bool) (held : Bool) (fuel : Nat) (cs : List Value) (x : DataW H × List MemPlace),
    DataW.trod enc P w base spare held fuel t cs = some x → ∃ a, d.K w a cs ∧ wf a
theorem Rd.int {P : Program} {t : TypeId} {k : IntKind} (ht : P.underlying t = some (.int k)) : Rd P (Kd.int k) t (fun n => (Lit.int k n).wf = true) := by
  intro H enc w base spare held fuel cs x h
  obtain ⟨n, rfl, _, hw⟩ := DataW.trod_int ht h
  exact ⟨n, rfl, hw⟩
theorem Rd.bool {P : Program} {t : TypeId} (ht : P.underlying t = some .bool) : Rd P Kd.bool t (fun _ => True) := by
  intro H enc w base spare held fuel cs x h
  obtain ⟨n, rfl, _⟩ := DataW.trod_bool ht h
  exact ⟨n, rfl, trivial⟩
theorem Rd.string {P : Program} {t : TypeId} (ht : P.underlying t = some .string) : Rd P Kd.string t (fun s => s.size ≤ maxLen) := by
  intro H enc w base spare held fuel cs x h
  obtain ⟨n, rfl, _, hs⟩ := DataW.trod_string ht h
  exact ⟨n, rfl, hs⟩
theorem Rd.slice {α : Type} {P : Program} {d : Kd α} {t e : TypeId} {wf : α → Prop} (ht : P.underlying t = some (.slice e)) (hc : P.cellsOf e = d.sz) (hd : Rd P d e wf) :
    Rd P (Kd.slice e d) t (fun l => l.length ≤ maxLen ∧ ∀ a ∈ l, wf a) := by
  intro H enc w base spare held fuel cs x h
  rcases Go.Deep.open_slice ht h with ⟨rfl, _⟩ | ⟨a, len, cap, m, n, D, Pl, rfl, _, hl, hm, hmm, _, hi⟩
  · exact ⟨[], ⟨none, 0, rfl, Nat.le_refl _, rfl, Nat.zero_le _, fun h => absurd h (Nat.lt_irrefl _)⟩, Nat.zero_le _, fun _ h => by cases h⟩
  · have hlm : len ≤ m := by rw [hmm]; split <;> omega
    have hex : ∀ i, i < len → ∃ v, wf v ∧ ∃ c, c.length = d.sz ∧ d.K w v c ∧ ∀ j u, c[j]? = some u → w.cell? (a.add (i * d.sz + j)) = some u := by
      intro i hilt
      obtain ⟨cs', hcs, ht'⟩ := hi i (by omega)
      obtain ⟨v, hK, hw⟩ := hd enc w base spare held n cs' _ ht'
      rw [hc] at hcs
      obtain ⟨_, hlen, hat⟩ := World.cells?_some hcs
      refine ⟨v, hw, cs', hlen, hK, fun j u hj => ?_⟩
      have hjl : j < d.sz := by rw [← hlen]; exact (List.getElem?_eq_some_iff.1 hj).1
      have := hat j hjl
      rw [Go.Deep.add_add] at this
      rw [this, hj]
    have hex' : ∀ i : Fin len, ∃ v, wf v ∧ ∃ c, c.length = d.sz ∧ d.K w v c ∧ ∀ j u, c[j]? = some u → w.cell? (a.add (i.val * d.sz + j)) = some u := fun i => hex i.val i.isLt
    have hch : ∃ g : Fin len → α, ∀ i : Fin len, wf (g i) ∧ ∃ c, c.length = d.sz ∧ d.K w (g i) c ∧ ∀ j u, c[j]? = some u → w.cell? (a.add (i.val * d.sz + j)) = some u := ⟨fun i => Classical.choose (hex' i), fun i => Classical.choose_spec (hex' i)⟩
    obtain ⟨g, hg⟩ := hch
    have hlen : (List.ofFn g).length = len := List.length_ofFn
    refine ⟨List.ofFn g, ⟨some a, cap, by rw [hlen], by rw [hlen]; exact hl, rfl, by rw [hlen]; simp only [maxLen] at hm; omega, fun _ => ⟨a, rfl, fun j p hp => ?_⟩⟩, by rw [hlen]; omega, fun v hv => ?_⟩
    · obtain ⟨hj, he⟩ := List.getElem?_eq_some_iff.1 hp
      rw [List.getElem_ofFn] at he
      subst he
      exact (hg ⟨j, by omega⟩).2
    · obtain ⟨i, rfl⟩ := List.mem_ofFn.1 hv
      exact (hg i).1
theorem Rd.arg_slice {α : Type} {P : Program} {d : Kd α} {t e : TypeId} {wf : α → Prop} (hd : Rd P (Kd.slice e d) t (fun l => l.length ≤ maxLen ∧ ∀ a ∈ l, wf a)) {H : Type} {enc : TypeId × Value → H} {w : World} {base : Nat} {spare : Nat → Bool} {held : Bool} {A : Option Addr} {n c : Nat} {x : DataW H} {p : List MemPlace}
    (h : DataW.Trod enc P w base spare held t (.slice A n c) x p) : ∃ l : List α, l.length = n ∧ d.C w A l.length l ∧ l.length ≤ c ∧ l.length ≤ maxLen ∧ ∀ a ∈ l, wf a := by
  obtain ⟨fuel, hf⟩ := h
  obtain ⟨l, ⟨A', c', he, hl, hC⟩, hm, hw⟩ := hd enc w base spare held fuel _ _ hf
  have he' : [Value.slice A n c] = [.slice A' l.length c'] := he
  injection he' with he' _
  injection he' with h1 h2 h3
  subst h1; subst h3
  exact ⟨l, h2.symm, hC, hl, hm, hw⟩
theorem some_of_len {α : Type} {xs : List α} {n j : Nat} (h : xs.length = n) (hj : j < n) : ∃ y, xs[j]? = some y := ⟨_, List.getElem?_eq_getElem (by omega)⟩
def wf27 (v : S27) : Prop := (fun n => (Lit.int .i64 n).wf = true) v.f0 ∧ (fun n => (Lit.int .i64 n).wf = true) v.f1
theorem rd27 : Rd Try.prog k27 27 wf27 := by
  intro H enc w base spare held fuel cs x h
  obtain ⟨xs, n, _, _, hlen, hl, hf⟩ := DataW.trod_struct Try.underlying27 h
  rw [show Try.prog.cellsOf 27 = 2 by kernel_rfl] at hlen
  obtain ⟨c0, c1, rfl⟩ : ∃ c0 c1, cs = [c0, c1] := by
    match cs, hlen with
    | [c0, c1], _ => exact ⟨c0, c1, rfl⟩
  obtain ⟨y0, hy0⟩ := some_of_len hl (j := 0) (by decide)
  have g0 : DataW.trod enc Try.prog w base spare held n 3 ((([c0, c1] : List Value).drop 0).take (Try.prog.cellsOf 3)) = some y0 := (hf 0 _ rfl).trans hy0
  rw [show Try.prog.cellsOf 3 = 1 by kernel_rfl] at g0
  obtain ⟨a0, K0, w0⟩ := (Rd.int Try.underlying3) enc w base spare held n _ _ g0
  obtain ⟨y1, hy1⟩ := some_of_len hl (j := 1) (by decide)
  have g1 : DataW.trod enc Try.prog w base spare held n 3 ((([c0, c1] : List Value).drop 1).take (Try.prog.cellsOf 3)) = some y1 := (hf 1 _ rfl).trans hy1
  rw [show Try.prog.cellsOf 3 = 1 by kernel_rfl] at g1
  obtain ⟨a1, K1, w1⟩ := (Rd.int Try.underlying3) enc w base spare held n _ _ g1
  exact ⟨⟨a0, a1⟩, ⟨[c0], [c1], rfl, K0, K1⟩, ⟨w0, w1⟩⟩
def wf29 (v : S29) : Prop := (fun s => s.size ≤ maxLen) v.f0 ∧ wf27 v.f1
theorem rd29 : Rd Try.prog k29 29 wf29 := by
  intro H enc w base spare held fuel cs x h
  obtain ⟨xs, n, _, _, hlen, hl, hf⟩ := DataW.trod_struct Try.underlying29 h
  rw [show Try.prog.cellsOf 29 = 3 by kernel_rfl] at hlen
  obtain ⟨c0, c1, c2, rfl⟩ : ∃ c0 c1 c2, cs = [c0, c1, c2] := by
    match cs, hlen with
    | [c0, c1, c2], _ => exact ⟨c0, c1, c2, rfl⟩
  obtain ⟨y0, hy0⟩ := some_of_len hl (j := 0) (by decide)
  have g0 : DataW.trod enc Try.prog w base spare held n 9 ((([c0, c1, c2] : List Value).drop 0).take (Try.prog.cellsOf 9)) = some y0 := (hf 0 _ rfl).trans hy0
  rw [show Try.prog.cellsOf 9 = 1 by kernel_rfl] at g0
  obtain ⟨a0, K0, w0⟩ := (Rd.string Try.underlying9) enc w base spare held n _ _ g0
  obtain ⟨y1, hy1⟩ := some_of_len hl (j := 1) (by decide)
  have g1 : DataW.trod enc Try.prog w base spare held n 27 ((([c0, c1, c2] : List Value).drop 1).take (Try.prog.cellsOf 27)) = some y1 := (hf 1 _ rfl).trans hy1
  rw [show Try.prog.cellsOf 27 = 2 by kernel_rfl] at g1
  obtain ⟨a1, K1, w1⟩ := rd27 enc w base spare held n _ _ g1
  exact ⟨⟨a0, a1⟩, ⟨[c0], [c1, c2], rfl, K0, K1⟩, ⟨w0, w1⟩⟩
end Go.Proofs.Ytjaddmflopahiaa.Q
end
section
namespace Go.Proofs.Bt
open Go Go.RowKit Go.Proofs.Ytjaddmflopahiaa.Q
set_option linter.unusedVariables false
set_option linter.unusedSimpArgs false
def geB (e x : S29) : Bool := !(decide (ltE x e))
theorem lpost_ents : ∀ (ks : List S29) (B : List (List It)), B.length ≤ ks.length → ent (lpost ks B) = B.flatMap ent
  | ks, [], _ => by simp [lpost_nil, ent]
  | k :: ks, b :: B, h => by
    rw [lpost_cons, ent_sep, ent_app, lpost_ents ks B (by simpa using h), List.flatMap_cons]
  | [], b :: B, h => by simp at h
theorem filter_none {α : Type} {p : α → Bool} {l : List α} (h : ∀ x ∈ l, p x = false) : l.filter p = [] := by
  rw [List.filter_eq_nil_iff]
  intro x hx
  rw [h x hx]
  simp
theorem filter_whole {α : Type} {p : α → Bool} {l : List α} (h : ∀ x ∈ l, p x = true) : l.filter p = l := List.filter_eq_self.2 h
theorem drop_low (ks : List S29) (e : S29) (hs : Sorted ks) : ks.drop (low ks e) = ks.filter (geB e) := by
  obtain ⟨h1, h2⟩ := low_parts ks e hs
  conv => rhs; rw [← List.take_append_drop (low ks e) ks, List.filter_append]
  rw [filter_none (fun x hx => by simp [geB, h1 x hx]), filter_whole (fun x hx => by simp [geB, h2 x hx]), List.nil_append]
theorem flatMap_filter {α β : Type} (p : β → Bool) (f : α → List β) : ∀ (l : List α), (l.flatMap f).filter p = l.flatMap fun a => (f a).filter p
  | [] => rfl
  | a :: l => by rw [List.flatMap_cons, List.flatMap_cons, List.filter_append, flatMap_filter p f l]
theorem flatMap_congr {α β : Type} {f g : α → List β} : ∀ {l : List α}, (∀ x ∈ l, f x = g x) → l.flatMap f = l.flatMap g
  | [], _ => rfl
  | a :: l, h => by rw [List.flatMap_cons, List.flatMap_cons, h a (by simp), flatMap_congr fun x hx => h x (by simp [hx])]
theorem flatMap_map {α β γ : Type} (f : α → β) (g : β → List γ) : ∀ (l : List α), (l.map f).flatMap g = l.flatMap fun a => g (f a)
  | [] => rfl
  | a :: l => by rw [List.map_cons, List.flatMap_cons, List.flatMap_cons, flatMap_map f g l]
theorem leaf_from (ks : List S29) (e : S29) (hr : Srt (ents ks)) : ks.drop (low ks e) = (ent (ents ks)).filter (geB e) := by
  rw [ent_ents]
  exact drop_low ks e (srt_keys hr)
theorem bfrom_ent : ∀ (h n : Nat) (t : BT h) (e : S29), Shape h n t → Srt (flat h t) → bfrom h t e = (ent (flat h t)).filter (geB e)
  | 0, n, t, e, hs, hr => leaf_from t e hr
  | h + 1, n, t, e, hs, hr => by
    obtain ⟨ks, ts⟩ := t
    obtain ⟨h1, h2, h3, h4⟩ := hs
    change ts.length = ks.length + 1 at h3
    change ∀ k ∈ ts, Shape h 2 k at h4
    obtain ⟨A, k, B, rfl, hA, hAB, hX, hY⟩ := at_kid e h3 hr
    have hk := bfrom_ent h 2 k e (h4 k (by simp)) (srt_kid h3 hr k (by simp))
    have hB : B.flatMap (fun k => bfrom h k e) = B.flatMap (fun k => (ent (flat h k)).filter (geB e)) := flatMap_congr fun x hx => bfrom_ent h 2 x e (h4 x (by simp [hx])) (srt_kid h3 hr x (by simp [hx]))
    show ((A ++ k :: B).drop (kidIx ks e)).flatMap (fun k => bfrom h k e) = _
    rw [← hA, List.drop_left, List.flatMap_cons, hk, hB, flat_cut h ks A k B (by omega), ent_app, ent_app, lpost_ents _ _ (by rw [List.length_map, List.length_drop]; omega), List.filter_append, List.filter_append, flatMap_filter, flatMap_map,
      filter_none (l := ent (lpre (ks.take A.length) (A.map (flat h)))) (fun x hx => ?_), List.nil_append]
    rw [mem_ent] at hx
    rcases hX _ hx with hlt | ⟨_, h5, _⟩
    · simp [geB, show ltE x e from hlt]
    · cases h5
theorem from_ent (T : ST) (e : S29) (hi : TInvS T) : fromS T e = (entS T).filter (geB e) := bfrom_ent T.1 _ T.2 e hi.shape hi.srt
def Far (x : S29) : Prop := -9223372036854775808 ≤ x.f1.f0 ∧ -9223372036854775808 ≤ x.f1.f1
theorem low_far (x : S29) (s : ByteArray) (h : Far x) : geB (lowS s) x = !(keyLt x.f0 s) := by
  unfold geB keyLt
  congr 1
  cases hb : Op.bytesLess x.f0.toList s.toList
  · refine decide_eq_false fun hl => ?_
    rcases (ltE_iff _ _).1 hl with h1 | ⟨_, h1 | ⟨_, h1⟩⟩
    · rw [show Op.bytesLess x.f0.toList (lowS s).f0.toList = false from hb] at h1
      cases h1
    · have := h.1
      simp only [lowS] at h1
      omega
    · have := h.2
      simp only [lowS] at h1
      omega
  · exact decide_eq_true ((ltE_iff _ _).2 (.inl hb))
theorem keyLt_none (k : ByteArray) : keyLt k ⟨#[]⟩ = false := by
  have h : (⟨#[]⟩ : ByteArray).toList = [] := by
    unfold ByteArray.toList
    unfold ByteArray.toList.loop
    rfl
  unfold keyLt
  rw [h]
  cases k.toList <;> rfl
theorem all_ent (T : ST) (hi : TInvS T) (hf : ∀ x ∈ entS T, Far x) : fromS T (lowS ⟨#[]⟩) = entS T := by
  rw [from_ent T _ hi, filter_whole]
  intro x hx
  rw [low_far x _ (hf x hx), keyLt_none]
  rfl
theorem far_of {x : S29} (h : wf29 x) : Far x := by
  obtain ⟨_, h1, h2⟩ := h
  have hm : IntKind.min .i64 = -9223372036854775808 := by rfl
  have a1 : (decide (IntKind.min .i64 ≤ x.f1.f0) && decide (x.f1.f0 ≤ IntKind.max .i64)) = true := h1
  have a2 : (decide (IntKind.min .i64 ≤ x.f1.f1) && decide (x.f1.f1 ≤ IntKind.max .i64)) = true := h2
  rw [Bool.and_eq_true, decide_eq_true_eq, hm] at a1 a2
  exact ⟨a1.1, a2.1⟩
end Go.Proofs.Bt
end
section
namespace Go.Proofs.Ytjaddmflopahiaa.Q
open Go.RowKit Go.Proofs.YtjaddmflopahiaaW.PrintWords Go.Proofs.YtjaddmflopahiaaW.PrintLast Go.Proofs.YtjaddmflopahiaaW.PrintMore
attribute [local go_sem] max2_int min2_int max_two min_two max_three min_three max_four min_four
set_option linter.unusedVariables false
set_option linter.unusedSimpArgs false
def interlockref04_cmp.f (a0 : Int) (a1 : Int) : Option (Int) := if a0 < a1 then (some (-1)) else (if a0 > a1 then (some 1) else (some 0))
set_option maxHeartbeats 8000000 in
set_option maxRecDepth 100000 in
theorem interlockref04_cmp.calls (a0 : Int) (a1 : Int) (r : Int) (w : World) (h : interlockref04_cmp.f a0 a1 = some r) :
    Calls Try.prog 54 #[.int .i64 a0, .int .i64 a1] w fun e w' => e = .returned (.int .i64 r) ∧ Drawn0 w w' := by
  have H : (if a0 < a1 then (some (-1)) else (if a0 > a1 then (some 1) else (some 0))) = some r := h
  clear h
  by_cases c3 : a0 < a1
  · rw [if_pos c3] at H
    have c3b0 : decide (a0 < a1) = true := decide_eq_true c3
    clear c3
    obtain rfl := Option.some.inj H
    go_enter Try.func54, Try.ntmps54
    go_wp2
    go_ret
    exact ⟨by first | rfl | (simp; done) | (simp [*]; done), by repeat (first | exact Drawn0.refl _ | apply Drawn0.step)⟩
  · rw [if_neg c3] at H
    have c3b0 : decide (a0 < a1) = false := decide_eq_false c3
    clear c3
    by_cases c4 : a0 > a1
    · rw [if_pos c4] at H
      have c4b0 : decide (a1 < a0) = true := decide_eq_true c4
      clear c4
      obtain rfl := Option.some.inj H
      go_enter Try.func54, Try.ntmps54
      go_wp2
      go_ret
      exact ⟨by first | rfl | (simp; done) | (simp [*]; done), by repeat (first | exact Drawn0.refl _ | apply Drawn0.step)⟩
    · rw [if_neg c4] at H
      have c4b0 : decide (a1 < a0) = false := decide_eq_false c4
      clear c4
      obtain rfl := Option.some.inj H
      go_enter Try.func54, Try.ntmps54
      go_wp2
      go_ret
      exact ⟨by first | rfl | (simp; done) | (simp [*]; done), by repeat (first | exact Drawn0.refl _ | apply Drawn0.step)⟩
end Go.Proofs.Ytjaddmflopahiaa.Q
end
section
namespace Go.Proofs.Ytjaddmflopahiaa.Q
open Go.RowKit Go.Proofs.YtjaddmflopahiaaW.PrintWords Go.Proofs.YtjaddmflopahiaaW.PrintLast Go.Proofs.YtjaddmflopahiaaW.PrintMore
attribute [local go_sem] max2_int min2_int max_two min_two max_three min_three max_four min_four
set_option linter.unusedVariables false
set_option linter.unusedSimpArgs false
mutual
def interlockref04_Texts.l0 : Nat → ByteArray → ByteArray → Int → Option (Int)
  | 0, _, _, _ => none
  | k + 1, x0, x1, x5 => if x5 < (x0.size : Int) then (interlockref04_Texts.j1 k x0 x1 x5 (decide (x5 < (x1.size : Int)))) else (interlockref04_Texts.j1 k x0 x1 x5 false)
def interlockref04_Texts.j1 : Nat → ByteArray → ByteArray → Int → Bool → Option (Int)
  | 0, _, _, _, _ => none
  | k + 1, x0, x1, x5, x15 => if x15 = true then (if 0 ≤ x5 then (if x5 < (x0.size : Int) then (if x5 < (x1.size : Int) then (if (bt x0 x5) = (bt x1 x5) then (interlockref04_Texts.l0 k x0 x1 (wrap64 (x5 + 1))) else ((interlockref04_cmp.f (wrap64 (bt x0 x5)) (wrap64 (bt x1 x5))).bind fun t131 => (some t131))) else (none)) else (none)) else (none)) else ((interlockref04_cmp.f (x0.size : Int) (x1.size : Int)).bind fun t132 => (some t132))
end
def interlockref04_Texts.f (k : Nat) (a0 : ByteArray) (a1 : ByteArray) : Option (Int) := interlockref04_Texts.l0 k a0 a1 0
theorem interlockref04_Texts.mono_l : ∀ k, (∀ y0 y1 y2, LeO (interlockref04_Texts.l0 k y0 y1 y2) (interlockref04_Texts.l0 (k + 1) y0 y1 y2)) ∧ (∀ y0 y1 y2 y3, LeO (interlockref04_Texts.j1 k y0 y1 y2 y3) (interlockref04_Texts.j1 (k + 1) y0 y1 y2 y3))
  | 0 => ⟨fun _ _ _ r h => by simp [interlockref04_Texts.l0] at h, fun _ _ _ _ r h => by simp [interlockref04_Texts.j1] at h⟩
  | k + 1 => by
    obtain ⟨ih0, ih1⟩ := interlockref04_Texts.mono_l k
    refine ⟨?_, ?_⟩
    · intro y0 y1 y2
      unfold interlockref04_Texts.l0
      repeat' first
      | (with_reducible exact ih0 _ _ _)
      | (with_reducible exact ih1 _ _ _ _)
      | (with_reducible exact LeO.refl _)
      | (with_reducible exact LeO.none _)
      | (with_reducible refine LeO.ite ?_ ?_)
      | (with_reducible refine LeO.bind ?_ (fun _ => ?_))
      | exact ih0 _ _ _
      | exact ih1 _ _ _ _
      | exact LeO.none _
      | refine LeO.ite ?_ ?_
      | refine LeO.bind ?_ (fun _ => ?_)
    · intro y0 y1 y2 y3
      unfold interlockref04_Texts.j1
      repeat' first
      | (with_reducible exact ih0 _ _ _)
      | (with_reducible exact ih1 _ _ _ _)
      | (with_reducible exact LeO.refl _)
      | (with_reducible exact LeO.none _)
      | (with_reducible refine LeO.ite ?_ ?_)
      | (with_reducible refine LeO.bind ?_ (fun _ => ?_))
      | exact ih0 _ _ _
      | exact ih1 _ _ _ _
      | exact LeO.none _
      | refine LeO.ite ?_ ?_
      | refine LeO.bind ?_ (fun _ => ?_)
theorem interlockref04_Texts.mono : ∀ a0 a1 k, LeO (interlockref04_Texts.f k a0 a1) (interlockref04_Texts.f (k + 1) a0 a1) := by
  intro a0 a1 k
  obtain ⟨ih0, ih1⟩ := interlockref04_Texts.mono_l k
  unfold interlockref04_Texts.f
  repeat' first
      | (with_reducible exact ih0 _ _ _)
      | (with_reducible exact ih1 _ _ _ _)
      | (with_reducible exact LeO.refl _)
      | (with_reducible exact LeO.none _)
      | (with_reducible refine LeO.ite ?_ ?_)
      | (with_reducible refine LeO.bind ?_ (fun _ => ?_))
      | exact ih0 _ _ _
      | exact ih1 _ _ _ _
      | exact LeO.none _
      | refine LeO.ite ?_ ?_
      | refine LeO.bind ?_ (fun _ => ?_)
set_option maxHeartbeats 8000000 in
set_option maxRecDepth 100000 in
theorem interlockref04_Texts.calls (k : Nat) (a0 : ByteArray) (a1 : ByteArray) (r : Int) (w : World) (h : interlockref04_Texts.f k a0 a1 = some r) :
    Calls Try.prog 34 #[.string a0, .string a1] w fun e w' => e = .returned (.int .i64 r) ∧ Drawn0 w w' := by
  have H : (interlockref04_Texts.l0 k a0 a1 0) = some r := h
  clear h
  have H' := Aside0.mk H
  clear H
  go_enter Try.func34, Try.ntmps34
  go_wp2
  repeat (go_quiet (fail); try go_wp2)
  go_loopg [5] k (fun kq v5 w' => ∃ (x5_1 : Int), v5 = .int .i64 x5_1 ∧ Aside0 (interlockref04_Texts.l0 kq a0 a1 x5_1 = some r) ∧ Aside0 (kq ≤ k) ∧ Drawn0 w w')
  case atStart => exact ⟨(0), (by first | rfl | (simp; done) | (simp [*]; done)), H', ⟨Nat.le_refl _⟩, by repeat (first | exact Drawn0.refl _ | apply Drawn0.step)⟩
  case round =>
    clear H'
    try clear p2
    obtain ⟨x5_1, rfl, HA, HK1, ⟨m1, rfl⟩⟩ := hrel
    cases gk with
    | zero => exact absurd HA.out (by simp [interlockref04_Texts.l0])
    | succ k1 =>
      have H := HA.out
      clear HA
      simp only [interlockref04_Texts.l0] at H
      have HC3 := Aside0.mk H
      clear H
      go_upto_region 2 with (fail)
      repeat (go_quiet (fail); go_upto_region 2 with (fail))
      go_cut [15] (fun v15 wc => ∃ (kq : Nat) (x15_2 : Bool), v15 = .bool x15_2 ∧ Aside0 (interlockref04_Texts.j1 kq a0 a1 x5_1 x15_2 = some r) ∧ Aside0 (kq ≤ k1) ∧ Drawn0 w wc)
      case first =>
        have H := HC3.out
        clear HC3
        by_cases c4 : x5_1 < (a0.size : Int)
        · rw [if_pos c4] at H
          have c4b0 : decide (x5_1 < (a0.size : Int)) = true := decide_eq_true c4
          clear c4
          (first | rw [c4b0] | (simp only [i64_w, i32_w]; rw [c4b0]) | skip)
          have H' := Aside0.mk H
          clear H
          go_wp2
          repeat (go_quiet (fail); try go_wp2)
          go_meet
          case rel => exact ⟨_, (decide (x5_1 < (a1.size : Int))), (by first | rfl | (simp; done) | (simp [*]; done)), H', ⟨by have := HK1.out; first | omega | exact Nat.le_refl _⟩, by repeat (first | exact Drawn0.refl _ | apply Drawn0.step)⟩
        · rw [if_neg c4] at H
          have c4b0 : decide (x5_1 < (a0.size : Int)) = false := decide_eq_false c4
          clear c4
          (first | rw [c4b0] | (simp only [i64_w, i32_w]; rw [c4b0]) | skip)
          have H' := Aside0.mk H
          clear H
          go_wp2
          repeat (go_quiet (fail); try go_wp2)
          go_meet
          case rel => exact ⟨_, (false), (by first | rfl | (simp; done) | (simp [*]; done)), H', ⟨by have := HK1.out; first | omega | exact Nat.le_refl _⟩, by repeat (first | exact Drawn0.refl _ | apply Drawn0.step)⟩
      case rest =>
        clear HC3
        try clear p2
        try clear c3
        try clear c4
        try clear c4b0
        try clear p2
        obtain ⟨kq, x15_2, rfl, HA, HJ2, ⟨mc2, rfl⟩⟩ := hcut
        cases kq with
        | zero => exact absurd HA.out (by simp [interlockref04_Texts.j1])
        | succ kj2 =>
          have H := HA.out
          clear HA
          simp only [interlockref04_Texts.j1] at H
          by_cases c5 : x15_2 = true
          · subst c5
            have H1 : (if 0 ≤ x5_1 then (if x5_1 < (a0.size : Int) then (if x5_1 < (a1.size : Int) then (if (bt a0 x5_1) = (bt a1 x5_1) then (interlockref04_Texts.l0 kj2 a0 a1 (wrap64 (x5_1 + 1))) else ((interlockref04_cmp.f (wrap64 (bt a0 x5_1)) (wrap64 (bt a1 x5_1))).bind fun t131 => (some t131))) else (none)) else (none)) else (none)) = some r := by rw [if_pos rfl] at H; exact H
            clear H
            have H := H1
            clear H1
            by_cases c6 : 0 ≤ x5_1
            · rw [if_pos c6] at H
              have c6b0 : decide (0 ≤ x5_1) = true := decide_eq_true c6
              clear c6
              by_cases c7 : x5_1 < (a0.size : Int)
              · rw [if_pos c7] at H
                have c7b0 : decide (x5_1 < (a0.size : Int)) = true := decide_eq_true c7
                clear c7
                by_cases c9 : x5_1 < (a1.size : Int)
                · rw [if_pos c9] at H
                  have c9b0 : decide (x5_1 < (a1.size : Int)) = true := decide_eq_true c9
                  clear c9
                  by_cases c11 : (bt a0 x5_1) = (bt a1 x5_1)
                  · rw [if_pos c11] at H
                    have c11b0 : ((bt a0 x5_1) == (bt a1 x5_1)) = true := beq_iff_eq.mpr c11
                    have c11b1 : ((bt a0 x5_1) != (bt a1 x5_1)) = false := bne_eq_false_iff_eq.mpr c11
                    clear c11
                    have H' := Aside0.mk H
                    clear H
                    have p8 : 0 ≤ (x5_1 : Int) := of_decide_eq_true (by first | (with_reducible assumption) | assumption)
                    have q8 : x5_1 < (a0.size : Int) := of_decide_eq_true (by first | (with_reducible assumption) | assumption)
                    have hx8 := bt_at a0 x5_1
                    replace p8 := eq_true p8
                    replace q8 := eq_true q8
                    have p10 : 0 ≤ (x5_1 : Int) := of_decide_eq_true (by first | (with_reducible assumption) | assumption)
                    have q10 : x5_1 < (a1.size : Int) := of_decide_eq_true (by first | (with_reducible assumption) | assumption)
                    have hx10 := bt_at a1 x5_1
                    replace p10 := eq_true p10
                    replace q10 := eq_true q10
                    go_wp2
                    repeat (go_quiet (fail); try go_wp2)
                    go_roundg kj2
                    case measure => have := HK1.out; have := HJ2.out; omega
                    case rel => exact ⟨(wrap64 (x5_1 + 1)), (by first | rfl | (simp; done) | (simp [*]; done)), H', ⟨by have := HK1.out; have := HJ2.out; omega⟩, by repeat (first | exact Drawn0.refl _ | apply Drawn0.step)⟩
                  · rw [if_neg c11] at H
                    have c11b0 : ((bt a0 x5_1) == (bt a1 x5_1)) = false := beq_eq_false_iff_ne.mpr c11
                    have c11b1 : ((bt a0 x5_1) != (bt a1 x5_1)) = true := bne_iff_ne.mpr c11
                    replace H := Option.bind_eq_some_iff.mp H
                    obtain ⟨t131, A140, H⟩ := H
                    replace H : (some t131) = some r := H
                    have A14 := Aside0.mk A140
                    clear A140
                    obtain rfl := Option.some.inj H
                    have p8 : 0 ≤ (x5_1 : Int) := of_decide_eq_true (by first | (with_reducible assumption) | assumption)
                    have q8 : x5_1 < (a0.size : Int) := of_decide_eq_true (by first | (with_reducible assumption) | assumption)
                    have hx8 := bt_at a0 x5_1
                    replace p8 := eq_true p8
                    replace q8 := eq_true q8
                    have p10 : 0 ≤ (x5_1 : Int) := of_decide_eq_true (by first | (with_reducible assumption) | assumption)
                    have q10 : x5_1 < (a1.size : Int) := of_decide_eq_true (by first | (with_reducible assumption) | assumption)
                    have hx10 := bt_at a1 x5_1
                    replace p10 := eq_true p10
                    replace q10 := eq_true q10
                    have p12 : 0 ≤ (x5_1 : Int) := of_decide_eq_true (by first | (with_reducible assumption) | assumption)
                    have q12 : x5_1 < (a0.size : Int) := of_decide_eq_true (by first | (with_reducible assumption) | assumption)
                    have hx12 := bt_at a0 x5_1
                    replace p12 := eq_true p12
                    replace q12 := eq_true q12
                    have p13 : 0 ≤ (x5_1 : Int) := of_decide_eq_true (by first | (with_reducible assumption) | assumption)
                    have q13 : x5_1 < (a1.size : Int) := of_decide_eq_true (by first | (with_reducible assumption) | assumption)
                    have hx13 := bt_at a1 x5_1
                    replace p13 := eq_true p13
                    replace q13 := eq_true q13
                    go_wp2_with (first | (go_at_call 54; (with_reducible refine (interlockref04_cmp.calls (wrap64 (bt a0 x5_1)) (wrap64 (bt a1 x5_1)) t131 _ A14.out).mono ?_); rintro e w' ⟨rfl, ⟨nd, rfl⟩⟩; (try first | exact ⟨rfl, _, World.drewN_drewN _ _ _⟩ | exact ⟨rfl, _, Eq.trans (World.drewN_drewN _ _ _) (congrArg (World.drewN _) (Nat.add_assoc _ _ _))⟩)))
                    repeat (go_quiet (first | (go_at_call 54; (with_reducible refine (interlockref04_cmp.calls (wrap64 (bt a0 x5_1)) (wrap64 (bt a1 x5_1)) t131 _ A14.out).mono ?_); rintro e w' ⟨rfl, ⟨nd, rfl⟩⟩; (try first | exact ⟨rfl, _, World.drewN_drewN _ _ _⟩ | exact ⟨rfl, _, Eq.trans (World.drewN_drewN _ _ _) (congrArg (World.drewN _) (Nat.add_assoc _ _ _))⟩))); try go_wp2_with (first | (go_at_call 54; (with_reducible refine (interlockref04_cmp.calls (wrap64 (bt a0 x5_1)) (wrap64 (bt a1 x5_1)) t131 _ A14.out).mono ?_); rintro e w' ⟨rfl, ⟨nd, rfl⟩⟩; (try first | exact ⟨rfl, _, World.drewN_drewN _ _ _⟩ | exact ⟨rfl, _, Eq.trans (World.drewN_drewN _ _ _) (congrArg (World.drewN _) (Nat.add_assoc _ _ _))⟩))))
                    go_ret
                    exact ⟨by first | rfl | (simp; done) | (simp [*]; done), by repeat (first | exact Drawn0.refl _ | apply Drawn0.step)⟩
                · rw [if_neg c9] at H
                  exact absurd H (by simp)
              · rw [if_neg c7] at H
                exact absurd H (by simp)
            · rw [if_neg c6] at H
              exact absurd H (by simp)
          · replace c5 := Bool.eq_false_iff.mpr c5
            subst c5
            have H1 : ((interlockref04_cmp.f (a0.size : Int) (a1.size : Int)).bind fun t132 => (some t132)) = some r := by rw [if_neg (show ¬ (false = true) by decide)] at H; exact H
            clear H
            have H := H1
            clear H1
            replace H := Option.bind_eq_some_iff.mp H
            obtain ⟨t132, A150, H⟩ := H
            replace H : (some t132) = some r := H
            have A15 := Aside0.mk A150
            clear A150
            obtain rfl := Option.some.inj H
            go_wp2_with (first | (go_at_call 54; (with_reducible refine (interlockref04_cmp.calls (a0.size : Int) (a1.size : Int) t132 _ A15.out).mono ?_); rintro e w' ⟨rfl, ⟨nd, rfl⟩⟩; (try first | exact ⟨rfl, _, World.drewN_drewN _ _ _⟩ | exact ⟨rfl, _, Eq.trans (World.drewN_drewN _ _ _) (congrArg (World.drewN _) (Nat.add_assoc _ _ _))⟩)))
            repeat (go_quiet (first | (go_at_call 54; (with_reducible refine (interlockref04_cmp.calls (a0.size : Int) (a1.size : Int) t132 _ A15.out).mono ?_); rintro e w' ⟨rfl, ⟨nd, rfl⟩⟩; (try first | exact ⟨rfl, _, World.drewN_drewN _ _ _⟩ | exact ⟨rfl, _, Eq.trans (World.drewN_drewN _ _ _) (congrArg (World.drewN _) (Nat.add_assoc _ _ _))⟩))); try go_wp2_with (first | (go_at_call 54; (with_reducible refine (interlockref04_cmp.calls (a0.size : Int) (a1.size : Int) t132 _ A15.out).mono ?_); rintro e w' ⟨rfl, ⟨nd, rfl⟩⟩; (try first | exact ⟨rfl, _, World.drewN_drewN _ _ _⟩ | exact ⟨rfl, _, Eq.trans (World.drewN_drewN _ _ _) (congrArg (World.drewN _) (Nat.add_assoc _ _ _))⟩))))
            go_ret
            exact ⟨by first | rfl | (simp; done) | (simp [*]; done), by repeat (first | exact Drawn0.refl _ | apply Drawn0.step)⟩
end Go.Proofs.Ytjaddmflopahiaa.Q
end
section
namespace Go.Proofs.Ytjaddmflopahiaa.Q
open Go.RowKit Go.Proofs.YtjaddmflopahiaaW.PrintWords Go.Proofs.YtjaddmflopahiaaW.PrintLast Go.Proofs.YtjaddmflopahiaaW.PrintMore
attribute [local go_sem] max2_int min2_int max_two min_two max_three min_three max_four min_four
set_option linter.unusedVariables false
set_option linter.unusedSimpArgs false
def interlockref08_Order.f (k : Nat) (a0_0 : ByteArray) (a0_1 : Int) (a0_2 : Int) (a1_0 : ByteArray) (a1_1 : Int) (a1_2 : Int) : Option (Int) := (interlockref04_Texts.f k a0_0 a1_0).bind fun t135 => (if t135 = 0 then (if a0_1 = a1_1 then (if a0_2 = a1_2 then (some 0) else (if a0_2 < a1_2 then (some (-1)) else (some 1))) else (if a0_1 < a1_1 then (some (-1)) else (some 1))) else (some t135))
theorem interlockref08_Order.mono : ∀ a0 a1 a2 a3 a4 a5 k, LeO (interlockref08_Order.f k a0 a1 a2 a3 a4 a5) (interlockref08_Order.f (k + 1) a0 a1 a2 a3 a4 a5) := by
  intro a0 a1 a2 a3 a4 a5 k
  unfold interlockref08_Order.f
  repeat' first
      | (with_reducible exact interlockref04_Texts.mono _ _ _)
      | (with_reducible exact LeO.refl _)
      | (with_reducible exact LeO.none _)
      | (with_reducible refine LeO.ite ?_ ?_)
      | (with_reducible refine LeO.bind ?_ (fun _ => ?_))
      | exact interlockref04_Texts.mono _ _ _
      | exact LeO.none _
      | refine LeO.ite ?_ ?_
      | refine LeO.bind ?_ (fun _ => ?_)
set_option maxHeartbeats 8000000 in
set_option maxRecDepth 100000 in
theorem interlockref08_Order.calls (k : Nat) (a0_0 : ByteArray) (a0_1 : Int) (a0_2 : Int) (a1_0 : ByteArray) (a1_1 : Int) (a1_2 : Int) (r : Int) (w : World) (h : interlockref08_Order.f k a0_0 a0_1 a0_2 a1_0 a1_1 a1_2 = some r) :
    Calls Try.prog 21 #[.agg #[.string a0_0, .int .i64 a0_1, .int .i64 a0_2], .agg #[.string a1_0, .int .i64 a1_1, .int .i64 a1_2]] w fun e w' => e = .returned (.int .i64 r) ∧ Below w.heap.size w w' := by
  have hu29 := Try.underlying29
  have HB := Aside0.mk (Below.refl w.heap.size w)
  have H : ((interlockref04_Texts.f k a0_0 a1_0).bind fun t135 => (if t135 = 0 then (if a0_1 = a1_1 then (if a0_2 = a1_2 then (some 0) else (if a0_2 < a1_2 then (some (-1)) else (some 1))) else (if a0_1 < a1_1 then (some (-1)) else (some 1))) else (some t135))) = some r := h
  clear h
  replace H := Option.bind_eq_some_iff.mp H
  obtain ⟨t135, A30, H⟩ := H
  replace H : (if t135 = 0 then (if a0_1 = a1_1 then (if a0_2 = a1_2 then (some 0) else (if a0_2 < a1_2 then (some (-1)) else (some 1))) else (if a0_1 < a1_1 then (some (-1)) else (some 1))) else (some t135)) = some r := H
  have A3 := Aside0.mk A30
  clear A30
  by_cases c4 : t135 = 0
  · rw [if_pos c4] at H
    have c4b0 : (t135 == 0) = true := beq_iff_eq.mpr c4
    have c4b1 : (t135 != 0) = false := bne_eq_false_iff_eq.mpr c4
    clear c4
    by_cases c5 : a0_1 = a1_1
    · rw [if_pos c5] at H
      have c5b0 : (a0_1 == a1_1) = true := beq_iff_eq.mpr c5
      have c5b1 : (a0_1 != a1_1) = false := bne_eq_false_iff_eq.mpr c5
      clear c5
      by_cases c6 : a0_2 = a1_2
      · rw [if_pos c6] at H
        have c6b0 : (a0_2 == a1_2) = true := beq_iff_eq.mpr c6
        have c6b1 : (a0_2 != a1_2) = false := bne_eq_false_iff_eq.mpr c6
        clear c6
        obtain rfl := Option.some.inj H
        go_enter Try.func21, Try.ntmps21
        go_wp2_with (first | ((with_reducible refine gate_dst (N := 2) rfl ?_); refine box_event ?hg (N := 2) ?hd (cs := #[.string a0_0, .int .i64 a0_1, .int .i64 a0_2]) (t := 29) ?hr ?_; (case hd => rfl); (case hg => rfl); (case hr => first | (go_simp; done) | (go_simp; rfl)); intro gb133 hg w7 hbox hb; have n0_ := Aside0.mk (below_step (by repeat (first | (with_reducible first | exact HB.out | apply below_alloc | apply pw_below_drewN | apply below_drew1) | exact HB.out)) hb); have n1_ := Aside0.mk (hbox); have n2_ := Aside0.mk ((by rw [hg]; exact (below_size (by repeat (first | (with_reducible first | exact HB.out | apply below_alloc | apply pw_below_drewN | apply below_drew1) | exact HB.out))) : w.heap.size ≤ gb133)); have n3_ := Aside0.mk ((by rw [hg]; exact (below_size (by repeat (first | (with_reducible first | exact HB.out | apply below_alloc | apply pw_below_drewN | apply below_drew1) | exact HB.out))) : w.heap.size ≤ gb133)); clear HB; have HB := n0_; have BK133 := n1_; have GW133 := n2_; have GE133 := n3_; clear n0_ n1_ n2_ n3_; clear hb hbox hg) | ((with_reducible refine gate_dst (N := 3) rfl ?_); refine box_event ?hg (N := 3) ?hd (cs := #[.string a1_0, .int .i64 a1_1, .int .i64 a1_2]) (t := 29) ?hr ?_; (case hd => rfl); (case hg => rfl); (case hr => first | (go_simp; done) | (go_simp; rfl)); intro gb134 hg w8 hbox hb; have n0_ := Aside0.mk (blk_below (g := gb133) (o := .cells #[.string a0_0, .int .i64 a0_1, .int .i64 a0_2] 29 (0, 0)) (by (with_reducible repeat (first | refine blk_drewN ?_ _ | refine blk_drew ?_ | refine blk_alloc ?_ _)); exact BK133.out) hb); have n1_ := Aside0.mk (below_step (by repeat (first | (with_reducible first | exact HB.out | apply below_alloc | apply pw_below_drewN | apply below_drew1 | refine below_set ?_ GE133.out) | exact HB.out)) hb); have n2_ := Aside0.mk (hbox); have n3_ := Aside0.mk ((by rw [hg]; exact (below_size (by repeat (first | (with_reducible first | exact HB.out | apply below_alloc | apply pw_below_drewN | apply below_drew1 | refine below_set ?_ GE133.out) | exact HB.out))) : w.heap.size ≤ gb134)); have n4_ := Aside0.mk ((by rw [hg]; exact (below_size (by repeat (first | (with_reducible first | exact HB.out | apply below_alloc | apply pw_below_drewN | apply below_drew1 | refine below_set ?_ GE133.out) | exact HB.out))) : w.heap.size ≤ gb134)); have n5_ := Aside0.mk ((by rw [hg]; exact Nat.ne_of_lt (blk_lt (g := gb133) (o := .cells #[.string a0_0, .int .i64 a0_1, .int .i64 a0_2] 29 (0, 0)) (by (with_reducible repeat (first | refine blk_drewN ?_ _ | refine blk_drew ?_ | refine blk_alloc ?_ _)); exact BK133.out)) : gb133 ≠ gb134)); have n6_ := Aside0.mk ((by rw [hg]; exact Nat.ne_of_gt (blk_lt (g := gb133) (o := .cells #[.string a0_0, .int .i64 a0_1, .int .i64 a0_2] 29 (0, 0)) (by (with_reducible repeat (first | refine blk_drewN ?_ _ | refine blk_drew ?_ | refine blk_alloc ?_ _)); exact BK133.out)) : gb134 ≠ gb133)); clear BK133; clear HB; have BK133 := n0_; have HB := n1_; have BK134 := n2_; have GW134 := n3_; have GE134 := n4_; have NB133_134 := n5_; have NB134_133 := n6_; clear n0_ n1_ n2_ n3_ n4_ n5_ n6_; clear hb hbox hg; have hnb9 := NB133_134.out; have hnc9 := NB134_133.out; have hcz10_0 : w8.cell? ⟨gb133, 0, none⟩ = some (.string a0_0) := (blk_cell BK133.out 0).trans rfl; have hcz10_1 : w8.cell? ⟨gb133, 1, none⟩ = some (.int .i64 a0_1) := (blk_cell BK133.out 1).trans rfl; have hcz10_2 : w8.cell? ⟨gb133, 2, none⟩ = some (.int .i64 a0_2) := (blk_cell BK133.out 2).trans rfl; have hfz10_0 := blk_frozen BK133.out 0; have hfz10_1 := blk_frozen BK133.out 1; have hfz10_2 := blk_frozen BK133.out 2; have hcz11_0 : w8.cell? ⟨gb134, 0, none⟩ = some (.string a1_0) := (blk_cell BK134.out 0).trans rfl; have hcz11_1 : w8.cell? ⟨gb134, 1, none⟩ = some (.int .i64 a1_1) := (blk_cell BK134.out 1).trans rfl; have hcz11_2 : w8.cell? ⟨gb134, 2, none⟩ = some (.int .i64 a1_2) := (blk_cell BK134.out 2).trans rfl; have hfz11_0 := blk_frozen BK134.out 0; have hfz11_1 := blk_frozen BK134.out 1; have hfz11_2 := blk_frozen BK134.out 2) | ((with_reducible refine gate_callee (f := 34) rfl ?_); refine goesL_ (some 10) rfl rfl Try.func34 (by kernel_rfl) rfl #[.string a0_0, .string a1_0] rfl (by (try simp only [List.map_toArray, List.map_cons, List.map_nil]); first | done | rfl | (simp only [List.length_drop, List.length_take]; rfl)) ?_; (with_reducible refine (interlockref04_Texts.calls k a0_0 a1_0 t135 _ A3.out).mono ?_); rintro e w' ⟨rfl, ⟨nd, rfl⟩⟩; refine ⟨_, rfl, ?_⟩))
        go_ret
        exact ⟨by first | rfl | (simp [errW_none, errW_some] <;> rfl) | (simp [*, errW_none, errW_some] <;> rfl), by repeat (first | (with_reducible first | exact HB.out | apply below_alloc | apply pw_below_drewN | apply below_drew1 | refine below_set ?_ GE133.out | refine below_set ?_ GE134.out) | exact HB.out)⟩
      · rw [if_neg c6] at H
        have c6b0 : (a0_2 == a1_2) = false := beq_eq_false_iff_ne.mpr c6
        have c6b1 : (a0_2 != a1_2) = true := bne_iff_ne.mpr c6
        by_cases c12 : a0_2 < a1_2
        · rw [if_pos c12] at H
          have c12b0 : decide (a0_2 < a1_2) = true := decide_eq_true c12
          clear c12
          obtain rfl := Option.some.inj H
          go_enter Try.func21, Try.ntmps21
          go_wp2_with (first | ((with_reducible refine gate_dst (N := 2) rfl ?_); refine box_event ?hg (N := 2) ?hd (cs := #[.string a0_0, .int .i64 a0_1, .int .i64 a0_2]) (t := 29) ?hr ?_; (case hd => rfl); (case hg => rfl); (case hr => first | (go_simp; done) | (go_simp; rfl)); intro gb133 hg w13 hbox hb; have n0_ := Aside0.mk (below_step (by repeat (first | (with_reducible first | exact HB.out | apply below_alloc | apply pw_below_drewN | apply below_drew1) | exact HB.out)) hb); have n1_ := Aside0.mk (hbox); have n2_ := Aside0.mk ((by rw [hg]; exact (below_size (by repeat (first | (with_reducible first | exact HB.out | apply below_alloc | apply pw_below_drewN | apply below_drew1) | exact HB.out))) : w.heap.size ≤ gb133)); have n3_ := Aside0.mk ((by rw [hg]; exact (below_size (by repeat (first | (with_reducible first | exact HB.out | apply below_alloc | apply pw_below_drewN | apply below_drew1) | exact HB.out))) : w.heap.size ≤ gb133)); clear HB; have HB := n0_; have BK133 := n1_; have GW133 := n2_; have GE133 := n3_; clear n0_ n1_ n2_ n3_; clear hb hbox hg) | ((with_reducible refine gate_dst (N := 3) rfl ?_); refine box_event ?hg (N := 3) ?hd (cs := #[.string a1_0, .int .i64 a1_1, .int .i64 a1_2]) (t := 29) ?hr ?_; (case hd => rfl); (case hg => rfl); (case hr => first | (go_simp; done) | (go_simp; rfl)); intro gb134 hg w14 hbox hb; have n0_ := Aside0.mk (blk_below (g := gb133) (o := .cells #[.string a0_0, .int .i64 a0_1, .int .i64 a0_2] 29 (0, 0)) (by (with_reducible repeat (first | refine blk_drewN ?_ _ | refine blk_drew ?_ | refine blk_alloc ?_ _)); exact BK133.out) hb); have n1_ := Aside0.mk (below_step (by repeat (first | (with_reducible first | exact HB.out | apply below_alloc | apply pw_below_drewN | apply below_drew1 | refine below_set ?_ GE133.out) | exact HB.out)) hb); have n2_ := Aside0.mk (hbox); have n3_ := Aside0.mk ((by rw [hg]; exact (below_size (by repeat (first | (with_reducible first | exact HB.out | apply below_alloc | apply pw_below_drewN | apply below_drew1 | refine below_set ?_ GE133.out) | exact HB.out))) : w.heap.size ≤ gb134)); have n4_ := Aside0.mk ((by rw [hg]; exact (below_size (by repeat (first | (with_reducible first | exact HB.out | apply below_alloc | apply pw_below_drewN | apply below_drew1 | refine below_set ?_ GE133.out) | exact HB.out))) : w.heap.size ≤ gb134)); have n5_ := Aside0.mk ((by rw [hg]; exact Nat.ne_of_lt (blk_lt (g := gb133) (o := .cells #[.string a0_0, .int .i64 a0_1, .int .i64 a0_2] 29 (0, 0)) (by (with_reducible repeat (first | refine blk_drewN ?_ _ | refine blk_drew ?_ | refine blk_alloc ?_ _)); exact BK133.out)) : gb133 ≠ gb134)); have n6_ := Aside0.mk ((by rw [hg]; exact Nat.ne_of_gt (blk_lt (g := gb133) (o := .cells #[.string a0_0, .int .i64 a0_1, .int .i64 a0_2] 29 (0, 0)) (by (with_reducible repeat (first | refine blk_drewN ?_ _ | refine blk_drew ?_ | refine blk_alloc ?_ _)); exact BK133.out)) : gb134 ≠ gb133)); clear BK133; clear HB; have BK133 := n0_; have HB := n1_; have BK134 := n2_; have GW134 := n3_; have GE134 := n4_; have NB133_134 := n5_; have NB134_133 := n6_; clear n0_ n1_ n2_ n3_ n4_ n5_ n6_; clear hb hbox hg; have hnb15 := NB133_134.out; have hnc15 := NB134_133.out; have hcz16_0 : w14.cell? ⟨gb133, 0, none⟩ = some (.string a0_0) := (blk_cell BK133.out 0).trans rfl; have hcz16_1 : w14.cell? ⟨gb133, 1, none⟩ = some (.int .i64 a0_1) := (blk_cell BK133.out 1).trans rfl; have hcz16_2 : w14.cell? ⟨gb133, 2, none⟩ = some (.int .i64 a0_2) := (blk_cell BK133.out 2).trans rfl; have hfz16_0 := blk_frozen BK133.out 0; have hfz16_1 := blk_frozen BK133.out 1; have hfz16_2 := blk_frozen BK133.out 2; have hcz17_0 : w14.cell? ⟨gb134, 0, none⟩ = some (.string a1_0) := (blk_cell BK134.out 0).trans rfl; have hcz17_1 : w14.cell? ⟨gb134, 1, none⟩ = some (.int .i64 a1_1) := (blk_cell BK134.out 1).trans rfl; have hcz17_2 : w14.cell? ⟨gb134, 2, none⟩ = some (.int .i64 a1_2) := (blk_cell BK134.out 2).trans rfl; have hfz17_0 := blk_frozen BK134.out 0; have hfz17_1 := blk_frozen BK134.out 1; have hfz17_2 := blk_frozen BK134.out 2) | ((with_reducible refine gate_callee (f := 34) rfl ?_); refine goesL_ (some 10) rfl rfl Try.func34 (by kernel_rfl) rfl #[.string a0_0, .string a1_0] rfl (by (try simp only [List.map_toArray, List.map_cons, List.map_nil]); first | done | rfl | (simp only [List.length_drop, List.length_take]; rfl)) ?_; (with_reducible refine (interlockref04_Texts.calls k a0_0 a1_0 t135 _ A3.out).mono ?_); rintro e w' ⟨rfl, ⟨nd, rfl⟩⟩; refine ⟨_, rfl, ?_⟩))
          go_ret
          exact ⟨by first | rfl | (simp [errW_none, errW_some] <;> rfl) | (simp [*, errW_none, errW_some] <;> rfl), by repeat (first | (with_reducible first | exact HB.out | apply below_alloc | apply pw_below_drewN | apply below_drew1 | refine below_set ?_ GE133.out | refine below_set ?_ GE134.out) | exact HB.out)⟩
        · rw [if_neg c12] at H
          have c12b0 : decide (a0_2 < a1_2) = false := decide_eq_false c12
          clear c12
          obtain rfl := Option.some.inj H
          go_enter Try.func21, Try.ntmps21
          go_wp2_with (first | ((with_reducible refine gate_dst (N := 2) rfl ?_); refine box_event ?hg (N := 2) ?hd (cs := #[.string a0_0, .int .i64 a0_1, .int .i64 a0_2]) (t := 29) ?hr ?_; (case hd => rfl); (case hg => rfl); (case hr => first | (go_simp; done) | (go_simp; rfl)); intro gb133 hg w18 hbox hb; have n0_ := Aside0.mk (below_step (by repeat (first | (with_reducible first | exact HB.out | apply below_alloc | apply pw_below_drewN | apply below_drew1) | exact HB.out)) hb); have n1_ := Aside0.mk (hbox); have n2_ := Aside0.mk ((by rw [hg]; exact (below_size (by repeat (first | (with_reducible first | exact HB.out | apply below_alloc | apply pw_below_drewN | apply below_drew1) | exact HB.out))) : w.heap.size ≤ gb133)); have n3_ := Aside0.mk ((by rw [hg]; exact (below_size (by repeat (first | (with_reducible first | exact HB.out | apply below_alloc | apply pw_below_drewN | apply below_drew1) | exact HB.out))) : w.heap.size ≤ gb133)); clear HB; have HB := n0_; have BK133 := n1_; have GW133 := n2_; have GE133 := n3_; clear n0_ n1_ n2_ n3_; clear hb hbox hg) | ((with_reducible refine gate_dst (N := 3) rfl ?_); refine box_event ?hg (N := 3) ?hd (cs := #[.string a1_0, .int .i64 a1_1, .int .i64 a1_2]) (t := 29) ?hr ?_; (case hd => rfl); (case hg => rfl); (case hr => first | (go_simp; done) | (go_simp; rfl)); intro gb134 hg w19 hbox hb; have n0_ := Aside0.mk (blk_below (g := gb133) (o := .cells #[.string a0_0, .int .i64 a0_1, .int .i64 a0_2] 29 (0, 0)) (by (with_reducible repeat (first | refine blk_drewN ?_ _ | refine blk_drew ?_ | refine blk_alloc ?_ _)); exact BK133.out) hb); have n1_ := Aside0.mk (below_step (by repeat (first | (with_reducible first | exact HB.out | apply below_alloc | apply pw_below_drewN | apply below_drew1 | refine below_set ?_ GE133.out) | exact HB.out)) hb); have n2_ := Aside0.mk (hbox); have n3_ := Aside0.mk ((by rw [hg]; exact (below_size (by repeat (first | (with_reducible first | exact HB.out | apply below_alloc | apply pw_below_drewN | apply below_drew1 | refine below_set ?_ GE133.out) | exact HB.out))) : w.heap.size ≤ gb134)); have n4_ := Aside0.mk ((by rw [hg]; exact (below_size (by repeat (first | (with_reducible first | exact HB.out | apply below_alloc | apply pw_below_drewN | apply below_drew1 | refine below_set ?_ GE133.out) | exact HB.out))) : w.heap.size ≤ gb134)); have n5_ := Aside0.mk ((by rw [hg]; exact Nat.ne_of_lt (blk_lt (g := gb133) (o := .cells #[.string a0_0, .int .i64 a0_1, .int .i64 a0_2] 29 (0, 0)) (by (with_reducible repeat (first | refine blk_drewN ?_ _ | refine blk_drew ?_ | refine blk_alloc ?_ _)); exact BK133.out)) : gb133 ≠ gb134)); have n6_ := Aside0.mk ((by rw [hg]; exact Nat.ne_of_gt (blk_lt (g := gb133) (o := .cells #[.string a0_0, .int .i64 a0_1, .int .i64 a0_2] 29 (0, 0)) (by (with_reducible repeat (first | refine blk_drewN ?_ _ | refine blk_drew ?_ | refine blk_alloc ?_ _)); exact BK133.out)) : gb134 ≠ gb133)); clear BK133; clear HB; have BK133 := n0_; have HB := n1_; have BK134 := n2_; have GW134 := n3_; have GE134 := n4_; have NB133_134 := n5_; have NB134_133 := n6_; clear n0_ n1_ n2_ n3_ n4_ n5_ n6_; clear hb hbox hg; have hnb20 := NB133_134.out; have hnc20 := NB134_133.out; have hcz21_0 : w19.cell? ⟨gb133, 0, none⟩ = some (.string a0_0) := (blk_cell BK133.out 0).trans rfl; have hcz21_1 : w19.cell? ⟨gb133, 1, none⟩ = some (.int .i64 a0_1) := (blk_cell BK133.out 1).trans rfl; have hcz21_2 : w19.cell? ⟨gb133, 2, none⟩ = some (.int .i64 a0_2) := (blk_cell BK133.out 2).trans rfl; have hfz21_0 := blk_frozen BK133.out 0; have hfz21_1 := blk_frozen BK133.out 1; have hfz21_2 := blk_frozen BK133.out 2; have hcz22_0 : w19.cell? ⟨gb134, 0, none⟩ = some (.string a1_0) := (blk_cell BK134.out 0).trans rfl; have hcz22_1 : w19.cell? ⟨gb134, 1, none⟩ = some (.int .i64 a1_1) := (blk_cell BK134.out 1).trans rfl; have hcz22_2 : w19.cell? ⟨gb134, 2, none⟩ = some (.int .i64 a1_2) := (blk_cell BK134.out 2).trans rfl; have hfz22_0 := blk_frozen BK134.out 0; have hfz22_1 := blk_frozen BK134.out 1; have hfz22_2 := blk_frozen BK134.out 2) | ((with_reducible refine gate_callee (f := 34) rfl ?_); refine goesL_ (some 10) rfl rfl Try.func34 (by kernel_rfl) rfl #[.string a0_0, .string a1_0] rfl (by (try simp only [List.map_toArray, List.map_cons, List.map_nil]); first | done | rfl | (simp only [List.length_drop, List.length_take]; rfl)) ?_; (with_reducible refine (interlockref04_Texts.calls k a0_0 a1_0 t135 _ A3.out).mono ?_); rintro e w' ⟨rfl, ⟨nd, rfl⟩⟩; refine ⟨_, rfl, ?_⟩))
          go_ret
          exact ⟨by first | rfl | (simp [errW_none, errW_some] <;> rfl) | (simp [*, errW_none, errW_some] <;> rfl), by repeat (first | (with_reducible first | exact HB.out | apply below_alloc | apply pw_below_drewN | apply below_drew1 | refine below_set ?_ GE133.out | refine below_set ?_ GE134.out) | exact HB.out)⟩
    · rw [if_neg c5] at H
      have c5b0 : (a0_1 == a1_1) = false := beq_eq_false_iff_ne.mpr c5
      have c5b1 : (a0_1 != a1_1) = true := bne_iff_ne.mpr c5
      by_cases c23 : a0_1 < a1_1
      · rw [if_pos c23] at H
        have c23b0 : decide (a0_1 < a1_1) = true := decide_eq_true c23
        clear c23
        obtain rfl := Option.some.inj H
        go_enter Try.func21, Try.ntmps21
        go_wp2_with (first | ((with_reducible refine gate_dst (N := 2) rfl ?_); refine box_event ?hg (N := 2) ?hd (cs := #[.string a0_0, .int .i64 a0_1, .int .i64 a0_2]) (t := 29) ?hr ?_; (case hd => rfl); (case hg => rfl); (case hr => first | (go_simp; done) | (go_simp; rfl)); intro gb133 hg w24 hbox hb; have n0_ := Aside0.mk (below_step (by repeat (first | (with_reducible first | exact HB.out | apply below_alloc | apply pw_below_drewN | apply below_drew1) | exact HB.out)) hb); have n1_ := Aside0.mk (hbox); have n2_ := Aside0.mk ((by rw [hg]; exact (below_size (by repeat (first | (with_reducible first | exact HB.out | apply below_alloc | apply pw_below_drewN | apply below_drew1) | exact HB.out))) : w.heap.size ≤ gb133)); have n3_ := Aside0.mk ((by rw [hg]; exact (below_size (by repeat (first | (with_reducible first | exact HB.out | apply below_alloc | apply pw_below_drewN | apply below_drew1) | exact HB.out))) : w.heap.size ≤ gb133)); clear HB; have HB := n0_; have BK133 := n1_; have GW133 := n2_; have GE133 := n3_; clear n0_ n1_ n2_ n3_; clear hb hbox hg) | ((with_reducible refine gate_dst (N := 3) rfl ?_); refine box_event ?hg (N := 3) ?hd (cs := #[.string a1_0, .int .i64 a1_1, .int .i64 a1_2]) (t := 29) ?hr ?_; (case hd => rfl); (case hg => rfl); (case hr => first | (go_simp; done) | (go_simp; rfl)); intro gb134 hg w25 hbox hb; have n0_ := Aside0.mk (blk_below (g := gb133) (o := .cells #[.string a0_0, .int .i64 a0_1, .int .i64 a0_2] 29 (0, 0)) (by (with_reducible repeat (first | refine blk_drewN ?_ _ | refine blk_drew ?_ | refine blk_alloc ?_ _)); exact BK133.out) hb); have n1_ := Aside0.mk (below_step (by repeat (first | (with_reducible first | exact HB.out | apply below_alloc | apply pw_below_drewN | apply below_drew1 | refine below_set ?_ GE133.out) | exact HB.out)) hb); have n2_ := Aside0.mk (hbox); have n3_ := Aside0.mk ((by rw [hg]; exact (below_size (by repeat (first | (with_reducible first | exact HB.out | apply below_alloc | apply pw_below_drewN | apply below_drew1 | refine below_set ?_ GE133.out) | exact HB.out))) : w.heap.size ≤ gb134)); have n4_ := Aside0.mk ((by rw [hg]; exact (below_size (by repeat (first | (with_reducible first | exact HB.out | apply below_alloc | apply pw_below_drewN | apply below_drew1 | refine below_set ?_ GE133.out) | exact HB.out))) : w.heap.size ≤ gb134)); have n5_ := Aside0.mk ((by rw [hg]; exact Nat.ne_of_lt (blk_lt (g := gb133) (o := .cells #[.string a0_0, .int .i64 a0_1, .int .i64 a0_2] 29 (0, 0)) (by (with_reducible repeat (first | refine blk_drewN ?_ _ | refine blk_drew ?_ | refine blk_alloc ?_ _)); exact BK133.out)) : gb133 ≠ gb134)); have n6_ := Aside0.mk ((by rw [hg]; exact Nat.ne_of_gt (blk_lt (g := gb133) (o := .cells #[.string a0_0, .int .i64 a0_1, .int .i64 a0_2] 29 (0, 0)) (by (with_reducible repeat (first | refine blk_drewN ?_ _ | refine blk_drew ?_ | refine blk_alloc ?_ _)); exact BK133.out)) : gb134 ≠ gb133)); clear BK133; clear HB; have BK133 := n0_; have HB := n1_; have BK134 := n2_; have GW134 := n3_; have GE134 := n4_; have NB133_134 := n5_; have NB134_133 := n6_; clear n0_ n1_ n2_ n3_ n4_ n5_ n6_; clear hb hbox hg; have hnb26 := NB133_134.out; have hnc26 := NB134_133.out; have hcz27_0 : w25.cell? ⟨gb133, 0, none⟩ = some (.string a0_0) := (blk_cell BK133.out 0).trans rfl; have hcz27_1 : w25.cell? ⟨gb133, 1, none⟩ = some (.int .i64 a0_1) := (blk_cell BK133.out 1).trans rfl; have hcz27_2 : w25.cell? ⟨gb133, 2, none⟩ = some (.int .i64 a0_2) := (blk_cell BK133.out 2).trans rfl; have hfz27_0 := blk_frozen BK133.out 0; have hfz27_1 := blk_frozen BK133.out 1; have hfz27_2 := blk_frozen BK133.out 2; have hcz28_0 : w25.cell? ⟨gb134, 0, none⟩ = some (.string a1_0) := (blk_cell BK134.out 0).trans rfl; have hcz28_1 : w25.cell? ⟨gb134, 1, none⟩ = some (.int .i64 a1_1) := (blk_cell BK134.out 1).trans rfl; have hcz28_2 : w25.cell? ⟨gb134, 2, none⟩ = some (.int .i64 a1_2) := (blk_cell BK134.out 2).trans rfl; have hfz28_0 := blk_frozen BK134.out 0; have hfz28_1 := blk_frozen BK134.out 1; have hfz28_2 := blk_frozen BK134.out 2) | ((with_reducible refine gate_callee (f := 34) rfl ?_); refine goesL_ (some 10) rfl rfl Try.func34 (by kernel_rfl) rfl #[.string a0_0, .string a1_0] rfl (by (try simp only [List.map_toArray, List.map_cons, List.map_nil]); first | done | rfl | (simp only [List.length_drop, List.length_take]; rfl)) ?_; (with_reducible refine (interlockref04_Texts.calls k a0_0 a1_0 t135 _ A3.out).mono ?_); rintro e w' ⟨rfl, ⟨nd, rfl⟩⟩; refine ⟨_, rfl, ?_⟩))
        go_ret
        exact ⟨by first | rfl | (simp [errW_none, errW_some] <;> rfl) | (simp [*, errW_none, errW_some] <;> rfl), by repeat (first | (with_reducible first | exact HB.out | apply below_alloc | apply pw_below_drewN | apply below_drew1 | refine below_set ?_ GE133.out | refine below_set ?_ GE134.out) | exact HB.out)⟩
      · rw [if_neg c23] at H
        have c23b0 : decide (a0_1 < a1_1) = false := decide_eq_false c23
        clear c23
        obtain rfl := Option.some.inj H
        go_enter Try.func21, Try.ntmps21
        go_wp2_with (first | ((with_reducible refine gate_dst (N := 2) rfl ?_); refine box_event ?hg (N := 2) ?hd (cs := #[.string a0_0, .int .i64 a0_1, .int .i64 a0_2]) (t := 29) ?hr ?_; (case hd => rfl); (case hg => rfl); (case hr => first | (go_simp; done) | (go_simp; rfl)); intro gb133 hg w29 hbox hb; have n0_ := Aside0.mk (below_step (by repeat (first | (with_reducible first | exact HB.out | apply below_alloc | apply pw_below_drewN | apply below_drew1) | exact HB.out)) hb); have n1_ := Aside0.mk (hbox); have n2_ := Aside0.mk ((by rw [hg]; exact (below_size (by repeat (first | (with_reducible first | exact HB.out | apply below_alloc | apply pw_below_drewN | apply below_drew1) | exact HB.out))) : w.heap.size ≤ gb133)); have n3_ := Aside0.mk ((by rw [hg]; exact (below_size (by repeat (first | (with_reducible first | exact HB.out | apply below_alloc | apply pw_below_drewN | apply below_drew1) | exact HB.out))) : w.heap.size ≤ gb133)); clear HB; have HB := n0_; have BK133 := n1_; have GW133 := n2_; have GE133 := n3_; clear n0_ n1_ n2_ n3_; clear hb hbox hg) | ((with_reducible refine gate_dst (N := 3) rfl ?_); refine box_event ?hg (N := 3) ?hd (cs := #[.string a1_0, .int .i64 a1_1, .int .i64 a1_2]) (t := 29) ?hr ?_; (case hd => rfl); (case hg => rfl); (case hr => first | (go_simp; done) | (go_simp; rfl)); intro gb134 hg w30 hbox hb; have n0_ := Aside0.mk (blk_below (g := gb133) (o := .cells #[.string a0_0, .int .i64 a0_1, .int .i64 a0_2] 29 (0, 0)) (by (with_reducible repeat (first | refine blk_drewN ?_ _ | refine blk_drew ?_ | refine blk_alloc ?_ _)); exact BK133.out) hb); have n1_ := Aside0.mk (below_step (by repeat (first | (with_reducible first | exact HB.out | apply below_alloc | apply pw_below_drewN | apply below_drew1 | refine below_set ?_ GE133.out) | exact HB.out)) hb); have n2_ := Aside0.mk (hbox); have n3_ := Aside0.mk ((by rw [hg]; exact (below_size (by repeat (first | (with_reducible first | exact HB.out | apply below_alloc | apply pw_below_drewN | apply below_drew1 | refine below_set ?_ GE133.out) | exact HB.out))) : w.heap.size ≤ gb134)); have n4_ := Aside0.mk ((by rw [hg]; exact (below_size (by repeat (first | (with_reducible first | exact HB.out | apply below_alloc | apply pw_below_drewN | apply below_drew1 | refine below_set ?_ GE133.out) | exact HB.out))) : w.heap.size ≤ gb134)); have n5_ := Aside0.mk ((by rw [hg]; exact Nat.ne_of_lt (blk_lt (g := gb133) (o := .cells #[.string a0_0, .int .i64 a0_1, .int .i64 a0_2] 29 (0, 0)) (by (with_reducible repeat (first | refine blk_drewN ?_ _ | refine blk_drew ?_ | refine blk_alloc ?_ _)); exact BK133.out)) : gb133 ≠ gb134)); have n6_ := Aside0.mk ((by rw [hg]; exact Nat.ne_of_gt (blk_lt (g := gb133) (o := .cells #[.string a0_0, .int .i64 a0_1, .int .i64 a0_2] 29 (0, 0)) (by (with_reducible repeat (first | refine blk_drewN ?_ _ | refine blk_drew ?_ | refine blk_alloc ?_ _)); exact BK133.out)) : gb134 ≠ gb133)); clear BK133; clear HB; have BK133 := n0_; have HB := n1_; have BK134 := n2_; have GW134 := n3_; have GE134 := n4_; have NB133_134 := n5_; have NB134_133 := n6_; clear n0_ n1_ n2_ n3_ n4_ n5_ n6_; clear hb hbox hg; have hnb31 := NB133_134.out; have hnc31 := NB134_133.out; have hcz32_0 : w30.cell? ⟨gb133, 0, none⟩ = some (.string a0_0) := (blk_cell BK133.out 0).trans rfl; have hcz32_1 : w30.cell? ⟨gb133, 1, none⟩ = some (.int .i64 a0_1) := (blk_cell BK133.out 1).trans rfl; have hcz32_2 : w30.cell? ⟨gb133, 2, none⟩ = some (.int .i64 a0_2) := (blk_cell BK133.out 2).trans rfl; have hfz32_0 := blk_frozen BK133.out 0; have hfz32_1 := blk_frozen BK133.out 1; have hfz32_2 := blk_frozen BK133.out 2; have hcz33_0 : w30.cell? ⟨gb134, 0, none⟩ = some (.string a1_0) := (blk_cell BK134.out 0).trans rfl; have hcz33_1 : w30.cell? ⟨gb134, 1, none⟩ = some (.int .i64 a1_1) := (blk_cell BK134.out 1).trans rfl; have hcz33_2 : w30.cell? ⟨gb134, 2, none⟩ = some (.int .i64 a1_2) := (blk_cell BK134.out 2).trans rfl; have hfz33_0 := blk_frozen BK134.out 0; have hfz33_1 := blk_frozen BK134.out 1; have hfz33_2 := blk_frozen BK134.out 2) | ((with_reducible refine gate_callee (f := 34) rfl ?_); refine goesL_ (some 10) rfl rfl Try.func34 (by kernel_rfl) rfl #[.string a0_0, .string a1_0] rfl (by (try simp only [List.map_toArray, List.map_cons, List.map_nil]); first | done | rfl | (simp only [List.length_drop, List.length_take]; rfl)) ?_; (with_reducible refine (interlockref04_Texts.calls k a0_0 a1_0 t135 _ A3.out).mono ?_); rintro e w' ⟨rfl, ⟨nd, rfl⟩⟩; refine ⟨_, rfl, ?_⟩))
        go_ret
        exact ⟨by first | rfl | (simp [errW_none, errW_some] <;> rfl) | (simp [*, errW_none, errW_some] <;> rfl), by repeat (first | (with_reducible first | exact HB.out | apply below_alloc | apply pw_below_drewN | apply below_drew1 | refine below_set ?_ GE133.out | refine below_set ?_ GE134.out) | exact HB.out)⟩
  · rw [if_neg c4] at H
    have c4b0 : (t135 == 0) = false := beq_eq_false_iff_ne.mpr c4
    have c4b1 : (t135 != 0) = true := bne_iff_ne.mpr c4
    obtain rfl := Option.some.inj H
    go_enter Try.func21, Try.ntmps21
    go_wp2_with (first | ((with_reducible refine gate_dst (N := 2) rfl ?_); refine box_event ?hg (N := 2) ?hd (cs := #[.string a0_0, .int .i64 a0_1, .int .i64 a0_2]) (t := 29) ?hr ?_; (case hd => rfl); (case hg => rfl); (case hr => first | (go_simp; done) | (go_simp; rfl)); intro gb133 hg w34 hbox hb; have n0_ := Aside0.mk (below_step (by repeat (first | (with_reducible first | exact HB.out | apply below_alloc | apply pw_below_drewN | apply below_drew1) | exact HB.out)) hb); have n1_ := Aside0.mk (hbox); have n2_ := Aside0.mk ((by rw [hg]; exact (below_size (by repeat (first | (with_reducible first | exact HB.out | apply below_alloc | apply pw_below_drewN | apply below_drew1) | exact HB.out))) : w.heap.size ≤ gb133)); have n3_ := Aside0.mk ((by rw [hg]; exact (below_size (by repeat (first | (with_reducible first | exact HB.out | apply below_alloc | apply pw_below_drewN | apply below_drew1) | exact HB.out))) : w.heap.size ≤ gb133)); clear HB; have HB := n0_; have BK133 := n1_; have GW133 := n2_; have GE133 := n3_; clear n0_ n1_ n2_ n3_; clear hb hbox hg) | ((with_reducible refine gate_dst (N := 3) rfl ?_); refine box_event ?hg (N := 3) ?hd (cs := #[.string a1_0, .int .i64 a1_1, .int .i64 a1_2]) (t := 29) ?hr ?_; (case hd => rfl); (case hg => rfl); (case hr => first | (go_simp; done) | (go_simp; rfl)); intro gb134 hg w35 hbox hb; have n0_ := Aside0.mk (blk_below (g := gb133) (o := .cells #[.string a0_0, .int .i64 a0_1, .int .i64 a0_2] 29 (0, 0)) (by (with_reducible repeat (first | refine blk_drewN ?_ _ | refine blk_drew ?_ | refine blk_alloc ?_ _)); exact BK133.out) hb); have n1_ := Aside0.mk (below_step (by repeat (first | (with_reducible first | exact HB.out | apply below_alloc | apply pw_below_drewN | apply below_drew1 | refine below_set ?_ GE133.out) | exact HB.out)) hb); have n2_ := Aside0.mk (hbox); have n3_ := Aside0.mk ((by rw [hg]; exact (below_size (by repeat (first | (with_reducible first | exact HB.out | apply below_alloc | apply pw_below_drewN | apply below_drew1 | refine below_set ?_ GE133.out) | exact HB.out))) : w.heap.size ≤ gb134)); have n4_ := Aside0.mk ((by rw [hg]; exact (below_size (by repeat (first | (with_reducible first | exact HB.out | apply below_alloc | apply pw_below_drewN | apply below_drew1 | refine below_set ?_ GE133.out) | exact HB.out))) : w.heap.size ≤ gb134)); have n5_ := Aside0.mk ((by rw [hg]; exact Nat.ne_of_lt (blk_lt (g := gb133) (o := .cells #[.string a0_0, .int .i64 a0_1, .int .i64 a0_2] 29 (0, 0)) (by (with_reducible repeat (first | refine blk_drewN ?_ _ | refine blk_drew ?_ | refine blk_alloc ?_ _)); exact BK133.out)) : gb133 ≠ gb134)); have n6_ := Aside0.mk ((by rw [hg]; exact Nat.ne_of_gt (blk_lt (g := gb133) (o := .cells #[.string a0_0, .int .i64 a0_1, .int .i64 a0_2] 29 (0, 0)) (by (with_reducible repeat (first | refine blk_drewN ?_ _ | refine blk_drew ?_ | refine blk_alloc ?_ _)); exact BK133.out)) : gb134 ≠ gb133)); clear BK133; clear HB; have BK133 := n0_; have HB := n1_; have BK134 := n2_; have GW134 := n3_; have GE134 := n4_; have NB133_134 := n5_; have NB134_133 := n6_; clear n0_ n1_ n2_ n3_ n4_ n5_ n6_; clear hb hbox hg; have hnb36 := NB133_134.out; have hnc36 := NB134_133.out; have hcz37_0 : w35.cell? ⟨gb133, 0, none⟩ = some (.string a0_0) := (blk_cell BK133.out 0).trans rfl; have hcz37_1 : w35.cell? ⟨gb133, 1, none⟩ = some (.int .i64 a0_1) := (blk_cell BK133.out 1).trans rfl; have hcz37_2 : w35.cell? ⟨gb133, 2, none⟩ = some (.int .i64 a0_2) := (blk_cell BK133.out 2).trans rfl; have hfz37_0 := blk_frozen BK133.out 0; have hfz37_1 := blk_frozen BK133.out 1; have hfz37_2 := blk_frozen BK133.out 2; have hcz38_0 : w35.cell? ⟨gb134, 0, none⟩ = some (.string a1_0) := (blk_cell BK134.out 0).trans rfl; have hcz38_1 : w35.cell? ⟨gb134, 1, none⟩ = some (.int .i64 a1_1) := (blk_cell BK134.out 1).trans rfl; have hcz38_2 : w35.cell? ⟨gb134, 2, none⟩ = some (.int .i64 a1_2) := (blk_cell BK134.out 2).trans rfl; have hfz38_0 := blk_frozen BK134.out 0; have hfz38_1 := blk_frozen BK134.out 1; have hfz38_2 := blk_frozen BK134.out 2) | ((with_reducible refine gate_callee (f := 34) rfl ?_); refine goesL_ (some 10) rfl rfl Try.func34 (by kernel_rfl) rfl #[.string a0_0, .string a1_0] rfl (by (try simp only [List.map_toArray, List.map_cons, List.map_nil]); first | done | rfl | (simp only [List.length_drop, List.length_take]; rfl)) ?_; (with_reducible refine (interlockref04_Texts.calls k a0_0 a1_0 t135 _ A3.out).mono ?_); rintro e w' ⟨rfl, ⟨nd, rfl⟩⟩; refine ⟨_, rfl, ?_⟩))
    go_ret
    exact ⟨by first | rfl | (simp [errW_none, errW_some] <;> rfl) | (simp [*, errW_none, errW_some] <;> rfl), by repeat (first | (with_reducible first | exact HB.out | apply below_alloc | apply pw_below_drewN | apply below_drew1 | refine below_set ?_ GE133.out | refine below_set ?_ GE134.out) | exact HB.out)⟩
end Go.Proofs.Ytjaddmflopahiaa.Q
end
section
namespace Go.Proofs.Bt
open Go Go.RowKit Go.Proofs.Ytjaddmflopahiaa.Q Go.Proofs.YtjaddmflopahiaaW.PrintWords
set_option linter.unusedVariables false
set_option linter.unusedSimpArgs false
def cmpL (a b : List UInt8) : Int := if Op.bytesLess a b = true then -1 else if (a == b) = true then 0 else 1
theorem cmpL_nil : cmpL [] [] = 0 := by simp [cmpL, Op.bytesLess]
theorem cmpL_l (y : UInt8) (b : List UInt8) : cmpL [] (y :: b) = -1 := by simp [cmpL, Op.bytesLess]
theorem cmpL_r (x : UInt8) (a : List UInt8) : cmpL (x :: a) [] = 1 := by simp [cmpL, Op.bytesLess]
theorem cmpL_eq (x : UInt8) (a b : List UInt8) : cmpL (x :: a) (x :: b) = cmpL a b := by simp [cmpL, Op.bytesLess]
theorem cmpL_lt {x y : UInt8} (a b : List UInt8) (h : x.toNat < y.toNat) : cmpL (x :: a) (y :: b) = -1 := by
  have : x < y := h
  simp [cmpL, Op.bytesLess, this]
theorem cmpL_gt {x y : UInt8} (a b : List UInt8) (h : y.toNat < x.toNat) : cmpL (x :: a) (y :: b) = 1 := by
  have h1 : ¬ x < y := fun h2 => by have : x.toNat < y.toNat := h2; omega
  have h2 : x ≠ y := fun e => by rw [e] at h; omega
  simp [cmpL, Op.bytesLess, h1, h2]
theorem len_size (x : ByteArray) : x.toList.length = x.size := by
  rw [ByteArray.toList_eq]
  rfl
theorem drop_byte (x : ByteArray) (i : Nat) (h : i < x.size) : ∃ u : UInt8, x.toList.drop i = u :: x.toList.drop (i + 1) ∧ bt x (i : Int) = (u.toNat : Int) := by
  have hl : i < x.toList.length := by rw [len_size]; exact h
  refine ⟨x.toList[i], List.drop_eq_getElem_cons hl, ?_⟩
  have h1 := bt_at x (i : Int) (by simpa using h)
  rw [← h1]
  congr 1
  have e : x.toList[i] = x.data.toList[i]'(by simpa using h) := by
    congr 1
    exact ByteArray.toList_eq x
  rw [e]
  rfl
theorem cmp_f (a b : Int) : interlockref04_cmp.f a b = some (if a < b then -1 else if a > b then 1 else 0) := by
  unfold interlockref04_cmp.f
  split
  · rfl
  · split <;> rfl
theorem texts_l0 (x y : ByteArray) (hx : x.size < 1000000) (hy : y.size < 1000000) : ∀ (k i : Nat), x.size < i + k → i ≤ x.size → i ≤ y.size → interlockref04_Texts.l0 (2 * k) x y (i : Int) = some (cmpL (x.toList.drop i) (y.toList.drop i))
  | 0, i, h1, h2, h3 => by omega
  | k + 1, i, h1, h2, h3 => by
    rw [show 2 * (k + 1) = 2 * k + 1 + 1 by omega]
    unfold interlockref04_Texts.l0
    by_cases hix : i < x.size
    · obtain ⟨u, hu, hbu⟩ := drop_byte x i hix
      rw [if_pos (by omega)]
      unfold interlockref04_Texts.j1
      by_cases hiy : i < y.size
      · obtain ⟨v, hv, hbv⟩ := drop_byte y i hiy
        rw [if_pos (decide_eq_true (by omega)), if_pos (by omega), if_pos (by omega), if_pos (by omega), hbu, hbv, hu, hv]
        by_cases he : (u.toNat : Int) = (v.toNat : Int)
        · have : u = v := UInt8.toNat_inj.1 (by omega)
          subst this
          rw [if_pos rfl, IntWalk.wrap64_in _ (by omega), cmpL_eq]
          exact texts_l0 x y hx hy k (i + 1) (by omega) (by omega) (by omega)
        · have hu2 := u.toNat_lt
          have hv2 := v.toNat_lt
          rw [if_neg he, IntWalk.wrap64_in _ (by omega), IntWalk.wrap64_in _ (by omega), cmp_f]
          show some _ = some _
          by_cases hlt : u.toNat < v.toNat
          · rw [if_pos (by omega), cmpL_lt _ _ hlt]
          · rw [if_neg (by omega), if_pos (by omega), cmpL_gt _ _ (by omega)]
      · have hiy2 : i = y.size := by omega
        have hd : y.toList.drop i = [] := List.drop_eq_nil_iff.2 (by rw [len_size]; omega)
        rw [if_neg (by simp; omega), cmp_f, hu, hd, cmpL_r]
        show some _ = some _
        rw [if_neg (by omega), if_pos (by omega)]
    · have hd : x.toList.drop i = [] := List.drop_eq_nil_iff.2 (by rw [len_size]; omega)
      rw [if_neg (by omega)]
      unfold interlockref04_Texts.j1
      rw [if_neg (by simp), cmp_f, hd]
      show some _ = some _
      by_cases hiy : i < y.size
      · obtain ⟨v, hv, hbv⟩ := drop_byte y i hiy
        rw [hv, cmpL_l, if_pos (by omega)]
      · have hd2 : y.toList.drop i = [] := List.drop_eq_nil_iff.2 (by rw [len_size]; omega)
        rw [hd2, cmpL_nil, if_neg (by omega), if_neg (by omega)]
theorem texts_f (x y : ByteArray) (hx : x.size < 1000000) (hy : y.size < 1000000) : interlockref04_Texts.f (2 * (x.size + 1)) x y = some (cmpB x y) := by
  unfold interlockref04_Texts.f
  exact texts_l0 x y hx hy (x.size + 1) 0 (by omega) (by omega) (by omega)
theorem cmpI_tri (a b : Int) : (a < b ∧ cmpI a b = -1) ∨ (a = b ∧ cmpI a b = 0) ∨ (b < a ∧ cmpI a b = 1) := by
  unfold cmpI
  rcases Int.lt_trichotomy a b with h | h | h
  · exact .inl ⟨h, by rw [if_pos h]⟩
  · exact .inr (.inl ⟨h, by rw [if_neg (by omega), if_neg (by omega)]⟩)
  · exact .inr (.inr ⟨h, by rw [if_neg (by omega), if_pos h]⟩)
theorem order_f (a b : S29) (ha : a.f0.size < 1000000) (hb : b.f0.size < 1000000) : interlockref08_Order.f (2 * (a.f0.size + 1)) a.f0 a.f1.f0 a.f1.f1 b.f0 b.f1.f0 b.f1.f1 = some (ord a b) := by
  unfold interlockref08_Order.f
  rw [texts_f _ _ ha hb]
  show (if cmpB a.f0 b.f0 = 0 then _ else some (cmpB a.f0 b.f0)) = _
  unfold ord
  by_cases h0 : cmpB a.f0 b.f0 = 0
  · rw [if_pos h0, if_pos h0]
    rcases cmpI_tri a.f1.f0 b.f1.f0 with ⟨h1, e1⟩ | ⟨h1, e1⟩ | ⟨h1, e1⟩
    · rw [e1, if_neg (by omega), if_pos h1, if_neg (by decide)]
    · rw [e1, if_pos h1, if_pos rfl]
      rcases cmpI_tri a.f1.f1 b.f1.f1 with ⟨h2, e2⟩ | ⟨h2, e2⟩ | ⟨h2, e2⟩
      · rw [e2, if_neg (by omega), if_pos h2]
      · rw [e2, if_pos h2]
      · rw [e2, if_neg (by omega), if_neg (by omega)]
    · rw [e1, if_neg (by omega), if_neg (by omega), if_neg (by decide)]
  · rw [if_neg h0, if_neg h0]
theorem reforder_calls (W : World) (a b : S29) (ha : a.f0.size < 1000000) (hb : b.f0.size < 1000000) : Calls Try.prog 21 #[entryV a, entryV b] W fun E w' => E = .returned (.int .i64 (ord a b)) ∧ Below W.heap.size W w' :=
  interlockref08_Order.calls _ _ _ _ _ _ _ _ W (order_f a b ha hb)
end Go.Proofs.Bt
end
