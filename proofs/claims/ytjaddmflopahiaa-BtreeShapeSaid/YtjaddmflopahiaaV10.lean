/- Packed by shake.py: YtjaddmflopahiaaP17 YtjaddmflopahiaaP18 YtjaddmflopahiaaH4 YtjaddmflopahiaaG1 YtjaddmflopahiaaG2 YtjaddmflopahiaaH5 -/
import Derived.Maps.RangeWalk
import Derived.Maps.OwnSet
import Derived.DeepKeys4
import Derived.Test.YtjaddmflopahiaaV9
section
namespace Go.Proofs.Bt
open Go Go.RowKit Go.Proofs.Ytjaddmflopahiaa.Q
set_option linter.unusedVariables false
set_option linter.unusedSimpArgs false
abbrev AllL (p : S29 → Prop) (l : List S29) : Prop := ∀ x ∈ l, p x
def AllK (p : S29 → Prop) : (h : Nat) → BT h → Prop
  | 0, ks => AllL p ks
  | h + 1, t => (∀ x ∈ t.1, p x) ∧ ∀ k ∈ t.2, AllK p h k
section
variable {p : S29 → Prop} (hz : p z29)
theorem mem_getD {α : Type} {l : List α} {i : Nat} {d : α} {p : α → Prop} (hl : ∀ x ∈ l, p x) (hd : p d) : p (l.getD i d) := by
  rw [List.getD_eq_getElem?_getD]
  cases h : l[i]? with
  | none => exact hd
  | some x => exact hl x (List.mem_of_getElem? h)
theorem mem_getLastD {α : Type} {l : List α} {d : α} {p : α → Prop} (hl : ∀ x ∈ l, p x) (hd : p d) : p (l.getLastD d) := by
  rw [List.getLastD_eq_getLast?]
  cases h : l.getLast? with
  | none => exact hd
  | some x => exact hl x (List.mem_of_getLast? h)
theorem mem_insAt2 {α : Type} {l : List α} {i : Nat} {x : α} {p : α → Prop} (hl : ∀ x ∈ l, p x) (hx : p x) : ∀ y ∈ insAt l i x, p y := by
  intro y hy
  unfold insAt at hy
  rcases List.mem_append.1 hy with h | h
  · exact hl y (List.mem_of_mem_take h)
  · rcases List.mem_cons.1 h with rfl | h
    · exact hx
    · exact hl y (List.mem_of_mem_drop h)
theorem mem_delAt2 {α : Type} {l : List α} {i : Nat} {p : α → Prop} (hl : ∀ x ∈ l, p x) : ∀ y ∈ delAt l i, p y := by
  intro y hy
  unfold delAt at hy
  rcases List.mem_append.1 hy with h | h
  · exact hl y (List.mem_of_mem_take h)
  · exact hl y (List.mem_of_mem_drop h)
theorem mem_set2 {α : Type} {l : List α} {i : Nat} {x : α} {p : α → Prop} (hl : ∀ x ∈ l, p x) (hx : p x) : ∀ y ∈ l.set i x, p y := by
  intro y hy
  rcases List.mem_or_eq_of_mem_set hy with h | rfl
  · exact hl y h
  · exact hx
theorem all_app {α : Type} {a b : List α} {p : α → Prop} (ha : ∀ x ∈ a, p x) (hb : ∀ x ∈ b, p x) : ∀ x ∈ a ++ b, p x := fun x hx => (List.mem_append.1 hx).elim (ha x) (hb x)
theorem all_cons {α : Type} {a : α} {b : List α} {p : α → Prop} (ha : p a) (hb : ∀ x ∈ b, p x) : ∀ x ∈ a :: b, p x := fun x hx => (List.mem_cons.1 hx).elim (fun h => h ▸ ha) (hb x)
theorem all_nil {α : Type} {p : α → Prop} : ∀ x ∈ ([] : List α), p x := fun x hx => by cases hx
theorem all_take {α : Type} {l : List α} {p : α → Prop} (hl : ∀ x ∈ l, p x) (i : Nat) : ∀ x ∈ l.take i, p x := fun x hx => hl x (List.mem_of_mem_take hx)
theorem all_drop {α : Type} {l : List α} {p : α → Prop} (hl : ∀ x ∈ l, p x) (i : Nat) : ∀ x ∈ l.drop i, p x := fun x hx => hl x (List.mem_of_mem_drop hx)
theorem all_dropLast {α : Type} {l : List α} {p : α → Prop} (hl : ∀ x ∈ l, p x) : ∀ x ∈ l.dropLast, p x := fun x hx => hl x ((List.dropLast_sublist l).subset hx)
theorem all_tail {α : Type} {l : List α} {p : α → Prop} (hl : ∀ x ∈ l, p x) : ∀ x ∈ l.tail, p x := fun x hx => hl x (List.mem_of_mem_tail hx)
theorem all_last {α : Type} {l : List α} {p : α → Prop} (hl : ∀ x ∈ l, p x) : ∀ x ∈ l.getLast?.toList, p x := by
  intro x hx
  cases h : l.getLast? with
  | none => rw [h] at hx; cases hx
  | some y =>
    rw [h] at hx
    simp at hx
    subst hx
    exact hl _ (List.mem_of_getLast? h)
theorem all_head {α : Type} {l : List α} {p : α → Prop} (hl : ∀ x ∈ l, p x) : ∀ x ∈ l.head?.toList, p x := by
  intro x hx
  cases l with
  | nil => cases hx
  | cons y l =>
    simp at hx
    subst hx
    exact hl _ List.mem_cons_self
theorem leaf_ins_all (l : List S29) (e : S29) (H : AllL p l) (he : p e) : AllL p (if found l e = true then l else insAt l (low l e) e) := by
  split
  · exact H
  · exact mem_insAt2 H he
theorem leaf_cut_all (l : List S29) (e : S29) (H : AllL p l) : AllL p (if found l e = true then delAt l (low l e) else l) := by
  split
  · exact mem_delAt2 H
  · exact H
include hz
theorem split_all : ∀ (h : Nat) (t : BT h), AllK p h t → p (bsplit h t).1 ∧ AllK p h (bsplit h t).2.1 ∧ AllK p h (bsplit h t).2.2
  | 0, ks, H => ⟨mem_getD (α := S29) H hz, all_take (α := S29) H 2, all_drop (α := S29) H 2⟩
  | h + 1, t, H => ⟨mem_getD H.1 hz, ⟨all_take H.1 2, all_take H.2 3⟩, ⟨all_drop H.1 3, all_drop H.2 3⟩⟩
theorem insIn_all {h : Nat} (rec : BT h → BT h × Bool) (ks : List S29) (ts : List (BT h)) (e : S29) (hk : ∀ x ∈ ks, p x) (ht : ∀ k ∈ ts, AllK p h k) (hr : ∀ k, AllK p h k → AllK p h (rec k).1) :
    AllK p (h + 1) (insIn (bsplit h) (bkeys h) rec ks ts e).1 := by
  unfold insIn
  cases hc : ts[kidIx ks e]? with
  | none => exact ⟨hk, ht⟩
  | some k =>
    have h1 := hr k (ht k (List.mem_of_getElem? hc))
    obtain ⟨s1, s2, s3⟩ := split_all hz h _ h1
    by_cases hg : 4 < (bkeys h (rec k).1).length
    · simp only [if_pos hg]
      exact ⟨mem_insAt2 hk s1, all_app (all_take ht _) (all_cons s2 (all_cons s3 (all_drop ht _)))⟩
    · simp only [if_neg hg]
      exact ⟨hk, all_app (all_take ht _) (all_cons h1 (all_drop ht _))⟩
theorem ins_all : ∀ (h : Nat) (t : BT h) (e : S29), AllK p h t → p e → AllK p h (ins h t e).1
  | 0, ks, e, H, he => leaf_ins_all ks e H he
  | h + 1, t, e, H, he => insIn_all hz (fun k => ins h k e) t.1 t.2 e H.1 H.2 fun k hk => ins_all h k e hk he
theorem tins_all (T : ST) (e : S29) (H : AllK p T.1 T.2) (he : p e) : AllK p (tinsS T e).1.1 (tinsS T e).1.2 := by
  obtain ⟨h, t⟩ := T
  have h1 := ins_all hz h t e H he
  obtain ⟨s1, s2, s3⟩ := split_all hz h _ h1
  unfold tinsS tins
  dsimp only
  by_cases hc : (ins h t e).2 = true ∧ 4 < (bkeys h (ins h t e).1).length
  · rw [if_pos hc]
    exact ⟨all_cons s1 all_nil, all_cons s2 (all_cons s3 all_nil)⟩
  · rw [if_neg hc]
    exact h1
theorem left_all : ∀ (h : Nat) (a b : BT h) (z : S29), AllK p h a → AllK p h b → p z → p (bleft h a b z).1 ∧ AllK p h (bleft h a b z).2.1 ∧ AllK p h (bleft h a b z).2.2
  | 0, a, b, z, H, G, hz2 => ⟨mem_getLastD (α := S29) H hz, all_dropLast (α := S29) H, all_cons (α := S29) (mem_getLastD (α := S29) H hz) G⟩
  | h + 1, a, b, z, H, G, hz2 => ⟨mem_getLastD H.1 hz, ⟨all_dropLast H.1, all_dropLast H.2⟩, ⟨all_cons hz2 G.1, all_app (all_last H.2) G.2⟩⟩
theorem right_all : ∀ (h : Nat) (a b : BT h) (z : S29), AllK p h a → AllK p h b → p z → p (bright h a b z).1 ∧ AllK p h (bright h a b z).2.1 ∧ AllK p h (bright h a b z).2.2
  | 0, a, b, z, H, G, hz2 => ⟨mem_getD (α := S29) G hz, all_app (α := S29) H (all_cons (mem_getD (α := S29) G hz) all_nil), all_tail (α := S29) G⟩
  | h + 1, a, b, z, H, G, hz2 => ⟨mem_getD G.1 hz, ⟨all_app H.1 (all_cons hz2 all_nil), all_app H.2 (all_head G.2)⟩, ⟨all_tail G.1, all_tail G.2⟩⟩
omit hz in
theorem join_all : ∀ (h : Nat) (a b : BT h) (z : S29), AllK p h a → AllK p h b → p z → AllK p h (bjoin h a b z)
  | 0, a, b, z, H, G, hz2 => all_app (α := S29) H G
  | h + 1, a, b, z, H, G, hz2 => ⟨all_app (all_app H.1 (all_cons hz2 all_nil)) G.1, all_app H.2 G.2⟩
theorem mend_all (h : Nat) (ks : List S29) (A : List (BT h)) (c : BT h) (B : List (BT h)) (hk : ∀ x ∈ ks, p x) (hA : ∀ k ∈ A, AllK p h k) (hc : AllK p h c) (hB : ∀ k ∈ B, AllK p h k) : AllK p (h + 1) (bmend h ks A c B) := by
  unfold bmend
  by_cases h2 : 2 ≤ blen h c
  · rw [if_pos h2]
    exact ⟨hk, all_app hA (all_cons hc hB)⟩
  · rw [if_neg h2]
    cases hl : A.getLast? with
    | some l =>
      have hla : AllK p h l := hA l (List.mem_of_getLast? hl)
      dsimp only
      by_cases h3 : 2 < blen h l
      · rw [if_pos h3]
        obtain ⟨s1, s2, s3⟩ := left_all hz h l c (ks.getD (A.length - 1) z29) hla hc (mem_getD hk hz)
        exact ⟨mem_set2 hk s1, all_app (all_dropLast hA) (all_cons s2 (all_cons s3 hB))⟩
      · rw [if_neg h3]
        cases B with
        | nil => exact ⟨mem_delAt2 hk, all_app (all_dropLast hA) (all_cons (join_all h l c _ hla hc (mem_getD hk hz)) all_nil)⟩
        | cons r B' =>
          have hr : AllK p h r := hB r List.mem_cons_self
          have hB' : ∀ k ∈ B', AllK p h k := fun k hk => hB k (List.mem_cons_of_mem _ hk)
          dsimp only
          by_cases h4 : 2 < blen h r
          · rw [if_pos h4]
            obtain ⟨s1, s2, s3⟩ := right_all hz h c r (ks.getD A.length z29) hc hr (mem_getD hk hz)
            exact ⟨mem_set2 hk s1, all_app hA (all_cons s2 (all_cons s3 hB'))⟩
          · rw [if_neg h4]
            exact ⟨mem_delAt2 hk, all_app (all_dropLast hA) (all_cons (join_all h l c _ hla hc (mem_getD hk hz)) (all_cons hr hB'))⟩
    | none =>
      cases B with
      | nil => exact ⟨hk, all_cons hc all_nil⟩
      | cons r B' =>
        have hr : AllK p h r := hB r List.mem_cons_self
        have hB' : ∀ k ∈ B', AllK p h k := fun k hk => hB k (List.mem_cons_of_mem _ hk)
        dsimp only
        by_cases h4 : 2 < blen h r
        · rw [if_pos h4]
          obtain ⟨s1, s2, s3⟩ := right_all hz h c r (ks.getD 0 z29) hc hr (mem_getD hk hz)
          exact ⟨mem_set2 hk s1, all_cons s2 (all_cons s3 hB')⟩
        · rw [if_neg h4]
          exact ⟨mem_delAt2 hk, all_cons (join_all h c r _ hc hr (mem_getD hk hz)) hB'⟩
theorem cut_all : ∀ (h : Nat) (t : BT h) (e : S29), AllK p h t → AllK p h (bcut h t e).1
  | 0, ks, e, H => leaf_cut_all ks e H
  | h + 1, t, e, H => by
    show AllK p (h + 1) (cutIn (bmend h) (fun k => bcut h k e) t.1 t.2 e).1
    unfold cutIn
    cases hc : t.2[kidIx t.1 e]? with
    | none => exact H
    | some k => exact mend_all hz h t.1 _ _ _ H.1 (all_take H.2 _) (cut_all h k e (H.2 k (List.mem_of_getElem? hc))) (all_drop H.2 _)
theorem tcut_all (T : ST) (e : S29) (H : AllK p T.1 T.2) : AllK p (tcutS T e).1.1 (tcutS T e).1.2 := by
  obtain ⟨h, t⟩ := T
  have h1 := cut_all hz h t e H
  unfold tcutS tcut
  dsimp only
  by_cases hc : (bcut h t e).2 = true
  · rw [if_pos hc]
    cases h with
    | zero => exact h1
    | succ h =>
      dsimp only
      cases hk : (bcut (h + 1) t e).1.1 with
      | nil =>
        cases ht : (bcut (h + 1) t e).1.2 with
        | nil => exact h1
        | cons k r => exact h1.2 k (by rw [ht]; exact List.mem_cons_self)
      | cons x r => exact h1
  · rw [if_neg hc]
    exact h1
end
end Go.Proofs.Bt
end
section
namespace Go.Proofs.Bt
open Go Go.RowKit Go.Proofs.Ytjaddmflopahiaa.Q
set_option linter.unusedVariables false
set_option linter.unusedSimpArgs false
def sep (l : List S29) : List It := l.map fun x => (x, false)
def loF (lo ks : List S29) : Nat → List S29
  | 0 => lo
  | i + 1 => (ks[i]?).toList
def hiF (hi ks : List S29) (i : Nat) : List S29 := match ks[i]? with | some z => [z] | none => hi
theorem loF_succ (lo ks : List S29) (j : Nat) : loF lo ks (j + 1) = (ks[j]?).toList := rfl
theorem lpre_snoc2 (X : List S29) (z : S29) (A : List (List It)) (a : List It) (h : A.length = X.length) : lpre (X ++ [z]) (A ++ [a]) = lpre X A ++ (a ++ [(z, false)]) := by
  unfold lpre
  rw [List.zip_append h, List.flatMap_append]
  simp
theorem il_sub (lo hi ks : List S29) (fs : List (List It)) (i : Nat) (f : List It) (hl : fs.length = ks.length + 1) (hf : fs[i]? = some f) :
    (sep (loF lo ks i) ++ f ++ sep (hiF hi ks i)).Sublist (sep lo ++ il ks fs ++ sep hi) := by
  obtain ⟨hi2, hfi⟩ := List.getElem?_eq_some_iff.1 hf
  obtain ⟨A, B, rfl, hA⟩ : ∃ A B, fs = A ++ f :: B ∧ A.length = i := by
    refine ⟨fs.take i, fs.drop (i + 1), ?_, by rw [List.length_take]; omega⟩
    rw [← hfi, List.getElem_cons_drop, List.take_append_drop]
  rw [List.length_append, List.length_cons] at hl
  rw [il_cut ks A f B (by omega), hA]
  have h1 : (sep (loF lo ks i)).Sublist (sep lo ++ lpre (ks.take i) A) := by
    cases i with
    | zero => exact List.sublist_append_left _ _
    | succ j =>
      obtain ⟨z, hz⟩ : ∃ z, ks[j]? = some z := ⟨_, List.getElem?_eq_getElem (by omega)⟩
      have e1 : loF lo ks (j + 1) = [z] := by rw [loF_succ, hz]; rfl
      have e2 : ks.take (j + 1) = ks.take j ++ [z] := by rw [List.take_add_one, hz]; rfl
      obtain ⟨A', a, rfl⟩ : ∃ A' a, A = A' ++ [a] := by
        rcases List.eq_nil_or_concat A with rfl | ⟨X, l, h⟩
        · simp at hA
        · exact ⟨X, l, by rw [h]; simp⟩
      rw [List.length_append, List.length_singleton] at hA hl
      rw [e1, e2, lpre_snoc2 _ _ _ _ (by rw [List.length_take]; omega), ← List.append_assoc, ← List.append_assoc]
      exact List.sublist_append_right _ _
  have h2 : (sep (hiF hi ks i)).Sublist (lpost (ks.drop i) B ++ sep hi) := by
    cases hz : ks[i]? with
    | none =>
      have e1 : hiF hi ks i = hi := by unfold hiF; rw [hz]
      rw [e1]
      exact List.sublist_append_right _ _
    | some z =>
      have e1 : hiF hi ks i = [z] := by unfold hiF; rw [hz]
      obtain ⟨h3, h4⟩ := List.getElem?_eq_some_iff.1 hz
      obtain ⟨b, B', rfl⟩ : ∃ b B', B = b :: B' := by
        cases B with
        | nil => simp at hl; omega
        | cons b B' => exact ⟨b, B', rfl⟩
      rw [e1, List.drop_eq_getElem_cons h3, h4, lpost_cons]
      exact List.Sublist.cons_cons _ (List.nil_sublist _)
  have := (h1.append (List.Sublist.refl f)).append h2
  simpa [List.append_assoc] using this
theorem kid_srt {h : Nat} {ks : List S29} {ts : List (BT h)} {k : BT h} {lo hi : List S29} {i : Nat} (hl : ts.length = ks.length + 1) (hk : ts[i]? = some k) (hs : Srt (sep lo ++ flat (h + 1) (ks, ts) ++ sep hi)) :
    Srt (sep (loF lo ks i) ++ flat h k ++ sep (hiF hi ks i)) :=
  List.Pairwise.sublist (il_sub lo hi ks (ts.map (flat h)) i (flat h k) (by rw [List.length_map]; exact hl) (by rw [List.getElem?_map, hk]; rfl)) hs
theorem srt_mid2 {lo hi : List S29} {F : List It} (hs : Srt (sep lo ++ F ++ sep hi)) : Srt F := List.Pairwise.sublist ((List.sublist_append_right (sep lo) F).trans (List.sublist_append_left _ (sep hi))) hs
theorem srt_lo {lo hi : List S29} {F : List It} (hs : Srt (sep lo ++ F ++ sep hi)) {x y : S29} {b : Bool} (hx : (x, b) ∈ F) (hy : y ∈ lo) : ¬ ord x y < 0 := by
  obtain ⟨h1, _, _⟩ := List.pairwise_append.1 hs
  obtain ⟨_, _, h2⟩ := List.pairwise_append.1 h1
  rcases h2 (y, false) (List.mem_map.2 ⟨y, hy, rfl⟩) (x, b) hx with h | ⟨h, _, _⟩
  · exact ltE_asymm h
  · obtain rfl : y = x := h
    exact ltE_irr y
theorem srt_hi {lo hi : List S29} {F : List It} (hs : Srt (sep lo ++ F ++ sep hi)) {x y : S29} {b : Bool} (hx : (x, b) ∈ F) (hy : y ∈ hi) : ord x y < 0 := by
  obtain ⟨_, _, h2⟩ := List.pairwise_append.1 hs
  rcases h2 (x, b) (List.mem_append_right _ hx) (y, false) (List.mem_map.2 ⟨y, hy, rfl⟩) with h | ⟨_, _, h⟩
  · exact h
  · cases h
theorem key_in {h : Nat} {ks : List S29} {ts : List (BT h)} (hl : ts.length = ks.length + 1) {x : S29} (hx : x ∈ ks) : (x, false) ∈ flat (h + 1) (ks, ts) :=
  (keys_sub ks (ts.map (flat h)) (by rw [List.length_map]; exact hl)).subset (List.mem_map.2 ⟨x, hx, rfl⟩)
theorem layK_at : ∀ (fs : List (Nat → List PgA)) (a i : Nat) (f : Nat → List PgA), fs[i]? = some f → ∃ b X Y, (lidx fs a)[i]? = some ((b : Nat) : Int) ∧ a ≤ b ∧ layK fs a = X ++ (f b ++ Y) ∧ X.length = b - a
  | [], a, i, f, h => by simp at h
  | g :: fs, a, 0, f, h => by
    simp at h
    subst h
    exact ⟨a, [], layK fs (a + (g a).length), rfl, Nat.le_refl _, rfl, by simp⟩
  | g :: fs, a, i + 1, f, h => by
    obtain ⟨b, X, Y, h1, h2, h3, h4⟩ := layK_at fs (a + (g a).length) i f (by simpa using h)
    refine ⟨b, g a ++ X, Y, h1, by omega, ?_, by rw [List.length_append, h4]; omega⟩
    show g a ++ layK fs (a + (g a).length) = _
    rw [h3, List.append_assoc]
theorem lidx_ge : ∀ (fs : List (Nat → List PgA)) (a : Nat) (k : Int), k ∈ lidx fs a → (a : Int) ≤ k
  | [], a, k, h => by cases h
  | g :: fs, a, k, h => by
    rcases List.mem_cons.1 h with rfl | h
    · exact Int.le_refl _
    · have := lidx_ge fs _ k h
      omega
theorem kids_ent {h : Nat} {ks : List S29} {ts : List (BT h)} (hl : ts.length = ks.length + 1) : (ts.map fun k => ent (flat h k)).flatten = ent (flat (h + 1) (ks, ts)) := by
  cases ts with
  | nil => simp at hl
  | cons t ts =>
    show _ = ent (il ks (flat h t :: ts.map (flat h)))
    show _ = ent (flat h t ++ lpost ks (ts.map (flat h)))
    rw [ent_app, lpost_ents _ _ (by rw [List.length_map]; simp at hl; omega), flatMap_map, List.map_cons, List.flatten_cons, List.flatMap_def]
theorem loF_ne {lo hi ks : List S29} {i : Nat} (hi2 : i ≤ ks.length) (hk : 1 ≤ ks.length) (h : loF lo ks i = []) : hiF hi ks i ≠ [] := by
  cases i with
  | zero =>
    obtain ⟨z, hz⟩ : ∃ z, ks[0]? = some z := ⟨_, List.getElem?_eq_getElem (by omega)⟩
    unfold hiF
    rw [hz]
    simp
  | succ j =>
    obtain ⟨z, hz⟩ : ∃ z, ks[j]? = some z := ⟨_, List.getElem?_eq_getElem (by omega)⟩
    rw [loF_succ, hz] at h
    cases h
theorem loF_len {lo ks : List S29} {p : S29 → Prop} (h1 : ∀ x ∈ lo, p x) (h2 : ∀ x ∈ ks, p x) (i : Nat) : ∀ x ∈ loF lo ks i, p x := by
  cases i with
  | zero => exact h1
  | succ j =>
    intro x hx
    rw [loF_succ] at hx
    cases hz : ks[j]? with
    | none => rw [hz] at hx; cases hx
    | some z =>
      rw [hz] at hx
      simp at hx
      subst hx
      exact h2 _ (List.mem_of_getElem? hz)
theorem hiF_len {hi ks : List S29} {p : S29 → Prop} (h1 : ∀ x ∈ hi, p x) (h2 : ∀ x ∈ ks, p x) (i : Nat) : ∀ x ∈ hiF hi ks i, p x := by
  intro x hx
  unfold hiF at hx
  cases hz : ks[i]? with
  | none => rw [hz] at hx; exact h1 x hx
  | some z =>
    rw [hz] at hx
    simp at hx
    subst hx
    exact h2 _ (List.mem_of_getElem? hz)
end Go.Proofs.Bt
end
section
namespace Go.Proofs.Bt
open Go Go.RowKit Go.Proofs.Ytjaddmflopahiaa.Q Go.Proofs.YtjaddmflopahiaaW.PrintWords
set_option linter.unusedVariables false
set_option linter.unusedSimpArgs false
def SmallK (x : S29) : Prop := x.f0.size < 1000000
theorem page_head {l : List Pg} {a : Nat} {x : PgA} {r : List PgA} (h : (l.map Pg.a).drop a = x :: r) : ∃ p, l[a]? = some p ∧ p.a = x := by
  have h1 : ((l.map Pg.a).drop a)[0]? = some x := by rw [h]; rfl
  rw [List.getElem?_drop, Nat.add_zero] at h1
  exact pages_at rfl h1
theorem page_kid {P : List PgA} {a b : Nat} {x : PgA} {X Y Z rest : List PgA} (h : P.drop a = x :: (X ++ (Y ++ Z)) ++ rest) (hb : a + 1 ≤ b) (hX : X.length = b - (a + 1)) : P.drop b = Y ++ (Z ++ rest) := by
  have e : b = a + (1 + X.length) := by omega
  rw [e, ← List.drop_drop, h, Nat.add_comm 1, List.cons_append, List.drop_succ_cons, List.append_assoc, List.drop_left, List.append_assoc]
theorem kids_rec (l : List Pg) (pv : Value) (h : Nat) (ks : List S29) (ts : List (BT h)) (W : World) (a d : Nat) (lo hi : List S29) (rest : List PgA)
    (ih : ∀ (t : BT h) (W : World) (a d : Nat) (lo hi : List S29) (lv hv : Value) (rest : List PgA), PgsAt W pv l → (l.map Pg.a).drop a = blay h t a ++ rest → d + h ≤ 40 → a ≠ 0 → (lo = [] → hi ≠ []) → Edge W lv lo → Edge W hv hi → Shape h 2 t → AllK SmallK h t →
      (∀ x ∈ lo, SmallK x) → (∀ x ∈ hi, SmallK x) → Srt (sep lo ++ flat h t ++ sep hi) → (ent (flat h t)).length < 90000 → Calls Try.prog 16 #[pv, .int .i64 (a : Int), .int .i64 (d : Int), lv, hv] W (ShapePost W (ent (flat h t)) ((d + h : Nat) : Int)))
    (hpgs : PgsAt W pv l) (hdr : (l.map Pg.a).drop a = blay (h + 1) (ks, ts) a ++ rest) (hd : d + (h + 1) ≤ 40) (hk1 : 1 ≤ ks.length) (hl : ts.length = ks.length + 1) (hsh : ∀ k ∈ ts, Shape h 2 k) (hall : AllK SmallK (h + 1) (ks, ts))
    (hlo : ∀ x ∈ lo, SmallK x) (hhi : ∀ x ∈ hi, SmallK x) (hs : Srt (sep lo ++ flat (h + 1) (ks, ts) ++ sep hi)) (hn : (ent (flat (h + 1) (ks, ts))).length < 90000)
    (i : Nat) (W' : World) (lv' hv' : Value) (kd : Int) (r : List S29) (h1 : (lidx (ts.map (blay h)) (a + 1))[i]? = some kd) (h2 : (ts.map fun k => ent (flat h k))[i]? = some r) (hb : Below W.heap.size W W') (e1 : Edge W' lv' (loF lo ks i)) (e2 : Edge W' hv' (hiF hi ks i)) :
    Calls Try.prog 16 #[pv, .int .i64 kd, .int .i64 ((d : Int) + 1), lv', hv'] W' (ShapePost W' r ((d + (h + 1) : Nat) : Int)) := by
  rw [List.getElem?_map] at h2
  cases hk : ts[i]? with
  | none => rw [hk] at h2; cases h2
  | some k =>
    rw [hk] at h2
    obtain rfl := Option.some.inj h2
    have hi9 := (List.getElem?_eq_some_iff.1 hk).1
    obtain ⟨b, X, Y, g1, g2, g3, g4⟩ := layK_at (ts.map (blay h)) (a + 1) i (blay h k) (by rw [List.getElem?_map, hk]; rfl)
    rw [g1] at h1
    obtain rfl := Option.some.inj h1
    have hle : (ent (flat h k)).length ≤ (ent (flat (h + 1) (ks, ts))).length := by
      rw [← kids_ent hl]
      have : (ent (flat h k)) ∈ ts.map fun k => ent (flat h k) := List.mem_map.2 ⟨k, List.mem_of_getElem? hk, rfl⟩
      obtain ⟨A, B, hAB⟩ := List.append_of_mem this
      rw [hAB, List.flatten_append, List.flatten_cons, List.length_append, List.length_append]
      omega
    have hm := List.mem_of_getElem? hk
    have key := ih k W' b (d + 1) (loF lo ks i) (hiF hi ks i) lv' hv' (Y ++ rest) (hpgs.below hb)
      (by
        have hdr2 : (l.map Pg.a).drop a = (false, ks, lidx (ts.map (blay h)) (a + 1)) :: (X ++ (blay h k b ++ Y)) ++ rest := by rw [← g3]; exact hdr
        exact page_kid hdr2 g2 g4)
      (by omega) (by omega) (loF_ne (by omega) hk1) e1 e2 (hsh k hm) (hall.2 k hm) (loF_len hlo hall.1 i) (hiF_len hhi hall.1 i) (kid_srt hl hk hs) (by omega)
    have e3 : ((d + 1 : Nat) : Int) = (d : Int) + 1 := by omega
    have e4 : d + 1 + h = d + (h + 1) := by omega
    rw [e3, e4] at key
    exact key
theorem kid_shape (l : List Pg) (pv : Value) (hl : l.length < 100000) : ∀ (h : Nat) (t : BT h) (W : World) (a d : Nat) (lo hi : List S29) (lv hv : Value) (rest : List PgA), PgsAt W pv l → (l.map Pg.a).drop a = blay h t a ++ rest → d + h ≤ 40 → a ≠ 0 → (lo = [] → hi ≠ []) → Edge W lv lo → Edge W hv hi → Shape h 2 t → AllK SmallK h t →
      (∀ x ∈ lo, SmallK x) → (∀ x ∈ hi, SmallK x) → Srt (sep lo ++ flat h t ++ sep hi) → (ent (flat h t)).length < 90000 → Calls Try.prog 16 #[pv, .int .i64 (a : Int), .int .i64 (d : Int), lv, hv] W (ShapePost W (ent (flat h t)) ((d + h : Nat) : Int))
  | 0, ks, W, a, d, lo, hi, lv, hv, rest, hpgs, hdr, hd, ha, hne, hlv, hhv, hsh, hall, hlo, hhi, hs, hn => by
    obtain ⟨p, hp, hpa⟩ := page_head (x := (true, ks, [])) (r := rest) hdr
    obtain ⟨lf, K, C, ks', kids⟩ := p
    have e1 : lf = true := congrArg (fun x : PgA => x.1) hpa
    have e2 : ks' = ks := congrArg (fun x : PgA => x.2.1) hpa
    have e3 : kids = [] := congrArg (fun x : PgA => x.2.2) hpa
    subst e1 e2 e3
    have hent : ent (flat 0 ks') = ks' := ent_ents ks'
    have key := shape_kid W l pv a d ⟨true, K, C, ks', []⟩ lo hi lv hv [ks'] (d : Int) (fun _ => []) (fun _ => []) hpgs hp hl (by omega) ha hne hlv hhv hsh.2 hsh.1 hall hlo hhi (srt_keys (srt_mid2 hs))
      (fun x hx y hy => srt_lo hs (b := true) (List.mem_map.2 ⟨x, hx, rfl⟩) hy) (fun x hx y hy => srt_hi hs (b := true) (List.mem_map.2 ⟨x, hx, rfl⟩) hy) (fun _ => ⟨rfl, rfl, rfl⟩) (fun h => by cases h)
    rw [List.flatten_singleton] at key
    rw [hent]
    exact key
  | h + 1, (ks, ts), W, a, d, lo, hi, lv, hv, rest, hpgs, hdr, hd, ha, hne, hlv, hhv, hsh, hall, hlo, hhi, hs, hn => by
    obtain ⟨p, hp, hpa⟩ := page_head (x := (false, ks, lidx (ts.map (blay h)) (a + 1))) (r := layK (ts.map (blay h)) (a + 1) ++ rest) hdr
    obtain ⟨lf, K, C, ks', kids⟩ := p
    have e1 : lf = false := congrArg (fun x : PgA => x.1) hpa
    have e2 : ks' = ks := congrArg (fun x : PgA => x.2.1) hpa
    have e3 : kids = lidx (ts.map (blay h)) (a + 1) := congrArg (fun x : PgA => x.2.2) hpa
    subst e1 e2 e3
    obtain ⟨s1, s2, s3, s4⟩ := hsh
    change 2 ≤ ks'.length at s1
    change ks'.length ≤ 4 at s2
    change ts.length = ks'.length + 1 at s3
    change ∀ k ∈ ts, Shape h 2 k at s4
    have key := shape_kid W l pv a d ⟨false, K, C, ks', lidx (ts.map (blay h)) (a + 1)⟩ lo hi lv hv (ts.map fun k => ent (flat h k)) ((d + (h + 1) : Nat) : Int) (loF lo ks') (hiF hi ks') hpgs hp hl (by omega) ha hne hlv hhv s2 s1 hall.1 hlo hhi (srt_seps s3 (srt_mid2 hs))
      (fun x hx y hy => srt_lo hs (key_in s3 hx) hy) (fun x hx y hy => srt_hi hs (key_in s3 hx) hy) (fun h => by cases h)
      (fun _ => ⟨by rw [lidx_len, List.length_map]; exact s3, by rw [List.length_map]; exact s3, by show 1 ≤ ks'.length; omega, fun k hk => by have := lidx_ge _ _ k hk; omega, by rw [kids_ent s3]; exact hn, rfl,
        fun i z hz => ⟨by rw [loF_succ]; show (ks'[i]?).toList = _; rw [show ks'[i]? = some z from hz]; rfl, by unfold hiF; rw [show ks'[i]? = some z from hz]⟩, by unfold hiF; rw [List.getElem?_eq_none (Nat.le_refl _)],
        fun i W' lv' hv' kd r h1 h2 hb e1 e2 => kids_rec l pv h ks' ts W a d lo hi rest (fun t W a d lo hi lv hv rest => kid_shape l pv hl h t W a d lo hi lv hv rest) hpgs hdr hd (by omega) s3 s4 hall hlo hhi hs hn i W' lv' hv' kd r h1 h2 hb e1 e2⟩)
    rw [kids_ent s3] at key
    exact key
theorem root_shape (l : List Pg) (pv : Value) (T : ST) (W : World) (hl : l.length < 100000) (hpgs : PgsAt W pv l) (hla : l.map Pg.a = pagesOf T) (hi : TInvS T) (hall : AllK SmallK T.1 T.2) (hn : (entS T).length ≤ 300) :
    Calls Try.prog 16 #[pv, .int .i64 0, .int .i64 0, .slice none 0 0, .slice none 0 0] W (ShapePost W (entS T) (T.1 : Int)) := by
  have hT : T.1 ≤ 39 := by
    rcases (deep_law T hi).2 with h | ⟨d, h, h2⟩
    · omega
    · by_cases hd : 5 ≤ d
      · have := Nat.pow_le_pow_right (show 0 < 3 by decide) hd
        have e : 3 ^ 5 = 243 := by decide
        omega
      · omega
  obtain ⟨h, t⟩ := T
  cases h with
  | zero =>
    obtain ⟨p, hp, hpa⟩ := page_head (l := l) (a := 0) (x := (true, t, [])) (r := []) (by rw [List.drop_zero, hla]; rfl)
    obtain ⟨lf, K, C, ks', kids⟩ := p
    have e1 : lf = true := congrArg (fun x : PgA => x.1) hpa
    have e2 : ks' = t := congrArg (fun x : PgA => x.2.1) hpa
    have e3 : kids = [] := congrArg (fun x : PgA => x.2.2) hpa
    subst e1 e2 e3
    have hent : entS ⟨0, ks'⟩ = ks' := ent_ents ks'
    have key := shape_rl W l pv 0 ⟨true, K, C, ks', []⟩ [ks'] 0 (fun _ => []) (fun _ => []) hpgs hp hl (by omega) rfl hi.shape.2 (Nat.zero_le _) hall (srt_keys hi.srt) (fun _ => ⟨rfl, rfl, rfl⟩) (fun h => by cases h)
    rw [List.flatten_singleton] at key
    rw [hent]
    exact key
  | succ h =>
    obtain ⟨ks, ts⟩ := t
    obtain ⟨p, hp, hpa⟩ := page_head (l := l) (a := 0) (x := (false, ks, lidx (ts.map (blay h)) 1)) (r := layK (ts.map (blay h)) 1) (by rw [List.drop_zero, hla]; rfl)
    obtain ⟨lf, K, C, ks', kids⟩ := p
    have e1 : lf = false := congrArg (fun x : PgA => x.1) hpa
    have e2 : ks' = ks := congrArg (fun x : PgA => x.2.1) hpa
    have e3 : kids = lidx (ts.map (blay h)) 1 := congrArg (fun x : PgA => x.2.2) hpa
    subst e1 e2 e3
    obtain ⟨s1, s2, s3, s4⟩ := hi.shape
    change 1 ≤ ks'.length at s1
    change ks'.length ≤ 4 at s2
    change ts.length = ks'.length + 1 at s3
    change ∀ k ∈ ts, Shape h 2 k at s4
    have hs : Srt (sep [] ++ flat (h + 1) (ks', ts) ++ sep []) := by
      show Srt ([] ++ flat (h + 1) (ks', ts) ++ [])
      rw [List.nil_append, List.append_nil]
      exact hi.srt
    have hent : entS ⟨h + 1, (ks', ts)⟩ = ent (flat (h + 1) (ks', ts)) := rfl
    have hT2 : h + 1 ≤ 39 := hT
    have hdr : (l.map Pg.a).drop 0 = blay (h + 1) (ks', ts) 0 ++ [] := by rw [List.drop_zero, hla, List.append_nil]; rfl
    have key := shape_ri W l pv 0 ⟨false, K, C, ks', lidx (ts.map (blay h)) 1⟩ (ts.map fun k => ent (flat h k)) ((0 + (h + 1) : Nat) : Int) (loF [] ks') (hiF [] ks') hpgs hp hl (by omega) rfl s2 s1 hall.1 (srt_seps s3 hi.srt) (fun h => by cases h)
      (fun _ => ⟨by rw [lidx_len, List.length_map]; exact s3, by rw [List.length_map]; exact s3, s1, fun k hk => by have := lidx_ge _ _ k hk; omega, by rw [kids_ent s3]; rw [hent] at hn; omega, rfl,
        fun i z hz => ⟨by rw [loF_succ]; show (ks'[i]?).toList = _; rw [show ks'[i]? = some z from hz]; rfl, by unfold hiF; rw [show ks'[i]? = some z from hz]⟩, by unfold hiF; rw [List.getElem?_eq_none (Nat.le_refl _)],
        fun i W' lv' hv' kd r h1 h2 hb e1 e2 => kids_rec l pv h ks' ts W 0 0 [] [] [] (fun t W a d lo hi lv hv rest => kid_shape l pv hl h t W a d lo hi lv hv rest) hpgs hdr (by omega) s1 s3 s4 hall (fun x hx => by cases hx) (fun x hx => by cases hx) hs (by rw [hent] at hn; omega) i W' lv' hv' kd r h1 h2 hb e1 e2⟩)
    rw [kids_ent s3, Nat.zero_add] at key
    exact key
end Go.Proofs.Bt
end
section
namespace Go.Proofs.Bt
open Go Go.RowKit Go.Proofs.Ytjaddmflopahiaa.Q Go.Proofs.YtjaddmflopahiaaW.PrintWords
open Go.Maps (Keyed)
set_option linter.unusedVariables false
set_option linter.unusedSimpArgs false
set_option maxRecDepth 100000
theorem laid29 : laidOutB Try.prog = true := by kernel_rfl
theorem row29 : (29 : TypeId) < Try.prog.types.size := of_decide_eq_true (by kernel_rfl)
theorem wide29 : (match Try.prog.underlying 29 with | some (.array _ _) | some (.struct _) => true | _ => false) = true := by rw [Try.underlying29]
theorem law29 : Keyed Try.prog 29 := Keyed.of_law (deep_law_laid laid29 (m := 3) (by omega) row29 (by kernel_rfl) wide29)
theorem cells29 : Try.prog.cellsOf 29 = 3 := by kernel_rfl
theorem cells27 : Try.prog.cellsOf 27 = 2 := by kernel_rfl
theorem cells9 : Try.prog.cellsOf 9 = 1 := by kernel_rfl
theorem cells3 : Try.prog.cellsOf 3 = 1 := by kernel_rfl
theorem keyT29 : Try.prog.keyType 29 = true := by kernel_rfl
theorem formed29 {a b c : Value} : (Value.agg #[a, b, c]).formed Try.prog 29 = true := by simp [Value.formed, Try.underlying29, cells29]
theorem lits27 (d : Nat) (a b : Int) (ha : (Lit.int .i64 a).wf = true) (hb : (Lit.int .i64 b).wf = true) : Try.prog.keyLits (d + 2) 27 [.int .i64 a, .int .i64 b] = some [.int .i64 a, .int .i64 b] := by
  unfold Program.keyLits
  rw [Try.underlying27]
  simp [cells27, cells3, Program.keyLits, Try.underlying3, ha, hb]
theorem lits29 (d : Nat) (x : S29) (h : wf29 x) : Try.prog.keyLits (d + 3) 29 [.string x.f0, .int .i64 x.f1.f0, .int .i64 x.f1.f1] = some [.string x.f0.data.toList, .int .i64 x.f1.f0, .int .i64 x.f1.f1] := by
  obtain ⟨h0, h1, h2⟩ := h
  have e := lits27 d _ _ h1 h2
  unfold Program.keyLits
  rw [Try.underlying29]
  simp [cells29, cells27, cells9]
  rw [e]
  simp [Program.keyLits, Try.underlying9, show x.f0.size ≤ maxLen from h0]
theorem key29 (x : S29) (h : wf29 x) : ∃ l, keyOf Try.prog 29 (entryV x) = some l := by
  obtain ⟨d, hd⟩ : ∃ d, Try.prog.types.size + 1 = d + 3 := ⟨Try.prog.types.size - 2, by have h29 : (29 : Nat) < Try.prog.types.size := row29; omega⟩
  unfold keyOf entryV
  rw [Try.underlying29]
  simp only [keyT29, formed29, Bool.and_self, if_true, hd]
  refine ⟨.string (keyBytes [.string x.f0.data.toList, .int .i64 x.f1.f0, .int .i64 x.f1.f1]), ?_⟩
  have e : (Value.agg #[.string x.f0, .int .i64 x.f1.f0, .int .i64 x.f1.f1]).cells.toList = [.string x.f0, .int .i64 x.f1.f0, .int .i64 x.f1.f1] := rfl
  rw [e, lits29 d x h]
  rfl
theorem lits9_inv {d : Nat} {a : Value} {ls : List Lit} (h : Try.prog.keyLits (d + 1) 9 [a] = some ls) : ∃ s, a = .string s ∧ s.size ≤ maxLen := by
  unfold Program.keyLits at h
  rw [Try.underlying9] at h
  cases a <;> simp at h
  exact ⟨_, rfl, h.1⟩
theorem lits3_inv {d : Nat} {a : Value} {ls : List Lit} (h : Try.prog.keyLits (d + 1) 3 [a] = some ls) : ∃ n, a = .int .i64 n ∧ (Lit.int .i64 n).wf = true := by
  unfold Program.keyLits at h
  rw [Try.underlying3] at h
  cases a <;> simp at h
  obtain ⟨⟨rfl, h⟩, _⟩ := h
  exact ⟨_, rfl, h⟩
theorem lits27_inv {d : Nat} {a b : Value} {ls : List Lit} (h : Try.prog.keyLits (d + 2) 27 [a, b] = some ls) : ∃ n m, a = .int .i64 n ∧ b = .int .i64 m ∧ (Lit.int .i64 n).wf = true ∧ (Lit.int .i64 m).wf = true := by
  unfold Program.keyLits at h
  rw [Try.underlying27] at h
  simp [cells27, cells3] at h
  cases h1 : Try.prog.keyLits (d + 1) 3 [a] with
  | none => rw [h1] at h; simp at h
  | some l1 =>
    cases h2 : Try.prog.keyLits (d + 1) 3 [b] with
    | none => rw [h1, h2] at h; simp at h
    | some l2 =>
      obtain ⟨n, rfl, w1⟩ := lits3_inv h1
      obtain ⟨m, rfl, w2⟩ := lits3_inv h2
      exact ⟨n, m, rfl, rfl, w1, w2⟩
theorem lits29_inv (d : Nat) (cs : List Value) (ls : List Lit) (h : Try.prog.keyLits (d + 3) 29 cs = some ls) : ∃ x : S29, wf29 x ∧ cs = [.string x.f0, .int .i64 x.f1.f0, .int .i64 x.f1.f1] := by
  unfold Program.keyLits at h
  rw [Try.underlying29] at h
  simp [cells29, cells27, cells9] at h
  obtain ⟨hl, h⟩ := h
  obtain ⟨a, b, c, rfl⟩ : ∃ a b c, cs = [a, b, c] := by
    rcases cs with _ | ⟨a, _ | ⟨b, _ | ⟨c, _ | ⟨d, r⟩⟩⟩⟩ <;> simp at hl
    exact ⟨_, _, _, rfl⟩
  change (Try.prog.keyLits (d + 2) 9 [a]).bind (Option.map List.flatten ∘ fun x => ((Try.prog.keyLits (d + 2) 27 [b, c]).bind fun y => some [y]).bind fun z => some (x :: z)) = some ls at h
  cases h1 : Try.prog.keyLits (d + 2) 9 [a] with
  | none => rw [h1] at h; simp at h
  | some l1 =>
    cases h2 : Try.prog.keyLits (d + 2) 27 [b, c] with
    | none => rw [h1, h2] at h; simp at h
    | some l2 =>
      obtain ⟨s, rfl, hs⟩ := lits9_inv h1
      obtain ⟨n, m, rfl, rfl, w1, w2⟩ := lits27_inv h2
      exact ⟨⟨s, ⟨n, m⟩⟩, ⟨hs, w1, w2⟩, rfl⟩
theorem key29_inv (v : Value) (l : Lit) (h : keyOf Try.prog 29 v = some l) : ∃ x : S29, wf29 x ∧ v = entryV x := by
  obtain ⟨d, hd⟩ : ∃ d, Try.prog.types.size + 1 = d + 3 := ⟨Try.prog.types.size - 2, by have h29 : (29 : Nat) < Try.prog.types.size := row29; omega⟩
  unfold keyOf at h
  rw [Try.underlying29] at h
  simp only [keyT29, Bool.true_and, hd] at h
  split at h
  · rename_i hf
    rw [Option.map_eq_some_iff] at h
    obtain ⟨ls, h1, _⟩ := h
    obtain ⟨x, hx, e⟩ := lits29_inv d _ ls h1
    refine ⟨x, hx, ?_⟩
    cases v <;> simp [Value.formed, Try.underlying29] at hf
    rename_i cs
    have e2 : cs.toList = [.string x.f0, .int .i64 x.f1.f0, .int .i64 x.f1.f1] := e
    have e3 : cs = #[.string x.f0, .int .i64 x.f1.f0, .int .i64 x.f1.f1] := by rw [← Array.toList_inj, e2]
    rw [e3]
    rfl
  · cases h
noncomputable def kl (x : S29) : Lit := (keyOf Try.prog 29 (entryV x)).getD (.bool false)
theorem kl_key {x : S29} (h : wf29 x) : keyOf Try.prog 29 (entryV x) = some (kl x) := by
  obtain ⟨l, hl⟩ := key29 x h
  unfold kl
  rw [hl]
  rfl
theorem entryV_inj {x y : S29} (h : entryV x = entryV y) : x = y := by
  obtain ⟨x0, x1, x2⟩ := x
  obtain ⟨y0, y1, y2⟩ := y
  unfold entryV at h
  injection h with h
  have := congrArg Array.toList h
  simp at this
  obtain ⟨rfl, rfl, rfl⟩ := this
  rfl
theorem kl_inj {x y : S29} (hx : wf29 x) (hy : wf29 y) (h : kl x = kl y) : x = y := entryV_inj (law29.inj (kl_key hx) (h ▸ kl_key hy))
theorem elem4_inv {v : Value} {z : DataW Unit × List MemPlace} (h : plainElem Try.prog 4 v = some z) : ∃ c, v = .bool c ∧ z.1 = .lit (.bool c) := by
  unfold plainElem at h
  rw [Try.underlying4] at h
  cases v <;> simp at h
  subst h
  exact ⟨_, rfl, rfl⟩
def MapD (D : DataW Unit) (f : S29 → Bool) : Prop := ∀ x, wf29 x → D.atKey (kl x) (.lit (.bool false)) = .lit (.bool (f x)) ∧ (f x = true → Maps.has D (kl x) = true)
def MapF (w : World) (b n : Nat) (f : S29 → Bool) : Prop := ∃ D : DataW Unit, w.ownsMap Try.prog 29 (plainElem Try.prog 4) b n D ∧ MapD D f
theorem MapF.made (w : World) : MapF (w.alloc (.map #[] 0)) w.heap.size 0 fun _ => false :=
  ⟨.map [], World.ownsMap_made _ _ _ _, fun x hx => ⟨rfl, fun h => by cases h⟩⟩
theorem MapF.move {w w' : World} {b n : Nat} {f : S29 → Bool} (h : MapF w b n f) (hm : w'.heap[b]? = w.heap[b]?) : MapF w' b n f := by
  obtain ⟨D, ⟨es, clock, h1, h2⟩, hd⟩ := h
  exact ⟨D, ⟨es, clock, hm.trans h1, h2⟩, hd⟩
theorem MapF.lt {w : World} {b n : Nat} {f : S29 → Bool} (h : MapF w b n f) : b < w.heap.size := by
  obtain ⟨D, h, _⟩ := h
  exact h.lt
end Go.Proofs.Bt
end
section
namespace Go.Proofs.Bt
open Go Go.RowKit Go.Proofs.Ytjaddmflopahiaa.Q Go.Proofs.YtjaddmflopahiaaW.PrintWords
open Go.Maps (Keyed)
set_option linter.unusedVariables false
set_option linter.unusedSimpArgs false
set_option maxRecDepth 100000
def RangeF (w : World) (b r n : Nat) (f : S29 → Bool) (vs : List S29) (cnt : Nat) : Prop :=
  ∃ (D : DataW Unit) (left : Lit → Bool), w.ranges Try.prog 29 (plainElem Try.prog 4) b r n D left cnt ∧ MapD D f ∧ (∀ x, wf29 x → f x = true → left (kl x) = true ∨ x ∈ vs) ∧ vs.Nodup ∧ ∀ x ∈ vs, wf29 x ∧ left (kl x) = false
theorem MapF.range {w : World} {b n : Nat} {f : S29 → Bool} (h : MapF w b n f) :
    ∃ w' cnt, (Instr.range 48 (.map (some b))).run Try.prog w = .ok (.pointer (some ⟨w.heap.size, 0, none⟩)) w' ∧ RangeF w' b w.heap.size n f [] cnt ∧ w.grownBy w' none ∧ w'.heap.size = w.heap.size + 1 := by
  obtain ⟨D, h1, h2⟩ := h
  obtain ⟨w', hrun, hr, hg, hs⟩ := h1.range law29 Try.underlying48
  exact ⟨w', _, hrun, ⟨D, _, hr, h2, fun x hx hf => .inl ((h2 x hx).2 hf), List.nodup_nil, fun x hx => by cases hx⟩, hg, hs⟩
theorem RangeF.next {w : World} {b r n cnt : Nat} {f : S29 → Bool} {vs : List S29} (h : RangeF w b r n f vs cnt) :
    ((∀ x, wf29 x → f x = true → x ∈ vs) ∧ (Instr.next (.pointer (some ⟨r, 0, none⟩)) false 0).run Try.prog w = .ok (.tuple #[.bool false]) w) ∨
    ∃ x w' cnt', wf29 x ∧ x ∉ vs ∧ (Instr.next (.pointer (some ⟨r, 0, none⟩)) false 0).run Try.prog w = .ok (.tuple #[.bool true, .agg #[.string x.f0, .int .i64 x.f1.f0, .int .i64 x.f1.f1], .bool (f x)]) w' ∧
      RangeF w' b r n f (x :: vs) cnt' ∧ cnt' < cnt ∧ w.grownBy w' (some r) ∧ w'.heap.size = w.heap.size ∧ (Instr.entry (.pointer (some ⟨r, 0, none⟩))).run Try.prog w' = .ok (.tuple #[.agg #[.string x.f0, .int .i64 x.f1.f0, .int .i64 x.f1.f1], .bool (f x)]) w' := by
  obtain ⟨D, left, hr, h2, h3, h4, h5⟩ := h
  rcases hr.next law29 0 with ⟨_, hl, hrun⟩ | ⟨key, v, l, y, w', cnt', hkey, hlk, hv, hat, hrun, hrg, hlt, hgr, hsz, hen⟩
  · refine .inl ⟨fun x hx hf => ?_, hrun⟩
    rcases h3 x hx hf with h | h
    · rw [hl] at h
      cases h
    · exact h
  · obtain ⟨x, hx, rfl⟩ := key29_inv key l hkey
    obtain ⟨c, rfl, hc⟩ := elem4_inv hv
    have hl : l = kl x := Option.some.inj (hkey.symm.trans (kl_key hx))
    subst hl
    have hfc : c = f x := by
      have e := (h2 x hx).1
      rw [hat, hc] at e
      injection e with e
      injection e
    subst hfc
    refine .inr ⟨x, w', cnt', hx, fun hm => ?_, hrun, ⟨D, _, hrg, h2, fun z hz hf => ?_, List.nodup_cons.2 ⟨fun hm => ?_, h4⟩, fun z hz => ?_⟩, hlt, hgr, hsz, hen⟩
    · rw [(h5 x hm).2] at hlk
      cases hlk
    · by_cases hzx : z = x
      · subst hzx
        exact .inr List.mem_cons_self
      · rcases h3 z hz hf with h | h
        · refine .inl ?_
          rw [h, Maps.sameKey_ne (fun e => hzx (kl_inj hz hx e))]
          rfl
        · exact .inr (List.mem_cons_of_mem _ h)
    · rw [(h5 x hm).2] at hlk
      cases hlk
    · rcases List.mem_cons.1 hz with rfl | hz
      · refine ⟨hx, ?_⟩
        rw [WideAt.sameKey_self (law29.key (kl_key hx))]
        simp
      · refine ⟨(h5 z hz).1, ?_⟩
        rw [(h5 z hz).2]
        rfl
theorem RangeF.move {w w' : World} {b r n cnt : Nat} {f : S29 → Bool} {vs : List S29} (h : RangeF w b r n f vs cnt) (hb : w'.heap[b]? = w.heap[b]?) (hr : w'.heap[r]? = w.heap[r]?) : RangeF w' b r n f vs cnt := by
  obtain ⟨D, left, ⟨es, clock, since, seen, c0, h1, h2, h3, h4, h5, h6⟩, hd⟩ := h
  exact ⟨D, left, ⟨es, clock, since, seen, c0, hb.trans h1, h2, h3, h4, hr.trans h5, h6⟩, hd⟩
theorem RangeF.lt {w : World} {b r n cnt : Nat} {f : S29 → Bool} {vs : List S29} (h : RangeF w b r n f vs cnt) : b < w.heap.size ∧ r < w.heap.size ∧ r ≠ b := by
  obtain ⟨D, left, h, _⟩ := h
  exact ⟨h.owns.lt, h.lt, h.ne⟩
def TT (w0 : World) (F : Nat → Prop) (W : World) (tp : Nat) (T : ST) (cT : Int) (up : Nat) (U : ST) (cU : Int) (R : List Chunk) : Prop := ∃ mU : MT U.1, abs U.1 mU = U.2 ∧ TS w0 F W tp T cT (treeT up U.1 mU cU ++ R)
section
variable {w0 W W' : World} {F : Nat → Prop} {tp up : Nat} {T U : ST} {cT cU : Int} {R R' : List Chunk}
theorem TT.swap (h : TT w0 F W tp T cT up U cU R) : TT w0 F W up U cU tp T cT R := by
  obtain ⟨mU, h1, mT, h2, s⟩ := h
  refine ⟨mT, h2, mU, h1, s.perm ?_⟩
  rw [← List.append_assoc, ← List.append_assoc]
  exact List.perm_append_comm.append_right R
theorem TT.rest (h : TT w0 F W tp T cT up U cU R) : St w0 F W R := by
  obtain ⟨mU, h1, s⟩ := h
  exact St.drop (A := treeT up U.1 mU cU) s.rest
theorem TT.keep (h : TT w0 F W tp T cT up U cU R) : Keep w0 W F := h.rest.keep
theorem TT.below (h : TT w0 F W tp T cT up U cU R) (hb : Below W.heap.size W W') : TT w0 F W' tp T cT up U cU R := by
  obtain ⟨mU, h1, s⟩ := h
  exact ⟨mU, h1, s.below hb⟩
theorem TT.upd (h : TT w0 F W tp T cT up U cU R) (k : ∀ X, St w0 F W (R ++ X) → St w0 F W' (R' ++ X)) : TT w0 F W' tp T cT up U cU R' := by
  obtain ⟨mU, h1, s⟩ := h
  refine ⟨mU, h1, s.upd fun X hX => ?_⟩
  have e : ((treeT up U.1 mU cU ++ R) ++ X).Perm (R ++ (treeT up U.1 mU cU ++ X)) := by
    rw [← List.append_assoc]
    exact List.perm_append_comm.append_right X
  have e2 : (R' ++ (treeT up U.1 mU cU ++ X)).Perm ((treeT up U.1 mU cU ++ R') ++ X) := by
    rw [← List.append_assoc]
    exact List.perm_append_comm.append_right X
  exact (k _ (hX.perm e)).perm e2
theorem TT.perm (h : TT w0 F W tp T cT up U cU R) (hp : R.Perm R') : TT w0 F W tp T cT up U cU R' := h.upd fun X hX => hX.perm (hp.append_right X)
theorem TT.drop {A : List Chunk} (h : TT w0 F W tp T cT up U cU (A ++ R)) : TT w0 F W tp T cT up U cU R := h.upd fun X hX => St.drop (A := A) (by rw [← List.append_assoc]; exact hX)
theorem TT.fresh (h : TT w0 F W tp T cT up U cU R) (hb : Below W.heap.size W W') (c : Chunk) (hc : c.H W') (hnd : ND c.bs) (hs : ∀ b ∈ c.bs, W.heap.size ≤ b) : TT w0 F W' tp T cT up U cU (c :: R) :=
  h.upd fun X hX => hX.fresh hb c hc hnd hs
end
section
variable (W w0 : World) (F : Nat → Prop) (tp up : Nat) (T U : ST) (cT cU : Int) (R : List Chunk) (e : S29)
end
theorem ins_mem {T : ST} (e z : S29) (hi : TInvS T) : z ∈ entS (tinsS T e).1 ↔ z = e ∨ z ∈ entS T := by
  have h := (tins_good T.1 T.2 e hi).2.1.mem z
  rw [← mem_ent, ← mem_ent] at h
  exact h
theorem cut_mem {T : ST} (e z : S29) (hi : TInvS T) : z ∈ entS (tcutS T e).1 ↔ z ≠ e ∧ z ∈ entS T := by
  have h := (tcut_good T.1 T.2 e hi).2.1.mem z
  rw [← mem_ent, ← mem_ent] at h
  exact h
end Go.Proofs.Bt
end
section
namespace Go.Proofs.Bt
open Go Go.RowKit Go.Proofs.Ytjaddmflopahiaa.Q Go.Proofs.YtjaddmflopahiaaW.PrintWords Go.Proofs.YtjaddmflopahiaaW.PrintLast Go.Proofs.YtjaddmflopahiaaW.PrintMore
set_option linter.unusedVariables false
set_option linter.unusedSimpArgs false
set_option maxRecDepth 100000
def SIp (w : World) (l : List S41) (tp j : Nat) (W : World) (T : ST) : Prop := TInvS T ∧ AllK SmallK T.1 T.2 ∧ (∀ z ∈ entS T, ∃ x ∈ l, z = x.f2) ∧ (entS T).length ≤ j ∧ TS w NoF W tp T ((entS T).length : Int) []
theorem all_ts2 (W w0 : World) (F : Nat → Prop) (tp : Nat) (T : ST) (cnt : Int) (R : List Chunk) (s : TS w0 F W tp T cnt R) (hi : TInvS T) (hb : (fromS T (lowS ⟨#[]⟩)).length < 90000) :
    Calls Try.prog 18 #[.pointer (some ⟨tp, 0, none⟩)] W fun E w' => ∃ v, E = .returned v ∧ TS w0 F w' tp T cnt (rowEC v (fromS T (lowS ⟨#[]⟩)) :: R) ∧ Below W.heap.size W w' := by
  have s0 := s
  obtain ⟨h, t⟩ := T
  obtain ⟨m, hm, sX⟩ := TS.open s
  subst hm
  have s' : St w0 F W (treeT tp h m cnt ++ R) := sX
  refine (all_calls W tp h m cnt (s'.tat 0 rfl) (s'.tree 1 rfl) (fit_of h _ _ _ hi.shape hi.srt) hb).mono ?_
  rintro E w' ⟨v, rfl, st⟩
  exact ⟨v, rfl, s0.made st, keep_below st.keep⟩
def SI (w : World) (l : List S41) (tp j : Nat) (W : World) : Prop := ∃ T, SIp w l tp j W T
theorem SI.below {w W : World} {l : List S41} {tp j : Nat} (h : SI w l tp j W) : Below w.heap.size w W := by
  obtain ⟨T, _, _, _, _, h⟩ := h
  exact keep_below h.keep
theorem SI.next {w W : World} {l : List S41} {tp j : Nat} (h : SI w l tp j W) : SI w l tp (j + 1) W := by
  obtain ⟨T, h1, h2, h3, h4, h5⟩ := h
  exact ⟨T, h1, h2, h3, by omega, h5⟩
theorem small0 : SmallK z29 := by show (0 : Nat) < 1000000; decide
theorem si_insert (w : World) (l : List S41) (tp j : Nat) (W : World) (x : S41) (hx : l[j]? = some x) (hl : l.length ≤ 300) (hsz : ∀ x ∈ l, x.f2.f0.size ≤ 500 ∧ x.f3.size ≤ 500) (h : SI w l tp j W) :
    Calls Try.prog 11 #[.pointer (some ⟨tp, 0, none⟩), entryV x.f2] W fun E w' => (∃ b, E = .returned (.bool b)) ∧ SI w l tp (j + 1) w' := by
  obtain ⟨T, h1, h2, h3, h4, h5⟩ := h
  have hj := (List.getElem?_eq_some_iff.1 hx).1
  have hm := List.mem_of_getElem? hx
  have k := insert_ts W w NoF tp T _ _ x.f2 h5 h1 (by omega) (by omega)
  rw [tins_count x.f2 h1 rfl] at k
  refine k.mono ?_
  rintro E w' ⟨rfl, hs⟩
  refine ⟨⟨_, rfl⟩, (tinsS T x.f2).1, (tins_ent x.f2 h1).1, tins_all small0 T x.f2 h2 (by have := (hsz x hm).1; show _ < _; omega), fun z hz => ?_, ?_, hs⟩
  · rcases (ins_mem x.f2 z h1).1 hz with rfl | hz
    · exact ⟨x, hm, rfl⟩
    · exact h3 z hz
  · rw [(tins_ent x.f2 h1).2.1]
    have := sins_le (entS T) x.f2
    omega
theorem si_delete (w : World) (l : List S41) (tp j : Nat) (W : World) (x : S41) (hx : l[j]? = some x) (hl : l.length ≤ 300) (h : SI w l tp j W) :
    Calls Try.prog 15 #[.pointer (some ⟨tp, 0, none⟩), entryV x.f2] W fun E w' => (∃ b, E = .returned (.bool b)) ∧ SI w l tp (j + 1) w' := by
  obtain ⟨T, h1, h2, h3, h4, h5⟩ := h
  have hj := (List.getElem?_eq_some_iff.1 hx).1
  have k := delete_ts W w NoF tp T _ _ x.f2 h5 h1 (by omega) (by omega)
  rw [tcut_count x.f2 h1 rfl] at k
  refine k.mono ?_
  rintro E w' ⟨rfl, hs⟩
  refine ⟨⟨_, rfl⟩, (tcutS T x.f2).1, (tcut_ent x.f2 h1).1, tcut_all small0 T x.f2 h2, fun z hz => h3 z ((cut_mem x.f2 z h1).1 hz).2, ?_, hs⟩
  rw [(tcut_ent x.f2 h1).2.1]
  have := sdel_le (entS T) x.f2
  omega
def kidsA (l : List PgA) : Nat := sumL (fun p => p.2.2.length) l
theorem kidsA_app (a b : List PgA) : kidsA (a ++ b) = kidsA a + kidsA b := by
  induction a with
  | nil => simp [kidsA, sumL]
  | cons x a ih =>
    show x.2.2.length + kidsA (a ++ b) = (x.2.2.length + kidsA a) + kidsA b
    omega
theorem kids_layK (h : Nat) (ih : ∀ (t : BT h) (a : Nat), kidsA (blay h t a) + 1 = (blay h t a).length) : ∀ (ts : List (BT h)) (a : Nat), kidsA (layK (ts.map (blay h)) a) + ts.length = (layK (ts.map (blay h)) a).length
  | [], a => rfl
  | t :: ts, a => by
    show kidsA (blay h t a ++ layK (ts.map (blay h)) (a + (blay h t a).length)) + (ts.length + 1) = (blay h t a ++ layK (ts.map (blay h)) (a + (blay h t a).length)).length
    have h1 := ih t a
    have h2 := kids_layK h ih ts (a + (blay h t a).length)
    rw [kidsA_app, List.length_append]
    omega
theorem kids_blay : ∀ (h : Nat) (t : BT h) (a : Nat), kidsA (blay h t a) + 1 = (blay h t a).length
  | 0, ks, a => rfl
  | h + 1, t, a => by
    have h1 := kids_layK h (kids_blay h) t.2 (a + 1)
    show (lidx (t.2.map (blay h)) (a + 1)).length + kidsA (layK (t.2.map (blay h)) (a + 1)) + 1 = (layK (t.2.map (blay h)) (a + 1)).length + 1
    rw [lidx_len, List.length_map]
    omega
def kidsP (l : List Pg) : Nat := kidsA (l.map Pg.a)
theorem kidsP_take {l : List Pg} {k : Nat} {p : Pg} (hp : l[k]? = some p) : kidsP (l.take (k + 1)) = kidsP (l.take k) + p.kids.length := by
  unfold kidsP
  rw [List.take_add_one, hp, List.map_append, kidsA_app]
  rfl
theorem kidsP_le (l : List Pg) (k : Nat) : kidsP (l.take k) ≤ kidsP l := by
  unfold kidsP
  conv => rhs; rw [← List.take_append_drop k l, List.map_append, kidsA_app]
  omega
theorem slice_I {w : World} {v : Value} {l : List Int} (h : RowI w v l) : ∃ A c, v = .slice A l.length c := by
  rcases h.2.2 with ⟨rfl, h0⟩ | ⟨g, c, cur, rfl, _⟩
  · exact ⟨_, _, by rw [h0]⟩
  · exact ⟨_, _, rfl⟩
set_option maxHeartbeats 4000000 in
theorem btreeshape_calls (w : World) (A0 : Option Addr) (c0 : Nat) (l : List S41) (hC : Kd.C k41 w A0 l.length l) (hcap : l.length ≤ c0) (hfar : ∀ x ∈ l, Far x.f2) : Calls Try.prog 4 #[.slice A0 l.length c0] w fun E w' => E = .returned (.bool true) ∧ Below w.heap.size w w' := by
  have mixed : Try.prog.follows Departure.mixedOrders = true := by kernel_rfl
  obtain ⟨R, hR⟩ : ∃ R, (fun E w' => E = Ending.returned (.bool true) ∧ Below w.heap.size w w') = R := ⟨_, rfl⟩
  have HR := Aside0.mk hR
  rw [hR]
  obtain ⟨n, hn⟩ : ∃ n, l.length = n := ⟨_, rfl⟩
  rw [hn] at hC hcap
  have HC := Aside0.mk hC
  have HFAR := Aside0.mk hfar
  have HN := Aside0.mk hn
  have HA := Aside0.mk (alive_calls w)
  have HCAP := Aside0.mk hcap
  rw [hn]
  clear hR hC hn hfar hcap
  cases hg : greatB l with
  | true =>
    have HG := Aside0.mk hg
    clear hg
    go_enter Try.func4, Try.ntmps4
    go_wp2_with (first
      | (go_at_call 9; refine HA.out.mono ?_; clear HA; rintro E w1 ⟨rfl, hb⟩; have HB1 := Aside0.mk hb; clear hb)
      | (go_at_call 14; refine (great_calls _ A0 n c0 l HN.out (Kd.C_below HC.out HB1.out) HCAP.out).mono ?_; rw [HG.out]; rintro E w2 ⟨rfl, hb⟩; have HB2 := Aside0.mk (HB1.out.trans (hb.mono HB1.out.size)); clear hb))
    first | (rw [← HR.out]) | (go_ret; rw [← HR.out])
    exact ⟨rfl, HB2.out⟩
  | false =>
    have HG := Aside0.mk hg
    have HSZ := Aside0.mk (great_no hg)
    have hn3 : n ≤ 300 := by have := (great_no hg).1; have := HN.out; omega
    clear hg
    go_enter Try.func4, Try.ntmps4
    go_wp2_with (first
      | (go_at_call 9; refine HA.out.mono ?_; clear HA; rintro E w1 ⟨rfl, hb⟩; have HB1 := Aside0.mk hb; clear hb)
      | (go_at_call 14; refine (great_calls _ A0 n c0 l HN.out (Kd.C_below HC.out HB1.out) HCAP.out).mono ?_; rw [HG.out]; rintro E w2 ⟨rfl, hb⟩; have HB2 := Aside0.mk (HB1.out.trans (hb.mono HB1.out.size)); clear hb)
      | (go_at_call 10; refine (new_ts _ w NoF [] ⟨Keep.of_below HB2.out _, fun c hc => (by cases hc), fun a => (by simp [fpc]), fun b hb => (by simp [fpc] at hb)⟩).mono ?_; rintro E w3 ⟨tp, rfl, hs⟩; have HS := Aside0.mk hs; clear hs))
    have HS0 := Aside0.mk (show SI w l tp 0 w3 from ⟨⟨0, ([] : List S29)⟩, tinv0, fun x hx => (by cases hx), fun z hz => (by have e : entS ⟨0, ([] : List S29)⟩ = [] := rfl; rw [e] at hz; simp at hz), Nat.le_refl _, HS.out⟩)
    clear HS
    go_loopg [4] n (fun gq v4 wx => ∃ j : Nat, v4 = .int .i64 j ∧ j + gq = n ∧ Aside0 (SI w l tp j wx))
    case atStart => exact ⟨0, rfl, by omega, HS0⟩
    case round =>
      clear HS0 HB1 HB2
      obtain ⟨j, rfl, hj, HS⟩ := hrel
      cases gk with
      | succ gq =>
        have hjn : j < n := by omega
        have hjn2 : (j : Int) < (n : Int) := by omega
        have hj0 : (0 : Int) ≤ (j : Int) := by omega
        have hj9 : (j : Int) ≤ 300 := by omega
        obtain ⟨x, hx⟩ : ∃ x, l[j]? = some x := ⟨_, List.getElem?_eq_getElem (by rw [HN.out]; exact hjn)⟩
        have hrx : rd_T41 l (j : Int) = x := by simp [rd_T41, List.getD_eq_getElem?_getD, hx]
        obtain ⟨ad, rfl, d0, d1, d2, d3, d4, d5⟩ := at_T41 (Kd.C_below HC.out HS.out.below) (j : Int) hj0 hjn2
        rw [hrx, Int.toNat_natCast] at d0 d1 d2 d3 d4 d5
        have HX := Aside0.mk hx
        have HCEL := Aside0.mk (show ∀ W', Below w.heap.size w W' → W'.cell? (ad.add (j * 6)) = some (.int .i64 x.f0) ∧ W'.cell? ⟨(ad.add (j * 6)).block, (ad.add (j * 6)).off + 2, none⟩ = some (.string x.f2.f0) ∧ W'.cell? ⟨(ad.add (j * 6)).block, (ad.add (j * 6)).off + 3, none⟩ = some (.int .i64 x.f2.f1.f0) ∧ W'.cell? ⟨(ad.add (j * 6)).block, (ad.add (j * 6)).off + 4, none⟩ = some (.int .i64 x.f2.f1.f1) from fun W' hb => by
          obtain ⟨ad', e, g0, g1, g2, g3, g4, g5⟩ := at_T41 (Kd.C_below HC.out hb) (j : Int) hj0 hjn2
          cases e
          rw [hrx, Int.toNat_natCast] at g0 g1 g2 g3 g4 g5
          exact ⟨g0, g2, g3, g4⟩)
        clear hrx hx
        obtain ⟨q, hq⟩ : ∃ q, bits .and .i64 (j : Int) 7 = q := ⟨_, rfl⟩
        obtain ⟨wh, mo, e, tq⟩ := x
        obtain ⟨e0, e1⟩ := e
        dsimp only at d0 d1 d2 d3 d4 d5 HCEL
        by_cases h0 : wh = 0
        · subst h0
          by_cases hq0 : q ≠ 0 ∧ j + 1 < n
          · have hz1 : (q != 0) = true := by simp [hq0.1]
            have hz2 : (j : Int) + 1 < (n : Int) := by omega
            go_wp2_with (go_at_call 11; refine (si_insert w l tp j wr ⟨0, mo, ⟨e0, e1⟩, tq⟩ HX.out (by rw [HN.out]; omega) HSZ.out.2 HS.out).mono ?_; clear d0 d1 d2 d3 d4 d5; rintro E w4 ⟨⟨b, rfl⟩, hs4⟩; have HS2 := Aside0.mk hs4; obtain ⟨d0, -, -, -⟩ := HCEL.out _ HS2.out.below; clear hs4)
            go_roundg gq
            case measure => omega
            case rel => exact ⟨j + 1, by go_num, by omega, HS2⟩
          by_cases hq1 : q = 0
          · subst hq1
            have GA : True := trivial
            have G0 : True := trivial
            have G1 : True := trivial
            go_wp2_with (first
              | (clear GA; go_at_call 11; refine (si_insert w l tp j wr ⟨0, mo, ⟨e0, e1⟩, tq⟩ HX.out (by rw [HN.out]; omega) HSZ.out.2 HS.out).mono ?_; clear d0 d1 d2 d3 d4 d5; rintro E w4 ⟨⟨b, rfl⟩, hs4⟩; have HS2 := Aside0.mk hs4; obtain ⟨d0, -, -, -⟩ := HCEL.out _ HS2.out.below; clear hs4; obtain ⟨T, hi, hall, hmem, hle, hts⟩ := HS2.out; have hfr : ∀ z ∈ entS T, Far z := (fun z hz => (by obtain ⟨y, hy, rfl⟩ := hmem z hz; exact HFAR.out y hy)); have hpl : (pagesOf T).length ≤ 301 := (by have := (deep_law T hi).1; omega); have HPL := Aside0.mk hpl; have HALL := Aside0.mk hall; have HI := Aside0.mk hi; have HALLE := Aside0.mk (all_ent T hi hfr); have HLE := Aside0.mk (show (entS T).length ≤ 300 by omega); have HTS := Aside0.mk hts; have HMEM := Aside0.mk hmem; have HLJ := Aside0.mk hle; clear hi hall hmem hle hts hfr hpl HS2)
              | (clear G0; go_at_call 12; refine (pages_ts _ w NoF tp T _ _ HTS.out HI.out (by have := HPL.out; omega)).mono ?_; rintro E w5 ⟨g, np, c, pl, rfl, hpl, hs5⟩; have HPG := Aside0.mk hpl; have HS5 := Aside0.mk hs5; clear hpl hs5)
              | (clear G1; go_at_call 16; refine (root_shape pl _ T _ (by rw [← List.length_map (f := Pg.a), HPG.out]; have := HPL.out; omega) (HS5.out.rest.get 0 rfl) HPG.out HI.out HALL.out HLE.out).mono ?_; rintro E w6 ⟨v, rfl, hrow, hb6⟩; have HROW := Aside0.mk hrow; have HS6 := Aside0.mk (HS5.out.below hb6); clear hrow hb6)
              | (go_at_call 18; refine (all_ts2 _ w NoF tp T _ _ HS6.out HI.out (by rw [HALLE.out]; have := HLE.out; omega)).mono ?_; rw [HALLE.out]; rintro E w7 ⟨va, rfl, hs7, hb7⟩; have HS7 := Aside0.mk hs7; have HB7 := Aside0.mk hb7; clear hs7 hb7)
              | (go_at_call 17; refine (same_calls _ v va (entS T) (Row.below HROW.out HB7.out) (HS7.out.rest.rowE 0 rfl) (by have := HLE.out; omega)).mono ?_; rintro E w8 ⟨rfl, hb8⟩; have HS8 := Aside0.mk (HS7.out.below hb8); clear hb8))
            have hpa := (HS8.out.rest.get 1 rfl : PgsAt w8 (.slice (some ⟨g, 0, none⟩) np c) pl)
            obtain rfl : np = pl.length := by
              rcases hpa.1.2.2 with ⟨h1, _⟩ | ⟨g', c', cur, h1, _⟩
              · simp at h1
              · simp at h1
                exact h1.2.1
            obtain ⟨np, hnp⟩ : ∃ np, pl.length = np := ⟨_, rfl⟩
            have HNP := Aside0.mk hnp
            have HPA := Aside0.mk hpa
            have hks : kidsP pl + 1 = np := by
              have h1 := kids_blay T.1 T.2 0
              have h2 : (pagesOf T).length = np := by rw [← HPG.out, List.length_map]; exact hnp
              have h3 : kidsP pl = kidsA (pagesOf T) := by unfold kidsP; rw [HPG.out]
              rw [h3, ← h2]
              exact h1
            have hnp9 : np ≤ 301 := by
              have := HPL.out
              rw [← HPG.out, List.length_map, hnp] at this
              exact this
            have HEND := Aside0.mk (show SI w l tp (j + 1) w8 from ⟨T, HI.out, HALL.out, HMEM.out, HLJ.out, (HS8.out.upd fun X hX => St.drop (A := [_, _]) hX)⟩)
            rw [hnp]
            clear hpa hnp HTS HS5 HS6 HS7 HS8 HB7 HROW HPG HMEM HLJ HALL HI HALLE HLE HPL
            go_loopg [9, 10] np (fun gq2 v9 v10 wx => ∃ k : Nat, v9 = .int .i64 ((kidsP (pl.take k) : Nat) : Int) ∧ v10 = .int .i64 k ∧ k + gq2 = np ∧ Aside0 (wx = w8))
            case atStart => exact ⟨0, rfl, rfl, by omega, Aside0.mk rfl⟩
            case round =>
              obtain ⟨k, rfl, rfl, hk, HW⟩ := hrel
              obtain rfl := HW.out
              have hle9 := kidsP_le pl k
              obtain ⟨s, hs⟩ : ∃ s, kidsP (pl.take k) = s := ⟨_, rfl⟩
              have HSUM := Aside0.mk hs
              rw [hs] at hle9
              rw [hs]
              clear hs HW
              have hs0 : (0 : Int) ≤ (s : Int) := by omega
              have hs9 : (s : Int) ≤ 300 := by omega
              cases gk with
              | succ gq2 =>
                have hkn : k < np := by omega
                have hkn2 : (k : Int) < (np : Int) := by omega
                have hk0 : (0 : Int) ≤ (k : Int) := by omega
                have hk9 : (k : Int) ≤ 300 := by omega
                obtain ⟨p, hp⟩ : ∃ p, pl[k]? = some p := ⟨_, List.getElem?_eq_getElem (by rw [HNP.out]; exact hkn)⟩
                obtain ⟨g2, c2, e2, -, -, f2⟩ := PgsAt.cells HPA.out hp
                obtain ⟨rfl, -, rfl⟩ : g = g2 ∧ True ∧ c = c2 := by
                  injection e2 with e1 e2 e3
                  injection e1 with e1
                  injection e1 with e1
                  exact ⟨e1, trivial, e3⟩
                obtain ⟨AC, cC, hC9⟩ := slice_I (HPA.out.2 p (List.mem_of_getElem? hp)).2
                rw [hC9] at f2
                have hstep := kidsP_take hp
                rw [HSUM.out] at hstep
                have hle8 := kidsP_le pl (k + 1)
                rw [hstep] at hle8
                have HSTEP := Aside0.mk hstep
                obtain ⟨z, hz⟩ : ∃ z, p.kids.length = z := ⟨_, rfl⟩
                rw [hz] at f2 hle8 HSTEP
                have hz9 : (s : Int) + (z : Int) ≤ 300 := by omega
                have hz0 : (0 : Int) ≤ (z : Int) := by omega
                clear hstep hp hC9 hz e2
                go_wp2
                go_roundg gq2
                case measure => omega
                case rel => exact ⟨k + 1, by rw [HSTEP.out]; go_num, by go_num, by omega, Aside0.mk rfl⟩
              | zero =>
                obtain rfl : k = np := by omega
                have hsum : s + 1 = k := by
                  have := HSUM.out
                  rw [List.take_of_length_le (by rw [HNP.out]; exact Nat.le_refl _)] at this
                  omega
                have hsn : ((s : Int) != (k : Int) - 1) = false := by simp; omega
                go_wp2
                go_roundg gq
                case measure => omega
                case rel => exact ⟨j + 1, by go_num, by omega, HEND⟩
          have hz1 : (q != 0) = true := by simp [hq1]
          have hz2 : decide ((j : Int) + 1 < (n : Int)) = false := decide_eq_false (by omega)
          have GA : True := trivial
          have G0 : True := trivial
          have G1 : True := trivial
          go_wp2_with (first
            | (clear GA; go_at_call 11; refine (si_insert w l tp j wr ⟨0, mo, ⟨e0, e1⟩, tq⟩ HX.out (by rw [HN.out]; omega) HSZ.out.2 HS.out).mono ?_; clear d0 d1 d2 d3 d4 d5; rintro E w4 ⟨⟨b, rfl⟩, hs4⟩; have HS2 := Aside0.mk hs4; obtain ⟨d0, -, -, -⟩ := HCEL.out _ HS2.out.below; clear hs4; obtain ⟨T, hi, hall, hmem, hle, hts⟩ := HS2.out; have hfr : ∀ z ∈ entS T, Far z := (fun z hz => (by obtain ⟨y, hy, rfl⟩ := hmem z hz; exact HFAR.out y hy)); have hpl : (pagesOf T).length ≤ 301 := (by have := (deep_law T hi).1; omega); have HPL := Aside0.mk hpl; have HALL := Aside0.mk hall; have HI := Aside0.mk hi; have HALLE := Aside0.mk (all_ent T hi hfr); have HLE := Aside0.mk (show (entS T).length ≤ 300 by omega); have HTS := Aside0.mk hts; have HMEM := Aside0.mk hmem; have HLJ := Aside0.mk hle; clear hi hall hmem hle hts hfr hpl HS2)
            | (clear G0; go_at_call 12; refine (pages_ts _ w NoF tp T _ _ HTS.out HI.out (by have := HPL.out; omega)).mono ?_; rintro E w5 ⟨g, np, c, pl, rfl, hpl, hs5⟩; have HPG := Aside0.mk hpl; have HS5 := Aside0.mk hs5; clear hpl hs5)
            | (clear G1; go_at_call 16; refine (root_shape pl _ T _ (by rw [← List.length_map (f := Pg.a), HPG.out]; have := HPL.out; omega) (HS5.out.rest.get 0 rfl) HPG.out HI.out HALL.out HLE.out).mono ?_; rintro E w6 ⟨v, rfl, hrow, hb6⟩; have HROW := Aside0.mk hrow; have HS6 := Aside0.mk (HS5.out.below hb6); clear hrow hb6)
            | (go_at_call 18; refine (all_ts2 _ w NoF tp T _ _ HS6.out HI.out (by rw [HALLE.out]; have := HLE.out; omega)).mono ?_; rw [HALLE.out]; rintro E w7 ⟨va, rfl, hs7, hb7⟩; have HS7 := Aside0.mk hs7; have HB7 := Aside0.mk hb7; clear hs7 hb7)
            | (go_at_call 17; refine (same_calls _ v va (entS T) (Row.below HROW.out HB7.out) (HS7.out.rest.rowE 0 rfl) (by have := HLE.out; omega)).mono ?_; rintro E w8 ⟨rfl, hb8⟩; have HS8 := Aside0.mk (HS7.out.below hb8); clear hb8))
          have hpa := (HS8.out.rest.get 1 rfl : PgsAt w8 (.slice (some ⟨g, 0, none⟩) np c) pl)
          obtain rfl : np = pl.length := by
            rcases hpa.1.2.2 with ⟨h1, _⟩ | ⟨g', c', cur, h1, _⟩
            · simp at h1
            · simp at h1
              exact h1.2.1
          obtain ⟨np, hnp⟩ : ∃ np, pl.length = np := ⟨_, rfl⟩
          have HNP := Aside0.mk hnp
          have HPA := Aside0.mk hpa
          have hks : kidsP pl + 1 = np := by
            have h1 := kids_blay T.1 T.2 0
            have h2 : (pagesOf T).length = np := by rw [← HPG.out, List.length_map]; exact hnp
            have h3 : kidsP pl = kidsA (pagesOf T) := by unfold kidsP; rw [HPG.out]
            rw [h3, ← h2]
            exact h1
          have hnp9 : np ≤ 301 := by
            have := HPL.out
            rw [← HPG.out, List.length_map, hnp] at this
            exact this
          have HEND := Aside0.mk (show SI w l tp (j + 1) w8 from ⟨T, HI.out, HALL.out, HMEM.out, HLJ.out, (HS8.out.upd fun X hX => St.drop (A := [_, _]) hX)⟩)
          rw [hnp]
          clear hpa hnp HTS HS5 HS6 HS7 HS8 HB7 HROW HPG HMEM HLJ HALL HI HALLE HLE HPL
          go_loopg [9, 10] np (fun gq2 v9 v10 wx => ∃ k : Nat, v9 = .int .i64 ((kidsP (pl.take k) : Nat) : Int) ∧ v10 = .int .i64 k ∧ k + gq2 = np ∧ Aside0 (wx = w8))
          case atStart => exact ⟨0, rfl, rfl, by omega, Aside0.mk rfl⟩
          case round =>
            obtain ⟨k, rfl, rfl, hk, HW⟩ := hrel
            obtain rfl := HW.out
            have hle9 := kidsP_le pl k
            obtain ⟨s, hs⟩ : ∃ s, kidsP (pl.take k) = s := ⟨_, rfl⟩
            have HSUM := Aside0.mk hs
            rw [hs] at hle9
            rw [hs]
            clear hs HW
            have hs0 : (0 : Int) ≤ (s : Int) := by omega
            have hs9 : (s : Int) ≤ 300 := by omega
            cases gk with
            | succ gq2 =>
              have hkn : k < np := by omega
              have hkn2 : (k : Int) < (np : Int) := by omega
              have hk0 : (0 : Int) ≤ (k : Int) := by omega
              have hk9 : (k : Int) ≤ 300 := by omega
              obtain ⟨p, hp⟩ : ∃ p, pl[k]? = some p := ⟨_, List.getElem?_eq_getElem (by rw [HNP.out]; exact hkn)⟩
              obtain ⟨g2, c2, e2, -, -, f2⟩ := PgsAt.cells HPA.out hp
              obtain ⟨rfl, -, rfl⟩ : g = g2 ∧ True ∧ c = c2 := by
                injection e2 with e1 e2 e3
                injection e1 with e1
                injection e1 with e1
                exact ⟨e1, trivial, e3⟩
              obtain ⟨AC, cC, hC9⟩ := slice_I (HPA.out.2 p (List.mem_of_getElem? hp)).2
              rw [hC9] at f2
              have hstep := kidsP_take hp
              rw [HSUM.out] at hstep
              have hle8 := kidsP_le pl (k + 1)
              rw [hstep] at hle8
              have HSTEP := Aside0.mk hstep
              obtain ⟨z, hz⟩ : ∃ z, p.kids.length = z := ⟨_, rfl⟩
              rw [hz] at f2 hle8 HSTEP
              have hz9 : (s : Int) + (z : Int) ≤ 300 := by omega
              have hz0 : (0 : Int) ≤ (z : Int) := by omega
              clear hstep hp hC9 hz e2
              go_wp2
              go_roundg gq2
              case measure => omega
              case rel => exact ⟨k + 1, by rw [HSTEP.out]; go_num, by go_num, by omega, Aside0.mk rfl⟩
            | zero =>
              obtain rfl : k = np := by omega
              have hsum : s + 1 = k := by
                have := HSUM.out
                rw [List.take_of_length_le (by rw [HNP.out]; exact Nat.le_refl _)] at this
                omega
              have hsn : ((s : Int) != (k : Int) - 1) = false := by simp; omega
              go_wp2
              go_roundg gq
              case measure => omega
              case rel => exact ⟨j + 1, by go_num, by omega, HEND⟩
        by_cases h1 : wh = 1
        · subst h1
          by_cases hq0 : q ≠ 0 ∧ j + 1 < n
          · have hz1 : (q != 0) = true := by simp [hq0.1]
            have hz2 : (j : Int) + 1 < (n : Int) := by omega
            go_wp2_with (go_at_call 15; refine (si_delete w l tp j wr ⟨1, mo, ⟨e0, e1⟩, tq⟩ HX.out (by rw [HN.out]; omega) HS.out).mono ?_; clear d0 d1 d2 d3 d4 d5; rintro E w4 ⟨⟨b, rfl⟩, hs4⟩; have HS2 := Aside0.mk hs4; clear hs4)
            go_roundg gq
            case measure => omega
            case rel => exact ⟨j + 1, by go_num, by omega, HS2⟩
          by_cases hq1 : q = 0
          · subst hq1
            have GA : True := trivial
            have G0 : True := trivial
            have G1 : True := trivial
            go_wp2_with (first
              | (clear GA; go_at_call 15; refine (si_delete w l tp j wr ⟨1, mo, ⟨e0, e1⟩, tq⟩ HX.out (by rw [HN.out]; omega) HS.out).mono ?_; clear d0 d1 d2 d3 d4 d5; rintro E w4 ⟨⟨b, rfl⟩, hs4⟩; have HS2 := Aside0.mk hs4; clear hs4; obtain ⟨T, hi, hall, hmem, hle, hts⟩ := HS2.out; have hfr : ∀ z ∈ entS T, Far z := (fun z hz => (by obtain ⟨y, hy, rfl⟩ := hmem z hz; exact HFAR.out y hy)); have hpl : (pagesOf T).length ≤ 301 := (by have := (deep_law T hi).1; omega); have HPL := Aside0.mk hpl; have HALL := Aside0.mk hall; have HI := Aside0.mk hi; have HALLE := Aside0.mk (all_ent T hi hfr); have HLE := Aside0.mk (show (entS T).length ≤ 300 by omega); have HTS := Aside0.mk hts; have HMEM := Aside0.mk hmem; have HLJ := Aside0.mk hle; clear hi hall hmem hle hts hfr hpl HS2)
              | (clear G0; go_at_call 12; refine (pages_ts _ w NoF tp T _ _ HTS.out HI.out (by have := HPL.out; omega)).mono ?_; rintro E w5 ⟨g, np, c, pl, rfl, hpl, hs5⟩; have HPG := Aside0.mk hpl; have HS5 := Aside0.mk hs5; clear hpl hs5)
              | (clear G1; go_at_call 16; refine (root_shape pl _ T _ (by rw [← List.length_map (f := Pg.a), HPG.out]; have := HPL.out; omega) (HS5.out.rest.get 0 rfl) HPG.out HI.out HALL.out HLE.out).mono ?_; rintro E w6 ⟨v, rfl, hrow, hb6⟩; have HROW := Aside0.mk hrow; have HS6 := Aside0.mk (HS5.out.below hb6); clear hrow hb6)
              | (go_at_call 18; refine (all_ts2 _ w NoF tp T _ _ HS6.out HI.out (by rw [HALLE.out]; have := HLE.out; omega)).mono ?_; rw [HALLE.out]; rintro E w7 ⟨va, rfl, hs7, hb7⟩; have HS7 := Aside0.mk hs7; have HB7 := Aside0.mk hb7; clear hs7 hb7)
              | (go_at_call 17; refine (same_calls _ v va (entS T) (Row.below HROW.out HB7.out) (HS7.out.rest.rowE 0 rfl) (by have := HLE.out; omega)).mono ?_; rintro E w8 ⟨rfl, hb8⟩; have HS8 := Aside0.mk (HS7.out.below hb8); clear hb8))
            have hpa := (HS8.out.rest.get 1 rfl : PgsAt w8 (.slice (some ⟨g, 0, none⟩) np c) pl)
            obtain rfl : np = pl.length := by
              rcases hpa.1.2.2 with ⟨h1, _⟩ | ⟨g', c', cur, h1, _⟩
              · simp at h1
              · simp at h1
                exact h1.2.1
            obtain ⟨np, hnp⟩ : ∃ np, pl.length = np := ⟨_, rfl⟩
            have HNP := Aside0.mk hnp
            have HPA := Aside0.mk hpa
            have hks : kidsP pl + 1 = np := by
              have h1 := kids_blay T.1 T.2 0
              have h2 : (pagesOf T).length = np := by rw [← HPG.out, List.length_map]; exact hnp
              have h3 : kidsP pl = kidsA (pagesOf T) := by unfold kidsP; rw [HPG.out]
              rw [h3, ← h2]
              exact h1
            have hnp9 : np ≤ 301 := by
              have := HPL.out
              rw [← HPG.out, List.length_map, hnp] at this
              exact this
            have HEND := Aside0.mk (show SI w l tp (j + 1) w8 from ⟨T, HI.out, HALL.out, HMEM.out, HLJ.out, (HS8.out.upd fun X hX => St.drop (A := [_, _]) hX)⟩)
            rw [hnp]
            clear hpa hnp HTS HS5 HS6 HS7 HS8 HB7 HROW HPG HMEM HLJ HALL HI HALLE HLE HPL
            go_loopg [9, 10] np (fun gq2 v9 v10 wx => ∃ k : Nat, v9 = .int .i64 ((kidsP (pl.take k) : Nat) : Int) ∧ v10 = .int .i64 k ∧ k + gq2 = np ∧ Aside0 (wx = w8))
            case atStart => exact ⟨0, rfl, rfl, by omega, Aside0.mk rfl⟩
            case round =>
              obtain ⟨k, rfl, rfl, hk, HW⟩ := hrel
              obtain rfl := HW.out
              have hle9 := kidsP_le pl k
              obtain ⟨s, hs⟩ : ∃ s, kidsP (pl.take k) = s := ⟨_, rfl⟩
              have HSUM := Aside0.mk hs
              rw [hs] at hle9
              rw [hs]
              clear hs HW
              have hs0 : (0 : Int) ≤ (s : Int) := by omega
              have hs9 : (s : Int) ≤ 300 := by omega
              cases gk with
              | succ gq2 =>
                have hkn : k < np := by omega
                have hkn2 : (k : Int) < (np : Int) := by omega
                have hk0 : (0 : Int) ≤ (k : Int) := by omega
                have hk9 : (k : Int) ≤ 300 := by omega
                obtain ⟨p, hp⟩ : ∃ p, pl[k]? = some p := ⟨_, List.getElem?_eq_getElem (by rw [HNP.out]; exact hkn)⟩
                obtain ⟨g2, c2, e2, -, -, f2⟩ := PgsAt.cells HPA.out hp
                obtain ⟨rfl, -, rfl⟩ : g = g2 ∧ True ∧ c = c2 := by
                  injection e2 with e1 e2 e3
                  injection e1 with e1
                  injection e1 with e1
                  exact ⟨e1, trivial, e3⟩
                obtain ⟨AC, cC, hC9⟩ := slice_I (HPA.out.2 p (List.mem_of_getElem? hp)).2
                rw [hC9] at f2
                have hstep := kidsP_take hp
                rw [HSUM.out] at hstep
                have hle8 := kidsP_le pl (k + 1)
                rw [hstep] at hle8
                have HSTEP := Aside0.mk hstep
                obtain ⟨z, hz⟩ : ∃ z, p.kids.length = z := ⟨_, rfl⟩
                rw [hz] at f2 hle8 HSTEP
                have hz9 : (s : Int) + (z : Int) ≤ 300 := by omega
                have hz0 : (0 : Int) ≤ (z : Int) := by omega
                clear hstep hp hC9 hz e2
                go_wp2
                go_roundg gq2
                case measure => omega
                case rel => exact ⟨k + 1, by rw [HSTEP.out]; go_num, by go_num, by omega, Aside0.mk rfl⟩
              | zero =>
                obtain rfl : k = np := by omega
                have hsum : s + 1 = k := by
                  have := HSUM.out
                  rw [List.take_of_length_le (by rw [HNP.out]; exact Nat.le_refl _)] at this
                  omega
                have hsn : ((s : Int) != (k : Int) - 1) = false := by simp; omega
                go_wp2
                go_roundg gq
                case measure => omega
                case rel => exact ⟨j + 1, by go_num, by omega, HEND⟩
          have hz1 : (q != 0) = true := by simp [hq1]
          have hz2 : decide ((j : Int) + 1 < (n : Int)) = false := decide_eq_false (by omega)
          have GA : True := trivial
          have G0 : True := trivial
          have G1 : True := trivial
          go_wp2_with (first
            | (clear GA; go_at_call 15; refine (si_delete w l tp j wr ⟨1, mo, ⟨e0, e1⟩, tq⟩ HX.out (by rw [HN.out]; omega) HS.out).mono ?_; clear d0 d1 d2 d3 d4 d5; rintro E w4 ⟨⟨b, rfl⟩, hs4⟩; have HS2 := Aside0.mk hs4; clear hs4; obtain ⟨T, hi, hall, hmem, hle, hts⟩ := HS2.out; have hfr : ∀ z ∈ entS T, Far z := (fun z hz => (by obtain ⟨y, hy, rfl⟩ := hmem z hz; exact HFAR.out y hy)); have hpl : (pagesOf T).length ≤ 301 := (by have := (deep_law T hi).1; omega); have HPL := Aside0.mk hpl; have HALL := Aside0.mk hall; have HI := Aside0.mk hi; have HALLE := Aside0.mk (all_ent T hi hfr); have HLE := Aside0.mk (show (entS T).length ≤ 300 by omega); have HTS := Aside0.mk hts; have HMEM := Aside0.mk hmem; have HLJ := Aside0.mk hle; clear hi hall hmem hle hts hfr hpl HS2)
            | (clear G0; go_at_call 12; refine (pages_ts _ w NoF tp T _ _ HTS.out HI.out (by have := HPL.out; omega)).mono ?_; rintro E w5 ⟨g, np, c, pl, rfl, hpl, hs5⟩; have HPG := Aside0.mk hpl; have HS5 := Aside0.mk hs5; clear hpl hs5)
            | (clear G1; go_at_call 16; refine (root_shape pl _ T _ (by rw [← List.length_map (f := Pg.a), HPG.out]; have := HPL.out; omega) (HS5.out.rest.get 0 rfl) HPG.out HI.out HALL.out HLE.out).mono ?_; rintro E w6 ⟨v, rfl, hrow, hb6⟩; have HROW := Aside0.mk hrow; have HS6 := Aside0.mk (HS5.out.below hb6); clear hrow hb6)
            | (go_at_call 18; refine (all_ts2 _ w NoF tp T _ _ HS6.out HI.out (by rw [HALLE.out]; have := HLE.out; omega)).mono ?_; rw [HALLE.out]; rintro E w7 ⟨va, rfl, hs7, hb7⟩; have HS7 := Aside0.mk hs7; have HB7 := Aside0.mk hb7; clear hs7 hb7)
            | (go_at_call 17; refine (same_calls _ v va (entS T) (Row.below HROW.out HB7.out) (HS7.out.rest.rowE 0 rfl) (by have := HLE.out; omega)).mono ?_; rintro E w8 ⟨rfl, hb8⟩; have HS8 := Aside0.mk (HS7.out.below hb8); clear hb8))
          have hpa := (HS8.out.rest.get 1 rfl : PgsAt w8 (.slice (some ⟨g, 0, none⟩) np c) pl)
          obtain rfl : np = pl.length := by
            rcases hpa.1.2.2 with ⟨h1, _⟩ | ⟨g', c', cur, h1, _⟩
            · simp at h1
            · simp at h1
              exact h1.2.1
          obtain ⟨np, hnp⟩ : ∃ np, pl.length = np := ⟨_, rfl⟩
          have HNP := Aside0.mk hnp
          have HPA := Aside0.mk hpa
          have hks : kidsP pl + 1 = np := by
            have h1 := kids_blay T.1 T.2 0
            have h2 : (pagesOf T).length = np := by rw [← HPG.out, List.length_map]; exact hnp
            have h3 : kidsP pl = kidsA (pagesOf T) := by unfold kidsP; rw [HPG.out]
            rw [h3, ← h2]
            exact h1
          have hnp9 : np ≤ 301 := by
            have := HPL.out
            rw [← HPG.out, List.length_map, hnp] at this
            exact this
          have HEND := Aside0.mk (show SI w l tp (j + 1) w8 from ⟨T, HI.out, HALL.out, HMEM.out, HLJ.out, (HS8.out.upd fun X hX => St.drop (A := [_, _]) hX)⟩)
          rw [hnp]
          clear hpa hnp HTS HS5 HS6 HS7 HS8 HB7 HROW HPG HMEM HLJ HALL HI HALLE HLE HPL
          go_loopg [9, 10] np (fun gq2 v9 v10 wx => ∃ k : Nat, v9 = .int .i64 ((kidsP (pl.take k) : Nat) : Int) ∧ v10 = .int .i64 k ∧ k + gq2 = np ∧ Aside0 (wx = w8))
          case atStart => exact ⟨0, rfl, rfl, by omega, Aside0.mk rfl⟩
          case round =>
            obtain ⟨k, rfl, rfl, hk, HW⟩ := hrel
            obtain rfl := HW.out
            have hle9 := kidsP_le pl k
            obtain ⟨s, hs⟩ : ∃ s, kidsP (pl.take k) = s := ⟨_, rfl⟩
            have HSUM := Aside0.mk hs
            rw [hs] at hle9
            rw [hs]
            clear hs HW
            have hs0 : (0 : Int) ≤ (s : Int) := by omega
            have hs9 : (s : Int) ≤ 300 := by omega
            cases gk with
            | succ gq2 =>
              have hkn : k < np := by omega
              have hkn2 : (k : Int) < (np : Int) := by omega
              have hk0 : (0 : Int) ≤ (k : Int) := by omega
              have hk9 : (k : Int) ≤ 300 := by omega
              obtain ⟨p, hp⟩ : ∃ p, pl[k]? = some p := ⟨_, List.getElem?_eq_getElem (by rw [HNP.out]; exact hkn)⟩
              obtain ⟨g2, c2, e2, -, -, f2⟩ := PgsAt.cells HPA.out hp
              obtain ⟨rfl, -, rfl⟩ : g = g2 ∧ True ∧ c = c2 := by
                injection e2 with e1 e2 e3
                injection e1 with e1
                injection e1 with e1
                exact ⟨e1, trivial, e3⟩
              obtain ⟨AC, cC, hC9⟩ := slice_I (HPA.out.2 p (List.mem_of_getElem? hp)).2
              rw [hC9] at f2
              have hstep := kidsP_take hp
              rw [HSUM.out] at hstep
              have hle8 := kidsP_le pl (k + 1)
              rw [hstep] at hle8
              have HSTEP := Aside0.mk hstep
              obtain ⟨z, hz⟩ : ∃ z, p.kids.length = z := ⟨_, rfl⟩
              rw [hz] at f2 hle8 HSTEP
              have hz9 : (s : Int) + (z : Int) ≤ 300 := by omega
              have hz0 : (0 : Int) ≤ (z : Int) := by omega
              clear hstep hp hC9 hz e2
              go_wp2
              go_roundg gq2
              case measure => omega
              case rel => exact ⟨k + 1, by rw [HSTEP.out]; go_num, by go_num, by omega, Aside0.mk rfl⟩
            | zero =>
              obtain rfl : k = np := by omega
              have hsum : s + 1 = k := by
                have := HSUM.out
                rw [List.take_of_length_le (by rw [HNP.out]; exact Nat.le_refl _)] at this
                omega
              have hsn : ((s : Int) != (k : Int) - 1) = false := by simp; omega
              go_wp2
              go_roundg gq
              case measure => omega
              case rel => exact ⟨j + 1, by go_num, by omega, HEND⟩
        have q0 : (wh == 0) = false := by simp [h0]
        have q1 : (wh == 1) = false := by simp [h1]
        by_cases hq0 : q ≠ 0 ∧ j + 1 < n
        · have hz1 : (q != 0) = true := by simp [hq0.1]
          have hz2 : (j : Int) + 1 < (n : Int) := by omega
          have HS2 := Aside0.mk HS.out.next
          go_wp2
          go_roundg gq
          case measure => omega
          case rel => exact ⟨j + 1, by go_num, by omega, HS2⟩
        by_cases hq1 : q = 0
        · subst hq1
          have HS2 := Aside0.mk HS.out.next
          obtain ⟨T, hi, hall, hmem, hle, hts⟩ := HS2.out
          have hfr : ∀ z ∈ entS T, Far z := fun z hz => by
            obtain ⟨y, hy, rfl⟩ := hmem z hz
            exact HFAR.out y hy
          have hpl : (pagesOf T).length ≤ 301 := by have := (deep_law T hi).1; omega
          have HPL := Aside0.mk hpl
          have HALL := Aside0.mk hall
          have HI := Aside0.mk hi
          have HALLE := Aside0.mk (all_ent T hi hfr)
          have HLE := Aside0.mk (show (entS T).length ≤ 300 by omega)
          have HTS := Aside0.mk hts
          have HMEM := Aside0.mk hmem
          have HLJ := Aside0.mk hle
          clear hi hall hmem hle hts hfr hpl HS2
          have G0 : True := trivial
          have G1 : True := trivial
          go_wp2_with (first
            | (clear G0; go_at_call 12; refine (pages_ts _ w NoF tp T _ _ HTS.out HI.out (by have := HPL.out; omega)).mono ?_; rintro E w5 ⟨g, np, c, pl, rfl, hpl, hs5⟩; have HPG := Aside0.mk hpl; have HS5 := Aside0.mk hs5; clear hpl hs5)
            | (clear G1; go_at_call 16; refine (root_shape pl _ T _ (by rw [← List.length_map (f := Pg.a), HPG.out]; have := HPL.out; omega) (HS5.out.rest.get 0 rfl) HPG.out HI.out HALL.out HLE.out).mono ?_; rintro E w6 ⟨v, rfl, hrow, hb6⟩; have HROW := Aside0.mk hrow; have HS6 := Aside0.mk (HS5.out.below hb6); clear hrow hb6)
            | (go_at_call 18; refine (all_ts2 _ w NoF tp T _ _ HS6.out HI.out (by rw [HALLE.out]; have := HLE.out; omega)).mono ?_; rw [HALLE.out]; rintro E w7 ⟨va, rfl, hs7, hb7⟩; have HS7 := Aside0.mk hs7; have HB7 := Aside0.mk hb7; clear hs7 hb7)
            | (go_at_call 17; refine (same_calls _ v va (entS T) (Row.below HROW.out HB7.out) (HS7.out.rest.rowE 0 rfl) (by have := HLE.out; omega)).mono ?_; rintro E w8 ⟨rfl, hb8⟩; have HS8 := Aside0.mk (HS7.out.below hb8); clear hb8))
          have hpa := (HS8.out.rest.get 1 rfl : PgsAt w8 (.slice (some ⟨g, 0, none⟩) np c) pl)
          obtain rfl : np = pl.length := by
            rcases hpa.1.2.2 with ⟨h1, _⟩ | ⟨g', c', cur, h1, _⟩
            · simp at h1
            · simp at h1
              exact h1.2.1
          obtain ⟨np, hnp⟩ : ∃ np, pl.length = np := ⟨_, rfl⟩
          have HNP := Aside0.mk hnp
          have HPA := Aside0.mk hpa
          have hks : kidsP pl + 1 = np := by
            have h1 := kids_blay T.1 T.2 0
            have h2 : (pagesOf T).length = np := by rw [← HPG.out, List.length_map]; exact hnp
            have h3 : kidsP pl = kidsA (pagesOf T) := by unfold kidsP; rw [HPG.out]
            rw [h3, ← h2]
            exact h1
          have hnp9 : np ≤ 301 := by
            have := HPL.out
            rw [← HPG.out, List.length_map, hnp] at this
            exact this
          have HEND := Aside0.mk (show SI w l tp (j + 1) w8 from ⟨T, HI.out, HALL.out, HMEM.out, HLJ.out, (HS8.out.upd fun X hX => St.drop (A := [_, _]) hX)⟩)
          rw [hnp]
          clear hpa hnp HTS HS5 HS6 HS7 HS8 HB7 HROW HPG HMEM HLJ HALL HI HALLE HLE HPL
          go_loopg [9, 10] np (fun gq2 v9 v10 wx => ∃ k : Nat, v9 = .int .i64 ((kidsP (pl.take k) : Nat) : Int) ∧ v10 = .int .i64 k ∧ k + gq2 = np ∧ Aside0 (wx = w8))
          case atStart => exact ⟨0, rfl, rfl, by omega, Aside0.mk rfl⟩
          case round =>
            obtain ⟨k, rfl, rfl, hk, HW⟩ := hrel
            obtain rfl := HW.out
            have hle9 := kidsP_le pl k
            obtain ⟨s, hs⟩ : ∃ s, kidsP (pl.take k) = s := ⟨_, rfl⟩
            have HSUM := Aside0.mk hs
            rw [hs] at hle9
            rw [hs]
            clear hs HW
            have hs0 : (0 : Int) ≤ (s : Int) := by omega
            have hs9 : (s : Int) ≤ 300 := by omega
            cases gk with
            | succ gq2 =>
              have hkn : k < np := by omega
              have hkn2 : (k : Int) < (np : Int) := by omega
              have hk0 : (0 : Int) ≤ (k : Int) := by omega
              have hk9 : (k : Int) ≤ 300 := by omega
              obtain ⟨p, hp⟩ : ∃ p, pl[k]? = some p := ⟨_, List.getElem?_eq_getElem (by rw [HNP.out]; exact hkn)⟩
              obtain ⟨g2, c2, e2, -, -, f2⟩ := PgsAt.cells HPA.out hp
              obtain ⟨rfl, -, rfl⟩ : g = g2 ∧ True ∧ c = c2 := by
                injection e2 with e1 e2 e3
                injection e1 with e1
                injection e1 with e1
                exact ⟨e1, trivial, e3⟩
              obtain ⟨AC, cC, hC9⟩ := slice_I (HPA.out.2 p (List.mem_of_getElem? hp)).2
              rw [hC9] at f2
              have hstep := kidsP_take hp
              rw [HSUM.out] at hstep
              have hle8 := kidsP_le pl (k + 1)
              rw [hstep] at hle8
              have HSTEP := Aside0.mk hstep
              obtain ⟨z, hz⟩ : ∃ z, p.kids.length = z := ⟨_, rfl⟩
              rw [hz] at f2 hle8 HSTEP
              have hz9 : (s : Int) + (z : Int) ≤ 300 := by omega
              have hz0 : (0 : Int) ≤ (z : Int) := by omega
              clear hstep hp hC9 hz e2
              go_wp2
              go_roundg gq2
              case measure => omega
              case rel => exact ⟨k + 1, by rw [HSTEP.out]; go_num, by go_num, by omega, Aside0.mk rfl⟩
            | zero =>
              obtain rfl : k = np := by omega
              have hsum : s + 1 = k := by
                have := HSUM.out
                rw [List.take_of_length_le (by rw [HNP.out]; exact Nat.le_refl _)] at this
                omega
              have hsn : ((s : Int) != (k : Int) - 1) = false := by simp; omega
              go_wp2
              go_roundg gq
              case measure => omega
              case rel => exact ⟨j + 1, by go_num, by omega, HEND⟩
        have hz1 : (q != 0) = true := by simp [hq1]
        have hz2 : decide ((j : Int) + 1 < (n : Int)) = false := decide_eq_false (by omega)
        have HS2 := Aside0.mk HS.out.next
        obtain ⟨T, hi, hall, hmem, hle, hts⟩ := HS2.out
        have hfr : ∀ z ∈ entS T, Far z := fun z hz => by
          obtain ⟨y, hy, rfl⟩ := hmem z hz
          exact HFAR.out y hy
        have hpl : (pagesOf T).length ≤ 301 := by have := (deep_law T hi).1; omega
        have HPL := Aside0.mk hpl
        have HALL := Aside0.mk hall
        have HI := Aside0.mk hi
        have HALLE := Aside0.mk (all_ent T hi hfr)
        have HLE := Aside0.mk (show (entS T).length ≤ 300 by omega)
        have HTS := Aside0.mk hts
        have HMEM := Aside0.mk hmem
        have HLJ := Aside0.mk hle
        clear hi hall hmem hle hts hfr hpl HS2
        have G0 : True := trivial
        have G1 : True := trivial
        go_wp2_with (first
          | (clear G0; go_at_call 12; refine (pages_ts _ w NoF tp T _ _ HTS.out HI.out (by have := HPL.out; omega)).mono ?_; rintro E w5 ⟨g, np, c, pl, rfl, hpl, hs5⟩; have HPG := Aside0.mk hpl; have HS5 := Aside0.mk hs5; clear hpl hs5)
          | (clear G1; go_at_call 16; refine (root_shape pl _ T _ (by rw [← List.length_map (f := Pg.a), HPG.out]; have := HPL.out; omega) (HS5.out.rest.get 0 rfl) HPG.out HI.out HALL.out HLE.out).mono ?_; rintro E w6 ⟨v, rfl, hrow, hb6⟩; have HROW := Aside0.mk hrow; have HS6 := Aside0.mk (HS5.out.below hb6); clear hrow hb6)
          | (go_at_call 18; refine (all_ts2 _ w NoF tp T _ _ HS6.out HI.out (by rw [HALLE.out]; have := HLE.out; omega)).mono ?_; rw [HALLE.out]; rintro E w7 ⟨va, rfl, hs7, hb7⟩; have HS7 := Aside0.mk hs7; have HB7 := Aside0.mk hb7; clear hs7 hb7)
          | (go_at_call 17; refine (same_calls _ v va (entS T) (Row.below HROW.out HB7.out) (HS7.out.rest.rowE 0 rfl) (by have := HLE.out; omega)).mono ?_; rintro E w8 ⟨rfl, hb8⟩; have HS8 := Aside0.mk (HS7.out.below hb8); clear hb8))
        have hpa := (HS8.out.rest.get 1 rfl : PgsAt w8 (.slice (some ⟨g, 0, none⟩) np c) pl)
        obtain rfl : np = pl.length := by
          rcases hpa.1.2.2 with ⟨h1, _⟩ | ⟨g', c', cur, h1, _⟩
          · simp at h1
          · simp at h1
            exact h1.2.1
        obtain ⟨np, hnp⟩ : ∃ np, pl.length = np := ⟨_, rfl⟩
        have HNP := Aside0.mk hnp
        have HPA := Aside0.mk hpa
        have hks : kidsP pl + 1 = np := by
          have h1 := kids_blay T.1 T.2 0
          have h2 : (pagesOf T).length = np := by rw [← HPG.out, List.length_map]; exact hnp
          have h3 : kidsP pl = kidsA (pagesOf T) := by unfold kidsP; rw [HPG.out]
          rw [h3, ← h2]
          exact h1
        have hnp9 : np ≤ 301 := by
          have := HPL.out
          rw [← HPG.out, List.length_map, hnp] at this
          exact this
        have HEND := Aside0.mk (show SI w l tp (j + 1) w8 from ⟨T, HI.out, HALL.out, HMEM.out, HLJ.out, (HS8.out.upd fun X hX => St.drop (A := [_, _]) hX)⟩)
        rw [hnp]
        clear hpa hnp HTS HS5 HS6 HS7 HS8 HB7 HROW HPG HMEM HLJ HALL HI HALLE HLE HPL
        go_loopg [9, 10] np (fun gq2 v9 v10 wx => ∃ k : Nat, v9 = .int .i64 ((kidsP (pl.take k) : Nat) : Int) ∧ v10 = .int .i64 k ∧ k + gq2 = np ∧ Aside0 (wx = w8))
        case atStart => exact ⟨0, rfl, rfl, by omega, Aside0.mk rfl⟩
        case round =>
          obtain ⟨k, rfl, rfl, hk, HW⟩ := hrel
          obtain rfl := HW.out
          have hle9 := kidsP_le pl k
          obtain ⟨s, hs⟩ : ∃ s, kidsP (pl.take k) = s := ⟨_, rfl⟩
          have HSUM := Aside0.mk hs
          rw [hs] at hle9
          rw [hs]
          clear hs HW
          have hs0 : (0 : Int) ≤ (s : Int) := by omega
          have hs9 : (s : Int) ≤ 300 := by omega
          cases gk with
          | succ gq2 =>
            have hkn : k < np := by omega
            have hkn2 : (k : Int) < (np : Int) := by omega
            have hk0 : (0 : Int) ≤ (k : Int) := by omega
            have hk9 : (k : Int) ≤ 300 := by omega
            obtain ⟨p, hp⟩ : ∃ p, pl[k]? = some p := ⟨_, List.getElem?_eq_getElem (by rw [HNP.out]; exact hkn)⟩
            obtain ⟨g2, c2, e2, -, -, f2⟩ := PgsAt.cells HPA.out hp
            obtain ⟨rfl, -, rfl⟩ : g = g2 ∧ True ∧ c = c2 := by
              injection e2 with e1 e2 e3
              injection e1 with e1
              injection e1 with e1
              exact ⟨e1, trivial, e3⟩
            obtain ⟨AC, cC, hC9⟩ := slice_I (HPA.out.2 p (List.mem_of_getElem? hp)).2
            rw [hC9] at f2
            have hstep := kidsP_take hp
            rw [HSUM.out] at hstep
            have hle8 := kidsP_le pl (k + 1)
            rw [hstep] at hle8
            have HSTEP := Aside0.mk hstep
            obtain ⟨z, hz⟩ : ∃ z, p.kids.length = z := ⟨_, rfl⟩
            rw [hz] at f2 hle8 HSTEP
            have hz9 : (s : Int) + (z : Int) ≤ 300 := by omega
            have hz0 : (0 : Int) ≤ (z : Int) := by omega
            clear hstep hp hC9 hz e2
            go_wp2
            go_roundg gq2
            case measure => omega
            case rel => exact ⟨k + 1, by rw [HSTEP.out]; go_num, by go_num, by omega, Aside0.mk rfl⟩
          | zero =>
            obtain rfl : k = np := by omega
            have hsum : s + 1 = k := by
              have := HSUM.out
              rw [List.take_of_length_le (by rw [HNP.out]; exact Nat.le_refl _)] at this
              omega
            have hsn : ((s : Int) != (k : Int) - 1) = false := by simp; omega
            go_wp2
            go_roundg gq
            case measure => omega
            case rel => exact ⟨j + 1, by go_num, by omega, HEND⟩
      | zero =>
        obtain rfl : j = n := by omega
        go_wp2
        first | (rw [← HR.out]) | (go_ret; rw [← HR.out])
        exact ⟨rfl, HS.out.below⟩
theorem shape_row (w : World) (A0 : Option Addr) (c0 : Nat) (l : List S41) (hC : Kd.C k41 w A0 l.length l) (hcap : l.length ≤ c0) (hwf : l.length ≤ maxLen ∧ ∀ a ∈ l, wf41 a) : Calls Try.prog 4 #[.slice A0 l.length c0] w fun E w' => E = .returned (.bool true) ∧ Below w.heap.size w w' :=
  btreeshape_calls w A0 c0 l hC hcap fun x hx => far_of (hwf.2 x hx).2.2.1
end Go.Proofs.Bt
end
