/- Packed by chunk.py: YtjaddmflopahiaaP11 YtjaddmflopahiaaQe27 YtjaddmflopahiaaQe29 YtjaddmflopahiaaQ17 YtjaddmflopahiaaE10 -/
import Derived.Test.YtjaddmflopahiaaQ0
import Derived.Test.YtjaddmflopahiaaDeep8
section
/- Plain law: what an iteration from an entry on tells: the entries of a tree that are not below it. -/
namespace Go.Proofs.Bt
open Go Go.RowKit Go.Proofs.Ytjaddmflopahiaa.Q
set_option linter.unusedVariables false
set_option linter.unusedSimpArgs false

def geB (e x : S29) : Bool := !(decide (ltE x e))
theorem lpost_ents : ∀ (ks : List S29) (B : List (List It)), B.length ≤ ks.length → ent (lpost ks B) = B.flatMap ent
  | ks, [], _ => by simp [lpost_nil, ent]
  | k :: ks, b :: B, h => by
    rw [lpost_cons, ent_sep, ent_app, lpost_ents ks B (by simpa using h), List.flatMap_cons]
  | [], b :: B, h => by simp at h
theorem filter_none {α : Type} {p : α → Bool} {l : List α} (h : ∀ x ∈ l, p x = false) : l.filter p = [] := by
  rw [List.filter_eq_nil_iff]
  intro x hx
  rw [h x hx]
  simp
theorem filter_whole {α : Type} {p : α → Bool} {l : List α} (h : ∀ x ∈ l, p x = true) : l.filter p = l := List.filter_eq_self.2 h
theorem drop_low (ks : List S29) (e : S29) (hs : Sorted ks) : ks.drop (low ks e) = ks.filter (geB e) := by
  obtain ⟨h1, h2⟩ := low_parts ks e hs
  conv => rhs; rw [← List.take_append_drop (low ks e) ks, List.filter_append]
  rw [filter_none (fun x hx => by simp [geB, h1 x hx]), filter_whole (fun x hx => by simp [geB, h2 x hx]), List.nil_append]
theorem flatMap_filter {α β : Type} (p : β → Bool) (f : α → List β) : ∀ (l : List α), (l.flatMap f).filter p = l.flatMap fun a => (f a).filter p
  | [] => rfl
  | a :: l => by rw [List.flatMap_cons, List.flatMap_cons, List.filter_append, flatMap_filter p f l]
theorem flatMap_congr {α β : Type} {f g : α → List β} : ∀ {l : List α}, (∀ x ∈ l, f x = g x) → l.flatMap f = l.flatMap g
  | [], _ => rfl
  | a :: l, h => by rw [List.flatMap_cons, List.flatMap_cons, h a (by simp), flatMap_congr fun x hx => h x (by simp [hx])]
theorem flatMap_map {α β γ : Type} (f : α → β) (g : β → List γ) : ∀ (l : List α), (l.map f).flatMap g = l.flatMap fun a => g (f a)
  | [] => rfl
  | a :: l => by rw [List.map_cons, List.flatMap_cons, List.flatMap_cons, flatMap_map f g l]
theorem leaf_from (ks : List S29) (e : S29) (hr : Srt (ents ks)) : ks.drop (low ks e) = (ent (ents ks)).filter (geB e) := by
  rw [ent_ents]
  exact drop_low ks e (srt_keys hr)
theorem bfrom_ent : ∀ (h n : Nat) (t : BT h) (e : S29), Shape h n t → Srt (flat h t) → bfrom h t e = (ent (flat h t)).filter (geB e)
  | 0, n, t, e, hs, hr => leaf_from t e hr
  | h + 1, n, t, e, hs, hr => by
    obtain ⟨ks, ts⟩ := t
    obtain ⟨h1, h2, h3, h4⟩ := hs
    change ts.length = ks.length + 1 at h3
    change ∀ k ∈ ts, Shape h 2 k at h4
    obtain ⟨A, k, B, rfl, hA, hAB, hX, hY⟩ := at_kid e h3 hr
    have hk := bfrom_ent h 2 k e (h4 k (by simp)) (srt_kid h3 hr k (by simp))
    have hB : B.flatMap (fun k => bfrom h k e) = B.flatMap (fun k => (ent (flat h k)).filter (geB e)) := flatMap_congr fun x hx => bfrom_ent h 2 x e (h4 x (by simp [hx])) (srt_kid h3 hr x (by simp [hx]))
    show ((A ++ k :: B).drop (kidIx ks e)).flatMap (fun k => bfrom h k e) = _
    rw [← hA, List.drop_left, List.flatMap_cons, hk, hB, flat_cut h ks A k B (by omega), ent_app, ent_app, lpost_ents _ _ (by rw [List.length_map, List.length_drop]; omega), List.filter_append, List.filter_append, flatMap_filter, flatMap_map,
      filter_none (l := ent (lpre (ks.take A.length) (A.map (flat h)))) (fun x hx => ?_), List.nil_append]
    rw [mem_ent] at hx
    rcases hX _ hx with hlt | ⟨_, h5, _⟩
    · simp [geB, show ltE x e from hlt]
    · cases h5
theorem from_ent (T : ST) (e : S29) (hi : TInvS T) : fromS T e = (entS T).filter (geB e) := bfrom_ent T.1 _ T.2 e hi.shape hi.srt

/-- Rids such as there may be: none below the least number. -/
def Far (x : S29) : Prop := -9223372036854775808 ≤ x.f1.f0 ∧ -9223372036854775808 ≤ x.f1.f1
theorem low_far (x : S29) (s : ByteArray) (h : Far x) : geB (lowS s) x = !(keyLt x.f0 s) := by
  unfold geB keyLt
  congr 1
  cases hb : Op.bytesLess x.f0.toList s.toList
  · refine decide_eq_false fun hl => ?_
    rcases (ltE_iff _ _).1 hl with h1 | ⟨_, h1 | ⟨_, h1⟩⟩
    · rw [show Op.bytesLess x.f0.toList (lowS s).f0.toList = false from hb] at h1
      cases h1
    · have := h.1
      simp only [lowS] at h1
      omega
    · have := h.2
      simp only [lowS] at h1
      omega
  · exact decide_eq_true ((ltE_iff _ _).2 (.inl hb))
theorem key_mono {x y : S29} {s : ByteArray} (h : ltE x y) (hk : keyLt x.f0 s = false) : keyLt y.f0 s = false := by
  cases hy : keyLt y.f0 s
  · rfl
  · have : keyLt x.f0 s = true := by
      rcases (ltE_iff _ _).1 h with h1 | ⟨h1, _⟩
      · exact bl_trans _ _ _ h1 hy
      · rw [h1]
        exact hy
    rw [this] at hk
    cases hk
/-- One step of the list that is wanted. -/
def wst (frm hiK : ByteArray) (most : Int) (acc : List S29) (x : S29) : List S29 := if keyLt x.f0 frm = false ∧ keyLt x.f0 hiK = true ∧ (acc.length : Int) < most then acc ++ [x] else acc
theorem wst_stop (frm hiK : ByteArray) (most : Int) (acc : List S29) : ∀ (L : List S29), (∀ y ∈ L, keyLt y.f0 hiK = false ∨ ¬ (acc.length : Int) < most) → L.foldl (wst frm hiK most) acc = acc
  | [], _ => rfl
  | y :: L, h => by
    have : wst frm hiK most acc y = acc := by
      unfold wst
      rw [if_neg]
      rintro ⟨_, h1, h2⟩
      rcases h y (by simp) with h3 | h3
      · rw [h1] at h3
        cases h3
      · exact h3 h2
    rw [List.foldl_cons, this]
    exact wst_stop frm hiK most acc L fun z hz => h z (by simp [hz])
theorem wst_rng (frm hiK : ByteArray) (most : Int) : ∀ (L : List S29) (acc : List S29), Sorted L → (∀ x ∈ L, Far x) → L.foldl (wst frm hiK most) acc = acc ++ rng hiK most (L.filter (geB (lowS frm))) acc.length
  | [], acc, _, _ => by simp [rng]
  | x :: L, acc, hs, hf => by
    obtain ⟨h1, h2⟩ := List.pairwise_cons.1 hs
    have ih := fun a => wst_rng frm hiK most L a h2 fun y hy => hf y (by simp [hy])
    rw [List.foldl_cons, List.filter_cons, low_far x frm (hf x (by simp))]
    cases hk : keyLt x.f0 frm
    · rw [if_pos (by rfl)]
      unfold rng
      by_cases hc : (acc.length : Int) < most ∧ keyLt x.f0 hiK = true
      · rw [if_pos hc]
        have : wst frm hiK most acc x = acc ++ [x] := by
          unfold wst
          rw [if_pos ⟨hk, hc.2, hc.1⟩]
        rw [this, ih, List.length_append, List.append_assoc]
        rfl
      · rw [if_neg hc]
        have : wst frm hiK most acc x = acc := by
          unfold wst
          rw [if_neg]
          rintro ⟨_, h3, h4⟩
          exact hc ⟨h4, h3⟩
        rw [this, List.append_nil]
        refine wst_stop frm hiK most acc L fun y hy => ?_
        by_cases hm : (acc.length : Int) < most
        · refine .inl (key_mono (h1 y hy) ?_)
          cases hh : keyLt x.f0 hiK
          · rfl
          · exact absurd ⟨hm, hh⟩ hc
        · exact .inr hm
    · rw [if_neg (by simp)]
      have : wst frm hiK most acc x = acc := by
        unfold wst
        rw [if_neg]
        rintro ⟨h3, _⟩
        rw [hk] at h3
        cases h3
      rw [this, ih]
theorem rng_len (hiK : ByteArray) (most : Int) : ∀ (xs : List S29) (n : Nat), (rng hiK most xs n).length ≤ xs.length ∧ ((rng hiK most xs n) = [] ∨ ((rng hiK most xs n).length : Int) + n ≤ most)
  | [], n => by simp [rng]
  | x :: xs, n => by
    have ih := rng_len hiK most xs (n + 1)
    unfold rng
    split
    · rename_i h
      obtain ⟨h1, h2⟩ := ih
      refine ⟨by rw [List.length_cons, List.length_cons]; omega, .inr ?_⟩
      rw [List.length_cons]
      rcases h2 with h2 | h2
      · rw [h2]
        simp
        omega
      · omega
    · simp
theorem rng_self (frm : ByteArray) (most : Int) (L : List S29) (hf : ∀ x ∈ L, Far x) : rng frm most (L.filter (geB (lowS frm))) 0 = [] := by
  cases h : L.filter (geB (lowS frm)) with
  | nil => rfl
  | cons x r =>
    have hx : x ∈ L.filter (geB (lowS frm)) := by rw [h]; simp
    obtain ⟨h1, h2⟩ := List.mem_filter.1 hx
    rw [low_far x frm (hf x h1)] at h2
    have h3 : keyLt x.f0 frm = false := by simpa using h2
    unfold rng
    rw [if_neg]
    rintro ⟨_, h4⟩
    rw [h3] at h4
    cases h4
theorem keyLt_none (k : ByteArray) : keyLt k ⟨#[]⟩ = false := by
  have h : (⟨#[]⟩ : ByteArray).toList = [] := by
    unfold ByteArray.toList
    unfold ByteArray.toList.loop
    rfl
  unfold keyLt
  rw [h]
  cases k.toList <;> rfl
theorem all_ent (T : ST) (hi : TInvS T) (hf : ∀ x ∈ entS T, Far x) : fromS T (lowS ⟨#[]⟩) = entS T := by
  rw [from_ent T _ hi, filter_whole]
  intro x hx
  rw [low_far x _ (hf x hx), keyLt_none]
  rfl
theorem mem_sins {l : List S29} {e z : S29} (h : z ∈ sins l e) : z = e ∨ z ∈ l := by
  unfold sins at h
  split at h
  · exact .inr h
  · exact (mem_insAt _ _ _ _).1 h
theorem far_of {x : S29} (h : wf29 x) : Far x := by
  obtain ⟨_, h1, h2⟩ := h
  have hm : IntKind.min .i64 = -9223372036854775808 := by rfl
  have a1 : (decide (IntKind.min .i64 ≤ x.f1.f0) && decide (x.f1.f0 ≤ IntKind.max .i64)) = true := h1
  have a2 : (decide (IntKind.min .i64 ≤ x.f1.f1) && decide (x.f1.f1 ≤ IntKind.max .i64)) = true := h2
  rw [Bool.and_eq_true, decide_eq_true_eq, hm] at a1 a2
  exact ⟨a1.1, a2.1⟩
end Go.Proofs.Bt
end
section
/- What Go functions compute, as Lean functions, and that the machine's call comes to just that; no conditions beyond each theorem's own. (Written by pp.py of this repo, over the kit's print.py.) -/
namespace Go.Proofs.Ytjaddmflopahiaa.Q
open Go.RowKit Go.Proofs.YtjaddmflopahiaaW.PrintWords Go.Proofs.YtjaddmflopahiaaW.PrintLast Go.Proofs.YtjaddmflopahiaaW.PrintMore
attribute [local go_sem] max2_int min2_int max_two min_two max_three min_three max_four min_four   -- for this text's walks alone
set_option linter.unusedVariables false
set_option linter.unusedSimpArgs false

theorem eqA27 (d : Nat) (w : World) (x0 y0 : Int) (x1 y1 : Int) :
    (Op.equalIn (d + 2) 27 (.agg #[.int .i64 x0, .int .i64 x1]) (.agg #[.int .i64 y0, .int .i64 y1])).run Try.prog w = .ok (x0 == y0 && (x1 == y1)) w := by
  refine eqA_of Try.underlying27 (by kernel_rfl) ?_
  refine eqf_cons (by rfl) (by go_simp; rfl) (by go_simp; rfl) (by go_simp) ?_
  exact eqf_last (by rfl) (by go_simp; rfl) (by go_simp; rfl) (by go_simp)
end Go.Proofs.Ytjaddmflopahiaa.Q
end
section
/- What Go functions compute, as Lean functions, and that the machine's call comes to just that; no conditions beyond each theorem's own. (Written by pp.py of this repo, over the kit's print.py.) -/
namespace Go.Proofs.Ytjaddmflopahiaa.Q
open Go.RowKit Go.Proofs.YtjaddmflopahiaaW.PrintWords Go.Proofs.YtjaddmflopahiaaW.PrintLast Go.Proofs.YtjaddmflopahiaaW.PrintMore
attribute [local go_sem] max2_int min2_int max_two min_two max_three min_three max_four min_four   -- for this text's walks alone
set_option linter.unusedVariables false
set_option linter.unusedSimpArgs false

theorem eqA29 (d : Nat) (w : World) (x0 y0 : ByteArray) (x1 y1 : Int) (x2 y2 : Int) :
    (Op.equalIn (d + 3) 29 (.agg #[.string x0, .int .i64 x1, .int .i64 x2]) (.agg #[.string y0, .int .i64 y1, .int .i64 y2])).run Try.prog w = .ok (x0.toList == y0.toList && ((x1 == y1 && (x2 == y2)))) w := by
  refine eqA_of Try.underlying29 (by kernel_rfl) ?_
  refine eqf_cons (by rfl) (by go_simp; rfl) (by go_simp; rfl) (by go_simp) ?_
  exact eqf_last (by rfl) (by go_simp) (by go_simp) (eqA27 (d + 0) w _ _ _ _)
end Go.Proofs.Ytjaddmflopahiaa.Q
end
section
/- What Go functions compute, as Lean functions, and that the machine's call comes to just that; no conditions beyond each theorem's own. (Written by pp.py of this repo, over the kit's print.py.) -/
namespace Go.Proofs.Ytjaddmflopahiaa.Q
open Go.RowKit Go.Proofs.YtjaddmflopahiaaW.PrintWords Go.Proofs.YtjaddmflopahiaaW.PrintLast Go.Proofs.YtjaddmflopahiaaW.PrintMore
attribute [local go_sem] max2_int min2_int max_two min_two max_three min_three max_four min_four   -- for this text's walks alone
set_option linter.unusedVariables false
set_option linter.unusedSimpArgs false

attribute [local go_sem high] eqA29
/-! ### interlockref08_Same: function 17 -/
def interlockref08_Same.l0 : Nat → List (S29) → List (S29) → Int → Option (Bool)
  | 0, _, _, _ => none
  | k + 1, x0, x1, x5 => if x5 < (x0.length : Int) then (if 0 ≤ x5 then (if x5 < (x1.length : Int) then (if (!((((rd_T29 x0 x5).f0).toList) == (((rd_T29 x1 x5).f0).toList)) || ((!(((rd_T29 x0 x5).f1.f0) == ((rd_T29 x1 x5).f1.f0)) || (!(((rd_T29 x0 x5).f1.f1) == ((rd_T29 x1 x5).f1.f1)))))) = true then (some false) else (interlockref08_Same.l0 k x0 x1 (wrap64 (x5 + 1)))) else (none)) else (none)) else (some true)
def interlockref08_Same.f (k : Nat) (l0 : List (S29)) (l1 : List (S29)) : Option (Bool) := if (l0.length : Int) = (l1.length : Int) then (interlockref08_Same.l0 k l0 l1 0) else (some false)
theorem interlockref08_Same.mono_l : ∀ k, (∀ y0 y1 y2, LeO (interlockref08_Same.l0 k y0 y1 y2) (interlockref08_Same.l0 (k + 1) y0 y1 y2))
  | 0 => fun _ _ _ r h => by simp [interlockref08_Same.l0] at h
  | k + 1 => by
    have ih0 := interlockref08_Same.mono_l k
    · intro y0 y1 y2
      unfold interlockref08_Same.l0
      repeat' first
      | (with_reducible exact ih0 _ _ _)
      | (with_reducible exact LeO.refl _)
      | (with_reducible exact LeO.none _)
      | (with_reducible refine LeO.ite ?_ ?_)
      | (with_reducible refine LeO.bind ?_ (fun _ => ?_))
      | exact ih0 _ _ _
      | exact LeO.none _
      | refine LeO.ite ?_ ?_
      | refine LeO.bind ?_ (fun _ => ?_)
theorem interlockref08_Same.mono : ∀ a0 a1 k, LeO (interlockref08_Same.f k a0 a1) (interlockref08_Same.f (k + 1) a0 a1) := by
  intro a0 a1 k
  have ih0 := interlockref08_Same.mono_l k
  unfold interlockref08_Same.f
  repeat' first
      | (with_reducible exact ih0 _ _ _)
      | (with_reducible exact LeO.refl _)
      | (with_reducible exact LeO.none _)
      | (with_reducible refine LeO.ite ?_ ?_)
      | (with_reducible refine LeO.bind ?_ (fun _ => ?_))
      | exact ih0 _ _ _
      | exact LeO.none _
      | refine LeO.ite ?_ ?_
      | refine LeO.bind ?_ (fun _ => ?_)
set_option maxHeartbeats 8000000 in
set_option maxRecDepth 100000 in
theorem interlockref08_Same.calls (k : Nat) (A0 : Option Addr) (c0 : Nat) (l0 : List (S29)) (A1 : Option Addr) (c1 : Nat) (l1 : List (S29)) (r : Bool) (w : World) (hr0 : Kd.C k29 w A0 l0.length l0) (hc0 : l0.length ≤ c0) (hr1 : Kd.C k29 w A1 l1.length l1) (hc1 : l1.length ≤ c1) (h : interlockref08_Same.f k l0 l1 = some r) :
    Calls Try.prog 17 #[.slice A0 l0.length c0, .slice A1 l1.length c1] w fun e w' => e = .returned (.bool r) ∧ Drawn0 w w' := by
  have hu29 := Try.underlying29
  have HR0 := Aside0.mk hr0
  have HC0 := Aside0.mk hc0
  clear hr0 hc0
  have HR1 := Aside0.mk hr1
  have HC1 := Aside0.mk hc1
  clear hr1 hc1
  have H : (if (l0.length : Int) = (l1.length : Int) then (interlockref08_Same.l0 k l0 l1 0) else (some false)) = some r := h
  clear h
  by_cases c3 : (l0.length : Int) = (l1.length : Int)
  · rw [if_pos c3] at H
    have c3b0 : ((l0.length : Int) == (l1.length : Int)) = true := beq_iff_eq.mpr c3
    have c3b1 : ((l0.length : Int) != (l1.length : Int)) = false := bne_eq_false_iff_eq.mpr c3
    have c3b2 : (l0.length == l1.length) = true := by first | simpa using c3 | (simp at c3 ⊢; omega)
    clear c3
    have H' := Aside0.mk H
    clear H
    go_enter Try.func17, Try.ntmps17
    go_wp2
    repeat (go_quiet (fail); try go_wp2)
    go_loopg [5] k (fun kq v5 w' => ∃ (x5_1 : Int), v5 = .int .i64 x5_1 ∧ Aside0 (interlockref08_Same.l0 kq l0 l1 x5_1 = some r) ∧ Aside0 (kq ≤ k) ∧ Drawn0 w w')
    case atStart => exact ⟨(0), (by first | rfl | (simp; done) | (simp [*]; done)), H', ⟨Nat.le_refl _⟩, by repeat (first | exact Drawn0.refl _ | apply Drawn0.step)⟩
    case round =>
      clear H'
      try clear c1
      try clear p2
      try clear c3
      try clear c3b0
      try clear c3b1
      try clear c3b2
      obtain ⟨x5_1, rfl, HA, HK1, ⟨m1, rfl⟩⟩ := hrel
      cases gk with
      | zero => exact absurd HA.out (by simp [interlockref08_Same.l0])
      | succ k1 =>
        have H := HA.out
        clear HA
        simp only [interlockref08_Same.l0] at H
        by_cases c4 : x5_1 < (l0.length : Int)
        · rw [if_pos c4] at H
          have c4b0 : decide (x5_1 < (l0.length : Int)) = true := decide_eq_true c4
          clear c4
          by_cases c5 : 0 ≤ x5_1
          · rw [if_pos c5] at H
            have c5b0 : decide (0 ≤ x5_1) = true := decide_eq_true c5
            clear c5
            by_cases c6 : x5_1 < (l1.length : Int)
            · rw [if_pos c6] at H
              have c6b0 : decide (x5_1 < (l1.length : Int)) = true := decide_eq_true c6
              clear c6
              by_cases c7 : (!((((rd_T29 l0 x5_1).f0).toList) == (((rd_T29 l1 x5_1).f0).toList)) || ((!(((rd_T29 l0 x5_1).f1.f0) == ((rd_T29 l1 x5_1).f1.f0)) || (!(((rd_T29 l0 x5_1).f1.f1) == ((rd_T29 l1 x5_1).f1.f1)))))) = true
              · rw [if_pos c7] at H
                have c7b0 : (!((((rd_T29 l0 x5_1).f0).toList) == (((rd_T29 l1 x5_1).f0).toList)) || ((!(((rd_T29 l0 x5_1).f1.f0) == ((rd_T29 l1 x5_1).f1.f0)) || (!(((rd_T29 l0 x5_1).f1.f1) == ((rd_T29 l1 x5_1).f1.f1)))))) = true := c7
                clear c7
                obtain rfl := Option.some.inj H
                have p138 : 0 ≤ (x5_1 : Int) := of_decide_eq_true (by first | (with_reducible assumption) | assumption)
                have q138 : x5_1 < (l0.length : Int) := of_decide_eq_true (by first | (with_reducible assumption) | assumption)
                obtain ⟨ad138, e138, hx138_0, hx138_1, hx138_2⟩ := at_T29 HR0.out x5_1 p138 q138
                cases e138
                replace p138 := eq_true p138
                replace q138 := eq_true q138
                have p139 : 0 ≤ (x5_1 : Int) := of_decide_eq_true (by first | (with_reducible assumption) | assumption)
                have q139 : x5_1 < (l1.length : Int) := of_decide_eq_true (by first | (with_reducible assumption) | assumption)
                obtain ⟨ad139, e139, hx139_0, hx139_1, hx139_2⟩ := at_T29 HR1.out x5_1 p139 q139
                cases e139
                replace p139 := eq_true p139
                replace q139 := eq_true q139
                go_wp2
                repeat (go_quiet (fail); try go_wp2)
                go_ret
                exact ⟨by first | rfl | (simp; done) | (simp [*]; done), by repeat (first | exact Drawn0.refl _ | apply Drawn0.step)⟩
              · rw [if_neg c7] at H
                have c7b0 : (!((((rd_T29 l0 x5_1).f0).toList) == (((rd_T29 l1 x5_1).f0).toList)) || ((!(((rd_T29 l0 x5_1).f1.f0) == ((rd_T29 l1 x5_1).f1.f0)) || (!(((rd_T29 l0 x5_1).f1.f1) == ((rd_T29 l1 x5_1).f1.f1)))))) = false := by simpa using c7
                clear c7
                have H' := Aside0.mk H
                clear H
                have p138 : 0 ≤ (x5_1 : Int) := of_decide_eq_true (by first | (with_reducible assumption) | assumption)
                have q138 : x5_1 < (l0.length : Int) := of_decide_eq_true (by first | (with_reducible assumption) | assumption)
                obtain ⟨ad138, e138, hx138_0, hx138_1, hx138_2⟩ := at_T29 HR0.out x5_1 p138 q138
                cases e138
                replace p138 := eq_true p138
                replace q138 := eq_true q138
                have p139 : 0 ≤ (x5_1 : Int) := of_decide_eq_true (by first | (with_reducible assumption) | assumption)
                have q139 : x5_1 < (l1.length : Int) := of_decide_eq_true (by first | (with_reducible assumption) | assumption)
                obtain ⟨ad139, e139, hx139_0, hx139_1, hx139_2⟩ := at_T29 HR1.out x5_1 p139 q139
                cases e139
                replace p139 := eq_true p139
                replace q139 := eq_true q139
                go_wp2
                repeat (go_quiet (fail); try go_wp2)
                go_roundg k1
                case measure => have := HK1.out; omega
                case rel => exact ⟨(wrap64 (x5_1 + 1)), (by first | rfl | (simp; done) | (simp [*]; done)), H', ⟨by have := HK1.out; omega⟩, by repeat (first | exact Drawn0.refl _ | apply Drawn0.step)⟩
            · rw [if_neg c6] at H
              exact absurd H (by simp)
          · rw [if_neg c5] at H
            exact absurd H (by simp)
        · rw [if_neg c4] at H
          have c4b0 : decide (x5_1 < (l0.length : Int)) = false := decide_eq_false c4
          clear c4
          obtain rfl := Option.some.inj H
          go_wp2
          repeat (go_quiet (fail); try go_wp2)
          go_ret
          exact ⟨by first | rfl | (simp; done) | (simp [*]; done), by repeat (first | exact Drawn0.refl _ | apply Drawn0.step)⟩
  · rw [if_neg c3] at H
    have c3b0 : ((l0.length : Int) == (l1.length : Int)) = false := beq_eq_false_iff_ne.mpr c3
    have c3b1 : ((l0.length : Int) != (l1.length : Int)) = true := bne_iff_ne.mpr c3
    have c3b2 : (l0.length == l1.length) = false := by first | simpa using c3 | (simp at c3 ⊢; omega)
    obtain rfl := Option.some.inj H
    go_enter Try.func17, Try.ntmps17
    go_wp2
    repeat (go_quiet (fail); try go_wp2)
    go_ret
    exact ⟨by first | rfl | (simp; done) | (simp [*]; done), by repeat (first | exact Drawn0.refl _ | apply Drawn0.step)⟩

end Go.Proofs.Ytjaddmflopahiaa.Q
end
section
/- BtreeRanges: the walk. -/
namespace Go.Proofs.Bt
open Go Go.RowKit Go.Proofs.Ytjaddmflopahiaa.Q Go.Proofs.YtjaddmflopahiaaW.PrintWords Go.Proofs.YtjaddmflopahiaaW.PrintLast Go.Proofs.YtjaddmflopahiaaW.PrintMore
set_option linter.unusedVariables false
set_option linter.unusedSimpArgs false
set_option maxRecDepth 100000

/-- A row of entries, as the printed functions read it. -/
theorem rowE_C {w : World} {v : Value} {ks : List S29} (h : RowE w v ks) (hn : ks.length < 100000) : ∃ A c, v = .slice A ks.length c ∧ ks.length ≤ c ∧ Kd.C k29 w A ks.length ks := by
  by_cases h0 : 0 < ks.length
  · obtain ⟨g, c, rfl, hc⟩ := row_slice h h0
    refine ⟨_, c, rfl, hc, rfl, by omega, fun _ => ⟨⟨g, 0, none⟩, rfl, fun j p hj => ⟨_, rfl, k29_mk w p, fun i u hu => ?_⟩⟩⟩
    obtain ⟨hjl, rfl⟩ := List.getElem?_eq_some_iff.1 hj
    obtain ⟨d0, d1, d2⟩ := RowE.cells h j hjl
    rw [Addr.add_lit, Nat.zero_add]
    match i, hu with
    | 0, hu => simp at hu; subst hu; exact d0
    | 1, hu => simp at hu; subst hu; exact d1
    | 2, hu => simp at hu; subst hu; exact d2
  · have hks : ks = [] := List.eq_nil_of_length_eq_zero (by omega)
    subst hks
    rcases h.2.2 with ⟨rfl, _⟩ | ⟨g, c, cur, rfl, _, hc, _⟩
    · exact ⟨none, 0, rfl, Nat.le_refl _, rfl, by simp, fun h => absurd h (by simp)⟩
    · exact ⟨_, c, rfl, hc, rfl, by simp, fun h => absurd h (by simp)⟩
theorem same_l0 (ks : List S29) (hn : ks.length < 100000) : ∀ (k i : Nat), i ≤ ks.length → ks.length < i + k → interlockref08_Same.l0 k ks ks (i : Int) = some true
  | 0, i, h1, h2 => by omega
  | k + 1, i, h1, h2 => by
    unfold interlockref08_Same.l0
    by_cases h : i < ks.length
    · rw [if_pos (by omega), if_pos (by omega), if_pos (by omega), if_neg (by simp), IntWalk.wrap64_in _ (by omega)]
      exact same_l0 ks hn k (i + 1) (by omega) (by omega)
    · rw [if_neg (by omega)]
/-- The same entries: told the same. -/
theorem same_calls (W : World) (v u : Value) (ks : List S29) (hv : RowE W v ks) (hu : RowE W u ks) (hn : ks.length < 100000) : Calls Try.prog 17 #[v, u] W fun E w' => E = .returned (.bool true) ∧ Below W.heap.size W w' := by
  obtain ⟨A, c, rfl, hc, hC⟩ := rowE_C hv hn
  obtain ⟨A', c', rfl, hc', hC'⟩ := rowE_C hu hn
  refine (interlockref08_Same.calls (ks.length + 1) A c ks A' c' ks true W hC hc hC' hc' ?_).mono fun E w' h => ⟨h.1, h.2.below⟩
  unfold interlockref08_Same.f
  rw [if_pos rfl]
  exact same_l0 ks hn _ 0 (by omega) (by omega)
/-- One more entry is put to a row. -/
theorem ts_append {w0 W : World} {F : Nat → Prop} {tp : Nat} {T : ST} {cnt : Int} {v : Value} {acc : List S29} {R : List Chunk} (s : TS w0 F W tp T cnt (rowEC v acc :: R)) (x : S29) (ty : TypeId) (hn : acc.length < 100000) :
    ∃ g c w', (Builtin.append_ #[22, 22] ty #[v, .slice (some ⟨W.heap.size, 0, none⟩) 1 1]).run Try.prog (W.alloc (.cells #[.string x.f0, .int .i64 x.f1.f0, .int .i64 x.f1.f1] 29)) = .ok (.slice (some ⟨g, 0, none⟩) (acc.length + 1) c) w' ∧
      TS w0 F w' tp T cnt (rowEC (.slice (some ⟨g, 0, none⟩) (acc.length + 1) c) (acc ++ [x]) :: R) := by
  have hb : Below W.heap.size W (W.alloc (.cells #[.string x.f0, .int .i64 x.f1.f0, .int .i64 x.f1.f1] 29)) := (Below.refl _ W).alloc (Nat.le_refl _) _
  have s1 := s.below hb
  have hblk : (W.alloc (.cells #[.string x.f0, .int .i64 x.f1.f0, .int .i64 x.f1.f1] 29)).heap[W.heap.size]? = some (.cells #[.string x.f0, .int .i64 x.f1.f0, .int .i64 x.f1.f1] 29 (0, 0)) :=
    (St.alloc s.rest #[.string x.f0, .int .i64 x.f1.f0, .int .i64 x.f1.f1] 29 rfl).blk (R.length + 1) (by simp)
  obtain ⟨g, c, w', h1, h2, h3, h4⟩ := appendE _ v acc x W.heap.size ty (s1.rest.rowE 0 rfl) hblk hn
  exact ⟨g, c, w', h1, s1.upd fun X hX => St.setE (cs := rowEC v acc :: (R ++ X)) hX 0 rfl h3 h2 h4⟩
theorem wst_len (frm hiK : ByteArray) (most : Int) : ∀ (L acc : List S29), (L.foldl (wst frm hiK most) acc).length ≤ acc.length + L.length
  | [], acc => Nat.le_refl _
  | x :: L, acc => by
    have ih := wst_len frm hiK most L (wst frm hiK most acc x)
    have : (wst frm hiK most acc x).length ≤ acc.length + 1 := by
      unfold wst
      split <;> simp
    rw [List.foldl_cons, List.length_cons]
    omega
theorem TI_mem (l : List S29) : ∀ z ∈ entS (TI l), z ∈ l := by
  have : ∀ (l : List S29) (T : ST), TInvS T → ∀ z ∈ entS (l.foldl (fun T e => (tinsS T e).1) T), z ∈ entS T ∨ z ∈ l := by
    intro l
    induction l with
    | nil => intro T _ z hz; exact .inl hz
    | cons e l ih =>
      intro T hT z hz
      obtain ⟨h1, h2, _⟩ := tins_ent e hT
      rcases ih _ h1 z hz with h | h
      · rw [h2] at h
        rcases mem_sins h with rfl | h
        · exact .inr (by simp)
        · exact .inl h
      · exact .inr (by simp [h])
  intro z hz
  rcases this l _ tinv0 z hz with h | h
  · have e : entS (TA 0) = [] := rfl
    rw [e] at h
    simp at h
  · exact h
theorem foldl_step {α β : Type} (f : α → β → α) (a : α) (l : List β) (j : Nat) (x : β) (h : l[j]? = some x) : (l.take (j + 1)).foldl f a = f ((l.take j).foldl f a) x := by
  rw [List.take_add_one, h]
  simp
/-- A row without entries, made anew. -/
theorem ts_row0 {w0 W : World} {F : Nat → Prop} {tp : Nat} {T : ST} {cnt : Int} {R : List Chunk} (s : TS w0 F W tp T cnt R) : TS w0 F (W.alloc (.cells #[] 29)) tp T cnt (rowEC (.slice (some ⟨W.heap.size, 0, none⟩) 0 0) [] :: R) := by
  have h0 : St W NoF W [] := St.none W NoF
  have h1 : St W NoF (W.alloc (.cells #[] 29)) [blkC W.heap.size (.cells #[] 29 (0, 0))] := h0.alloc #[] 29 rfl
  refine s.made (St.tell (A := [blkC W.heap.size (.cells #[] 29 (0, 0))]) (B := [rowEC (.slice (some ⟨W.heap.size, 0, none⟩) 0 0) []]) (R := []) h1 (fun h c hc => ?_) (fun b => Nat.le_refl _))
  simp only [List.mem_cons, List.not_mem_nil, or_false] at hc
  subst hc
  have hb : (W.alloc (.cells #[] 29)).heap[W.heap.size]? = some (.cells #[] 29 (0, 0)) := h (blkC W.heap.size (.cells #[] 29 (0, 0))) List.mem_cons_self
  exact ⟨by simp [encEs], by simp [encEs], .inr ⟨_, 0, #[], rfl, hb, Nat.le_refl _, by simp [maxLen], by simp, by simp [encEs]⟩⟩
attribute [local go_sem] max_two max2_int
set_option maxHeartbeats 1500000 in
theorem ranges_calls (w : World) (A0 : Option Addr) (c0 : Nat) (l : List S29) (frm hiK : ByteArray) (most : Int) (hC : Kd.C k29 w A0 l.length l) (hfar : ∀ x ∈ l, Far x) : Calls Try.prog 5 #[.slice A0 l.length c0, .string frm, .string hiK, .int .i64 most] w fun E w' => E = .returned (.bool true) ∧ Below w.heap.size w w' := by
  obtain ⟨R, hR⟩ : ∃ R, (fun E w' => E = Ending.returned (.bool true) ∧ Below w.heap.size w w') = R := ⟨_, rfl⟩
  have HR := Aside0.mk hR
  rw [hR]
  have HC := Aside0.mk hC
  have HFAR := Aside0.mk hfar
  obtain ⟨n, hn⟩ : ∃ n, l.length = n := ⟨_, rfl⟩
  have HN := Aside0.mk hn
  have HA := Aside0.mk (alive_calls w)
  rw [hn]
  clear hR hC hn hfar
  by_cases hg : 300 < n ∨ 500 < frm.size ∨ 500 < hiK.size
  · have hg2 : (decide ((300 : Int) < (n : Int)) || (decide ((500 : Int) < (frm.size : Int)) || decide ((500 : Int) < (hiK.size : Int)))) = true := by
      rw [Bool.or_eq_true, Bool.or_eq_true, decide_eq_true_eq, decide_eq_true_eq, decide_eq_true_eq]
      omega
    go_enter Try.func5, Try.ntmps5
    go_wp2_with (go_at_call 9; refine HA.out.mono ?_; clear HA; rintro E w1 ⟨rfl, hb⟩; have HB1 := Aside0.mk hb; clear hb)
    all_goals (first | (rw [← HR.out]) | (go_ret; rw [← HR.out]))
    all_goals exact ⟨rfl, HB1.out⟩
  · have hg1 : decide ((300 : Int) < (n : Int)) = false := by simp; omega
    have hg2 : decide ((500 : Int) < (frm.size : Int)) = false := by simp; omega
    have hg3 : decide ((500 : Int) < (hiK.size : Int)) = false := by simp; omega
    go_enter Try.func5, Try.ntmps5
    go_wp2_with (first
      | (go_at_call 9; refine HA.out.mono ?_; clear HA; rintro E w1 ⟨rfl, hb⟩; have HB1 := Aside0.mk hb; clear hb)
      | (go_at_call 10; refine (new_ts _ w NoF [] ⟨Keep.of_below HB1.out _, fun c hc => (by cases hc), fun a => (by simp [fpc]), fun b hb => (by simp [fpc] at hb)⟩).mono ?_; rintro E w2 ⟨tp, rfl, hs⟩; have HS := Aside0.mk (show IL w l tp 0 w2 from hs); clear hs))
    go_loopg [10] n (fun gq v4 wx => ∃ j : Nat, v4 = .int .i64 j ∧ j + gq = n ∧ Aside0 (IL w l tp j wx))
    case atStart => exact ⟨0, rfl, by omega, HS⟩
    case round =>
      clear HS HB1 hg1 hg2 hg3
      obtain ⟨j, rfl, hj, HS⟩ := hrel
      cases gk with
      | succ gq =>
        have hjn : j < n := by omega
        have hjn2 : (j : Int) < (n : Int) := by omega
        have hj0 : (0 : Int) ≤ (j : Int) := by omega
        obtain ⟨x, hx⟩ : ∃ x, l[j]? = some x := ⟨_, List.getElem?_eq_getElem (by rw [HN.out]; exact hjn)⟩
        have hrx : rd_T29 l (j : Int) = x := by simp [rd_T29, List.getD_eq_getElem?_getD, hx]
        obtain ⟨ad, rfl, d0, d1, d2⟩ := at_T29 (below_C HC.out (keep_below HS.out.keep)) (j : Int) hj0 (by rw [HN.out]; exact hjn2)
        rw [hrx, Int.toNat_natCast] at d0 d1 d2
        have HX := Aside0.mk hx
        clear hrx hx
        by_cases hsz : 500 < x.f0.size
        · have hs2 : decide ((500 : Int) < (x.f0.size : Int)) = true := by simp; omega
          go_wp2
          first | (rw [← HR.out]) | (go_ret; rw [← HR.out])
          exact ⟨rfl, keep_below HS.out.keep⟩
        · have hs2 : decide ((500 : Int) < (x.f0.size : Int)) = false := by simp; omega
          go_wp2_with (go_at_call 11; refine (insert_il w l tp j wr x HX.out (by rw [HN.out]; omega) HS.out).mono ?_; clear d0 d1 d2; rintro E w3 ⟨⟨b, rfl⟩, hs3⟩; have HS3 := Aside0.mk hs3; clear hs3)
          go_roundg gq
          case measure => omega
          case rel => exact ⟨j + 1, by go_num, by omega, HS3⟩
      | zero =>
        obtain rfl : j = n := by omega
        have HTK := Aside0.mk (show l.take j = l by rw [List.take_of_length_le]; rw [HN.out]; omega)
        have hs1 : TS w NoF wr tp (TI l) ((entS (TI l)).length : Int) [] := by
          have := HS.out
          unfold IL at this
          rw [HTK.out] at this
          exact this
        have hfr : ∀ x ∈ entS (TI l), Far x := fun x hx => HFAR.out x (TI_mem l x hx)
        obtain ⟨T, hT⟩ : ∃ T, TI l = T := ⟨_, rfl⟩
        have hinv := TI_inv l
        have hle := TI_le l
        rw [hT] at hs1 hinv hle hfr
        have hall := all_ent T hinv hfr
        have hso := entS_sorted hinv
        have hfr2 := fun e => from_ent T e hinv
        obtain ⟨L, hL⟩ : ∃ L, entS T = L := ⟨_, rfl⟩
        rw [hL] at hs1 hle hfr hall hso
        rw [HN.out] at hle
        have hfl : ∀ e, (fromS T e).length < 90000 := fun e => by
          rw [hfr2 e, hL]
          have := List.length_filter_le (geB e) L
          omega
        have HFL := Aside0.mk hfl
        have HF2 := Aside0.mk (show ∀ e, fromS T e = L.filter (geB e) from fun e => hL ▸ hfr2 e)
        have HSA := Aside0.mk hs1
        have HINV := Aside0.mk hinv
        have HFR := Aside0.mk hfr
        have HSO := Aside0.mk hso
        have HALL := Aside0.mk hall
        obtain ⟨m, hm⟩ : ∃ m, L.length = m := ⟨_, rfl⟩
        have HM := Aside0.mk hm
        have hm3 : m ≤ 300 := by omega
        clear hs1 hinv hT HS HTK hfr hso hfr2 hall hL hle hfl hm
        go_wp2_with (go_at_call 18; refine (all_ts wr w NoF tp T _ [] HSA.out HINV.out (HFL.out _)).mono ?_; rintro E w3 ⟨va, rfl, hs2⟩; rw [HALL.out] at hs2; obtain ⟨AL, cL, rfl, hcL, hCL⟩ := rowE_C (hs2.rest.rowE 0 rfl) (by rw [HM.out]; omega); rw [HM.out] at hs2 hcL; have HS2 := Aside0.mk hs2; rw [HM.out]; clear hs2 hCL hcL)
        have HS3 := Aside0.mk (ts_row0 HS2.out)
        clear HS2
        go_loopg [12, 13] m (fun gq v12 v13 wx => ∃ (j : Nat) (acc : List S29) (A : Option Addr) (na c : Nat), v13 = .int .i64 j ∧ v12 = .slice A na c ∧ j + gq = m ∧ Aside0 (acc.length = na) ∧ Aside0 (acc = (L.take j).foldl (wst frm hiK most) []) ∧ Aside0 (TS w NoF wx tp T (m : Int) [rowEC (.slice A na c) acc, rowEC (.slice AL m cL) L]))
        case atStart => exact ⟨0, [], _, 0, _, rfl, rfl, by omega, Aside0.mk rfl, Aside0.mk rfl, HS3⟩
        case round =>
          clear HS3
          obtain ⟨j, acc, A, na, c, rfl, rfl, hj, HNA, HACC, HS⟩ := hrel
          have hna : na ≤ 300 := by
            have h1 := HNA.out
            have h2 := wst_len frm hiK most (L.take j) []
            rw [← HACC.out, List.length_take, HM.out] at h2
            simp at h2
            omega
          cases gk with
          | succ gq =>
            have hjn : j < m := by omega
            have hjn2 : (j : Int) < (m : Int) := by omega
            have hj0 : (0 : Int) ≤ (j : Int) := by omega
            have hj9 : (j : Int) ≤ 100000 := by omega
            obtain ⟨x, hx⟩ : ∃ x, L[j]? = some x := ⟨_, List.getElem?_eq_getElem (by rw [HM.out]; exact hjn)⟩
            have hrx : rd_T29 L (j : Int) = x := by simp [rd_T29, List.getD_eq_getElem?_getD, hx]
            obtain ⟨AL', cL', eL, hcL, hCL⟩ := rowE_C (HS.out.rest.rowE 1 rfl) (by rw [HM.out]; omega)
            rw [HM.out] at eL hcL hCL
            obtain ⟨rfl, -, rfl⟩ : AL = AL' ∧ m = m ∧ cL = cL' := by
              injection eL with e1 e2 e3
              exact ⟨e1, rfl, e3⟩
            obtain ⟨ad, rfl, d0, d1, d2⟩ := at_T29 hCL (j : Int) hj0 hjn2
            rw [hrx, Int.toNat_natCast] at d0 d1 d2
            have HSTEP := Aside0.mk (show (L.take (j + 1)).foldl (wst frm hiK most) [] = wst frm hiK most acc x by rw [HACC.out]; exact foldl_step _ _ _ _ _ hx)
            clear hrx hx eL hCL
            by_cases hw : keyLt x.f0 frm = false ∧ keyLt x.f0 hiK = true ∧ (na : Int) < most
            · have k1 : Op.bytesLess x.f0.toList frm.toList = false := hw.1
              have k2 : Op.bytesLess x.f0.toList hiK.toList = true := hw.2.1
              have k3 : decide ((na : Int) < most) = true := decide_eq_true hw.2.2
              have HAP := Aside0.mk (fun ty => ts_append HS.out x ty (by rw [HNA.out]; omega))
              have HW := Aside0.mk (show wst frm hiK most acc x = acc ++ [x] by unfold wst; rw [HNA.out, if_pos hw])
              clear hw
              go_wp2_with (at_builtin; obtain ⟨g', c', w4, hrun, hts⟩ := HAP.out 22; rw [HNA.out] at hrun hts; have HS4 := Aside0.mk hts; refine wpList_append_run rfl (.tmp 80) (.tmp 85) 22 22 rfl (.slice A na c) (.slice (some ⟨wr.heap.size, 0, none⟩) 1 1) rfl rfl hrun ?_; clear hrun hts d0 d1 d2)
              go_roundg gq
              case measure => omega
              case rel => exact ⟨j + 1, acc ++ [x], _, na + 1, c', by go_num, rfl, by omega, Aside0.mk (by rw [List.length_append, HNA.out]; rfl), Aside0.mk (by rw [HSTEP.out, HW.out]), HS4⟩
            · have HW := Aside0.mk (show wst frm hiK most acc x = acc by unfold wst; rw [HNA.out, if_neg hw])
              have hw2 : (Op.bytesLess x.f0.toList frm.toList = true) ∨ (Op.bytesLess x.f0.toList frm.toList = false ∧ Op.bytesLess x.f0.toList hiK.toList = false) ∨ (Op.bytesLess x.f0.toList frm.toList = false ∧ Op.bytesLess x.f0.toList hiK.toList = true ∧ decide ((na : Int) < most) = false) := by
                unfold keyLt at hw
                cases hb1 : Op.bytesLess x.f0.toList frm.toList
                · cases hb2 : Op.bytesLess x.f0.toList hiK.toList
                  · exact .inr (.inl ⟨rfl, rfl⟩)
                  · exact .inr (.inr ⟨rfl, rfl, decide_eq_false fun h => hw ⟨hb1, hb2, h⟩⟩)
                · exact .inl rfl
              clear hw
              have hrel' : ∀ v, v = Value.int .i64 ((j : Int) + 1) → ∃ (j' : Nat) (acc' : List S29) (A' : Option Addr) (na' c' : Nat), v = .int .i64 j' ∧ (Value.slice A na c) = .slice A' na' c' ∧ j' + gq = m ∧ Aside0 (acc'.length = na') ∧ Aside0 (acc' = (L.take j').foldl (wst frm hiK most) []) ∧ Aside0 (TS w NoF wr tp T (m : Int) [rowEC (.slice A' na' c') acc', rowEC (.slice (some ad) m cL) L]) :=
                fun v hv => ⟨j + 1, acc, A, na, c, by rw [hv]; go_num, rfl, by omega, HNA, Aside0.mk (by rw [HSTEP.out, HW.out]), HS⟩
              rcases hw2 with k1 | ⟨k1, k2⟩ | ⟨k1, k2, k3⟩
              · go_wp2
                go_roundg gq
                case measure => omega
                case rel => exact hrel' _ rfl
              · go_wp2
                go_roundg gq
                case measure => omega
                case rel => exact hrel' _ rfl
              · go_wp2
                go_roundg gq
                case measure => omega
                case rel => exact hrel' _ rfl
          | zero =>
            obtain rfl : j = m := by omega
            have HWANT := Aside0.mk (show rng hiK most (fromS T (lowS frm)) 0 = acc by
              rw [HACC.out, List.take_of_length_le (by rw [HM.out]; omega), wst_rng frm hiK most L [] HSO.out HFR.out, HF2.out]
              rfl)
            have HNONE := Aside0.mk (show rng frm 9 (fromS T (lowS frm)) 0 = [] by rw [HF2.out]; exact rng_self frm 9 L HFR.out)
            obtain ⟨q, hq⟩ : ∃ q, (rng frm most (fromS T (lowS hiK)) 0).length = q := ⟨_, rfl⟩
            have hq1 := (rng_len frm most (fromS T (lowS hiK)) 0).1
            have hq2 := (rng_len frm most (fromS T (lowS hiK)) 0).2
            have hq3 := HFL.out (lowS hiK)
            rw [hq] at hq1 hq2
            have hq4 : q = 0 ∨ (q : Int) ≤ most := hq2.imp (fun h => by rw [← hq, h]; rfl) (fun h => by omega)
            have hq5 : q < 90000 := by omega
            have HQ := Aside0.mk hq
            clear hq hq1 hq2 hq3
            have G1 := Aside0.mk trivial
            have G2 := G1
            have G3 := G1
            by_cases hm0 : most < 0
            · have hq6 : (q : Int) ≤ 0 := by omega
              clear hq4
              go_wp2_with (first
                | (clear G1; go_at_call 19; refine (range_ts _ w NoF tp T _ _ frm hiK most HS.out HINV.out (HFL.out _)).mono ?_; rintro E w5 ⟨v5, rfl, hs5⟩; rw [HWANT.out] at hs5; obtain ⟨A5, c5, rfl, hc5, -⟩ := rowE_C (hs5.rest.rowE 0 rfl) (by rw [HNA.out]; omega); rw [HNA.out] at hs5; have HS5 := Aside0.mk hs5; rw [HNA.out]; clear hs5 hc5)
                | (go_at_call 17; refine (same_calls _ _ _ acc (HS5.out.rest.rowE 0 rfl) (HS5.out.rest.rowE 1 rfl) (by rw [HNA.out]; omega)).mono ?_; rintro E w6 ⟨rfl, hb6⟩; have HS6 := Aside0.mk (HS5.out.below hb6); clear hb6)
                | (clear G2; go_at_call 19; refine (range_ts _ w NoF tp T _ _ hiK frm most HS6.out HINV.out (HFL.out _)).mono ?_; rintro E w7 ⟨v7, rfl, hs7⟩; obtain ⟨A7, c7, rfl, hc7, -⟩ := rowE_C (hs7.rest.rowE 0 rfl) (by rw [HQ.out]; omega); have HS7 := Aside0.mk hs7; rw [HQ.out]; clear hs7 hc7)
                | (clear G3; go_at_call 19; refine (range_ts _ w NoF tp T _ _ frm frm 9 HS7.out HINV.out (HFL.out _)).mono ?_; rintro E w8 ⟨v8, rfl, hs8⟩; rw [HNONE.out] at hs8; obtain ⟨A8, c8, rfl, hc8, -⟩ := rowE_C (hs8.rest.rowE 0 rfl) (by simp); have HS8 := Aside0.mk hs8; rw [show ([] : List S29).length = 0 from rfl]; clear hs8 hc8))
              first | (rw [← HR.out]) | (go_ret; rw [← HR.out])
              exact ⟨rfl, keep_below HS8.out.keep⟩
            · have hq6 : (q : Int) ≤ most := by omega
              clear hq4
              go_wp2_with (first
                | (clear G1; go_at_call 19; refine (range_ts _ w NoF tp T _ _ frm hiK most HS.out HINV.out (HFL.out _)).mono ?_; rintro E w5 ⟨v5, rfl, hs5⟩; rw [HWANT.out] at hs5; obtain ⟨A5, c5, rfl, hc5, -⟩ := rowE_C (hs5.rest.rowE 0 rfl) (by rw [HNA.out]; omega); rw [HNA.out] at hs5; have HS5 := Aside0.mk hs5; rw [HNA.out]; clear hs5 hc5)
                | (go_at_call 17; refine (same_calls _ _ _ acc (HS5.out.rest.rowE 0 rfl) (HS5.out.rest.rowE 1 rfl) (by rw [HNA.out]; omega)).mono ?_; rintro E w6 ⟨rfl, hb6⟩; have HS6 := Aside0.mk (HS5.out.below hb6); clear hb6)
                | (clear G2; go_at_call 19; refine (range_ts _ w NoF tp T _ _ hiK frm most HS6.out HINV.out (HFL.out _)).mono ?_; rintro E w7 ⟨v7, rfl, hs7⟩; obtain ⟨A7, c7, rfl, hc7, -⟩ := rowE_C (hs7.rest.rowE 0 rfl) (by rw [HQ.out]; omega); have HS7 := Aside0.mk hs7; rw [HQ.out]; clear hs7 hc7)
                | (clear G3; go_at_call 19; refine (range_ts _ w NoF tp T _ _ frm frm 9 HS7.out HINV.out (HFL.out _)).mono ?_; rintro E w8 ⟨v8, rfl, hs8⟩; rw [HNONE.out] at hs8; obtain ⟨A8, c8, rfl, hc8, -⟩ := rowE_C (hs8.rest.rowE 0 rfl) (by simp); have HS8 := Aside0.mk hs8; rw [show ([] : List S29).length = 0 from rfl]; clear hs8 hc8))
              first | (rw [← HR.out]) | (go_ret; rw [← HR.out])
              exact ⟨rfl, keep_below HS8.out.keep⟩
/-- As the row wants it. -/
theorem ranges_row (w : World) (A0 : Option Addr) (c0 : Nat) (l : List S29) (frm hiK : ByteArray) (most : Int) (hC : Kd.C k29 w A0 l.length l) (hcap : l.length ≤ c0) (hwf : l.length ≤ maxLen ∧ ∀ a ∈ l, wf29 a) (h1 : frm.size ≤ maxLen) (h2 : hiK.size ≤ maxLen) (h3 : (Lit.int .i64 most).wf = true) :
    Calls Try.prog 5 #[.slice A0 l.length c0, .string frm, .string hiK, .int .i64 most] w fun E w' => E = .returned (.bool true) ∧ Below w.heap.size w w' := ranges_calls w A0 c0 l frm hiK most hC fun x hx => far_of (hwf.2 x hx)
end Go.Proofs.Bt
end
