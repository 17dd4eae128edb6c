/- Packed by shake.py: YtkcjcdkmdooofaaGreatA4 YtkcjcdkmdooofaaGreatA5 YtkcjcdkmdooofaaGreatA6 YtkcjcdkmdooofaaGreatQ26 YtkcjcdkmdooofaaGreatLK7 YtkcjcdkmdooofaaGreatA7 YtkcjcdkmdooofaaGreatLK8 YtkcjcdkmdooofaaGreatLK9 YtkcjcdkmdooofaaGreatQ5 -/
import Derived.Test.YtkcjcdkmdooofaaGreatV3
set_option linter.unusedVariables false
set_option linter.unusedSimpArgs false
set_option linter.unusedSectionVars false
section
namespace Go.Proofs.Lk
theorem modeOf_some {r : LRow} {x h : Int} (e : modeOf r x = some h) : (x, h) ∈ r.holds := by
 unfold modeOf at e
 cases hf : r.holds.find? (fun o => o.1 == x) with
 | none => rw [hf] at e; cases e
 | some o =>
   rw [hf] at e
   have h1 := List.find?_some hf
   have h2 := List.mem_of_find?_eq_some hf
   have h3 : o.1 = x := by simpa using h1
   have h4 : o.2 = h := Option.some.inj e
   rw [← h3, ← h4]
   exact h2
theorem modeOf_none {r : LRow} {x : Int} (e : modeOf r x = none) : has r.holds x = false := by
 unfold modeOf at e
 rw [Option.map_eq_none_iff, List.find?_eq_none] at e
 cases hh : has r.holds x with
 | false => rfl
 | true =>
   obtain ⟨o, ho, e2⟩ := has_iff.1 hh
   exact absurd (by simpa using e2) (e o ho)
theorem one_of {l : List One} (h : (l.map (·.1)).Nodup) {a b : One} (ha : a ∈ l) (hb : b ∈ l) (e : a.1 = b.1) : a = b := by
 induction l with
 | nil => cases ha
 | cons x l ih =>
   rw [List.map_cons, List.nodup_cons] at h
   rcases List.mem_cons.1 ha with h1 | h1 <;> rcases List.mem_cons.1 hb with h2 | h2
   · rw [h1, h2]
   · exact absurd (List.mem_map.2 ⟨b, h2, by rw [← e, h1]⟩) h.1
   · exact absurd (List.mem_map.2 ⟨a, h1, by rw [e, h2]⟩) h.1
   · exact ih h.2 h1 h2
theorem wanted_ok {r : LRow} (h : RInv r) {x m : Int} (hm : right m = true) : (wanted r x m).1 = x ∧ right (wanted r x m).2 = true ∧ ∀ o ∈ r.holds, o.1 = x → cov (wanted r x m).2 o.2 = true := by
 unfold wanted
 cases e : modeOf r x with
 | none =>
   refine ⟨rfl, hm, fun o ho e2 => ?_⟩
   have := modeOf_none e
   rw [has_iff.2 ⟨o, ho, e2⟩] at this
   cases this
 | some g =>
   have hg := modeOf_some e
   have hr := h.hm _ hg
   obtain ⟨j1, j2, j3⟩ := join_cov hr hm
   refine ⟨rfl, j1, fun o ho e2 => ?_⟩
   rw [one_of h.hn ho hg e2]
   exact j2
theorem place_le (r : LRow) (x : Int) : place r x ≤ r.waits.length := by
 unfold place
 split
 · split
   · rename_i n h
     have := (List.findIdx?_eq_some_iff_findIdx_eq.1 h).1
     omega
   · exact Nat.le_refl _
 · exact Nat.le_refl _
theorem grant_inv {r : LRow} (h : RInv r) {o : One} {p : Nat} (hx : has r.waits o.1 = false) (ho : right o.2 = true) (hc : ∀ w ∈ r.holds, w.1 = o.1 → cov o.2 w.2 = true) (hr : rawB r o p = []) : RInv ⟨give r.holds o, r.waits⟩ := by
 refine ⟨give_nodup h.hn, h.wn, fun x hx => ?_, h.wm, give_safe h.hm ho h.safe (no_raw hr), fun w hw x hx2 e => ?_⟩
 · rcases mem_give hx with rfl | ⟨hx, _⟩
   · exact ho
   · exact h.hm x hx
 · rcases mem_give hx2 with rfl | ⟨hx2, _⟩
   · rw [has_iff.2 ⟨w, hw, e.symm⟩] at hx
     cases hx
   · exact h.up w hw x hx2 e
theorem grant_blk {r : LRow} {o : One} {n : Nat} (hx : has r.waits o.1 = false) (hc : ∀ w ∈ r.holds, w.1 = o.1 → cov o.2 w.2 = true) (hb : Blk r n) : Blk ⟨give r.holds o, r.waits⟩ n := by
 intro j hj w hw
 have hw2 : r.waits[j]? = some w := hw
 have hwo : w.1 ≠ o.1 := fun e => by
   rw [has_iff.2 ⟨w, List.mem_of_getElem? hw2, e⟩] at hx
   cases hx
 obtain ⟨x, hx2, h1, h2⟩ := raw_ne.1 (hb j hj w hw2)
 rw [raw_ne]
 rcases List.mem_append.1 hx2 with hx2 | hx2
 · by_cases e : x.1 = o.1
   · exact ⟨o, List.mem_append_left _ (give_self _ _), fun e2 => hwo e2.symm, cov_conf (hc x hx2 e) h2⟩
   · exact ⟨x, List.mem_append_left _ (give_other hx2 e), h1, h2⟩
 · exact ⟨x, List.mem_append_right _ hx2, h1, h2⟩
theorem wait_inv {r : LRow} (h : RInv r) {o : One} {p : Nat} (hx : has r.waits o.1 = false) (ho : right o.2 = true) (hc : ∀ w ∈ r.holds, w.1 = o.1 → cov o.2 w.2 = true) : RInv ⟨r.holds, r.waits.take p ++ o :: r.waits.drop p⟩ := by
 have hmem : ∀ w ∈ r.waits.take p ++ o :: r.waits.drop p, w = o ∨ w ∈ r.waits := fun w hw => by
   rcases List.mem_append.1 hw with hw | hw
   · exact .inr (List.mem_of_mem_take hw)
   · rcases List.mem_cons.1 hw with rfl | hw
     · exact .inl rfl
     · exact .inr (List.mem_of_mem_drop hw)
 refine ⟨h.hn, ?_, h.hm, fun w hw => ?_, h.safe, fun w hw x hx2 e => ?_⟩
 · have hp : (r.waits.take p ++ o :: r.waits.drop p).Perm (o :: r.waits) := by
     refine List.perm_middle.trans (List.Perm.cons _ ?_)
     rw [List.take_append_drop]
   rw [(hp.map (·.1)).nodup_iff, List.map_cons, List.nodup_cons]
   refine ⟨fun hm => ?_, h.wn⟩
   obtain ⟨w, hw, e⟩ := List.mem_map.1 hm
   rw [has_iff.2 ⟨w, hw, e⟩] at hx
   cases hx
 · rcases hmem w hw with rfl | hw
   · exact ho
   · exact h.wm w hw
 · rcases hmem w hw with rfl | hw
   · exact hc x hx2 e
   · exact h.up w hw x hx2 e
theorem wait_blk {r : LRow} {o : One} {p : Nat} (hp : p ≤ r.waits.length) (hb : Blk r r.waits.length) (hr : rawB r o p ≠ []) : Blk ⟨r.holds, r.waits.take p ++ o :: r.waits.drop p⟩ (r.waits.length + 1) := by
 have hl : (r.waits.take p).length = p := by rw [List.length_take]; omega
 have hmono : ∀ {w : One} {i j : Nat}, (∀ x ∈ r.waits.take i, x ∈ (r.waits.take p ++ o :: r.waits.drop p).take j) → rawB r w i ≠ [] → rawB ⟨r.holds, r.waits.take p ++ o :: r.waits.drop p⟩ w j ≠ [] := by
   intro w i j hs hw
   obtain ⟨x, hx, h1, h2⟩ := raw_ne.1 hw
   rw [raw_ne]
   rcases List.mem_append.1 hx with hx | hx
   · exact ⟨x, List.mem_append_left _ hx, h1, h2⟩
   · exact ⟨x, List.mem_append_right _ (hs x hx), h1, h2⟩
 intro j hj w hw
 change (r.waits.take p ++ o :: r.waits.drop p)[j]? = some w at hw
 rcases Nat.lt_trichotomy j p with h | h | h
 · rw [List.getElem?_append_left (by rw [hl]; exact h), List.getElem?_take_of_lt h] at hw
   refine hmono (i := j) (fun x hx => ?_) (hb j (by omega) w hw)
   rw [List.take_append_of_le_length (by rw [hl]; omega), List.take_take, Nat.min_eq_left (by omega)]
   exact hx
 · subst h
   rw [List.getElem?_append_right (by rw [hl]; exact Nat.le_refl _), hl, Nat.sub_self] at hw
   simp at hw
   subst hw
   refine hmono (i := j) (fun x hx => ?_) hr
   rw [List.take_append_of_le_length (by rw [hl]; exact Nat.le_refl _), List.take_take, Nat.min_self]
   exact hx
 · obtain ⟨i, rfl⟩ : ∃ i, j = i + 1 := ⟨j - 1, by omega⟩
   rw [List.getElem?_append_right (by rw [hl]; omega), hl, show i + 1 - p = (i - p) + 1 by omega, List.getElem?_cons_succ, List.getElem?_drop, show p + (i - p) = i by omega] at hw
   refine hmono (i := i) (fun x hx => ?_) (hb i (by omega) w hw)
   rw [List.take_append, hl, show i + 1 - p = (i - p) + 1 by omega, List.take_succ_cons, List.take_take, Nat.min_eq_right (by omega)]
   have e : r.waits.take i = r.waits.take p ++ (r.waits.drop p).take (i - p) := by
     conv => lhs; rw [show i = p + (i - p) by omega, List.take_add]
   rw [e] at hx
   rcases List.mem_append.1 hx with hx | hx
   · exact List.mem_append_left _ hx
   · exact List.mem_append_right _ (List.mem_cons_of_mem _ hx)
section
variable {α : Type} [DecidableEq α]
theorem ask_inv {hadd : List α → α → List α} (ha : ∀ ls x y, y ∈ hadd ls x ↔ y = x ∨ y ∈ ls) {s : LS α} (x : Int) (t : α) (m : Int) (h : LInv s) (hm : right m = true) (hx : s.waits x = none) : LInv (askR hadd s x t m).1 := by
 have hnw : ∀ u, has (s.rows u).waits x = false := fun u => by
   cases hh : has (s.rows u).waits x with
   | false => rfl
   | true =>
     have := (h.ww x u).2 hh
     rw [hx] at this
     cases this
 obtain ⟨w1, w2, w3⟩ := wanted_ok (h.row t) (x := x) hm
 obtain ⟨o, ho⟩ : ∃ o, wanted (s.rows t) x m = o := ⟨_, rfl⟩
 unfold askR
 rw [ho] at w1 w2 w3
 simp only [ho]
 by_cases hcv : enough (s.rows t) x m = true
 · rw [if_pos hcv]
   exact h
 · rw [if_neg hcv]
   by_cases hr : rawB (s.rows t) o (place (s.rows t) x) = []
   · simp only [hr, ne_eq, not_true_eq_false, if_false]
     refine ⟨fun u => ?_, fun u hu => ?_, fun y u => ?_, fun y u => ?_⟩
     · by_cases e : u = t
       · subst e
         show RInv (upd s.rows u _ u)
         rw [upd_same]
         exact grant_inv (h.row u) (by rw [w1]; exact hnw u) w2 (by rw [w1]; exact w3) hr
       · show RInv (upd s.rows t _ u)
         rw [upd_other e]
         exact h.row u
     · show Blk (upd s.rows t ⟨give (s.rows t).holds o, (s.rows t).waits⟩ u) (upd s.rows t ⟨give (s.rows t).holds o, (s.rows t).waits⟩ u).waits.length
       by_cases e : u = t
       · subst e
         rw [upd_same]
         exact grant_blk (by rw [w1]; exact hnw u) (by rw [w1]; exact w3) (h.blk u hu)
       · rw [upd_other e]
         exact h.blk u hu
     · show s.waits y = some u ↔ has (upd s.rows t ⟨give (s.rows t).holds o, (s.rows t).waits⟩ u).waits y = true
       rw [h.ww y u]
       by_cases e : u = t
       · subst e
         rw [upd_same]
       · rw [upd_other e]
     · show u ∈ upd s.held x (hadd (s.held x) t) y ↔ has (upd s.rows t ⟨give (s.rows t).holds o, (s.rows t).waits⟩ u).holds y = true
       have hgive : has (give (s.rows t).holds o) y = true ↔ y = x ∨ has (s.rows t).holds y = true := by
         rw [has_iff, has_iff]
         constructor
         · rintro ⟨w, hw, rfl⟩
           rcases mem_give hw with rfl | ⟨hw, _⟩
           · exact .inl w1
           · exact .inr ⟨w, hw, rfl⟩
         · rintro (rfl | ⟨w, hw, rfl⟩)
           · exact ⟨o, give_self _ _, w1⟩
           · by_cases e : w.1 = o.1
             · exact ⟨o, give_self _ _, e.symm⟩
             · exact ⟨w, give_other hw e, rfl⟩
       by_cases ey : y = x
       · subst ey
         rw [upd_same, ha, h.hh y u]
         by_cases e : u = t
         · subst e
           rw [upd_same]
           exact ⟨fun _ => hgive.2 (.inl rfl), fun _ => .inl rfl⟩
         · rw [upd_other e]
           simp [e]
       · rw [upd_other ey, h.hh y u]
         by_cases e : u = t
         · subst e
           rw [upd_same]
           exact ⟨fun h => hgive.2 (.inr h), fun h => (hgive.1 h).resolve_left ey⟩
         · rw [upd_other e]
   · simp only [ne_eq, hr, not_false_eq_true, if_true]
     refine ⟨fun u => ?_, fun u hu => ?_, fun y u => ?_, fun y u => ?_⟩
     · by_cases e : u = t
       · subst e
         show RInv (upd s.rows u _ u)
         rw [upd_same]
         exact wait_inv (h.row u) (by rw [w1]; exact hnw u) w2 (by rw [w1]; exact w3)
       · show RInv (upd s.rows t _ u)
         rw [upd_other e]
         exact h.row u
     · show Blk (upd s.rows t ⟨(s.rows t).holds, (s.rows t).waits.take (place (s.rows t) x) ++ o :: (s.rows t).waits.drop (place (s.rows t) x)⟩ u) (upd s.rows t ⟨(s.rows t).holds, (s.rows t).waits.take (place (s.rows t) x) ++ o :: (s.rows t).waits.drop (place (s.rows t) x)⟩ u).waits.length
       by_cases e : u = t
       · subst e
         rw [upd_same]
         have hp := place_le (s.rows u) x
         have e2 : ((s.rows u).waits.take (place (s.rows u) x) ++ o :: (s.rows u).waits.drop (place (s.rows u) x)).length = (s.rows u).waits.length + 1 := by
           rw [List.length_append, List.length_cons, List.length_take, List.length_drop]
           omega
         show Blk _ ((s.rows u).waits.take (place (s.rows u) x) ++ o :: (s.rows u).waits.drop (place (s.rows u) x)).length
         rw [e2]
         exact wait_blk hp (h.blk u hu) hr
       · rw [upd_other e]
         exact h.blk u hu
     · show upd s.waits x (some t) y = some u ↔ has (upd s.rows t ⟨(s.rows t).holds, (s.rows t).waits.take (place (s.rows t) x) ++ o :: (s.rows t).waits.drop (place (s.rows t) x)⟩ u).waits y = true
       have hins : has ((s.rows t).waits.take (place (s.rows t) x) ++ o :: (s.rows t).waits.drop (place (s.rows t) x)) y = true ↔ y = x ∨ has (s.rows t).waits y = true := by
         rw [has_iff, has_iff]
         constructor
         · rintro ⟨w, hw, rfl⟩
           rcases List.mem_append.1 hw with hw | hw
           · exact .inr ⟨w, List.mem_of_mem_take hw, rfl⟩
           · rcases List.mem_cons.1 hw with rfl | hw
             · exact .inl w1
             · exact .inr ⟨w, List.mem_of_mem_drop hw, rfl⟩
         · rintro (rfl | ⟨w, hw, rfl⟩)
           · exact ⟨o, by simp, w1⟩
           · refine ⟨w, ?_, rfl⟩
             rw [← List.take_append_drop (place (s.rows t) x) (s.rows t).waits] at hw
             rcases List.mem_append.1 hw with hw | hw
             · exact List.mem_append_left _ hw
             · exact List.mem_append_right _ (List.mem_cons_of_mem _ hw)
       by_cases ey : y = x
       · subst ey
         rw [upd_same]
         by_cases e : u = t
         · subst e
           rw [upd_same]
           exact ⟨fun _ => hins.2 (.inl rfl), fun _ => rfl⟩
         · rw [upd_other e, hnw u]
           simp [Ne.symm e]
       · rw [upd_other ey, h.ww y u]
         by_cases e : u = t
         · subst e
           rw [upd_same]
           exact ⟨fun h => hins.2 (.inr h), fun h => (hins.1 h).resolve_left ey⟩
         · rw [upd_other e]
     · show u ∈ s.held y ↔ has (upd s.rows t ⟨(s.rows t).holds, (s.rows t).waits.take (place (s.rows t) x) ++ o :: (s.rows t).waits.drop (place (s.rows t) x)⟩ u).holds y = true
       rw [h.hh y u]
       by_cases e : u = t
       · subst e
         rw [upd_same]
       · rw [upd_other e]
end
end Go.Proofs.Lk
end
section
namespace Go.Proofs.Lk
section
variable {α : Type} [DecidableEq α]
def pres (s : LS α) (t : α) (x : Int) : Prop := has (s.rows t).holds x = true ∨ has (s.rows t).waits x = true
theorem sweepS_rows (hadd : List α → α → List α) (s : LS α) (t : α) : (sweepS hadd s t).1.rows = upd s.rows t (sweepR (s.rows t)).1 := by
 unfold sweepS
 dsimp only
 generalize (sweepR (s.rows t)).2 = l
 have : ∀ (l : List Int) (s : LS α), (l.foldl (noted hadd t) s).rows = s.rows := by
   intro l
   induction l with
   | nil => intro s; rfl
   | cons a l ih => intro s; rw [List.foldl_cons, ih]; rfl
 rw [this]
theorem sweepS_pres {hadd : List α → α → List α} {s : LS α} {t u : α} {x : Int} (h : ∀ t, RInv (s.rows t)) (hp : pres (sweepS hadd s t).1 u x) : pres s u x := by
 unfold pres at hp ⊢
 rw [sweepS_rows] at hp
 by_cases e : u = t
 · subst e
   rw [upd_same] at hp
   obtain ⟨w1, w2, w3⟩ := sweepA_who ((s.rows u).waits.length + 1) (s.rows u) 0 x (h u)
   change x ∈ (sweepR (s.rows u)).2 → _ at w1
   change has (sweepR (s.rows u)).1.waits x = true ↔ _ ∧ x ∉ (sweepR (s.rows u)).2 at w2
   change has (sweepR (s.rows u)).1.holds x = true ↔ _ ∨ x ∈ (sweepR (s.rows u)).2 at w3
   rcases hp with hp | hp
   · rcases w3.1 hp with h1 | h1
     · exact .inl h1
     · exact .inr (w1 h1)
   · exact .inr (w2.1 hp).1
 · rw [upd_other e] at hp
   exact hp
theorem sweepS_row {hadd : List α → α → List α} {s : LS α} {t : α} (h : ∀ t, RInv (s.rows t)) : ∀ u, RInv ((sweepS hadd s t).1.rows u) := by
 intro u
 rw [sweepS_rows]
 by_cases e : u = t
 · subst e
   rw [upd_same]
   exact (sweepR_good (h u)).1
 · rw [upd_other e]
   exact h u
theorem sweepsS_pres {hadd : List α → α → List α} : ∀ (ts : List α) (s : LS α) {u : α} {x : Int}, (∀ t, RInv (s.rows t)) → pres (sweepsS hadd ts s).1 u x → pres s u x
 | [], s, u, x, h, hp => hp
 | t :: ts, s, u, x, h, hp => sweepS_pres h (sweepsS_pres ts _ (sweepS_row h) hp)
theorem release_pres {hadd : List α → α → List α} (ha : ∀ ls x y, y ∈ hadd ls x ↔ y = x ∨ y ∈ ls) {s : LS α} (h : LInv s) {x y : Int} {u : α} (hp : pres (releaseS hadd s x).1 u y) : pres s u y ∧ y ≠ x := by
 have hall : ∀ t, t ∈ allT hadd s x ↔ s.waits x = some t ∨ t ∈ s.held x := fun t => by
   unfold allT
   cases hw : s.waits x with
   | none => simp
   | some u => simp [ha, eq_comm]
 have hr : ∀ t, RInv ((⟨fun t => if t ∈ allT hadd s x then dropR (s.rows t) x else s.rows t, upd s.waits x none, upd s.held x []⟩ : LS α).rows t) := fun t => by
   show RInv (if t ∈ allT hadd s x then dropR (s.rows t) x else s.rows t)
   split
   · exact dropR_inv (h.row t) x
   · exact h.row t
 have h2 := sweepsS_pres _ _ hr hp
 unfold pres at h2
 change has (if u ∈ allT hadd s x then dropR (s.rows u) x else s.rows u).holds y = true ∨ has (if u ∈ allT hadd s x then dropR (s.rows u) x else s.rows u).waits y = true at h2
 split at h2
 · rcases h2 with h2 | h2
   · exact ⟨.inl (has_filter.1 h2).1, (has_filter.1 h2).2⟩
   · exact ⟨.inr (has_filter.1 h2).1, (has_filter.1 h2).2⟩
 · rename_i hn
   refine ⟨h2, fun e => hn ?_⟩
   subst e
   rcases h2 with h2 | h2
   · exact (hall u).2 (.inr ((h.hh y u).2 h2))
   · exact (hall u).2 (.inl ((h.ww y u).2 h2))
theorem cancel_pres {hadd : List α → α → List α} {s : LS α} (h : LInv s) {x y : Int} {u : α} (hp : pres (cancelS hadd s x).1 u y) : pres s u y := by
 unfold cancelS at hp
 cases hw : s.waits x with
 | none => rw [hw] at hp; exact hp
 | some t =>
   rw [hw] at hp
   have hr : ∀ v, RInv ((⟨upd s.rows t ⟨(s.rows t).holds, (s.rows t).waits.filter fun o => o.1 != x⟩, upd s.waits x none, s.held⟩ : LS α).rows v) := fun v => by
     show RInv (upd s.rows t ⟨(s.rows t).holds, (s.rows t).waits.filter fun o => o.1 != x⟩ v)
     by_cases e : v = t
     · subst e
       rw [upd_same]
       have hr := h.row v
       exact ⟨hr.hn, hr.wn.sublist (List.filter_sublist.map _), hr.hm, fun o ho => hr.wm o (List.mem_filter.1 ho).1, hr.safe, fun w hw => hr.up w (List.mem_filter.1 hw).1⟩
     · rw [upd_other e]
       exact h.row v
   have h2 := sweepS_pres hr hp
   unfold pres at h2 ⊢
   change has (upd s.rows t ⟨(s.rows t).holds, (s.rows t).waits.filter fun o => o.1 != x⟩ u).holds y = true ∨ has (upd s.rows t ⟨(s.rows t).holds, (s.rows t).waits.filter fun o => o.1 != x⟩ u).waits y = true at h2
   by_cases e : u = t
   · subst e
     rw [upd_same] at h2
     rcases h2 with h2 | h2
     · exact .inl h2
     · exact .inr (has_filter.1 h2).1
   · rw [upd_other e] at h2
     exact h2
theorem ask_pres {hadd : List α → α → List α} {s : LS α} (h : LInv s) {x y m : Int} {t u : α} (hp : pres (askR hadd s x t m).1 u y) : pres s u y ∨ (y = x ∧ u = t) := by
 have w1 : (wanted (s.rows t) x m).1 = x := by unfold wanted; split <;> rfl
 obtain ⟨o, ho⟩ : ∃ o, wanted (s.rows t) x m = o := ⟨_, rfl⟩
 unfold askR at hp
 rw [ho] at w1
 simp only [ho] at hp
 by_cases hcv : enough (s.rows t) x m = true
 · rw [if_pos hcv] at hp
   exact .inl hp
 · rw [if_neg hcv] at hp
   by_cases hr : rawB (s.rows t) o (place (s.rows t) x) = []
   · simp only [hr, ne_eq, not_true_eq_false, if_false] at hp
     unfold pres at hp ⊢
     change has (upd s.rows t ⟨give (s.rows t).holds o, (s.rows t).waits⟩ u).holds y = true ∨ has (upd s.rows t ⟨give (s.rows t).holds o, (s.rows t).waits⟩ u).waits y = true at hp
     by_cases e : u = t
     · subst e
       rw [upd_same] at hp
       rcases hp with hp | hp
       · obtain ⟨w, hw, rfl⟩ := has_iff.1 hp
         rcases mem_give hw with rfl | ⟨hw, _⟩
         · exact .inr ⟨w1, rfl⟩
         · exact .inl (.inl (has_iff.2 ⟨w, hw, rfl⟩))
       · exact .inl (.inr hp)
     · rw [upd_other e] at hp
       exact .inl hp
   · simp only [ne_eq, hr, not_false_eq_true, if_true] at hp
     unfold pres at hp ⊢
     change has (upd s.rows t ⟨(s.rows t).holds, (s.rows t).waits.take (place (s.rows t) x) ++ o :: (s.rows t).waits.drop (place (s.rows t) x)⟩ u).holds y = true ∨ has (upd s.rows t ⟨(s.rows t).holds, (s.rows t).waits.take (place (s.rows t) x) ++ o :: (s.rows t).waits.drop (place (s.rows t) x)⟩ u).waits y = true at hp
     by_cases e : u = t
     · subst e
       rw [upd_same] at hp
       rcases hp with hp | hp
       · exact .inl (.inl hp)
       · obtain ⟨w, hw, rfl⟩ := has_iff.1 hp
         rcases List.mem_append.1 hw with hw | hw
         · exact .inl (.inr (has_iff.2 ⟨w, List.mem_of_mem_take hw, rfl⟩))
         · rcases List.mem_cons.1 hw with rfl | hw
           · exact .inr ⟨w1, rfl⟩
           · exact .inl (.inr (has_iff.2 ⟨w, List.mem_of_mem_drop hw, rfl⟩))
     · rw [upd_other e] at hp
       exact .inl hp
end
end Go.Proofs.Lk
end
section
namespace Go.Proofs.Lk
section
variable {α : Type} [DecidableEq α]
structure Cal (α : Type) where
 what : Int
 txn : Int
 thing : α
 mode : Int
inductive Ans where | ok | form | state
def askS (hadd : List α → α → List α) (fits : α → Bool) (s : LS α) (x : Int) (t : α) (m : Int) : LS α × Bool × Ans :=
 if (fits t && right m) = true then (if (s.waits x).isSome = true then (s, false, .state) else ((askR hadd s x t m).1, (askR hadd s x t m).2, .ok)) else (s, false, .form)
def stepS (hadd : List α → α → List α) (fits : α → Bool) (s : LS α) (c : Cal α) : LS α :=
 if c.what = 0 then (askS hadd fits s c.txn c.thing c.mode).1 else if c.what = 1 then (cancelS hadd s c.txn).1 else if c.what = 2 then (releaseS hadd s c.txn).1 else s
variable {hadd : List α → α → List α} {fits : α → Bool} (ha : ∀ ls x y, y ∈ hadd ls x ↔ y = x ∨ y ∈ ls)
include ha
theorem askS_inv {s : LS α} (h : LInv s) (x : Int) (t : α) (m : Int) : LInv (askS hadd fits s x t m).1 := by
 unfold askS
 split
 · rename_i hf
   rw [Bool.and_eq_true] at hf
   split
   · exact h
   · rename_i hw
     refine ask_inv ha x t m h hf.2 ?_
     cases hx : s.waits x with
     | none => rfl
     | some u => rw [hx] at hw; simp at hw
 · exact h
theorem step_inv {s : LS α} (h : LInv s) (c : Cal α) : LInv (stepS hadd fits s c) := by
 unfold stepS
 split
 · exact askS_inv ha h _ _ _
 · split
   · exact cancel_inv ha _ h
   · split
     · exact release_inv ha _ h
     · exact h
theorem step_pres {s : LS α} (h : LInv s) (c : Cal α) {t : α} {x : Int} (hp : pres (stepS hadd fits s c) t x) : pres s t x ∨ (c.txn = x ∧ c.thing = t ∧ fits t = true) := by
 unfold stepS at hp
 split at hp
 · unfold askS at hp
   split at hp
   · rename_i hf
     rw [Bool.and_eq_true] at hf
     split at hp
     · exact .inl hp
     · rcases ask_pres h hp with h1 | ⟨rfl, rfl⟩
       · exact .inl h1
       · exact .inr ⟨rfl, rfl, hf.1⟩
   · exact .inl hp
 · split at hp
   · exact .inl (cancel_pres h hp)
   · split at hp
     · exact .inl (release_pres ha h hp).1
     · exact .inl hp
end
end Go.Proofs.Lk
end
section
namespace Go.Proofs.YtkcjcdkmdooofaaGreat.Q
open Go.RowKit Go.Proofs.YtkcjcdkmdooofaaGreatW.PrintWords Go.Proofs.YtkcjcdkmdooofaaGreatW.PrintLast Go.Proofs.YtkcjcdkmdooofaaGreatW.PrintMore
attribute [local go_sem] max2_int min2_int max_two min_two max_three min_three max_four min_four
def modes_Fits.j0 : Nat → Int → Bool → Int → ByteArray → ByteArray → Option (Bool)
 | 0, _, _, _, _, _ => none
 | k + 1, x4, x5, x102000, x102001, x102002 => if x5 = true then (if x102001.toList = ([] : List UInt8) then (some (x102002.toList == ([] : List UInt8))) else (some false)) else (if x4 = 3 then (some (x102002.toList == ([] : List UInt8))) else (some (x102000 == 4)))
def modes_Fits.f (k : Nat) (a0_0 : Int) (a0_1 : ByteArray) (a0_2 : ByteArray) : Option (Bool) := if a0_0 = 1 then (modes_Fits.j0 k a0_0 (a0_0 == 1) a0_0 a0_1 a0_2) else (modes_Fits.j0 k a0_0 (a0_0 == 2) a0_0 a0_1 a0_2)
theorem modes_Fits.mono_l : ∀ k, (∀ y0 y1 y2 y3 y4, LeO (modes_Fits.j0 k y0 y1 y2 y3 y4) (modes_Fits.j0 (k + 1) y0 y1 y2 y3 y4))
 | 0 => fun _ _ _ _ _ r h => by simp [modes_Fits.j0] at h
 | k + 1 => by
   have ih0 := modes_Fits.mono_l k
   · intro y0 y1 y2 y3 y4
     unfold modes_Fits.j0
     repeat' first
     | (with_reducible exact ih0 _ _ _ _ _)
     | (with_reducible exact LeO.refl _)
     | (with_reducible exact LeO.none _)
     | (with_reducible refine LeO.ite ?_ ?_)
     | (with_reducible refine LeO.bind ?_ (fun _ => ?_))
     | exact ih0 _ _ _ _ _
     | exact LeO.none _
     | refine LeO.ite ?_ ?_
     | refine LeO.bind ?_ (fun _ => ?_)
theorem modes_Fits.mono : ∀ a0 a1 a2 k, LeO (modes_Fits.f k a0 a1 a2) (modes_Fits.f (k + 1) a0 a1 a2) := by
 intro a0 a1 a2 k
 have ih0 := modes_Fits.mono_l k
 unfold modes_Fits.f
 repeat' first
     | (with_reducible exact ih0 _ _ _ _ _)
     | (with_reducible exact LeO.refl _)
     | (with_reducible exact LeO.none _)
     | (with_reducible refine LeO.ite ?_ ?_)
     | (with_reducible refine LeO.bind ?_ (fun _ => ?_))
     | exact ih0 _ _ _ _ _
     | exact LeO.none _
     | refine LeO.ite ?_ ?_
     | refine LeO.bind ?_ (fun _ => ?_)
set_option maxHeartbeats 8000000 in
set_option maxRecDepth 100000 in
theorem modes_Fits.calls (k : Nat) (a0_0 : Int) (a0_1 : ByteArray) (a0_2 : ByteArray) (r : Bool) (w : World) (h : modes_Fits.f k a0_0 a0_1 a0_2 = some r) :
   Calls Tryz.prog 26 #[.agg #[.int .i64 a0_0, .string a0_1, .string a0_2]] w fun e w' => e = .returned (.bool r) ∧ Below w.heap.size w w' := by
 have hu32 := Tryz.underlying32
 have HB := Aside0.mk (Below.refl w.heap.size w)
 have H : (if a0_0 = 1 then (modes_Fits.j0 k a0_0 (a0_0 == 1) a0_0 a0_1 a0_2) else (modes_Fits.j0 k a0_0 (a0_0 == 2) a0_0 a0_1 a0_2)) = some r := h
 clear h
 have HC2 := Aside0.mk H
 clear H
 go_enter Tryz.func26, Tryz.ntmps26
 go_upto_if 5 with (first | ((with_reducible refine gate_dst (N := 1) rfl ?_); refine box_event ?hg (N := 1) ?hd (cs := #[.int .i64 a0_0, .string a0_1, .string a0_2]) (t := 32) ?hr ?_; (case hd => rfl); (case hg => rfl); (case hr => first | (go_simp; done) | (go_simp; rfl)); intro gb101 hg w3 hbox hb; have n0_ := Aside0.mk (below_step (by repeat (first | (with_reducible first | exact HB.out | apply below_alloc | apply pw_below_drewN | apply below_drew1) | exact HB.out)) hb); have n1_ := Aside0.mk (hbox); have n2_ := Aside0.mk ((by rw [hg]; exact (below_size (by repeat (first | (with_reducible first | exact HB.out | apply below_alloc | apply pw_below_drewN | apply below_drew1) | exact HB.out))) : w.heap.size ≤ gb101)); have n3_ := Aside0.mk ((by rw [hg]; exact (below_size (by repeat (first | (with_reducible first | exact HB.out | apply below_alloc | apply pw_below_drewN | apply below_drew1) | exact HB.out))) : w.heap.size ≤ gb101)); clear HB; have HB := n0_; have BK101 := n1_; have GW101 := n2_; have GE101 := n3_; clear n0_ n1_ n2_ n3_; clear hb hbox hg; have hcz4_0 : w3.cell? ⟨gb101, 0, none⟩ = some (.int .i64 a0_0) := (blk_cell BK101.out 0).trans rfl; have hcz4_1 : w3.cell? ⟨gb101, 1, none⟩ = some (.string a0_1) := (blk_cell BK101.out 1).trans rfl; have hcz4_2 : w3.cell? ⟨gb101, 2, none⟩ = some (.string a0_2) := (blk_cell BK101.out 2).trans rfl; have hfz4_0 := blk_frozen BK101.out 0; have hfz4_1 := blk_frozen BK101.out 1; have hfz4_2 := blk_frozen BK101.out 2))
 (try simp only [Act.put, List.setIfInBounds_toArray, List.set_cons_zero, List.set_cons_succ])
 go_cut [5] (fun v5 wc => ∃ (kq : Nat) (x5_1 : Bool), v5 = .bool x5_1 ∧ Aside0 (modes_Fits.j0 kq a0_0 x5_1 a0_0 a0_1 a0_2 = some r) ∧ Aside0 (kq ≤ k) ∧ Aside0 (wc.heap[gb101]? = some (.cells #[.int .i64 a0_0, .string a0_1, .string a0_2] 32 (0, 0))) ∧ Aside0 (Below w.heap.size w wc))
 case first =>
   have H := HC2.out
   clear HC2
   by_cases c5 : a0_0 = 1
   · rw [if_pos c5] at H
     have c5b0 : (a0_0 == 1) = true := beq_iff_eq.mpr c5
     have c5b1 : (a0_0 != 1) = false := bne_eq_false_iff_eq.mpr c5
     clear c5
     (first | rw [c5b0] | (simp only [i64_w, i32_w]; rw [c5b0]) | skip)
     have H' := Aside0.mk H
     clear H
     go_wp2
     go_meet
     case rel => exact ⟨_, ((a0_0 == 1)), (by first | rfl | (simp; done) | (simp [*]; done)), H', ⟨by first | omega | exact Nat.le_refl _⟩, ⟨by (with_reducible repeat (first | refine blk_drewN ?_ _ | refine blk_drew ?_ | refine blk_alloc ?_ _)); exact BK101.out⟩, ⟨by repeat (first | (with_reducible first | exact HB.out | apply below_alloc | apply pw_below_drewN | apply below_drew1 | refine below_set ?_ GE101.out) | exact HB.out)⟩⟩
   · rw [if_neg c5] at H
     have c5b0 : (a0_0 == 1) = false := beq_eq_false_iff_ne.mpr c5
     have c5b1 : (a0_0 != 1) = true := bne_iff_ne.mpr c5
     (first | rw [c5b0] | (simp only [i64_w, i32_w]; rw [c5b0]) | skip)
     have H' := Aside0.mk H
     clear H
     go_wp2
     go_meet
     case rel => exact ⟨_, ((a0_0 == 2)), (by first | rfl | (simp; done) | (simp [*]; done)), H', ⟨by first | omega | exact Nat.le_refl _⟩, ⟨by (with_reducible repeat (first | refine blk_drewN ?_ _ | refine blk_drew ?_ | refine blk_alloc ?_ _)); exact BK101.out⟩, ⟨by repeat (first | (with_reducible first | exact HB.out | apply below_alloc | apply pw_below_drewN | apply below_drew1 | refine below_set ?_ GE101.out) | exact HB.out)⟩⟩
 case rest =>
   clear HC2
   try clear c2
   try clear p2
   try clear c5
   try clear c5b0
   try clear c5b1
   try clear hcz4_0
   try clear hcz4_1
   try clear hcz4_2
   try clear hfz4_0
   try clear hfz4_1
   try clear hfz4_2
   obtain ⟨kq, x5_1, rfl, HA, HJ1, BK101, HB⟩ := hcut
   cases kq with
   | zero => exact absurd HA.out (by simp [modes_Fits.j0])
   | succ kj1 =>
     have H := HA.out
     clear HA
     simp only [modes_Fits.j0] at H
     by_cases c6 : x5_1 = true
     · subst c6
       have H1 : (if a0_1.toList = ([] : List UInt8) then (some (a0_2.toList == ([] : List UInt8))) else (some false)) = some r := by rw [if_pos rfl] at H; exact H
       clear H
       have H := H1
       clear H1
       by_cases c7 : a0_1.toList = ([] : List UInt8)
       · rw [if_pos c7] at H
         have c7b0 : (a0_1.toList == ([] : List UInt8)) = true := beq_iff_eq.mpr c7
         have c7b1 : (a0_1.toList != ([] : List UInt8)) = false := bne_eq_false_iff_eq.mpr c7
         clear c7
         obtain rfl := Option.some.inj H
         have hcz8_0 : wc.cell? ⟨gb101, 0, none⟩ = some (.int .i64 a0_0) := (blk_cell BK101.out 0).trans rfl
         have hcz8_1 : wc.cell? ⟨gb101, 1, none⟩ = some (.string a0_1) := (blk_cell BK101.out 1).trans rfl
         have hcz8_2 : wc.cell? ⟨gb101, 2, none⟩ = some (.string a0_2) := (blk_cell BK101.out 2).trans rfl
         have hfz8_0 := blk_frozen BK101.out 0
         have hfz8_1 := blk_frozen BK101.out 1
         have hfz8_2 := blk_frozen BK101.out 2
         go_wp2
         go_ret
         exact ⟨by first | rfl | (simp [errW_none, errW_some] <;> rfl) | (simp [*, errW_none, errW_some] <;> rfl), by repeat (first | (with_reducible first | exact HB.out | apply below_alloc | apply pw_below_drewN | apply below_drew1 | refine below_set ?_ GE101.out) | exact HB.out)⟩
       · rw [if_neg c7] at H
         have c7b0 : (a0_1.toList == ([] : List UInt8)) = false := beq_eq_false_iff_ne.mpr c7
         have c7b1 : (a0_1.toList != ([] : List UInt8)) = true := bne_iff_ne.mpr c7
         obtain rfl := Option.some.inj H
         have hcz9_0 : wc.cell? ⟨gb101, 0, none⟩ = some (.int .i64 a0_0) := (blk_cell BK101.out 0).trans rfl
         have hcz9_1 : wc.cell? ⟨gb101, 1, none⟩ = some (.string a0_1) := (blk_cell BK101.out 1).trans rfl
         have hcz9_2 : wc.cell? ⟨gb101, 2, none⟩ = some (.string a0_2) := (blk_cell BK101.out 2).trans rfl
         have hfz9_0 := blk_frozen BK101.out 0
         have hfz9_1 := blk_frozen BK101.out 1
         have hfz9_2 := blk_frozen BK101.out 2
         go_wp2
         go_ret
         exact ⟨by first | rfl | (simp [errW_none, errW_some] <;> rfl) | (simp [*, errW_none, errW_some] <;> rfl), by repeat (first | (with_reducible first | exact HB.out | apply below_alloc | apply pw_below_drewN | apply below_drew1 | refine below_set ?_ GE101.out) | exact HB.out)⟩
     · replace c6 := Bool.eq_false_iff.mpr c6
       subst c6
       have H1 : (if a0_0 = 3 then (some (a0_2.toList == ([] : List UInt8))) else (some (a0_0 == 4))) = some r := by rw [if_neg (show ¬ (false = true) by decide)] at H; exact H
       clear H
       have H := H1
       clear H1
       by_cases c10 : a0_0 = 3
       · rw [if_pos c10] at H
         have c10b0 : (a0_0 == 3) = true := beq_iff_eq.mpr c10
         have c10b1 : (a0_0 != 3) = false := bne_eq_false_iff_eq.mpr c10
         clear c10
         obtain rfl := Option.some.inj H
         have hcz11_0 : wc.cell? ⟨gb101, 0, none⟩ = some (.int .i64 a0_0) := (blk_cell BK101.out 0).trans rfl
         have hcz11_1 : wc.cell? ⟨gb101, 1, none⟩ = some (.string a0_1) := (blk_cell BK101.out 1).trans rfl
         have hcz11_2 : wc.cell? ⟨gb101, 2, none⟩ = some (.string a0_2) := (blk_cell BK101.out 2).trans rfl
         have hfz11_0 := blk_frozen BK101.out 0
         have hfz11_1 := blk_frozen BK101.out 1
         have hfz11_2 := blk_frozen BK101.out 2
         go_wp2
         go_ret
         exact ⟨by first | rfl | (simp [errW_none, errW_some] <;> rfl) | (simp [*, errW_none, errW_some] <;> rfl), by repeat (first | (with_reducible first | exact HB.out | apply below_alloc | apply pw_below_drewN | apply below_drew1 | refine below_set ?_ GE101.out) | exact HB.out)⟩
       · rw [if_neg c10] at H
         have c10b0 : (a0_0 == 3) = false := beq_eq_false_iff_ne.mpr c10
         have c10b1 : (a0_0 != 3) = true := bne_iff_ne.mpr c10
         obtain rfl := Option.some.inj H
         have hcz12_0 : wc.cell? ⟨gb101, 0, none⟩ = some (.int .i64 a0_0) := (blk_cell BK101.out 0).trans rfl
         have hcz12_1 : wc.cell? ⟨gb101, 1, none⟩ = some (.string a0_1) := (blk_cell BK101.out 1).trans rfl
         have hcz12_2 : wc.cell? ⟨gb101, 2, none⟩ = some (.string a0_2) := (blk_cell BK101.out 2).trans rfl
         have hfz12_0 := blk_frozen BK101.out 0
         have hfz12_1 := blk_frozen BK101.out 1
         have hfz12_2 := blk_frozen BK101.out 2
         go_wp2
         go_ret
         exact ⟨by first | rfl | (simp [errW_none, errW_some] <;> rfl) | (simp [*, errW_none, errW_some] <;> rfl), by repeat (first | (with_reducible first | exact HB.out | apply below_alloc | apply pw_below_drewN | apply below_drew1 | refine below_set ?_ GE101.out) | exact HB.out)⟩
end Go.Proofs.YtkcjcdkmdooofaaGreat.Q
end
section
namespace Go.Proofs.Kb
open Go Go.RowKit Go.Proofs.YtkcjcdkmdooofaaGreat.Q Go.Proofs.YtkcjcdkmdooofaaGreatW.PrintWords Go.Proofs.YtkcjcdkmdooofaaGreatW.PrintLast Go.Proofs.YtkcjcdkmdooofaaGreatW.PrintMore
set_option maxRecDepth 100000
open Go.Proofs.Lk Go.Proofs.Mp
def fitsT (t : S32) : Bool := (modes_Fits.f 4 t.f0 t.f1 t.f2).getD false
theorem fitsT_f (t : S32) : modes_Fits.f 4 t.f0 t.f1 t.f2 = some (fitsT t) := by
 have h : ∃ b, modes_Fits.f 4 t.f0 t.f1 t.f2 = some b := by
   unfold modes_Fits.f
   simp only [modes_Fits.j0]
   repeat' split
   all_goals exact ⟨_, rfl⟩
 obtain ⟨b, hb⟩ := h
 unfold fitsT
 rw [hb]
 rfl
theorem fits_calls (w : World) (t : S32) : Calls Tryz.prog 26 #[thgV t] w fun E w' => E = .returned (.bool (fitsT t)) ∧ Below w.heap.size w w' := modes_Fits.calls 4 _ _ _ _ w (fitsT_f t)
theorem right_calls (w : World) (m : Int) : Calls Tryz.prog 27 #[.int .i64 m] w fun E w' => E = .returned (.bool (right m)) ∧ Below w.heap.size w w' := (modes_Right.calls m _ w (right_f m)).mono fun E w' h => ⟨h.1, h.2.below⟩
theorem modeOf_some {r : LRow} {x h : Int} (hm : modeOf r x = some h) : ∃ i, r.holds.findIdx? (isT x) = some i ∧ r.holds[i]? = some (x, h) := by
 unfold modeOf at hm
 rw [Option.map_eq_some_iff] at hm
 obtain ⟨o, ho, rfl⟩ := hm
 obtain ⟨h1, i, hi, e, h2⟩ := List.find?_eq_some_iff_getElem.1 ho
 refine ⟨i, List.findIdx?_eq_some_iff_getElem.2 ⟨hi, by rw [e]; exact h1, fun j hj => by have := h2 j hj; unfold isT; simpa using this⟩, ?_⟩
 rw [List.getElem?_eq_getElem hi, e]
 have : o.1 = x := eq_of_beq h1
 rw [← this]
theorem modeOf_none {r : LRow} {x : Int} (hm : modeOf r x = none) : r.holds.findIdx? (isT x) = none := by
 unfold modeOf at hm
 rw [Option.map_eq_none_iff, List.find?_eq_none] at hm
 rw [List.findIdx?_eq_none_iff]
 intro o ho
 have := hm o ho
 unfold isT
 simpa using this
theorem place_le (r : LRow) (x : Int) : place r x ≤ r.waits.length := by
 unfold place
 split
 · split
   · rename_i n h
     exact Nat.le_of_lt (List.findIdx?_eq_some_iff_getElem.1 h).1
   · exact Nat.le_refl _
 · exact Nat.le_refl _
theorem St.putBlk {w0 w : World} {F : Nat → Prop} {cs : List Chunk} {b : Nat} {C C' : Array Value} {t : TypeId} (s : St w0 F w cs) (i : Nat) (hi : cs[i]? = some (blkC b (.cells C t (0, 0)))) (j : Nat) (v : Value) (e : C.setIfInBounds j v = C') :
   St w0 F (w.setCell ⟨b, j, none⟩ v) (cs.set i (blkC b (.cells C' t (0, 0)))) :=
 s.upd i hi (blkC b (.cells C' t (0, 0))) (keep_set w b j _ _ (by simp [blkC])) (blk_put (s.blk i hi) j v e) (nd_one b) (fun x hx => .inl hx)
def errC : Ans → Int
 | .ok => 0
 | .form => 10
 | .state => 21
def wantV (t : S32) (m : Int) : Value := .agg #[.int .i64 t.f0, .string t.f1, .string t.f2, .int .i64 m]
def AskE (q : LS S32 × Bool × Ans) : Ending := .returned (.tuple #[.bool q.2.1, .int .i64 (errC q.2.2)])
def Ask17 (w : World) (F : Nat → Prop) (M : LM) (q : LS S32 × Bool × Ans) (E : Ending) (w' : World) : Prop :=
 ∃ M', E = AskE q ∧ Rep M' q.1 ∧ M'.lp = M.lp ∧ M'.tot ≤ M.tot + 10 ∧ St w F w' (lk M')
set_option maxHeartbeats 4000000 in
theorem ask_calls (w : World) (M : LM) (s : LS S32) (x : Int) (t : S32) (m : Int) (F : Nat → Prop) (N : Nat) (hs : St w F w (lk M)) (hr : Rep M s) (hI : LInv s) (hx : wfI x) (ht : wfT t) (hok : OkS N s) (hN : N ≤ 1000) (hn : M.tot < 4000000000000000000) :
   Calls Tryz.prog 7 #[lpV M, .int .i64 x, wantV t m] w (Ask17 w F M (askS haddT fitsT s x t m)) := by
 obtain ⟨q, hq⟩ : ∃ q, askS haddT fitsT s x t m = q := ⟨_, rfl⟩
 rw [hq]
 obtain ⟨R, hR⟩ : ∃ R, Ask17 w F M q = R := ⟨_, rfl⟩
 have HR := Aside0.mk hR
 rw [hR]
 have hu55 := Tryz.underlying52
 have hu56 := Tryz.underlying53
 have hu59 := Tryz.underlying56
 have hu29 := Tryz.underlying32
 have hu31 := Tryz.underlying34
 have hu62 := Tryz.underlying65
 have hu64 := Tryz.underlying67
 have hu66 := Tryz.underlying63
 have hz29 := Tryz.sizeOf32
 have hz66 := Tryz.sizeOf63
 obtain ⟨n5, hn5⟩ : ∃ n, w.heap.size = n := ⟨_, rfl⟩
 obtain ⟨W0, hW0⟩ : ∃ W0, w.alloc (.cells #[.int .i64 t.f0, .string t.f1, .string t.f2, .int .i64 m] 34) = W0 := ⟨_, rfl⟩
 have hs0 := hs.alloc #[.int .i64 t.f0, .string t.f1, .string t.f2, .int .i64 m] 34 hn5
 rw [hW0] at hs0
 have HS0 := Aside0.mk hs0
 have HREP := Aside0.mk hr
 have HI := Aside0.mk hI
 have HX := Aside0.mk hx
 have HT := Aside0.mk ht
 have HOK := Aside0.mk hok
 have HN := Aside0.mk hN
 have HTOT := Aside0.mk hn
 have A31 := Aside0.mk (fun W => fits_calls W t)
 have A32 := Aside0.mk (fun W => right_calls W m)
 have A56 := Aside0.mk (fun W (R1 : List Chunk) (h : St w F W (lk M ++ R1)) => lookW h hr hx)
 have e0 := (blk_cell (hs0.blk 6 rfl) 0).trans rfl
 have e1 := (blk_cell (hs0.blk 6 rfl) 1).trans rfl
 have e2 := (blk_cell (hs0.blk 6 rfl) 2).trans rfl
 have e3 := (blk_cell (hs0.blk 6 rfl) 3).trans rfl
 have h5 := lt_of_some (hs0.blk 6 rfl)
 clear hR hs hs0 hr hI hx ht hok hN hn
 unfold lpV wantV
 unfold thgV at A31
 have G1 : True := trivial
 have G2 : True := trivial
 cases hft : fitsT t with
 | false =>
   rw [hft] at A31
   have HQ := Aside0.mk hq
   have HF := Aside0.mk hft
   clear hq hft
   go_enter Tryz.func7, Tryz.ntmps7
   go_wp2_with (go_at_call 26; refine (A31.out _).mono ?_; rintro E w1 ⟨rfl, hb⟩; have HS1 := Aside0.mk (HS0.out.below hb); clear hb e0 e1 e2 e3 h5)
   rw [← HR.out]
   have e : q = (s, false, .form) := by rw [← HQ.out]; unfold askS; rw [HF.out]; rfl
   rw [e]
   exact ⟨M, rfl, HREP.out, rfl, Nat.le_add_right _ _, St.left (A := lk M) HS1.out⟩
 | true =>
   rw [hft] at A31
   cases hri : right m with
   | false =>
     rw [hri] at A32
     have HQ := Aside0.mk hq
     have HF := Aside0.mk hft
     have HRI := Aside0.mk hri
     clear hq hft hri
     go_enter Tryz.func7, Tryz.ntmps7
     go_wp2_with (first
       | (clear G1; go_at_call 26; refine (A31.out _).mono ?_; rintro E w1 ⟨rfl, hb⟩; have hs1 := HS0.out.below hb; have HS1 := Aside0.mk hs1; clear hb e0 e1 e2 e3 h5 HS0; have e0 := (blk_cell (hs1.blk 6 rfl) 0).trans rfl; have e1 := (blk_cell (hs1.blk 6 rfl) 1).trans rfl; have e2 := (blk_cell (hs1.blk 6 rfl) 2).trans rfl; have e3 := (blk_cell (hs1.blk 6 rfl) 3).trans rfl; have h5 := lt_of_some (hs1.blk 6 rfl); clear hs1)
       | (go_at_call 27; refine (A32.out _).mono ?_; rintro E w2 ⟨rfl, hb⟩; have HS2 := Aside0.mk (HS1.out.below hb); clear hb e0 e1 e2 e3 h5))
     rw [← HR.out]
     have e : q = (s, false, .form) := by rw [← HQ.out]; unfold askS; rw [HF.out, HRI.out]; rfl
     rw [e]
     exact ⟨M, rfl, HREP.out, rfl, Nat.le_add_right _ _, St.left (A := lk M) HS2.out⟩
   | true =>
     rw [hri] at A32
     cases hw : s.waits x with
     | some u =>
       rw [hw] at A56
       simp only [Option.map, Option.getD, Option.isSome, thgV] at A56
       have HQ := Aside0.mk hq
       have HF := Aside0.mk hft
       have HRI := Aside0.mk hri
       have HW := Aside0.mk hw
       clear hq hft hri hw
       go_enter Tryz.func7, Tryz.ntmps7
       go_wp2_with (first
         | (clear G1; go_at_call 26; refine (A31.out _).mono ?_; rintro E w1 ⟨rfl, hb⟩; have hs1 := HS0.out.below hb; have HS1 := Aside0.mk hs1; clear hb e0 e1 e2 e3 h5 HS0; have e0 := (blk_cell (hs1.blk 6 rfl) 0).trans rfl; have e1 := (blk_cell (hs1.blk 6 rfl) 1).trans rfl; have e2 := (blk_cell (hs1.blk 6 rfl) 2).trans rfl; have e3 := (blk_cell (hs1.blk 6 rfl) 3).trans rfl; have h5 := lt_of_some (hs1.blk 6 rfl); clear hs1)
         | (go_at_call 27; refine (A32.out _).mono ?_; rintro E w2 ⟨rfl, hb⟩; have hs2 := HS1.out.below hb; clear hb e0 e1 e2 e3 h5; have hlk := A56.out _ _ hs2; obtain ⟨l0, l1, l2, hlp⟩ := hs2.lpAt 0 rfl; have HS3 := Aside0.mk (hs2.alloc #[.int .i64 u.f0, .string u.f1, .string u.f2] 32 rfl); clear hs2))
       rw [← HR.out]
       have e : q = (s, false, .state) := by rw [← HQ.out]; unfold askS; rw [HF.out, HRI.out, HW.out]; rfl
       rw [e]
       exact ⟨M, rfl, HREP.out, rfl, Nat.le_add_right _ _, St.left (A := lk M) HS3.out⟩
     | none =>
       rw [hw] at A56
       simp only [Option.map, Option.getD, Option.isSome] at A56
       have hq2 : (askR haddT s x t m).1 = q.1 ∧ (askR haddT s x t m).2 = q.2.1 ∧ Ans.ok = q.2.2 := by
         rw [← hq]
         unfold askS
         rw [hft, hri, hw]
         exact ⟨rfl, rfl, rfl⟩
       have HQ := Aside0.mk hq2
       obtain ⟨r0, hr0⟩ : ∃ r0, s.rows t = r0 := ⟨_, rfl⟩
       have HR0 := Aside0.mk hr0
       have hri0 := HI.out.row t
       rw [hr0] at hri0
       have hok0 := HOK.out.rows t
       rw [hr0] at hok0
       have HINV := Aside0.mk hri0
       have HOK0 := Aside0.mk hok0
       have HRI := Aside0.mk hri
       clear hq hq2 hft hri hw hr0 hri0 hok0
       have A28 := Aside0.mk (fun W (R1 : List Chunk) (h : St w F W (lk M ++ R1)) => row_fr h HREP.out HT.out (by have := HTOT.out; simp only [LM.tot] at *; simp only [maxLen]; omega))
       unfold lpV thgV at A28
       have A33 := Aside0.mk (fun W p hv wv (h : RowH W p hv wv r0) => hold_calls W p hv wv r0 x h (by have := HOK0.out.len; omega))
       have A36 := Aside0.mk (fun W p hv wv (h : RowH W p hv wv r0) => place_calls W p hv wv r0 x h (by have := HOK0.out.len; omega) (by have := HOK0.out.len; omega))
       unfold ptr at A33 A36
       have hpl := place_le r0 x
       obtain ⟨pl, hpe⟩ : ∃ pl, place r0 x = pl := ⟨_, rfl⟩
       rw [hpe] at A36 hpl
       have HPL := Aside0.mk hpl
       have HPE := Aside0.mk hpe
       have hp0 : (0 : Int) ≤ (pl : Int) := by omega
       have hp9 : (pl : Int) ≤ 1000000 := by have := HOK0.out.len; omega
       clear hpl hpe
       cases hmo : modeOf r0 x with
       | some h =>
         obtain ⟨i, hf1, hf2⟩ := modeOf_some hmo
         have hij : idxI r0.holds (isT x) = i := by unfold idxI; rw [hf1]
         rw [hij] at A33
         have hil := (List.getElem?_eq_some_iff.1 hf2).1
         obtain ⟨nh, hnh⟩ : ∃ n, r0.holds.length = n := ⟨_, rfl⟩
         rw [hnh] at hil
         have hi0 : (0 : Int) ≤ (i : Int) := by omega
         have hi1 : (i : Int) < (nh : Int) := by omega
         have hrh : right h = true := HINV.out.hm _ (List.mem_of_getElem? hf2)
         have HNH := Aside0.mk hnh
         have HIL := Aside0.mk hil
         have HF2 := Aside0.mk hf2
         have HMO := Aside0.mk hmo
         have A34 := Aside0.mk (fun W => cov_calls W h m)
         have A35 := Aside0.mk (fun W => join_calls W hrh HRI.out)
         clear hmo hf1 hf2 hij hil hnh hrh
         cases hco : cov h m with
         | true =>
           rw [hco] at A34
           have HCO := Aside0.mk hco
           clear hco
           have G3 : True := trivial
           have G4 : True := trivial
           go_enter Tryz.func7, Tryz.ntmps7
           go_wp2_with (first
             | (clear G1; go_at_call 26; refine (A31.out _).mono ?_; rintro E w1 ⟨rfl, hb⟩; have hs1 := HS0.out.below hb; have HS1 := Aside0.mk hs1; clear hb e0 e1 e2 e3 h5 HS0; have e0 := (blk_cell (hs1.blk 6 rfl) 0).trans rfl; have e1 := (blk_cell (hs1.blk 6 rfl) 1).trans rfl; have e2 := (blk_cell (hs1.blk 6 rfl) 2).trans rfl; have e3 := (blk_cell (hs1.blk 6 rfl) 3).trans rfl; have h5 := lt_of_some (hs1.blk 6 rfl); clear hs1)
             | (clear G2; go_at_call 27; refine (A32.out _).mono ?_; rintro E w2 ⟨rfl, hb⟩; have hs2 := HS1.out.below hb; clear hb e0 e1 e2 e3 h5; have hlk := A56.out _ _ hs2; obtain ⟨l0, l1, l2, hlp⟩ := hs2.lpAt 0 rfl; have e0 := (blk_cell (hs2.blk 6 rfl) 0).trans rfl; have e1 := (blk_cell (hs2.blk 6 rfl) 1).trans rfl; have e2 := (blk_cell (hs2.blk 6 rfl) 2).trans rfl; have e3 := (blk_cell (hs2.blk 6 rfl) 3).trans rfl; have h5 := lt_of_some (hs2.blk 6 rfl); have HS2 := Aside0.mk (hs2.alloc #[.int .i64 0, .string ⟨#[]⟩, .string ⟨#[]⟩] 32 rfl); clear hs2)
             | (clear G3; go_at_call 28; refine (A28.out _ _ (show St w F _ (lk M ++ [_, _]) from HS2.out)).mono ?_; rintro E w3 ⟨M1, X, mm, Y, rfl, k1, k2, k3, k4, k5, k6⟩; have HE := Aside0.mk k1; have HMT := Aside0.mk k2; have HREP1 := Aside0.mk k3; have HLP := Aside0.mk k4; have HTOT1 := Aside0.mk k5; have h1 := k6; unfold lk at h1; rw [k1] at h1; have h2 := St.openR h1; have hmr : mm.r = r0 := ((k2 ▸ k3.rr mm (k1 ▸ mem_mid.2 (.inl rfl)) : mm.r = s.rows t).trans HR0.out); have HMR := Aside0.mk hmr; rw [hmr] at h2; obtain ⟨Aw, cw, hwv⟩ := (h2.rowX 2 rfl).form; have HWV := Aside0.mk hwv; rw [hwv] at h2; clear hwv; obtain ⟨n11, hn11⟩ : ∃ n, w3.heap.size = n := ⟨_, rfl⟩; have h3 := h2.alloc #[.int .i64 x, .int .i64 m] 63 hn11; have HS3 := Aside0.mk h3; clear e0 e1 e2 e3 h5 l0 l1 l2 hlp hlk; have e0 := (blk_cell (h2.blk 9 rfl) 0).trans rfl; have e1 := (blk_cell (h2.blk 9 rfl) 1).trans rfl; have e2 := (blk_cell (h2.blk 9 rfl) 2).trans rfl; have e3 := (blk_cell (h2.blk 9 rfl) 3).trans rfl; have h5 := lt_of_some (h2.blk 9 rfl); clear h1 h2 h3 hmr k1 k2 k3 k4 k5 k6; unfold ptr)
             | (clear G4; go_at_call 29; refine (A33.out _ _ _ _ (St.rowH (R := lkO M1 (X ++ Y) M1.hs ++ [_, _, _]) HS3.out)).mono ?_; rintro E w4 ⟨rfl, hb⟩; have hs4 := HS3.out.below hb; clear hb HS3 e0 e1 e2 e3 h5; obtain ⟨g, ch, hvv, hcap⟩ := (hs4.rowX 1 rfl).fill (by rw [HNH.out]; have := HIL.out; omega); rw [hvv, HNH.out] at hs4; obtain ⟨d0, d1⟩ := (hs4.rowX 1 rfl).ones HF2.out; have ff := (fun j => frozen_of_row _ _ j _ _ (hs4.blk 11 rfl)); obtain ⟨c0, c1, cf⟩ := hs4.cells64 0 rfl; have hlt := World.block_lt_of_cell? _ _ c0; have e0 := (blk_cell (hs4.blk 9 rfl) 0).trans rfl; have e1 := (blk_cell (hs4.blk 9 rfl) 1).trans rfl; have e2 := (blk_cell (hs4.blk 9 rfl) 2).trans rfl; have e3 := (blk_cell (hs4.blk 9 rfl) 3).trans rfl; have h5 := lt_of_some (hs4.blk 9 rfl); have f0 := (blk_cell (hs4.blk 11 rfl) 0).trans rfl; have f1 := (blk_cell (hs4.blk 11 rfl) 1).trans rfl; have h11 := lt_of_some (hs4.blk 11 rfl); obtain ⟨l0, l1, l2, hlp⟩ := hs4.lpAt 3 rfl; rw [HLP.out] at l0 l1 l2 hlp; have HHV := Aside0.mk hvv; rw [HNH.out] at HHV; have HS4 := Aside0.mk hs4; clear hs4 hvv)
             | (go_at_call 30; refine (A34.out _).mono ?_; rintro E w5 ⟨rfl, hb⟩; have HS5 := Aside0.mk (HS4.out.below hb); clear hb ff c0 c1 cf hlt e0 e1 e2 e3 h5 f0 f1 h11 l0 l1 l2 hlp d0 d1))
           rw [← HR.out]
           have e : askR haddT s x t m = (s, true) := by unfold askR enough; simp only [HR0.out, HMO.out, HCO.out, if_true]
           have hq := HQ.out
           rw [e] at hq
           refine ⟨M1, by unfold AskE; rw [← hq.2.1, ← hq.2.2]; rfl, by rw [← hq.1]; exact HREP1.out, HLP.out, by have := HTOT1.out; omega, ?_⟩
           have h9 := HS5.out
           rw [← HMR.out, ← HHV.out] at h9
           have hwv := HWV.out
           rw [← HMR.out] at hwv
           rw [← hwv] at h9
           have h10 := St.closeR (m := mm) h9
           rw [← HE.out] at h10
           exact St.left (A := lk M1) h10
         | false =>
           rw [hco] at A34
           have HWA := Aside0.mk (show wanted r0 x m = (x, join h m) by unfold wanted; rw [HMO.out])
           have HEN := Aside0.mk (show enough r0 x m = false by unfold enough; rw [HMO.out]; exact hco)
           obtain ⟨mo, hmo⟩ : ∃ mo, join h m = mo := ⟨_, rfl⟩
           rw [hmo] at A35 HWA
           clear hco hmo
           have A30 := Aside0.mk (fun W p hv wv (h : RowH W p hv wv r0) => blockers_some W p hv wv r0 (x, mo) pl h HPL.out (by have := HOK0.out.len; omega))
           unfold ptr oneV at A30
           have G3 : True := trivial
           have G4 : True := trivial
           have G5 : True := trivial
           have G6 : True := trivial
           have G7 : True := trivial
           have G8 : True := trivial
           by_cases hb : rawB r0 (x, mo) pl = []
           · have HB := Aside0.mk hb
             have e : askR haddT s x t m = (⟨upd s.rows t ⟨Lk.give r0.holds (x, mo), r0.waits⟩, s.waits, upd s.held x (haddT (s.held x) t)⟩, true) := by
               unfold askR
               simp only [HR0.out, HEN.out, HWA.out, HPE.out, hb]
               rfl
             have HASK := Aside0.mk e
             have A38 := Aside0.mk (fun W p hv wv (h : St W (fun b => b ∈ fpc (row3 p hv wv r0)) W (row3 p hv wv r0)) => give_calls W p hv wv r0 (x, mo) _ h (by have := HOK0.out.len; omega) HINV.out.hn)
             unfold ptr oneV at A38
             have HHE := Aside0.mk (HOK.out.held x)
             have A39 := Aside0.mk (fun W M2 s2 (R1 : List Chunk) (h1 : St w F W (lk M2 ++ R1)) (h2 : Rep M2 s2) (h3 : s2.held x = s.held x) (h4 : M2.tot ≤ M.tot + 1) => note_fr (t := t) h1 h2 HX.out (by rw [h3]; exact HHE.out.1) (by rw [h3]; have := HHE.out.2; have := HN.out; omega) (by have := HTOT.out; simp only [LM.tot] at *; simp only [maxLen]; omega))
             unfold lpV thgV at A39
             have G9 : True := trivial
             clear hb e
             go_enter Tryz.func7, Tryz.ntmps7
             go_wp2_with (first
               | (clear G1; go_at_call 26; refine (A31.out _).mono ?_; rintro E w1 ⟨rfl, hb⟩; have hs1 := HS0.out.below hb; have HS1 := Aside0.mk hs1; clear hb e0 e1 e2 e3 h5 HS0; have e0 := (blk_cell (hs1.blk 6 rfl) 0).trans rfl; have e1 := (blk_cell (hs1.blk 6 rfl) 1).trans rfl; have e2 := (blk_cell (hs1.blk 6 rfl) 2).trans rfl; have e3 := (blk_cell (hs1.blk 6 rfl) 3).trans rfl; have h5 := lt_of_some (hs1.blk 6 rfl); clear hs1)
               | (clear G2; go_at_call 27; refine (A32.out _).mono ?_; rintro E w2 ⟨rfl, hb⟩; have hs2 := HS1.out.below hb; clear hb e0 e1 e2 e3 h5; have hlk := A56.out _ _ hs2; obtain ⟨l0, l1, l2, hlp⟩ := hs2.lpAt 0 rfl; have e0 := (blk_cell (hs2.blk 6 rfl) 0).trans rfl; have e1 := (blk_cell (hs2.blk 6 rfl) 1).trans rfl; have e2 := (blk_cell (hs2.blk 6 rfl) 2).trans rfl; have e3 := (blk_cell (hs2.blk 6 rfl) 3).trans rfl; have h5 := lt_of_some (hs2.blk 6 rfl); have HS2 := Aside0.mk (hs2.alloc #[.int .i64 0, .string ⟨#[]⟩, .string ⟨#[]⟩] 32 rfl); clear hs2)
               | (clear G3; go_at_call 28; refine (A28.out _ _ (show St w F _ (lk M ++ [_, _]) from HS2.out)).mono ?_; rintro E w3 ⟨M1, X, mm, Y, rfl, k1, k2, k3, k4, k5, k6⟩; have HE := Aside0.mk k1; have HMT := Aside0.mk k2; have HREP1 := Aside0.mk k3; have HLP := Aside0.mk k4; have HTOT1 := Aside0.mk k5; have h1 := k6; unfold lk at h1; rw [k1] at h1; have h2 := St.openR h1; have hmr : mm.r = r0 := ((k2 ▸ k3.rr mm (k1 ▸ mem_mid.2 (.inl rfl)) : mm.r = s.rows t).trans HR0.out); have HMR := Aside0.mk hmr; rw [hmr] at h2; obtain ⟨Aw, cw, hwv⟩ := (h2.rowX 2 rfl).form; have HWV := Aside0.mk hwv; rw [hwv] at h2; clear hwv; obtain ⟨n11, hn11⟩ : ∃ n, w3.heap.size = n := ⟨_, rfl⟩; have h3 := h2.alloc #[.int .i64 x, .int .i64 m] 63 hn11; have HS3 := Aside0.mk h3; clear e0 e1 e2 e3 h5 l0 l1 l2 hlp hlk; have e0 := (blk_cell (h2.blk 9 rfl) 0).trans rfl; have e1 := (blk_cell (h2.blk 9 rfl) 1).trans rfl; have e2 := (blk_cell (h2.blk 9 rfl) 2).trans rfl; have e3 := (blk_cell (h2.blk 9 rfl) 3).trans rfl; have h5 := lt_of_some (h2.blk 9 rfl); clear h1 h2 h3 hmr k1 k2 k3 k4 k5 k6; unfold ptr)
               | (clear G4; go_at_call 29; refine (A33.out _ _ _ _ (St.rowH (R := lkO M1 (X ++ Y) M1.hs ++ [_, _, _]) HS3.out)).mono ?_; rintro E w4 ⟨rfl, hb⟩; have hs4 := HS3.out.below hb; clear hb HS3 e0 e1 e2 e3 h5; obtain ⟨g, ch, hvv, hcap⟩ := (hs4.rowX 1 rfl).fill (by rw [HNH.out]; have := HIL.out; omega); rw [hvv, HNH.out] at hs4; obtain ⟨d0, d1⟩ := (hs4.rowX 1 rfl).ones HF2.out; have ff := (fun j => frozen_of_row _ _ j _ _ (hs4.blk 11 rfl)); obtain ⟨c0, c1, cf⟩ := hs4.cells64 0 rfl; have hlt := World.block_lt_of_cell? _ _ c0; have e0 := (blk_cell (hs4.blk 9 rfl) 0).trans rfl; have e1 := (blk_cell (hs4.blk 9 rfl) 1).trans rfl; have e2 := (blk_cell (hs4.blk 9 rfl) 2).trans rfl; have e3 := (blk_cell (hs4.blk 9 rfl) 3).trans rfl; have h5 := lt_of_some (hs4.blk 9 rfl); have f0 := (blk_cell (hs4.blk 11 rfl) 0).trans rfl; have f1 := (blk_cell (hs4.blk 11 rfl) 1).trans rfl; have h11 := lt_of_some (hs4.blk 11 rfl); obtain ⟨l0, l1, l2, hlp⟩ := hs4.lpAt 3 rfl; rw [HLP.out] at l0 l1 l2 hlp; have HHV := Aside0.mk hvv; rw [HNH.out] at HHV; have HS4 := Aside0.mk hs4; clear hs4 hvv)
               | (clear G5; go_at_call 30; refine (A34.out _).mono ?_; rintro E w5 ⟨rfl, hb⟩; have hs5 := HS4.out.below hb; clear hb ff c0 c1 cf hlt e0 e1 e2 e3 h5 f0 f1 h11 l0 l1 l2 hlp d0 d1 HS4; have ff := (fun j => frozen_of_row _ _ j _ _ (hs5.blk 11 rfl)); obtain ⟨c0, c1, cf⟩ := hs5.cells64 0 rfl; have hlt := World.block_lt_of_cell? _ _ c0; have e0 := (blk_cell (hs5.blk 9 rfl) 0).trans rfl; have e1 := (blk_cell (hs5.blk 9 rfl) 1).trans rfl; have e2 := (blk_cell (hs5.blk 9 rfl) 2).trans rfl; have e3 := (blk_cell (hs5.blk 9 rfl) 3).trans rfl; have h5 := lt_of_some (hs5.blk 9 rfl); have f0 := (blk_cell (hs5.blk 11 rfl) 0).trans rfl; have f1 := (blk_cell (hs5.blk 11 rfl) 1).trans rfl; have h11 := lt_of_some (hs5.blk 11 rfl); obtain ⟨l0, l1, l2, hlp⟩ := hs5.lpAt 3 rfl; rw [HLP.out] at l0 l1 l2 hlp; have HS5 := Aside0.mk hs5; clear hs5)
               | (clear G6; go_at_call 31; refine (A35.out _).mono ?_; rintro E w6 ⟨rfl, hb⟩; have hs6 := HS5.out.below hb; clear hb ff c0 c1 cf hlt e0 e1 e2 e3 h5 f0 f1 h11 l0 l1 l2 hlp HS5; have ff := (fun j => frozen_of_row _ _ j _ _ (hs6.blk 11 rfl)); obtain ⟨c0, c1, cf⟩ := hs6.cells64 0 rfl; have hlt := World.block_lt_of_cell? _ _ c0; have e0 := (blk_cell (hs6.blk 9 rfl) 0).trans rfl; have e1 := (blk_cell (hs6.blk 9 rfl) 1).trans rfl; have e2 := (blk_cell (hs6.blk 9 rfl) 2).trans rfl; have e3 := (blk_cell (hs6.blk 9 rfl) 3).trans rfl; have h5 := lt_of_some (hs6.blk 9 rfl); have f0 := (blk_cell (hs6.blk 11 rfl) 0).trans rfl; have f1 := (blk_cell (hs6.blk 11 rfl) 1).trans rfl; have h11 := lt_of_some (hs6.blk 11 rfl); obtain ⟨l0, l1, l2, hlp⟩ := hs6.lpAt 3 rfl; rw [HLP.out] at l0 l1 l2 hlp; have HS6 := Aside0.mk hs6; clear hs6)
               | (clear G7; go_at_call 32; have hsq : St w F _ (row3 mm.p (.slice (some ⟨g, 0, none⟩) nh ch) (.slice Aw r0.waits.length cw) r0 ++ (lkO M1 (X ++ Y) M1.hs ++ [_, _, blkC n11 (.cells #[.int .i64 x, .int .i64 mo] 63 (0, 0))])) := HS6.out.putBlk 11 rfl 1 (.int .i64 mo) rfl; refine (A36.out _ _ _ _ (St.rowH (R := lkO M1 (X ++ Y) M1.hs ++ [_, _, _]) hsq)).mono ?_; rintro E w7 ⟨rfl, hb⟩; have hs7 := hsq.below hb; clear hb hsq ff c0 c1 cf hlt e0 e1 e2 e3 h5 f0 f1 h11 l0 l1 l2 hlp; have ff := (fun j => frozen_of_row _ _ j _ _ (hs7.blk 11 rfl)); obtain ⟨c0, c1, cf⟩ := hs7.cells64 0 rfl; have hlt := World.block_lt_of_cell? _ _ c0; have e0 := (blk_cell (hs7.blk 9 rfl) 0).trans rfl; have e1 := (blk_cell (hs7.blk 9 rfl) 1).trans rfl; have e2 := (blk_cell (hs7.blk 9 rfl) 2).trans rfl; have e3 := (blk_cell (hs7.blk 9 rfl) 3).trans rfl; have h5 := lt_of_some (hs7.blk 9 rfl); have f0 := (blk_cell (hs7.blk 11 rfl) 0).trans rfl; have f1 := (blk_cell (hs7.blk 11 rfl) 1).trans rfl; have h11 := lt_of_some (hs7.blk 11 rfl); obtain ⟨l0, l1, l2, hlp⟩ := hs7.lpAt 3 rfl; rw [HLP.out] at l0 l1 l2 hlp; have HS7 := Aside0.mk hs7; clear hs7)
               | (clear G8; go_at_call 33; refine (A30.out _ _ _ _ (St.rowH (R := lkO M1 (X ++ Y) M1.hs ++ [_, _, _]) HS7.out)).mono ?_; rintro E w8 ⟨Ab, nb, cb, rfl, hb0, hb⟩; have hs8 := HS7.out.below hb; clear hb HS7 ff c0 c1 cf hlt e0 e1 e2 e3 h5 f0 f1 h11 l0 l1 l2 hlp; have ff := (fun j => frozen_of_row _ _ j _ _ (hs8.blk 11 rfl)); obtain ⟨c0, c1, cf⟩ := hs8.cells64 0 rfl; have hlt := World.block_lt_of_cell? _ _ c0; have e0 := (blk_cell (hs8.blk 9 rfl) 0).trans rfl; have e1 := (blk_cell (hs8.blk 9 rfl) 1).trans rfl; have e2 := (blk_cell (hs8.blk 9 rfl) 2).trans rfl; have e3 := (blk_cell (hs8.blk 9 rfl) 3).trans rfl; have h5 := lt_of_some (hs8.blk 9 rfl); have f0 := (blk_cell (hs8.blk 11 rfl) 0).trans rfl; have f1 := (blk_cell (hs8.blk 11 rfl) 1).trans rfl; have h11 := lt_of_some (hs8.blk 11 rfl); obtain ⟨l0, l1, l2, hlp⟩ := hs8.lpAt 3 rfl; rw [HLP.out] at l0 l1 l2 hlp; have HS8 := Aside0.mk hs8; clear hs8; obtain rfl := hb0.1 HB.out; clear hb0)
               | (clear G9; go_at_call 35; refine (A38.out _ _ _ _ (St.sub (A := row3 mm.p (.slice (some ⟨g, 0, none⟩) nh ch) (.slice Aw r0.waits.length cw) r0) (R := lkO M1 (X ++ Y) M1.hs ++ [_, _, _]) HS8.out)).mono ?_; rintro E w9 ⟨rfl, hv9, wv9, k⟩; have h9 := St.call (A := row3 mm.p (.slice (some ⟨g, 0, none⟩) nh ch) (.slice Aw r0.waits.length cw) r0) (R := lkO M1 (X ++ Y) M1.hs ++ [_, _, _]) HS8.out k; have h10 := St.closeR (m := ⟨mm.t, mm.p, hv9, wv9, ⟨Lk.give r0.holds (x, mo), r0.waits⟩⟩) h9; rw [lk_setR (m' := ⟨mm.t, mm.p, hv9, wv9, ⟨Lk.give r0.holds (x, mo), r0.waits⟩⟩) HE.out rfl rfl] at h10; have hrep := HREP1.out.setR HE.out hv9 wv9 ⟨Lk.give r0.holds (x, mo), r0.waits⟩; rw [HMT.out] at hrep h10; have HS9 := Aside0.mk h10; have HREP9 := Aside0.mk hrep; clear ff c0 c1 cf hlt e0 e1 e2 e3 h5 f0 f1 h11 l0 l1 l2 hlp HS8 k h9; have e0 := (blk_cell (h10.blk 6 rfl) 0).trans rfl; have e1 := (blk_cell (h10.blk 6 rfl) 1).trans rfl; have e2 := (blk_cell (h10.blk 6 rfl) 2).trans rfl; have e3 := (blk_cell (h10.blk 6 rfl) 3).trans rfl; have h5 := lt_of_some (h10.blk 6 rfl); clear h10 hrep)
               | (go_at_call 36; have A := A39.out _ _ _ _ HS9.out HREP9.out rfl (by have := HTOT1.out; simp only [LM.tot] at *; omega); rw [show ({ M1 with rs := X ++ ⟨t, mm.p, hv9, wv9, ⟨Lk.give r0.holds (x, mo), r0.waits⟩⟩ :: Y } : LM).lp = M.lp from HLP.out] at A; refine A.mono ?_; rintro E w10 ⟨M10, rfl, k1, k2, k3, k4, k5⟩; have K1 := Aside0.mk k1; have K2 := Aside0.mk k2; have K4 := Aside0.mk k4; have HS10 := Aside0.mk k5; clear A k1 k2 k3 k4 k5 e0 e1 e2 e3 h5))
             rw [← HR.out]
             have hq := HQ.out
             rw [HASK.out] at hq
             refine ⟨M10, by unfold AskE; rw [← hq.2.1, ← hq.2.2]; rfl, by rw [← hq.1]; exact K1.out, K2.out, by have := HTOT1.out; have := K4.out; simp only [LM.tot] at *; omega, ?_⟩
             exact St.left (A := lk M10) HS10.out
           · have HB := Aside0.mk hb
             have e : askR haddT s x t m = (⟨upd s.rows t ⟨r0.holds, r0.waits.take pl ++ (x, mo) :: r0.waits.drop pl⟩, upd s.waits x (some t), s.held⟩, false) := by
               unfold askR
               simp only [HR0.out, HEN.out, HWA.out, HPE.out]
               rw [if_neg (by simp), if_pos hb]
             have HASK := Aside0.mk e
             clear hb e
             go_enter Tryz.func7, Tryz.ntmps7
             go_wp2_with (first
               | (clear G1; go_at_call 26; refine (A31.out _).mono ?_; rintro E w1 ⟨rfl, hb⟩; have hs1 := HS0.out.below hb; have HS1 := Aside0.mk hs1; clear hb e0 e1 e2 e3 h5 HS0; have e0 := (blk_cell (hs1.blk 6 rfl) 0).trans rfl; have e1 := (blk_cell (hs1.blk 6 rfl) 1).trans rfl; have e2 := (blk_cell (hs1.blk 6 rfl) 2).trans rfl; have e3 := (blk_cell (hs1.blk 6 rfl) 3).trans rfl; have h5 := lt_of_some (hs1.blk 6 rfl); clear hs1)
               | (clear G2; go_at_call 27; refine (A32.out _).mono ?_; rintro E w2 ⟨rfl, hb⟩; have hs2 := HS1.out.below hb; clear hb e0 e1 e2 e3 h5; have hlk := A56.out _ _ hs2; obtain ⟨l0, l1, l2, hlp⟩ := hs2.lpAt 0 rfl; have e0 := (blk_cell (hs2.blk 6 rfl) 0).trans rfl; have e1 := (blk_cell (hs2.blk 6 rfl) 1).trans rfl; have e2 := (blk_cell (hs2.blk 6 rfl) 2).trans rfl; have e3 := (blk_cell (hs2.blk 6 rfl) 3).trans rfl; have h5 := lt_of_some (hs2.blk 6 rfl); have HS2 := Aside0.mk (hs2.alloc #[.int .i64 0, .string ⟨#[]⟩, .string ⟨#[]⟩] 32 rfl); clear hs2)
               | (clear G3; go_at_call 28; refine (A28.out _ _ (show St w F _ (lk M ++ [_, _]) from HS2.out)).mono ?_; rintro E w3 ⟨M1, X, mm, Y, rfl, k1, k2, k3, k4, k5, k6⟩; have HE := Aside0.mk k1; have HMT := Aside0.mk k2; have HREP1 := Aside0.mk k3; have HLP := Aside0.mk k4; have HTOT1 := Aside0.mk k5; have h1 := k6; unfold lk at h1; rw [k1] at h1; have h2 := St.openR h1; have hmr : mm.r = r0 := ((k2 ▸ k3.rr mm (k1 ▸ mem_mid.2 (.inl rfl)) : mm.r = s.rows t).trans HR0.out); have HMR := Aside0.mk hmr; rw [hmr] at h2; obtain ⟨Aw, cw, hwv⟩ := (h2.rowX 2 rfl).form; have HWV := Aside0.mk hwv; rw [hwv] at h2; clear hwv; obtain ⟨n11, hn11⟩ : ∃ n, w3.heap.size = n := ⟨_, rfl⟩; have h3 := h2.alloc #[.int .i64 x, .int .i64 m] 63 hn11; have HS3 := Aside0.mk h3; clear e0 e1 e2 e3 h5 l0 l1 l2 hlp hlk; have e0 := (blk_cell (h2.blk 9 rfl) 0).trans rfl; have e1 := (blk_cell (h2.blk 9 rfl) 1).trans rfl; have e2 := (blk_cell (h2.blk 9 rfl) 2).trans rfl; have e3 := (blk_cell (h2.blk 9 rfl) 3).trans rfl; have h5 := lt_of_some (h2.blk 9 rfl); clear h1 h2 h3 hmr k1 k2 k3 k4 k5 k6; unfold ptr)
               | (clear G4; go_at_call 29; refine (A33.out _ _ _ _ (St.rowH (R := lkO M1 (X ++ Y) M1.hs ++ [_, _, _]) HS3.out)).mono ?_; rintro E w4 ⟨rfl, hb⟩; have hs4 := HS3.out.below hb; clear hb HS3 e0 e1 e2 e3 h5; obtain ⟨g, ch, hvv, hcap⟩ := (hs4.rowX 1 rfl).fill (by rw [HNH.out]; have := HIL.out; omega); rw [hvv, HNH.out] at hs4; obtain ⟨d0, d1⟩ := (hs4.rowX 1 rfl).ones HF2.out; have ff := (fun j => frozen_of_row _ _ j _ _ (hs4.blk 11 rfl)); obtain ⟨c0, c1, cf⟩ := hs4.cells64 0 rfl; have hlt := World.block_lt_of_cell? _ _ c0; have e0 := (blk_cell (hs4.blk 9 rfl) 0).trans rfl; have e1 := (blk_cell (hs4.blk 9 rfl) 1).trans rfl; have e2 := (blk_cell (hs4.blk 9 rfl) 2).trans rfl; have e3 := (blk_cell (hs4.blk 9 rfl) 3).trans rfl; have h5 := lt_of_some (hs4.blk 9 rfl); have f0 := (blk_cell (hs4.blk 11 rfl) 0).trans rfl; have f1 := (blk_cell (hs4.blk 11 rfl) 1).trans rfl; have h11 := lt_of_some (hs4.blk 11 rfl); obtain ⟨l0, l1, l2, hlp⟩ := hs4.lpAt 3 rfl; rw [HLP.out] at l0 l1 l2 hlp; have HHV := Aside0.mk hvv; rw [HNH.out] at HHV; have HS4 := Aside0.mk hs4; clear hs4 hvv)
               | (clear G5; go_at_call 30; refine (A34.out _).mono ?_; rintro E w5 ⟨rfl, hb⟩; have hs5 := HS4.out.below hb; clear hb ff c0 c1 cf hlt e0 e1 e2 e3 h5 f0 f1 h11 l0 l1 l2 hlp d0 d1 HS4; have ff := (fun j => frozen_of_row _ _ j _ _ (hs5.blk 11 rfl)); obtain ⟨c0, c1, cf⟩ := hs5.cells64 0 rfl; have hlt := World.block_lt_of_cell? _ _ c0; have e0 := (blk_cell (hs5.blk 9 rfl) 0).trans rfl; have e1 := (blk_cell (hs5.blk 9 rfl) 1).trans rfl; have e2 := (blk_cell (hs5.blk 9 rfl) 2).trans rfl; have e3 := (blk_cell (hs5.blk 9 rfl) 3).trans rfl; have h5 := lt_of_some (hs5.blk 9 rfl); have f0 := (blk_cell (hs5.blk 11 rfl) 0).trans rfl; have f1 := (blk_cell (hs5.blk 11 rfl) 1).trans rfl; have h11 := lt_of_some (hs5.blk 11 rfl); obtain ⟨l0, l1, l2, hlp⟩ := hs5.lpAt 3 rfl; rw [HLP.out] at l0 l1 l2 hlp; have HS5 := Aside0.mk hs5; clear hs5)
               | (clear G6; go_at_call 31; refine (A35.out _).mono ?_; rintro E w6 ⟨rfl, hb⟩; have hs6 := HS5.out.below hb; clear hb ff c0 c1 cf hlt e0 e1 e2 e3 h5 f0 f1 h11 l0 l1 l2 hlp HS5; have ff := (fun j => frozen_of_row _ _ j _ _ (hs6.blk 11 rfl)); obtain ⟨c0, c1, cf⟩ := hs6.cells64 0 rfl; have hlt := World.block_lt_of_cell? _ _ c0; have e0 := (blk_cell (hs6.blk 9 rfl) 0).trans rfl; have e1 := (blk_cell (hs6.blk 9 rfl) 1).trans rfl; have e2 := (blk_cell (hs6.blk 9 rfl) 2).trans rfl; have e3 := (blk_cell (hs6.blk 9 rfl) 3).trans rfl; have h5 := lt_of_some (hs6.blk 9 rfl); have f0 := (blk_cell (hs6.blk 11 rfl) 0).trans rfl; have f1 := (blk_cell (hs6.blk 11 rfl) 1).trans rfl; have h11 := lt_of_some (hs6.blk 11 rfl); obtain ⟨l0, l1, l2, hlp⟩ := hs6.lpAt 3 rfl; rw [HLP.out] at l0 l1 l2 hlp; have HS6 := Aside0.mk hs6; clear hs6)
               | (clear G7; go_at_call 32; have hsq : St w F _ (row3 mm.p (.slice (some ⟨g, 0, none⟩) nh ch) (.slice Aw r0.waits.length cw) r0 ++ (lkO M1 (X ++ Y) M1.hs ++ [_, _, blkC n11 (.cells #[.int .i64 x, .int .i64 mo] 63 (0, 0))])) := HS6.out.putBlk 11 rfl 1 (.int .i64 mo) rfl; refine (A36.out _ _ _ _ (St.rowH (R := lkO M1 (X ++ Y) M1.hs ++ [_, _, _]) hsq)).mono ?_; rintro E w7 ⟨rfl, hb⟩; have hs7 := hsq.below hb; clear hb hsq ff c0 c1 cf hlt e0 e1 e2 e3 h5 f0 f1 h11 l0 l1 l2 hlp; have ff := (fun j => frozen_of_row _ _ j _ _ (hs7.blk 11 rfl)); obtain ⟨c0, c1, cf⟩ := hs7.cells64 0 rfl; have hlt := World.block_lt_of_cell? _ _ c0; have e0 := (blk_cell (hs7.blk 9 rfl) 0).trans rfl; have e1 := (blk_cell (hs7.blk 9 rfl) 1).trans rfl; have e2 := (blk_cell (hs7.blk 9 rfl) 2).trans rfl; have e3 := (blk_cell (hs7.blk 9 rfl) 3).trans rfl; have h5 := lt_of_some (hs7.blk 9 rfl); have f0 := (blk_cell (hs7.blk 11 rfl) 0).trans rfl; have f1 := (blk_cell (hs7.blk 11 rfl) 1).trans rfl; have h11 := lt_of_some (hs7.blk 11 rfl); obtain ⟨l0, l1, l2, hlp⟩ := hs7.lpAt 3 rfl; rw [HLP.out] at l0 l1 l2 hlp; have HS7 := Aside0.mk hs7; clear hs7)
               | (clear G8; go_at_call 33; refine (A30.out _ _ _ _ (St.rowH (R := lkO M1 (X ++ Y) M1.hs ++ [_, _, _]) HS7.out)).mono ?_; rintro E w8 ⟨Ab, nb, cb, rfl, hb0, hb⟩; have hs8 := HS7.out.below hb; clear hb HS7 ff c0 c1 cf hlt e0 e1 e2 e3 h5 f0 f1 h11 l0 l1 l2 hlp; have ff := (fun j => frozen_of_row _ _ j _ _ (hs8.blk 11 rfl)); obtain ⟨c0, c1, cf⟩ := hs8.cells64 0 rfl; have hlt := World.block_lt_of_cell? _ _ c0; have e0 := (blk_cell (hs8.blk 9 rfl) 0).trans rfl; have e1 := (blk_cell (hs8.blk 9 rfl) 1).trans rfl; have e2 := (blk_cell (hs8.blk 9 rfl) 2).trans rfl; have e3 := (blk_cell (hs8.blk 9 rfl) 3).trans rfl; have h5 := lt_of_some (hs8.blk 9 rfl); have f0 := (blk_cell (hs8.blk 11 rfl) 0).trans rfl; have f1 := (blk_cell (hs8.blk 11 rfl) 1).trans rfl; have h11 := lt_of_some (hs8.blk 11 rfl); obtain ⟨l0, l1, l2, hlp⟩ := hs8.lpAt 3 rfl; rw [HLP.out] at l0 l1 l2 hlp; have HS8 := Aside0.mk hs8; clear hs8; have hnb : (0 : Int) < (nb : Int) := (by have : nb ≠ 0 := fun e => HB.out (hb0.2 e); omega); clear hb0))
             clear ff c0 c1 cf hlt e0 e1 e2 e3 h5 f0 f1 h11 l0 l1 l2 hlp
             refine start_ (n := 12) (S := fun w' => w'.cell? ⟨mm.p, 1, none⟩ = some (.slice Aw r0.waits.length cw) ∧ w'.cell? ⟨n11, 0, none⟩ = some (.int .i64 x) ∧ w'.cell? ⟨n11, 1, none⟩ = some (.int .i64 mo)) (ds := [11]) #[false, false, false, false, false, false, false, false, false, false, false, false] (by kernel_rfl) rfl rfl ⟨(HS8.out.cells64 0 rfl).2.1, (blk_cell (HS8.out.blk 11 rfl) 0).trans rfl, (blk_cell (HS8.out.blk 11 rfl) 1).trans rfl⟩ (fun hHeld => ?_)
             have HS1 := Aside0.mk (HS8.out.drew)
             clear HS8
             generalize w8.drew = w9 at HS1 hHeld  ⊢
             refine pu_ 0 74 (bs_ 12 1) ?_; refine pu_ 1 75 (bs_ 12 3) ?_; refine pu_ 2 76 (bs_ 12 7) ?_; refine pu_ 3 77 (bs_ 12 15) ?_; refine pu_ 5 79 (bs_ 12 47) ?_; refine ta_ 4 78 (bs_ 12 63) hHeld ?_; refine ta_ 6 80 (bs_ 12 127) hHeld ?_
             refine one_ (i := 7) (N := (some 81)) (bs_ 12 255) rfl rfl (by kernel_rfl) (by decide) (fun K_ hK => ?_)
             obtain ⟨vb, hvb⟩ : ∃ v : Nat, w9.heap.size = v := ⟨_, rfl⟩
             refine made_ (v := .slice (some ⟨w9.heap.size, 0, none⟩) 1 1) (w1 := w9.alloc (.cells #[.int .i64 x, .int .i64 mo] 63)) (by rfl) rfl (by go_simp) ?_
             have HS2 := Aside0.mk (HS1.out.alloc #[.int .i64 x, .int .i64 mo] 63 hvb)
             clear HS1
             rw [hvb]
             clear hvb
             clear hHeld
             refine hK.out _ _ ⟨(HS2.out.cells64 0 rfl).2.1, (blk_cell (HS2.out.blk 11 rfl) 0).trans rfl, (blk_cell (HS2.out.blk 11 rfl) 1).trans rfl⟩ (fun hHeld => ?_)
             clear hK K_
             generalize w9.alloc (.cells #[.int .i64 x, .int .i64 mo] 63) = w10 at HS2 hHeld  ⊢
             refine norm_ (a' := ?_) ?_ ?_
             rotate_left
             · show Act.put _ (some 81) _ = _
               simp only [Act.put, List.setIfInBounds_toArray, List.set_cons_zero, List.set_cons_succ, i64_w, i32_w]
               rfl
             refine one_ (i := 8) (N := (some 82)) (bs_ 12 511) rfl rfl (by kernel_rfl) (by decide) (fun K_ hK => ?_)
             refine goes_ Tryz.func34 (by kernel_rfl) rfl #[.slice Aw r0.waits.length cw, .int .i64 pl, .slice (some ⟨vb, 0, none⟩) 1 1] (by rfl) rfl rfl (by (try simp only [List.map_toArray, List.map_cons, List.map_nil]); first | done | rfl) ?_
             refine (insertO _ (.slice Aw r0.waits.length cw) r0.waits pl (x, mo) vb (pl : Int) (HS2.out.rowX 2 rfl) HPL.out (by have := HOK0.out.len; omega) (HS2.out.blk 12 rfl) (fun h => HS2.out.apart 2 12 (by decide) rfl rfl _ h (by simp [blkC])) rfl).mono ?_
             rintro E w11 ⟨g_, c_, rfl, hrow, hgr, hown⟩
             have HS3 := Aside0.mk (HS2.out.rowTo 2 rfl hrow hgr hown)
             clear HS2
             clear hrow hgr hown
             refine ⟨_, rfl, ?_⟩
             clear hHeld
             refine hK.out _ _ ⟨(HS3.out.cells64 0 rfl).2.1, (blk_cell (HS3.out.blk 11 rfl) 0).trans rfl, (blk_cell (HS3.out.blk 11 rfl) 1).trans rfl⟩ (fun hHeld => ?_)
             clear hK K_
             refine norm_ (a' := ?_) ?_ ?_
             rotate_left
             · show Act.put _ (some 82) _ = _
               simp only [Act.put, List.setIfInBounds_toArray, List.set_cons_zero, List.set_cons_succ, i64_w, i32_w]
               rfl
             refine pu_ 9 83 (bs_ 12 1023) ?_; refine pu_ 10 84 (bs_ 12 2047) ?_
             refine last_ (i := 11) (N := none) (bs_ 12 4095) rfl rfl (by kernel_rfl) (by decide) (fun K_ hK => ?_)
             have c_0 := (HS3.out.cells64 0 rfl).2.1
             have c_1 := (HS3.out.cells64 0 rfl).2.2
             refine skip_ (w1 := ?_) (by rfl) rfl ?_ ?_
             rotate_left
             · go_simp
               rfl
             refine hK.out _ _ ?_
             clear hK K_ hHeld c_0 c_1
             refine done_ (by kernel_rfl) ?_
             have HS4 := Aside0.mk (HS3.out.put64b 0 rfl (.slice (some ⟨g_, 0, none⟩) (r0.waits.length + 1) c_))
             clear HS3
             generalize w11.setCell ⟨mm.p, 1, none⟩ (.slice (some ⟨g_, 0, none⟩) (r0.waits.length + 1) c_) = w12 at HS4 ⊢
             go_wp2
             refine start_ (n := 8) (S := fun w' => w'.cell? ⟨M.lp, 1, none⟩ = some (.map (some M1.b2)) ∧ w'.cell? ⟨n5, 0, none⟩ = some (.int .i64 t.f0) ∧ w'.cell? ⟨n5, 1, none⟩ = some (.string t.f1) ∧ w'.cell? ⟨n5, 2, none⟩ = some (.string t.f2)) (ds := [7]) #[false, false, false, false, false, false, false, false] (by kernel_rfl) rfl rfl ⟨(HLP.out ▸ (HS4.out.lpAt 3 rfl).2.1), (blk_cell (HS4.out.blk 9 rfl) 0).trans rfl, (blk_cell (HS4.out.blk 9 rfl) 1).trans rfl, (blk_cell (HS4.out.blk 9 rfl) 2).trans rfl⟩ (fun hHeld => ?_)
             have HS5 := Aside0.mk (HS4.out.drew)
             clear HS4
             generalize w12.drew = w12' at HS5 hHeld  ⊢
             refine pu_ 0 85 (bs_ 8 1) ?_; refine pu_ 1 86 (bs_ 8 3) ?_; refine pu_ 2 87 (bs_ 8 7) ?_; refine pu_ 4 89 (bs_ 8 23) ?_; refine pu_ 5 90 (bs_ 8 55) ?_; refine ta_ 3 88 (bs_ 8 63) hHeld ?_; refine ta_ 6 91 (bs_ 8 127) hHeld ?_
             refine last_ (i := 7) (N := none) (bs_ 8 255) rfl rfl (by kernel_rfl) (by decide) (fun K_ hK => ?_)
             obtain ⟨w13, hrun, hmap, hg⟩ := (HS5.out.mapAt (K := K3) (n := M1.n2) (f := waitF M1.wt) 5 rfl).update (f' := waitF (upd s.waits x (some t))) Tryz.underlying53 (by have := HTOT1.out; have := HTOT.out; simp only [LM.tot] at *; simp only [maxLen]; omega) (show K3.wf x from HX.out) (thgV t) (by simp [waitF, upd_same]) (fun y hy => by simp [waitF, upd_other hy, HREP1.out.ww])
             refine update_ (.tmp 88) (.tmp 89) (.tmp 91) 53 (by rfl) rfl rfl _ _ _ (by rfl) (by rfl) (by rfl) hrun ?_
             have HS6 := Aside0.mk (HS5.out.mapTo 5 rfl hmap hg)
             clear HS5
             clear hrun hmap hg
             refine hK.out _ _ ?_
             clear hK K_ hHeld
             refine done_ (by kernel_rfl) ?_
             go_wp2
             rw [← HR.out]
             have hq := HQ.out
             rw [HASK.out] at hq
             have h9 : St w F w13 (row3 mm.p (.slice (some ⟨g, 0, none⟩) nh ch) (.slice (some ⟨g_, 0, none⟩) (r0.waits.length + 1) c_) ⟨r0.holds, r0.waits.take pl ++ (x, mo) :: r0.waits.drop pl⟩ ++ lkO { M1 with wt := upd s.waits x (some t), n2 := M1.n2 + 1 } (X ++ Y) M1.hs ++ [_, _, _, _]) := HS6.out
             have h10 := St.closeR (m := ⟨mm.t, mm.p, (.slice (some ⟨g, 0, none⟩) nh ch), .slice (some ⟨g_, 0, none⟩) (r0.waits.length + 1) c_, ⟨r0.holds, r0.waits.take pl ++ (x, mo) :: r0.waits.drop pl⟩⟩) h9
             have h11 := lk_setR (M := { M1 with wt := upd s.waits x (some t), n2 := M1.n2 + 1 }) (m' := ⟨mm.t, mm.p, (.slice (some ⟨g, 0, none⟩) nh ch), .slice (some ⟨g_, 0, none⟩) (r0.waits.length + 1) c_, ⟨r0.holds, r0.waits.take pl ++ (x, mo) :: r0.waits.drop pl⟩⟩) HE.out rfl rfl
             rw [h11] at h10
             have hrep := (HREP1.out.setR HE.out (.slice (some ⟨g, 0, none⟩) nh ch) (.slice (some ⟨g_, 0, none⟩) (r0.waits.length + 1) c_) ⟨r0.holds, r0.waits.take pl ++ (x, mo) :: r0.waits.drop pl⟩).setW (upd s.waits x (some t)) (M1.n2 + 1)
             rw [HMT.out] at hrep h10
             refine ⟨{ M1 with rs := X ++ ⟨t, mm.p, (.slice (some ⟨g, 0, none⟩) nh ch), .slice (some ⟨g_, 0, none⟩) (r0.waits.length + 1) c_, ⟨r0.holds, r0.waits.take pl ++ (x, mo) :: r0.waits.drop pl⟩⟩ :: Y, wt := upd s.waits x (some t), n2 := M1.n2 + 1 }, by unfold AskE; rw [← hq.2.1, ← hq.2.2]; rfl, by rw [← hq.1]; exact hrep, HLP.out, by have := HTOT1.out; simp only [LM.tot] at *; omega, ?_⟩
             exact St.left (A := lk _) h10
       | none =>
         have hij : idxI r0.holds (isT x) = -1 := by unfold idxI; rw [modeOf_none hmo]
         rw [hij] at A33
         have HWA := Aside0.mk (show wanted r0 x m = (x, m) by unfold wanted; rw [hmo])
         have HEN := Aside0.mk (show enough r0 x m = false by unfold enough; rw [hmo])
         clear hmo hij
         have A30 := Aside0.mk (fun W p hv wv (h : RowH W p hv wv r0) => blockers_some W p hv wv r0 (x, m) pl h HPL.out (by have := HOK0.out.len; omega))
         unfold ptr oneV at A30
         have G3 : True := trivial
         have G4 : True := trivial
         have G5 : True := trivial
         have G6 : True := trivial
         have G7 : True := trivial
         have G8 : True := trivial
         by_cases hb : rawB r0 (x, m) pl = []
         · have HB := Aside0.mk hb
           have e : askR haddT s x t m = (⟨upd s.rows t ⟨Lk.give r0.holds (x, m), r0.waits⟩, s.waits, upd s.held x (haddT (s.held x) t)⟩, true) := by
             unfold askR
             simp only [HR0.out, HEN.out, HWA.out, HPE.out, hb]
             rfl
           have HASK := Aside0.mk e
           have A38 := Aside0.mk (fun W p hv wv (h : St W (fun b => b ∈ fpc (row3 p hv wv r0)) W (row3 p hv wv r0)) => give_calls W p hv wv r0 (x, m) _ h (by have := HOK0.out.len; omega) HINV.out.hn)
           unfold ptr oneV at A38
           have HHE := Aside0.mk (HOK.out.held x)
           have A39 := Aside0.mk (fun W M2 s2 (R1 : List Chunk) (h1 : St w F W (lk M2 ++ R1)) (h2 : Rep M2 s2) (h3 : s2.held x = s.held x) (h4 : M2.tot ≤ M.tot + 1) => note_fr (t := t) h1 h2 HX.out (by rw [h3]; exact HHE.out.1) (by rw [h3]; have := HHE.out.2; have := HN.out; omega) (by have := HTOT.out; simp only [LM.tot] at *; simp only [maxLen]; omega))
           unfold lpV thgV at A39
           have G9 : True := trivial
           clear hb e
           go_enter Tryz.func7, Tryz.ntmps7
           go_wp2_with (first
             | (clear G1; go_at_call 26; refine (A31.out _).mono ?_; rintro E w1 ⟨rfl, hb⟩; have hs1 := HS0.out.below hb; have HS1 := Aside0.mk hs1; clear hb e0 e1 e2 e3 h5 HS0; have e0 := (blk_cell (hs1.blk 6 rfl) 0).trans rfl; have e1 := (blk_cell (hs1.blk 6 rfl) 1).trans rfl; have e2 := (blk_cell (hs1.blk 6 rfl) 2).trans rfl; have e3 := (blk_cell (hs1.blk 6 rfl) 3).trans rfl; have h5 := lt_of_some (hs1.blk 6 rfl); clear hs1)
             | (clear G2; go_at_call 27; refine (A32.out _).mono ?_; rintro E w2 ⟨rfl, hb⟩; have hs2 := HS1.out.below hb; clear hb e0 e1 e2 e3 h5; have hlk := A56.out _ _ hs2; obtain ⟨l0, l1, l2, hlp⟩ := hs2.lpAt 0 rfl; have e0 := (blk_cell (hs2.blk 6 rfl) 0).trans rfl; have e1 := (blk_cell (hs2.blk 6 rfl) 1).trans rfl; have e2 := (blk_cell (hs2.blk 6 rfl) 2).trans rfl; have e3 := (blk_cell (hs2.blk 6 rfl) 3).trans rfl; have h5 := lt_of_some (hs2.blk 6 rfl); have HS2 := Aside0.mk (hs2.alloc #[.int .i64 0, .string ⟨#[]⟩, .string ⟨#[]⟩] 32 rfl); clear hs2)
             | (clear G3; go_at_call 28; refine (A28.out _ _ (show St w F _ (lk M ++ [_, _]) from HS2.out)).mono ?_; rintro E w3 ⟨M1, X, mm, Y, rfl, k1, k2, k3, k4, k5, k6⟩; have HE := Aside0.mk k1; have HMT := Aside0.mk k2; have HREP1 := Aside0.mk k3; have HLP := Aside0.mk k4; have HTOT1 := Aside0.mk k5; have h1 := k6; unfold lk at h1; rw [k1] at h1; have h2 := St.openR h1; have hmr : mm.r = r0 := ((k2 ▸ k3.rr mm (k1 ▸ mem_mid.2 (.inl rfl)) : mm.r = s.rows t).trans HR0.out); have HMR := Aside0.mk hmr; rw [hmr] at h2; obtain ⟨Aw, cw, hwv⟩ := (h2.rowX 2 rfl).form; have HWV := Aside0.mk hwv; rw [hwv] at h2; clear hwv; obtain ⟨n11, hn11⟩ : ∃ n, w3.heap.size = n := ⟨_, rfl⟩; have h3 := h2.alloc #[.int .i64 x, .int .i64 m] 63 hn11; have HS3 := Aside0.mk h3; clear e0 e1 e2 e3 h5 l0 l1 l2 hlp hlk; have e0 := (blk_cell (h2.blk 9 rfl) 0).trans rfl; have e1 := (blk_cell (h2.blk 9 rfl) 1).trans rfl; have e2 := (blk_cell (h2.blk 9 rfl) 2).trans rfl; have e3 := (blk_cell (h2.blk 9 rfl) 3).trans rfl; have h5 := lt_of_some (h2.blk 9 rfl); clear h1 h2 h3 hmr k1 k2 k3 k4 k5 k6; unfold ptr)
             | (clear G4; go_at_call 29; refine (A33.out _ _ _ _ (St.rowH (R := lkO M1 (X ++ Y) M1.hs ++ [_, _, _]) HS3.out)).mono ?_; rintro E w4 ⟨rfl, hb⟩; have hs4 := HS3.out.below hb; clear hb HS3 e0 e1 e2 e3 h5; have ff := (fun j => frozen_of_row _ _ j _ _ (hs4.blk 11 rfl)); obtain ⟨c0, c1, cf⟩ := hs4.cells64 0 rfl; have hlt := World.block_lt_of_cell? _ _ c0; have e0 := (blk_cell (hs4.blk 9 rfl) 0).trans rfl; have e1 := (blk_cell (hs4.blk 9 rfl) 1).trans rfl; have e2 := (blk_cell (hs4.blk 9 rfl) 2).trans rfl; have e3 := (blk_cell (hs4.blk 9 rfl) 3).trans rfl; have h5 := lt_of_some (hs4.blk 9 rfl); have f0 := (blk_cell (hs4.blk 11 rfl) 0).trans rfl; have f1 := (blk_cell (hs4.blk 11 rfl) 1).trans rfl; have h11 := lt_of_some (hs4.blk 11 rfl); obtain ⟨l0, l1, l2, hlp⟩ := hs4.lpAt 3 rfl; rw [HLP.out] at l0 l1 l2 hlp; have HS4 := Aside0.mk hs4; clear hs4)
             | (clear G7; go_at_call 32; have hsq : St w F _ (row3 mm.p mm.hv (.slice Aw r0.waits.length cw) r0 ++ (lkO M1 (X ++ Y) M1.hs ++ [_, _, blkC n11 (.cells #[.int .i64 x, .int .i64 m] 63 (0, 0))])) := HS4.out; refine (A36.out _ _ _ _ (St.rowH (R := lkO M1 (X ++ Y) M1.hs ++ [_, _, _]) hsq)).mono ?_; rintro E w7 ⟨rfl, hb⟩; have hs7 := hsq.below hb; clear hb hsq ff c0 c1 cf hlt e0 e1 e2 e3 h5 f0 f1 h11 l0 l1 l2 hlp; have ff := (fun j => frozen_of_row _ _ j _ _ (hs7.blk 11 rfl)); obtain ⟨c0, c1, cf⟩ := hs7.cells64 0 rfl; have hlt := World.block_lt_of_cell? _ _ c0; have e0 := (blk_cell (hs7.blk 9 rfl) 0).trans rfl; have e1 := (blk_cell (hs7.blk 9 rfl) 1).trans rfl; have e2 := (blk_cell (hs7.blk 9 rfl) 2).trans rfl; have e3 := (blk_cell (hs7.blk 9 rfl) 3).trans rfl; have h5 := lt_of_some (hs7.blk 9 rfl); have f0 := (blk_cell (hs7.blk 11 rfl) 0).trans rfl; have f1 := (blk_cell (hs7.blk 11 rfl) 1).trans rfl; have h11 := lt_of_some (hs7.blk 11 rfl); obtain ⟨l0, l1, l2, hlp⟩ := hs7.lpAt 3 rfl; rw [HLP.out] at l0 l1 l2 hlp; have HS7 := Aside0.mk hs7; clear hs7)
             | (clear G8; go_at_call 33; refine (A30.out _ _ _ _ (St.rowH (R := lkO M1 (X ++ Y) M1.hs ++ [_, _, _]) HS7.out)).mono ?_; rintro E w8 ⟨Ab, nb, cb, rfl, hb0, hb⟩; have hs8 := HS7.out.below hb; clear hb HS7 ff c0 c1 cf hlt e0 e1 e2 e3 h5 f0 f1 h11 l0 l1 l2 hlp; have ff := (fun j => frozen_of_row _ _ j _ _ (hs8.blk 11 rfl)); obtain ⟨c0, c1, cf⟩ := hs8.cells64 0 rfl; have hlt := World.block_lt_of_cell? _ _ c0; have e0 := (blk_cell (hs8.blk 9 rfl) 0).trans rfl; have e1 := (blk_cell (hs8.blk 9 rfl) 1).trans rfl; have e2 := (blk_cell (hs8.blk 9 rfl) 2).trans rfl; have e3 := (blk_cell (hs8.blk 9 rfl) 3).trans rfl; have h5 := lt_of_some (hs8.blk 9 rfl); have f0 := (blk_cell (hs8.blk 11 rfl) 0).trans rfl; have f1 := (blk_cell (hs8.blk 11 rfl) 1).trans rfl; have h11 := lt_of_some (hs8.blk 11 rfl); obtain ⟨l0, l1, l2, hlp⟩ := hs8.lpAt 3 rfl; rw [HLP.out] at l0 l1 l2 hlp; have HS8 := Aside0.mk hs8; clear hs8; obtain rfl := hb0.1 HB.out; clear hb0)
             | (clear G9; go_at_call 35; refine (A38.out _ _ _ _ (St.sub (A := row3 mm.p mm.hv (.slice Aw r0.waits.length cw) r0) (R := lkO M1 (X ++ Y) M1.hs ++ [_, _, _]) HS8.out)).mono ?_; rintro E w9 ⟨rfl, hv9, wv9, k⟩; have h9 := St.call (A := row3 mm.p mm.hv (.slice Aw r0.waits.length cw) r0) (R := lkO M1 (X ++ Y) M1.hs ++ [_, _, _]) HS8.out k; have h10 := St.closeR (m := ⟨mm.t, mm.p, hv9, wv9, ⟨Lk.give r0.holds (x, m), r0.waits⟩⟩) h9; rw [lk_setR (m' := ⟨mm.t, mm.p, hv9, wv9, ⟨Lk.give r0.holds (x, m), r0.waits⟩⟩) HE.out rfl rfl] at h10; have hrep := HREP1.out.setR HE.out hv9 wv9 ⟨Lk.give r0.holds (x, m), r0.waits⟩; rw [HMT.out] at hrep h10; have HS9 := Aside0.mk h10; have HREP9 := Aside0.mk hrep; clear ff c0 c1 cf hlt e0 e1 e2 e3 h5 f0 f1 h11 l0 l1 l2 hlp HS8 k h9; have e0 := (blk_cell (h10.blk 6 rfl) 0).trans rfl; have e1 := (blk_cell (h10.blk 6 rfl) 1).trans rfl; have e2 := (blk_cell (h10.blk 6 rfl) 2).trans rfl; have e3 := (blk_cell (h10.blk 6 rfl) 3).trans rfl; have h5 := lt_of_some (h10.blk 6 rfl); clear h10 hrep)
             | (go_at_call 36; have A := A39.out _ _ _ _ HS9.out HREP9.out rfl (by have := HTOT1.out; simp only [LM.tot] at *; omega); rw [show ({ M1 with rs := X ++ ⟨t, mm.p, hv9, wv9, ⟨Lk.give r0.holds (x, m), r0.waits⟩⟩ :: Y } : LM).lp = M.lp from HLP.out] at A; refine A.mono ?_; rintro E w10 ⟨M10, rfl, k1, k2, k3, k4, k5⟩; have K1 := Aside0.mk k1; have K2 := Aside0.mk k2; have K4 := Aside0.mk k4; have HS10 := Aside0.mk k5; clear A k1 k2 k3 k4 k5 e0 e1 e2 e3 h5))
           rw [← HR.out]
           have hq := HQ.out
           rw [HASK.out] at hq
           refine ⟨M10, by unfold AskE; rw [← hq.2.1, ← hq.2.2]; rfl, by rw [← hq.1]; exact K1.out, K2.out, by have := HTOT1.out; have := K4.out; simp only [LM.tot] at *; omega, ?_⟩
           exact St.left (A := lk M10) HS10.out
         · have HB := Aside0.mk hb
           have e : askR haddT s x t m = (⟨upd s.rows t ⟨r0.holds, r0.waits.take pl ++ (x, m) :: r0.waits.drop pl⟩, upd s.waits x (some t), s.held⟩, false) := by
             unfold askR
             simp only [HR0.out, HEN.out, HWA.out, HPE.out]
             rw [if_neg (by simp), if_pos hb]
           have HASK := Aside0.mk e
           clear hb e
           go_enter Tryz.func7, Tryz.ntmps7
           go_wp2_with (first
             | (clear G1; go_at_call 26; refine (A31.out _).mono ?_; rintro E w1 ⟨rfl, hb⟩; have hs1 := HS0.out.below hb; have HS1 := Aside0.mk hs1; clear hb e0 e1 e2 e3 h5 HS0; have e0 := (blk_cell (hs1.blk 6 rfl) 0).trans rfl; have e1 := (blk_cell (hs1.blk 6 rfl) 1).trans rfl; have e2 := (blk_cell (hs1.blk 6 rfl) 2).trans rfl; have e3 := (blk_cell (hs1.blk 6 rfl) 3).trans rfl; have h5 := lt_of_some (hs1.blk 6 rfl); clear hs1)
             | (clear G2; go_at_call 27; refine (A32.out _).mono ?_; rintro E w2 ⟨rfl, hb⟩; have hs2 := HS1.out.below hb; clear hb e0 e1 e2 e3 h5; have hlk := A56.out _ _ hs2; obtain ⟨l0, l1, l2, hlp⟩ := hs2.lpAt 0 rfl; have e0 := (blk_cell (hs2.blk 6 rfl) 0).trans rfl; have e1 := (blk_cell (hs2.blk 6 rfl) 1).trans rfl; have e2 := (blk_cell (hs2.blk 6 rfl) 2).trans rfl; have e3 := (blk_cell (hs2.blk 6 rfl) 3).trans rfl; have h5 := lt_of_some (hs2.blk 6 rfl); have HS2 := Aside0.mk (hs2.alloc #[.int .i64 0, .string ⟨#[]⟩, .string ⟨#[]⟩] 32 rfl); clear hs2)
             | (clear G3; go_at_call 28; refine (A28.out _ _ (show St w F _ (lk M ++ [_, _]) from HS2.out)).mono ?_; rintro E w3 ⟨M1, X, mm, Y, rfl, k1, k2, k3, k4, k5, k6⟩; have HE := Aside0.mk k1; have HMT := Aside0.mk k2; have HREP1 := Aside0.mk k3; have HLP := Aside0.mk k4; have HTOT1 := Aside0.mk k5; have h1 := k6; unfold lk at h1; rw [k1] at h1; have h2 := St.openR h1; have hmr : mm.r = r0 := ((k2 ▸ k3.rr mm (k1 ▸ mem_mid.2 (.inl rfl)) : mm.r = s.rows t).trans HR0.out); have HMR := Aside0.mk hmr; rw [hmr] at h2; obtain ⟨Aw, cw, hwv⟩ := (h2.rowX 2 rfl).form; have HWV := Aside0.mk hwv; rw [hwv] at h2; clear hwv; obtain ⟨n11, hn11⟩ : ∃ n, w3.heap.size = n := ⟨_, rfl⟩; have h3 := h2.alloc #[.int .i64 x, .int .i64 m] 63 hn11; have HS3 := Aside0.mk h3; clear e0 e1 e2 e3 h5 l0 l1 l2 hlp hlk; have e0 := (blk_cell (h2.blk 9 rfl) 0).trans rfl; have e1 := (blk_cell (h2.blk 9 rfl) 1).trans rfl; have e2 := (blk_cell (h2.blk 9 rfl) 2).trans rfl; have e3 := (blk_cell (h2.blk 9 rfl) 3).trans rfl; have h5 := lt_of_some (h2.blk 9 rfl); clear h1 h2 h3 hmr k1 k2 k3 k4 k5 k6; unfold ptr)
             | (clear G4; go_at_call 29; refine (A33.out _ _ _ _ (St.rowH (R := lkO M1 (X ++ Y) M1.hs ++ [_, _, _]) HS3.out)).mono ?_; rintro E w4 ⟨rfl, hb⟩; have hs4 := HS3.out.below hb; clear hb HS3 e0 e1 e2 e3 h5; have ff := (fun j => frozen_of_row _ _ j _ _ (hs4.blk 11 rfl)); obtain ⟨c0, c1, cf⟩ := hs4.cells64 0 rfl; have hlt := World.block_lt_of_cell? _ _ c0; have e0 := (blk_cell (hs4.blk 9 rfl) 0).trans rfl; have e1 := (blk_cell (hs4.blk 9 rfl) 1).trans rfl; have e2 := (blk_cell (hs4.blk 9 rfl) 2).trans rfl; have e3 := (blk_cell (hs4.blk 9 rfl) 3).trans rfl; have h5 := lt_of_some (hs4.blk 9 rfl); have f0 := (blk_cell (hs4.blk 11 rfl) 0).trans rfl; have f1 := (blk_cell (hs4.blk 11 rfl) 1).trans rfl; have h11 := lt_of_some (hs4.blk 11 rfl); obtain ⟨l0, l1, l2, hlp⟩ := hs4.lpAt 3 rfl; rw [HLP.out] at l0 l1 l2 hlp; have HS4 := Aside0.mk hs4; clear hs4)
             | (clear G7; go_at_call 32; have hsq : St w F _ (row3 mm.p mm.hv (.slice Aw r0.waits.length cw) r0 ++ (lkO M1 (X ++ Y) M1.hs ++ [_, _, blkC n11 (.cells #[.int .i64 x, .int .i64 m] 63 (0, 0))])) := HS4.out; refine (A36.out _ _ _ _ (St.rowH (R := lkO M1 (X ++ Y) M1.hs ++ [_, _, _]) hsq)).mono ?_; rintro E w7 ⟨rfl, hb⟩; have hs7 := hsq.below hb; clear hb hsq ff c0 c1 cf hlt e0 e1 e2 e3 h5 f0 f1 h11 l0 l1 l2 hlp; have ff := (fun j => frozen_of_row _ _ j _ _ (hs7.blk 11 rfl)); obtain ⟨c0, c1, cf⟩ := hs7.cells64 0 rfl; have hlt := World.block_lt_of_cell? _ _ c0; have e0 := (blk_cell (hs7.blk 9 rfl) 0).trans rfl; have e1 := (blk_cell (hs7.blk 9 rfl) 1).trans rfl; have e2 := (blk_cell (hs7.blk 9 rfl) 2).trans rfl; have e3 := (blk_cell (hs7.blk 9 rfl) 3).trans rfl; have h5 := lt_of_some (hs7.blk 9 rfl); have f0 := (blk_cell (hs7.blk 11 rfl) 0).trans rfl; have f1 := (blk_cell (hs7.blk 11 rfl) 1).trans rfl; have h11 := lt_of_some (hs7.blk 11 rfl); obtain ⟨l0, l1, l2, hlp⟩ := hs7.lpAt 3 rfl; rw [HLP.out] at l0 l1 l2 hlp; have HS7 := Aside0.mk hs7; clear hs7)
             | (clear G8; go_at_call 33; refine (A30.out _ _ _ _ (St.rowH (R := lkO M1 (X ++ Y) M1.hs ++ [_, _, _]) HS7.out)).mono ?_; rintro E w8 ⟨Ab, nb, cb, rfl, hb0, hb⟩; have hs8 := HS7.out.below hb; clear hb HS7 ff c0 c1 cf hlt e0 e1 e2 e3 h5 f0 f1 h11 l0 l1 l2 hlp; have ff := (fun j => frozen_of_row _ _ j _ _ (hs8.blk 11 rfl)); obtain ⟨c0, c1, cf⟩ := hs8.cells64 0 rfl; have hlt := World.block_lt_of_cell? _ _ c0; have e0 := (blk_cell (hs8.blk 9 rfl) 0).trans rfl; have e1 := (blk_cell (hs8.blk 9 rfl) 1).trans rfl; have e2 := (blk_cell (hs8.blk 9 rfl) 2).trans rfl; have e3 := (blk_cell (hs8.blk 9 rfl) 3).trans rfl; have h5 := lt_of_some (hs8.blk 9 rfl); have f0 := (blk_cell (hs8.blk 11 rfl) 0).trans rfl; have f1 := (blk_cell (hs8.blk 11 rfl) 1).trans rfl; have h11 := lt_of_some (hs8.blk 11 rfl); obtain ⟨l0, l1, l2, hlp⟩ := hs8.lpAt 3 rfl; rw [HLP.out] at l0 l1 l2 hlp; have HS8 := Aside0.mk hs8; clear hs8; have hnb : (0 : Int) < (nb : Int) := (by have : nb ≠ 0 := fun e => HB.out (hb0.2 e); omega); clear hb0))
           clear ff c0 c1 cf hlt e0 e1 e2 e3 h5 f0 f1 h11 l0 l1 l2 hlp
           refine start_ (n := 12) (S := fun w' => w'.cell? ⟨mm.p, 1, none⟩ = some (.slice Aw r0.waits.length cw) ∧ w'.cell? ⟨n11, 0, none⟩ = some (.int .i64 x) ∧ w'.cell? ⟨n11, 1, none⟩ = some (.int .i64 m)) (ds := [11]) #[false, false, false, false, false, false, false, false, false, false, false, false] (by kernel_rfl) rfl rfl ⟨(HS8.out.cells64 0 rfl).2.1, (blk_cell (HS8.out.blk 11 rfl) 0).trans rfl, (blk_cell (HS8.out.blk 11 rfl) 1).trans rfl⟩ (fun hHeld => ?_)
           have HS1 := Aside0.mk (HS8.out.drew)
           clear HS8
           generalize w8.drew = w9 at HS1 hHeld  ⊢
           refine pu_ 0 74 (bs_ 12 1) ?_; refine pu_ 1 75 (bs_ 12 3) ?_; refine pu_ 2 76 (bs_ 12 7) ?_; refine pu_ 3 77 (bs_ 12 15) ?_; refine pu_ 5 79 (bs_ 12 47) ?_; refine ta_ 4 78 (bs_ 12 63) hHeld ?_; refine ta_ 6 80 (bs_ 12 127) hHeld ?_
           refine one_ (i := 7) (N := (some 81)) (bs_ 12 255) rfl rfl (by kernel_rfl) (by decide) (fun K_ hK => ?_)
           obtain ⟨vb, hvb⟩ : ∃ v : Nat, w9.heap.size = v := ⟨_, rfl⟩
           refine made_ (v := .slice (some ⟨w9.heap.size, 0, none⟩) 1 1) (w1 := w9.alloc (.cells #[.int .i64 x, .int .i64 m] 63)) (by rfl) rfl (by go_simp) ?_
           have HS2 := Aside0.mk (HS1.out.alloc #[.int .i64 x, .int .i64 m] 63 hvb)
           clear HS1
           rw [hvb]
           clear hvb
           clear hHeld
           refine hK.out _ _ ⟨(HS2.out.cells64 0 rfl).2.1, (blk_cell (HS2.out.blk 11 rfl) 0).trans rfl, (blk_cell (HS2.out.blk 11 rfl) 1).trans rfl⟩ (fun hHeld => ?_)
           clear hK K_
           generalize w9.alloc (.cells #[.int .i64 x, .int .i64 m] 63) = w10 at HS2 hHeld  ⊢
           refine norm_ (a' := ?_) ?_ ?_
           rotate_left
           · show Act.put _ (some 81) _ = _
             simp only [Act.put, List.setIfInBounds_toArray, List.set_cons_zero, List.set_cons_succ, i64_w, i32_w]
             rfl
           refine one_ (i := 8) (N := (some 82)) (bs_ 12 511) rfl rfl (by kernel_rfl) (by decide) (fun K_ hK => ?_)
           refine goes_ Tryz.func34 (by kernel_rfl) rfl #[.slice Aw r0.waits.length cw, .int .i64 pl, .slice (some ⟨vb, 0, none⟩) 1 1] (by rfl) rfl rfl (by (try simp only [List.map_toArray, List.map_cons, List.map_nil]); first | done | rfl) ?_
           refine (insertO _ (.slice Aw r0.waits.length cw) r0.waits pl (x, m) vb (pl : Int) (HS2.out.rowX 2 rfl) HPL.out (by have := HOK0.out.len; omega) (HS2.out.blk 12 rfl) (fun h => HS2.out.apart 2 12 (by decide) rfl rfl _ h (by simp [blkC])) rfl).mono ?_
           rintro E w11 ⟨g_, c_, rfl, hrow, hgr, hown⟩
           have HS3 := Aside0.mk (HS2.out.rowTo 2 rfl hrow hgr hown)
           clear HS2
           clear hrow hgr hown
           refine ⟨_, rfl, ?_⟩
           clear hHeld
           refine hK.out _ _ ⟨(HS3.out.cells64 0 rfl).2.1, (blk_cell (HS3.out.blk 11 rfl) 0).trans rfl, (blk_cell (HS3.out.blk 11 rfl) 1).trans rfl⟩ (fun hHeld => ?_)
           clear hK K_
           refine norm_ (a' := ?_) ?_ ?_
           rotate_left
           · show Act.put _ (some 82) _ = _
             simp only [Act.put, List.setIfInBounds_toArray, List.set_cons_zero, List.set_cons_succ, i64_w, i32_w]
             rfl
           refine pu_ 9 83 (bs_ 12 1023) ?_; refine pu_ 10 84 (bs_ 12 2047) ?_
           refine last_ (i := 11) (N := none) (bs_ 12 4095) rfl rfl (by kernel_rfl) (by decide) (fun K_ hK => ?_)
           have c_0 := (HS3.out.cells64 0 rfl).2.1
           have c_1 := (HS3.out.cells64 0 rfl).2.2
           refine skip_ (w1 := ?_) (by rfl) rfl ?_ ?_
           rotate_left
           · go_simp
             rfl
           refine hK.out _ _ ?_
           clear hK K_ hHeld c_0 c_1
           refine done_ (by kernel_rfl) ?_
           have HS4 := Aside0.mk (HS3.out.put64b 0 rfl (.slice (some ⟨g_, 0, none⟩) (r0.waits.length + 1) c_))
           clear HS3
           generalize w11.setCell ⟨mm.p, 1, none⟩ (.slice (some ⟨g_, 0, none⟩) (r0.waits.length + 1) c_) = w12 at HS4 ⊢
           go_wp2
           refine start_ (n := 8) (S := fun w' => w'.cell? ⟨M.lp, 1, none⟩ = some (.map (some M1.b2)) ∧ w'.cell? ⟨n5, 0, none⟩ = some (.int .i64 t.f0) ∧ w'.cell? ⟨n5, 1, none⟩ = some (.string t.f1) ∧ w'.cell? ⟨n5, 2, none⟩ = some (.string t.f2)) (ds := [7]) #[false, false, false, false, false, false, false, false] (by kernel_rfl) rfl rfl ⟨(HLP.out ▸ (HS4.out.lpAt 3 rfl).2.1), (blk_cell (HS4.out.blk 9 rfl) 0).trans rfl, (blk_cell (HS4.out.blk 9 rfl) 1).trans rfl, (blk_cell (HS4.out.blk 9 rfl) 2).trans rfl⟩ (fun hHeld => ?_)
           have HS5 := Aside0.mk (HS4.out.drew)
           clear HS4
           generalize w12.drew = w12' at HS5 hHeld  ⊢
           refine pu_ 0 85 (bs_ 8 1) ?_; refine pu_ 1 86 (bs_ 8 3) ?_; refine pu_ 2 87 (bs_ 8 7) ?_; refine pu_ 4 89 (bs_ 8 23) ?_; refine pu_ 5 90 (bs_ 8 55) ?_; refine ta_ 3 88 (bs_ 8 63) hHeld ?_; refine ta_ 6 91 (bs_ 8 127) hHeld ?_
           refine last_ (i := 7) (N := none) (bs_ 8 255) rfl rfl (by kernel_rfl) (by decide) (fun K_ hK => ?_)
           obtain ⟨w13, hrun, hmap, hg⟩ := (HS5.out.mapAt (K := K3) (n := M1.n2) (f := waitF M1.wt) 5 rfl).update (f' := waitF (upd s.waits x (some t))) Tryz.underlying53 (by have := HTOT1.out; have := HTOT.out; simp only [LM.tot] at *; simp only [maxLen]; omega) (show K3.wf x from HX.out) (thgV t) (by simp [waitF, upd_same]) (fun y hy => by simp [waitF, upd_other hy, HREP1.out.ww])
           refine update_ (.tmp 88) (.tmp 89) (.tmp 91) 53 (by rfl) rfl rfl _ _ _ (by rfl) (by rfl) (by rfl) hrun ?_
           have HS6 := Aside0.mk (HS5.out.mapTo 5 rfl hmap hg)
           clear HS5
           clear hrun hmap hg
           refine hK.out _ _ ?_
           clear hK K_ hHeld
           refine done_ (by kernel_rfl) ?_
           go_wp2
           rw [← HR.out]
           have hq := HQ.out
           rw [HASK.out] at hq
           have h9 : St w F w13 (row3 mm.p mm.hv (.slice (some ⟨g_, 0, none⟩) (r0.waits.length + 1) c_) ⟨r0.holds, r0.waits.take pl ++ (x, m) :: r0.waits.drop pl⟩ ++ lkO { M1 with wt := upd s.waits x (some t), n2 := M1.n2 + 1 } (X ++ Y) M1.hs ++ [_, _, _, _]) := HS6.out
           have h10 := St.closeR (m := ⟨mm.t, mm.p, mm.hv, .slice (some ⟨g_, 0, none⟩) (r0.waits.length + 1) c_, ⟨r0.holds, r0.waits.take pl ++ (x, m) :: r0.waits.drop pl⟩⟩) h9
           have h11 := lk_setR (M := { M1 with wt := upd s.waits x (some t), n2 := M1.n2 + 1 }) (m' := ⟨mm.t, mm.p, mm.hv, .slice (some ⟨g_, 0, none⟩) (r0.waits.length + 1) c_, ⟨r0.holds, r0.waits.take pl ++ (x, m) :: r0.waits.drop pl⟩⟩) HE.out rfl rfl
           rw [h11] at h10
           have hrep := (HREP1.out.setR HE.out mm.hv (.slice (some ⟨g_, 0, none⟩) (r0.waits.length + 1) c_) ⟨r0.holds, r0.waits.take pl ++ (x, m) :: r0.waits.drop pl⟩).setW (upd s.waits x (some t)) (M1.n2 + 1)
           rw [HMT.out] at hrep h10
           refine ⟨{ M1 with rs := X ++ ⟨t, mm.p, mm.hv, .slice (some ⟨g_, 0, none⟩) (r0.waits.length + 1) c_, ⟨r0.holds, r0.waits.take pl ++ (x, m) :: r0.waits.drop pl⟩⟩ :: Y, wt := upd s.waits x (some t), n2 := M1.n2 + 1 }, by unfold AskE; rw [← hq.2.1, ← hq.2.2]; rfl, by rw [← hq.1]; exact hrep, HLP.out, by have := HTOT1.out; simp only [LM.tot] at *; omega, ?_⟩
           exact St.left (A := lk _) h10
end Go.Proofs.Kb
end
section
namespace Go.Proofs.Lk
section
variable {α : Type} [DecidableEq α]
def waitAt (r : LRow) (x : Int) : Option (Nat × One) := (r.waits.findIdx? fun o => o.1 == x).bind fun i => (r.waits[i]?).map fun o => (i, o)
def blockS (srt : List Int → List Int) (s : LS α) (x : Int) : List Int := match s.waits x with
 | none => []
 | some t => match waitAt (s.rows t) x with
   | none => []
   | some (i, o) => srt (rawB (s.rows t) o i)
variable {hadd : List α → α → List α} {fits : α → Bool} (ha : ∀ ls x y, y ∈ hadd ls x ↔ y = x ∨ y ∈ ls) {srt : List Int → List Int} (hs : ∀ l x, x ∈ srt l ↔ x ∈ l)
include hs
theorem block_pres {s : LS α} {x y : Int} (hy : y ∈ blockS srt s x) : (∃ t, pres s t y) ∧ y ≠ x := by
 unfold blockS at hy
 cases hw : s.waits x with
 | none => rw [hw] at hy; cases hy
 | some t =>
   rw [hw] at hy
   dsimp only at hy
   cases hq : waitAt (s.rows t) x with
   | none => rw [hq] at hy; cases hy
   | some p =>
     obtain ⟨i, o⟩ := p
     rw [hq] at hy
     have hy : y ∈ srt (rawB (s.rows t) o i) := hy
     rw [hs] at hy
     have hox : o.1 = x := by
       unfold waitAt at hq
       cases hf : (s.rows t).waits.findIdx? (fun o => o.1 == x) with
       | none => rw [hf] at hq; cases hq
       | some j =>
         rw [hf] at hq
         obtain ⟨hj, h2, _⟩ := List.findIdx?_eq_some_iff_getElem.1 hf
         simp [List.getElem?_eq_getElem hj] at hq
         rw [← hq.2]
         simpa using h2
     obtain ⟨w, hw2, rfl, h2, _⟩ := mem_rawB.1 hy
     refine ⟨⟨t, ?_⟩, by rw [← hox]; exact h2⟩
     rcases List.mem_append.1 hw2 with hw2 | hw2
     · exact .inl (has_iff.2 ⟨w, hw2, rfl⟩)
     · exact .inr (has_iff.2 ⟨w, List.mem_of_mem_take hw2, rfl⟩)
end
end Go.Proofs.Lk
end
section
namespace Go.Proofs.Kb
open Go Go.RowKit Go.Proofs.YtkcjcdkmdooofaaGreat.Q Go.Proofs.YtkcjcdkmdooofaaGreatW.PrintWords Go.Proofs.YtkcjcdkmdooofaaGreatW.PrintLast Go.Proofs.YtkcjcdkmdooofaaGreatW.PrintMore
set_option maxRecDepth 100000
open Go.Proofs.Lk Go.Proofs.Mp
def Blockers16 (w : World) (F : Nat → Prop) (M : LM) (s : LS S32) (x : Int) (E : Ending) (w' : World) : Prop :=
 ∃ M' v, E = .returned v ∧ Rep M' s ∧ M'.lp = M.lp ∧ M'.tot ≤ M.tot + 10 ∧ St w F w' (lk M' ++ [rowIC v (blockS srtI s x)])
set_option maxHeartbeats 4000000 in
theorem lblockers_calls (w : World) (M : LM) (s : LS S32) (x : Int) (F : Nat → Prop) (N : Nat) (hs : St w F w (lk M)) (hr : Rep M s) (hI : LInv s) (hx : wfI x) (hok : OkS N s) (hn : M.tot < 4000000000000000000) :
   Calls Tryz.prog 19 #[lpV M, .int .i64 x] w (Blockers16 w F M s x) := by
 obtain ⟨R, hR⟩ : ∃ R, Blockers16 w F M s x = R := ⟨_, rfl⟩
 have HR := Aside0.mk hR
 rw [hR]
 have hu55 := Tryz.underlying52
 have hu56 := Tryz.underlying53
 have hu59 := Tryz.underlying56
 have hu64 := Tryz.underlying67
 have hu62 := Tryz.underlying65
 have hu66 := Tryz.underlying63
 have hu29 := Tryz.underlying32
 have hz29 := Tryz.sizeOf32
 obtain ⟨c0, c1, c2, hlp⟩ := hs.lpAt 0 rfl
 have hlk := lookW (R := []) hs hr hx
 unfold lpV
 cases hw : s.waits x with
 | none =>
   rw [hw] at hlk
   simp only [Option.map, Option.getD, Option.isSome] at hlk
   have HS := Aside0.mk (hs.alloc #[.int .i64 0, .string ⟨#[]⟩, .string ⟨#[]⟩] 32 rfl)
   have HREP := Aside0.mk hr
   have HW := Aside0.mk hw
   clear hR hs hr hI hx hok hn hw
   go_enter Tryz.func19, Tryz.ntmps19
   go_wp2
   all_goals (first | (rw [← HR.out]) | (go_ret; rw [← HR.out]))
   have e : blockS srtI s x = [] := by unfold blockS; rw [HW.out]
   refine ⟨M, .slice none 0 0, rfl, HREP.out, rfl, by omega, ?_⟩
   rw [e]
   have h1 := St.fresh (St.left (A := lk M) HS.out) (Below.refl _ _) (rowIC (.slice none 0 0) []) RowX.nil (nd_bl (.slice none 0 0)) (fun b hb => by simp [rowXC, bl] at hb; cases hb)
   exact h1.perm (perm_ix _ [1, 2, 3, 4, 5, 6, 0] 7 rfl (by decide))
 | some t =>
   rw [hw] at hlk
   simp only [Option.map, Option.getD, Option.isSome, thgV] at hlk
   have htw := hok.wt x t hw
   obtain ⟨r0, hr0⟩ : ∃ r0, s.rows t = r0 := ⟨_, rfl⟩
   have hok0 : OkR r0 := hr0 ▸ hok.rows t
   have hha : has r0.waits x = true := hr0 ▸ (hI.ww x t).1 hw
   obtain ⟨i, hfi⟩ : ∃ i, r0.waits.findIdx? (isT x) = some i := by
     cases hc : r0.waits.findIdx? (isT x) with
     | some i => exact ⟨i, rfl⟩
     | none =>
       have := (idx_neg r0.waits x).1 (by unfold idxI; rw [hc]; decide)
       rw [this] at hha
       cases hha
   have hil := (List.findIdx?_eq_some_iff_getElem.1 hfi).1
   have hij : idxI r0.waits (isT x) = i := by unfold idxI; rw [hfi]
   obtain ⟨⟨a, b⟩, ho⟩ : ∃ o, r0.waits[i]? = some o := ⟨_, List.getElem?_eq_getElem hil⟩
   have hbl : blockS srtI s x = srtI (rawB r0 (a, b) i) := by
     unfold blockS waitAt
     rw [hw]
     dsimp only
     rw [hr0]
     change (match (r0.waits.findIdx? (isT x)).bind fun i => (r0.waits[i]?).map fun o => (i, o) with | none => [] | some (i, o) => srtI (rawB r0 o i)) = _
     rw [hfi]
     dsimp only [Option.bind]
     rw [ho]
     rfl
   have hile : i ≤ r0.waits.length := by omega
   obtain ⟨nw, hnw⟩ : ∃ n, r0.waits.length = n := ⟨_, rfl⟩
   rw [hnw] at hil
   have hi0 : (0 : Int) ≤ (i : Int) := by omega
   have hi1 : (i : Int) < (nw : Int) := by omega
   have hi9 : (i : Int) ≤ 1000000 := by have := hok0.len; omega
   obtain ⟨n0, hn0⟩ : ∃ n, w.heap.size = n := ⟨_, rfl⟩
   have hs0 := hs.alloc #[.int .i64 t.f0, .string t.f1, .string t.f2] 32 hn0
   obtain ⟨W0, hW0⟩ : ∃ W0, w.alloc (.cells #[.int .i64 t.f0, .string t.f1, .string t.f2] 32) = W0 := ⟨_, rfl⟩
   rw [hW0] at hs0
   have g0 := (blk_cell (hs0.blk 6 rfl) 0).trans rfl
   have g1 := (blk_cell (hs0.blk 6 rfl) 1).trans rfl
   have g2 := (blk_cell (hs0.blk 6 rfl) 2).trans rfl
   have h05 := lt_of_some (hs0.blk 6 rfl)
   have A28 := Aside0.mk (row_fr (t := t) hs0 hr htw (by simp only [LM.tot] at *; simp only [maxLen]; omega))
   unfold lpV thgV at A28
   have A29 := Aside0.mk (fun W p hv wv (h : RowH W p hv wv r0) => wait_calls W p hv wv r0 x h (by have := hok0.len; omega))
   rw [hij] at A29
   have A30 := Aside0.mk (fun W p hv wv (h : RowH W p hv wv r0) => blockers_calls W p hv wv r0 (a, b) i h hile (by have := hok0.len; omega))
   unfold ptr at A29
   unfold ptr oneV at A30
   have HBL := Aside0.mk hbl
   have HIL := Aside0.mk hil
   have HNW := Aside0.mk hnw
   have HR0 := Aside0.mk hr0
   have HO := Aside0.mk ho
   have G1 : True := trivial
   have G2 : True := trivial
   clear hR hs hr hI hx hok hok0 hr0 hnw hn hw htw hha hfi hil hij ho hbl hile hs0
   go_enter Tryz.func19, Tryz.ntmps19
   go_wp2_with (first
     | (clear G1; go_at_call 28; refine A28.out.mono ?_; rintro E w2 ⟨M1, X, m, Y, rfl, k1, k2, k3, k4, k5, k6⟩; have HE := Aside0.mk k1; have HREP1 := Aside0.mk k3; have HLP := Aside0.mk k4; have HTOT := Aside0.mk k5; have HS1 := Aside0.mk k6; have hrow : RowH w2 m.p m.hv m.wv m.r := ((k6.get 4 rfl : ∀ y ∈ M1.rs, RowH w2 y.p y.hv y.wv y.r) m (k1 ▸ mem_mid.2 (.inl rfl))); have hmr : m.r = r0 := ((k2 ▸ k3.rr m (k1 ▸ mem_mid.2 (.inl rfl)) : m.r = s.rows t).trans HR0.out); rw [hmr] at hrow; have HROW := Aside0.mk hrow; clear hrow hmr k1 k2 k3 k4 k5 k6 c0 c1 c2 hlp g0 g1 g2 h05 hlk A28; unfold ptr)
     | (clear G2; go_at_call 43; refine (A29.out _ _ _ _ HROW.out).mono ?_; rintro E w3 ⟨rfl, hb⟩; have HS2 := Aside0.mk (HS1.out.below hb); have hrow := HROW.out.below hb; clear hb HS1; obtain ⟨g, c, hwv, _⟩ := (show RowX oneE _ m.wv r0.waits from hrow.waits).fill (by have := HIL.out; rw [HNW.out]; omega); rw [hwv, HNW.out] at hrow; have hr1 := hrow.c1; have hpl := World.block_lt_of_cell? _ _ hr1; obtain ⟨d0, d1⟩ := (show RowX oneE _ (.slice (some ⟨g, 0, none⟩) nw c) r0.waits from hrow.waits).ones HO.out; have hgl := World.block_lt_of_cell? _ _ d0; have HROW2 := Aside0.mk hrow; clear hrow hwv)
     | (go_at_call 33; refine (A30.out _ _ _ _ HROW2.out).mono ?_; rintro E w4 ⟨v, rfl, k⟩; have HS3 := Aside0.mk (St.call0 HS2.out k); clear k d0 d1 hr1 hpl hgl))
   rw [← HR.out]
   refine ⟨M1, v, rfl, HREP1.out, HLP.out, by have := HTOT.out; omega, ?_⟩
   rw [HBL.out]
   have h1 := HS3.out.perm (B := lk M1 ++ [rowIC v (srtI (rawB r0 (a, b) i))] ++ [_]) (perm_ix _ [1, 2, 3, 4, 5, 6, 0, 7] 8 rfl (by decide))
   exact St.left (A := lk M1 ++ [rowIC v _]) h1
def modeD (s : LS S32) (x : Int) (t : S32) : Int := (modeOf (s.rows t) x).getD 0
set_option maxHeartbeats 4000000 in
theorem mode_calls (w : World) (M : LM) (s : LS S32) (x : Int) (t : S32) (F : Nat → Prop) (N : Nat) (hs : St w F w (lk M)) (hr : Rep M s) (ht : wfT t) (hok : OkS N s) :
   Calls Tryz.prog 21 #[lpV M, .int .i64 x, thgV t] w fun E w' => E = .returned (.int .i64 (modeD s x t)) ∧ St w F w' (lk M) := by
 obtain ⟨D, hD⟩ : ∃ D, modeD s x t = D := ⟨_, rfl⟩
 rw [hD]
 obtain ⟨R, hR⟩ : ∃ R, (fun E w' => E = Ending.returned (.int .i64 D) ∧ St w F w' (lk M)) = R := ⟨_, rfl⟩
 have HR := Aside0.mk hR
 rw [hR]
 have hu55 := Tryz.underlying52
 have hu59 := Tryz.underlying56
 have hu64 := Tryz.underlying67
 have hu62 := Tryz.underlying65
 have hu66 := Tryz.underlying63
 have hu29 := Tryz.underlying32
 have HD := Aside0.mk hD
 obtain ⟨n0, hn0⟩ : ∃ n, w.heap.size = n := ⟨_, rfl⟩
 obtain ⟨W0, hW0⟩ : ∃ W0, w.alloc (.cells #[.int .i64 t.f0, .string t.f1, .string t.f2] 32) = W0 := ⟨_, rfl⟩
 have HS0 := Aside0.mk (hs.alloc #[.int .i64 t.f0, .string t.f1, .string t.f2] 32 hn0)
 rw [hW0] at HS0
 have HREP := Aside0.mk hr
 have HT := Aside0.mk (show K32.wf t from ht)
 have HOK := Aside0.mk (hok.rows t)
 clear hR hs hr ht hok hD
 cases hf : rowsF M.rs t with
 | none =>
   have HF := Aside0.mk hf
   have e : D = 0 := by
     rw [← HD.out]
     unfold modeD
     rw [HREP.out.ro t (assoc_none.1 hf)]
     rfl
   subst e
   clear hf
   unfold lpV thgV
   show Calls Tryz.prog 21 #[.pointer (some ⟨M.lp, 0, none⟩), .int .i64 x, .agg #[.int .i64 t.f0, .string t.f1, .string t.f2]] w R
   go_enter Tryz.func21, Tryz.ntmps21
   go_wp2
   refine start_ (n := 11) (S := fun w' => w'.cell? ⟨M.lp, 0, none⟩ = some (.map (some M.b1)) ∧ MapV K32 w' M.b1 M.n1 (rowsF M.rs) ∧ w'.cell? ⟨n0, 0, none⟩ = some (.int .i64 t.f0) ∧ w'.cell? ⟨n0, 1, none⟩ = some (.string t.f1) ∧ w'.cell? ⟨n0, 2, none⟩ = some (.string t.f2)) (ds := []) #[false, false, false, false, false, false, false, false, false, false, false] (by kernel_rfl) rfl rfl ⟨(HS0.out.lpAt 0 rfl).1, HS0.out.mapAt 1 rfl, (blk_cell (HS0.out.blk 6 rfl) 0).trans rfl, (blk_cell (HS0.out.blk 6 rfl) 1).trans rfl, (blk_cell (HS0.out.blk 6 rfl) 2).trans rfl⟩ (fun hHeld => ?_)
   have HS1 := Aside0.mk (HS0.out.drew)
   clear HS0
   generalize W0.drew = w1 at HS1 hHeld  ⊢
   refine pu_ 0 11 (bs_ 11 1) ?_; refine pu_ 1 12 (bs_ 11 3) ?_; refine pu_ 2 13 (bs_ 11 7) ?_; refine ta_ 3 14 (bs_ 11 15) hHeld ?_; refine ta_ 4 15 (bs_ 11 31) hHeld ?_; refine ta_ 5 16 (bs_ 11 63) hHeld ?_ (hy := by rintro w' ⟨s0, s1, s2, s3, s4⟩; have hlk := s1.lookup2 Tryz.underlying52 (zero60 w') HT.out; rw [HF.out] at hlk; simp only [K32, thgV, Option.getD, Option.isSome, ptr] at hlk; go_simp; with_reducible rfl); refine pu_ 6 10 (bs_ 11 127) ?_; refine pu_ 7 17 (bs_ 11 255) ?_; refine pu_ 8 18 (bs_ 11 511) ?_; refine pu_ 9 7 (bs_ 11 1023) ?_; refine pu_ 10 8 (bs_ 11 2047) ?_
   refine done_ (by kernel_rfl) ?_
   go_wp2
   rw [← HR.out]
   exact ⟨rfl, St.left (A := lk M) HS1.out⟩
 | some u =>
   obtain ⟨X, m, Y, e, hmt, rfl⟩ := assoc_some hf
   have HF := Aside0.mk hf
   have hmr : m.r = s.rows t := hmt ▸ HREP.out.rr m (e ▸ mem_mid.2 (.inl rfl))
   obtain ⟨r0, hr0⟩ : ∃ r0, s.rows t = r0 := ⟨_, rfl⟩
   rw [hr0] at hmr
   rw [hr0] at HOK
   have hrow : ∀ {W : World} {L : List Chunk}, St w F W (lk M ++ L) → RowH W m.p m.hv m.wv r0 := fun h => hmr ▸ ((h.get 4 rfl : ∀ y ∈ M.rs, RowH _ y.p y.hv y.wv y.r) m (e ▸ mem_mid.2 (.inl rfl)))
   have A33 := Aside0.mk (fun W hv wv (h : RowH W m.p hv wv r0) => hold_calls W m.p hv wv r0 x h (by have := HOK.out.len; omega))
   unfold ptr at A33
   have HROW := Aside0.mk @hrow
   have hde : D = (modeOf r0 x).getD 0 := by rw [← HD.out, ← hr0]; rfl
   clear hf e hmt hmr hrow
   cases hmo : modeOf r0 x with
   | none =>
     rw [hmo] at hde
     have e0 : D = 0 := hde
     subst e0
     have hij : idxI r0.holds (isT x) = -1 := by unfold idxI; rw [modeOf_none hmo]
     rw [hij] at A33
     clear hmo hij hde
     unfold lpV thgV
     show Calls Tryz.prog 21 #[.pointer (some ⟨M.lp, 0, none⟩), .int .i64 x, .agg #[.int .i64 t.f0, .string t.f1, .string t.f2]] w R
     go_enter Tryz.func21, Tryz.ntmps21
     go_wp2
     refine start_ (n := 11) (S := fun w' => w'.cell? ⟨M.lp, 0, none⟩ = some (.map (some M.b1)) ∧ MapV K32 w' M.b1 M.n1 (rowsF M.rs) ∧ w'.cell? ⟨n0, 0, none⟩ = some (.int .i64 t.f0) ∧ w'.cell? ⟨n0, 1, none⟩ = some (.string t.f1) ∧ w'.cell? ⟨n0, 2, none⟩ = some (.string t.f2)) (ds := []) #[false, false, false, false, false, false, false, false, false, false, false] (by kernel_rfl) rfl rfl ⟨(HS0.out.lpAt 0 rfl).1, HS0.out.mapAt 1 rfl, (blk_cell (HS0.out.blk 6 rfl) 0).trans rfl, (blk_cell (HS0.out.blk 6 rfl) 1).trans rfl, (blk_cell (HS0.out.blk 6 rfl) 2).trans rfl⟩ (fun hHeld => ?_)
     have HS1 := Aside0.mk (HS0.out.drew)
     clear HS0
     generalize W0.drew = w1 at HS1 hHeld  ⊢
     refine pu_ 0 11 (bs_ 11 1) ?_; refine pu_ 1 12 (bs_ 11 3) ?_; refine pu_ 2 13 (bs_ 11 7) ?_; refine ta_ 3 14 (bs_ 11 15) hHeld ?_; refine ta_ 4 15 (bs_ 11 31) hHeld ?_; refine ta_ 5 16 (bs_ 11 63) hHeld ?_ (hy := by rintro w' ⟨s0, s1, s2, s3, s4⟩; have hlk := s1.lookup2 Tryz.underlying52 (zero60 w') HT.out; rw [HF.out] at hlk; simp only [K32, thgV, Option.getD, Option.isSome, ptr] at hlk; go_simp; with_reducible rfl); refine pu_ 6 10 (bs_ 11 127) ?_; refine pu_ 7 17 (bs_ 11 255) ?_; refine pu_ 8 18 (bs_ 11 511) ?_; refine pu_ 9 7 (bs_ 11 1023) ?_; refine pu_ 10 8 (bs_ 11 2047) ?_
     refine done_ (by kernel_rfl) ?_
     clear hHeld
     go_wp2_with (go_at_call 29; refine (A33.out _ _ _ (HROW.out HS1.out)).mono ?_; rintro E w2 ⟨rfl, hb⟩; have HS2 := Aside0.mk (HS1.out.below hb); clear hb)
     rw [← HR.out]
     exact ⟨rfl, St.left (A := lk M) HS2.out⟩
   | some h =>
     rw [hmo] at hde
     have e0 : D = h := hde
     subst e0
     obtain ⟨i, hf1, hf2⟩ := modeOf_some hmo
     have hij : idxI r0.holds (isT x) = i := by unfold idxI; rw [hf1]
     rw [hij] at A33
     have hil := (List.getElem?_eq_some_iff.1 hf2).1
     obtain ⟨nh, hnh⟩ : ∃ n, r0.holds.length = n := ⟨_, rfl⟩
     rw [hnh] at hil
     have hi0 : (0 : Int) ≤ (i : Int) := by omega
     have hi1 : (i : Int) < (nh : Int) := by omega
     have HNH := Aside0.mk hnh
     have HIL := Aside0.mk hil
     have HF2 := Aside0.mk hf2
     clear hmo hij hde hf1 hf2 hil hnh
     unfold lpV thgV
     show Calls Tryz.prog 21 #[.pointer (some ⟨M.lp, 0, none⟩), .int .i64 x, .agg #[.int .i64 t.f0, .string t.f1, .string t.f2]] w R
     go_enter Tryz.func21, Tryz.ntmps21
     go_wp2
     refine start_ (n := 11) (S := fun w' => w'.cell? ⟨M.lp, 0, none⟩ = some (.map (some M.b1)) ∧ MapV K32 w' M.b1 M.n1 (rowsF M.rs) ∧ w'.cell? ⟨n0, 0, none⟩ = some (.int .i64 t.f0) ∧ w'.cell? ⟨n0, 1, none⟩ = some (.string t.f1) ∧ w'.cell? ⟨n0, 2, none⟩ = some (.string t.f2)) (ds := []) #[false, false, false, false, false, false, false, false, false, false, false] (by kernel_rfl) rfl rfl ⟨(HS0.out.lpAt 0 rfl).1, HS0.out.mapAt 1 rfl, (blk_cell (HS0.out.blk 6 rfl) 0).trans rfl, (blk_cell (HS0.out.blk 6 rfl) 1).trans rfl, (blk_cell (HS0.out.blk 6 rfl) 2).trans rfl⟩ (fun hHeld => ?_)
     have HS1 := Aside0.mk (HS0.out.drew)
     clear HS0
     generalize W0.drew = w1 at HS1 hHeld  ⊢
     refine pu_ 0 11 (bs_ 11 1) ?_; refine pu_ 1 12 (bs_ 11 3) ?_; refine pu_ 2 13 (bs_ 11 7) ?_; refine ta_ 3 14 (bs_ 11 15) hHeld ?_; refine ta_ 4 15 (bs_ 11 31) hHeld ?_; refine ta_ 5 16 (bs_ 11 63) hHeld ?_ (hy := by rintro w' ⟨s0, s1, s2, s3, s4⟩; have hlk := s1.lookup2 Tryz.underlying52 (zero60 w') HT.out; rw [HF.out] at hlk; simp only [K32, thgV, Option.getD, Option.isSome, ptr] at hlk; go_simp; with_reducible rfl); refine pu_ 6 10 (bs_ 11 127) ?_; refine pu_ 7 17 (bs_ 11 255) ?_; refine pu_ 8 18 (bs_ 11 511) ?_; refine pu_ 9 7 (bs_ 11 1023) ?_; refine pu_ 10 8 (bs_ 11 2047) ?_
     refine done_ (by kernel_rfl) ?_
     clear hHeld
     go_wp2_with (go_at_call 29; refine (A33.out _ _ _ (HROW.out HS1.out)).mono ?_; rintro E w2 ⟨rfl, hb⟩; have hs2 := HS1.out.below hb; have HS2 := Aside0.mk hs2; have hrow := HROW.out hs2; clear hb; obtain ⟨g, c, hwv, _⟩ := (show RowX oneE _ m.hv r0.holds from hrow.holds).fill (by have := HIL.out; rw [HNH.out]; omega); rw [hwv, HNH.out] at hrow; have hr1 := hrow.c0; have hpl := World.block_lt_of_cell? _ _ hr1; obtain ⟨d0, d1⟩ := (show RowX oneE _ (.slice (some ⟨g, 0, none⟩) nh c) r0.holds from hrow.holds).ones HF2.out; have hgl := World.block_lt_of_cell? _ _ d0; clear hrow hwv hs2)
     rw [← HR.out]
     exact ⟨rfl, St.left (A := lk M) HS2.out⟩
end Go.Proofs.Kb
end
section
namespace Go.Proofs.Kb
open Go Go.RowKit Go.Proofs.YtkcjcdkmdooofaaGreat.Q Go.Proofs.YtkcjcdkmdooofaaGreatW.PrintWords Go.Proofs.YtkcjcdkmdooofaaGreatW.PrintLast Go.Proofs.YtkcjcdkmdooofaaGreatW.PrintMore
set_option maxRecDepth 100000
open Go.Proofs.Lk Go.Proofs.Mp
def heldE : EncT S75 := ⟨75, 3, fun h => [.int .i64 h.f0, .int .i64 h.f1, .bool h.f2], fun h => rfl, fun h u hu => by
 simp only [List.mem_cons, List.not_mem_nil, or_false] at hu
 rcases hu with rfl | rfl | rfl <;> rfl⟩
theorem held37_info : (Tryz.prog.info? 75).map (fun i => (i.zero, i.size, i.bytes)) = some (some (.agg #[.int .i64 0, .int .i64 0, .bool false]), 3, 24) := by kernel_rfl
noncomputable def heldI : InfoX Tryz.prog heldE 46 := Classical.choice (infoX_of Tryz.underlying46 held37_info (by simp [Value.cells, heldE]) (by decide) (by decide))
abbrev rowHC := rowXC heldE
theorem RowX.held {w : World} {g n c : Nat} {l : List S75} (h : RowX heldE w (.slice (some ⟨g, 0, none⟩) n c) l) {i : Nat} {x : S75} (hx : l[i]? = some x) :
   w.cell? ⟨g, i * 3, none⟩ = some (.int .i64 x.f0) ∧ w.cell? ⟨g, i * 3 + 1, none⟩ = some (.int .i64 x.f1) ∧ w.cell? ⟨g, i * 3 + 2, none⟩ = some (.bool x.f2) :=
 ⟨h.cell hx 0 (by decide) _ rfl, h.cell hx 1 (by decide) _ rfl, h.cell hx 2 (by decide) _ rfl⟩
def heldL (b : Bool) (l : List One) : List S75 := l.map fun o => ⟨o.1, o.2, b⟩
def stateL (r : LRow) : List S75 := heldL false r.holds ++ heldL true r.waits
theorem heldL_snoc {b : Bool} {l : List One} {i : Nat} {o : One} (h : l[i]? = some o) : heldL b (l.take (i + 1)) = heldL b (l.take i) ++ [⟨o.1, o.2, b⟩] := by
 unfold heldL
 rw [List.take_add_one, h]
 simp
def State14 (w : World) (F : Nat → Prop) (M : LM) (l : List S75) (E : Ending) (w' : World) : Prop := ∃ v, E = .returned v ∧ St w F w' (lk M ++ [rowHC v l])
set_option maxHeartbeats 4000000 in
theorem state_calls (w : World) (M : LM) (s : LS S32) (t : S32) (F : Nat → Prop) (N : Nat) (hs : St w F w (lk M)) (hr : Rep M s) (ht : wfT t) (hok : OkS N s) :
   Calls Tryz.prog 17 #[lpV M, thgV t] w (State14 w F M (stateL (s.rows t))) := by
 obtain ⟨r0, hr0⟩ : ∃ r0, s.rows t = r0 := ⟨_, rfl⟩
 rw [hr0]
 obtain ⟨R, hR⟩ : ∃ R, State14 w F M (stateL r0) = R := ⟨_, rfl⟩
 have HR := Aside0.mk hR
 rw [hR]
 have hu55 := Tryz.underlying52
 have hu59 := Tryz.underlying56
 have hu64 := Tryz.underlying67
 have hu62 := Tryz.underlying65
 have hu66 := Tryz.underlying63
 have hz66 := Tryz.sizeOf63
 have hu29 := Tryz.underlying32
 have hu37 := Tryz.underlying75
 have hu34 := Tryz.underlying46
 obtain ⟨n0, hn0⟩ : ∃ n, w.heap.size = n := ⟨_, rfl⟩
 obtain ⟨W0, hW0⟩ : ∃ W0, w.alloc (.cells #[.int .i64 t.f0, .string t.f1, .string t.f2] 32) = W0 := ⟨_, rfl⟩
 have HS0 := Aside0.mk (hs.alloc #[.int .i64 t.f0, .string t.f1, .string t.f2] 32 hn0)
 rw [hW0] at HS0
 have HREP := Aside0.mk hr
 have HT := Aside0.mk (show K32.wf t from ht)
 have hok0 := hok.rows t
 rw [hr0] at hok0
 have HOK := Aside0.mk hok0
 have HR0 := Aside0.mk hr0
 clear hR hs hr ht hok hr0 hok0
 cases hf : rowsF M.rs t with
 | none =>
   have HF := Aside0.mk hf
   have e : r0 = ⟨[], []⟩ := by
     rw [← HR0.out]
     exact HREP.out.ro t (assoc_none.1 hf)
   have HE := Aside0.mk e
   clear hf e
   unfold lpV thgV
   show Calls Tryz.prog 17 #[.pointer (some ⟨M.lp, 0, none⟩), .agg #[.int .i64 t.f0, .string t.f1, .string t.f2]] w R
   go_enter Tryz.func17, Tryz.ntmps17
   go_wp2
   refine start_ (n := 11) (S := fun w' => w'.cell? ⟨M.lp, 0, none⟩ = some (.map (some M.b1)) ∧ MapV K32 w' M.b1 M.n1 (rowsF M.rs) ∧ w'.cell? ⟨n0, 0, none⟩ = some (.int .i64 t.f0) ∧ w'.cell? ⟨n0, 1, none⟩ = some (.string t.f1) ∧ w'.cell? ⟨n0, 2, none⟩ = some (.string t.f2)) (ds := []) #[false, false, false, false, false, false, false, false, false, false, false] (by kernel_rfl) rfl rfl ⟨(HS0.out.lpAt 0 rfl).1, HS0.out.mapAt 1 rfl, (blk_cell (HS0.out.blk 6 rfl) 0).trans rfl, (blk_cell (HS0.out.blk 6 rfl) 1).trans rfl, (blk_cell (HS0.out.blk 6 rfl) 2).trans rfl⟩ (fun hHeld => ?_)
   have HS1 := Aside0.mk (HS0.out.drew)
   clear HS0
   generalize W0.drew = w1 at HS1 hHeld  ⊢
   refine pu_ 0 13 (bs_ 11 1) ?_; refine pu_ 1 14 (bs_ 11 3) ?_; refine pu_ 2 15 (bs_ 11 7) ?_; refine ta_ 3 16 (bs_ 11 15) hHeld ?_; refine ta_ 4 17 (bs_ 11 31) hHeld ?_; refine ta_ 5 18 (bs_ 11 63) hHeld ?_ (hy := by rintro w' ⟨s0, s1, s2, s3, s4⟩; have hlk := s1.lookup2 Tryz.underlying52 (zero60 w') HT.out; rw [HF.out] at hlk; simp only [K32, thgV, Option.getD, Option.isSome, ptr] at hlk; go_simp; with_reducible rfl); refine pu_ 6 12 (bs_ 11 127) ?_; refine pu_ 7 19 (bs_ 11 255) ?_; refine pu_ 8 20 (bs_ 11 511) ?_; refine pu_ 9 5 (bs_ 11 1023) ?_; refine pu_ 10 6 (bs_ 11 2047) ?_
   refine done_ (by kernel_rfl) ?_
   go_wp2
   rw [← HR.out, HE.out]
   have h1 := St.fresh (St.left (A := lk M) HS1.out) (Below.refl _ _) (rowHC (.slice none 0 0) []) RowX.nil (nd_bl (.slice none 0 0)) (fun b hb => by simp [rowXC, bl] at hb; cases hb)
   exact ⟨_, rfl, h1.perm (perm_ix _ [1, 2, 3, 4, 5, 6, 0] 7 rfl (by decide))⟩
 | some u =>
   obtain ⟨X, m, Y, e, hmt, rfl⟩ := assoc_some hf
   have HF := Aside0.mk hf
   have hmr : m.r = r0 := (hmt ▸ HREP.out.rr m (e ▸ mem_mid.2 (.inl rfl)) : m.r = s.rows t).trans HR0.out
   obtain ⟨Ah, ch, Aw, cw, hAH⟩ : ∃ Ah ch Aw cw, m.hv = .slice Ah r0.holds.length ch ∧ m.wv = .slice Aw r0.waits.length cw := by
     have h := ((HS0.out.get 4 rfl : ∀ y ∈ M.rs, RowH _ y.p y.hv y.wv y.r) m (e ▸ mem_mid.2 (.inl rfl)))
     rw [hmr] at h
     obtain ⟨A, c, h1⟩ := (show RowX oneE _ m.hv r0.holds from h.holds).form
     obtain ⟨A', c', h2⟩ := (show RowX oneE _ m.wv r0.waits from h.waits).form
     exact ⟨A, c, A', c', h1, h2⟩
   obtain ⟨nh, hnh⟩ : ∃ n, r0.holds.length = n := ⟨_, rfl⟩
   obtain ⟨nw, hnw⟩ : ∃ n, r0.waits.length = n := ⟨_, rfl⟩
   rw [hnh, hnw] at hAH
   have hrow : ∀ {W : World} {L : List Chunk}, St w F W (lk M ++ L) → RowH W m.p (.slice Ah nh ch) (.slice Aw nw cw) r0 := fun h => hAH.1 ▸ hAH.2 ▸ hmr ▸ ((h.get 4 rfl : ∀ y ∈ M.rs, RowH _ y.p y.hv y.wv y.r) m (e ▸ mem_mid.2 (.inl rfl)))
   have HROW := Aside0.mk @hrow
   have HNH := Aside0.mk hnh
   have HNW := Aside0.mk hnw
   have hbh : nh < 600 := by have := HOK.out.len; omega
   have hbw : nw < 600 := by have := HOK.out.len; omega
   clear hf e hmt hmr hrow hAH hnh hnw
   unfold lpV thgV
   show Calls Tryz.prog 17 #[.pointer (some ⟨M.lp, 0, none⟩), .agg #[.int .i64 t.f0, .string t.f1, .string t.f2]] w R
   go_enter Tryz.func17, Tryz.ntmps17
   go_wp2
   refine start_ (n := 11) (S := fun w' => w'.cell? ⟨M.lp, 0, none⟩ = some (.map (some M.b1)) ∧ MapV K32 w' M.b1 M.n1 (rowsF M.rs) ∧ w'.cell? ⟨n0, 0, none⟩ = some (.int .i64 t.f0) ∧ w'.cell? ⟨n0, 1, none⟩ = some (.string t.f1) ∧ w'.cell? ⟨n0, 2, none⟩ = some (.string t.f2)) (ds := []) #[false, false, false, false, false, false, false, false, false, false, false] (by kernel_rfl) rfl rfl ⟨(HS0.out.lpAt 0 rfl).1, HS0.out.mapAt 1 rfl, (blk_cell (HS0.out.blk 6 rfl) 0).trans rfl, (blk_cell (HS0.out.blk 6 rfl) 1).trans rfl, (blk_cell (HS0.out.blk 6 rfl) 2).trans rfl⟩ (fun hHeld => ?_)
   have HS1 := Aside0.mk (HS0.out.drew)
   clear HS0
   generalize W0.drew = w1 at HS1 hHeld  ⊢
   refine pu_ 0 13 (bs_ 11 1) ?_; refine pu_ 1 14 (bs_ 11 3) ?_; refine pu_ 2 15 (bs_ 11 7) ?_; refine ta_ 3 16 (bs_ 11 15) hHeld ?_; refine ta_ 4 17 (bs_ 11 31) hHeld ?_; refine ta_ 5 18 (bs_ 11 63) hHeld ?_ (hy := by rintro w' ⟨s0, s1, s2, s3, s4⟩; have hlk := s1.lookup2 Tryz.underlying52 (zero60 w') HT.out; rw [HF.out] at hlk; simp only [K32, thgV, Option.getD, Option.isSome, ptr] at hlk; go_simp; with_reducible rfl); refine pu_ 6 12 (bs_ 11 127) ?_; refine pu_ 7 19 (bs_ 11 255) ?_; refine pu_ 8 20 (bs_ 11 511) ?_; refine pu_ 9 5 (bs_ 11 1023) ?_; refine pu_ 10 6 (bs_ 11 2047) ?_
   refine done_ (by kernel_rfl) ?_
   clear hHeld
   have hrw := HROW.out HS1.out
   have c0 := hrw.c0
   have hpl := World.block_lt_of_cell? _ _ c0
   have HSA := Aside0.mk ((St.fresh (St.left (A := lk M) HS1.out) (Below.refl _ _) (rowHC (.slice none 0 0) []) RowX.nil (nd_bl (.slice none 0 0)) (fun b hb => by simp [rowXC, bl] at hb; cases hb)).perm (B := lk M ++ [rowHC (.slice none 0 0) []]) (perm_ix _ [1, 2, 3, 4, 5, 6, 0] 7 rfl (by decide)))
   clear hrw HS1
   go_wp2
   clear c0 hpl
   go_loopg [7, 9, 28] nh (fun gq v7 v9 v28 wx => ∃ (i : Nat) (A : Option Addr) (na c : Nat), v28 = .int .i64 i ∧ v7 = .slice A na c ∧ i + gq = nh ∧ Aside0 (na = i) ∧ Aside0 (St w F wx (lk M ++ [rowHC (.slice A na c) (heldL false (r0.holds.take i))])))
   case atStart => exact ⟨0, none, 0, 0, rfl, rfl, by omega, Aside0.mk rfl, HSA⟩
   case round =>
     clear HSA
     obtain ⟨i, A, na, c, rfl, rfl, hi, HNA, HS⟩ := hrel
     have hrw := HROW.out HS.out
     have c1 := hrw.c1
     have hpl := World.block_lt_of_cell? _ _ c1
     cases gk with
     | zero =>
       obtain rfl : i = nh := by omega
       have ht : r0.holds.take i = r0.holds := List.take_of_length_le (by rw [HNH.out]; exact Nat.le_refl _)
       rw [ht] at HS
       have HSB := Aside0.mk (show St w F wr (lk M ++ [rowHC (.slice A na c) (heldL false r0.holds ++ heldL true (r0.waits.take 0))]) by rw [List.take_zero]; show St w F wr (lk M ++ [rowHC (.slice A na c) (heldL false r0.holds ++ [])]); rw [List.append_nil]; exact HS.out)
       clear ht HS hrw
       go_wp2
       clear c1 hpl
       go_loopg [7, 11, 46] nw (fun gq v7 v11 v46 wx => ∃ (j : Nat) (A : Option Addr) (na c : Nat), v46 = .int .i64 j ∧ v7 = .slice A na c ∧ j + gq = nw ∧ Aside0 (na = i + j) ∧ Aside0 (St w F wx (lk M ++ [rowHC (.slice A na c) (heldL false r0.holds ++ heldL true (r0.waits.take j))])))
       case atStart => exact ⟨0, A, na, c, rfl, rfl, by omega, HNA, HSB⟩
       case round =>
         clear HSB
         obtain ⟨j, A, na, c, rfl, rfl, hj, HNA, HS⟩ := hrel
         cases gk with
         | zero =>
           obtain rfl : j = nw := by omega
           have ht : r0.waits.take j = r0.waits := List.take_of_length_le (by rw [HNW.out]; exact Nat.le_refl _)
           rw [ht] at HS
           clear ht
           go_wp2
           rw [← HR.out]
           exact ⟨_, rfl, HS.out⟩
         | succ gq =>
           have hin : j < nw := by omega
           have hin2 : (j : Int) < (nw : Int) := by omega
           have hi0 : (0 : Int) ≤ (j : Int) := by omega
           have hi9 : (j : Int) ≤ 1000000 := by omega
           obtain ⟨⟨a, b⟩, ho⟩ : ∃ o, r0.waits[j]? = some o := ⟨_, List.getElem?_eq_getElem (by rw [HNW.out]; exact hin)⟩
           have hrl : RowX oneE wr (.slice Aw nw cw) r0.waits := (HROW.out HS.out).waits
           obtain ⟨g1, c1, hv, _⟩ := row_slice hrl (by rw [HNW.out]; omega)
           obtain ⟨rfl, rfl⟩ : Aw = some ⟨g1, 0, none⟩ ∧ cw = c1 := by
             injection hv with e1 e2 e3
             exact ⟨e1, e3⟩
           obtain ⟨d0, d1⟩ := hrl.ones ho
           have hg1 : g1 < wr.heap.size := World.block_lt_of_cell? _ _ d0
           have HO := Aside0.mk ho
           have HSN := Aside0.mk (heldL_snoc (b := true) ho)
           have HLN := Aside0.mk (show (heldL false r0.holds ++ heldL true (r0.waits.take j)).length < 999999 by simp only [heldL, List.length_map, List.length_take, List.length_append]; have := HNH.out; have := HNW.out; omega)
           obtain ⟨n9, hn9⟩ : ∃ n, wr.heap.size = n := ⟨_, rfl⟩
           obtain ⟨W9, hW9⟩ : ∃ W, wr.alloc (.cells #[.int .i64 a, .int .i64 b] 63) = W := ⟨_, rfl⟩
           have hsa := HS.out.alloc #[.int .i64 a, .int .i64 b] 63 hn9
           rw [hW9] at hsa
           have f0 := (blk_cell (hsa.blk 7 rfl) 0).trans rfl
           have f1 := (blk_cell (hsa.blk 7 rfl) 1).trans rfl
           have f2 := lt_of_some (hsa.blk 7 rfl)
           obtain ⟨n10, hn10⟩ : ∃ n, W9.heap.size = n := ⟨_, rfl⟩
           have HSA := Aside0.mk (hsa.alloc #[.int .i64 a, .int .i64 b, .bool true] 75 hn10)
           clear ho hv hrl hsa
           go_wp2_with (at_builtin; obtain ⟨g2, c2, w6, hrun, hrow, hgrow, hown⟩ := appendX heldI (l := heldL false r0.holds ++ heldL true (r0.waits.take j)) (v := .slice A na c) ⟨a, b, true⟩ n10 #[.int .i64 a, .int .i64 b, .bool true] 46 (HSA.out.rowX 6 rfl) (HSA.out.blk 8 rfl) rfl HLN.out; have hs6 := HSA.out.rowTo 6 rfl hrow hgrow hown; obtain ⟨n2, hn2⟩ : ∃ n, (heldL false r0.holds ++ heldL true (r0.waits.take j)).length + 1 = n := ⟨_, rfl⟩; have hn3 : n2 = na + 1 := (by rw [← hn2]; simp only [heldL, List.length_map, List.length_take, List.length_append]; have := HNH.out; have := HNW.out; have := HNA.out; omega); rw [hn2, hn3] at hrun hs6; have HS6 := Aside0.mk hs6; refine wpList_append_run rfl (.tmp 50) (.tmp 56) 46 46 rfl _ _ rfl rfl hrun ?_; clear hrun hrow hgrow hown hs6 hn2 hn3 d0 d1 hg1 f0 f1 f2)
           go_roundg gq
           case measure => omega
           case rel => exact ⟨j + 1, some ⟨g2, 0, none⟩, na + 1, c2, by go_num, rfl, by omega, Aside0.mk (by have := HNA.out; omega), Aside0.mk (by rw [HSN.out, ← List.append_assoc]; exact St.left (A := lk M ++ [_]) HS6.out)⟩
     | succ gq =>
       clear c1 hpl hrw
       have hin : i < nh := by omega
       have hin2 : (i : Int) < (nh : Int) := by omega
       have hi0 : (0 : Int) ≤ (i : Int) := by omega
       have hi9 : (i : Int) ≤ 1000000 := by omega
       obtain ⟨⟨a, b⟩, ho⟩ : ∃ o, r0.holds[i]? = some o := ⟨_, List.getElem?_eq_getElem (by rw [HNH.out]; exact hin)⟩
       have hrl : RowX oneE wr (.slice Ah nh ch) r0.holds := (HROW.out HS.out).holds
       obtain ⟨g1, c1, hv, _⟩ := row_slice hrl (by rw [HNH.out]; omega)
       obtain ⟨rfl, rfl⟩ : Ah = some ⟨g1, 0, none⟩ ∧ ch = c1 := by
         injection hv with e1 e2 e3
         exact ⟨e1, e3⟩
       obtain ⟨d0, d1⟩ := hrl.ones ho
       have hg1 : g1 < wr.heap.size := World.block_lt_of_cell? _ _ d0
       have HO := Aside0.mk ho
       have HSN := Aside0.mk (heldL_snoc (b := false) ho)
       have HLN := Aside0.mk (show (heldL false (r0.holds.take i)).length < 999999 by simp only [heldL, List.length_map, List.length_take, List.length_append]; have := HNH.out; have := HNW.out; omega)
       obtain ⟨n9, hn9⟩ : ∃ n, wr.heap.size = n := ⟨_, rfl⟩
       obtain ⟨W9, hW9⟩ : ∃ W, wr.alloc (.cells #[.int .i64 a, .int .i64 b] 63) = W := ⟨_, rfl⟩
       have hsa := HS.out.alloc #[.int .i64 a, .int .i64 b] 63 hn9
       rw [hW9] at hsa
       have f0 := (blk_cell (hsa.blk 7 rfl) 0).trans rfl
       have f1 := (blk_cell (hsa.blk 7 rfl) 1).trans rfl
       have f2 := lt_of_some (hsa.blk 7 rfl)
       obtain ⟨n10, hn10⟩ : ∃ n, W9.heap.size = n := ⟨_, rfl⟩
       have HSA := Aside0.mk (hsa.alloc #[.int .i64 a, .int .i64 b, .bool false] 75 hn10)
       clear ho hv hrl hsa
       go_wp2_with (at_builtin; obtain ⟨g2, c2, w6, hrun, hrow, hgrow, hown⟩ := appendX heldI (l := heldL false (r0.holds.take i)) (v := .slice A na c) ⟨a, b, false⟩ n10 #[.int .i64 a, .int .i64 b, .bool false] 46 (HSA.out.rowX 6 rfl) (HSA.out.blk 8 rfl) rfl HLN.out; have hs6 := HSA.out.rowTo 6 rfl hrow hgrow hown; obtain ⟨n2, hn2⟩ : ∃ n, (heldL false (r0.holds.take i)).length + 1 = n := ⟨_, rfl⟩; have hn3 : n2 = na + 1 := (by rw [← hn2]; simp only [heldL, List.length_map, List.length_take, List.length_append]; have := HNH.out; have := HNW.out; have := HNA.out; omega); rw [hn2, hn3] at hrun hs6; have HS6 := Aside0.mk hs6; refine wpList_append_run rfl (.tmp 32) (.tmp 38) 46 46 rfl _ _ rfl rfl hrun ?_; clear hrun hrow hgrow hown hs6 hn2 hn3 d0 d1 hg1 f0 f1 f2)
       go_roundg gq
       case measure => omega
       case rel => exact ⟨i + 1, some ⟨g2, 0, none⟩, na + 1, c2, by go_num, rfl, by omega, Aside0.mk (by have := HNA.out; omega), Aside0.mk (by rw [HSN.out]; exact St.left (A := lk M ++ [_]) HS6.out)⟩
end Go.Proofs.Kb
end
section
namespace Go.Proofs.YtkcjcdkmdooofaaGreat.Q
open Go.RowKit Go.Proofs.YtkcjcdkmdooofaaGreatW.PrintWords Go.Proofs.YtkcjcdkmdooofaaGreatW.PrintLast Go.Proofs.YtkcjcdkmdooofaaGreatW.PrintMore
attribute [local go_sem] max2_int min2_int max_two min_two max_three min_three max_four min_four
def interlocklaw11_great.l0 : Nat → List (S36) → Int → Option (Bool)
 | 0, _, _ => none
 | k + 1, x0, x3 => if x3 < (x0.length : Int) then (if 0 ≤ x3 then (if (((rd_T36 x0 x3).f2.f0.f1).size : Int) > 100 then (some true) else (if (((rd_T36 x0 x3).f2.f0.f2).size : Int) > 100 then (some true) else (interlocklaw11_great.l0 k x0 (wrap64 (x3 + 1))))) else (none)) else (some false)
def interlocklaw11_great.f (k : Nat) (l0 : List (S36)) : Option (Bool) := if (l0.length : Int) > 120 then (some true) else (interlocklaw11_great.l0 k l0 0)
theorem interlocklaw11_great.mono_l : ∀ k, (∀ y0 y1, LeO (interlocklaw11_great.l0 k y0 y1) (interlocklaw11_great.l0 (k + 1) y0 y1))
 | 0 => fun _ _ r h => by simp [interlocklaw11_great.l0] at h
 | k + 1 => by
   have ih0 := interlocklaw11_great.mono_l k
   · intro y0 y1
     unfold interlocklaw11_great.l0
     repeat' first
     | (with_reducible exact ih0 _ _)
     | (with_reducible exact LeO.refl _)
     | (with_reducible exact LeO.none _)
     | (with_reducible refine LeO.ite ?_ ?_)
     | (with_reducible refine LeO.bind ?_ (fun _ => ?_))
     | exact ih0 _ _
     | exact LeO.none _
     | refine LeO.ite ?_ ?_
     | refine LeO.bind ?_ (fun _ => ?_)
theorem interlocklaw11_great.mono : ∀ a0 k, LeO (interlocklaw11_great.f k a0) (interlocklaw11_great.f (k + 1) a0) := by
 intro a0 k
 have ih0 := interlocklaw11_great.mono_l k
 unfold interlocklaw11_great.f
 repeat' first
     | (with_reducible exact ih0 _ _)
     | (with_reducible exact LeO.refl _)
     | (with_reducible exact LeO.none _)
     | (with_reducible refine LeO.ite ?_ ?_)
     | (with_reducible refine LeO.bind ?_ (fun _ => ?_))
     | exact ih0 _ _
     | exact LeO.none _
     | refine LeO.ite ?_ ?_
     | refine LeO.bind ?_ (fun _ => ?_)
set_option maxHeartbeats 8000000 in
set_option maxRecDepth 100000 in
theorem interlocklaw11_great.calls (k : Nat) (A0 : Option Addr) (c0 : Nat) (l0 : List (S36)) (r : Bool) (w : World) (hr0 : Kd.C k36 w A0 l0.length l0) (hc0 : l0.length ≤ c0) (h : interlocklaw11_great.f k l0 = some r) :
   Calls Tryz.prog 5 #[.slice A0 l0.length c0] w fun e w' => e = .returned (.bool r) ∧ Drawn0 w w' := by
 have HR0 := Aside0.mk hr0
 have HC0 := Aside0.mk hc0
 clear hr0 hc0
 have H : (if (l0.length : Int) > 120 then (some true) else (interlocklaw11_great.l0 k l0 0)) = some r := h
 clear h
 by_cases c2 : (l0.length : Int) > 120
 · rw [if_pos c2] at H
   have c2b0 : decide (120 < (l0.length : Int)) = true := decide_eq_true c2
   have c2b1 : decide (120 < l0.length) = true := decide_eq_true (by omega)
   clear c2
   obtain rfl := Option.some.inj H
   go_enter Tryz.func5, Tryz.ntmps5
   go_wp2
   go_ret
   exact ⟨by first | rfl | (simp; done) | (simp [*]; done), by repeat (first | exact Drawn0.refl _ | apply Drawn0.step)⟩
 · rw [if_neg c2] at H
   have c2b0 : decide (120 < (l0.length : Int)) = false := decide_eq_false c2
   have c2b1 : decide (120 < l0.length) = false := decide_eq_false (by omega)
   clear c2
   have H' := Aside0.mk H
   clear H
   go_enter Tryz.func5, Tryz.ntmps5
   go_wp2
   go_loopg [3] k (fun kq v3 w' => ∃ (x3_1 : Int), v3 = .int .i64 x3_1 ∧ Aside0 (interlocklaw11_great.l0 kq l0 x3_1 = some r) ∧ Aside0 (kq ≤ k) ∧ Drawn0 w w')
   case atStart => exact ⟨(0), (by first | rfl | (simp; done) | (simp [*]; done)), H', ⟨Nat.le_refl _⟩, by repeat (first | exact Drawn0.refl _ | apply Drawn0.step)⟩
   case round =>
     clear H'
     try clear c2
     try clear c2b0
     try clear c2b1
     try clear p2
     obtain ⟨x3_1, rfl, HA, HK1, ⟨m1, rfl⟩⟩ := hrel
     cases gk with
     | zero => exact absurd HA.out (by simp [interlocklaw11_great.l0])
     | succ k1 =>
       have H := HA.out
       clear HA
       simp only [interlocklaw11_great.l0] at H
       by_cases c3 : x3_1 < (l0.length : Int)
       · rw [if_pos c3] at H
         have c3b0 : decide (x3_1 < (l0.length : Int)) = true := decide_eq_true c3
         clear c3
         by_cases c4 : 0 ≤ x3_1
         · rw [if_pos c4] at H
           have c4b0 : decide (0 ≤ x3_1) = true := decide_eq_true c4
           clear c4
           by_cases c5 : (((rd_T36 l0 x3_1).f2.f0.f1).size : Int) > 100
           · rw [if_pos c5] at H
             have c5b0 : decide (100 < (((rd_T36 l0 x3_1).f2.f0.f1).size : Int)) = true := decide_eq_true c5
             have c5b1 : decide (100 < ((rd_T36 l0 x3_1).f2.f0.f1).size) = true := decide_eq_true (by omega)
             clear c5
             obtain rfl := Option.some.inj H
             have p336 : 0 ≤ (x3_1 : Int) := of_decide_eq_true (by first | (with_reducible assumption) | assumption)
             have q336 : x3_1 < (l0.length : Int) := of_decide_eq_true (by first | (with_reducible assumption) | assumption)
             obtain ⟨ad336, e336, hx336_0, hx336_1, hx336_2, hx336_3, hx336_4, hx336_5⟩ := at_T36 HR0.out x3_1 p336 q336
             cases e336
             replace p336 := eq_true p336
             replace q336 := eq_true q336
             go_wp2
             go_ret
             exact ⟨by first | rfl | (simp; done) | (simp [*]; done), by repeat (first | exact Drawn0.refl _ | apply Drawn0.step)⟩
           · rw [if_neg c5] at H
             have c5b0 : decide (100 < (((rd_T36 l0 x3_1).f2.f0.f1).size : Int)) = false := decide_eq_false c5
             have c5b1 : decide (100 < ((rd_T36 l0 x3_1).f2.f0.f1).size) = false := decide_eq_false (by omega)
             clear c5
             by_cases c6 : (((rd_T36 l0 x3_1).f2.f0.f2).size : Int) > 100
             · rw [if_pos c6] at H
               have c6b0 : decide (100 < (((rd_T36 l0 x3_1).f2.f0.f2).size : Int)) = true := decide_eq_true c6
               have c6b1 : decide (100 < ((rd_T36 l0 x3_1).f2.f0.f2).size) = true := decide_eq_true (by omega)
               clear c6
               obtain rfl := Option.some.inj H
               have p336 : 0 ≤ (x3_1 : Int) := of_decide_eq_true (by first | (with_reducible assumption) | assumption)
               have q336 : x3_1 < (l0.length : Int) := of_decide_eq_true (by first | (with_reducible assumption) | assumption)
               obtain ⟨ad336, e336, hx336_0, hx336_1, hx336_2, hx336_3, hx336_4, hx336_5⟩ := at_T36 HR0.out x3_1 p336 q336
               cases e336
               replace p336 := eq_true p336
               replace q336 := eq_true q336
               have p337 : 0 ≤ (x3_1 : Int) := of_decide_eq_true (by first | (with_reducible assumption) | assumption)
               have q337 : x3_1 < (l0.length : Int) := of_decide_eq_true (by first | (with_reducible assumption) | assumption)
               obtain ⟨ad337, e337, hx337_0, hx337_1, hx337_2, hx337_3, hx337_4, hx337_5⟩ := at_T36 HR0.out x3_1 p337 q337
               obtain rfl : ad336 = ad337 := (by injection e337)
               replace p337 := eq_true p337
               replace q337 := eq_true q337
               go_wp2
               go_ret
               exact ⟨by first | rfl | (simp; done) | (simp [*]; done), by repeat (first | exact Drawn0.refl _ | apply Drawn0.step)⟩
             · rw [if_neg c6] at H
               have c6b0 : decide (100 < (((rd_T36 l0 x3_1).f2.f0.f2).size : Int)) = false := decide_eq_false c6
               have c6b1 : decide (100 < ((rd_T36 l0 x3_1).f2.f0.f2).size) = false := decide_eq_false (by omega)
               clear c6
               have H' := Aside0.mk H
               clear H
               have p336 : 0 ≤ (x3_1 : Int) := of_decide_eq_true (by first | (with_reducible assumption) | assumption)
               have q336 : x3_1 < (l0.length : Int) := of_decide_eq_true (by first | (with_reducible assumption) | assumption)
               obtain ⟨ad336, e336, hx336_0, hx336_1, hx336_2, hx336_3, hx336_4, hx336_5⟩ := at_T36 HR0.out x3_1 p336 q336
               cases e336
               replace p336 := eq_true p336
               replace q336 := eq_true q336
               have p337 : 0 ≤ (x3_1 : Int) := of_decide_eq_true (by first | (with_reducible assumption) | assumption)
               have q337 : x3_1 < (l0.length : Int) := of_decide_eq_true (by first | (with_reducible assumption) | assumption)
               obtain ⟨ad337, e337, hx337_0, hx337_1, hx337_2, hx337_3, hx337_4, hx337_5⟩ := at_T36 HR0.out x3_1 p337 q337
               obtain rfl : ad336 = ad337 := (by injection e337)
               replace p337 := eq_true p337
               replace q337 := eq_true q337
               go_wp2
               go_roundg k1
               case measure => have := HK1.out; omega
               case rel => exact ⟨(wrap64 (x3_1 + 1)), (by first | rfl | (simp; done) | (simp [*]; done)), H', ⟨by have := HK1.out; omega⟩, by repeat (first | exact Drawn0.refl _ | apply Drawn0.step)⟩
         · rw [if_neg c4] at H
           exact absurd H (by simp)
       · rw [if_neg c3] at H
         have c3b0 : decide (x3_1 < (l0.length : Int)) = false := decide_eq_false c3
         clear c3
         obtain rfl := Option.some.inj H
         go_wp2
         go_ret
         exact ⟨by first | rfl | (simp; done) | (simp [*]; done), by repeat (first | exact Drawn0.refl _ | apply Drawn0.step)⟩
end Go.Proofs.YtkcjcdkmdooofaaGreat.Q
end
