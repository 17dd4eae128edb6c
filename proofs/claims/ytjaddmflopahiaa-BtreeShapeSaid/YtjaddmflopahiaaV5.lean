/- Packed by shake.py: YtjaddmflopahiaaC6 YtjaddmflopahiaaC7 YtjaddmflopahiaaC8 YtjaddmflopahiaaC9 YtjaddmflopahiaaD3 YtjaddmflopahiaaD1 YtjaddmflopahiaaD2 YtjaddmflopahiaaD4 YtjaddmflopahiaaD5 YtjaddmflopahiaaE1 -/
import Derived.RangeFuncNested
import Derived.RangeFuncBound
import Derived.RangeFuncCalls
import Derived.RangeFuncLeaves
import Derived.RangeFuncBox
import Derived.Shelf.Abstract
import Derived.WalkKit
import Derived.OwnWalkIn
import Derived.TacticsInMore
import Derived.LoopNIn
import Derived.LoopIn
import Derived.Test.YtjaddmflopahiaaV4
section
namespace Go.Proofs.Bt
open Go Go.RowKit Go.Proofs.Ytjaddmflopahiaa.Q Go.Proofs.YtjaddmflopahiaaW.PrintWords Go.Proofs.YtjaddmflopahiaaW.PrintLast Go.Proofs.YtjaddmflopahiaaW.PrintMore
set_option linter.unusedVariables false
set_option linter.unusedSimpArgs false
set_option maxRecDepth 100000
section
variable {w0 w w' : World} {F : Nat → Prop} {A B R : List Chunk}
theorem St.sub (s : St w0 F w (A ++ R)) : St w (fun b => b ∈ fpc A) w A :=
  St.start (fun c hc => s.h c (List.mem_append_left _ hc)) (by have := s.nd; rw [fpc_app] at this; exact (nd_app.1 this).1)
end
def two5 (p : Nat) (K C : Value) (ks : List S29) (ps : List Value) (h : Nat) (l c : MT h) : List Chunk := [nodeC p K C, rowEC K ks, rowPC C ps, treeC h l, treeC h c]
def one4 (p : Nat) (K C : Value) (ks : List S29) (ps : List Value) (h : Nat) (l : MT h) : List Chunk := [nodeC p K C, rowEC K ks, rowPC C ps, treeC h l]
theorem two5_leaf {w0 w : World} {F : Nat → Prop} {R : List Chunk} {p a b : Nat} {K C Ka Kb : Value} {ks ka kb : List S29} {ps : List Value} (s : St w0 F w (two5 p K C ks ps 0 (⟨a, Ka, ka⟩ : Leaf) (⟨b, Kb, kb⟩ : Leaf) ++ R)) :
    St w0 F w (par3 p K C ks ps a Ka (.slice none 0 0) ka [] b Kb (.slice none 0 0) kb [] ++ R) := by
  refine s.tell (fun hh => ?_) (fun x => ?_)
  · have h0 := hh (nodeC p K C) (by simp [two5])
    have h1 := hh (rowEC K ks) (by simp [two5])
    have h2 := hh (rowPC C ps) (by simp [two5])
    have h3 : Ok w 0 (⟨a, Ka, ka⟩ : Leaf) := hh (treeC 0 (⟨a, Ka, ka⟩ : Leaf)) (by simp [two5])
    have h4 : Ok w 0 (⟨b, Kb, kb⟩ : Leaf) := hh (treeC 0 (⟨b, Kb, kb⟩ : Leaf)) (by simp [two5])
    intro c hc
    simp only [par3, List.mem_cons, List.not_mem_nil, or_false] at hc
    rcases hc with rfl | rfl | rfl | rfl | rfl | rfl | rfl | rfl | rfl
    · exact h0
    · exact h1
    · exact h2
    · exact h3.1
    · exact h3.2
    · exact Row.nil _ _ _
    · exact h4.1
    · exact h4.2
    · exact Row.nil _ _ _
  · simp only [fpc, two5, par3, nodeC, rowEC, rowPC, treeC, fp, List.flatMap_cons, List.flatMap_nil, List.count_append, List.count_cons, List.count_nil]
    have : (bl (.slice none 0 0)).count x = 0 := by simp [bl, Value.ownBlock]
    omega
theorem leaf_two5 {w0 w : World} {F : Nat → Prop} {R : List Chunk} {p a b : Nat} {K C Ka Kb : Value} {ks ka kb : List S29} {ps pa pb : List Value} (s : St w0 F w (par3 p K C ks ps a Ka (.slice none 0 0) ka pa b Kb (.slice none 0 0) kb pb ++ R)) :
    St w0 F w (two5 p K C ks ps 0 (⟨a, Ka, ka⟩ : Leaf) (⟨b, Kb, kb⟩ : Leaf) ++ R) := by
  refine s.tell (fun hh => ?_) (fun x => ?_)
  · have h0 := hh (nodeC p K C) (by simp [par3])
    have h1 := hh (rowEC K ks) (by simp [par3])
    have h2 := hh (rowPC C ps) (by simp [par3])
    have h3 : Ok w 0 (⟨a, Ka, ka⟩ : Leaf) := ⟨hh (nodeC a Ka (.slice none 0 0)) (by simp [par3]), hh (rowEC Ka ka) (by simp [par3])⟩
    have h4 : Ok w 0 (⟨b, Kb, kb⟩ : Leaf) := ⟨hh (nodeC b Kb (.slice none 0 0)) (by simp [par3]), hh (rowEC Kb kb) (by simp [par3])⟩
    intro c hc
    simp only [two5, List.mem_cons, List.not_mem_nil, or_false] at hc
    rcases hc with rfl | rfl | rfl | rfl | rfl
    · exact h0
    · exact h1
    · exact h2
    · exact h3
    · exact h4
  · simp only [fpc, two5, par3, nodeC, rowEC, rowPC, treeC, fp, List.flatMap_cons, List.flatMap_nil, List.count_append, List.count_cons, List.count_nil]
    omega
def ptrs (h : Nat) (l : List (MT h)) : List Value := l.map (kidPtr h)
theorem two5_inner {w0 w : World} {F : Nat → Prop} {R : List Chunk} {p a b h : Nat} {K C Ka Kb Ca Cb : Value} {ks ka kb : List S29} {ps : List Value} {la lb : List (MT h)} (s : St w0 F w (two5 p K C ks ps (h + 1) (⟨a, Ka, Ca, ka, la⟩ : Inner (MT h)) (⟨b, Kb, Cb, kb, lb⟩ : Inner (MT h)) ++ R)) :
    St w0 F w (par3 p K C ks ps a Ka Ca ka (ptrs h la) b Kb Cb kb (ptrs h lb) ++ (forC h la :: forC h lb :: R)) ∧ 0 < la.length ∧ 0 < lb.length := by
  have hA : Ok w (h + 1) (⟨a, Ka, Ca, ka, la⟩ : Inner (MT h)) := s.h (treeC (h + 1) (⟨a, Ka, Ca, ka, la⟩ : Inner (MT h))) (by simp [two5])
  have hB : Ok w (h + 1) (⟨b, Kb, Cb, kb, lb⟩ : Inner (MT h)) := s.h (treeC (h + 1) (⟨b, Kb, Cb, kb, lb⟩ : Inner (MT h))) (by simp [two5])
  refine ⟨?_, hA.2.2.2.1, hB.2.2.2.1⟩
  have e : par3 p K C ks ps a Ka Ca ka (ptrs h la) b Kb Cb kb (ptrs h lb) ++ (forC h la :: forC h lb :: R) = (par3 p K C ks ps a Ka Ca ka (ptrs h la) b Kb Cb kb (ptrs h lb) ++ [forC h la, forC h lb]) ++ R := by simp
  rw [e]
  refine s.tell (fun hh => ?_) (fun x => ?_)
  · have h0 := hh (nodeC p K C) (by simp [two5])
    have h1 := hh (rowEC K ks) (by simp [two5])
    have h2 := hh (rowPC C ps) (by simp [two5])
    intro c hc
    simp only [par3, List.mem_append, List.mem_cons, List.not_mem_nil, or_false] at hc
    rcases hc with (rfl | rfl | rfl | rfl | rfl | rfl | rfl | rfl | rfl) | rfl | rfl
    · exact h0
    · exact h1
    · exact h2
    · exact hA.1
    · exact hA.2.1
    · show Row w 59 1 Ca (ptrs h la).length (ptrs h la)
      rw [ptrs, List.length_map]
      exact hA.2.2.1
    · exact hB.1
    · exact hB.2.1
    · show Row w 59 1 Cb (ptrs h lb).length (ptrs h lb)
      rw [ptrs, List.length_map]
      exact hB.2.2.1
    · exact hA.2.2.2.2
    · exact hB.2.2.2.2
  · simp only [fpc, two5, par3, nodeC, rowEC, rowPC, treeC, forC, fp, List.flatMap_append, List.flatMap_cons, List.flatMap_nil, List.count_append, List.count_cons, List.count_nil]
    omega
theorem inner_two5 {w0 w : World} {F : Nat → Prop} {R : List Chunk} {p a b h : Nat} {K C Ka Kb Ca Cb : Value} {ks ka kb : List S29} {ps : List Value} {la lb la' lb' : List (MT h)} (s : St w0 F w (par3 p K C ks ps a Ka Ca ka (ptrs h la') b Kb Cb kb (ptrs h lb') ++ (forC h la :: forC h lb :: R)))
    (h1 : 0 < la'.length) (h2 : 0 < lb'.length) (hp : (la' ++ lb').Perm (la ++ lb)) :
    St w0 F w (two5 p K C ks ps (h + 1) (⟨a, Ka, Ca, ka, la'⟩ : Inner (MT h)) (⟨b, Kb, Cb, kb, lb'⟩ : Inner (MT h)) ++ R) := by
  have e : par3 p K C ks ps a Ka Ca ka (ptrs h la') b Kb Cb kb (ptrs h lb') ++ (forC h la :: forC h lb :: R) = (par3 p K C ks ps a Ka Ca ka (ptrs h la') b Kb Cb kb (ptrs h lb') ++ [forC h la, forC h lb]) ++ R := by simp
  rw [e] at s
  have hmem : ∀ x, x ∈ la' ∨ x ∈ lb' → x ∈ la ∨ x ∈ lb := fun x hx => by
    rw [← List.mem_append] at hx ⊢
    exact hp.mem_iff.1 hx
  refine s.tell (fun hh => ?_) (fun x => ?_)
  · have h0 := hh (nodeC p K C) (by simp [par3])
    have h1' := hh (rowEC K ks) (by simp [par3])
    have h2' := hh (rowPC C ps) (by simp [par3])
    have fa : ∀ k ∈ la, Ok w h k := hh (forC h la) (by simp)
    have fb : ∀ k ∈ lb, Ok w h k := hh (forC h lb) (by simp)
    have fo : ∀ k, k ∈ la' ∨ k ∈ lb' → Ok w h k := fun k hk => (hmem k hk).elim (fa k) (fb k)
    have ra : Row w 59 1 Ca (ptrs h la').length (ptrs h la') := hh (rowPC Ca (ptrs h la')) (by simp [par3])
    have rb : Row w 59 1 Cb (ptrs h lb').length (ptrs h lb') := hh (rowPC Cb (ptrs h lb')) (by simp [par3])
    rw [ptrs, List.length_map] at ra rb
    have hA : Ok w (h + 1) (⟨a, Ka, Ca, ka, la'⟩ : Inner (MT h)) := ⟨hh (nodeC a Ka Ca) (by simp [par3]), hh (rowEC Ka ka) (by simp [par3]), ra, h1, fun k hk => fo k (.inl hk)⟩
    have hB : Ok w (h + 1) (⟨b, Kb, Cb, kb, lb'⟩ : Inner (MT h)) := ⟨hh (nodeC b Kb Cb) (by simp [par3]), hh (rowEC Kb kb) (by simp [par3]), rb, h2, fun k hk => fo k (.inr hk)⟩
    intro c hc
    simp only [two5, List.mem_cons, List.not_mem_nil, or_false] at hc
    rcases hc with rfl | rfl | rfl | rfl | rfl
    · exact h0
    · exact h1'
    · exact h2'
    · exact hA
    · exact hB
  · have hc : (la'.flatMap (fp h)).count x + (lb'.flatMap (fp h)).count x = (la.flatMap (fp h)).count x + (lb.flatMap (fp h)).count x := by
      rw [← List.count_append, ← List.count_append, ← List.flatMap_append, ← List.flatMap_append]
      exact (hp.flatMap_right _).count_eq x
    simp only [fpc, two5, par3, nodeC, rowEC, rowPC, treeC, forC, fp, List.flatMap_append, List.flatMap_cons, List.flatMap_nil, List.count_append, List.count_cons, List.count_nil]
    omega
end Go.Proofs.Bt
end
section
namespace Go.Proofs.Bt
open Go Go.RowKit Go.Proofs.Ytjaddmflopahiaa.Q Go.Proofs.YtjaddmflopahiaaW.PrintWords Go.Proofs.YtjaddmflopahiaaW.PrintLast Go.Proofs.YtjaddmflopahiaaW.PrintMore
set_option linter.unusedVariables false
set_option linter.unusedSimpArgs false
set_option maxRecDepth 100000
def Fine (h : Nat) (t : BT h) : Prop := blen h t < 900 ∧ (h = 0 ∨ bkids h t = blen h t + 1)
def PairPost (w : World) (F : Nat → Prop) (p : Nat) (K C : Value) (ks : List S29) (ps : List Value) (h : Nat) (r : BT h × BT h) (lp cp : Nat) (R : List Chunk) (E : Ending) (w' : World) : Prop :=
  ∃ l' c' : MT h, E = .returned (.tuple #[]) ∧ ptr h l' = lp ∧ ptr h c' = cp ∧ abs h l' = r.1 ∧ abs h c' = r.2 ∧ St w F w' (two5 p K C ks ps h l' c' ++ R)
def OnePost (w : World) (F : Nat → Prop) (p : Nat) (ks : List S29) (ps : List Value) (h : Nat) (r : BT h) (lp : Nat) (R : List Chunk) (E : Ending) (w' : World) : Prop :=
  ∃ (K C : Value) (l' : MT h), E = .returned (.tuple #[]) ∧ ptr h l' = lp ∧ abs h l' = r ∧ St w F w' (one4 p K C ks ps h l' ++ R)
theorem snoc_of {α : Type} (l : List α) (h : 0 < l.length) : ∃ l' x, l = l' ++ [x] := by
  have hne : l ≠ [] := by rintro rfl; simp at h
  exact ⟨l.dropLast, l.getLast hne, (List.dropLast_concat_getLast hne).symm⟩
theorem bleft_leaf (ka : List S29) (x : S29) (kb : List S29) (z : S29) : bleft 0 (ka ++ [x] : List S29) kb z = (x, (ka : List S29), (x :: kb : List S29)) := by
  show (List.getLastD (ka ++ [x]) z29, List.dropLast (ka ++ [x]), List.getLastD (ka ++ [x]) z29 :: kb) = _
  simp
theorem bleft_inner (h : Nat) (ka : List S29) (x : S29) (la : List (BT h)) (q : BT h) (kb : List S29) (lb : List (BT h)) (z : S29) : bleft (h + 1) (ka ++ [x], la ++ [q]) (kb, lb) z = (x, (ka, la), (z :: kb, q :: lb)) := by
  show (List.getLastD (ka ++ [x]) z29, (List.dropLast (ka ++ [x]), List.dropLast (la ++ [q])), (z :: kb, (la ++ [q]).getLast?.toList ++ lb)) = _
  simp
theorem getD_of {ks : List S29} {i : Nat} (hi : i < ks.length) : ks[i]? = some (ks.getD i z29) := by
  rw [List.getD_eq_getElem?_getD, List.getElem?_eq_getElem hi]
  rfl
theorem ptrs_snoc (h : Nat) (la : List (MT h)) (q : MT h) : ptrs h (la ++ [q]) = ptrs h la ++ [.pointer (some ⟨ptr h q, 0, none⟩)] := by simp [ptrs, kidPtr]
theorem ptrs_cons (h : Nat) (la : List (MT h)) (q : MT h) : ptrs h (q :: la) = .pointer (some ⟨ptr h q, 0, none⟩) :: ptrs h la := rfl
theorem ptrs_app (h : Nat) (la lb : List (MT h)) : ptrs h (la ++ lb) = ptrs h la ++ ptrs h lb := by simp [ptrs]
theorem ptrs_len (h : Nat) (la : List (MT h)) : (ptrs h la).length = la.length := by simp [ptrs]
section
variable (w : World) (F : Nat → Prop) (p : Nat) (K C : Value) (ks : List S29) (ps : List Value) (i : Nat) (R : List Chunk)
theorem pair_left : ∀ (h : Nat) (l c : MT h) (j : Nat) (s : St w F w (two5 p K C ks ps h l c ++ R)) (hi : i + 1 < ps.length) (hj : j = i + 1) (hpa : ps[i]? = some (kidPtr h l)) (hpb : ps[i + 1]? = some (kidPtr h c)) (hps : ps.length < 1000) (hk : i < ks.length) (hks : ks.length < 1000)
    (fl : Fine h (abs h l)) (fc : Fine h (abs h c)) (hl : 2 < blen h (abs h l)),
    Calls Try.prog 62 #[.pointer (some ⟨p, 0, none⟩), .int .i64 (j : Int)] w (PairPost w F p K C (ks.set i (bleft h (abs h l) (abs h c) (ks.getD i z29)).1) ps h (bleft h (abs h l) (abs h c) (ks.getD i z29)).2 (ptr h l) (ptr h c) R)
  | 0, l, c, j, s, hi, hj, hpa, hpb, hps, hk, hks, fl, fc, hl => by
    obtain ⟨a, Ka, ka⟩ := l
    obtain ⟨b, Kb, kb⟩ := c
    have f1 : ka.length < 900 := fl.1
    have f2 : kb.length < 900 := fc.1
    have f3 : 2 < ka.length := hl
    obtain ⟨ka, x, rfl⟩ := snoc_of ka (by omega)
    rw [List.length_append, List.length_singleton] at f1 f3
    have he : bleft 0 (abs 0 (⟨a, Ka, ka ++ [x]⟩ : Leaf)) (abs 0 (⟨b, Kb, kb⟩ : Leaf)) (ks.getD i z29) = (x, (ka : List S29), (x :: kb : List S29)) := bleft_leaf ka x kb _
    rw [he]
    have s1 := two5_leaf s
    refine (fromLeft_leaf w p a b K C Ka Kb ks ps i j x ka kb _ s1.sub hi hj hpa hpb hps hk hks (by simp; omega) (by omega) (by simp) (by simp)).mono ?_
    rintro E w' ⟨Ka', Ca', Kb', Cb', rfl, hnil, st⟩
    obtain ⟨rfl, rfl⟩ := hnil rfl
    exact ⟨(⟨a, Ka', ka⟩ : Leaf), (⟨b, Kb', x :: kb⟩ : Leaf), rfl, rfl, rfl, rfl, rfl, leaf_two5 (s1.call st)⟩
  | h + 1, l, c, j, s, hi, hj, hpa, hpb, hps, hk, hks, fl, fc, hl => by
    obtain ⟨a, Ka, Ca, ka, la⟩ := l
    obtain ⟨b, Kb, Cb, kb, lb⟩ := c
    have f1 : ka.length < 900 := fl.1
    have f2 : kb.length < 900 := fc.1
    have f3 : 2 < ka.length := hl
    have f4 : la.length = ka.length + 1 := by
      have := fl.2.resolve_left (by omega)
      change (la.map (abs h)).length = ka.length + 1 at this
      rwa [List.length_map] at this
    have f5 : lb.length = kb.length + 1 := by
      have := fc.2.resolve_left (by omega)
      change (lb.map (abs h)).length = kb.length + 1 at this
      rwa [List.length_map] at this
    obtain ⟨ka, x, rfl⟩ := snoc_of ka (by omega)
    obtain ⟨la, q, rfl⟩ := snoc_of la (by omega)
    rw [List.length_append, List.length_singleton] at f1 f3
    rw [List.length_append, List.length_singleton, List.length_append, List.length_singleton] at f4
    have he : bleft (h + 1) (abs (h + 1) (⟨a, Ka, Ca, ka ++ [x], la ++ [q]⟩ : Inner (MT h))) (abs (h + 1) (⟨b, Kb, Cb, kb, lb⟩ : Inner (MT h))) (ks.getD i z29) = (x, (ka, la.map (abs h)), (ks.getD i z29 :: kb, abs h q :: lb.map (abs h))) := by
      show bleft (h + 1) (ka ++ [x], (la ++ [q]).map (abs h)) (kb, lb.map (abs h)) _ = _
      rw [List.map_append]
      exact bleft_inner h ka x _ _ kb _ _
    rw [he]
    obtain ⟨s1, g1, g2⟩ := two5_inner s
    rw [ptrs_snoc] at s1
    refine (fromLeft_inner w p a b K C Ka Kb Ca Cb ks ps i j x (ks.getD i z29) ka kb _ (ptrs h la) (ptrs h lb) _ s1.sub hi hj hpa hpb hps hk hks (by simp; omega) (by omega) (by simp [ptrs_len]; omega) (by rw [ptrs_len]; omega) (getD_of hk) (by rw [ptrs_len]; omega) (by rw [ptrs_len]; omega)).mono ?_
    rintro E w' ⟨Ka', Ca', Kb', Cb', rfl, hnil, st⟩
    have s2 := s1.call st
    rw [← ptrs_cons] at s2
    refine ⟨(⟨a, Ka', Ca', ka, la⟩ : Inner (MT h)), (⟨b, Kb', Cb', ks.getD i z29 :: kb, q :: lb⟩ : Inner (MT h)), rfl, rfl, rfl, rfl, rfl, inner_two5 s2 (by omega) (by simp) ?_⟩
    rw [List.append_assoc]
    exact List.Perm.refl _
end
end Go.Proofs.Bt
end
section
namespace Go.Proofs.Bt
open Go Go.RowKit Go.Proofs.Ytjaddmflopahiaa.Q Go.Proofs.YtjaddmflopahiaaW.PrintWords Go.Proofs.YtjaddmflopahiaaW.PrintLast Go.Proofs.YtjaddmflopahiaaW.PrintMore
set_option linter.unusedVariables false
set_option linter.unusedSimpArgs false
set_option maxRecDepth 100000
theorem cons_of {α : Type} (l : List α) (h : 0 < l.length) : ∃ x l', l = x :: l' := by
  match l, h with
  | x :: l', _ => exact ⟨x, l', rfl⟩
theorem leaf_one4 {w0 w : World} {F : Nat → Prop} {R : List Chunk} {p a : Nat} {K C Ka : Value} {ks ka : List S29} {ps pa : List Value} (s : St w0 F w (par2 p K C ks ps a Ka (.slice none 0 0) ka pa ++ R)) : St w0 F w (one4 p K C ks ps 0 (⟨a, Ka, ka⟩ : Leaf) ++ R) := by
  refine s.tell (fun hh => ?_) (fun x => ?_)
  · have h0 := hh (nodeC p K C) (by simp [par2])
    have h1 := hh (rowEC K ks) (by simp [par2])
    have h2 := hh (rowPC C ps) (by simp [par2])
    have h3 : Ok w 0 (⟨a, Ka, ka⟩ : Leaf) := ⟨hh (nodeC a Ka (.slice none 0 0)) (by simp [par2]), hh (rowEC Ka ka) (by simp [par2])⟩
    intro c hc
    simp only [one4, List.mem_cons, List.not_mem_nil, or_false] at hc
    rcases hc with rfl | rfl | rfl | rfl
    · exact h0
    · exact h1
    · exact h2
    · exact h3
  · simp only [fpc, one4, par2, nodeC, rowEC, rowPC, treeC, fp, List.flatMap_cons, List.flatMap_nil, List.count_append, List.count_cons, List.count_nil]
    omega
theorem inner_one4 {w0 w : World} {F : Nat → Prop} {R : List Chunk} {p a h : Nat} {K C Ka Ca : Value} {ks ka : List S29} {ps : List Value} {la lb : List (MT h)} (s : St w0 F w (par2 p K C ks ps a Ka Ca ka (ptrs h (la ++ lb)) ++ (forC h la :: forC h lb :: R)))
    (h1 : 0 < la.length) : St w0 F w (one4 p K C ks ps (h + 1) (⟨a, Ka, Ca, ka, la ++ lb⟩ : Inner (MT h)) ++ R) := by
  have e : par2 p K C ks ps a Ka Ca ka (ptrs h (la ++ lb)) ++ (forC h la :: forC h lb :: R) = (par2 p K C ks ps a Ka Ca ka (ptrs h (la ++ lb)) ++ [forC h la, forC h lb]) ++ R := by simp
  rw [e] at s
  refine s.tell (fun hh => ?_) (fun x => ?_)
  · have h0 := hh (nodeC p K C) (by simp [par2])
    have h1' := hh (rowEC K ks) (by simp [par2])
    have h2' := hh (rowPC C ps) (by simp [par2])
    have fa : ∀ k ∈ la, Ok w h k := hh (forC h la) (by simp)
    have fb : ∀ k ∈ lb, Ok w h k := hh (forC h lb) (by simp)
    have ra : Row w 59 1 Ca (ptrs h (la ++ lb)).length (ptrs h (la ++ lb)) := hh (rowPC Ca (ptrs h (la ++ lb))) (by simp [par2])
    rw [ptrs_len] at ra
    have hA : Ok w (h + 1) (⟨a, Ka, Ca, ka, la ++ lb⟩ : Inner (MT h)) := ⟨hh (nodeC a Ka Ca) (by simp [par2]), hh (rowEC Ka ka) (by simp [par2]), ra, by show 0 < (la ++ lb).length; rw [List.length_append]; omega, fun k hk => (List.mem_append.1 hk).elim (fa k) (fb k)⟩
    intro c hc
    simp only [one4, List.mem_cons, List.not_mem_nil, or_false] at hc
    rcases hc with rfl | rfl | rfl | rfl
    · exact h0
    · exact h1'
    · exact h2'
    · exact hA
  · simp only [fpc, one4, par2, nodeC, rowEC, rowPC, treeC, forC, fp, List.flatMap_append, List.flatMap_cons, List.flatMap_nil, List.count_append, List.count_cons, List.count_nil]
    omega
section
variable (w : World) (F : Nat → Prop) (p : Nat) (K C : Value) (ks : List S29) (ps : List Value) (i : Nat) (R : List Chunk)
theorem pair_right : ∀ (h : Nat) (l c : MT h) (s : St w F w (two5 p K C ks ps h l c ++ R)) (hi : i + 1 < ps.length) (hpa : ps[i]? = some (kidPtr h l)) (hpb : ps[i + 1]? = some (kidPtr h c)) (hps : ps.length < 1000) (hk : i < ks.length) (hks : ks.length < 1000)
    (fl : Fine h (abs h l)) (fc : Fine h (abs h c)) (hl : 2 < blen h (abs h c)),
    Calls Try.prog 63 #[.pointer (some ⟨p, 0, none⟩), .int .i64 (i : Int)] w (PairPost w F p K C (ks.set i (bright h (abs h l) (abs h c) (ks.getD i z29)).1) ps h (bright h (abs h l) (abs h c) (ks.getD i z29)).2 (ptr h l) (ptr h c) R)
  | 0, l, c, s, hi, hpa, hpb, hps, hk, hks, fl, fc, hl => by
    obtain ⟨a, Ka, ka⟩ := l
    obtain ⟨b, Kb, kb⟩ := c
    have f1 : ka.length < 900 := fl.1
    have f2 : kb.length < 900 := fc.1
    have f3 : 2 < kb.length := hl
    obtain ⟨x, kb, rfl⟩ := cons_of kb (by omega)
    rw [List.length_cons] at f2 f3
    obtain ⟨y, kb, rfl⟩ := cons_of kb (by omega)
    rw [List.length_cons] at f2 f3
    have he : bright 0 (abs 0 (⟨a, Ka, ka⟩ : Leaf)) (abs 0 (⟨b, Kb, x :: y :: kb⟩ : Leaf)) (ks.getD i z29) = (y, (ka ++ [x] : List S29), (y :: kb : List S29)) := rfl
    rw [he]
    have s1 := two5_leaf s
    refine (fromRight_leaf w p a b K C Ka Kb ks ps i x y ka kb _ s1.sub hi hpa hpb hps hk hks (by omega) (by simp; omega) (by simp) (by simp)).mono ?_
    rintro E w' ⟨Ka', Ca', Kb', Cb', rfl, hnil, st⟩
    obtain ⟨rfl, rfl⟩ := hnil rfl
    exact ⟨(⟨a, Ka', ka ++ [x]⟩ : Leaf), (⟨b, Kb', y :: kb⟩ : Leaf), rfl, rfl, rfl, rfl, rfl, leaf_two5 (s1.call st)⟩
  | h + 1, l, c, s, hi, hpa, hpb, hps, hk, hks, fl, fc, hl => by
    obtain ⟨a, Ka, Ca, ka, la⟩ := l
    obtain ⟨b, Kb, Cb, kb, lb⟩ := c
    have f1 : ka.length < 900 := fl.1
    have f2 : kb.length < 900 := fc.1
    have f3 : 2 < kb.length := hl
    have f4 : la.length = ka.length + 1 := by
      have := fl.2.resolve_left (by omega)
      change (la.map (abs h)).length = ka.length + 1 at this
      rwa [List.length_map] at this
    have f5 : lb.length = kb.length + 1 := by
      have := fc.2.resolve_left (by omega)
      change (lb.map (abs h)).length = kb.length + 1 at this
      rwa [List.length_map] at this
    obtain ⟨x, kb, rfl⟩ := cons_of kb (by omega)
    obtain ⟨q, lb, rfl⟩ := cons_of lb (by omega)
    rw [List.length_cons] at f2 f3
    rw [List.length_cons, List.length_cons] at f5
    have he : bright (h + 1) (abs (h + 1) (⟨a, Ka, Ca, ka, la⟩ : Inner (MT h))) (abs (h + 1) (⟨b, Kb, Cb, x :: kb, q :: lb⟩ : Inner (MT h))) (ks.getD i z29) = (x, (ka ++ [ks.getD i z29], la.map (abs h) ++ [abs h q]), (kb, lb.map (abs h))) := rfl
    rw [he]
    obtain ⟨s1, g1, g2⟩ := two5_inner s
    rw [ptrs_cons] at s1
    refine (fromRight_inner w p a b K C Ka Kb Ca Cb ks ps i x (ks.getD i z29) ka kb _ (ptrs h la) (ptrs h lb) _ s1.sub hi hpa hpb hps hk hks (by omega) (by simp; omega) (by rw [ptrs_len]; omega) (by simp [ptrs_len]; omega) (getD_of hk) (by rw [ptrs_len]; omega)).mono ?_
    rintro E w' ⟨Ka', Ca', Kb', Cb', rfl, hnil, st⟩
    have s2 := s1.call st
    rw [← ptrs_snoc] at s2
    refine ⟨(⟨a, Ka', Ca', ka ++ [ks.getD i z29], la ++ [q]⟩ : Inner (MT h)), (⟨b, Kb', Cb', kb, lb⟩ : Inner (MT h)), rfl, rfl, rfl, ?_, rfl, inner_two5 s2 (by simp) (by omega) ?_⟩
    · show (ka ++ [ks.getD i z29], (la ++ [q]).map (abs h)) = _
      rw [List.map_append]
      rfl
    · rw [List.append_assoc]
      exact List.Perm.refl _
theorem pair_join : ∀ (h : Nat) (l c : MT h) (s : St w F w (two5 p K C ks ps h l c ++ R)) (hi : i + 1 < ps.length) (hpa : ps[i]? = some (kidPtr h l)) (hpb : ps[i + 1]? = some (kidPtr h c)) (hps : ps.length < 1000) (hk : i < ks.length) (hks : ks.length < 1000)
    (fl : Fine h (abs h l)) (fc : Fine h (abs h c)) (hl : 0 < blen h (abs h c)),
    Calls Try.prog 64 #[.pointer (some ⟨p, 0, none⟩), .int .i64 (i : Int)] w (OnePost w F p (delAt ks i) (delAt ps (i + 1)) h (bjoin h (abs h l) (abs h c) (ks.getD i z29)) (ptr h l) R)
  | 0, l, c, s, hi, hpa, hpb, hps, hk, hks, fl, fc, hl => by
    obtain ⟨a, Ka, ka⟩ := l
    obtain ⟨b, Kb, kb⟩ := c
    have f1 : ka.length < 900 := fl.1
    have f2 : kb.length < 900 := fc.1
    have f3 : 0 < kb.length := hl
    have s1 := two5_leaf s
    refine (join_leaf w p a b K C Ka Kb ks ps i ka kb _ s1.sub hi hpa hpb hps hk hks (by omega) (by omega) (by simp) (by simp) f3).mono ?_
    rintro E w' ⟨K', C', Ka', Ca', rfl, hnil, st⟩
    obtain rfl := hnil rfl
    exact ⟨K', C', (⟨a, Ka', ka ++ kb⟩ : Leaf), rfl, rfl, rfl, leaf_one4 (s1.call st)⟩
  | h + 1, l, c, s, hi, hpa, hpb, hps, hk, hks, fl, fc, hl => by
    obtain ⟨a, Ka, Ca, ka, la⟩ := l
    obtain ⟨b, Kb, Cb, kb, lb⟩ := c
    have f1 : ka.length < 900 := fl.1
    have f2 : kb.length < 900 := fc.1
    have f3 : 0 < kb.length := hl
    have f4 : la.length = ka.length + 1 := by
      have := fl.2.resolve_left (by omega)
      change (la.map (abs h)).length = ka.length + 1 at this
      rwa [List.length_map] at this
    have f5 : lb.length = kb.length + 1 := by
      have := fc.2.resolve_left (by omega)
      change (lb.map (abs h)).length = kb.length + 1 at this
      rwa [List.length_map] at this
    have he : bjoin (h + 1) (abs (h + 1) (⟨a, Ka, Ca, ka, la⟩ : Inner (MT h))) (abs (h + 1) (⟨b, Kb, Cb, kb, lb⟩ : Inner (MT h))) (ks.getD i z29) = (ka ++ [ks.getD i z29] ++ kb, la.map (abs h) ++ lb.map (abs h)) := rfl
    rw [he]
    obtain ⟨s1, g1, g2⟩ := two5_inner s
    refine (join_inner w p a b K C Ka Kb Ca Cb ks ps i (ks.getD i z29) ka kb (ptrs h la) (ptrs h lb) _ s1.sub hi hpa hpb hps hk hks (by omega) (by omega) (by rw [ptrs_len]; omega) (by rw [ptrs_len]; omega) (getD_of hk) (by rw [ptrs_len]; omega) (by rw [ptrs_len]; omega) f3).mono ?_
    rintro E w' ⟨K', C', Ka', Ca', rfl, hnil, st⟩
    have s2 := s1.call st
    rw [← ptrs_app] at s2
    refine ⟨K', C', (⟨a, Ka', Ca', ka ++ [ks.getD i z29] ++ kb, la ++ lb⟩ : Inner (MT h)), rfl, rfl, ?_, inner_one4 s2 g1⟩
    show (ka ++ [ks.getD i z29] ++ kb, (la ++ lb).map (abs h)) = _
    rw [List.map_append]
end
end Go.Proofs.Bt
end
section
namespace Go.Proofs.Bt
open Go Go.RowKit Go.Proofs.Ytjaddmflopahiaa.Q Go.Proofs.YtjaddmflopahiaaW.PrintWords Go.Proofs.YtjaddmflopahiaaW.PrintLast Go.Proofs.YtjaddmflopahiaaW.PrintMore
set_option linter.unusedVariables false
set_option linter.unusedSimpArgs false
set_option maxRecDepth 100000
theorem open_two {w0 w : World} {F : Nat → Prop} {R : List Chunk} {p h : Nat} {K C : Value} {ks : List S29} {X Y : List (MT h)} {l c : MT h} (s : St w0 F w (treeC (h + 1) (⟨p, K, C, ks, X ++ l :: c :: Y⟩ : Inner (MT h)) :: R)) :
    St w0 F w (two5 p K C ks (ptrs h (X ++ l :: c :: Y)) h l c ++ (forC h (X ++ Y) :: R)) := by
  have hA : Ok w (h + 1) (⟨p, K, C, ks, X ++ l :: c :: Y⟩ : Inner (MT h)) := s.h (treeC (h + 1) (⟨p, K, C, ks, X ++ l :: c :: Y⟩ : Inner (MT h))) (by simp)
  have e : two5 p K C ks (ptrs h (X ++ l :: c :: Y)) h l c ++ (forC h (X ++ Y) :: R) = (two5 p K C ks (ptrs h (X ++ l :: c :: Y)) h l c ++ [forC h (X ++ Y)]) ++ R := by simp
  rw [e]
  refine St.tell (A := [treeC (h + 1) (⟨p, K, C, ks, X ++ l :: c :: Y⟩ : Inner (MT h))]) s (fun hh => ?_) (fun x => ?_)
  · obtain ⟨a1, a2, a3, a4, a5⟩ := hA
    have a5' : ∀ k ∈ X ++ l :: c :: Y, Ok w h k := a5
    intro d hd
    simp only [two5, List.mem_append, List.mem_cons, List.not_mem_nil, or_false] at hd
    rcases hd with (rfl | rfl | rfl | rfl | rfl) | rfl
    · exact a1
    · exact a2
    · show Row w 59 1 C (ptrs h (X ++ l :: c :: Y)).length (ptrs h (X ++ l :: c :: Y))
      rw [ptrs_len]
      exact a3
    · exact a5' l (by simp)
    · exact a5' c (by simp)
    · intro k hk
      rcases List.mem_append.1 hk with hk | hk
      · exact a5' k (by simp [hk])
      · exact a5' k (by simp [hk])
  · simp only [fpc, two5, nodeC, rowEC, rowPC, treeC, forC, fp, List.flatMap_append, List.flatMap_cons, List.flatMap_nil, List.count_append, List.count_cons, List.count_nil]
    omega
theorem shut_two {w0 w : World} {F : Nat → Prop} {R : List Chunk} {p h : Nat} {K C : Value} {ks : List S29} {ps : List Value} {X Y : List (MT h)} {l c : MT h} (s : St w0 F w (two5 p K C ks ps h l c ++ (forC h (X ++ Y) :: R))) (hp : ps = ptrs h (X ++ l :: c :: Y)) :
    St w0 F w (treeC (h + 1) (⟨p, K, C, ks, X ++ l :: c :: Y⟩ : Inner (MT h)) :: R) := by
  have e : two5 p K C ks ps h l c ++ (forC h (X ++ Y) :: R) = (two5 p K C ks ps h l c ++ [forC h (X ++ Y)]) ++ R := by simp
  rw [e] at s
  refine St.tell (B := [treeC (h + 1) (⟨p, K, C, ks, X ++ l :: c :: Y⟩ : Inner (MT h))]) s (fun hh => ?_) (fun x => ?_)
  · have h0 := hh (nodeC p K C) (by simp [two5])
    have h1 := hh (rowEC K ks) (by simp [two5])
    have h2 : Row w 59 1 C ps.length ps := hh (rowPC C ps) (by simp [two5])
    have h3 : Ok w h l := hh (treeC h l) (by simp [two5])
    have h4 : Ok w h c := hh (treeC h c) (by simp [two5])
    have h5 : ∀ k ∈ X ++ Y, Ok w h k := hh (forC h (X ++ Y)) (by simp [two5])
    rw [hp, ptrs_len] at h2
    intro d hd
    simp only [List.mem_cons, List.not_mem_nil, or_false] at hd
    subst hd
    refine ⟨h0, h1, h2, by show 0 < (X ++ l :: c :: Y).length; simp; omega, fun k hk => ?_⟩
    have hk : k ∈ X ++ l :: c :: Y := hk
    simp only [List.mem_append, List.mem_cons] at hk
    rcases hk with hk | rfl | rfl | hk
    · exact h5 k (List.mem_append_left _ hk)
    · exact h3
    · exact h4
    · exact h5 k (List.mem_append_right _ hk)
  · simp only [fpc, two5, nodeC, rowEC, rowPC, treeC, forC, fp, List.flatMap_append, List.flatMap_cons, List.flatMap_nil, List.count_append, List.count_cons, List.count_nil]
    omega
theorem shut_one {w0 w : World} {F : Nat → Prop} {R : List Chunk} {p h : Nat} {K C : Value} {ks : List S29} {ps : List Value} {X Y : List (MT h)} {l : MT h} (s : St w0 F w (one4 p K C ks ps h l ++ (forC h (X ++ Y) :: R))) (hp : ps = ptrs h (X ++ l :: Y)) :
    St w0 F w (treeC (h + 1) (⟨p, K, C, ks, X ++ l :: Y⟩ : Inner (MT h)) :: R) := by
  have e : one4 p K C ks ps h l ++ (forC h (X ++ Y) :: R) = (one4 p K C ks ps h l ++ [forC h (X ++ Y)]) ++ R := by simp
  rw [e] at s
  refine St.tell (B := [treeC (h + 1) (⟨p, K, C, ks, X ++ l :: Y⟩ : Inner (MT h))]) s (fun hh => ?_) (fun x => ?_)
  · have h0 := hh (nodeC p K C) (by simp [one4])
    have h1 := hh (rowEC K ks) (by simp [one4])
    have h2 : Row w 59 1 C ps.length ps := hh (rowPC C ps) (by simp [one4])
    have h3 : Ok w h l := hh (treeC h l) (by simp [one4])
    have h5 : ∀ k ∈ X ++ Y, Ok w h k := hh (forC h (X ++ Y)) (by simp [one4])
    rw [hp, ptrs_len] at h2
    intro d hd
    simp only [List.mem_cons, List.not_mem_nil, or_false] at hd
    subst hd
    refine ⟨h0, h1, h2, by show 0 < (X ++ l :: Y).length; simp; omega, fun k hk => ?_⟩
    have hk : k ∈ X ++ l :: Y := hk
    simp only [List.mem_append, List.mem_cons] at hk
    rcases hk with hk | rfl | hk
    · exact h5 k (List.mem_append_left _ hk)
    · exact h3
    · exact h5 k (List.mem_append_right _ hk)
  · simp only [fpc, one4, nodeC, rowEC, rowPC, treeC, forC, fp, List.flatMap_append, List.flatMap_cons, List.flatMap_nil, List.count_append, List.count_cons, List.count_nil]
    omega
theorem kf_of {w : World} {p h gc n cC : Nat} {K : Value} {ks : List S29} {kids : List (MT h)} (hok : Ok w (h + 1) (⟨p, K, .slice (some ⟨gc, 0, none⟩) n cC, ks, kids⟩ : Inner (MT h))) {j : Nat} {k : MT h} (hj : kids[j]? = some k) :
    ∃ A c, KF w gc j (ptr h k) A (blen h (abs h k)) c := by
  obtain ⟨a1, a2, a3, a4, a5⟩ := hok
  have a3' : Row w 59 1 (.slice (some ⟨gc, 0, none⟩) n cC) kids.length (kids.map (kidPtr h)) := a3
  have hk : Ok w h k := a5 k (List.mem_of_getElem? hj)
  have hn : n = kids.length := by
    rcases a3'.2.2 with ⟨h1, _⟩ | ⟨g, c, cur, h1, _⟩
    · simp at h1
    · simp at h1
      exact h1.2.1
  subst hn
  obtain ⟨A, c, hs⟩ := hk.row.slice
  refine ⟨A, c, a3'.cell rfl j _ (by rw [List.getElem?_map, hj]; rfl), ?_⟩
  have := hk.node.c0
  rw [hs] at this
  rw [blen, abs_keys]
  exact this
def MendPost (w : World) (F : Nat → Prop) (p h : Nat) (t : List S29 × List (BT h)) (R : List Chunk) (w' : World) : Prop :=
  ∃ m' : MT (h + 1), ptr (h + 1) m' = p ∧ abs (h + 1) m' = t ∧ St w F w' (treeC (h + 1) m' :: R)
theorem Calls.mr {w : World} {f : FuncId} {args : Array Value} {P : Ending → World → Prop} {Q : World → Prop} (h : Calls Try.prog f args w P) (hq : ∀ E w', P E w' → E = .returned (.tuple #[]) ∧ Q w') : Calls Try.prog f args w (MR Q) := h.mono fun E w' hp => hq E w' hp
theorem ptrs_at (h : Nat) (X Y : List (MT h)) (l c : MT h) : (ptrs h (X ++ l :: c :: Y))[X.length]? = some (kidPtr h l) ∧ (ptrs h (X ++ l :: c :: Y))[X.length + 1]? = some (kidPtr h c) := by
  simp [ptrs, List.getElem?_append_right]
theorem ptrs_eq2 (h : Nat) (X Y : List (MT h)) (l c l' c' : MT h) (h1 : ptr h l' = ptr h l) (h2 : ptr h c' = ptr h c) : ptrs h (X ++ l :: c :: Y) = ptrs h (X ++ l' :: c' :: Y) := by
  simp [ptrs, kidPtr, h1, h2]
theorem ptrs_del (h : Nat) (X Y : List (MT h)) (l c l' : MT h) (h1 : ptr h l' = ptr h l) : delAt (ptrs h (X ++ l :: c :: Y)) (X.length + 1) = ptrs h (X ++ l' :: Y) := by
  unfold delAt
  have e : ptrs h (X ++ l :: c :: Y) = (ptrs h X ++ [kidPtr h l]) ++ kidPtr h c :: ptrs h Y := by simp [ptrs]
  have hl : (ptrs h X ++ [kidPtr h l]).length = X.length + 1 := by simp [ptrs]
  rw [e, ← hl, List.take_left]
  have e2 : (ptrs h X ++ [kidPtr h l]) ++ kidPtr h c :: ptrs h Y = ((ptrs h X ++ [kidPtr h l]) ++ [kidPtr h c]) ++ ptrs h Y := by simp
  have hl2 : (ptrs h X ++ [kidPtr h l]).length + 1 = ((ptrs h X ++ [kidPtr h l]) ++ [kidPtr h c]).length := by simp
  rw [e2, hl2, List.drop_left]
  simp [ptrs, kidPtr, h1]
theorem mr_pair {w w' : World} {F : Nat → Prop} {p h : Nat} {K C : Value} {ks' : List S29} {X Y : List (MT h)} {l c : MT h} {R : List Chunk} {r : BT h × BT h} {t : List S29 × List (BT h)} {E : Ending}
    (hp : PairPost w F p K C ks' (ptrs h (X ++ l :: c :: Y)) h r (ptr h l) (ptr h c) (forC h (X ++ Y) :: R) E w') (ht : t = (ks', X.map (abs h) ++ r.1 :: r.2 :: Y.map (abs h))) : E = .returned (.tuple #[]) ∧ MendPost w F p h t R w' := by
  obtain ⟨l', c', rfl, h1, h2, h3, h4, s⟩ := hp
  refine ⟨rfl, (⟨p, K, C, ks', X ++ l' :: c' :: Y⟩ : Inner (MT h)), rfl, ?_, shut_two s (ptrs_eq2 h X Y l c l' c' h1 h2)⟩
  rw [ht, ← h3, ← h4]
  show (ks', (X ++ l' :: c' :: Y).map (abs h)) = _
  rw [List.map_append, List.map_cons, List.map_cons]
theorem mr_one {w w' : World} {F : Nat → Prop} {p h i : Nat} {ks' : List S29} {X Y : List (MT h)} {l c : MT h} {R : List Chunk} {r : BT h} {t : List S29 × List (BT h)} {E : Ending} (hi : i = X.length + 1)
    (hp : OnePost w F p ks' (delAt (ptrs h (X ++ l :: c :: Y)) i) h r (ptr h l) (forC h (X ++ Y) :: R) E w') (ht : t = (ks', X.map (abs h) ++ r :: Y.map (abs h))) : E = .returned (.tuple #[]) ∧ MendPost w F p h t R w' := by
  obtain ⟨K, C, l', rfl, h1, h3, s⟩ := hp
  subst hi
  refine ⟨rfl, (⟨p, K, C, ks', X ++ l' :: Y⟩ : Inner (MT h)), rfl, ?_, shut_one s (ptrs_del h X Y l c l' h1)⟩
  rw [ht, ← h3]
  show (ks', (X ++ l' :: Y).map (abs h)) = _
  rw [List.map_append, List.map_cons]
theorem mend_calls (h : Nat) (w : World) (F : Nat → Prop) (p : Nat) (K C : Value) (ks : List S29) (A : List (MT h)) (c : MT h) (B : List (MT h)) (R : List Chunk) (s : St w F w (treeC (h + 1) (⟨p, K, C, ks, A ++ c :: B⟩ : Inner (MT h)) :: R))
    (hl : (A ++ c :: B).length = ks.length + 1) (hks : ks.length < 900) (hk1 : 1 ≤ ks.length) (fine : ∀ k ∈ A ++ c :: B, Fine h (abs h k) ∧ 1 ≤ blen h (abs h k)) :
    Calls Try.prog 50 #[.pointer (some ⟨p, 0, none⟩), .int .i64 (A.length : Int)] w (MR (MendPost w F p h (bmend h ks (A.map (abs h)) (abs h c) (B.map (abs h))) R)) := by
  have hok : Ok w (h + 1) (⟨p, K, C, ks, A ++ c :: B⟩ : Inner (MT h)) := s.h (treeC (h + 1) (⟨p, K, C, ks, A ++ c :: B⟩ : Inner (MT h))) (by simp)
  have hrow : Row w 59 1 C (ptrs h (A ++ c :: B)).length (ptrs h (A ++ c :: B)) := by rw [ptrs_len]; exact hok.2.2.1
  obtain ⟨gc, cC, rfl, hcC⟩ := rowP_form hrow (by simp [ptrs]; omega)
  rw [ptrs_len] at s hok hcC
  have hlen : (A ++ c :: B).length = A.length + B.length + 1 := by simp; omega
  obtain ⟨n, hn⟩ : ∃ n, (A ++ c :: B).length = n := ⟨_, rfl⟩
  rw [hn] at s hok hcC
  have hnl : n = A.length + B.length + 1 := by rw [← hn]; exact hlen
  have hkn : ks.length = A.length + B.length := by omega
  clear hl hlen
  have hN : NodeAt w p K (.slice (some ⟨gc, 0, none⟩) n cC) := hok.1
  obtain ⟨Ac, cc, kc⟩ := kf_of hok (j := A.length) (k := c) (by simp)
  by_cases hc : 2 ≤ blen h (abs h c)
  · refine Calls.mr (mend_well w p gc n cC A.length (ptr h c) K Ac _ cc hN (by omega) (by omega) kc hc) ?_
    rintro E w' ⟨rfl, rfl⟩
    refine ⟨rfl, (⟨p, K, .slice (some ⟨gc, 0, none⟩) n cC, ks, A ++ c :: B⟩ : Inner (MT h)), rfl, ?_, s⟩
    unfold bmend
    rw [if_pos hc]
    show (ks, (A ++ c :: B).map (abs h)) = _
    rw [List.map_append, List.map_cons]
  · have hc2 : blen h (abs h c) < 2 := by omega
    have fc := fine c (by simp)
    rcases List.eq_nil_or_concat A with rfl | ⟨X, l, hAl⟩
    ·
      simp only [List.nil_append, List.length_nil, List.map_nil, List.length_cons] at *
      obtain ⟨r, B', rfl⟩ := cons_of B (by omega)
      have fr := fine r (by simp)
      obtain ⟨Ar, cr, kr⟩ := kf_of hok (j := 1) (k := r) (by simp)
      have s2 := open_two (X := []) s
      obtain ⟨q1, q2⟩ := ptrs_at h [] B' c r
      simp only [List.length_cons] at hnl hkn
      by_cases hr : 2 < blen h (abs h r)
      · refine mend_right0 w p gc n cC (ptr h c) (ptr h r) K Ac Ar _ cc _ cr _ hN (by omega) (by omega) kc hc2 (by omega) kr hr ?_
        refine Calls.mr (pair_right w F p K _ ks _ 0 _ h c r s2 (by simp [ptrs]) q1 q2 (by rw [ptrs_len]; simp; omega) (by omega) (by omega) fc.1 fr.1 hr) ?_
        intro E w' hp
        refine mr_pair (X := []) hp ?_
        unfold bmend
        rw [if_neg hc]
        simp only [List.getLast?_nil, List.map_cons]
        rw [if_pos hr]
        rfl
      · refine mend_join0 w p gc n cC (ptr h c) (ptr h r) K Ac Ar _ cc _ cr _ hN (by omega) (by omega) kc hc2 (by omega) kr (by omega) ?_
        refine Calls.mr (pair_join w F p K _ ks _ 0 _ h c r s2 (by simp [ptrs]) q1 q2 (by rw [ptrs_len]; simp; omega) (by omega) (by omega) fc.1 fr.1 fr.2) ?_
        intro E w' hp
        refine mr_one (X := []) rfl hp ?_
        unfold bmend
        rw [if_neg hc]
        simp only [List.getLast?_nil, List.map_cons]
        rw [if_neg hr]
        rfl
    · have hAl : A = X ++ [l] := by simpa using hAl
      subst hAl
      have hAX : (X ++ [l]).length = X.length + 1 := by simp
      have hXl : X ++ [l] ++ c :: B = X ++ l :: c :: B := by simp
      rw [hAX] at kc hnl hkn ⊢
      rw [hXl] at s hok fine hn
      have fl := fine l (by simp)
      obtain ⟨Al, cl, kl⟩ := kf_of hok (j := X.length) (k := l) (by simp)
      have e0 : X.length + 1 - 1 = X.length := by omega
      have hm : (X ++ [l]).map (abs h) = X.map (abs h) ++ [abs h l] := by simp
      have hdl : (X.map (abs h) ++ [abs h l]).dropLast = X.map (abs h) := by simp
      have hgl : (X.map (abs h) ++ [abs h l]).getLast? = some (abs h l) := by simp
      have hll : (X.map (abs h) ++ [abs h l]).length = X.length + 1 := by simp
      have s2 := open_two (X := X) s
      obtain ⟨q1, q2⟩ := ptrs_at h X B l c
      rw [hm]
      by_cases hl2 : 2 < blen h (abs h l)
      · refine mend_left w p gc n cC (X.length + 1) (ptr h c) (ptr h l) K Ac Al _ cc _ cl _ hN (by omega) (by omega) kc hc2 (by omega) kl hl2 ?_
        refine Calls.mr (pair_left w F p K _ ks _ X.length _ h l c (X.length + 1) s2 (by simp [ptrs]) rfl q1 q2 (by rw [ptrs_len, hn]; omega) (by omega) (by omega) fl.1 fc.1 hl2) ?_
        intro E w' hp
        refine mr_pair (X := X) hp ?_
        unfold bmend
        rw [if_neg hc, hgl]
        simp only [hll, e0, hdl]
        rw [if_pos hl2]
      · rcases B with _ | ⟨r, B'⟩
        · refine mend_joinl w p gc n cC (X.length + 1) (ptr h c) (ptr h l) K Ac Al _ cc _ cl _ hN (by omega) (by omega) kc hc2 (by omega) kl (by omega) (by simp at hnl; omega) ?_
          rw [show (((X.length + 1 : Nat) : Int) - 1) = (X.length : Int) by omega]
          refine Calls.mr (pair_join w F p K _ ks _ X.length _ h l c s2 (by simp [ptrs]) q1 q2 (by rw [ptrs_len, hn]; omega) (by omega) (by omega) fl.1 fc.1 fc.2) ?_
          intro E w' hp
          refine mr_one (X := X) rfl hp ?_
          unfold bmend
          rw [if_neg hc, hgl]
          simp only [hll, e0, hdl, List.map_nil]
          rw [if_neg hl2]
        · have fr := fine r (by simp)
          obtain ⟨Ar, cr, kr⟩ := kf_of hok (j := X.length + 1 + 1) (k := r) (by rw [show X ++ l :: c :: r :: B' = (X ++ [l] ++ [c]) ++ r :: B' by simp, List.getElem?_append_right (by simp)]; simp)
          have hlB : (r :: B').length = B'.length + 1 := rfl
          rw [hlB] at hnl hkn
          by_cases hr : 2 < blen h (abs h r)
          · refine mend_right w p gc n cC (X.length + 1) (ptr h c) (ptr h l) (ptr h r) K Ac Al Ar _ cc _ cl _ cr _ hN (by omega) (by omega) kc hc2 (by omega) kl (by omega) (by omega) kr hr ?_
            have hXc : X ++ l :: c :: r :: B' = (X ++ [l]) ++ c :: r :: B' := by simp
            rw [hXc] at s
            have s3 := open_two (X := X ++ [l]) s
            obtain ⟨q3, q4⟩ := ptrs_at h (X ++ [l]) B' c r
            rw [hAX] at q3 q4
            refine Calls.mr (pair_right w F p K _ ks _ (X.length + 1) _ h c r s3 (by simp [ptrs]; omega) q3 q4 (by rw [ptrs_len, ← hXc, hn]; omega) (by omega) (by omega) fc.1 fr.1 hr) ?_
            intro E w' hp
            refine mr_pair (X := X ++ [l]) hp ?_
            unfold bmend
            rw [if_neg hc, hgl]
            simp only [hll, e0, hdl, List.map_cons]
            rw [if_neg hl2, if_pos hr, hm]
          · refine mend_joinl2 w p gc n cC (X.length + 1) (ptr h c) (ptr h l) (ptr h r) K Ac Al Ar _ cc _ cl _ cr _ hN (by omega) (by omega) kc hc2 (by omega) kl (by omega) (by omega) kr (by omega) ?_
            rw [show (((X.length + 1 : Nat) : Int) - 1) = (X.length : Int) by omega]
            refine Calls.mr (pair_join w F p K _ ks _ X.length _ h l c s2 (by simp [ptrs]) q1 q2 (by rw [ptrs_len, hn]; omega) (by omega) (by omega) fl.1 fc.1 fc.2) ?_
            intro E w' hp
            refine mr_one (X := X) rfl hp ?_
            unfold bmend
            rw [if_neg hc, hgl]
            simp only [hll, e0, hdl, List.map_cons]
            rw [if_neg hl2, if_neg hr]
end Go.Proofs.Bt
end
section
namespace Go.Proofs.Bt
open Go Go.RowKit Go.Proofs.Ytjaddmflopahiaa.Q Go.Proofs.YtjaddmflopahiaaW.PrintWords Go.Proofs.YtjaddmflopahiaaW.PrintLast Go.Proofs.YtjaddmflopahiaaW.PrintMore
set_option linter.unusedVariables false
set_option linter.unusedSimpArgs false
structure Pg where
  leaf : Bool
  K : Value
  C : Value
  ks : List S29
  kids : List Int
abbrev PgA := Bool × List S29 × List Int
def Pg.a (p : Pg) : PgA := (p.leaf, p.ks, p.kids)
def encPg (p : Pg) : List Value := [.bool p.leaf, p.K, p.C]
def encPgs (l : List Pg) : List Value := l.flatMap encPg
def encIs (l : List Int) : List Value := l.map (.int .i64)
theorem encPgs_len (l : List Pg) : (encPgs l).length = l.length * 3 := by
  induction l with
  | nil => rfl
  | cons p l ih =>
    show (encPg p ++ encPgs l).length = _
    rw [List.length_append, ih]
    simp [encPg]
    omega
def RowPg (w : World) (v : Value) (l : List Pg) : Prop := Row w 35 3 v l.length (encPgs l)
def RowI (w : World) (v : Value) (l : List Int) : Prop := Row w 3 1 v l.length (encIs l)
theorem RowI.move {w w' : World} {v : Value} {l : List Int} (h : RowI w v l) (hm : ∀ k, v.ownBlock = some k → w'.heap[k]? = w.heap[k]?) : RowI w' v l := Row.move h hm
theorem RowE.move' {w w' : World} {v : Value} {l : List S29} (h : RowE w v l) (hm : ∀ k, v.ownBlock = some k → w'.heap[k]? = w.heap[k]?) : RowE w' v l := Row.move h hm
def PgOk (w : World) (p : Pg) : Prop := RowE w p.K p.ks ∧ RowI w p.C p.kids
def pgB (p : Pg) : List Nat := bl p.K ++ bl p.C
theorem PgOk.move {w w' : World} {p : Pg} (h : PgOk w p) (hm : ∀ b ∈ pgB p, w'.heap[b]? = w.heap[b]?) : PgOk w' p :=
  ⟨RowE.move' h.1 fun k hk => hm k (List.mem_append_left _ (bl_mem.2 hk)), RowI.move h.2 fun k hk => hm k (List.mem_append_right _ (bl_mem.2 hk))⟩
theorem PgOk.lt {w : World} {p : Pg} (h : PgOk w p) : ∀ b ∈ pgB p, b < w.heap.size := fun b hb => (List.mem_append.1 hb).elim (fun hb => Row.lt h.1 b (bl_mem.1 hb)) (fun hb => Row.lt h.2 b (bl_mem.1 hb))
def pagesC (v : Value) (l : List Pg) : Chunk := ⟨fun w => RowPg w v l ∧ ∀ p ∈ l, PgOk w p, bl v ++ l.flatMap pgB,
  fun h x hx => (List.mem_append.1 hx).elim (fun hx => Row.lt h.1 x (bl_mem.1 hx)) (fun hx => by obtain ⟨p, hp, hx⟩ := List.mem_flatMap.1 hx; exact (h.2 p hp).lt x hx),
  fun h hm => ⟨Row.move h.1 fun k hk => hm k (List.mem_append_left _ (bl_mem.2 hk)), fun p hp => (h.2 p hp).move fun b hb => hm b (List.mem_append_right _ (List.mem_flatMap.2 ⟨p, hp, hb⟩))⟩⟩
def rowIC (v : Value) (l : List Int) : Chunk := ⟨fun w => RowI w v l, bl v, fun h x hx => Row.lt h x (bl_mem.1 hx), fun h hm => Row.move h fun k hk => hm k (bl_mem.2 hk)⟩
theorem info35 : (Try.prog.info? 35).map (fun i => (i.zero, i.size, i.bytes)) = some (some (.agg #[.bool false, .slice none 0 0, .slice none 0 0]), 3, 56) := by kernel_rfl
theorem info3 : (Try.prog.info? 3).map (fun i => (i.zero, i.size, i.bytes)) = some (some (.int .i64 0), 1, 8) := by kernel_rfl
theorem row_one {w : World} {e : TypeId} {sz n : Nat} {v : Value} {xs : List Value} (h : Row w e sz v n xs) : v.oneCell' = true := by
  rcases h.2.2 with ⟨rfl, _⟩ | ⟨g, cap, cur, rfl, _⟩ <;> rfl
theorem appendPg (w : World) (v : Value) (l : List Pg) (lf : Bool) (K : Value) (hK : K.oneCell' = true) (ks : List S29) (vb : Nat) (ty : TypeId) (hR : RowPg w v l) (hv : w.heap[vb]? = some (.cells #[.bool lf, K, .slice none 0 0] 35 (0, 0))) (hn : l.length < 100000) :
    ∃ g c w', (Builtin.append_ #[31, 31] ty #[v, .slice (some ⟨vb, 0, none⟩) 1 1]).run Try.prog w = .ok (.slice (some ⟨g, 0, none⟩) (l.length + 1) c) w' ∧ RowPg w' (.slice (some ⟨g, 0, none⟩) (l.length + 1) c) (l ++ [⟨lf, K, .slice none 0 0, ks, []⟩]) ∧ w.grownBy w' v.ownBlock ∧ Owns w v (.slice (some ⟨g, 0, none⟩) (l.length + 1) c) := by
  obtain ⟨i0, hi0, hz0, hzs, hzb⟩ := info_parts info35
  obtain ⟨v', w', h1, h2, h3, h4⟩ := run_append_R (P := Try.prog) w 31 ty 35 i0 _ 3 56 Try.underlying31 hi0 hz0 hzs hzb rfl (by decide) (by decide) v l.length (encPgs l) hR ⟨vb, 0, none⟩ 1 1 [.bool lf, K, .slice none 0 0] rfl (fun j u hu => by
    rw [Addr.add_lit, Nat.zero_add, cell_of_row w vb j _ 35 (0, 0) hv, ← hu, List.getElem?_toArray]) (fun u hu => by
    simp only [List.mem_cons, List.not_mem_nil, or_false] at hu
    rcases hu with rfl | rfl | rfl
    · rfl
    · exact hK
    · rfl) (by omega)
  obtain ⟨g, c, rfl, _⟩ := row_slice h2 (by omega)
  refine ⟨g, c, w', h1, ?_, h3, h4⟩
  unfold RowPg
  rw [List.length_append, List.length_singleton]
  have : encPgs (l ++ [⟨lf, K, .slice none 0 0, ks, []⟩]) = encPgs l ++ [.bool lf, K, .slice none 0 0] := by simp [encPgs, encPg]
  rw [this]
  exact h2
theorem appendI (w : World) (v : Value) (l : List Int) (x : Int) (vb : Nat) (ty : TypeId) (hR : RowI w v l) (hv : w.heap[vb]? = some (.cells #[.int .i64 x] 3 (0, 0))) (hn : l.length < 100000) :
    ∃ g c w', (Builtin.append_ #[33, 33] ty #[v, .slice (some ⟨vb, 0, none⟩) 1 1]).run Try.prog w = .ok (.slice (some ⟨g, 0, none⟩) (l.length + 1) c) w' ∧ RowI w' (.slice (some ⟨g, 0, none⟩) (l.length + 1) c) (l ++ [x]) ∧ w.grownBy w' v.ownBlock ∧ Owns w v (.slice (some ⟨g, 0, none⟩) (l.length + 1) c) := by
  obtain ⟨i0, hi0, hz0, hzs, hzb⟩ := info_parts info3
  obtain ⟨v', w', h1, h2, h3, h4⟩ := run_append_R (P := Try.prog) w 33 ty 3 i0 _ 1 8 Try.underlying33 hi0 hz0 hzs hzb rfl (by decide) (by decide) v l.length (encIs l) hR ⟨vb, 0, none⟩ 1 1 [.int .i64 x] rfl (fun j u hu => by
    rw [Addr.add_lit, Nat.zero_add, cell_of_row w vb j _ 3 (0, 0) hv, ← hu, List.getElem?_toArray]) (by simp [Value.oneCell']) (by omega)
  obtain ⟨g, c, rfl, _⟩ := row_slice h2 (by omega)
  refine ⟨g, c, w', h1, ?_, h3, h4⟩
  unfold RowI
  rw [List.length_append, List.length_singleton]
  have : encIs (l ++ [x]) = encIs l ++ [.int .i64 x] := by simp [encIs]
  rw [this]
  exact h2
section
variable {w0 w w' : World} {F : Nat → Prop} {R : List Chunk} {v v' K : Value} {l : List Pg} {ks : List S29} {lf : Bool}
theorem St.page (s : St w0 F w (pagesC v l :: rowEC K ks :: R)) (hg : w.grownBy w' v.ownBlock) (hr : RowPg w' v' (l ++ [⟨lf, K, .slice none 0 0, ks, []⟩])) (ho : Owns w v v') : St w0 F w' (pagesC v' (l ++ [⟨lf, K, .slice none 0 0, ks, []⟩]) :: R) := by
  have hp : RowPg w v l ∧ ∀ p ∈ l, PgOk w p := s.h (pagesC v l) (by simp)
  have hK : RowE w K ks := s.h (rowEC K ks) (by simp)
  have hnd := s.nd
  have hnil : bl (.slice none 0 0) = [] := rfl
  have hfA : ∀ x, (fpc [pagesC v l, rowEC K ks]).count x = (bl v).count x + (l.flatMap pgB).count x + (bl K).count x := fun x => by
    simp only [fpc, pagesC, rowEC, List.flatMap_cons, List.flatMap_nil, List.count_append, List.count_nil]
    omega
  have hfB : ∀ x, (fpc [pagesC v' (l ++ [⟨lf, K, .slice none 0 0, ks, []⟩])]).count x = (bl v').count x + (l.flatMap pgB).count x + (bl K).count x := fun x => by
    simp only [fpc, pagesC, pgB, hnil, List.flatMap_append, List.flatMap_cons, List.flatMap_nil, List.count_append, List.count_nil]
    omega
  have hA : ∀ x, (bl v).count x + (l.flatMap pgB).count x + (bl K).count x ≤ 1 := fun x => by
    have h1 := hnd x
    have h2 : fpc (pagesC v l :: rowEC K ks :: R) = fpc [pagesC v l, rowEC K ks] ++ fpc R := by simp [fpc]
    rw [h2, List.count_append, hfA] at h1
    omega
  have hold : ∀ x, 0 < (l.flatMap pgB).count x ∨ 0 < (bl K).count x → x < w.heap.size := fun x hx => by
    rcases hx with hx | hx
    · obtain ⟨p, hp2, hx⟩ := List.mem_flatMap.1 (count_mem.2 hx)
      exact (hp.2 p hp2).lt x hx
    · exact Row.lt hK x (bl_mem.1 (count_mem.2 hx))
  have hkeep : ∀ x, (0 < (l.flatMap pgB).count x ∨ 0 < (bl K).count x) → w'.heap[x]? = w.heap[x]? := fun x hx => hg.block x (hold x hx) fun e => by
    have h1 := hA x
    have h2 : 0 < (bl v).count x := count_mem.1 (bl_mem.2 e.symm)
    omega
  have hbv : ∀ x, 0 < (bl v').count x → 0 < (bl v).count x ∨ w.heap.size ≤ x := fun x hx => (bl_sub ho x (count_mem.2 hx)).imp (fun h => count_mem.1 h) id
  refine St.frame (A := [pagesC v l, rowEC K ks]) (B := [pagesC v' (l ++ [⟨lf, K, .slice none 0 0, ks, []⟩])]) s ⟨hg.os, hg.tape, hg.output, hg.size, fun k hk hf => hg.block k hk fun e => hf (count_mem.2 ?_)⟩ ?_ ?_ ?_
  · rw [hfA]
    have := count_mem.1 (bl_mem.2 e.symm)
    omega
  · intro c hc
    simp at hc
    subst hc
    refine ⟨hr, fun p hp2 => ?_⟩
    rcases List.mem_append.1 hp2 with hp2 | hp2
    · exact (hp.2 p hp2).move fun b hb => hkeep b (.inl (count_mem.1 (List.mem_flatMap.2 ⟨p, hp2, hb⟩)))
    · simp at hp2
      subst hp2
      exact ⟨RowE.move' hK fun k hk => hkeep k (.inr (count_mem.1 (bl_mem.2 hk))), Row.nil _ _ _⟩
  · intro x
    rw [hfB]
    have h1 := hA x
    by_cases hx : 0 < (bl v').count x
    · have h2 := nd_bl v' x
      rcases hbv x hx with h3 | h3
      · omega
      · by_cases hy : 0 < (l.flatMap pgB).count x ∨ 0 < (bl K).count x
        · have := hold x hy
          omega
        · omega
    · omega
  · intro x hx
    have hx := count_mem.1 hx
    rw [hfB] at hx
    by_cases hy : 0 < (bl v').count x
    · exact (hbv x hy).imp (fun h => count_mem.2 (by rw [hfA]; omega)) id
    · exact .inl (count_mem.2 (by rw [hfA]; omega))
theorem encPgs_set : ∀ (l : List Pg) (i : Nat) (p : Pg) (C : Value) (is : List Int), l[i]? = some p → (encPgs l).set (i * 3 + 2) C = encPgs (l.set i ⟨p.leaf, p.K, C, p.ks, is⟩)
  | [], i, p, C, is, h => by simp at h
  | q :: l, 0, p, C, is, h => by
    simp at h
    subst h
    rfl
  | q :: l, i + 1, p, C, is, h => by
    have ih := encPgs_set l i p C is (by simpa using h)
    show (encPg q ++ encPgs l).set ((i + 1) * 3 + 2) C = encPg q ++ encPgs (l.set i _)
    rw [← ih, List.set_append_right _ _ (by simp [encPg]; omega)]
    simp only [encPg, List.length_cons, List.length_nil]
    rw [show (i + 1) * 3 + 2 - (0 + 1 + 1 + 1) = i * 3 + 2 by omega]
theorem St.kids {g n c i : Nat} {p : Pg} {C : Value} {is : List Int} (s : St w0 F w (pagesC (.slice (some ⟨g, 0, none⟩) n c) l :: rowIC C is :: R)) (hi : l[i]? = some p) (hpC : p.C = .slice none 0 0) :
    St w0 F (w.setCell ⟨g, i * 3 + 2, none⟩ C) (pagesC (.slice (some ⟨g, 0, none⟩) n c) (l.set i ⟨p.leaf, p.K, C, p.ks, is⟩) :: R) := by
  have hp : RowPg w (.slice (some ⟨g, 0, none⟩) n c) l ∧ ∀ p ∈ l, PgOk w p := s.h (pagesC (.slice (some ⟨g, 0, none⟩) n c) l) (by simp)
  have hK : RowI w C is := s.h (rowIC C is) (by simp)
  have hnd := s.nd
  have hnil : bl (.slice none 0 0) = [] := rfl
  have hpm : p ∈ l := List.mem_of_getElem? hi
  obtain ⟨X, Y, hX, hX2, hXi⟩ := set_split (⟨p.leaf, p.K, C, p.ks, is⟩ : Pg) hi
  have hbs : ∀ x, (l.flatMap pgB).count x + (bl C).count x = ((l.set i ⟨p.leaf, p.K, C, p.ks, is⟩).flatMap pgB).count x := fun x => by
    rw [hX2]
    conv => lhs; rw [hX]
    simp only [pgB, hpC, hnil, List.flatMap_append, List.flatMap_cons, List.count_append, List.count_nil]
    omega
  have hfA : ∀ x, (fpc [pagesC (.slice (some ⟨g, 0, none⟩) n c) l, rowIC C is]).count x = [g].count x + (l.flatMap pgB).count x + (bl C).count x := fun x => by
    simp only [fpc, pagesC, rowIC, bl_slice, List.flatMap_cons, List.flatMap_nil, List.count_append, List.count_nil]
    omega
  have hfB : ∀ x, (fpc [pagesC (.slice (some ⟨g, 0, none⟩) n c) (l.set i ⟨p.leaf, p.K, C, p.ks, is⟩)]).count x = (fpc [pagesC (.slice (some ⟨g, 0, none⟩) n c) l, rowIC C is]).count x := fun x => by
    rw [hfA]
    have := hbs x
    simp only [fpc, pagesC, bl_slice, List.flatMap_cons, List.flatMap_nil, List.append_nil, List.count_append]
    omega
  have hA : ∀ x, [g].count x + (l.flatMap pgB).count x + (bl C).count x ≤ 1 := fun x => by
    have h1 := hnd x
    have h2 : fpc (pagesC (.slice (some ⟨g, 0, none⟩) n c) l :: rowIC C is :: R) = fpc [pagesC (.slice (some ⟨g, 0, none⟩) n c) l, rowIC C is] ++ fpc R := by simp [fpc]
    rw [h2, List.count_append, hfA] at h1
    omega
  have hgc : [g].count g = 1 := by simp
  have hkeep : ∀ x, x ≠ g → (w.setCell ⟨g, i * 3 + 2, none⟩ C).heap[x]? = w.heap[x]? := fun x hx => Below.heap_setCell w ⟨g, i * 3 + 2, none⟩ C x hx
  have hsz : (w.setCell ⟨g, i * 3 + 2, none⟩ C).heap.size = w.heap.size := by simp [World.setCell]
  refine St.frame (A := [pagesC (.slice (some ⟨g, 0, none⟩) n c) l, rowIC C is]) (B := [pagesC (.slice (some ⟨g, 0, none⟩) n c) (l.set i ⟨p.leaf, p.K, C, p.ks, is⟩)]) s (keep_set w g _ C _ (count_mem.2 (by rw [hfA]; omega))) ?_ ?_ ?_
  · intro d hd
    simp at hd
    subst hd
    refine ⟨?_, fun q hq => ?_⟩
    · obtain ⟨h0, h1, h2⟩ := hp.1
      rcases h2 with ⟨h2, _⟩ | ⟨g', cap, cur, hv, hg, hn, hm, hs, ht⟩
      · simp at h2
      · simp at hv
        obtain ⟨rfl, hnn, rfl⟩ := hv
        subst hnn
        have b1 := blk_put hg (i * 3 + 2) C rfl
        have he := encPgs_set l i p C is hi
        refine ⟨encPgs_len _, ?_, .inr ⟨g, c, _, by rw [List.length_set], b1, by rw [List.length_set]; exact hn, hm, by simpa using hs, ?_⟩⟩
        · rw [← he]
          intro u hu
          rcases List.mem_or_eq_of_mem_set hu with hu | rfl
          · exact h1 u hu
          · exact row_one hK
        · rw [← he, ← ht, List.length_set]
          simp [List.take_set]
    · have hfar : ∀ (q : Pg), (∀ b ∈ pgB q, b ≠ g) → PgOk w q → PgOk (w.setCell ⟨g, i * 3 + 2, none⟩ C) q := fun q hb ho => ho.move fun b hbq => hkeep b (hb b hbq)
      have hsep : ∀ x, 0 < (l.flatMap pgB).count x ∨ 0 < (bl C).count x → x ≠ g := fun x hx e => by
        subst e
        have := hA x
        omega
      rcases List.mem_or_eq_of_mem_set hq with hq | rfl
      · exact hfar q (fun b hb => hsep b (.inl (count_mem.1 (List.mem_flatMap.2 ⟨q, hq, hb⟩)))) (hp.2 q hq)
      · refine ⟨RowE.move' (hp.2 p hpm).1 fun k hk => hkeep k (hsep k (.inl (count_mem.1 (List.mem_flatMap.2 ⟨p, hpm, List.mem_append_left _ (bl_mem.2 hk)⟩)))), RowI.move hK fun k hk => hkeep k (hsep k (.inr (count_mem.1 (bl_mem.2 hk))))⟩
  · intro x
    rw [hfB, hfA]
    exact hA x
  · intro x hx
    have hx := count_mem.1 hx
    rw [hfB] at hx
    exact .inl (count_mem.2 hx)
theorem St.setI {cs : List Chunk} {u u' : Value} {is is' : List Int} (s : St w0 F w cs) (i : Nat) (hi : cs[i]? = some (rowIC u is)) (hg : w.grownBy w' u.ownBlock) (hr : RowI w' u' is') (ho : Owns w u u') : St w0 F w' (cs.set i (rowIC u' is')) :=
  s.upd i hi _ (keep_row hg) hr (nd_bl u') (bl_sub ho)
end
end Go.Proofs.Bt
end
section
namespace Go.Proofs.Bt
open Go Go.RowKit Go.Proofs.Ytjaddmflopahiaa.Q Go.Proofs.YtjaddmflopahiaaW.PrintWords Go.Proofs.YtjaddmflopahiaaW.PrintLast Go.Proofs.YtjaddmflopahiaaW.PrintMore
set_option linter.unusedVariables false
set_option linter.unusedSimpArgs false
set_option maxRecDepth 100000
def CutPost (h : Nat) (w : World) (m : MT h) (e : S29) (E : Ending) (w' : World) : Prop :=
  ∃ m' : MT h, E = .returned (.bool (bcut h (abs h m) e).2) ∧ ptr h m' = ptr h m ∧ abs h m' = (bcut h (abs h m) e).1 ∧ St w (fun b => b ∈ fpc [treeC h m]) w' [treeC h m']
theorem fpc_tree {h : Nat} (m : MT h) (a : Nat) : a ∈ fpc [treeC h m] ↔ a ∈ fp h m := by simp [fpc, treeC]
theorem cut_zero (w : World) (m : MT 0) (e : S29) (s : St w (fun b => b ∈ fpc [treeC 0 m]) w [treeC 0 m]) (hf : CutFit e 0 (abs 0 m)) : Calls Try.prog 29 #[.pointer (some ⟨ptr 0 m, 0, none⟩), entryV e] w (CutPost 0 w m e) := by
  obtain ⟨p, K, ks⟩ := m
  have hok : Ok w 0 (⟨p, K, ks⟩ : Leaf) := s.get 0 rfl
  obtain ⟨hN, hR⟩ := hok
  have f1 : ks.length < 900 := hf.1
  have f2 : Mono ks e := hf.2
  have hnd : ND (p :: bl K) := s.ndi 0 rfl
  have hKp : K.ownBlock ≠ some p := fun h => by
    have h1 := hnd p
    have h2 := count_mem.1 (bl_mem.2 h)
    rw [List.count_cons_self] at h1
    omega
  refine (cut_leaf w p K ks e hN hR (by omega) f2 hKp).mono ?_
  rintro E w' ⟨K', rfl, h1, h2, h3, h4⟩
  have hbl : bl K' = bl K := by unfold bl; rw [h3]
  have hfp : fp 0 (⟨p, K', if found ks e = true then delAt ks (low ks e) else ks⟩ : Leaf) = fp 0 (⟨p, K, ks⟩ : Leaf) := by
    show p :: bl K' = p :: bl K
    rw [hbl]
  refine ⟨(⟨p, K', if found ks e = true then delAt ks (low ks e) else ks⟩ : Leaf), rfl, rfl, rfl, ⟨?_, ?_, ?_, ?_⟩⟩
  · refine ⟨h4.os, h4.tape, h4.output, h4.size, fun k hk hn => h4.block k hk fun hh => hn ((fpc_tree _ _).2 ?_)⟩
    rcases hh with rfl | hh
    · exact List.mem_cons_self
    · exact List.mem_cons_of_mem _ (bl_mem.2 hh.symm)
  · intro c hc
    simp at hc
    subst hc
    exact ⟨h1, h2⟩
  · intro a
    have := s.nd a
    simp only [fpc, treeC, List.flatMap_cons, List.flatMap_nil, List.append_nil] at this ⊢
    rw [hfp]
    exact this
  · intro b hb
    have hb2 := (fpc_tree (h := 0) (⟨p, K', if found ks e = true then delAt ks (low ks e) else ks⟩ : Leaf) b).1 hb
    rw [hfp] at hb2
    exact .inl ((fpc_tree (h := 0) _ _).2 hb2)
theorem open_one {w0 w : World} {F : Nat → Prop} {R : List Chunk} {p h : Nat} {K C : Value} {ks : List S29} {X Y : List (MT h)} {k : MT h} (s : St w0 F w (treeC (h + 1) (⟨p, K, C, ks, X ++ k :: Y⟩ : Inner (MT h)) :: R)) :
    St w0 F w (treeC h k :: nodeC p K C :: rowEC K ks :: rowPC C (ptrs h (X ++ k :: Y)) :: forC h (X ++ Y) :: R) := by
  have hA : Ok w (h + 1) (⟨p, K, C, ks, X ++ k :: Y⟩ : Inner (MT h)) := s.h (treeC (h + 1) (⟨p, K, C, ks, X ++ k :: Y⟩ : Inner (MT h))) (by simp)
  refine St.tell (A := [treeC (h + 1) (⟨p, K, C, ks, X ++ k :: Y⟩ : Inner (MT h))]) (B := [treeC h k, nodeC p K C, rowEC K ks, rowPC C (ptrs h (X ++ k :: Y)), forC h (X ++ Y)]) s (fun hh => ?_) (fun x => ?_)
  · obtain ⟨a1, a2, a3, a4, a5⟩ := hA
    have a5' : ∀ j ∈ X ++ k :: Y, Ok w h j := a5
    intro d hd
    simp only [List.mem_cons, List.not_mem_nil, or_false] at hd
    rcases hd with rfl | rfl | rfl | rfl | rfl
    · exact a5' k (by simp)
    · exact a1
    · exact a2
    · show Row w 59 1 C (ptrs h (X ++ k :: Y)).length (ptrs h (X ++ k :: Y))
      rw [ptrs_len]
      exact a3
    · intro j hj
      rcases List.mem_append.1 hj with hj | hj
      · exact a5' j (by simp [hj])
      · exact a5' j (by simp [hj])
  · simp only [fpc, nodeC, rowEC, rowPC, treeC, forC, fp, List.flatMap_append, List.flatMap_cons, List.flatMap_nil, List.count_append, List.count_cons, List.count_nil]
    omega
theorem shut_one' {w0 w : World} {F : Nat → Prop} {R : List Chunk} {p h : Nat} {K C : Value} {ks : List S29} {ps : List Value} {X Y : List (MT h)} {l : MT h} (s : St w0 F w (treeC h l :: nodeC p K C :: rowEC K ks :: rowPC C ps :: forC h (X ++ Y) :: R)) (hp : ps = ptrs h (X ++ l :: Y)) :
    St w0 F w (treeC (h + 1) (⟨p, K, C, ks, X ++ l :: Y⟩ : Inner (MT h)) :: R) := by
  refine shut_one (s.perm ?_) hp
  have : one4 p K C ks ps h l ++ (forC h (X ++ Y) :: R) = [nodeC p K C, rowEC K ks, rowPC C ps] ++ treeC h l :: (forC h (X ++ Y) :: R) := rfl
  rw [this]
  exact (List.perm_middle (a := treeC h l) (l₁ := [nodeC p K C, rowEC K ks, rowPC C ps]) (l₂ := forC h (X ++ Y) :: R)).symm
set_option maxHeartbeats 4000000 in
theorem cut_succ (h : Nat) (IH : ∀ (w : World) (m : MT h) (e : S29), St w (fun b => b ∈ fpc [treeC h m]) w [treeC h m] → CutFit e h (abs h m) → Calls Try.prog 29 #[.pointer (some ⟨ptr h m, 0, none⟩), entryV e] w (CutPost h w m e))
    (w : World) (m : MT (h + 1)) (e : S29) (s : St w (fun b => b ∈ fpc [treeC (h + 1) m]) w [treeC (h + 1) m]) (hf : CutFit e (h + 1) (abs (h + 1) m)) : Calls Try.prog 29 #[.pointer (some ⟨ptr (h + 1) m, 0, none⟩), entryV e] w (CutPost (h + 1) w m e) := by
  have mixed : Try.prog.follows Departure.mixedOrders = true := by kernel_rfl
  have hu29 := Try.underlying29
  obtain ⟨p, K, C, ks, kids⟩ := m
  obtain ⟨f1, f2, f3, f4, f5⟩ := hf
  change 1 ≤ ks.length at f1
  change ks.length < 900 at f2
  change Mono ks e at f3
  change (kids.map (abs h)).length = ks.length + 1 at f4
  change ∀ k ∈ kids.map (abs h), CutFit e h k ∧ 2 ≤ blen h k at f5
  rw [List.length_map] at f4
  have hix := kidIx_le ks e
  obtain ⟨A, k, B, rfl, hA⟩ := cut_at kids (kidIx ks e) (by omega)
  have hbc := bcut_at h ks (A.map (abs h)) (abs h k) (B.map (abs h)) e (by rw [List.length_map]; exact hA)
  have hbc' : bcut (h + 1) (abs (h + 1) (⟨p, K, C, ks, A ++ k :: B⟩ : Inner (MT h))) e = (bmend h ks (A.map (abs h)) (bcut h (abs h k) e).1 (B.map (abs h)), (bcut h (abs h k) e).2) := by
    rw [← hbc]
    show bcut (h + 1) (ks, (A ++ k :: B).map (abs h)) e = _
    rw [List.map_append, List.map_cons]
  have fk := f5 (abs h k) (by simp)
  obtain ⟨b, hb⟩ : ∃ b, (bcut h (abs h k) e).2 = b := ⟨_, rfl⟩
  obtain ⟨R, hR⟩ : ∃ R, CutPost (h + 1) w (⟨p, K, C, ks, A ++ k :: B⟩ : Inner (MT h)) e = R := ⟨_, rfl⟩
  rw [hR]
  have HR := Aside0.mk hR
  have HBC := Aside0.mk hbc'
  have HB := Aside0.mk hb
  have HFK := Aside0.mk fk
  have HF5 := Aside0.mk f5
  have HF3 := Aside0.mk f3
  have HIH := Aside0.mk (fun w' s' => IH w' k e s' fk.1)
  have hrow : Row w 59 1 C (ptrs h (A ++ k :: B)).length (ptrs h (A ++ k :: B)) := by rw [ptrs_len]; exact (show Ok w (h + 1) (⟨p, K, C, ks, A ++ k :: B⟩ : Inner (MT h)) from s.get 0 rfl).2.2.1
  obtain ⟨gc, cC, rfl, hcC⟩ := rowP_form hrow (by rw [ptrs_len]; omega)
  rw [ptrs_len, f4] at s
  obtain ⟨i, hi⟩ : ∃ i, kidIx ks e = i := ⟨_, rfl⟩
  have HI := Aside0.mk hi
  rw [hi] at hA hix
  have HA := Aside0.mk hA
  obtain ⟨nk, hnk⟩ : ∃ n, ks.length = n := ⟨_, rfl⟩
  rw [hnk] at s f1 f2 f4 hix
  have HNK := Aside0.mk hnk
  have HPL := Aside0.mk (show (ptrs h (A ++ k :: B)).length = nk + 1 by rw [ptrs_len]; exact f4)
  have HPI := Aside0.mk (show (ptrs h (A ++ k :: B))[i]? = some (.pointer (some ⟨ptr h k, 0, none⟩)) by rw [← hA]; simp [ptrs, kidPtr])
  have hix2 : (i : Int) < (nk : Int) + 1 := by omega
  have hix3 : i < nk + 1 := by omega
  have hix0 : (0 : Int) ≤ (i : Int) := by omega
  have HF4 := Aside0.mk f4
  obtain ⟨n0, hn0⟩ : ∃ n, w.heap.size = n := ⟨_, rfl⟩
  have HS0 := Aside0.mk (s.alloc #[.string e.f0, .int .i64 e.f1.f0, .int .i64 e.f1.f1] 29 hn0)
  have HS := Aside0.mk (show St w (fun b => b ∈ fpc [treeC (h + 1) (⟨p, K, .slice (some ⟨gc, 0, none⟩) (nk + 1) cC, ks, A ++ k :: B⟩ : Inner (MT h))]) _ [treeC h k, nodeC p K (.slice (some ⟨gc, 0, none⟩) (nk + 1) cC), rowEC K ks, rowPC (.slice (some ⟨gc, 0, none⟩) (nk + 1) cC) (ptrs h (A ++ k :: B)), forC h (A ++ B), blkC n0 (.cells #[.string e.f0, .int .i64 e.f1.f0, .int .i64 e.f1.f1] 29 (0, 0))] from open_one HS0.out)
  clear s f3 f5 hbc hbc' fk hb hrow hi hR HS0 IH f4 hnk hA
  unfold entryV
  show Calls Try.prog 29 #[.pointer (some ⟨p, 0, none⟩), .agg #[.string e.f0, .int .i64 e.f1.f0, .int .i64 e.f1.f1]] w R
  obtain ⟨W0, hW0⟩ : ∃ W0, w.alloc (.cells #[.string e.f0, .int .i64 e.f1.f0, .int .i64 e.f1.f1] 29) = W0 := ⟨_, rfl⟩
  rw [hW0] at HS
  have b0 := blk_cell (HS.out.blk 5 rfl) 0
  have b1 := blk_cell (HS.out.blk 5 rfl) 1
  have b2 := blk_cell (HS.out.blk 5 rfl) 2
  go_enter Try.func29, Try.ntmps29
  go_wp2_with (first
    | (go_at_call 30; refine (leaf_no _ p K _ _ _ (HS.out.node 1 rfl) (by omega)).mono ?_; rintro E W0 ⟨rfl, rfl⟩)
    | (go_at_call 43; refine (kid_calls _ p K _ ks e (HS.out.node 1 rfl) (HS.out.rowE 2 rfl) (by rw [HNK.out]; omega) HF3.out).mono ?_; rintro E w1 ⟨rfl, hb⟩; rw [HI.out]; have HS1 := Aside0.mk (HS.out.below hb); clear hb HS b0 b1 b2))
  refine start_ (n := 10) (S := fun w' => w'.cell? ⟨p, 1, none⟩ = some (.slice (some ⟨gc, 0, none⟩) (nk + 1) cC) ∧ w'.cell? ⟨gc, i, none⟩ = some (.pointer (some ⟨ptr h k, 0, none⟩)) ∧ w'.cell? ⟨n0, 0, none⟩ = some (.string e.f0) ∧ w'.cell? ⟨n0, 1, none⟩ = some (.int .i64 e.f1.f0) ∧ w'.cell? ⟨n0, 2, none⟩ = some (.int .i64 e.f1.f1)) (ds := []) #[false, false, false, false, false, false, false, false, false, false] (by kernel_rfl) rfl rfl ⟨(HS1.out.node 1 rfl).c1, (HS1.out.rowP 3 rfl).cell (by rw [HPL.out]) i _ HPI.out, (blk_cell (HS1.out.blk 5 rfl) 0).trans rfl, (blk_cell (HS1.out.blk 5 rfl) 1).trans rfl, (blk_cell (HS1.out.blk 5 rfl) 2).trans rfl⟩ (fun hHeld => ?_)
  have HS2 := Aside0.mk (HS1.out.drew)
  clear HS1
  generalize w1.drew = w2 at HS2 hHeld  ⊢
  refine pure_ (i := 0) (N := (some 33)) (v := ?_) (a' := ?_) #[true, false, false, false, false, false, false, false, false, false] rfl rfl (by kernel_rfl) (fun _ _ _ h => h) (Or.inl ⟨by rfl, ?_⟩) ?_ ?_
  rotate_left
  · intro w'
    go_simp
    with_reducible rfl
  rotate_left
  · simp only [Act.put, List.setIfInBounds_toArray, List.set_cons_zero, List.set_cons_succ, i64_w, i32_w]
    rfl
  refine pure_ (i := 1) (N := (some 34)) (v := ?_) (a' := ?_) #[true, true, false, false, false, false, false, false, false, false] rfl rfl (by kernel_rfl) (fun _ _ _ h => h) (Or.inl ⟨by rfl, ?_⟩) ?_ ?_
  rotate_left
  · intro w'
    go_simp
    with_reducible rfl
  rotate_left
  · simp only [Act.put, List.setIfInBounds_toArray, List.set_cons_zero, List.set_cons_succ, i64_w, i32_w]
    rfl
  refine pure_ (i := 2) (N := (some 35)) (v := ?_) (a' := ?_) #[true, true, true, false, false, false, false, false, false, false] rfl rfl (by kernel_rfl) (fun _ _ _ h => h) (Or.inl ⟨by rfl, ?_⟩) ?_ ?_
  rotate_left
  · intro w'
    go_simp
    with_reducible rfl
  rotate_left
  · simp only [Act.put, List.setIfInBounds_toArray, List.set_cons_zero, List.set_cons_succ, i64_w, i32_w]
    rfl
  refine pure_ (i := 4) (N := (some 37)) (v := ?_) (a' := ?_) #[true, true, true, false, true, false, false, false, false, false] rfl rfl (by kernel_rfl) (fun _ _ _ h => h) (Or.inl ⟨by rfl, ?_⟩) ?_ ?_
  rotate_left
  · intro w'
    go_simp
    with_reducible rfl
  rotate_left
  · simp only [Act.put, List.setIfInBounds_toArray, List.set_cons_zero, List.set_cons_succ, i64_w, i32_w]
    rfl
  refine take_ (i := 3) (N := (some 36)) (v := ?_) (a' := ?_) #[true, true, true, true, true, false, false, false, false, false] rfl rfl (by kernel_rfl) (fun _ _ _ h => h) (Or.inl ⟨by rfl, ?_⟩) hHeld ?_ ?_
  rotate_left
  · rintro w' ⟨s0, s1, s2, s3, s4⟩
    go_simp
    with_reducible rfl
  rotate_left
  · simp only [Act.put, List.setIfInBounds_toArray, List.set_cons_zero, List.set_cons_succ, i64_w, i32_w]
    rfl
  refine pure_ (i := 5) (N := (some 38)) (v := ?_) (a' := ?_) #[true, true, true, true, true, true, false, false, false, false] rfl rfl (by kernel_rfl) (fun _ _ _ h => h) (Or.inl ⟨by rfl, ?_⟩) ?_ ?_
  rotate_left
  · intro w'
    go_simp
    with_reducible rfl
  rotate_left
  · simp only [Act.put, List.setIfInBounds_toArray, List.set_cons_zero, List.set_cons_succ, i64_w, i32_w]
    rfl
  refine take_ (i := 6) (N := (some 39)) (v := ?_) (a' := ?_) #[true, true, true, true, true, true, true, false, false, false] rfl rfl (by kernel_rfl) (fun _ _ _ h => h) (Or.inl ⟨by rfl, ?_⟩) hHeld ?_ ?_
  rotate_left
  · rintro w' ⟨s0, s1, s2, s3, s4⟩
    go_simp
    with_reducible rfl
  rotate_left
  · simp only [Act.put, List.setIfInBounds_toArray, List.set_cons_zero, List.set_cons_succ, i64_w, i32_w]
    rfl
  refine take_ (i := 7) (N := (some 40)) (v := ?_) (a' := ?_) #[true, true, true, true, true, true, true, true, false, false] rfl rfl (by kernel_rfl) (fun _ _ _ h => h) (Or.inl ⟨by rfl, ?_⟩) hHeld ?_ ?_
  rotate_left
  · rintro w' ⟨s0, s1, s2, s3, s4⟩
    go_simp
    with_reducible rfl
  rotate_left
  · simp only [Act.put, List.setIfInBounds_toArray, List.set_cons_zero, List.set_cons_succ, i64_w, i32_w]
    rfl
  refine one_ (i := 8) (N := (some 41)) #[true, true, true, true, true, true, true, true, true, false] rfl rfl (by kernel_rfl) (by decide) (fun K_ hK => ?_)
  refine goes_ Try.func29 (by kernel_rfl) rfl #[.pointer (some ⟨ptr h k, 0, none⟩), .agg #[.string e.f0, .int .i64 e.f1.f0, .int .i64 e.f1.f1]] (by rfl) rfl rfl (by (try simp only [List.map_toArray, List.map_cons, List.map_nil]); first | done | rfl) ?_
  refine (HIH.out _ (St.sub (A := [treeC h k]) HS2.out)).mono ?_
  rintro E w3 ⟨k', rfl, hpk, hak, st⟩
  have HS3 := Aside0.mk (St.call (A := [treeC h k]) HS2.out st)
  clear HS2
  rw [HB.out]
  have HPK := Aside0.mk hpk
  have HAK := Aside0.mk hak
  clear st hpk hak
  refine ⟨_, rfl, ?_⟩
  clear hHeld
  refine hK.out _ _ ⟨(HS3.out.node 1 rfl).c1, (HS3.out.rowP 3 rfl).cell (by rw [HPL.out]) i _ HPI.out, (blk_cell (HS3.out.blk 5 rfl) 0).trans rfl, (blk_cell (HS3.out.blk 5 rfl) 1).trans rfl, (blk_cell (HS3.out.blk 5 rfl) 2).trans rfl⟩ (fun hHeld => ?_)
  clear hK K_
  refine norm_ (a' := ?_) ?_ ?_
  rotate_left
  · show Act.put _ (some 41) _ = _
    simp only [Act.put, List.setIfInBounds_toArray, List.set_cons_zero, List.set_cons_succ, i64_w, i32_w]
    rfl
  refine pure_ (i := 9) (N := (some 8)) (v := ?_) (a' := ?_) #[true, true, true, true, true, true, true, true, true, true] rfl rfl (by kernel_rfl) (fun _ _ _ h => h) (Or.inl ⟨by rfl, ?_⟩) ?_ ?_
  rotate_left
  · intro w'
    go_simp
    with_reducible rfl
  rotate_left
  · simp only [Act.put, List.setIfInBounds_toArray, List.set_cons_zero, List.set_cons_succ, i64_w, i32_w]
    rfl
  refine done_ (by kernel_rfl) ?_
  have hsh := HS3.out
  have hsk := shut_one' (X := A) (Y := B) (l := k') (R := [blkC n0 (.cells #[.string e.f0, .int .i64 e.f1.f0, .int .i64 e.f1.f1] 29 (0, 0))]) hsh (by simp [ptrs, kidPtr, HPK.out])
  have HSK := Aside0.mk hsk
  have hshape := bcut_shape h (abs h k) e HFK.out.1
  rw [← HAK.out] at hshape
  have hfine : ∀ x ∈ A ++ k' :: B, Fine h (abs h x) ∧ 1 ≤ blen h (abs h x) := by
    intro x hx
    have ho : ∀ y, y ∈ A ++ k :: B → Fine h (abs h y) ∧ 2 ≤ blen h (abs h y) := fun y hy => by
      obtain ⟨q1, q2⟩ := HF5.out (abs h y) (List.mem_map_of_mem hy)
      exact ⟨⟨q1.lt, q1.kids⟩, q2⟩
    simp only [List.mem_append, List.mem_cons] at hx
    have hk2 := HFK.out.2
    have hkl := HFK.out.1.lt
    rcases hx with hx | rfl | hx
    · have := ho x (by simp [hx])
      exact ⟨this.1, by omega⟩
    · exact ⟨⟨by omega, hshape.2.2⟩, by omega⟩
    · have := ho x (by simp [hx])
      exact ⟨this.1, by omega⟩
  have hmd := mend_calls h w3 _ p K _ ks A k' B [] (St.sub (A := [treeC (h + 1) (⟨p, K, .slice (some ⟨gc, 0, none⟩) (nk + 1) cC, ks, A ++ k' :: B⟩ : Inner (MT h))]) hsk) (by have := HF4.out; rw [HNK.out]; simp at this ⊢; omega) (by rw [HNK.out]; omega) (by rw [HNK.out]; omega) hfine
  rw [HA.out] at hmd
  have HMD := Aside0.mk hmd
  clear hsh hsk hshape hfine hmd hHeld
  go_wp2_with (first
    | (go_at_call 50; refine HMD.out.mono ?_; rintro E w4 ⟨rfl, m3, hp3, ha3, st⟩; have HS4 := Aside0.mk (St.call (A := [treeC (h + 1) (⟨p, K, .slice (some ⟨gc, 0, none⟩) (nk + 1) cC, ks, A ++ k' :: B⟩ : Inner (MT h))]) HSK.out st); have HP3 := Aside0.mk hp3; have HA3 := Aside0.mk ha3; clear st hp3 ha3))
  rw [← HR.out]
  refine ⟨m3, ?_, HP3.out, ?_, (HS4.out.left)⟩
  · rw [HBC.out, HB.out]
    rfl
  · rw [HBC.out, HA3.out, HAK.out]
theorem cut_calls : ∀ (h : Nat) (w : World) (m : MT h) (e : S29), St w (fun b => b ∈ fpc [treeC h m]) w [treeC h m] → CutFit e h (abs h m) → Calls Try.prog 29 #[.pointer (some ⟨ptr h m, 0, none⟩), entryV e] w (CutPost h w m e)
  | 0, w, m, e, s, hf => cut_zero w m e s hf
  | h + 1, w, m, e, s, hf => cut_succ h (cut_calls h) w m e s hf
end Go.Proofs.Bt
end
section
namespace Go.Proofs.Bt
open Go Go.RowKit Go.Proofs.Ytjaddmflopahiaa.Q Go.Proofs.YtjaddmflopahiaaW.PrintWords Go.Proofs.YtjaddmflopahiaaW.PrintLast Go.Proofs.YtjaddmflopahiaaW.PrintMore
set_option linter.unusedVariables false
set_option linter.unusedSimpArgs false
set_option maxRecDepth 100000
theorem range_filterMap {α : Type} (l : List α) : (List.range l.length).filterMap (fun i => l[i]?) = l := by
  induction l with
  | nil => rfl
  | cons x l ih =>
    rw [List.length_cons, List.range_succ_eq_map, List.filterMap_cons]
    simp only [List.getElem?_cons_zero, List.filterMap_map]
    congr 1
theorem perm_ix {α : Type} (l : List α) (ix : List Nat) (n : Nat) (hn : l.length = n) (h : ix.Perm (List.range n)) : l.Perm (ix.filterMap (fun i => l[i]?)) := by
  subst hn
  have := h.symm.filterMap (fun i => l[i]?)
  rw [range_filterMap] at this
  exact this
def tatC (tp r : Nat) (cnt : Int) : Chunk := ⟨fun w => TreeAt w tp r cnt, [tp], fun h x hx => by simp at hx; subst hx; exact h.lt, fun h hm => (hm tp (by simp)).trans h⟩
section
variable {w0 w w' : World} {F : Nat → Prop} {cs : List Chunk} {tp r : Nat} {cnt : Int}
theorem St.tat (s : St w0 F w cs) (i : Nat) (hi : cs[i]? = some (tatC tp r cnt)) : TreeAt w tp r cnt := s.get i hi
theorem St.putR (s : St w0 F w cs) (i : Nat) (hi : cs[i]? = some (tatC tp r cnt)) (r' : Nat) : St w0 F (w.setCell ⟨tp, 0, none⟩ (.pointer (some ⟨r', 0, none⟩))) (cs.set i (tatC tp r' cnt)) :=
  s.upd i hi (tatC tp r' cnt) (keep_set w tp 0 _ _ (by simp [tatC])) (blk_put (s.tat i hi) 0 (.pointer (some ⟨r', 0, none⟩)) rfl) (nd_one tp) (fun b hb => .inl hb)
theorem St.putN (s : St w0 F w cs) (i : Nat) (hi : cs[i]? = some (tatC tp r cnt)) (n : Int) : St w0 F (w.setCell ⟨tp, 1, none⟩ (.int .i64 n)) (cs.set i (tatC tp r n)) :=
  s.upd i hi (tatC tp r n) (keep_set w tp 1 _ _ (by simp [tatC])) (blk_put (s.tat i hi) 1 (.int .i64 n) rfl) (nd_one tp) (fun b hb => .inl hb)
end
def treeT (tp h : Nat) (m : MT h) (cnt : Int) : List Chunk := [tatC tp (ptr h m) cnt, treeC h m]
def TDelPost (w : World) (tp h : Nat) (m : MT h) (cnt : Int) (e : S29) (E : Ending) (w' : World) : Prop :=
  ∃ (h' : Nat) (m' : MT h'), E = .returned (.bool (tcut h (abs h m) e).2) ∧ (⟨h', abs h' m'⟩ : Σ h, BT h) = (tcut h (abs h m) e).1 ∧
    St w (fun b => b ∈ fpc (treeT tp h m cnt)) w' (treeT tp h' m' (if (tcut h (abs h m) e).2 = true then cnt - 1 else cnt))
theorem tcut_no {h : Nat} {t : BT h} {e : S29} (hb : (bcut h t e).2 = false) : tcut h t e = (⟨h, (bcut h t e).1⟩, false) := by
  unfold tcut
  rw [if_neg (by rw [hb]; simp)]
theorem tcut_snd (h : Nat) (t : BT h) (e : S29) : (tcut h t e).2 = (bcut h t e).2 := by
  unfold tcut
  cases hb : (bcut h t e).2 with
  | false => rw [if_neg (by simp)]
  | true => rw [if_pos rfl]
theorem tcut_leaf {t : BT 0} {e : S29} (hb : (bcut 0 t e).2 = true) : (tcut 0 t e).1 = ⟨0, (bcut 0 t e).1⟩ := by
  unfold tcut
  rw [if_pos hb]
theorem tcut_keep {h : Nat} {t : BT h} {e : S29} (hb : (bcut h t e).2 = true) (hn : blen h (bcut h t e).1 ≠ 0) : (tcut h t e).1 = ⟨h, (bcut h t e).1⟩ := by
  unfold tcut
  rw [if_pos hb]
  cases h with
  | zero => rfl
  | succ h =>
    cases hx : (bcut (h + 1) t e).1 with
    | mk a b =>
      cases a with
      | nil => exact absurd (by rw [hx]; rfl) hn
      | cons y a => rfl
theorem tcut_drop {h : Nat} {t : BT (h + 1)} {e : S29} {k : BT h} {l : List (BT h)} (hb : (bcut (h + 1) t e).2 = true) (hn : (bcut (h + 1) t e).1 = (([], k :: l) : List S29 × List (BT h))) : (tcut (h + 1) t e).1 = ⟨h, k⟩ := by
  unfold tcut
  rw [if_pos hb]
  simp only [hn]
set_option maxHeartbeats 4000000 in
theorem tdelete_calls (w : World) (tp h : Nat) (m : MT h) (cnt : Int) (e : S29) (s : St w (fun b => b ∈ fpc (treeT tp h m cnt)) w (treeT tp h m cnt)) (hf : CutFit e h (abs h m)) (hc0 : 0 ≤ cnt) (hc1 : cnt < 1000000) :
    Calls Try.prog 15 #[.pointer (some ⟨tp, 0, none⟩), entryV e] w (TDelPost w tp h m cnt e) := by
  have hu29 := Try.underlying29
  have hu62 := Try.underlying62
  have hu64 := Try.underlying64
  obtain ⟨R, hR⟩ : ∃ R, TDelPost w tp h m cnt e = R := ⟨_, rfl⟩
  rw [hR]
  have HR := Aside0.mk hR
  obtain ⟨b, hb⟩ : ∃ b, (bcut h (abs h m) e).2 = b := ⟨_, rfl⟩
  have HB := Aside0.mk hb
  have HC := Aside0.mk (fun w' s' => cut_calls h w' m e s' hf)
  obtain ⟨r, hr⟩ : ∃ r, ptr h m = r := ⟨_, rfl⟩
  have s' : St w (fun b => b ∈ fpc (treeT tp h m cnt)) w [treeC h m, tatC tp (ptr h m) cnt] := s.perm (List.Perm.swap _ _ _)
  rw [hr] at HC s'
  have HRT := Aside0.mk hr
  obtain ⟨n0, hn0⟩ : ∃ n, w.heap.size = n := ⟨_, rfl⟩
  obtain ⟨W0, hW0⟩ : ∃ W0, w.alloc (.cells #[.string e.f0, .int .i64 e.f1.f0, .int .i64 e.f1.f1] 29) = W0 := ⟨_, rfl⟩
  have HS0 := Aside0.mk (s'.alloc #[.string e.f0, .int .i64 e.f1.f0, .int .i64 e.f1.f1] 29 hn0)
  rw [hW0] at HS0
  clear s s' hf hR hb hr
  unfold entryV
  show Calls Try.prog 15 #[.pointer (some ⟨tp, 0, none⟩), .agg #[.string e.f0, .int .i64 e.f1.f0, .int .i64 e.f1.f1]] w R
  go_enter Try.func15, Try.ntmps15
  go_wp2
  refine start_ (n := 7) (S := fun w' => w'.cell? ⟨tp, 0, none⟩ = some (.pointer (some ⟨r, 0, none⟩)) ∧ w'.cell? ⟨n0, 0, none⟩ = some (.string e.f0) ∧ w'.cell? ⟨n0, 1, none⟩ = some (.int .i64 e.f1.f0) ∧ w'.cell? ⟨n0, 2, none⟩ = some (.int .i64 e.f1.f1)) (ds := []) #[false, false, false, false, false, false, false] (by kernel_rfl) rfl rfl ⟨(HS0.out.tat 1 rfl).c0, (blk_cell (HS0.out.blk 2 rfl) 0).trans rfl, (blk_cell (HS0.out.blk 2 rfl) 1).trans rfl, (blk_cell (HS0.out.blk 2 rfl) 2).trans rfl⟩ (fun hHeld => ?_)
  have HS1 := Aside0.mk (HS0.out.drew)
  clear HS0
  generalize W0.drew = w1 at HS1 hHeld  ⊢
  refine pure_ (i := 0) (N := (some 5)) (v := ?_) (a' := ?_) #[true, false, false, false, false, false, false] rfl rfl (by kernel_rfl) (fun _ _ _ h => h) (Or.inl ⟨by rfl, ?_⟩) ?_ ?_
  rotate_left
  · intro w'
    go_simp
    with_reducible rfl
  rotate_left
  · simp only [Act.put, List.setIfInBounds_toArray, List.set_cons_zero, List.set_cons_succ, i64_w, i32_w]
    rfl
  refine pure_ (i := 1) (N := (some 6)) (v := ?_) (a' := ?_) #[true, true, false, false, false, false, false] rfl rfl (by kernel_rfl) (fun _ _ _ h => h) (Or.inl ⟨by rfl, ?_⟩) ?_ ?_
  rotate_left
  · intro w'
    go_simp
    with_reducible rfl
  rotate_left
  · simp only [Act.put, List.setIfInBounds_toArray, List.set_cons_zero, List.set_cons_succ, i64_w, i32_w]
    rfl
  refine pure_ (i := 2) (N := (some 7)) (v := ?_) (a' := ?_) #[true, true, true, false, false, false, false] rfl rfl (by kernel_rfl) (fun _ _ _ h => h) (Or.inl ⟨by rfl, ?_⟩) ?_ ?_
  rotate_left
  · intro w'
    go_simp
    with_reducible rfl
  rotate_left
  · simp only [Act.put, List.setIfInBounds_toArray, List.set_cons_zero, List.set_cons_succ, i64_w, i32_w]
    rfl
  refine take_ (i := 3) (N := (some 8)) (v := ?_) (a' := ?_) #[true, true, true, true, false, false, false] rfl rfl (by kernel_rfl) (fun _ _ _ h => h) (Or.inl ⟨by rfl, ?_⟩) hHeld ?_ ?_
  rotate_left
  · rintro w' ⟨s0, s1, s2, s3⟩
    go_simp
    with_reducible rfl
  rotate_left
  · simp only [Act.put, List.setIfInBounds_toArray, List.set_cons_zero, List.set_cons_succ, i64_w, i32_w]
    rfl
  refine take_ (i := 4) (N := (some 9)) (v := ?_) (a' := ?_) #[true, true, true, true, true, false, false] rfl rfl (by kernel_rfl) (fun _ _ _ h => h) (Or.inl ⟨by rfl, ?_⟩) hHeld ?_ ?_
  rotate_left
  · rintro w' ⟨s0, s1, s2, s3⟩
    go_simp
    with_reducible rfl
  rotate_left
  · simp only [Act.put, List.setIfInBounds_toArray, List.set_cons_zero, List.set_cons_succ, i64_w, i32_w]
    rfl
  refine one_ (i := 5) (N := (some 10)) #[true, true, true, true, true, true, false] rfl rfl (by kernel_rfl) (by decide) (fun K_ hK => ?_)
  refine goes_ Try.func29 (by kernel_rfl) rfl #[.pointer (some ⟨r, 0, none⟩), .agg #[.string e.f0, .int .i64 e.f1.f0, .int .i64 e.f1.f1]] (by rfl) rfl rfl (by (try simp only [List.map_toArray, List.map_cons, List.map_nil]); first | done | rfl) ?_
  refine (HC.out _ (St.sub (A := [treeC h m]) HS1.out)).mono ?_
  rintro E w2 ⟨m', rfl, hpm, ham, st⟩
  have HS2 := Aside0.mk (St.call (A := [treeC h m]) HS1.out st)
  clear HS1
  rw [HB.out]
  have HPM := Aside0.mk (hpm.trans HRT.out)
  have HAM := Aside0.mk ham
  clear st hpm ham
  refine ⟨_, rfl, ?_⟩
  clear hHeld
  refine hK.out _ _ ⟨(HS2.out.tat 1 rfl).c0, (blk_cell (HS2.out.blk 2 rfl) 0).trans rfl, (blk_cell (HS2.out.blk 2 rfl) 1).trans rfl, (blk_cell (HS2.out.blk 2 rfl) 2).trans rfl⟩ (fun hHeld => ?_)
  clear hK K_
  refine norm_ (a' := ?_) ?_ ?_
  rotate_left
  · show Act.put _ (some 10) _ = _
    simp only [Act.put, List.setIfInBounds_toArray, List.set_cons_zero, List.set_cons_succ, i64_w, i32_w]
    rfl
  refine pure_ (i := 6) (N := (some 11)) (v := ?_) (a' := ?_) #[true, true, true, true, true, true, true] rfl rfl (by kernel_rfl) (fun _ _ _ h => h) (Or.inl ⟨by rfl, ?_⟩) ?_ ?_
  rotate_left
  · intro w'
    go_simp
    with_reducible rfl
  rotate_left
  · simp only [Act.put, List.setIfInBounds_toArray, List.set_cons_zero, List.set_cons_succ, i64_w, i32_w]
    rfl
  refine done_ (by kernel_rfl) ?_
  have hne : r ≠ tp := fun e0 => HS2.out.apart 0 1 (by decide) rfl rfl r (by have := ptr_mem h m'; rw [HPM.out] at this; exact this) (by simp [tatC, e0])
  have hok : Ok w2 h m' := HS2.out.tree 0 rfl
  obtain ⟨AK, cK, hK⟩ := hok.row.slice
  have n0' := hok.node.c0
  rw [hK, HPM.out] at n0'
  have t0 := (HS2.out.tat 1 rfl).c0
  have t1 := (HS2.out.tat 1 rfl).c1
  have g0 := (HS2.out.tat 1 rfl).fz 0
  have g1 := (HS2.out.tat 1 rfl).fz 1
  have hw1 : IntKind.i64.wrap (cnt - 1) = cnt - 1 := by rw [IntKind.wrap_i64]; omega
  obtain ⟨L, hL⟩ : ∃ L, (mks h m').length = L := ⟨_, rfl⟩
  rw [hL] at n0'
  have HL := Aside0.mk (show blen h (abs h m') = L by rw [blen, abs_keys]; exact hL)
  have HOK := Aside0.mk hok
  clear hK hL hHeld hok
  cases b
  · go_wp2
    rw [← HR.out]
    refine ⟨h, m', ?_, ?_, ?_⟩
    · rw [tcut_snd, HB.out]
      rfl
    · rw [tcut_no HB.out, HAM.out]
    · rw [tcut_snd, HB.out]
      show St _ _ _ [tatC tp (ptr _ m') _, treeC _ m']
      rw [HPM.out]
      have hh : St _ _ _ ([treeC h m', tatC tp r cnt] ++ [blkC n0 _]) := HS2.out
      exact hh.left.perm (List.Perm.swap _ _ _)
  · have HF := Aside0.mk (show St w _ _ [treeC h m', tatC tp r (cnt - 1)] from by
      have hh : St _ _ _ ([treeC h m', tatC tp r cnt] ++ [blkC n0 _]) := HS2.out
      exact hh.left.putN 1 rfl (cnt - 1))
    by_cases hL0 : L = 0
    · subst hL0
      cases h with
      | zero =>
        have HLF := Aside0.mk (fun w' (hN : NodeAt w' r (mK 0 m') (.slice none 0 0)) => leaf_calls w' r (mK 0 m') none 0 0 hN)
        have HN := Aside0.mk (show NodeAt _ r (mK 0 m') (.slice none 0 0) from by have := (HF.out.tree 0 rfl : Ok _ 0 m').node; rw [HPM.out] at this; exact this)
        go_wp2_with (first
          | (go_at_call 30; refine (HLF.out _ HN.out).mono ?_; rintro E w3 ⟨rfl, rfl⟩))
        rw [← HR.out]
        refine ⟨0, m', ?_, ?_, ?_⟩
        · rw [tcut_snd, HB.out]
          rfl
        · rw [tcut_leaf HB.out, HAM.out]
        · rw [tcut_snd, HB.out]
          show St _ _ _ [tatC tp (ptr _ m') _, treeC _ m']
          rw [HPM.out]
          exact HF.out.perm (List.Perm.swap _ _ _)
      | succ h =>
        obtain ⟨p, K, C, ks, kids⟩ := m'
        have hp : p = r := HPM.out
        subst hp
        have hk0 : 0 < kids.length := (HOK.out : Ok _ (h + 1) (⟨p, K, C, ks, kids⟩ : Inner (MT h))).2.2.2.1
        obtain ⟨k, kids, rfl⟩ := cons_of kids hk0
        have HOP := Aside0.mk (open_one (X := []) (HF.out))
        have hrp := (HOP.out.rowP 3 rfl)
        obtain ⟨gc, cC, rfl, hcC⟩ := rowP_form hrp (by simp [ptrs])
        have hq1 := (HOP.out.node 1 rfl).c1
        have hq0 := hrp.cell rfl 0 _ (show _ = some (.pointer (some ⟨ptr h k, 0, none⟩)) from rfl)
        have HNN := Aside0.mk (HOP.out.node 1 rfl)
        obtain ⟨nn, hnn⟩ : ∃ nn, (ptrs h ([] ++ k :: kids)).length = nn := ⟨_, rfl⟩
        have hnn0 : 0 < nn := by rw [← hnn]; simp [ptrs]
        rw [hnn] at hq1 HNN
        have hnn1 : (0 : Int) < (nn : Int) := by omega
        have hne2 : nn ≠ 0 := by omega
        have hks : ks = [] := List.eq_nil_of_length_eq_zero HL.out
        have HKS := Aside0.mk hks
        clear hrp hnn hks hk0
        have HW := Aside0.mk (fun w' (hN : NodeAt w' p K (.slice (some ⟨gc, 0, none⟩) nn cC)) => leaf_no w' p K _ nn cC hN hne2)
        go_wp2_with (first
          | (go_at_call 30; refine (HW.out _ HNN.out).mono ?_; rintro E w3 ⟨rfl, hw3⟩; subst hw3))
        rw [← HR.out]
        have hst := HOP.out.putR 5 rfl (ptr h k)
        refine ⟨h, k, ?_, ?_, ?_⟩
        · rw [tcut_snd, HB.out]
          rfl
        · refine (tcut_drop HB.out (l := kids.map (abs h)) ?_).symm
          rw [← HAM.out, HKS.out]
          rfl
        · rw [tcut_snd, HB.out]
          have h2 : St _ _ _ ([treeC h k] ++ [nodeC p K _, rowEC K ks, rowPC _ _, forC h ([] ++ kids), tatC tp (ptr h k) (cnt - 1)]) := hst
          have h3 := h2.perm (B := [tatC tp (ptr h k) (cnt - 1), treeC h k] ++ [nodeC p K _, rowEC K ks, rowPC _ _, forC h ([] ++ kids)]) (perm_ix _ [5, 0, 1, 2, 3, 4] 6 rfl (by decide))
          exact h3.left
    · have hLb : ((L : Int) == 0) = false := by simp; omega
      have hLd : decide ((L : Int) = 0) = false := by simp; omega
      go_wp2
      rw [← HR.out]
      refine ⟨h, m', ?_, ?_, ?_⟩
      · rw [tcut_snd, HB.out]
        rfl
      · rw [tcut_keep HB.out (by rw [← HAM.out, HL.out]; exact hL0), HAM.out]
      · rw [tcut_snd, HB.out]
        show St _ _ _ [tatC tp (ptr _ m') _, treeC _ m']
        rw [HPM.out]
        exact HF.out.perm (List.Perm.swap _ _ _)
end Go.Proofs.Bt
end
section
namespace Go.Proofs.Bt
open Go Go.RowKit Go.Proofs.Ytjaddmflopahiaa.Q Go.Proofs.YtjaddmflopahiaaW.PrintWords Go.Proofs.YtjaddmflopahiaaW.PrintLast Go.Proofs.YtjaddmflopahiaaW.PrintMore
set_option linter.unusedVariables false
set_option linter.unusedSimpArgs false
set_option maxRecDepth 100000
def layK : List (Nat → List PgA) → Nat → List PgA
  | [], _ => []
  | f :: fs, a => f a ++ layK fs (a + (f a).length)
def lidx : List (Nat → List PgA) → Nat → List Int
  | [], _ => []
  | f :: fs, a => (a : Int) :: lidx fs (a + (f a).length)
def blay : (h : Nat) → BT h → Nat → List PgA
  | 0, ks, _ => [(true, ks, [])]
  | h + 1, t, a => (false, t.1, lidx (t.2.map (blay h)) (a + 1)) :: layK (t.2.map (blay h)) (a + 1)
theorem layK_snoc : ∀ (fs : List (Nat → List PgA)) (f : Nat → List PgA) (a : Nat), layK (fs ++ [f]) a = layK fs a ++ f (a + (layK fs a).length)
  | [], f, a => by simp [layK]
  | g :: fs, f, a => by
    show g a ++ layK (fs ++ [f]) (a + (g a).length) = _
    rw [layK_snoc fs f]
    simp only [layK, List.length_append, List.append_assoc, Nat.add_assoc]
theorem lidx_snoc : ∀ (fs : List (Nat → List PgA)) (f : Nat → List PgA) (a : Nat), lidx (fs ++ [f]) a = lidx fs a ++ [((a + (layK fs a).length : Nat) : Int)]
  | [], f, a => by simp [layK, lidx]
  | g :: fs, f, a => by
    show (a : Int) :: lidx (fs ++ [f]) (a + (g a).length) = _
    rw [lidx_snoc fs f]
    simp only [layK, lidx, List.length_append, Nat.add_assoc, List.cons_append]
theorem lidx_len : ∀ (fs : List (Nat → List PgA)) (a : Nat), (lidx fs a).length = fs.length
  | [], a => rfl
  | f :: fs, a => by simp [lidx, lidx_len fs]
theorem layK_take_le : ∀ (fs : List (Nat → List PgA)) (j a : Nat), (layK (fs.take j) a).length ≤ (layK fs a).length
  | [], j, a => by simp [layK]
  | f :: fs, 0, a => by simp [layK]
  | f :: fs, j + 1, a => by
    show (f a ++ layK (fs.take j) (a + (f a).length)).length ≤ (f a ++ layK fs (a + (f a).length)).length
    have := layK_take_le fs j (a + (f a).length)
    rw [List.length_append, List.length_append]
    omega
def LayPost (w : World) (F : Nat → Prop) (T : Chunk) (l : List Pg) (pg : List PgA) (E : Ending) (w' : World) : Prop :=
  ∃ (g n c : Nat) (ex : List Pg), E = .returned (.tuple #[.slice (some ⟨g, 0, none⟩) n c, .int .i64 (l.length : Int)]) ∧ ex.map Pg.a = pg ∧ St w F w' [pagesC (.slice (some ⟨g, 0, none⟩) n c) (l ++ ex), T]
theorem cloneE (w : World) (K : Value) (ks : List S29) (hR : RowE w K ks) (hn : ks.length < 1000) : Calls Try.prog 45 #[K] w fun e w' => ∃ K', e = .returned K' ∧ RowE w' K' ks ∧ Below w.heap.size w w' ∧ ∀ b ∈ bl K', w.heap.size ≤ b := by
  rcases hR.2.2 with ⟨rfl, hk⟩ | ⟨g, cap, cur, rfl, hg, hnc, hcm, hcs, ht⟩
  · refine (clone45_nil w).mono ?_
    rintro E w' ⟨rfl, rfl⟩
    exact ⟨_, rfl, hR, Below.refl _ _, fun b hb => by simp [bl, Value.ownBlock] at hb⟩
  · refine (clone45 w ⟨g, 0, none⟩ ks.length cap (encEs ks) (encEs_len ks) (row_cells hR) (encEs_one ks) (by omega)).mono ?_
    rintro E w' ⟨k, c, rfl, hk, hr, hb⟩
    exact ⟨_, rfl, hr, hb, fun b hb => by rw [bl_slice] at hb; simp at hb; omega⟩
theorem St.fresh {w0 w w' : World} {F : Nat → Prop} {cs : List Chunk} (s : St w0 F w cs) (hb : Below w.heap.size w w') (c : Chunk) (hc : c.H w') (hnd : ND c.bs) (hs : ∀ b ∈ c.bs, w.heap.size ≤ b) : St w0 F w' (c :: cs) := by
  have s2 := s.below hb
  have hlt := s.lt
  refine ⟨s2.keep, ?_, ?_, ?_⟩
  · intro d hd
    rcases List.mem_cons.1 hd with rfl | hd
    · exact hc
    · exact s2.h d hd
  · rw [fpc_cons]
    exact nd_app.2 ⟨hnd, s.nd, fun x hx hm => by have := hlt x hm; have := hs x hx; omega⟩
  · intro b hb
    rw [fpc_cons] at hb
    rcases List.mem_append.1 hb with hb | hb
    · have := hs b hb
      have := s.keep.size
      exact .inr (by omega)
    · exact s.own b hb
theorem wpList_append_run {P : Program} {ops : Array Oper} {rest : List Oper} {o : Oper} {a : Act} {w : World} {Q : Exit → Act → World → Prop} (hgd : o.guard = none) (d x : Operand) (dT sT : TypeId)
    (hop : o.op = Op.call { callee := Callee.builtin Builtin.append, args := #[d, x], argTypes := #[dT, sT] }) (v u : Value) (hd : a.eval d = v) (hx : a.eval x = u) {v' : Value} {w' : World} (hr : (Builtin.append_ #[dT, sT] o.type #[v, u]).run P w = .ok v' w')
    (h : wpList P ops Q rest (a.put o.dst v') w') : wpList P ops Q (o :: rest) a w :=
  wpList_plain hgd fun _ hK => by
    unfold Oper.wp
    simp [execOp, hop, resolve, invoke, builtin, hd, hx, hr, Result.andThen]
    exact hK _ _ h
def LayRel (w : World) (F : Nat → Prop) (T : Chunk) (l : List Pg) (p0 : Pg) (fs : List (Nat → List PgA)) (j : Nat) (v : Value) (ex : List Pg) (u : Value) (wx : World) : Prop :=
  ex.map Pg.a = layK (fs.take j) (l.length + 1) ∧ St w F wx [pagesC v (l ++ p0 :: ex), rowIC u (lidx (fs.take j) (l.length + 1)), T]
theorem pages_len {v : Value} {l : List Pg} {w0 w : World} {F : Nat → Prop} {R : List Chunk} (s : St w0 F w (pagesC v l :: R)) : ∃ A c, v = .slice A l.length c := by
  have h : RowPg w v l := (s.h (pagesC v l) (by simp)).1
  rcases h.2.2 with ⟨rfl, hk⟩ | ⟨g, cap, cur, rfl, hg, hn, _⟩
  · exact ⟨none, 0, by rw [hk]⟩
  · exact ⟨_, _, rfl⟩
set_option maxHeartbeats 4000000 in
theorem lay_node (w : World) (T : Chunk) (p : Nat) (K : Value) (A : Option Addr) (cC : Nat) (ks : List S29) (fs : List (Nat → List PgA)) (q : Nat → Nat) (v : Value) (l : List Pg)
    (F : Nat → Prop) (s : St w F w [pagesC v l, T]) (hN : ∀ w', T.H w' → NodeAt w' p K (.slice A fs.length cC) ∧ RowE w' K ks) (hcell : ∀ j, j < fs.length → ∃ g, A = some ⟨g, 0, none⟩ ∧ ∀ w', T.H w' → w'.cell? ⟨g, j, none⟩ = some (.pointer (some ⟨q j, 0, none⟩)))
    (hrec : ∀ j f, fs[j]? = some f → ∀ w' v' l', St w' (fun b => b ∈ fpc [pagesC v' l', T]) w' [pagesC v' l', T] → l'.length + (f l'.length).length < 100000 → Calls Try.prog 28 #[.pointer (some ⟨q j, 0, none⟩), v'] w' (LayPost w' (fun b => b ∈ fpc [pagesC v' l', T]) T l' (f l'.length)))
    (hks : ks.length < 1000) (hfs : fs.length < 1000) (hb : l.length + 1 + (layK fs (l.length + 1)).length < 100000) :
    Calls Try.prog 28 #[.pointer (some ⟨p, 0, none⟩), v] w (LayPost w F T l ((decide (fs.length = 0), ks, lidx fs (l.length + 1)) :: layK fs (l.length + 1))) := by
  have hu35 := Try.underlying35
  obtain ⟨R, hR⟩ : ∃ R, LayPost w F T l ((decide (fs.length = 0), ks, lidx fs (l.length + 1)) :: layK fs (l.length + 1)) = R := ⟨_, rfl⟩
  rw [hR]
  have HR := Aside0.mk hR
  obtain ⟨A0, c0, rfl⟩ := pages_len s
  obtain ⟨L, hL⟩ : ∃ L, l.length = L := ⟨_, rfl⟩
  rw [hL] at s
  have HL := Aside0.mk hL
  obtain ⟨n, hn⟩ : ∃ n, fs.length = n := ⟨_, rfl⟩
  rw [hn] at hN hfs
  have HNN := Aside0.mk hn
  have HB := Aside0.mk hb
  have hL1 : L < 100000 := by omega
  have HN := Aside0.mk hN
  have HC := Aside0.mk hcell
  have HREC := Aside0.mk hrec
  have HS := Aside0.mk s
  have HLF := Aside0.mk (fun w' (h : T.H w') => leaf_calls w' p K A n cC (hN w' h).1)
  obtain ⟨lf, hlf⟩ : ∃ lf, decide (n = 0) = lf := ⟨_, rfl⟩
  rw [hlf] at HLF
  have HLFE := Aside0.mk hlf
  rw [hL]
  clear s hN hcell hrec hR hb hL hlf hn
  go_enter Try.func28, Try.ntmps28
  go_wp2
  refine start_ (n := 12) (S := fun w' => w'.cell? ⟨p, 0, none⟩ = some K) (ds := []) #[false, false, false, false, false, false, false, false, false, false, false, false] (by kernel_rfl) rfl rfl (HN.out _ (HS.out.get 1 rfl)).1.c0 (fun hHeld => ?_)
  have HS1 := Aside0.mk (HS.out.drew)
  clear HS
  generalize w.drew = w1 at HS1 hHeld  ⊢
  refine pure_ (i := 0) (N := (some 13)) (v := ?_) (a' := ?_) #[true, false, false, false, false, false, false, false, false, false, false, false] rfl rfl (by kernel_rfl) (fun _ _ _ h => h) (Or.inl ⟨by rfl, ?_⟩) ?_ ?_
  rotate_left
  · intro w'
    go_simp
    with_reducible rfl
  rotate_left
  · simp only [Act.put, List.setIfInBounds_toArray, List.set_cons_zero, List.set_cons_succ, i64_w, i32_w]
    rfl
  refine pure_ (i := 1) (N := (some 14)) (v := ?_) (a' := ?_) #[true, true, false, false, false, false, false, false, false, false, false, false] rfl rfl (by kernel_rfl) (fun _ _ _ h => h) (Or.inl ⟨by rfl, ?_⟩) ?_ ?_
  rotate_left
  · intro w'
    go_simp
    with_reducible rfl
  rotate_left
  · simp only [Act.put, List.setIfInBounds_toArray, List.set_cons_zero, List.set_cons_succ, i64_w, i32_w]
    rfl
  refine pure_ (i := 3) (N := (some 16)) (v := ?_) (a' := ?_) #[true, true, false, true, false, false, false, false, false, false, false, false] rfl rfl (by kernel_rfl) (fun _ _ _ h => h) (Or.inl ⟨by rfl, ?_⟩) ?_ ?_
  rotate_left
  · intro w'
    go_simp
    with_reducible rfl
  rotate_left
  · simp only [Act.put, List.setIfInBounds_toArray, List.set_cons_zero, List.set_cons_succ, i64_w, i32_w]
    rfl
  refine pure_ (i := 4) (N := (some 17)) (v := ?_) (a' := ?_) #[true, true, false, true, true, false, false, false, false, false, false, false] rfl rfl (by kernel_rfl) (fun _ _ _ h => h) (Or.inl ⟨by rfl, ?_⟩) ?_ ?_
  rotate_left
  · intro w'
    go_simp
    with_reducible rfl
  rotate_left
  · simp only [Act.put, List.setIfInBounds_toArray, List.set_cons_zero, List.set_cons_succ, i64_w, i32_w]
    rfl
  refine pure_ (i := 5) (N := (some 18)) (v := ?_) (a' := ?_) #[true, true, false, true, true, true, false, false, false, false, false, false] rfl rfl (by kernel_rfl) (fun _ _ _ h => h) (Or.inl ⟨by rfl, ?_⟩) ?_ ?_
  rotate_left
  · intro w'
    go_simp
    with_reducible rfl
  rotate_left
  · simp only [Act.put, List.setIfInBounds_toArray, List.set_cons_zero, List.set_cons_succ, i64_w, i32_w]
    rfl
  refine take_ (i := 6) (N := (some 19)) (v := ?_) (a' := ?_) #[true, true, false, true, true, true, true, false, false, false, false, false] rfl rfl (by kernel_rfl) (fun _ _ _ h => h) (Or.inl ⟨by rfl, ?_⟩) hHeld ?_ ?_
  rotate_left
  · rintro w' s0
    go_simp
    with_reducible rfl
  rotate_left
  · simp only [Act.put, List.setIfInBounds_toArray, List.set_cons_zero, List.set_cons_succ, i64_w, i32_w]
    rfl
  refine one_ (i := 2) (N := (some 15)) #[true, true, true, true, true, true, true, false, false, false, false, false] rfl rfl (by kernel_rfl) (by decide) (fun K_ hK => ?_)
  refine goes_ Try.func30 (by kernel_rfl) rfl #[.pointer (some ⟨p, 0, none⟩)] (by rfl) rfl rfl (by (try simp only [List.map_toArray, List.map_cons, List.map_nil]); first | done | rfl) ?_
  refine (HLF.out _ (HS1.out.get 1 rfl)).mono ?_
  rintro E w2 ⟨rfl, hw2⟩
  subst hw2
  refine ⟨_, rfl, ?_⟩
  clear hHeld
  refine hK.out _ _ (HN.out _ (HS1.out.get 1 rfl)).1.c0 (fun hHeld => ?_)
  clear hK K_
  refine norm_ (a' := ?_) ?_ ?_
  rotate_left
  · show Act.put _ (some 15) _ = _
    simp only [Act.put, List.setIfInBounds_toArray, List.set_cons_zero, List.set_cons_succ, i64_w, i32_w]
    rfl
  refine one_ (i := 7) (N := (some 20)) #[true, true, true, true, true, true, true, true, false, false, false, false] rfl rfl (by kernel_rfl) (by decide) (fun K_ hK => ?_)
  refine goes_ Try.func45 (by kernel_rfl) rfl #[K] (by rfl) rfl rfl (by (try simp only [List.map_toArray, List.map_cons, List.map_nil]); first | done | rfl) ?_
  refine (cloneE _ K ks (HN.out _ (HS1.out.get 1 rfl)).2 hks).mono ?_
  rintro E w3 ⟨K', rfl, hre, hbel, hfr⟩
  obtain ⟨AK, cK, rfl⟩ := RowE.slice hre
  have HS2 := Aside0.mk (HS1.out.fresh hbel (rowEC (.slice AK ks.length cK) ks) hre (nd_bl (.slice AK ks.length cK)) hfr)
  clear HS1
  have HS3 := Aside0.mk (HS2.out.perm (List.Perm.swap _ _ _))
  clear HS2
  have HKO := Aside0.mk (row_one hre)
  clear hre hbel hfr
  refine ⟨_, rfl, ?_⟩
  clear hHeld
  refine hK.out _ _ (HN.out _ (HS3.out.get 2 rfl)).1.c0 (fun hHeld => ?_)
  clear hK K_
  refine norm_ (a' := ?_) ?_ ?_
  rotate_left
  · show Act.put _ (some 20) _ = _
    simp only [Act.put, List.setIfInBounds_toArray, List.set_cons_zero, List.set_cons_succ, i64_w, i32_w]
    rfl
  refine pure_ (i := 8) (N := (some 21)) (v := ?_) (a' := ?_) #[true, true, true, true, true, true, true, true, true, false, false, false] rfl rfl (by kernel_rfl) (fun _ _ _ h => h) (Or.inl ⟨by rfl, ?_⟩) ?_ ?_
  rotate_left
  · intro w'
    go_simp
    with_reducible rfl
  rotate_left
  · simp only [Act.put, List.setIfInBounds_toArray, List.set_cons_zero, List.set_cons_succ, i64_w, i32_w]
    rfl
  refine one_ (i := 9) (N := (some 22)) #[true, true, true, true, true, true, true, true, true, true, false, false] rfl rfl (by kernel_rfl) (by decide) (fun K_ hK => ?_)
  obtain ⟨v1, hv1⟩ : ∃ v : Nat, w3.heap.size = v := ⟨_, rfl⟩
  refine made_ (v := .slice (some ⟨w3.heap.size, 0, none⟩) 1 1) (w1 := w3.alloc (.cells #[.bool lf, (.slice AK ks.length cK), .slice none 0 0] 35)) (by rfl) rfl (by go_simp) ?_
  have HS4 := Aside0.mk (HS3.out.alloc #[.bool lf, (.slice AK ks.length cK), .slice none 0 0] 35 hv1)
  clear HS3
  rw [hv1]
  clear hv1
  clear hHeld
  refine hK.out _ _ (HN.out _ (HS4.out.get 2 rfl)).1.c0 (fun hHeld => ?_)
  clear hK K_
  generalize w3.alloc (.cells #[.bool lf, (.slice AK ks.length cK), .slice none 0 0] 35) = w4 at HS4 hHeld  ⊢
  refine norm_ (a' := ?_) ?_ ?_
  rotate_left
  · show Act.put _ (some 22) _ = _
    simp only [Act.put, List.setIfInBounds_toArray, List.set_cons_zero, List.set_cons_succ, i64_w, i32_w]
    rfl
  refine one_ (i := 10) (N := (some 23)) #[true, true, true, true, true, true, true, true, true, true, true, false] rfl rfl (by kernel_rfl) (by decide) (fun K_ hK => ?_)
  obtain ⟨g1, c1, w5, hrun, hrow, hgrow, hown⟩ := appendPg _ (.slice A0 L c0) l lf (.slice AK ks.length cK) HKO.out ks v1 _ (show RowPg _ _ _ from (HS4.out.get 0 rfl : (pagesC _ _).H _).1) (HS4.out.blk 3 rfl) (by rw [HL.out]; omega)
  rw [HL.out] at hrun
  refine appended_ (.tmp 13) (.tmp 22) 31 31 (by rfl) rfl rfl (.slice A0 L c0) (.slice (some ⟨v1, 0, none⟩) 1 1) (by rfl) (by rfl) hrun ?_
  clear hrun
  rw [HL.out] at hrow hown
  have HS5 := Aside0.mk (St.page (K := (.slice AK ks.length cK)) HS4.out hgrow hrow hown)
  clear HS4
  clear hgrow hrow hown
  clear hHeld
  refine hK.out _ _ (HN.out _ (HS5.out.get 1 rfl)).1.c0 (fun hHeld => ?_)
  clear hK K_
  refine norm_ (a' := ?_) ?_ ?_
  rotate_left
  · show Act.put _ (some 23) _ = _
    simp only [Act.put, List.setIfInBounds_toArray, List.set_cons_zero, List.set_cons_succ, i64_w, i32_w]
    rfl
  refine pure_ (i := 11) (N := (some 1)) (v := ?_) (a' := ?_) #[true, true, true, true, true, true, true, true, true, true, true, true] rfl rfl (by kernel_rfl) (fun _ _ _ h => h) (Or.inl ⟨by rfl, ?_⟩) ?_ ?_
  rotate_left
  · intro w'
    go_simp
    with_reducible rfl
  rotate_left
  · simp only [Act.put, List.setIfInBounds_toArray, List.set_cons_zero, List.set_cons_succ, i64_w, i32_w]
    rfl
  refine done_ (by kernel_rfl) ?_
  clear hHeld
  obtain ⟨p0, hp0⟩ : ∃ p0 : Pg, (⟨lf, .slice AK ks.length cK, .slice none 0 0, ks, []⟩ : Pg) = p0 := ⟨_, rfl⟩
  have HP0 := Aside0.mk hp0
  have HREL := Aside0.mk (show LayRel w F T l p0 fs 0 (.slice (some ⟨g1, 0, none⟩) (L + 1) c1) [] (.slice none 0 0) w5 from by
    refine ⟨by simp [layK], ?_⟩
    have hst : St _ _ _ ([pagesC (.slice (some ⟨g1, 0, none⟩) (L + 1) c1) (l ++ [⟨lf, .slice AK ks.length cK, .slice none 0 0, ks, []⟩]), T] ++ [blkC v1 _]) := HS5.out
    rw [hp0] at hst
    refine ((hst.left.fresh (Below.refl _ _) (rowIC (.slice none 0 0) []) (Row.nil _ _ _) (by intro x; simp [rowIC, bl, Value.ownBlock]) (by intro x hx; simp [rowIC, bl, Value.ownBlock] at hx))).perm ?_
    exact List.Perm.swap _ _ _)
  clear hp0
  have cc := (HN.out _ (HS5.out.get 1 rfl)).1.c1
  clear HS5
  go_wp2
  go_loopg [1, 7, 29] n (fun gq x1 x7 x29 wx => ∃ (j g m c : Nat) (ex : List Pg) (Au : Option Addr) (nu cu : Nat), x1 = .slice (some ⟨g, 0, none⟩) m c ∧ x7 = .slice Au nu cu ∧ x29 = .int .i64 j ∧ j + gq = n ∧ Aside0 (LayRel w F T l p0 fs j (.slice (some ⟨g, 0, none⟩) m c) ex (.slice Au nu cu) wx))
  case atStart => exact ⟨0, g1, L + 1, c1, _, none, 0, 0, rfl, rfl, rfl, by omega, HREL⟩
  case round =>
    clear HREL cc
    obtain ⟨j, g, m, c, ex, Au, nu, cu, rfl, rfl, rfl, hj, HREL⟩ := hrel
    obtain ⟨lj, hlj⟩ : ∃ lj, l ++ p0 :: ex = lj := ⟨_, rfl⟩
    have HLJ := Aside0.mk hlj
    have hlen : lj.length = L + 1 + (layK (fs.take j) (L + 1)).length := by
      have h1 := congrArg List.length HREL.out.1
      rw [HL.out, List.length_map] at h1
      rw [← hlj, List.length_append, List.length_cons, HL.out]
      omega
    have HST0 := Aside0.mk (show St w F wr [pagesC (.slice (some ⟨g, 0, none⟩) m c) lj, rowIC (.slice Au nu cu) (lidx (fs.take j) (l.length + 1)), T] from hlj ▸ HREL.out.2)
    clear hlj
    have hle := layK_take_le fs j (L + 1)
    have hbb := HB.out
    rw [HL.out] at hbb
    have HLEN := Aside0.mk hlen
    have hmm : m = lj.length := by
      have h : RowPg _ (.slice (some ⟨g, 0, none⟩) m c) lj := (HST0.out.get 0 rfl : (pagesC _ _).H _).1
      rcases h.2.2 with ⟨h1, _⟩ | ⟨g', c', cur, h1, _⟩
      · simp at h1
      · simp at h1
        exact h1.2.1
    have HM := Aside0.mk hmm
    clear hmm
    cases gk with
    | zero =>
      have h0 : ¬ (j : Int) < (n : Int) := by omega
      have hjn : j = n := by omega
      have HTK := Aside0.mk (show fs.take j = fs by rw [List.take_of_length_le]; rw [HNN.out]; omega)
      have hLm : L < m := by rw [HM.out]; omega
      have hLm2 : (L : Int) < (m : Int) := by omega
      have hL0 : (0 : Int) ≤ (L : Int) := by omega
      have hpg : lj[L]? = some p0 := by rw [← HLJ.out, ← HL.out]; simp
      have hpC : p0.C = .slice none 0 0 := by rw [← HP0.out]
      have hcell : wr.cell? ⟨g, L * 3 + 2, none⟩ = some (.slice none 0 0) := by
        have h : RowPg _ (.slice (some ⟨g, 0, none⟩) m c) lj := (HST0.out.get 0 rfl : (pagesC _ _).H _).1
        refine h.cell (by rw [← HM.out]) (L * 3 + 2) _ ?_
        have he := encPgs_set lj L p0 p0.C p0.kids hpg
        have hl2 : L * 3 + 2 < (encPgs lj).length := by rw [encPgs_len]; omega
        have h3 : (encPgs (lj.set L ⟨p0.leaf, p0.K, p0.C, p0.ks, p0.kids⟩))[L * 3 + 2]? = some p0.C := by
          rw [← he, List.getElem?_set_self hl2]
        have h4 : lj.set L ⟨p0.leaf, p0.K, p0.C, p0.ks, p0.kids⟩ = lj := by
          obtain ⟨hi2, h5⟩ := List.getElem?_eq_some_iff.1 hpg
          have : (⟨p0.leaf, p0.K, p0.C, p0.ks, p0.kids⟩ : Pg) = lj[L] := h5.symm
          rw [this]
          exact List.set_getElem_self hi2
        rw [h4, hpC] at h3
        exact h3
      have hfz : wr.frozen? ⟨g, L * 3 + 2, none⟩ = false := by
        have h : RowPg _ (.slice (some ⟨g, 0, none⟩) m c) lj := (HST0.out.get 0 rfl : (pagesC _ _).H _).1
        exact h.frozen (by rw [← HM.out]) _
      clear hpg hpC hjn hlen hle hbb
      go_wp2
      rw [← HR.out]
      have hfin := St.kids (i := L) (p := p0) (C := .slice Au nu cu) (R := [T]) HST0.out (by rw [← HLJ.out, ← HL.out]; simp) (by rw [← HP0.out])
      have hset : lj.set L ⟨p0.leaf, p0.K, .slice Au nu cu, p0.ks, lidx (fs.take j) (l.length + 1)⟩ = l ++ ⟨p0.leaf, p0.K, .slice Au nu cu, p0.ks, lidx (fs.take j) (l.length + 1)⟩ :: ex := by
        rw [← HLJ.out, ← HL.out]
        simp
      rw [hset] at hfin
      refine ⟨g, m, c, _, ?_, ?_, hfin⟩
      · rw [HL.out]
      · rw [List.map_cons, HREL.out.1, HTK.out]
        have h1 : p0.leaf = lf := by rw [← HP0.out]
        have h2 : p0.ks = ks := by rw [← HP0.out]
        simp only [Pg.a, h1, h2]
        rw [← HLFE.out, HNN.out]
    | succ gq =>
      have h0 : (j : Int) < (n : Int) := by omega
      have h00 : (0 : Int) ≤ (j : Int) := by omega
      have hjn : j < n := by omega
      obtain ⟨gA, rfl, hq⟩ := HC.out j (by rw [HNN.out]; exact hjn)
      obtain ⟨f, hf⟩ : ∃ f, fs[j]? = some f := ⟨fs[j]'(by rw [HNN.out]; exact hjn), List.getElem?_eq_getElem _⟩
      have HF := Aside0.mk hf
      have HQ := Aside0.mk hq
      have kc := hq _ (HST0.out.get 2 rfl)
      have hst := HST0.out.perm (perm_ix _ [0, 2, 1] 3 rfl (by decide))
      have HST := Aside0.mk (show St w F wr ([pagesC (.slice (some ⟨g, 0, none⟩) m c) lj, T] ++ [rowIC (.slice Au nu cu) (lidx (fs.take j) (l.length + 1))]) from hst)
      have htk : fs.take (j + 1) = fs.take j ++ [f] := by
        rw [List.take_add_one, hf]
        rfl
      have hbound : lj.length + (f lj.length).length < 100000 := by
        have h1 := layK_take_le fs (j + 1) (L + 1)
        rw [htk, layK_snoc, List.length_append, ← hlen] at h1
        omega
      have HCALL := Aside0.mk (HREC.out j f hf wr _ lj HST.out.sub hbound)
      have HTK := Aside0.mk htk
      have hmL : lj.length < 100000 := by omega
      have HML := Aside0.mk hmL
      have hju : (lidx (fs.take j) (l.length + 1)).length = j := by rw [lidx_len, List.length_take, HNN.out]; omega
      have HJU := Aside0.mk hju
      obtain ⟨is, his⟩ : ∃ is, lidx (fs.take j) (l.length + 1) = is := ⟨_, rfl⟩
      have HIS := Aside0.mk his
      rw [his] at HST HJU
      clear hf hq hle hst htk hbound hlen hbb hmL hju his
      go_wp2_with (first
        | (go_at_call 28; refine HCALL.out.mono ?_; clear kc; rintro E w2 ⟨g2, n2, c2, ex2, rfl, hmap, st⟩; have HS2 := Aside0.mk (HST.out.call st); have HMAP := Aside0.mk hmap; clear st hmap)
        | (at_builtin; obtain ⟨g3, c3, w3, hrun, hrow, hgrow, hown⟩ := appendI _ (.slice Au nu cu) is (lj.length : Int) w2.heap.size 33 ((HS2.out.alloc #[.int .i64 (lj.length : Int)] 3 rfl).get 2 rfl) ((HS2.out.alloc #[.int .i64 (lj.length : Int)] 3 rfl).blk 3 rfl) (by rw [HJU.out]; omega); have HS3 := Aside0.mk ((HS2.out.alloc #[.int .i64 (lj.length : Int)] 3 rfl).setI 2 rfl hgrow hrow hown); have HU := Aside0.mk (show is.length = is.length from rfl); refine wpList_append_run rfl (.tmp 39) (.tmp 41) 33 33 rfl (.slice Au nu cu) (.slice (some ⟨w2.heap.size, 0, none⟩) 1 1) rfl rfl hrun ?_; clear hrun hrow hgrow hown))
      go_roundg gq
      case measure => omega
      case rel =>
        refine ⟨j + 1, g2, n2, c2, ex ++ ex2, some ⟨g3, 0, none⟩, is.length + 1, c3, rfl, rfl, by go_num, by omega, ?_⟩
        have hst : St w F w3 ([pagesC (.slice (some ⟨g2, 0, none⟩) n2 c2) (lj ++ ex2), T, rowIC (.slice (some ⟨g3, 0, none⟩) (is.length + 1) c3) (is ++ [(lj.length : Int)])] ++ [blkC w2.heap.size _]) := HS3.out
        have hst2 := hst.left.perm (perm_ix _ [0, 2, 1] 3 rfl (by decide))
        have hlj : lj.length = l.length + 1 + (layK (fs.take j) (l.length + 1)).length := by rw [HLEN.out, HL.out]
        refine Aside0.mk ⟨?_, ?_⟩
        · rw [List.map_append, HMAP.out, HTK.out, layK_snoc, HREL.out.1, ← hlj]
        · rw [HTK.out, lidx_snoc, HIS.out, ← hlj]
          have e : l ++ p0 :: (ex ++ ex2) = lj ++ ex2 := by rw [← HLJ.out]; simp
          rw [e]
          exact hst2
end Go.Proofs.Bt
end
section
namespace Go.Proofs.Bt
open Go Go.RowKit Go.Proofs.Ytjaddmflopahiaa.Q Go.Proofs.YtjaddmflopahiaaW.PrintWords Go.Proofs.YtjaddmflopahiaaW.PrintLast Go.Proofs.YtjaddmflopahiaaW.PrintMore
set_option linter.unusedVariables false
set_option linter.unusedSimpArgs false
set_option maxRecDepth 100000
def Small : (h : Nat) → BT h → Prop
  | 0, ks => List.length (α := S29) ks < 900
  | h + 1, t => t.1.length < 900 ∧ t.2.length < 900 ∧ ∀ k ∈ t.2, Small h k
def kptr (h : Nat) (kids : List (MT h)) (j : Nat) : Nat := match kids[j]? with | some k => ptr h k | none => 0
theorem lay_calls : ∀ (h : Nat) (w : World) (m : MT h) (v : Value) (l : List Pg), St w (fun b => b ∈ fpc [pagesC v l, treeC h m]) w [pagesC v l, treeC h m] → Small h (abs h m) → l.length + (blay h (abs h m) l.length).length < 100000 →
    Calls Try.prog 28 #[.pointer (some ⟨ptr h m, 0, none⟩), v] w (LayPost w (fun b => b ∈ fpc [pagesC v l, treeC h m]) (treeC h m) l (blay h (abs h m) l.length))
  | 0, w, m, v, l, s, hs, hb => by
    obtain ⟨p, K, ks⟩ := m
    have hk : ks.length < 900 := hs
    have hb2 : l.length + 1 < 100000 := hb
    exact lay_node w (treeC 0 (⟨p, K, ks⟩ : Leaf)) p K none 0 ks [] (fun _ => 0) v l _ s (fun w' hT => ⟨(hT : Ok w' 0 _).1, (hT : Ok w' 0 _).2⟩) (fun j hj => by simp at hj) (fun j f hf => by simp at hf) (by omega) (by simp) (by simp [layK]; omega)
  | h + 1, w, m, v, l, s, hs, hb => by
    obtain ⟨p, K, C, ks, kids⟩ := m
    obtain ⟨hk, hkk, hks⟩ := hs
    change ks.length < 900 at hk
    change (kids.map (abs h)).length < 900 at hkk
    change ∀ k ∈ kids.map (abs h), Small h k at hks
    rw [List.length_map] at hkk
    have hok : Ok w (h + 1) (⟨p, K, C, ks, kids⟩ : Inner (MT h)) := s.get 1 rfl
    have hrow : Row w 59 1 C (ptrs h kids).length (ptrs h kids) := by rw [ptrs_len]; exact hok.2.2.1
    have h0 : 0 < kids.length := hok.2.2.2.1
    obtain ⟨gc, cC, rfl, hcC⟩ := rowP_form hrow (by rw [ptrs_len]; omega)
    rw [ptrs_len] at *
    obtain ⟨fs, hfs⟩ : ∃ fs, (kids.map (abs h)).map (blay h) = fs := ⟨_, rfl⟩
    have hfl : fs.length = kids.length := by rw [← hfs]; simp
    have hbl : blay (h + 1) (abs (h + 1) (⟨p, K, .slice (some ⟨gc, 0, none⟩) kids.length cC, ks, kids⟩ : Inner (MT h))) l.length = (false, ks, lidx fs (l.length + 1)) :: layK fs (l.length + 1) := by
      rw [← hfs]
      rfl
    rw [hbl] at hb ⊢
    have hd : false = decide (fs.length = 0) := (decide_eq_false (by omega)).symm
    rw [hd]
    have hat : ∀ j f, fs[j]? = some f → ∃ k, kids[j]? = some k ∧ f = blay h (abs h k) ∧ kptr h kids j = ptr h k := fun j f hf => by
      rw [← hfs, List.getElem?_map, List.getElem?_map] at hf
      cases hj : kids[j]? with
      | none => rw [hj] at hf; simp at hf
      | some k =>
        rw [hj] at hf
        simp at hf
        exact ⟨k, rfl, hf.symm, by unfold kptr; rw [hj]⟩
    refine lay_node w (treeC (h + 1) (⟨p, K, .slice (some ⟨gc, 0, none⟩) kids.length cC, ks, kids⟩ : Inner (MT h))) p K (some ⟨gc, 0, none⟩) cC ks fs (kptr h kids) v l _ s (fun w' hT => ?_) (fun j hj => ?_) (fun j f hf w' v' l' s' hb' => ?_) (by omega) (by omega) (by rw [List.length_cons] at hb; omega)
    · have hT : Ok w' (h + 1) (⟨p, K, .slice (some ⟨gc, 0, none⟩) kids.length cC, ks, kids⟩ : Inner (MT h)) := hT
      rw [hfl]
      exact ⟨hT.1, hT.2.1⟩
    · refine ⟨gc, rfl, fun w' hT => ?_⟩
      have hT : Ok w' (h + 1) (⟨p, K, .slice (some ⟨gc, 0, none⟩) kids.length cC, ks, kids⟩ : Inner (MT h)) := hT
      have hr : Row w' 59 1 (.slice (some ⟨gc, 0, none⟩) kids.length cC) kids.length (kids.map (kidPtr h)) := hT.2.2.1
      rw [hfl] at hj
      refine hr.cell rfl j _ ?_
      rw [List.getElem?_map, List.getElem?_eq_getElem hj]
      unfold kptr
      rw [List.getElem?_eq_getElem hj]
      rfl
    · obtain ⟨k, hk1, rfl, hk2⟩ := hat j f hf
      rw [hk2]
      obtain ⟨X, Y, hX, _, _⟩ := set_split k hk1
      subst hX
      have s1 := open_one (s'.perm (List.Perm.swap _ _ _))
      have s2 := s1.perm (B := [pagesC v' l', treeC h k] ++ [nodeC p K (.slice (some ⟨gc, 0, none⟩) (X ++ k :: Y).length cC), rowEC K ks, rowPC (.slice (some ⟨gc, 0, none⟩) (X ++ k :: Y).length cC) (ptrs h (X ++ k :: Y)), forC h (X ++ Y)]) (perm_ix _ [5, 0, 1, 2, 3, 4] 6 rfl (by decide))
      refine (lay_calls h w' k v' l' s2.sub (hks _ (by simp)) hb').mono ?_
      rintro E w2 ⟨g, n, c, ex, rfl, hmap, st⟩
      refine ⟨g, n, c, ex, rfl, hmap, ?_⟩
      have s3 := s2.call st
      have s4 := s3.perm (B := [treeC h k, nodeC p K (.slice (some ⟨gc, 0, none⟩) (X ++ k :: Y).length cC), rowEC K ks, rowPC (.slice (some ⟨gc, 0, none⟩) (X ++ k :: Y).length cC) (ptrs h (X ++ k :: Y)), forC h (X ++ Y), pagesC (.slice (some ⟨g, 0, none⟩) n c) (l' ++ ex)]) (perm_ix _ [1, 2, 3, 4, 5, 0] 6 rfl (by decide))
      exact (shut_one' s4 rfl).perm (List.Perm.swap _ _ _)
def PagesPost (w : World) (F : Nat → Prop) (tp r : Nat) (cnt : Int) (h : Nat) (m : MT h) (pg : List PgA) (E : Ending) (w' : World) : Prop :=
  ∃ (g n c : Nat) (l : List Pg), E = .returned (.slice (some ⟨g, 0, none⟩) n c) ∧ l.map Pg.a = pg ∧ St w F w' [tatC tp r cnt, treeC h m, pagesC (.slice (some ⟨g, 0, none⟩) n c) l]
set_option maxHeartbeats 1000000 in
theorem pages_calls (w : World) (tp h : Nat) (m : MT h) (cnt : Int) (F : Nat → Prop) (s : St w F w (treeT tp h m cnt)) (hs : Small h (abs h m)) (hb : (blay h (abs h m) 0).length < 100000) :
    Calls Try.prog 12 #[.pointer (some ⟨tp, 0, none⟩)] w (PagesPost w F tp (ptr h m) cnt h m (blay h (abs h m) 0)) := by
  have hu64 := Try.underlying64
  obtain ⟨R, hR⟩ : ∃ R, PagesPost w F tp (ptr h m) cnt h m (blay h (abs h m) 0) = R := ⟨_, rfl⟩
  rw [hR]
  have HR := Aside0.mk hR
  have t0 := (s.tat 0 rfl).c0
  have s1 := s.fresh (Below.refl _ _) (pagesC (.slice none 0 0) []) ⟨Row.nil _ _ _, fun p hp => by cases hp⟩ (by intro x; simp [pagesC, bl, Value.ownBlock]) (by intro x hx; simp [pagesC, bl, Value.ownBlock] at hx)
  have s2 : St w F w ([pagesC (.slice none 0 0) [], treeC h m] ++ [tatC tp (ptr h m) cnt]) := s1.perm (perm_ix _ [0, 2, 1] 3 rfl (by decide))
  have HS := Aside0.mk s2
  have HC := Aside0.mk (lay_calls h w m (.slice none 0 0) [] s2.sub hs (by simpa using hb))
  clear s s1 s2 hR
  go_enter Try.func12, Try.ntmps12
  go_wp2_with (first
    | (go_at_call 28; refine HC.out.mono ?_; clear t0; rintro E w2 ⟨g, n, c, ex, rfl, hmap, st⟩; have HS2 := Aside0.mk (HS.out.call st); have HM := Aside0.mk hmap; clear st hmap))
  first | (rw [← HR.out]) | (go_ret; rw [← HR.out])
  exact ⟨g, n, c, ex, rfl, HM.out, HS2.out.perm (perm_ix _ [2, 1, 0] 3 rfl (by decide))⟩
end Go.Proofs.Bt
end
section
namespace Go.Proofs.Bt
open Go Go.RowKit Go.Proofs.Ytjaddmflopahiaa.Q Go.Proofs.YtjaddmflopahiaaW.PrintWords Go.Proofs.YtjaddmflopahiaaW.PrintLast Go.Proofs.YtjaddmflopahiaaW.PrintMore
set_option linter.unusedVariables false
set_option linter.unusedSimpArgs false
set_option maxRecDepth 100000
attribute [local go_sem] Oper.semAt_some
theorem room_none (k : Nat) : Fence.wide.room k := fun d h => by cases h
theorem RoundIn.any {m m' : Nat} {P : Program} {l : Nat} {f : FuncId} {tmps : Array Value} {assign body : Code} {w : World} {R : Ending → World → Prop}
    (h : RoundIn Fence.wide m P l f tmps assign body w R) : RoundIn Fence.wide m' P l f tmps assign body w R := ⟨h.1, fun c cs _ => h.2 c cs (room_none _)⟩
theorem YieldAt.any {m : Nat} (m' : Nat) {P : Program} {l : Nat} {args : Array Value} {W : World} {R : Ending → World → Prop} (h : YieldAt Fence.wide m P l args W R) : YieldAt Fence.wide m' P l args W R := by
  obtain ⟨fn, tmps, assign, body, hy, hR⟩ := h
  exact ⟨fn, tmps, assign, body, hy, RoundIn.any hR⟩
def Abide (J : List S29 → World → Prop) : Prop := ∀ s W W', J s W → Below W.heap.size W W' → J s W'
theorem abide_of {B : Nat} {J : List S29 → World → Prop} (h : AbidesFrom B J) : Abide J := fun s W W' hs hb => h s W W' none hs ⟨hb.os, hb.tape, hb.output, hb.size, fun k hk _ => hb.block k hk⟩ (fun r e => by cases e)
def bfrom : (h : Nat) → BT h → S29 → List S29
  | 0, ks, e => List.drop (α := S29) (low ks e) ks
  | h + 1, t, e => (t.2.drop (kidIx t.1 e)).flatMap (fun k => bfrom h k e)
def Own (Bs : List Nat) (W : World) (k : Nat) : Prop := k ∈ Bs ∨ ∃ b ∈ Bs, ∃ v, W.cell? ⟨b, 0, none⟩ = some v ∧ v.ownBlock = some k
def Good (Bs : List Nat) (W : World) : Prop := ∀ k, Own Bs W k → k < W.heap.size
structure KpR (Bs : List Nat) (W W' : World) : Prop where
  size : W.heap.size ≤ W'.heap.size
  good : Good Bs W'
  frame : ∀ k o, W.heap[k]? = some o → o.isCells = true → ¬ Own Bs W k → W'.heap[k]? = some o
  own : ∀ k, Own Bs W' k → Own Bs W k ∨ W.heap.size ≤ k
def Kp (Bs : List Nat) (W W' : World) : Prop := Good Bs W → KpR Bs W W'
theorem KpR.refl {Bs : List Nat} {W : World} (h : Good Bs W) : KpR Bs W W := ⟨Nat.le_refl _, h, fun _ _ h _ _ => h, fun _ h => .inl h⟩
theorem lt_of_some {W : World} {k : Nat} {o : Obj} (h : W.heap[k]? = some o) : k < W.heap.size := (Array.getElem?_eq_some_iff.1 h).1
theorem KpR.trans {Bs : List Nat} {A B C : World} (h : KpR Bs A B) (k : KpR Bs B C) : KpR Bs A C :=
  ⟨Nat.le_trans h.size k.size, k.good, fun i o hi hc hn => k.frame i o (h.frame i o hi hc hn) hc fun ho => (h.own i ho).elim hn (fun hle => by have := lt_of_some hi; omega),
    fun i hi => (k.own i hi).elim (h.own i) (fun hle => .inr (Nat.le_trans h.size hle))⟩
theorem own_eq {Bs : List Nat} {W W' : World} (h : ∀ b ∈ Bs, W'.cell? ⟨b, 0, none⟩ = W.cell? ⟨b, 0, none⟩) (k : Nat) : Own Bs W' k ↔ Own Bs W k := by
  unfold Own
  constructor
  · rintro (h1 | ⟨b, hb, v, hv, ho⟩)
    · exact .inl h1
    · exact .inr ⟨b, hb, v, by rw [← h b hb]; exact hv, ho⟩
  · rintro (h1 | ⟨b, hb, v, hv, ho⟩)
    · exact .inl h1
    · exact .inr ⟨b, hb, v, by rw [h b hb]; exact hv, ho⟩
theorem KpR.below {Bs : List Nat} {W W' : World} (h : Good Bs W) (hb : Below W.heap.size W W') : KpR Bs W W' := by
  have he := own_eq (Bs := Bs) (W := W) (W' := W') (fun b hbs => hb.cell (p := ⟨b, 0, none⟩) (h b (.inl hbs)))
  exact ⟨hb.size, fun k hk => Nat.lt_of_lt_of_le (h k ((he k).1 hk)) hb.size, fun k o hk _ _ => (hb.block k (lt_of_some hk)).trans hk, fun k hk => .inl ((he k).1 hk)⟩
theorem Kp.t {Bs : List Nat} {A B C : World} (h : Kp Bs A B) (k : Kp Bs B C) : Kp Bs A C := fun g => (h g).trans (k (h g).good)
theorem Kp.b {Bs : List Nat} (W : World) (l : Nat) (o o' : Obj) (h : W.heap[l]? = some o) (hc : o.isCells = false) (hB : ∀ b ∈ Bs, ∃ o, W.heap[b]? = some o ∧ o.isCells = true) : Kp Bs W (W.putObj l o') := by
  intro g
  have hl := lt_of_some h
  have hoth : ∀ k, k ≠ l → (W.putObj l o').heap[k]? = W.heap[k]? := fun k hk => World.putObj_heap_other hk
  have hsz : (W.putObj l o').heap.size = W.heap.size := by
    have h1 := (grownBy_putObj' W l o').size
    simp [World.putObj]
  have hne : ∀ b ∈ Bs, b ≠ l := fun b hb e => by
    obtain ⟨o2, h2, h3⟩ := hB b hb
    rw [e, h] at h2
    cases h2
    rw [hc] at h3
    cases h3
  have he := own_eq (Bs := Bs) (W := W) (W' := W.putObj l o') (fun b hbs => World.cell?_of_block (a := ⟨b, 0, none⟩) (hoth b (hne b hbs)))
  refine ⟨by omega, fun k hk => by rw [hsz]; exact g k ((he k).1 hk), fun k o2 hk h2 _ => ?_, fun k hk => .inl ((he k).1 hk)⟩
  rw [hoth k (fun e => by rw [e, h] at hk; cases hk; rw [hc] at h2; cases h2)]
  exact hk
theorem KpR.node {Bs : List Nat} {W W' : World} (h : KpR Bs W W') {p : Nat} {K C : Value} (hN : NodeAt W p K C) (hn : ¬ Own Bs W p) : NodeAt W' p K C := h.frame p _ hN rfl hn
theorem KpR.row {Bs : List Nat} {W W' : World} (h : KpR Bs W W') {e : TypeId} {sz n : Nat} {v : Value} {xs : List Value} (hr : Row W e sz v n xs) (hn : ∀ k, v.ownBlock = some k → ¬ Own Bs W k) : Row W' e sz v n xs := by
  obtain ⟨h0, h1, h2⟩ := hr
  refine ⟨h0, h1, ?_⟩
  rcases h2 with h2 | ⟨g, cap, cur, rfl, hg, r⟩
  · exact .inl h2
  · exact .inr ⟨g, cap, cur, rfl, h.frame g _ hg rfl (hn g rfl), r⟩
theorem KpR.ok {Bs : List Nat} {W W' : World} (h : KpR Bs W W') : ∀ {ht : Nat} {m : MT ht}, Ok W ht m → (∀ a ∈ fp ht m, ¬ Own Bs W a) → Ok W' ht m
  | 0, m, hm, hn => ⟨h.node hm.1 (hn _ List.mem_cons_self), h.row hm.2 fun k hk => hn k (List.mem_cons_of_mem _ (bl_mem.2 hk))⟩
  | ht + 1, m, hm, hn => ⟨h.node hm.1 (hn _ List.mem_cons_self), h.row hm.2.1 fun k hk => hn k (List.mem_cons_of_mem _ (List.mem_append_left _ (bl_mem.2 hk))),
      h.row hm.2.2.1 fun k hk => hn k (List.mem_cons_of_mem _ (List.mem_append_right _ (List.mem_append_left _ (bl_mem.2 hk)))), hm.2.2.2.1,
      fun k hk => KpR.ok h (hm.2.2.2.2 k hk) fun a ha => hn a (List.mem_cons_of_mem _ (List.mem_append_right _ (List.mem_append_right _ (List.mem_flatMap.2 ⟨k, hk, ha⟩))))⟩
theorem KpR.apart {Bs : List Nat} {W W' : World} (h : KpR Bs W W') {a : Nat} (hl : a < W.heap.size) (hn : ¬ Own Bs W a) : ¬ Own Bs W' a := fun ho => (h.own a ho).elim hn (fun hle => by omega)
def YP (Bs : List Nat) (J Jx : List S29 → World → Prop) (pre : List S29) (x : S29) (W : World) (e : Ending) (W' : World) : Prop :=
  (e = .returned (.bool true) ∧ J (pre ++ [x]) W' ∧ Kp Bs W W') ∨ (e = .returned (.bool false) ∧ Jx (pre ++ [x]) W')
def WalkPost (Bs : List Nat) (J Jx : List S29 → World → Prop) (pre xs : List S29) (W : World) (e : Ending) (W' : World) : Prop :=
  (e = .returned (.bool true) ∧ J (pre ++ xs) W' ∧ KpR Bs W W') ∨ (e = .returned (.bool false) ∧ ∃ q, q <+: xs ∧ Jx (pre ++ q) W')
set_option maxHeartbeats 4000000 in
theorem walk_leaf (l : Nat) (Bs : List Nat) (N : Nat) (J Jx : List S29 → World → Prop) (hJ : Abide J) (hY : ∀ m pre x W, J pre W → pre.length < N → YieldAt Fence.wide m Try.prog l #[entryV x] W (YP Bs J Jx pre x W)) (e : S29)
    (m : MT 0) (n : Nat) (pre : List S29) (W : World) (hok : Ok W 0 m) (hfp : ∀ a ∈ fp 0 m, ¬ Own Bs W a) (hG : Good Bs W) (hf : Fit e 0 (abs 0 m)) (h0 : J pre W) (hN : pre.length + (bfrom 0 (abs 0 m) e).length ≤ N) :
    CallsIn Fence.wide n Try.prog 53 #[.pointer (some ⟨ptr 0 m, 0, none⟩), entryV e, .func (.yield l) #[] #[]] W (WalkPost Bs J Jx pre (bfrom 0 (abs 0 m) e) W) := by
  have hu29 := Try.underlying29
  obtain ⟨p, K, ks⟩ := m
  obtain ⟨hNd, hR⟩ := hok
  change NodeAt W p K _ at hNd
  change RowE W K ks at hR
  have hks : ks.length ≤ 4 := hf.1
  have hm : Mono ks e := hf.2
  have hN' : pre.length + (ks.drop (low ks e)).length ≤ N := hN
  obtain ⟨A, cK, rfl⟩ := hR.slice
  obtain ⟨i, hi⟩ : ∃ i, low ks e = i := ⟨_, rfl⟩
  have hil : i ≤ ks.length := hi ▸ low_le ks e
  obtain ⟨nk, hnk⟩ : ∃ n, ks.length = n := ⟨_, rfl⟩
  obtain ⟨W0, hW0⟩ : ∃ W0, W.alloc (.cells #[.string e.f0, .int .i64 e.f1.f0, .int .i64 e.f1.f1] 29) = W0 := ⟨_, rfl⟩
  have hb0 : Below W.heap.size W W0 := by rw [← hW0]; exact (Below.refl _ W).alloc (Nat.le_refl _) _
  have hX : W0.heap[W.heap.size]? = some (.cells #[.string e.f0, .int .i64 e.f1.f0, .int .i64 e.f1.f1] 29 (0, 0)) := by rw [← hW0]; exact heap_alloc_new W _
  have b0 : W0.cell? ⟨W.heap.size, 0, none⟩ = some (.string e.f0) := (blk_cell hX 0).trans rfl
  have b1 : W0.cell? ⟨W.heap.size, 1, none⟩ = some (.int .i64 e.f1.f0) := (blk_cell hX 1).trans rfl
  have b2 : W0.cell? ⟨W.heap.size, 2, none⟩ = some (.int .i64 e.f1.f1) := (blk_cell hX 2).trans rfl
  rw [hnk] at hNd hR hil
  have HL := Aside0.mk (fun n => callsIn_wide (n := n).2 (leaf_calls W0 p (.slice A nk cK) none 0 0 (hNd.below hb0)))
  have HF := Aside0.mk (fun n => callsIn_wide (n := n).2 (find_calls W0 p (.slice A nk cK) _ ks e (hNd.below hb0) (Row.below hR hb0) (by omega) hm))
  rw [hi] at HF
  obtain ⟨R, hRR⟩ : ∃ R, WalkPost Bs J Jx pre (ks.drop i) W = R := ⟨_, rfl⟩
  have HR := Aside0.mk hRR
  show CallsIn Fence.wide n Try.prog 53 #[.pointer (some ⟨p, 0, none⟩), .agg #[.string e.f0, .int .i64 e.f1.f0, .int .i64 e.f1.f1], .func (.yield l) #[] #[]] W (WalkPost Bs J Jx pre (ks.drop (low ks e)) W)
  rw [hi, hRR]
  rw [hi] at hN'
  have hp0 : ¬ Own Bs W p := hfp p List.mem_cons_self
  have hg0 : ∀ g, A = some ⟨g, 0, none⟩ → ¬ Own Bs W g := fun g hg => hfp g (List.mem_cons_of_mem _ (by rw [hg]; simp [bl_slice]))
  have HP0 := Aside0.mk hp0
  have HG0 := Aside0.mk hg0
  have HNd := Aside0.mk hNd
  have HRo := Aside0.mk hR
  have HB0 := Aside0.mk (KpR.below hG hb0)
  have HJ := Aside0.mk hJ
  have HY := Aside0.mk hY
  have H0 := Aside0.mk (hJ _ _ _ h0 hb0)
  have HNN := Aside0.mk hN'
  have HNK := Aside0.mk hnk
  clear hNd hR hb0 hX hfp hf hN hm hi hRR hp0 hg0 hJ hY h0 hN' hnk
  have hncl : nk ≤ cK := by
    rcases HRo.out.2.2 with ⟨hv, hk0⟩ | ⟨g, cap, cur, hv, _, hle, _⟩
    · simp at hv
      omega
    · simp at hv
      have := HNK.out
      omega
  by_cases hlt : i < nk
  · have hci : ¬ cK = i := by omega
    obtain ⟨g, hg⟩ : ∃ g, A = some ⟨g, 0, none⟩ := by
      rcases HRo.out.2.2 with ⟨hv, hk0⟩ | ⟨g, cap, cur, hv, _, hle, _⟩
      · have := HNK.out
        omega
      · simp at hv
        exact ⟨g, hv.1⟩
    subst hg
    have hg0 := HG0.out g rfl
    refine callsIn_of_wp Try.func53 rfl trivial ?_ rfl
    simp only [Try.ntmps53, List.size_toArray, List.length_cons, List.length_nil, Nat.reduceAdd, Nat.reduceSub, Array.replicate_succ, Array.replicate_zero, List.push_toArray, List.append_toArray, List.nil_append, List.cons_append]
    gi_wp2_with (first
      | ((try refine ⟨trivial, fun h => (by cases h), ?_⟩); gi_at_call 30; refine (HL.out _).mono ?_; rintro E w' ⟨rfl, hw'⟩; subst hw')
      | ((try refine ⟨trivial, fun h => (by cases h), ?_⟩); gi_at_call 41; refine (HF.out _).mono ?_; rintro E w2 ⟨rfl, hb⟩; have HB2 := Aside0.mk (HB0.out.trans (KpR.below HB0.out.good hb)); have H2 := Aside0.mk (HJ.out _ _ _ H0.out hb); clear hb b0 b1 b2; have c0 := (HB2.out.node HNd.out HP0.out).c0))
    gi_loopw [28] (fun v wr => ∃ j : Nat, v = .int .i64 j ∧ j ≤ nk - i ∧ Aside0 (J (pre ++ (ks.drop i).take j) wr ∧ KpR Bs W wr)) (fun v _ => (nk - i) - (intOf v).toNat)
    case atStart => exact ⟨0, rfl, by omega, Aside0.mk ⟨by simpa using H2.out, HB2.out⟩⟩
    case round =>
      obtain ⟨j, rfl, hj, HI⟩ := hrel
      by_cases hjn : j < nk - i
      · have hlen : i + j < ks.length := by rw [HNK.out]; omega
        obtain ⟨x, hx⟩ : ∃ x, ks[i + j]? = some x := ⟨_, List.getElem?_eq_getElem hlen⟩
        obtain ⟨k0, k1, k2⟩ := RowE.at (show RowE wr _ ks from HI.out.2.row HRo.out (fun k hk => by simp [Value.ownBlock] at hk; subst hk; exact hg0)) hx
        rw [Nat.add_mul] at k0 k1 k2
        obtain ⟨wr1, hwr1⟩ : ∃ W0, wr.alloc (.cells #[.string x.f0, .int .i64 x.f1.f0, .int .i64 x.f1.f1] 29) = W0 := ⟨_, rfl⟩
        have hba : Below wr.heap.size wr wr1 := by rw [← hwr1]; exact (Below.refl _ wr).alloc (Nat.le_refl _) _
        have hXa : wr1.heap[wr.heap.size]? = some (.cells #[.string x.f0, .int .i64 x.f1.f0, .int .i64 x.f1.f1] 29 (0, 0)) := by rw [← hwr1]; exact heap_alloc_new wr _
        have a0 : wr1.cell? ⟨wr.heap.size, 0, none⟩ = some (.string x.f0) := (blk_cell hXa 0).trans rfl
        have a1 : wr1.cell? ⟨wr.heap.size, 1, none⟩ = some (.int .i64 x.f1.f0) := (blk_cell hXa 1).trans rfl
        have a2 : wr1.cell? ⟨wr.heap.size, 2, none⟩ = some (.int .i64 x.f1.f1) := (blk_cell hXa 2).trans rfl
        have HBA := Aside0.mk (HI.out.2.trans (KpR.below HI.out.2.good hba))
        have hlenp : (pre ++ (ks.drop i).take j).length < N := by
          have h1 := HNN.out
          rw [List.length_drop, HNK.out] at h1
          rw [List.length_append, List.length_take, List.length_drop, HNK.out]
          omega
        obtain ⟨fn, tmps, assign, body, hy, hRd⟩ := HY.out (n - 1) _ x wr1 (HJ.out _ _ _ HI.out.1 hba) hlenp
        have HX := Aside0.mk hx
        have hsa := hba.size
        clear hba hXa hlenp hx HI
        unfold entryV at hy
        have hj1 : (j : Int) < (nk : Int) - (i : Int) := by omega
        have htk : (ks.drop i).take (j + 1) = (ks.drop i).take j ++ [x] := by
          rw [List.take_add_one, List.getElem?_drop, HX.out]
          rfl
        have HTK := Aside0.mk htk
        clear htk
        gi_wp2
        refine ⟨fun h => (by cases h), ?_⟩
        refine hRd.mono ?_
        clear k0 k1 k2 a0 a1 a2
        rintro E W3 (⟨rfl, hJ3, hk3⟩ | ⟨rfl, hJx3⟩)
        · have HJ3 := Aside0.mk hJ3
          have HK3 := Aside0.mk hk3
          clear hJ3 hk3
          gi_wp2
          go_roundw
          case rel => exact ⟨j + 1, by go_num, by omega, Aside0.mk ⟨by rw [HTK.out, ← List.append_assoc]; exact HJ3.out, HBA.out.trans (HK3.out HBA.out.good)⟩⟩
          case measure => simp [intOf]; omega
        · have HJ3 := Aside0.mk hJx3
          clear hJx3
          gi_wp2
          first | (rw [← HR.out]) | (go_ret; rw [← HR.out])
          exact .inr ⟨rfl, (ks.drop i).take (j + 1), List.take_prefix _ _, by rw [HTK.out, ← List.append_assoc]; exact HJ3.out⟩
      · have hjn2 : ¬ (j : Int) < (nk : Int) - (i : Int) := by omega
        have HT := Aside0.mk (show (ks.drop i).take j = ks.drop i by rw [List.take_of_length_le]; rw [List.length_drop, HNK.out]; omega)
        gi_wp2
        first | (rw [← HR.out]) | (go_ret; rw [← HR.out])
        refine .inl ⟨rfl, ?_, HI.out.2⟩
        have := HI.out.1
        rw [HT.out] at this
        exact this
  · have hin : i = nk := by omega
    subst hin
    have HD := Aside0.mk (show ks.drop i = [] by rw [List.drop_eq_nil_iff, HNK.out]; omega)
    by_cases hci : cK = i
    all_goals
      refine callsIn_of_wp Try.func53 rfl trivial ?_ rfl
      simp only [Try.ntmps53, List.size_toArray, List.length_cons, List.length_nil, Nat.reduceAdd, Nat.reduceSub, Array.replicate_succ, Array.replicate_zero, List.push_toArray, List.append_toArray, List.nil_append, List.cons_append]
      gi_wp2_with (first
        | ((try refine ⟨trivial, fun h => (by cases h), ?_⟩); gi_at_call 30; refine (HL.out _).mono ?_; rintro E w' ⟨rfl, hw'⟩; subst hw')
        | ((try refine ⟨trivial, fun h => (by cases h), ?_⟩); gi_at_call 41; refine (HF.out _).mono ?_; rintro E w2 ⟨rfl, hb⟩; have HB2 := Aside0.mk (HB0.out.trans (KpR.below HB0.out.good hb)); have H2 := Aside0.mk (HJ.out _ _ _ H0.out hb); clear hb b0 b1 b2; have c0 := (HB2.out.node HNd.out HP0.out).c0))
      gi_loopw [28] (fun v wr => v = .int .i64 0 ∧ Aside0 (J pre wr ∧ KpR Bs W wr)) (fun v _ => 0)
      case atStart => exact ⟨rfl, Aside0.mk ⟨H2.out, HB2.out⟩⟩
      case round =>
        obtain ⟨rfl, HI⟩ := hrel
        gi_wp2
        first | (rw [← HR.out]) | (go_ret; rw [← HR.out])
        refine .inl ⟨rfl, ?_, HI.out.2⟩
        rw [HD.out, List.append_nil]
        exact HI.out.1
end Go.Proofs.Bt
end
