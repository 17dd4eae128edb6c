/- Packed by shake.py: YtjaddmflopahiaaD2 YtjaddmflopahiaaD4 YtjaddmflopahiaaD5 YtjaddmflopahiaaE1 YtjaddmflopahiaaE2 YtjaddmflopahiaaE3 YtjaddmflopahiaaE4 YtjaddmflopahiaaE5 YtjaddmflopahiaaE6 YtjaddmflopahiaaE12 YtjaddmflopahiaaQe27 YtjaddmflopahiaaQe29 YtjaddmflopahiaaE14 YtjaddmflopahiaaP1 -/
import Derived.RangeFuncNested
import Derived.RangeFuncBound
import Derived.RangeFuncCalls
import Derived.RangeFuncLeaves
import Derived.RangeFuncBox
import Derived.Shelf.Abstract
import Derived.WalkKit
import Derived.OwnWalkIn
import Derived.TacticsInMore
import Derived.LoopNIn
import Derived.LoopIn
import Derived.Lib.Strings
import Derived.Test.YtjaddmflopahiaaV4
section
namespace Go.Proofs.Bt
open Go Go.RowKit Go.Proofs.Ytjaddmflopahiaa.Q Go.Proofs.YtjaddmflopahiaaW.PrintWords Go.Proofs.YtjaddmflopahiaaW.PrintLast Go.Proofs.YtjaddmflopahiaaW.PrintMore
set_option linter.unusedVariables false
set_option linter.unusedSimpArgs false
set_option maxRecDepth 100000
theorem range_filterMap {α : Type} (l : List α) : (List.range l.length).filterMap (fun i => l[i]?) = l := by
  induction l with
  | nil => rfl
  | cons x l ih =>
    rw [List.length_cons, List.range_succ_eq_map, List.filterMap_cons]
    simp only [List.getElem?_cons_zero, List.filterMap_map]
    congr 1
theorem perm_ix {α : Type} (l : List α) (ix : List Nat) (n : Nat) (hn : l.length = n) (h : ix.Perm (List.range n)) : l.Perm (ix.filterMap (fun i => l[i]?)) := by
  subst hn
  have := h.symm.filterMap (fun i => l[i]?)
  rw [range_filterMap] at this
  exact this
def tatC (tp r : Nat) (cnt : Int) : Chunk := ⟨fun w => TreeAt w tp r cnt, [tp], fun h x hx => by simp at hx; subst hx; exact h.lt, fun h hm => (hm tp (by simp)).trans h⟩
section
variable {w0 w w' : World} {F : Nat → Prop} {cs : List Chunk} {tp r : Nat} {cnt : Int}
theorem St.tat (s : St w0 F w cs) (i : Nat) (hi : cs[i]? = some (tatC tp r cnt)) : TreeAt w tp r cnt := s.get i hi
theorem St.putR (s : St w0 F w cs) (i : Nat) (hi : cs[i]? = some (tatC tp r cnt)) (r' : Nat) : St w0 F (w.setCell ⟨tp, 0, none⟩ (.pointer (some ⟨r', 0, none⟩))) (cs.set i (tatC tp r' cnt)) :=
  s.upd i hi (tatC tp r' cnt) (keep_set w tp 0 _ _ (by simp [tatC])) (blk_put (s.tat i hi) 0 (.pointer (some ⟨r', 0, none⟩)) rfl) (nd_one tp) (fun b hb => .inl hb)
theorem St.putN (s : St w0 F w cs) (i : Nat) (hi : cs[i]? = some (tatC tp r cnt)) (n : Int) : St w0 F (w.setCell ⟨tp, 1, none⟩ (.int .i64 n)) (cs.set i (tatC tp r n)) :=
  s.upd i hi (tatC tp r n) (keep_set w tp 1 _ _ (by simp [tatC])) (blk_put (s.tat i hi) 1 (.int .i64 n) rfl) (nd_one tp) (fun b hb => .inl hb)
end
def treeT (tp h : Nat) (m : MT h) (cnt : Int) : List Chunk := [tatC tp (ptr h m) cnt, treeC h m]
def TDelPost (w : World) (tp h : Nat) (m : MT h) (cnt : Int) (e : S29) (E : Ending) (w' : World) : Prop :=
  ∃ (h' : Nat) (m' : MT h'), E = .returned (.bool (tcut h (abs h m) e).2) ∧ (⟨h', abs h' m'⟩ : Σ h, BT h) = (tcut h (abs h m) e).1 ∧
    St w (fun b => b ∈ fpc (treeT tp h m cnt)) w' (treeT tp h' m' (if (tcut h (abs h m) e).2 = true then cnt - 1 else cnt))
theorem tcut_no {h : Nat} {t : BT h} {e : S29} (hb : (bcut h t e).2 = false) : tcut h t e = (⟨h, (bcut h t e).1⟩, false) := by
  unfold tcut
  rw [if_neg (by rw [hb]; simp)]
theorem tcut_snd (h : Nat) (t : BT h) (e : S29) : (tcut h t e).2 = (bcut h t e).2 := by
  unfold tcut
  cases hb : (bcut h t e).2 with
  | false => rw [if_neg (by simp)]
  | true => rw [if_pos rfl]
theorem tcut_leaf {t : BT 0} {e : S29} (hb : (bcut 0 t e).2 = true) : (tcut 0 t e).1 = ⟨0, (bcut 0 t e).1⟩ := by
  unfold tcut
  rw [if_pos hb]
theorem tcut_keep {h : Nat} {t : BT h} {e : S29} (hb : (bcut h t e).2 = true) (hn : blen h (bcut h t e).1 ≠ 0) : (tcut h t e).1 = ⟨h, (bcut h t e).1⟩ := by
  unfold tcut
  rw [if_pos hb]
  cases h with
  | zero => rfl
  | succ h =>
    cases hx : (bcut (h + 1) t e).1 with
    | mk a b =>
      cases a with
      | nil => exact absurd (by rw [hx]; rfl) hn
      | cons y a => rfl
theorem tcut_drop {h : Nat} {t : BT (h + 1)} {e : S29} {k : BT h} {l : List (BT h)} (hb : (bcut (h + 1) t e).2 = true) (hn : (bcut (h + 1) t e).1 = (([], k :: l) : List S29 × List (BT h))) : (tcut (h + 1) t e).1 = ⟨h, k⟩ := by
  unfold tcut
  rw [if_pos hb]
  simp only [hn]
set_option maxHeartbeats 4000000 in
theorem tdelete_calls (w : World) (tp h : Nat) (m : MT h) (cnt : Int) (e : S29) (s : St w (fun b => b ∈ fpc (treeT tp h m cnt)) w (treeT tp h m cnt)) (hf : CutFit e h (abs h m)) (hc0 : 0 ≤ cnt) (hc1 : cnt < 1000000) :
    Calls Try.prog 15 #[.pointer (some ⟨tp, 0, none⟩), entryV e] w (TDelPost w tp h m cnt e) := by
  have hu29 := Try.underlying29
  have hu62 := Try.underlying62
  have hu64 := Try.underlying64
  obtain ⟨R, hR⟩ : ∃ R, TDelPost w tp h m cnt e = R := ⟨_, rfl⟩
  rw [hR]
  have HR := Aside0.mk hR
  obtain ⟨b, hb⟩ : ∃ b, (bcut h (abs h m) e).2 = b := ⟨_, rfl⟩
  have HB := Aside0.mk hb
  have HC := Aside0.mk (fun w' s' => cut_calls h w' m e s' hf)
  obtain ⟨r, hr⟩ : ∃ r, ptr h m = r := ⟨_, rfl⟩
  have s' : St w (fun b => b ∈ fpc (treeT tp h m cnt)) w [treeC h m, tatC tp (ptr h m) cnt] := s.perm (List.Perm.swap _ _ _)
  rw [hr] at HC s'
  have HRT := Aside0.mk hr
  obtain ⟨n0, hn0⟩ : ∃ n, w.heap.size = n := ⟨_, rfl⟩
  obtain ⟨W0, hW0⟩ : ∃ W0, w.alloc (.cells #[.string e.f0, .int .i64 e.f1.f0, .int .i64 e.f1.f1] 29) = W0 := ⟨_, rfl⟩
  have HS0 := Aside0.mk (s'.alloc #[.string e.f0, .int .i64 e.f1.f0, .int .i64 e.f1.f1] 29 hn0)
  rw [hW0] at HS0
  clear s s' hf hR hb hr
  unfold entryV
  show Calls Try.prog 15 #[.pointer (some ⟨tp, 0, none⟩), .agg #[.string e.f0, .int .i64 e.f1.f0, .int .i64 e.f1.f1]] w R
  go_enter Try.func15, Try.ntmps15
  go_wp2
  refine start_ (n := 7) (S := fun w' => w'.cell? ⟨tp, 0, none⟩ = some (.pointer (some ⟨r, 0, none⟩)) ∧ w'.cell? ⟨n0, 0, none⟩ = some (.string e.f0) ∧ w'.cell? ⟨n0, 1, none⟩ = some (.int .i64 e.f1.f0) ∧ w'.cell? ⟨n0, 2, none⟩ = some (.int .i64 e.f1.f1)) (ds := []) #[false, false, false, false, false, false, false] (by kernel_rfl) rfl rfl ⟨(HS0.out.tat 1 rfl).c0, (blk_cell (HS0.out.blk 2 rfl) 0).trans rfl, (blk_cell (HS0.out.blk 2 rfl) 1).trans rfl, (blk_cell (HS0.out.blk 2 rfl) 2).trans rfl⟩ (fun hHeld => ?_)
  have HS1 := Aside0.mk (HS0.out.drew)
  clear HS0
  generalize W0.drew = w1 at HS1 hHeld  ⊢
  refine pure_ (i := 0) (N := (some 5)) (v := ?_) (a' := ?_) #[true, false, false, false, false, false, false] rfl rfl (by kernel_rfl) (fun _ _ _ h => h) (Or.inl ⟨by rfl, ?_⟩) ?_ ?_
  rotate_left
  · intro w'
    go_simp
    with_reducible rfl
  rotate_left
  · simp only [Act.put, List.setIfInBounds_toArray, List.set_cons_zero, List.set_cons_succ, i64_w, i32_w]
    rfl
  refine pure_ (i := 1) (N := (some 6)) (v := ?_) (a' := ?_) #[true, true, false, false, false, false, false] rfl rfl (by kernel_rfl) (fun _ _ _ h => h) (Or.inl ⟨by rfl, ?_⟩) ?_ ?_
  rotate_left
  · intro w'
    go_simp
    with_reducible rfl
  rotate_left
  · simp only [Act.put, List.setIfInBounds_toArray, List.set_cons_zero, List.set_cons_succ, i64_w, i32_w]
    rfl
  refine pure_ (i := 2) (N := (some 7)) (v := ?_) (a' := ?_) #[true, true, true, false, false, false, false] rfl rfl (by kernel_rfl) (fun _ _ _ h => h) (Or.inl ⟨by rfl, ?_⟩) ?_ ?_
  rotate_left
  · intro w'
    go_simp
    with_reducible rfl
  rotate_left
  · simp only [Act.put, List.setIfInBounds_toArray, List.set_cons_zero, List.set_cons_succ, i64_w, i32_w]
    rfl
  refine take_ (i := 3) (N := (some 8)) (v := ?_) (a' := ?_) #[true, true, true, true, false, false, false] rfl rfl (by kernel_rfl) (fun _ _ _ h => h) (Or.inl ⟨by rfl, ?_⟩) hHeld ?_ ?_
  rotate_left
  · rintro w' ⟨s0, s1, s2, s3⟩
    go_simp
    with_reducible rfl
  rotate_left
  · simp only [Act.put, List.setIfInBounds_toArray, List.set_cons_zero, List.set_cons_succ, i64_w, i32_w]
    rfl
  refine take_ (i := 4) (N := (some 9)) (v := ?_) (a' := ?_) #[true, true, true, true, true, false, false] rfl rfl (by kernel_rfl) (fun _ _ _ h => h) (Or.inl ⟨by rfl, ?_⟩) hHeld ?_ ?_
  rotate_left
  · rintro w' ⟨s0, s1, s2, s3⟩
    go_simp
    with_reducible rfl
  rotate_left
  · simp only [Act.put, List.setIfInBounds_toArray, List.set_cons_zero, List.set_cons_succ, i64_w, i32_w]
    rfl
  refine one_ (i := 5) (N := (some 10)) #[true, true, true, true, true, true, false] rfl rfl (by kernel_rfl) (by decide) (fun K_ hK => ?_)
  refine goes_ Try.func29 (by kernel_rfl) rfl #[.pointer (some ⟨r, 0, none⟩), .agg #[.string e.f0, .int .i64 e.f1.f0, .int .i64 e.f1.f1]] (by rfl) rfl rfl (by (try simp only [List.map_toArray, List.map_cons, List.map_nil]); first | done | rfl) ?_
  refine (HC.out _ (St.sub (A := [treeC h m]) HS1.out)).mono ?_
  rintro E w2 ⟨m', rfl, hpm, ham, st⟩
  have HS2 := Aside0.mk (St.call (A := [treeC h m]) HS1.out st)
  clear HS1
  rw [HB.out]
  have HPM := Aside0.mk (hpm.trans HRT.out)
  have HAM := Aside0.mk ham
  clear st hpm ham
  refine ⟨_, rfl, ?_⟩
  clear hHeld
  refine hK.out _ _ ⟨(HS2.out.tat 1 rfl).c0, (blk_cell (HS2.out.blk 2 rfl) 0).trans rfl, (blk_cell (HS2.out.blk 2 rfl) 1).trans rfl, (blk_cell (HS2.out.blk 2 rfl) 2).trans rfl⟩ (fun hHeld => ?_)
  clear hK K_
  refine norm_ (a' := ?_) ?_ ?_
  rotate_left
  · show Act.put _ (some 10) _ = _
    simp only [Act.put, List.setIfInBounds_toArray, List.set_cons_zero, List.set_cons_succ, i64_w, i32_w]
    rfl
  refine pure_ (i := 6) (N := (some 11)) (v := ?_) (a' := ?_) #[true, true, true, true, true, true, true] rfl rfl (by kernel_rfl) (fun _ _ _ h => h) (Or.inl ⟨by rfl, ?_⟩) ?_ ?_
  rotate_left
  · intro w'
    go_simp
    with_reducible rfl
  rotate_left
  · simp only [Act.put, List.setIfInBounds_toArray, List.set_cons_zero, List.set_cons_succ, i64_w, i32_w]
    rfl
  refine done_ (by kernel_rfl) ?_
  have hne : r ≠ tp := fun e0 => HS2.out.apart 0 1 (by decide) rfl rfl r (by have := ptr_mem h m'; rw [HPM.out] at this; exact this) (by simp [tatC, e0])
  have hok : Ok w2 h m' := HS2.out.tree 0 rfl
  obtain ⟨AK, cK, hK⟩ := hok.row.slice
  have n0' := hok.node.c0
  rw [hK, HPM.out] at n0'
  have t0 := (HS2.out.tat 1 rfl).c0
  have t1 := (HS2.out.tat 1 rfl).c1
  have g0 := (HS2.out.tat 1 rfl).fz 0
  have g1 := (HS2.out.tat 1 rfl).fz 1
  have hw1 : IntKind.i64.wrap (cnt - 1) = cnt - 1 := by rw [IntKind.wrap_i64]; omega
  obtain ⟨L, hL⟩ : ∃ L, (mks h m').length = L := ⟨_, rfl⟩
  rw [hL] at n0'
  have HL := Aside0.mk (show blen h (abs h m') = L by rw [blen, abs_keys]; exact hL)
  have HOK := Aside0.mk hok
  clear hK hL hHeld hok
  cases b
  · go_wp2
    rw [← HR.out]
    refine ⟨h, m', ?_, ?_, ?_⟩
    · rw [tcut_snd, HB.out]
      rfl
    · rw [tcut_no HB.out, HAM.out]
    · rw [tcut_snd, HB.out]
      show St _ _ _ [tatC tp (ptr _ m') _, treeC _ m']
      rw [HPM.out]
      have hh : St _ _ _ ([treeC h m', tatC tp r cnt] ++ [blkC n0 _]) := HS2.out
      exact hh.left.perm (List.Perm.swap _ _ _)
  · have HF := Aside0.mk (show St w _ _ [treeC h m', tatC tp r (cnt - 1)] from by
      have hh : St _ _ _ ([treeC h m', tatC tp r cnt] ++ [blkC n0 _]) := HS2.out
      exact hh.left.putN 1 rfl (cnt - 1))
    by_cases hL0 : L = 0
    · subst hL0
      cases h with
      | zero =>
        have HLF := Aside0.mk (fun w' (hN : NodeAt w' r (mK 0 m') (.slice none 0 0)) => leaf_calls w' r (mK 0 m') none 0 0 hN)
        have HN := Aside0.mk (show NodeAt _ r (mK 0 m') (.slice none 0 0) from by have := (HF.out.tree 0 rfl : Ok _ 0 m').node; rw [HPM.out] at this; exact this)
        go_wp2_with (first
          | (go_at_call 30; refine (HLF.out _ HN.out).mono ?_; rintro E w3 ⟨rfl, rfl⟩))
        rw [← HR.out]
        refine ⟨0, m', ?_, ?_, ?_⟩
        · rw [tcut_snd, HB.out]
          rfl
        · rw [tcut_leaf HB.out, HAM.out]
        · rw [tcut_snd, HB.out]
          show St _ _ _ [tatC tp (ptr _ m') _, treeC _ m']
          rw [HPM.out]
          exact HF.out.perm (List.Perm.swap _ _ _)
      | succ h =>
        obtain ⟨p, K, C, ks, kids⟩ := m'
        have hp : p = r := HPM.out
        subst hp
        have hk0 : 0 < kids.length := (HOK.out : Ok _ (h + 1) (⟨p, K, C, ks, kids⟩ : Inner (MT h))).2.2.2.1
        obtain ⟨k, kids, rfl⟩ := cons_of kids hk0
        have HOP := Aside0.mk (open_one (X := []) (HF.out))
        have hrp := (HOP.out.rowP 3 rfl)
        obtain ⟨gc, cC, rfl, hcC⟩ := rowP_form hrp (by simp [ptrs])
        have hq1 := (HOP.out.node 1 rfl).c1
        have hq0 := hrp.cell rfl 0 _ (show _ = some (.pointer (some ⟨ptr h k, 0, none⟩)) from rfl)
        have HNN := Aside0.mk (HOP.out.node 1 rfl)
        obtain ⟨nn, hnn⟩ : ∃ nn, (ptrs h ([] ++ k :: kids)).length = nn := ⟨_, rfl⟩
        have hnn0 : 0 < nn := by rw [← hnn]; simp [ptrs]
        rw [hnn] at hq1 HNN
        have hnn1 : (0 : Int) < (nn : Int) := by omega
        have hne2 : nn ≠ 0 := by omega
        have hks : ks = [] := List.eq_nil_of_length_eq_zero HL.out
        have HKS := Aside0.mk hks
        clear hrp hnn hks hk0
        have HW := Aside0.mk (fun w' (hN : NodeAt w' p K (.slice (some ⟨gc, 0, none⟩) nn cC)) => leaf_no w' p K _ nn cC hN hne2)
        go_wp2_with (first
          | (go_at_call 30; refine (HW.out _ HNN.out).mono ?_; rintro E w3 ⟨rfl, hw3⟩; subst hw3))
        rw [← HR.out]
        have hst := HOP.out.putR 5 rfl (ptr h k)
        refine ⟨h, k, ?_, ?_, ?_⟩
        · rw [tcut_snd, HB.out]
          rfl
        · refine (tcut_drop HB.out (l := kids.map (abs h)) ?_).symm
          rw [← HAM.out, HKS.out]
          rfl
        · rw [tcut_snd, HB.out]
          have h2 : St _ _ _ ([treeC h k] ++ [nodeC p K _, rowEC K ks, rowPC _ _, forC h ([] ++ kids), tatC tp (ptr h k) (cnt - 1)]) := hst
          have h3 := h2.perm (B := [tatC tp (ptr h k) (cnt - 1), treeC h k] ++ [nodeC p K _, rowEC K ks, rowPC _ _, forC h ([] ++ kids)]) (perm_ix _ [5, 0, 1, 2, 3, 4] 6 rfl (by decide))
          exact h3.left
    · have hLb : ((L : Int) == 0) = false := by simp; omega
      have hLd : decide ((L : Int) = 0) = false := by simp; omega
      go_wp2
      rw [← HR.out]
      refine ⟨h, m', ?_, ?_, ?_⟩
      · rw [tcut_snd, HB.out]
        rfl
      · rw [tcut_keep HB.out (by rw [← HAM.out, HL.out]; exact hL0), HAM.out]
      · rw [tcut_snd, HB.out]
        show St _ _ _ [tatC tp (ptr _ m') _, treeC _ m']
        rw [HPM.out]
        exact HF.out.perm (List.Perm.swap _ _ _)
end Go.Proofs.Bt
end
section
namespace Go.Proofs.Bt
open Go Go.RowKit Go.Proofs.Ytjaddmflopahiaa.Q Go.Proofs.YtjaddmflopahiaaW.PrintWords Go.Proofs.YtjaddmflopahiaaW.PrintLast Go.Proofs.YtjaddmflopahiaaW.PrintMore
set_option linter.unusedVariables false
set_option linter.unusedSimpArgs false
set_option maxRecDepth 100000
def layK : List (Nat → List PgA) → Nat → List PgA
  | [], _ => []
  | f :: fs, a => f a ++ layK fs (a + (f a).length)
def lidx : List (Nat → List PgA) → Nat → List Int
  | [], _ => []
  | f :: fs, a => (a : Int) :: lidx fs (a + (f a).length)
def blay : (h : Nat) → BT h → Nat → List PgA
  | 0, ks, _ => [(true, ks, [])]
  | h + 1, t, a => (false, t.1, lidx (t.2.map (blay h)) (a + 1)) :: layK (t.2.map (blay h)) (a + 1)
theorem layK_snoc : ∀ (fs : List (Nat → List PgA)) (f : Nat → List PgA) (a : Nat), layK (fs ++ [f]) a = layK fs a ++ f (a + (layK fs a).length)
  | [], f, a => by simp [layK]
  | g :: fs, f, a => by
    show g a ++ layK (fs ++ [f]) (a + (g a).length) = _
    rw [layK_snoc fs f]
    simp only [layK, List.length_append, List.append_assoc, Nat.add_assoc]
theorem lidx_snoc : ∀ (fs : List (Nat → List PgA)) (f : Nat → List PgA) (a : Nat), lidx (fs ++ [f]) a = lidx fs a ++ [((a + (layK fs a).length : Nat) : Int)]
  | [], f, a => by simp [layK, lidx]
  | g :: fs, f, a => by
    show (a : Int) :: lidx (fs ++ [f]) (a + (g a).length) = _
    rw [lidx_snoc fs f]
    simp only [layK, lidx, List.length_append, Nat.add_assoc, List.cons_append]
theorem lidx_len : ∀ (fs : List (Nat → List PgA)) (a : Nat), (lidx fs a).length = fs.length
  | [], a => rfl
  | f :: fs, a => by simp [lidx, lidx_len fs]
theorem layK_take_le : ∀ (fs : List (Nat → List PgA)) (j a : Nat), (layK (fs.take j) a).length ≤ (layK fs a).length
  | [], j, a => by simp [layK]
  | f :: fs, 0, a => by simp [layK]
  | f :: fs, j + 1, a => by
    show (f a ++ layK (fs.take j) (a + (f a).length)).length ≤ (f a ++ layK fs (a + (f a).length)).length
    have := layK_take_le fs j (a + (f a).length)
    rw [List.length_append, List.length_append]
    omega
def LayPost (w : World) (F : Nat → Prop) (T : Chunk) (l : List Pg) (pg : List PgA) (E : Ending) (w' : World) : Prop :=
  ∃ (g n c : Nat) (ex : List Pg), E = .returned (.tuple #[.slice (some ⟨g, 0, none⟩) n c, .int .i64 (l.length : Int)]) ∧ ex.map Pg.a = pg ∧ St w F w' [pagesC (.slice (some ⟨g, 0, none⟩) n c) (l ++ ex), T]
theorem cloneE (w : World) (K : Value) (ks : List S29) (hR : RowE w K ks) (hn : ks.length < 1000) : Calls Try.prog 45 #[K] w fun e w' => ∃ K', e = .returned K' ∧ RowE w' K' ks ∧ Below w.heap.size w w' ∧ ∀ b ∈ bl K', w.heap.size ≤ b := by
  rcases hR.2.2 with ⟨rfl, hk⟩ | ⟨g, cap, cur, rfl, hg, hnc, hcm, hcs, ht⟩
  · refine (clone45_nil w).mono ?_
    rintro E w' ⟨rfl, rfl⟩
    exact ⟨_, rfl, hR, Below.refl _ _, fun b hb => by simp [bl, Value.ownBlock] at hb⟩
  · refine (clone45 w ⟨g, 0, none⟩ ks.length cap (encEs ks) (encEs_len ks) (row_cells hR) (encEs_one ks) (by omega)).mono ?_
    rintro E w' ⟨k, c, rfl, hk, hr, hb⟩
    exact ⟨_, rfl, hr, hb, fun b hb => by rw [bl_slice] at hb; simp at hb; omega⟩
theorem St.fresh {w0 w w' : World} {F : Nat → Prop} {cs : List Chunk} (s : St w0 F w cs) (hb : Below w.heap.size w w') (c : Chunk) (hc : c.H w') (hnd : ND c.bs) (hs : ∀ b ∈ c.bs, w.heap.size ≤ b) : St w0 F w' (c :: cs) := by
  have s2 := s.below hb
  have hlt := s.lt
  refine ⟨s2.keep, ?_, ?_, ?_⟩
  · intro d hd
    rcases List.mem_cons.1 hd with rfl | hd
    · exact hc
    · exact s2.h d hd
  · rw [fpc_cons]
    exact nd_app.2 ⟨hnd, s.nd, fun x hx hm => by have := hlt x hm; have := hs x hx; omega⟩
  · intro b hb
    rw [fpc_cons] at hb
    rcases List.mem_append.1 hb with hb | hb
    · have := hs b hb
      have := s.keep.size
      exact .inr (by omega)
    · exact s.own b hb
theorem wpList_append_run {P : Program} {ops : Array Oper} {rest : List Oper} {o : Oper} {a : Act} {w : World} {Q : Exit → Act → World → Prop} (hgd : o.guard = none) (d x : Operand) (dT sT : TypeId)
    (hop : o.op = Op.call { callee := Callee.builtin Builtin.append, args := #[d, x], argTypes := #[dT, sT] }) (v u : Value) (hd : a.eval d = v) (hx : a.eval x = u) {v' : Value} {w' : World} (hr : (Builtin.append_ #[dT, sT] o.type #[v, u]).run P w = .ok v' w')
    (h : wpList P ops Q rest (a.put o.dst v') w') : wpList P ops Q (o :: rest) a w :=
  wpList_plain hgd fun _ hK => by
    unfold Oper.wp
    simp [execOp, hop, resolve, invoke, builtin, hd, hx, hr, Result.andThen]
    exact hK _ _ h
def LayRel (w : World) (F : Nat → Prop) (T : Chunk) (l : List Pg) (p0 : Pg) (fs : List (Nat → List PgA)) (j : Nat) (v : Value) (ex : List Pg) (u : Value) (wx : World) : Prop :=
  ex.map Pg.a = layK (fs.take j) (l.length + 1) ∧ St w F wx [pagesC v (l ++ p0 :: ex), rowIC u (lidx (fs.take j) (l.length + 1)), T]
theorem pages_len {v : Value} {l : List Pg} {w0 w : World} {F : Nat → Prop} {R : List Chunk} (s : St w0 F w (pagesC v l :: R)) : ∃ A c, v = .slice A l.length c := by
  have h : RowPg w v l := (s.h (pagesC v l) (by simp)).1
  rcases h.2.2 with ⟨rfl, hk⟩ | ⟨g, cap, cur, rfl, hg, hn, _⟩
  · exact ⟨none, 0, by rw [hk]⟩
  · exact ⟨_, _, rfl⟩
set_option maxHeartbeats 4000000 in
theorem lay_node (w : World) (T : Chunk) (p : Nat) (K : Value) (A : Option Addr) (cC : Nat) (ks : List S29) (fs : List (Nat → List PgA)) (q : Nat → Nat) (v : Value) (l : List Pg)
    (F : Nat → Prop) (s : St w F w [pagesC v l, T]) (hN : ∀ w', T.H w' → NodeAt w' p K (.slice A fs.length cC) ∧ RowE w' K ks) (hcell : ∀ j, j < fs.length → ∃ g, A = some ⟨g, 0, none⟩ ∧ ∀ w', T.H w' → w'.cell? ⟨g, j, none⟩ = some (.pointer (some ⟨q j, 0, none⟩)))
    (hrec : ∀ j f, fs[j]? = some f → ∀ w' v' l', St w' (fun b => b ∈ fpc [pagesC v' l', T]) w' [pagesC v' l', T] → l'.length + (f l'.length).length < 100000 → Calls Try.prog 28 #[.pointer (some ⟨q j, 0, none⟩), v'] w' (LayPost w' (fun b => b ∈ fpc [pagesC v' l', T]) T l' (f l'.length)))
    (hks : ks.length < 1000) (hfs : fs.length < 1000) (hb : l.length + 1 + (layK fs (l.length + 1)).length < 100000) :
    Calls Try.prog 28 #[.pointer (some ⟨p, 0, none⟩), v] w (LayPost w F T l ((decide (fs.length = 0), ks, lidx fs (l.length + 1)) :: layK fs (l.length + 1))) := by
  have hu35 := Try.underlying35
  obtain ⟨R, hR⟩ : ∃ R, LayPost w F T l ((decide (fs.length = 0), ks, lidx fs (l.length + 1)) :: layK fs (l.length + 1)) = R := ⟨_, rfl⟩
  rw [hR]
  have HR := Aside0.mk hR
  obtain ⟨A0, c0, rfl⟩ := pages_len s
  obtain ⟨L, hL⟩ : ∃ L, l.length = L := ⟨_, rfl⟩
  rw [hL] at s
  have HL := Aside0.mk hL
  obtain ⟨n, hn⟩ : ∃ n, fs.length = n := ⟨_, rfl⟩
  rw [hn] at hN hfs
  have HNN := Aside0.mk hn
  have HB := Aside0.mk hb
  have hL1 : L < 100000 := by omega
  have HN := Aside0.mk hN
  have HC := Aside0.mk hcell
  have HREC := Aside0.mk hrec
  have HS := Aside0.mk s
  have HLF := Aside0.mk (fun w' (h : T.H w') => leaf_calls w' p K A n cC (hN w' h).1)
  obtain ⟨lf, hlf⟩ : ∃ lf, decide (n = 0) = lf := ⟨_, rfl⟩
  rw [hlf] at HLF
  have HLFE := Aside0.mk hlf
  rw [hL]
  clear s hN hcell hrec hR hb hL hlf hn
  go_enter Try.func28, Try.ntmps28
  go_wp2
  refine start_ (n := 12) (S := fun w' => w'.cell? ⟨p, 0, none⟩ = some K) (ds := []) #[false, false, false, false, false, false, false, false, false, false, false, false] (by kernel_rfl) rfl rfl (HN.out _ (HS.out.get 1 rfl)).1.c0 (fun hHeld => ?_)
  have HS1 := Aside0.mk (HS.out.drew)
  clear HS
  generalize w.drew = w1 at HS1 hHeld  ⊢
  refine pure_ (i := 0) (N := (some 13)) (v := ?_) (a' := ?_) #[true, false, false, false, false, false, false, false, false, false, false, false] rfl rfl (by kernel_rfl) (fun _ _ _ h => h) (Or.inl ⟨by rfl, ?_⟩) ?_ ?_
  rotate_left
  · intro w'
    go_simp
    with_reducible rfl
  rotate_left
  · simp only [Act.put, List.setIfInBounds_toArray, List.set_cons_zero, List.set_cons_succ, i64_w, i32_w]
    rfl
  refine pure_ (i := 1) (N := (some 14)) (v := ?_) (a' := ?_) #[true, true, false, false, false, false, false, false, false, false, false, false] rfl rfl (by kernel_rfl) (fun _ _ _ h => h) (Or.inl ⟨by rfl, ?_⟩) ?_ ?_
  rotate_left
  · intro w'
    go_simp
    with_reducible rfl
  rotate_left
  · simp only [Act.put, List.setIfInBounds_toArray, List.set_cons_zero, List.set_cons_succ, i64_w, i32_w]
    rfl
  refine pure_ (i := 3) (N := (some 16)) (v := ?_) (a' := ?_) #[true, true, false, true, false, false, false, false, false, false, false, false] rfl rfl (by kernel_rfl) (fun _ _ _ h => h) (Or.inl ⟨by rfl, ?_⟩) ?_ ?_
  rotate_left
  · intro w'
    go_simp
    with_reducible rfl
  rotate_left
  · simp only [Act.put, List.setIfInBounds_toArray, List.set_cons_zero, List.set_cons_succ, i64_w, i32_w]
    rfl
  refine pure_ (i := 4) (N := (some 17)) (v := ?_) (a' := ?_) #[true, true, false, true, true, false, false, false, false, false, false, false] rfl rfl (by kernel_rfl) (fun _ _ _ h => h) (Or.inl ⟨by rfl, ?_⟩) ?_ ?_
  rotate_left
  · intro w'
    go_simp
    with_reducible rfl
  rotate_left
  · simp only [Act.put, List.setIfInBounds_toArray, List.set_cons_zero, List.set_cons_succ, i64_w, i32_w]
    rfl
  refine pure_ (i := 5) (N := (some 18)) (v := ?_) (a' := ?_) #[true, true, false, true, true, true, false, false, false, false, false, false] rfl rfl (by kernel_rfl) (fun _ _ _ h => h) (Or.inl ⟨by rfl, ?_⟩) ?_ ?_
  rotate_left
  · intro w'
    go_simp
    with_reducible rfl
  rotate_left
  · simp only [Act.put, List.setIfInBounds_toArray, List.set_cons_zero, List.set_cons_succ, i64_w, i32_w]
    rfl
  refine take_ (i := 6) (N := (some 19)) (v := ?_) (a' := ?_) #[true, true, false, true, true, true, true, false, false, false, false, false] rfl rfl (by kernel_rfl) (fun _ _ _ h => h) (Or.inl ⟨by rfl, ?_⟩) hHeld ?_ ?_
  rotate_left
  · rintro w' s0
    go_simp
    with_reducible rfl
  rotate_left
  · simp only [Act.put, List.setIfInBounds_toArray, List.set_cons_zero, List.set_cons_succ, i64_w, i32_w]
    rfl
  refine one_ (i := 2) (N := (some 15)) #[true, true, true, true, true, true, true, false, false, false, false, false] rfl rfl (by kernel_rfl) (by decide) (fun K_ hK => ?_)
  refine goes_ Try.func30 (by kernel_rfl) rfl #[.pointer (some ⟨p, 0, none⟩)] (by rfl) rfl rfl (by (try simp only [List.map_toArray, List.map_cons, List.map_nil]); first | done | rfl) ?_
  refine (HLF.out _ (HS1.out.get 1 rfl)).mono ?_
  rintro E w2 ⟨rfl, hw2⟩
  subst hw2
  refine ⟨_, rfl, ?_⟩
  clear hHeld
  refine hK.out _ _ (HN.out _ (HS1.out.get 1 rfl)).1.c0 (fun hHeld => ?_)
  clear hK K_
  refine norm_ (a' := ?_) ?_ ?_
  rotate_left
  · show Act.put _ (some 15) _ = _
    simp only [Act.put, List.setIfInBounds_toArray, List.set_cons_zero, List.set_cons_succ, i64_w, i32_w]
    rfl
  refine one_ (i := 7) (N := (some 20)) #[true, true, true, true, true, true, true, true, false, false, false, false] rfl rfl (by kernel_rfl) (by decide) (fun K_ hK => ?_)
  refine goes_ Try.func45 (by kernel_rfl) rfl #[K] (by rfl) rfl rfl (by (try simp only [List.map_toArray, List.map_cons, List.map_nil]); first | done | rfl) ?_
  refine (cloneE _ K ks (HN.out _ (HS1.out.get 1 rfl)).2 hks).mono ?_
  rintro E w3 ⟨K', rfl, hre, hbel, hfr⟩
  obtain ⟨AK, cK, rfl⟩ := RowE.slice hre
  have HS2 := Aside0.mk (HS1.out.fresh hbel (rowEC (.slice AK ks.length cK) ks) hre (nd_bl (.slice AK ks.length cK)) hfr)
  clear HS1
  have HS3 := Aside0.mk (HS2.out.perm (List.Perm.swap _ _ _))
  clear HS2
  have HKO := Aside0.mk (row_one hre)
  clear hre hbel hfr
  refine ⟨_, rfl, ?_⟩
  clear hHeld
  refine hK.out _ _ (HN.out _ (HS3.out.get 2 rfl)).1.c0 (fun hHeld => ?_)
  clear hK K_
  refine norm_ (a' := ?_) ?_ ?_
  rotate_left
  · show Act.put _ (some 20) _ = _
    simp only [Act.put, List.setIfInBounds_toArray, List.set_cons_zero, List.set_cons_succ, i64_w, i32_w]
    rfl
  refine pure_ (i := 8) (N := (some 21)) (v := ?_) (a' := ?_) #[true, true, true, true, true, true, true, true, true, false, false, false] rfl rfl (by kernel_rfl) (fun _ _ _ h => h) (Or.inl ⟨by rfl, ?_⟩) ?_ ?_
  rotate_left
  · intro w'
    go_simp
    with_reducible rfl
  rotate_left
  · simp only [Act.put, List.setIfInBounds_toArray, List.set_cons_zero, List.set_cons_succ, i64_w, i32_w]
    rfl
  refine one_ (i := 9) (N := (some 22)) #[true, true, true, true, true, true, true, true, true, true, false, false] rfl rfl (by kernel_rfl) (by decide) (fun K_ hK => ?_)
  obtain ⟨v1, hv1⟩ : ∃ v : Nat, w3.heap.size = v := ⟨_, rfl⟩
  refine made_ (v := .slice (some ⟨w3.heap.size, 0, none⟩) 1 1) (w1 := w3.alloc (.cells #[.bool lf, (.slice AK ks.length cK), .slice none 0 0] 35)) (by rfl) rfl (by go_simp) ?_
  have HS4 := Aside0.mk (HS3.out.alloc #[.bool lf, (.slice AK ks.length cK), .slice none 0 0] 35 hv1)
  clear HS3
  rw [hv1]
  clear hv1
  clear hHeld
  refine hK.out _ _ (HN.out _ (HS4.out.get 2 rfl)).1.c0 (fun hHeld => ?_)
  clear hK K_
  generalize w3.alloc (.cells #[.bool lf, (.slice AK ks.length cK), .slice none 0 0] 35) = w4 at HS4 hHeld  ⊢
  refine norm_ (a' := ?_) ?_ ?_
  rotate_left
  · show Act.put _ (some 22) _ = _
    simp only [Act.put, List.setIfInBounds_toArray, List.set_cons_zero, List.set_cons_succ, i64_w, i32_w]
    rfl
  refine one_ (i := 10) (N := (some 23)) #[true, true, true, true, true, true, true, true, true, true, true, false] rfl rfl (by kernel_rfl) (by decide) (fun K_ hK => ?_)
  obtain ⟨g1, c1, w5, hrun, hrow, hgrow, hown⟩ := appendPg _ (.slice A0 L c0) l lf (.slice AK ks.length cK) HKO.out ks v1 _ (show RowPg _ _ _ from (HS4.out.get 0 rfl : (pagesC _ _).H _).1) (HS4.out.blk 3 rfl) (by rw [HL.out]; omega)
  rw [HL.out] at hrun
  refine appended_ (.tmp 13) (.tmp 22) 31 31 (by rfl) rfl rfl (.slice A0 L c0) (.slice (some ⟨v1, 0, none⟩) 1 1) (by rfl) (by rfl) hrun ?_
  clear hrun
  rw [HL.out] at hrow hown
  have HS5 := Aside0.mk (St.page (K := (.slice AK ks.length cK)) HS4.out hgrow hrow hown)
  clear HS4
  clear hgrow hrow hown
  clear hHeld
  refine hK.out _ _ (HN.out _ (HS5.out.get 1 rfl)).1.c0 (fun hHeld => ?_)
  clear hK K_
  refine norm_ (a' := ?_) ?_ ?_
  rotate_left
  · show Act.put _ (some 23) _ = _
    simp only [Act.put, List.setIfInBounds_toArray, List.set_cons_zero, List.set_cons_succ, i64_w, i32_w]
    rfl
  refine pure_ (i := 11) (N := (some 1)) (v := ?_) (a' := ?_) #[true, true, true, true, true, true, true, true, true, true, true, true] rfl rfl (by kernel_rfl) (fun _ _ _ h => h) (Or.inl ⟨by rfl, ?_⟩) ?_ ?_
  rotate_left
  · intro w'
    go_simp
    with_reducible rfl
  rotate_left
  · simp only [Act.put, List.setIfInBounds_toArray, List.set_cons_zero, List.set_cons_succ, i64_w, i32_w]
    rfl
  refine done_ (by kernel_rfl) ?_
  clear hHeld
  obtain ⟨p0, hp0⟩ : ∃ p0 : Pg, (⟨lf, .slice AK ks.length cK, .slice none 0 0, ks, []⟩ : Pg) = p0 := ⟨_, rfl⟩
  have HP0 := Aside0.mk hp0
  have HREL := Aside0.mk (show LayRel w F T l p0 fs 0 (.slice (some ⟨g1, 0, none⟩) (L + 1) c1) [] (.slice none 0 0) w5 from by
    refine ⟨by simp [layK], ?_⟩
    have hst : St _ _ _ ([pagesC (.slice (some ⟨g1, 0, none⟩) (L + 1) c1) (l ++ [⟨lf, .slice AK ks.length cK, .slice none 0 0, ks, []⟩]), T] ++ [blkC v1 _]) := HS5.out
    rw [hp0] at hst
    refine ((hst.left.fresh (Below.refl _ _) (rowIC (.slice none 0 0) []) (Row.nil _ _ _) (by intro x; simp [rowIC, bl, Value.ownBlock]) (by intro x hx; simp [rowIC, bl, Value.ownBlock] at hx))).perm ?_
    exact List.Perm.swap _ _ _)
  clear hp0
  have cc := (HN.out _ (HS5.out.get 1 rfl)).1.c1
  clear HS5
  go_wp2
  go_loopg [1, 7, 29] n (fun gq x1 x7 x29 wx => ∃ (j g m c : Nat) (ex : List Pg) (Au : Option Addr) (nu cu : Nat), x1 = .slice (some ⟨g, 0, none⟩) m c ∧ x7 = .slice Au nu cu ∧ x29 = .int .i64 j ∧ j + gq = n ∧ Aside0 (LayRel w F T l p0 fs j (.slice (some ⟨g, 0, none⟩) m c) ex (.slice Au nu cu) wx))
  case atStart => exact ⟨0, g1, L + 1, c1, _, none, 0, 0, rfl, rfl, rfl, by omega, HREL⟩
  case round =>
    clear HREL cc
    obtain ⟨j, g, m, c, ex, Au, nu, cu, rfl, rfl, rfl, hj, HREL⟩ := hrel
    obtain ⟨lj, hlj⟩ : ∃ lj, l ++ p0 :: ex = lj := ⟨_, rfl⟩
    have HLJ := Aside0.mk hlj
    have hlen : lj.length = L + 1 + (layK (fs.take j) (L + 1)).length := by
      have h1 := congrArg List.length HREL.out.1
      rw [HL.out, List.length_map] at h1
      rw [← hlj, List.length_append, List.length_cons, HL.out]
      omega
    have HST0 := Aside0.mk (show St w F wr [pagesC (.slice (some ⟨g, 0, none⟩) m c) lj, rowIC (.slice Au nu cu) (lidx (fs.take j) (l.length + 1)), T] from hlj ▸ HREL.out.2)
    clear hlj
    have hle := layK_take_le fs j (L + 1)
    have hbb := HB.out
    rw [HL.out] at hbb
    have HLEN := Aside0.mk hlen
    have hmm : m = lj.length := by
      have h : RowPg _ (.slice (some ⟨g, 0, none⟩) m c) lj := (HST0.out.get 0 rfl : (pagesC _ _).H _).1
      rcases h.2.2 with ⟨h1, _⟩ | ⟨g', c', cur, h1, _⟩
      · simp at h1
      · simp at h1
        exact h1.2.1
    have HM := Aside0.mk hmm
    clear hmm
    cases gk with
    | zero =>
      have h0 : ¬ (j : Int) < (n : Int) := by omega
      have hjn : j = n := by omega
      have HTK := Aside0.mk (show fs.take j = fs by rw [List.take_of_length_le]; rw [HNN.out]; omega)
      have hLm : L < m := by rw [HM.out]; omega
      have hLm2 : (L : Int) < (m : Int) := by omega
      have hL0 : (0 : Int) ≤ (L : Int) := by omega
      have hpg : lj[L]? = some p0 := by rw [← HLJ.out, ← HL.out]; simp
      have hpC : p0.C = .slice none 0 0 := by rw [← HP0.out]
      have hcell : wr.cell? ⟨g, L * 3 + 2, none⟩ = some (.slice none 0 0) := by
        have h : RowPg _ (.slice (some ⟨g, 0, none⟩) m c) lj := (HST0.out.get 0 rfl : (pagesC _ _).H _).1
        refine h.cell (by rw [← HM.out]) (L * 3 + 2) _ ?_
        have he := encPgs_set lj L p0 p0.C p0.kids hpg
        have hl2 : L * 3 + 2 < (encPgs lj).length := by rw [encPgs_len]; omega
        have h3 : (encPgs (lj.set L ⟨p0.leaf, p0.K, p0.C, p0.ks, p0.kids⟩))[L * 3 + 2]? = some p0.C := by
          rw [← he, List.getElem?_set_self hl2]
        have h4 : lj.set L ⟨p0.leaf, p0.K, p0.C, p0.ks, p0.kids⟩ = lj := by
          obtain ⟨hi2, h5⟩ := List.getElem?_eq_some_iff.1 hpg
          have : (⟨p0.leaf, p0.K, p0.C, p0.ks, p0.kids⟩ : Pg) = lj[L] := h5.symm
          rw [this]
          exact List.set_getElem_self hi2
        rw [h4, hpC] at h3
        exact h3
      have hfz : wr.frozen? ⟨g, L * 3 + 2, none⟩ = false := by
        have h : RowPg _ (.slice (some ⟨g, 0, none⟩) m c) lj := (HST0.out.get 0 rfl : (pagesC _ _).H _).1
        exact h.frozen (by rw [← HM.out]) _
      clear hpg hpC hjn hlen hle hbb
      go_wp2
      rw [← HR.out]
      have hfin := St.kids (i := L) (p := p0) (C := .slice Au nu cu) (R := [T]) HST0.out (by rw [← HLJ.out, ← HL.out]; simp) (by rw [← HP0.out])
      have hset : lj.set L ⟨p0.leaf, p0.K, .slice Au nu cu, p0.ks, lidx (fs.take j) (l.length + 1)⟩ = l ++ ⟨p0.leaf, p0.K, .slice Au nu cu, p0.ks, lidx (fs.take j) (l.length + 1)⟩ :: ex := by
        rw [← HLJ.out, ← HL.out]
        simp
      rw [hset] at hfin
      refine ⟨g, m, c, _, ?_, ?_, hfin⟩
      · rw [HL.out]
      · rw [List.map_cons, HREL.out.1, HTK.out]
        have h1 : p0.leaf = lf := by rw [← HP0.out]
        have h2 : p0.ks = ks := by rw [← HP0.out]
        simp only [Pg.a, h1, h2]
        rw [← HLFE.out, HNN.out]
    | succ gq =>
      have h0 : (j : Int) < (n : Int) := by omega
      have h00 : (0 : Int) ≤ (j : Int) := by omega
      have hjn : j < n := by omega
      obtain ⟨gA, rfl, hq⟩ := HC.out j (by rw [HNN.out]; exact hjn)
      obtain ⟨f, hf⟩ : ∃ f, fs[j]? = some f := ⟨fs[j]'(by rw [HNN.out]; exact hjn), List.getElem?_eq_getElem _⟩
      have HF := Aside0.mk hf
      have HQ := Aside0.mk hq
      have kc := hq _ (HST0.out.get 2 rfl)
      have hst := HST0.out.perm (perm_ix _ [0, 2, 1] 3 rfl (by decide))
      have HST := Aside0.mk (show St w F wr ([pagesC (.slice (some ⟨g, 0, none⟩) m c) lj, T] ++ [rowIC (.slice Au nu cu) (lidx (fs.take j) (l.length + 1))]) from hst)
      have htk : fs.take (j + 1) = fs.take j ++ [f] := by
        rw [List.take_add_one, hf]
        rfl
      have hbound : lj.length + (f lj.length).length < 100000 := by
        have h1 := layK_take_le fs (j + 1) (L + 1)
        rw [htk, layK_snoc, List.length_append, ← hlen] at h1
        omega
      have HCALL := Aside0.mk (HREC.out j f hf wr _ lj HST.out.sub hbound)
      have HTK := Aside0.mk htk
      have hmL : lj.length < 100000 := by omega
      have HML := Aside0.mk hmL
      have hju : (lidx (fs.take j) (l.length + 1)).length = j := by rw [lidx_len, List.length_take, HNN.out]; omega
      have HJU := Aside0.mk hju
      obtain ⟨is, his⟩ : ∃ is, lidx (fs.take j) (l.length + 1) = is := ⟨_, rfl⟩
      have HIS := Aside0.mk his
      rw [his] at HST HJU
      clear hf hq hle hst htk hbound hlen hbb hmL hju his
      go_wp2_with (first
        | (go_at_call 28; refine HCALL.out.mono ?_; clear kc; rintro E w2 ⟨g2, n2, c2, ex2, rfl, hmap, st⟩; have HS2 := Aside0.mk (HST.out.call st); have HMAP := Aside0.mk hmap; clear st hmap)
        | (at_builtin; obtain ⟨g3, c3, w3, hrun, hrow, hgrow, hown⟩ := appendI _ (.slice Au nu cu) is (lj.length : Int) w2.heap.size 33 ((HS2.out.alloc #[.int .i64 (lj.length : Int)] 3 rfl).get 2 rfl) ((HS2.out.alloc #[.int .i64 (lj.length : Int)] 3 rfl).blk 3 rfl) (by rw [HJU.out]; omega); have HS3 := Aside0.mk ((HS2.out.alloc #[.int .i64 (lj.length : Int)] 3 rfl).setI 2 rfl hgrow hrow hown); have HU := Aside0.mk (show is.length = is.length from rfl); refine wpList_append_run rfl (.tmp 39) (.tmp 41) 33 33 rfl (.slice Au nu cu) (.slice (some ⟨w2.heap.size, 0, none⟩) 1 1) rfl rfl hrun ?_; clear hrun hrow hgrow hown))
      go_roundg gq
      case measure => omega
      case rel =>
        refine ⟨j + 1, g2, n2, c2, ex ++ ex2, some ⟨g3, 0, none⟩, is.length + 1, c3, rfl, rfl, by go_num, by omega, ?_⟩
        have hst : St w F w3 ([pagesC (.slice (some ⟨g2, 0, none⟩) n2 c2) (lj ++ ex2), T, rowIC (.slice (some ⟨g3, 0, none⟩) (is.length + 1) c3) (is ++ [(lj.length : Int)])] ++ [blkC w2.heap.size _]) := HS3.out
        have hst2 := hst.left.perm (perm_ix _ [0, 2, 1] 3 rfl (by decide))
        have hlj : lj.length = l.length + 1 + (layK (fs.take j) (l.length + 1)).length := by rw [HLEN.out, HL.out]
        refine Aside0.mk ⟨?_, ?_⟩
        · rw [List.map_append, HMAP.out, HTK.out, layK_snoc, HREL.out.1, ← hlj]
        · rw [HTK.out, lidx_snoc, HIS.out, ← hlj]
          have e : l ++ p0 :: (ex ++ ex2) = lj ++ ex2 := by rw [← HLJ.out]; simp
          rw [e]
          exact hst2
end Go.Proofs.Bt
end
section
namespace Go.Proofs.Bt
open Go Go.RowKit Go.Proofs.Ytjaddmflopahiaa.Q Go.Proofs.YtjaddmflopahiaaW.PrintWords Go.Proofs.YtjaddmflopahiaaW.PrintLast Go.Proofs.YtjaddmflopahiaaW.PrintMore
set_option linter.unusedVariables false
set_option linter.unusedSimpArgs false
set_option maxRecDepth 100000
def Small : (h : Nat) → BT h → Prop
  | 0, ks => List.length (α := S29) ks < 900
  | h + 1, t => t.1.length < 900 ∧ t.2.length < 900 ∧ ∀ k ∈ t.2, Small h k
def kptr (h : Nat) (kids : List (MT h)) (j : Nat) : Nat := match kids[j]? with | some k => ptr h k | none => 0
theorem lay_calls : ∀ (h : Nat) (w : World) (m : MT h) (v : Value) (l : List Pg), St w (fun b => b ∈ fpc [pagesC v l, treeC h m]) w [pagesC v l, treeC h m] → Small h (abs h m) → l.length + (blay h (abs h m) l.length).length < 100000 →
    Calls Try.prog 28 #[.pointer (some ⟨ptr h m, 0, none⟩), v] w (LayPost w (fun b => b ∈ fpc [pagesC v l, treeC h m]) (treeC h m) l (blay h (abs h m) l.length))
  | 0, w, m, v, l, s, hs, hb => by
    obtain ⟨p, K, ks⟩ := m
    have hk : ks.length < 900 := hs
    have hb2 : l.length + 1 < 100000 := hb
    exact lay_node w (treeC 0 (⟨p, K, ks⟩ : Leaf)) p K none 0 ks [] (fun _ => 0) v l _ s (fun w' hT => ⟨(hT : Ok w' 0 _).1, (hT : Ok w' 0 _).2⟩) (fun j hj => by simp at hj) (fun j f hf => by simp at hf) (by omega) (by simp) (by simp [layK]; omega)
  | h + 1, w, m, v, l, s, hs, hb => by
    obtain ⟨p, K, C, ks, kids⟩ := m
    obtain ⟨hk, hkk, hks⟩ := hs
    change ks.length < 900 at hk
    change (kids.map (abs h)).length < 900 at hkk
    change ∀ k ∈ kids.map (abs h), Small h k at hks
    rw [List.length_map] at hkk
    have hok : Ok w (h + 1) (⟨p, K, C, ks, kids⟩ : Inner (MT h)) := s.get 1 rfl
    have hrow : Row w 59 1 C (ptrs h kids).length (ptrs h kids) := by rw [ptrs_len]; exact hok.2.2.1
    have h0 : 0 < kids.length := hok.2.2.2.1
    obtain ⟨gc, cC, rfl, hcC⟩ := rowP_form hrow (by rw [ptrs_len]; omega)
    rw [ptrs_len] at *
    obtain ⟨fs, hfs⟩ : ∃ fs, (kids.map (abs h)).map (blay h) = fs := ⟨_, rfl⟩
    have hfl : fs.length = kids.length := by rw [← hfs]; simp
    have hbl : blay (h + 1) (abs (h + 1) (⟨p, K, .slice (some ⟨gc, 0, none⟩) kids.length cC, ks, kids⟩ : Inner (MT h))) l.length = (false, ks, lidx fs (l.length + 1)) :: layK fs (l.length + 1) := by
      rw [← hfs]
      rfl
    rw [hbl] at hb ⊢
    have hd : false = decide (fs.length = 0) := (decide_eq_false (by omega)).symm
    rw [hd]
    have hat : ∀ j f, fs[j]? = some f → ∃ k, kids[j]? = some k ∧ f = blay h (abs h k) ∧ kptr h kids j = ptr h k := fun j f hf => by
      rw [← hfs, List.getElem?_map, List.getElem?_map] at hf
      cases hj : kids[j]? with
      | none => rw [hj] at hf; simp at hf
      | some k =>
        rw [hj] at hf
        simp at hf
        exact ⟨k, rfl, hf.symm, by unfold kptr; rw [hj]⟩
    refine lay_node w (treeC (h + 1) (⟨p, K, .slice (some ⟨gc, 0, none⟩) kids.length cC, ks, kids⟩ : Inner (MT h))) p K (some ⟨gc, 0, none⟩) cC ks fs (kptr h kids) v l _ s (fun w' hT => ?_) (fun j hj => ?_) (fun j f hf w' v' l' s' hb' => ?_) (by omega) (by omega) (by rw [List.length_cons] at hb; omega)
    · have hT : Ok w' (h + 1) (⟨p, K, .slice (some ⟨gc, 0, none⟩) kids.length cC, ks, kids⟩ : Inner (MT h)) := hT
      rw [hfl]
      exact ⟨hT.1, hT.2.1⟩
    · refine ⟨gc, rfl, fun w' hT => ?_⟩
      have hT : Ok w' (h + 1) (⟨p, K, .slice (some ⟨gc, 0, none⟩) kids.length cC, ks, kids⟩ : Inner (MT h)) := hT
      have hr : Row w' 59 1 (.slice (some ⟨gc, 0, none⟩) kids.length cC) kids.length (kids.map (kidPtr h)) := hT.2.2.1
      rw [hfl] at hj
      refine hr.cell rfl j _ ?_
      rw [List.getElem?_map, List.getElem?_eq_getElem hj]
      unfold kptr
      rw [List.getElem?_eq_getElem hj]
      rfl
    · obtain ⟨k, hk1, rfl, hk2⟩ := hat j f hf
      rw [hk2]
      obtain ⟨X, Y, hX, _, _⟩ := set_split k hk1
      subst hX
      have s1 := open_one (s'.perm (List.Perm.swap _ _ _))
      have s2 := s1.perm (B := [pagesC v' l', treeC h k] ++ [nodeC p K (.slice (some ⟨gc, 0, none⟩) (X ++ k :: Y).length cC), rowEC K ks, rowPC (.slice (some ⟨gc, 0, none⟩) (X ++ k :: Y).length cC) (ptrs h (X ++ k :: Y)), forC h (X ++ Y)]) (perm_ix _ [5, 0, 1, 2, 3, 4] 6 rfl (by decide))
      refine (lay_calls h w' k v' l' s2.sub (hks _ (by simp)) hb').mono ?_
      rintro E w2 ⟨g, n, c, ex, rfl, hmap, st⟩
      refine ⟨g, n, c, ex, rfl, hmap, ?_⟩
      have s3 := s2.call st
      have s4 := s3.perm (B := [treeC h k, nodeC p K (.slice (some ⟨gc, 0, none⟩) (X ++ k :: Y).length cC), rowEC K ks, rowPC (.slice (some ⟨gc, 0, none⟩) (X ++ k :: Y).length cC) (ptrs h (X ++ k :: Y)), forC h (X ++ Y), pagesC (.slice (some ⟨g, 0, none⟩) n c) (l' ++ ex)]) (perm_ix _ [1, 2, 3, 4, 5, 0] 6 rfl (by decide))
      exact (shut_one' s4 rfl).perm (List.Perm.swap _ _ _)
def PagesPost (w : World) (F : Nat → Prop) (tp r : Nat) (cnt : Int) (h : Nat) (m : MT h) (pg : List PgA) (E : Ending) (w' : World) : Prop :=
  ∃ (g n c : Nat) (l : List Pg), E = .returned (.slice (some ⟨g, 0, none⟩) n c) ∧ l.map Pg.a = pg ∧ St w F w' [tatC tp r cnt, treeC h m, pagesC (.slice (some ⟨g, 0, none⟩) n c) l]
set_option maxHeartbeats 1000000 in
theorem pages_calls (w : World) (tp h : Nat) (m : MT h) (cnt : Int) (F : Nat → Prop) (s : St w F w (treeT tp h m cnt)) (hs : Small h (abs h m)) (hb : (blay h (abs h m) 0).length < 100000) :
    Calls Try.prog 12 #[.pointer (some ⟨tp, 0, none⟩)] w (PagesPost w F tp (ptr h m) cnt h m (blay h (abs h m) 0)) := by
  have hu64 := Try.underlying64
  obtain ⟨R, hR⟩ : ∃ R, PagesPost w F tp (ptr h m) cnt h m (blay h (abs h m) 0) = R := ⟨_, rfl⟩
  rw [hR]
  have HR := Aside0.mk hR
  have t0 := (s.tat 0 rfl).c0
  have s1 := s.fresh (Below.refl _ _) (pagesC (.slice none 0 0) []) ⟨Row.nil _ _ _, fun p hp => by cases hp⟩ (by intro x; simp [pagesC, bl, Value.ownBlock]) (by intro x hx; simp [pagesC, bl, Value.ownBlock] at hx)
  have s2 : St w F w ([pagesC (.slice none 0 0) [], treeC h m] ++ [tatC tp (ptr h m) cnt]) := s1.perm (perm_ix _ [0, 2, 1] 3 rfl (by decide))
  have HS := Aside0.mk s2
  have HC := Aside0.mk (lay_calls h w m (.slice none 0 0) [] s2.sub hs (by simpa using hb))
  clear s s1 s2 hR
  go_enter Try.func12, Try.ntmps12
  go_wp2_with (first
    | (go_at_call 28; refine HC.out.mono ?_; clear t0; rintro E w2 ⟨g, n, c, ex, rfl, hmap, st⟩; have HS2 := Aside0.mk (HS.out.call st); have HM := Aside0.mk hmap; clear st hmap))
  first | (rw [← HR.out]) | (go_ret; rw [← HR.out])
  exact ⟨g, n, c, ex, rfl, HM.out, HS2.out.perm (perm_ix _ [2, 1, 0] 3 rfl (by decide))⟩
end Go.Proofs.Bt
end
section
namespace Go.Proofs.Bt
open Go Go.RowKit Go.Proofs.Ytjaddmflopahiaa.Q Go.Proofs.YtjaddmflopahiaaW.PrintWords Go.Proofs.YtjaddmflopahiaaW.PrintLast Go.Proofs.YtjaddmflopahiaaW.PrintMore
set_option linter.unusedVariables false
set_option linter.unusedSimpArgs false
set_option maxRecDepth 100000
attribute [local go_sem] Oper.semAt_some
theorem room_none (k : Nat) : Fence.wide.room k := fun d h => by cases h
theorem RoundIn.any {m m' : Nat} {P : Program} {l : Nat} {f : FuncId} {tmps : Array Value} {assign body : Code} {w : World} {R : Ending → World → Prop}
    (h : RoundIn Fence.wide m P l f tmps assign body w R) : RoundIn Fence.wide m' P l f tmps assign body w R := ⟨h.1, fun c cs _ => h.2 c cs (room_none _)⟩
theorem YieldAt.any {m : Nat} (m' : Nat) {P : Program} {l : Nat} {args : Array Value} {W : World} {R : Ending → World → Prop} (h : YieldAt Fence.wide m P l args W R) : YieldAt Fence.wide m' P l args W R := by
  obtain ⟨fn, tmps, assign, body, hy, hR⟩ := h
  exact ⟨fn, tmps, assign, body, hy, RoundIn.any hR⟩
def Abide (J : List S29 → World → Prop) : Prop := ∀ s W W', J s W → Below W.heap.size W W' → J s W'
theorem abide_of {B : Nat} {J : List S29 → World → Prop} (h : AbidesFrom B J) : Abide J := fun s W W' hs hb => h s W W' none hs ⟨hb.os, hb.tape, hb.output, hb.size, fun k hk _ => hb.block k hk⟩ (fun r e => by cases e)
def bfrom : (h : Nat) → BT h → S29 → List S29
  | 0, ks, e => List.drop (α := S29) (low ks e) ks
  | h + 1, t, e => (t.2.drop (kidIx t.1 e)).flatMap (fun k => bfrom h k e)
def Own (Bs : List Nat) (W : World) (k : Nat) : Prop := k ∈ Bs ∨ ∃ b ∈ Bs, ∃ v, W.cell? ⟨b, 0, none⟩ = some v ∧ v.ownBlock = some k
def Good (Bs : List Nat) (W : World) : Prop := ∀ k, Own Bs W k → k < W.heap.size
structure KpR (Bs : List Nat) (W W' : World) : Prop where
  size : W.heap.size ≤ W'.heap.size
  good : Good Bs W'
  frame : ∀ k o, W.heap[k]? = some o → o.isCells = true → ¬ Own Bs W k → W'.heap[k]? = some o
  own : ∀ k, Own Bs W' k → Own Bs W k ∨ W.heap.size ≤ k
def Kp (Bs : List Nat) (W W' : World) : Prop := Good Bs W → KpR Bs W W'
theorem KpR.refl {Bs : List Nat} {W : World} (h : Good Bs W) : KpR Bs W W := ⟨Nat.le_refl _, h, fun _ _ h _ _ => h, fun _ h => .inl h⟩
theorem lt_of_some {W : World} {k : Nat} {o : Obj} (h : W.heap[k]? = some o) : k < W.heap.size := (Array.getElem?_eq_some_iff.1 h).1
theorem KpR.trans {Bs : List Nat} {A B C : World} (h : KpR Bs A B) (k : KpR Bs B C) : KpR Bs A C :=
  ⟨Nat.le_trans h.size k.size, k.good, fun i o hi hc hn => k.frame i o (h.frame i o hi hc hn) hc fun ho => (h.own i ho).elim hn (fun hle => by have := lt_of_some hi; omega),
    fun i hi => (k.own i hi).elim (h.own i) (fun hle => .inr (Nat.le_trans h.size hle))⟩
theorem own_eq {Bs : List Nat} {W W' : World} (h : ∀ b ∈ Bs, W'.cell? ⟨b, 0, none⟩ = W.cell? ⟨b, 0, none⟩) (k : Nat) : Own Bs W' k ↔ Own Bs W k := by
  unfold Own
  constructor
  · rintro (h1 | ⟨b, hb, v, hv, ho⟩)
    · exact .inl h1
    · exact .inr ⟨b, hb, v, by rw [← h b hb]; exact hv, ho⟩
  · rintro (h1 | ⟨b, hb, v, hv, ho⟩)
    · exact .inl h1
    · exact .inr ⟨b, hb, v, by rw [h b hb]; exact hv, ho⟩
theorem KpR.below {Bs : List Nat} {W W' : World} (h : Good Bs W) (hb : Below W.heap.size W W') : KpR Bs W W' := by
  have he := own_eq (Bs := Bs) (W := W) (W' := W') (fun b hbs => hb.cell (p := ⟨b, 0, none⟩) (h b (.inl hbs)))
  exact ⟨hb.size, fun k hk => Nat.lt_of_lt_of_le (h k ((he k).1 hk)) hb.size, fun k o hk _ _ => (hb.block k (lt_of_some hk)).trans hk, fun k hk => .inl ((he k).1 hk)⟩
theorem Kp.t {Bs : List Nat} {A B C : World} (h : Kp Bs A B) (k : Kp Bs B C) : Kp Bs A C := fun g => (h g).trans (k (h g).good)
theorem Kp.b {Bs : List Nat} (W : World) (l : Nat) (o o' : Obj) (h : W.heap[l]? = some o) (hc : o.isCells = false) (hB : ∀ b ∈ Bs, ∃ o, W.heap[b]? = some o ∧ o.isCells = true) : Kp Bs W (W.putObj l o') := by
  intro g
  have hl := lt_of_some h
  have hoth : ∀ k, k ≠ l → (W.putObj l o').heap[k]? = W.heap[k]? := fun k hk => World.putObj_heap_other hk
  have hsz : (W.putObj l o').heap.size = W.heap.size := by
    have h1 := (grownBy_putObj' W l o').size
    simp [World.putObj]
  have hne : ∀ b ∈ Bs, b ≠ l := fun b hb e => by
    obtain ⟨o2, h2, h3⟩ := hB b hb
    rw [e, h] at h2
    cases h2
    rw [hc] at h3
    cases h3
  have he := own_eq (Bs := Bs) (W := W) (W' := W.putObj l o') (fun b hbs => World.cell?_of_block (a := ⟨b, 0, none⟩) (hoth b (hne b hbs)))
  refine ⟨by omega, fun k hk => by rw [hsz]; exact g k ((he k).1 hk), fun k o2 hk h2 _ => ?_, fun k hk => .inl ((he k).1 hk)⟩
  rw [hoth k (fun e => by rw [e, h] at hk; cases hk; rw [hc] at h2; cases h2)]
  exact hk
theorem KpR.node {Bs : List Nat} {W W' : World} (h : KpR Bs W W') {p : Nat} {K C : Value} (hN : NodeAt W p K C) (hn : ¬ Own Bs W p) : NodeAt W' p K C := h.frame p _ hN rfl hn
theorem KpR.row {Bs : List Nat} {W W' : World} (h : KpR Bs W W') {e : TypeId} {sz n : Nat} {v : Value} {xs : List Value} (hr : Row W e sz v n xs) (hn : ∀ k, v.ownBlock = some k → ¬ Own Bs W k) : Row W' e sz v n xs := by
  obtain ⟨h0, h1, h2⟩ := hr
  refine ⟨h0, h1, ?_⟩
  rcases h2 with h2 | ⟨g, cap, cur, rfl, hg, r⟩
  · exact .inl h2
  · exact .inr ⟨g, cap, cur, rfl, h.frame g _ hg rfl (hn g rfl), r⟩
theorem KpR.ok {Bs : List Nat} {W W' : World} (h : KpR Bs W W') : ∀ {ht : Nat} {m : MT ht}, Ok W ht m → (∀ a ∈ fp ht m, ¬ Own Bs W a) → Ok W' ht m
  | 0, m, hm, hn => ⟨h.node hm.1 (hn _ List.mem_cons_self), h.row hm.2 fun k hk => hn k (List.mem_cons_of_mem _ (bl_mem.2 hk))⟩
  | ht + 1, m, hm, hn => ⟨h.node hm.1 (hn _ List.mem_cons_self), h.row hm.2.1 fun k hk => hn k (List.mem_cons_of_mem _ (List.mem_append_left _ (bl_mem.2 hk))),
      h.row hm.2.2.1 fun k hk => hn k (List.mem_cons_of_mem _ (List.mem_append_right _ (List.mem_append_left _ (bl_mem.2 hk)))), hm.2.2.2.1,
      fun k hk => KpR.ok h (hm.2.2.2.2 k hk) fun a ha => hn a (List.mem_cons_of_mem _ (List.mem_append_right _ (List.mem_append_right _ (List.mem_flatMap.2 ⟨k, hk, ha⟩))))⟩
theorem KpR.apart {Bs : List Nat} {W W' : World} (h : KpR Bs W W') {a : Nat} (hl : a < W.heap.size) (hn : ¬ Own Bs W a) : ¬ Own Bs W' a := fun ho => (h.own a ho).elim hn (fun hle => by omega)
def YP (Bs : List Nat) (J Jx : List S29 → World → Prop) (pre : List S29) (x : S29) (W : World) (e : Ending) (W' : World) : Prop :=
  (e = .returned (.bool true) ∧ J (pre ++ [x]) W' ∧ Kp Bs W W') ∨ (e = .returned (.bool false) ∧ Jx (pre ++ [x]) W')
def WalkPost (Bs : List Nat) (J Jx : List S29 → World → Prop) (pre xs : List S29) (W : World) (e : Ending) (W' : World) : Prop :=
  (e = .returned (.bool true) ∧ J (pre ++ xs) W' ∧ KpR Bs W W') ∨ (e = .returned (.bool false) ∧ ∃ q, q <+: xs ∧ Jx (pre ++ q) W')
set_option maxHeartbeats 4000000 in
theorem walk_leaf (l : Nat) (Bs : List Nat) (N : Nat) (J Jx : List S29 → World → Prop) (hJ : Abide J) (hY : ∀ m pre x W, J pre W → pre.length < N → YieldAt Fence.wide m Try.prog l #[entryV x] W (YP Bs J Jx pre x W)) (e : S29)
    (m : MT 0) (n : Nat) (pre : List S29) (W : World) (hok : Ok W 0 m) (hfp : ∀ a ∈ fp 0 m, ¬ Own Bs W a) (hG : Good Bs W) (hf : Fit e 0 (abs 0 m)) (h0 : J pre W) (hN : pre.length + (bfrom 0 (abs 0 m) e).length ≤ N) :
    CallsIn Fence.wide n Try.prog 53 #[.pointer (some ⟨ptr 0 m, 0, none⟩), entryV e, .func (.yield l) #[] #[]] W (WalkPost Bs J Jx pre (bfrom 0 (abs 0 m) e) W) := by
  have hu29 := Try.underlying29
  obtain ⟨p, K, ks⟩ := m
  obtain ⟨hNd, hR⟩ := hok
  change NodeAt W p K _ at hNd
  change RowE W K ks at hR
  have hks : ks.length ≤ 4 := hf.1
  have hm : Mono ks e := hf.2
  have hN' : pre.length + (ks.drop (low ks e)).length ≤ N := hN
  obtain ⟨A, cK, rfl⟩ := hR.slice
  obtain ⟨i, hi⟩ : ∃ i, low ks e = i := ⟨_, rfl⟩
  have hil : i ≤ ks.length := hi ▸ low_le ks e
  obtain ⟨nk, hnk⟩ : ∃ n, ks.length = n := ⟨_, rfl⟩
  obtain ⟨W0, hW0⟩ : ∃ W0, W.alloc (.cells #[.string e.f0, .int .i64 e.f1.f0, .int .i64 e.f1.f1] 29) = W0 := ⟨_, rfl⟩
  have hb0 : Below W.heap.size W W0 := by rw [← hW0]; exact (Below.refl _ W).alloc (Nat.le_refl _) _
  have hX : W0.heap[W.heap.size]? = some (.cells #[.string e.f0, .int .i64 e.f1.f0, .int .i64 e.f1.f1] 29 (0, 0)) := by rw [← hW0]; exact heap_alloc_new W _
  have b0 : W0.cell? ⟨W.heap.size, 0, none⟩ = some (.string e.f0) := (blk_cell hX 0).trans rfl
  have b1 : W0.cell? ⟨W.heap.size, 1, none⟩ = some (.int .i64 e.f1.f0) := (blk_cell hX 1).trans rfl
  have b2 : W0.cell? ⟨W.heap.size, 2, none⟩ = some (.int .i64 e.f1.f1) := (blk_cell hX 2).trans rfl
  rw [hnk] at hNd hR hil
  have HL := Aside0.mk (fun n => callsIn_wide (n := n).2 (leaf_calls W0 p (.slice A nk cK) none 0 0 (hNd.below hb0)))
  have HF := Aside0.mk (fun n => callsIn_wide (n := n).2 (find_calls W0 p (.slice A nk cK) _ ks e (hNd.below hb0) (Row.below hR hb0) (by omega) hm))
  rw [hi] at HF
  obtain ⟨R, hRR⟩ : ∃ R, WalkPost Bs J Jx pre (ks.drop i) W = R := ⟨_, rfl⟩
  have HR := Aside0.mk hRR
  show CallsIn Fence.wide n Try.prog 53 #[.pointer (some ⟨p, 0, none⟩), .agg #[.string e.f0, .int .i64 e.f1.f0, .int .i64 e.f1.f1], .func (.yield l) #[] #[]] W (WalkPost Bs J Jx pre (ks.drop (low ks e)) W)
  rw [hi, hRR]
  rw [hi] at hN'
  have hp0 : ¬ Own Bs W p := hfp p List.mem_cons_self
  have hg0 : ∀ g, A = some ⟨g, 0, none⟩ → ¬ Own Bs W g := fun g hg => hfp g (List.mem_cons_of_mem _ (by rw [hg]; simp [bl_slice]))
  have HP0 := Aside0.mk hp0
  have HG0 := Aside0.mk hg0
  have HNd := Aside0.mk hNd
  have HRo := Aside0.mk hR
  have HB0 := Aside0.mk (KpR.below hG hb0)
  have HJ := Aside0.mk hJ
  have HY := Aside0.mk hY
  have H0 := Aside0.mk (hJ _ _ _ h0 hb0)
  have HNN := Aside0.mk hN'
  have HNK := Aside0.mk hnk
  clear hNd hR hb0 hX hfp hf hN hm hi hRR hp0 hg0 hJ hY h0 hN' hnk
  have hncl : nk ≤ cK := by
    rcases HRo.out.2.2 with ⟨hv, hk0⟩ | ⟨g, cap, cur, hv, _, hle, _⟩
    · simp at hv
      omega
    · simp at hv
      have := HNK.out
      omega
  by_cases hlt : i < nk
  · have hci : ¬ cK = i := by omega
    obtain ⟨g, hg⟩ : ∃ g, A = some ⟨g, 0, none⟩ := by
      rcases HRo.out.2.2 with ⟨hv, hk0⟩ | ⟨g, cap, cur, hv, _, hle, _⟩
      · have := HNK.out
        omega
      · simp at hv
        exact ⟨g, hv.1⟩
    subst hg
    have hg0 := HG0.out g rfl
    refine callsIn_of_wp Try.func53 rfl trivial ?_ rfl
    simp only [Try.ntmps53, List.size_toArray, List.length_cons, List.length_nil, Nat.reduceAdd, Nat.reduceSub, Array.replicate_succ, Array.replicate_zero, List.push_toArray, List.append_toArray, List.nil_append, List.cons_append]
    gi_wp2_with (first
      | ((try refine ⟨trivial, fun h => (by cases h), ?_⟩); gi_at_call 30; refine (HL.out _).mono ?_; rintro E w' ⟨rfl, hw'⟩; subst hw')
      | ((try refine ⟨trivial, fun h => (by cases h), ?_⟩); gi_at_call 41; refine (HF.out _).mono ?_; rintro E w2 ⟨rfl, hb⟩; have HB2 := Aside0.mk (HB0.out.trans (KpR.below HB0.out.good hb)); have H2 := Aside0.mk (HJ.out _ _ _ H0.out hb); clear hb b0 b1 b2; have c0 := (HB2.out.node HNd.out HP0.out).c0))
    gi_loopw [28] (fun v wr => ∃ j : Nat, v = .int .i64 j ∧ j ≤ nk - i ∧ Aside0 (J (pre ++ (ks.drop i).take j) wr ∧ KpR Bs W wr)) (fun v _ => (nk - i) - (intOf v).toNat)
    case atStart => exact ⟨0, rfl, by omega, Aside0.mk ⟨by simpa using H2.out, HB2.out⟩⟩
    case round =>
      obtain ⟨j, rfl, hj, HI⟩ := hrel
      by_cases hjn : j < nk - i
      · have hlen : i + j < ks.length := by rw [HNK.out]; omega
        obtain ⟨x, hx⟩ : ∃ x, ks[i + j]? = some x := ⟨_, List.getElem?_eq_getElem hlen⟩
        obtain ⟨k0, k1, k2⟩ := RowE.at (show RowE wr _ ks from HI.out.2.row HRo.out (fun k hk => by simp [Value.ownBlock] at hk; subst hk; exact hg0)) hx
        rw [Nat.add_mul] at k0 k1 k2
        obtain ⟨wr1, hwr1⟩ : ∃ W0, wr.alloc (.cells #[.string x.f0, .int .i64 x.f1.f0, .int .i64 x.f1.f1] 29) = W0 := ⟨_, rfl⟩
        have hba : Below wr.heap.size wr wr1 := by rw [← hwr1]; exact (Below.refl _ wr).alloc (Nat.le_refl _) _
        have hXa : wr1.heap[wr.heap.size]? = some (.cells #[.string x.f0, .int .i64 x.f1.f0, .int .i64 x.f1.f1] 29 (0, 0)) := by rw [← hwr1]; exact heap_alloc_new wr _
        have a0 : wr1.cell? ⟨wr.heap.size, 0, none⟩ = some (.string x.f0) := (blk_cell hXa 0).trans rfl
        have a1 : wr1.cell? ⟨wr.heap.size, 1, none⟩ = some (.int .i64 x.f1.f0) := (blk_cell hXa 1).trans rfl
        have a2 : wr1.cell? ⟨wr.heap.size, 2, none⟩ = some (.int .i64 x.f1.f1) := (blk_cell hXa 2).trans rfl
        have HBA := Aside0.mk (HI.out.2.trans (KpR.below HI.out.2.good hba))
        have hlenp : (pre ++ (ks.drop i).take j).length < N := by
          have h1 := HNN.out
          rw [List.length_drop, HNK.out] at h1
          rw [List.length_append, List.length_take, List.length_drop, HNK.out]
          omega
        obtain ⟨fn, tmps, assign, body, hy, hRd⟩ := HY.out (n - 1) _ x wr1 (HJ.out _ _ _ HI.out.1 hba) hlenp
        have HX := Aside0.mk hx
        have hsa := hba.size
        clear hba hXa hlenp hx HI
        unfold entryV at hy
        have hj1 : (j : Int) < (nk : Int) - (i : Int) := by omega
        have htk : (ks.drop i).take (j + 1) = (ks.drop i).take j ++ [x] := by
          rw [List.take_add_one, List.getElem?_drop, HX.out]
          rfl
        have HTK := Aside0.mk htk
        clear htk
        gi_wp2
        refine ⟨fun h => (by cases h), ?_⟩
        refine hRd.mono ?_
        clear k0 k1 k2 a0 a1 a2
        rintro E W3 (⟨rfl, hJ3, hk3⟩ | ⟨rfl, hJx3⟩)
        · have HJ3 := Aside0.mk hJ3
          have HK3 := Aside0.mk hk3
          clear hJ3 hk3
          gi_wp2
          go_roundw
          case rel => exact ⟨j + 1, by go_num, by omega, Aside0.mk ⟨by rw [HTK.out, ← List.append_assoc]; exact HJ3.out, HBA.out.trans (HK3.out HBA.out.good)⟩⟩
          case measure => simp [intOf]; omega
        · have HJ3 := Aside0.mk hJx3
          clear hJx3
          gi_wp2
          first | (rw [← HR.out]) | (go_ret; rw [← HR.out])
          exact .inr ⟨rfl, (ks.drop i).take (j + 1), List.take_prefix _ _, by rw [HTK.out, ← List.append_assoc]; exact HJ3.out⟩
      · have hjn2 : ¬ (j : Int) < (nk : Int) - (i : Int) := by omega
        have HT := Aside0.mk (show (ks.drop i).take j = ks.drop i by rw [List.take_of_length_le]; rw [List.length_drop, HNK.out]; omega)
        gi_wp2
        first | (rw [← HR.out]) | (go_ret; rw [← HR.out])
        refine .inl ⟨rfl, ?_, HI.out.2⟩
        have := HI.out.1
        rw [HT.out] at this
        exact this
  · have hin : i = nk := by omega
    subst hin
    have HD := Aside0.mk (show ks.drop i = [] by rw [List.drop_eq_nil_iff, HNK.out]; omega)
    by_cases hci : cK = i
    all_goals
      refine callsIn_of_wp Try.func53 rfl trivial ?_ rfl
      simp only [Try.ntmps53, List.size_toArray, List.length_cons, List.length_nil, Nat.reduceAdd, Nat.reduceSub, Array.replicate_succ, Array.replicate_zero, List.push_toArray, List.append_toArray, List.nil_append, List.cons_append]
      gi_wp2_with (first
        | ((try refine ⟨trivial, fun h => (by cases h), ?_⟩); gi_at_call 30; refine (HL.out _).mono ?_; rintro E w' ⟨rfl, hw'⟩; subst hw')
        | ((try refine ⟨trivial, fun h => (by cases h), ?_⟩); gi_at_call 41; refine (HF.out _).mono ?_; rintro E w2 ⟨rfl, hb⟩; have HB2 := Aside0.mk (HB0.out.trans (KpR.below HB0.out.good hb)); have H2 := Aside0.mk (HJ.out _ _ _ H0.out hb); clear hb b0 b1 b2; have c0 := (HB2.out.node HNd.out HP0.out).c0))
      gi_loopw [28] (fun v wr => v = .int .i64 0 ∧ Aside0 (J pre wr ∧ KpR Bs W wr)) (fun v _ => 0)
      case atStart => exact ⟨rfl, Aside0.mk ⟨H2.out, HB2.out⟩⟩
      case round =>
        obtain ⟨rfl, HI⟩ := hrel
        gi_wp2
        first | (rw [← HR.out]) | (go_ret; rw [← HR.out])
        refine .inl ⟨rfl, ?_, HI.out.2⟩
        rw [HD.out, List.append_nil]
        exact HI.out.1
end Go.Proofs.Bt
end
section
namespace Go.Proofs.Bt
open Go Go.RowKit Go.Proofs.Ytjaddmflopahiaa.Q Go.Proofs.YtjaddmflopahiaaW.PrintWords Go.Proofs.YtjaddmflopahiaaW.PrintLast Go.Proofs.YtjaddmflopahiaaW.PrintMore
set_option linter.unusedVariables false
set_option linter.unusedSimpArgs false
set_option maxRecDepth 100000
attribute [local go_sem] Oper.semAt_some
def boxE (e : S29) : Obj := .cells #[.string e.f0, .int .i64 e.f1.f0, .int .i64 e.f1.f1] 29
set_option maxHeartbeats 4000000 in
theorem walk_succ (l : Nat) (Bs : List Nat) (N : Nat) (J Jx : List S29 → World → Prop) (hJ : Abide J) (e : S29) (h : Nat)
    (IH : ∀ (m : MT h) (n : Nat) (pre : List S29) (W : World), Ok W h m → (∀ a ∈ fp h m, ¬ Own Bs W a) → Good Bs W → Fit e h (abs h m) → J pre W → pre.length + (bfrom h (abs h m) e).length ≤ N →
      CallsIn Fence.wide n Try.prog 53 #[.pointer (some ⟨ptr h m, 0, none⟩), entryV e, .func (.yield l) #[] #[]] W (WalkPost Bs J Jx pre (bfrom h (abs h m) e) W))
    (m : MT (h + 1)) (n : Nat) (pre : List S29) (W : World) (hok : Ok W (h + 1) m) (hfp : ∀ a ∈ fp (h + 1) m, ¬ Own Bs W a) (hG : Good Bs W) (hf : Fit e (h + 1) (abs (h + 1) m)) (h0 : J pre W) (hN : pre.length + (bfrom (h + 1) (abs (h + 1) m) e).length ≤ N) :
    CallsIn Fence.wide n Try.prog 53 #[.pointer (some ⟨ptr (h + 1) m, 0, none⟩), entryV e, .func (.yield l) #[] #[]] W (WalkPost Bs J Jx pre (bfrom (h + 1) (abs (h + 1) m) e) W) := by
  have mixed : Try.prog.follows Departure.mixedOrders = true := by kernel_rfl
  have hu29 := Try.underlying29
  obtain ⟨p, K, C, ks, kids⟩ := m
  have hok' : Ok W (h + 1) (⟨p, K, C, ks, kids⟩ : Inner (MT h)) := hok
  obtain ⟨hNd, hR, hC, hk0, hkids⟩ := hok
  change NodeAt W p K C at hNd
  change RowE W K ks at hR
  change Row W 59 1 C kids.length (kids.map (kidPtr h)) at hC
  change 0 < kids.length at hk0
  change ∀ k ∈ kids, Ok W h k at hkids
  obtain ⟨f1, f2, f3, f4⟩ := hf
  change ks.length ≤ 4 at f1
  change Mono ks e at f2
  change (kids.map (abs h)).length = ks.length + 1 at f3
  change ∀ k ∈ kids.map (abs h), Fit e h k at f4
  rw [List.length_map] at f3
  obtain ⟨xs, hxs⟩ : ∃ xs, bfrom (h + 1) (abs (h + 1) (⟨p, K, C, ks, kids⟩ : Inner (MT h))) e = xs := ⟨_, rfl⟩
  have hxs2 : xs = ((kids.drop (kidIx ks e)).map (abs h)).flatMap (fun k => bfrom h k e) := by
    rw [← hxs, List.map_drop]
    rfl
  obtain ⟨i, hi⟩ : ∃ i, kidIx ks e = i := ⟨_, rfl⟩
  have hil : i ≤ ks.length := hi ▸ kidIx_le ks e
  rw [hi] at hxs2
  obtain ⟨gc, cC, rfl, hcC⟩ := rowP_form (show Row W 59 1 C (ptrs h kids).length (ptrs h kids) from by rw [ptrs_len]; exact hC) (by rw [ptrs_len]; exact hk0)
  rw [ptrs_len] at *
  obtain ⟨n1, hn1⟩ : ∃ n, kids.length = n := ⟨_, rfl⟩
  rw [hn1] at hNd hC hcC f3 hk0
  have HK1 := Aside0.mk hn1
  have hin : i < n1 := by omega
  have hic : ¬ cC = i := by omega
  have hin2 : (i : Int) < (n1 : Int) := by omega
  have hii0 : (0 : Int) ≤ (i : Int) := by omega
  have hii1 : (i : Int) ≤ (n1 : Int) := by omega
  have hii2 : i ≤ n1 := by omega
  have hn5 : n1 ≤ 5 := by omega
  obtain ⟨W0, hW0⟩ : ∃ W0, W.alloc (.cells #[.string e.f0, .int .i64 e.f1.f0, .int .i64 e.f1.f1] 29) = W0 := ⟨_, rfl⟩
  obtain ⟨n0, hn0⟩ : ∃ n, W.heap.size = n := ⟨_, rfl⟩
  have hb0 : Below W.heap.size W W0 := by rw [← hW0]; exact (Below.refl _ W).alloc (Nat.le_refl _) _
  have hX : W0.heap[n0]? = some (boxE e) := by rw [← hW0, ← hn0]; exact heap_alloc_new W _
  have kr0 := KpR.below hG hb0
  have hown0 : ¬ Own Bs W0 n0 := fun ho => (kr0.own n0 ho).elim (fun h1 => by have := hG n0 h1; omega) (fun h1 => by
    have h2 : Own Bs W n0 := (own_eq (fun b hb => hb0.cell (p := ⟨b, 0, none⟩) (hG b (.inl hb))) n0).1 ho
    have := hG n0 h2
    omega)
  obtain ⟨R, hRR⟩ : ∃ R, WalkPost Bs J Jx pre xs W = R := ⟨_, rfl⟩
  rw [hxs, hRR]
  have HR := Aside0.mk hRR
  have HXS := Aside0.mk hxs2
  have HNd := Aside0.mk (kr0.node hNd (hfp _ List.mem_cons_self))
  have HOK := Aside0.mk (kr0.ok hok' hfp)
  have HFP := Aside0.mk (show ∀ a ∈ fp (h + 1) (⟨p, K, .slice (some ⟨gc, 0, none⟩) n1 cC, ks, kids⟩ : Inner (MT h)), ¬ Own Bs W0 a from fun a ha => kr0.apart (hok'.lt a (by rw [hn1]; exact ha)) (hfp a (by rw [hn1]; exact ha)))
  have HKR := Aside0.mk kr0
  have HO0 := Aside0.mk hown0
  have HX := Aside0.mk hX
  have HJ := Aside0.mk hJ
  have HF4 := Aside0.mk f4
  have H0 := Aside0.mk (hJ _ _ _ h0 hb0)
  have HNN := Aside0.mk (show pre.length + xs.length ≤ N from hxs ▸ hN)
  have HIH := Aside0.mk IH
  rw [hn1] at HOK
  have HKID := Aside0.mk (kid_calls W0.drew p K _ ks e (blk_drew HNd.out) ((show RowE W0.drew K ks from Row.move (HOK.out.2.1 : RowE W0 K ks) (fun _ _ => rfl))) (by omega) f2)
  rw [hi] at HKID
  clear hNd hR hC hkids hok' hfp hG f1 f2 f3 f4 hN IH hJ h0 hxs hxs2 hi hn1 kr0 hown0 hRR hb0 hX
  unfold entryV
  show CallsIn Fence.wide n Try.prog 53 #[.pointer (some ⟨p, 0, none⟩), .agg #[.string e.f0, .int .i64 e.f1.f0, .int .i64 e.f1.f1], .func (.yield l) #[] #[]] W R
  have HLF := Aside0.mk (fun n => callsIn_wide (n := n).2 (leaf_no W0 p K (some ⟨gc, 0, none⟩) n1 cC HNd.out (by omega)))
  refine callsIn_of_wp Try.func53 rfl trivial ?_ rfl
  simp only [Try.ntmps53, List.size_toArray, List.length_cons, List.length_nil, Nat.reduceAdd, Nat.reduceSub, Array.replicate_succ, Array.replicate_zero, List.push_toArray, List.append_toArray, List.nil_append, List.cons_append]
  gi_wp2_with (first
    | ((try refine ⟨trivial, fun h => (by cases h), ?_⟩); gi_at_call 30; refine (HLF.out _).mono ?_; rintro E W0 ⟨rfl, rfl⟩))
  refine wpIn_wide.2 ?_
  refine start_ (n := 10) (S := fun w' => w'.cell? ⟨p, 1, none⟩ = some (.slice (some ⟨gc, 0, none⟩) n1 cC) ∧ w'.cell? ⟨n0, 0, none⟩ = some (.string e.f0) ∧ w'.cell? ⟨n0, 1, none⟩ = some (.int .i64 e.f1.f0) ∧ w'.cell? ⟨n0, 2, none⟩ = some (.int .i64 e.f1.f1)) (ds := []) #[false, false, false, false, false, false, false, false, false, false] (by kernel_rfl) rfl rfl ⟨HNd.out.c1, (blk_cell HX.out 0).trans rfl, (blk_cell HX.out 1).trans rfl, (blk_cell HX.out 2).trans rfl⟩ (fun hHeld => ?_)
  refine pure_ (i := 0) (N := (some 37)) (v := ?_) (a' := ?_) #[true, false, false, false, false, false, false, false, false, false] rfl rfl (by kernel_rfl) (fun _ _ _ h => h) (Or.inl ⟨by rfl, ?_⟩) ?_ ?_
  rotate_left
  · intro w'
    go_simp
    with_reducible rfl
  rotate_left
  · simp only [Act.put, List.setIfInBounds_toArray, List.set_cons_zero, List.set_cons_succ, i64_w, i32_w]
    rfl
  refine pure_ (i := 1) (N := (some 38)) (v := ?_) (a' := ?_) #[true, true, false, false, false, false, false, false, false, false] rfl rfl (by kernel_rfl) (fun _ _ _ h => h) (Or.inl ⟨by rfl, ?_⟩) ?_ ?_
  rotate_left
  · intro w'
    go_simp
    with_reducible rfl
  rotate_left
  · simp only [Act.put, List.setIfInBounds_toArray, List.set_cons_zero, List.set_cons_succ, i64_w, i32_w]
    rfl
  refine pure_ (i := 2) (N := (some 39)) (v := ?_) (a' := ?_) #[true, true, true, false, false, false, false, false, false, false] rfl rfl (by kernel_rfl) (fun _ _ _ h => h) (Or.inl ⟨by rfl, ?_⟩) ?_ ?_
  rotate_left
  · intro w'
    go_simp
    with_reducible rfl
  rotate_left
  · simp only [Act.put, List.setIfInBounds_toArray, List.set_cons_zero, List.set_cons_succ, i64_w, i32_w]
    rfl
  refine pure_ (i := 4) (N := (some 41)) (v := ?_) (a' := ?_) #[true, true, true, false, true, false, false, false, false, false] rfl rfl (by kernel_rfl) (fun _ _ _ h => h) (Or.inl ⟨by rfl, ?_⟩) ?_ ?_
  rotate_left
  · intro w'
    go_simp
    with_reducible rfl
  rotate_left
  · simp only [Act.put, List.setIfInBounds_toArray, List.set_cons_zero, List.set_cons_succ, i64_w, i32_w]
    rfl
  refine pure_ (i := 9) (N := (some 46)) (v := ?_) (a' := ?_) #[true, true, true, false, true, false, false, false, false, true] rfl rfl (by kernel_rfl) (fun _ _ _ h => h) (Or.inl ⟨by rfl, ?_⟩) ?_ ?_
  rotate_left
  · intro w'
    go_simp
    with_reducible rfl
  rotate_left
  · simp only [Act.put, List.setIfInBounds_toArray, List.set_cons_zero, List.set_cons_succ, i64_w, i32_w]
    rfl
  refine take_ (i := 3) (N := (some 40)) (v := ?_) (a' := ?_) #[true, true, true, true, true, false, false, false, false, true] rfl rfl (by kernel_rfl) (fun _ _ _ h => h) (Or.inl ⟨by rfl, ?_⟩) hHeld ?_ ?_
  rotate_left
  · rintro w' ⟨s0, s1, s2, s3⟩
    go_simp
    with_reducible rfl
  rotate_left
  · simp only [Act.put, List.setIfInBounds_toArray, List.set_cons_zero, List.set_cons_succ, i64_w, i32_w]
    rfl
  refine take_ (i := 5) (N := (some 42)) (v := ?_) (a' := ?_) #[true, true, true, true, true, true, false, false, false, true] rfl rfl (by kernel_rfl) (fun _ _ _ h => h) (Or.inl ⟨by rfl, ?_⟩) hHeld ?_ ?_
  rotate_left
  · rintro w' ⟨s0, s1, s2, s3⟩
    go_simp
    with_reducible rfl
  rotate_left
  · simp only [Act.put, List.setIfInBounds_toArray, List.set_cons_zero, List.set_cons_succ, i64_w, i32_w]
    rfl
  refine one_ (i := 6) (N := (some 43)) #[true, true, true, true, true, true, true, false, false, true] rfl rfl (by kernel_rfl) (by decide) (fun K_ hK => ?_)
  refine goes_ Try.func43 (by kernel_rfl) rfl #[.pointer (some ⟨p, 0, none⟩), .agg #[.string e.f0, .int .i64 e.f1.f0, .int .i64 e.f1.f1]] (by rfl) rfl rfl (by (try simp only [List.map_toArray, List.map_cons, List.map_nil]); first | done | rfl) ?_
  refine HKID.out.mono ?_
  rintro E w2 ⟨rfl, hb⟩
  have HB2 := Aside0.mk (show Below W0.heap.size W0 w2 from (⟨rfl, rfl, rfl, Nat.le_refl _, fun _ _ => rfl⟩ : Below W0.heap.size W0 W0.drew).trans hb)
  refine ⟨_, rfl, ?_⟩
  clear hHeld hb
  refine hK.out _ _ ⟨(blk_below HNd.out HB2.out |> fun h => (show NodeAt w2 p K _ from h).c1), (blk_cell (blk_below HX.out HB2.out) 0).trans rfl, (blk_cell (blk_below HX.out HB2.out) 1).trans rfl, (blk_cell (blk_below HX.out HB2.out) 2).trans rfl⟩ (fun hHeld => ?_)
  clear hK K_
  refine norm_ (a' := ?_) ?_ ?_
  rotate_left
  · show Act.put _ (some 43) _ = _
    simp only [Act.put, List.setIfInBounds_toArray, List.set_cons_zero, List.set_cons_succ, i64_w, i32_w]
    rfl
  refine pure_ (i := 7) (N := (some 44)) (v := ?_) (a' := ?_) #[true, true, true, true, true, true, true, true, false, true] rfl rfl (by kernel_rfl) (fun _ _ _ h => h) (Or.inl ⟨by rfl, ?_⟩) ?_ ?_
  rotate_left
  · intro w'
    go_simp
    with_reducible rfl
  rotate_left
  · simp only [Act.put, List.setIfInBounds_toArray, List.set_cons_zero, List.set_cons_succ, i64_w, i32_w]
    rfl
  refine pure_ (i := 8) (N := (some 45)) (v := ?_) (a' := ?_) #[true, true, true, true, true, true, true, true, true, true] rfl rfl (by kernel_rfl) (fun _ _ _ h => h) (Or.inl ⟨by rfl, ?_⟩) ?_ ?_
  rotate_left
  · intro w'
    go_simp
    with_reducible rfl
  rotate_left
  · simp only [Act.put, List.setIfInBounds_toArray, List.set_cons_zero, List.set_cons_succ, i64_w, i32_w]
    rfl
  refine done_ (by kernel_rfl) ?_
  have HKR2 := Aside0.mk (HKR.out.trans (KpR.below HKR.out.good HB2.out))
  have HX2 := Aside0.mk (blk_below HX.out HB2.out)
  have H2 := Aside0.mk (HJ.out _ _ _ H0.out HB2.out)
  have krx := KpR.below HKR.out.good HB2.out
  have HO2 := Aside0.mk (krx.apart (lt_of_some HX.out) HO0.out)
  have HOK2 := Aside0.mk (krx.ok HOK.out HFP.out)
  have HFP2 := Aside0.mk (fun a ha => krx.apart (HOK.out.lt a ha) (HFP.out a ha))
  clear HKR HX H0 HO0 HOK HFP HB2 hHeld HKID HNd krx
  gi_wp2
  gi_loopw [46] (fun v wr => ∃ j : Nat, v = .int .i64 j ∧ j ≤ n1 - i ∧ Aside0 (J (pre ++ ((((kids.drop i).take j).map (abs h)).flatMap (fun k => bfrom h k e))) wr ∧ KpR Bs w2 wr)) (fun v _ => (n1 - i) - (intOf v).toNat)
  case atStart => exact ⟨0, rfl, by omega, Aside0.mk ⟨by simpa using H2.out, KpR.refl HKR2.out.good⟩⟩
  case round =>
    obtain ⟨j, rfl, hj, HI⟩ := hrel
    by_cases hjn : j < n1 - i
    · have hlen : i + j < kids.length := by rw [HK1.out]; omega
      obtain ⟨k, hk⟩ : ∃ k, kids[i + j]? = some k := ⟨_, List.getElem?_eq_getElem hlen⟩
      have HKK := Aside0.mk hk
      have hokr := HI.out.2.ok HOK2.out HFP2.out
      have hrow : Row wr 59 1 (.slice (some ⟨gc, 0, none⟩) n1 cC) kids.length (kids.map (kidPtr h)) := hokr.2.2.1
      have k0 := hrow.cell (by rw [HK1.out]) (i + j) (.pointer (some ⟨ptr h k, 0, none⟩)) (by rw [List.getElem?_map, hk]; rfl)
      have hkm : k ∈ kids := List.mem_of_getElem? hk
      have HOKK := Aside0.mk (show Ok wr h k from hokr.2.2.2.2 k hkm)
      have hbx : wr.heap[n0]? = some (boxE e) := HI.out.2.frame n0 _ HX2.out rfl HO2.out
      have a0 : wr.cell? ⟨n0, 0, none⟩ = some (.string e.f0) := (blk_cell hbx 0).trans rfl
      have a1 : wr.cell? ⟨n0, 1, none⟩ = some (.int .i64 e.f1.f0) := (blk_cell hbx 1).trans rfl
      have a2 : wr.cell? ⟨n0, 2, none⟩ = some (.int .i64 e.f1.f1) := (blk_cell hbx 2).trans rfl
      have HFPK := Aside0.mk (show ∀ a ∈ fp h k, ¬ Own Bs wr a from fun a ha => by
        have hm : a ∈ fp (h + 1) (⟨p, K, .slice (some ⟨gc, 0, none⟩) n1 cC, ks, kids⟩ : Inner (MT h)) := List.mem_cons_of_mem _ (List.mem_append_right _ (List.mem_append_right _ (List.mem_flatMap.2 ⟨k, hkm, ha⟩)))
        exact HI.out.2.apart (HOK2.out.lt a hm) (HFP2.out a hm))
      have htk : (kids.drop i).take (j + 1) = (kids.drop i).take j ++ [k] := by
        rw [List.take_add_one, List.getElem?_drop, hk]
        rfl
      have HTK := Aside0.mk htk
      have hpre : (((kids.drop i).take (j + 1)).map (abs h)).flatMap (fun k => bfrom h k e) <+: xs := by
        rw [HXS.out]
        refine ⟨(((kids.drop i).drop (j + 1)).map (abs h)).flatMap (fun k => bfrom h k e), ?_⟩
        rw [← List.flatMap_append, ← List.map_append, List.take_append_drop]
      have HPRE := Aside0.mk hpre
      have hfl : (((kids.drop i).take (j + 1)).map (abs h)).flatMap (fun k => bfrom h k e) = (((kids.drop i).take j).map (abs h)).flatMap (fun k => bfrom h k e) ++ bfrom h (abs h k) e := by
        rw [htk, List.map_append, List.flatMap_append]
        simp
      have HFL := Aside0.mk hfl
      have hlenp : (pre ++ (((kids.drop i).take j).map (abs h)).flatMap (fun k => bfrom h k e)).length + (bfrom h (abs h k) e).length ≤ N := by
        have h1 := hpre.length_le
        have h2 := HNN.out
        rw [hfl, List.length_append] at h1
        rw [List.length_append]
        omega
      have HCALL := Aside0.mk (fun n => HIH.out k n _ wr HOKK.out HFPK.out HI.out.2.good (HF4.out (abs h k) (List.mem_map_of_mem hkm)) HI.out.1 hlenp)
      have HKI := Aside0.mk HI.out.2
      clear hokr hrow hkm hbx htk hpre hfl hlenp hk HI hlen
      unfold entryV at HCALL
      have hj1 : (j : Int) < (n1 : Int) - (i : Int) := by omega
      gi_wp2_with (first
        | ((try refine ⟨trivial, fun h => (by cases h), ?_⟩); gi_at_call 53; refine (HCALL.out _).mono ?_; clear k0 a0 a1 a2; rintro E W3 (⟨rfl, hJ3, hk3⟩ | ⟨rfl, q, hq, hJ3⟩)))
      · have HJ3 := Aside0.mk hJ3
        have HK3 := Aside0.mk hk3
        clear hJ3 hk3
        go_roundw
        case rel => exact ⟨j + 1, by go_num, by omega, Aside0.mk ⟨by rw [HFL.out, ← List.append_assoc]; exact HJ3.out, HKI.out.trans HK3.out⟩⟩
        case measure => simp [intOf]; omega
      · have HQ := Aside0.mk hq
        have HJ3 := Aside0.mk hJ3
        clear hq hJ3
        first | (rw [← HR.out]) | (go_ret; rw [← HR.out])
        refine .inr ⟨rfl, (((kids.drop i).take j).map (abs h)).flatMap (fun k => bfrom h k e) ++ q, ?_, by rw [← List.append_assoc]; exact HJ3.out⟩
        obtain ⟨r, hr⟩ := HQ.out
        obtain ⟨r2, hr2⟩ := HPRE.out
        refine ⟨r ++ r2, ?_⟩
        rw [← hr2, HFL.out, ← hr]
        simp
    · have hjn2 : ¬ (j : Int) < (n1 : Int) - (i : Int) := by omega
      have HT := Aside0.mk (show (kids.drop i).take j = kids.drop i by rw [List.take_of_length_le]; rw [List.length_drop, HK1.out]; omega)
      gi_wp2
      first | (rw [← HR.out]) | (go_ret; rw [← HR.out])
      refine .inl ⟨rfl, ?_, HKR2.out.trans HI.out.2⟩
      have := HI.out.1
      rw [HT.out, ← HXS.out] at this
      exact this
theorem walk_inn (l : Nat) (Bs : List Nat) (N : Nat) (J Jx : List S29 → World → Prop) (hJ : Abide J) (hY : ∀ m pre x W, J pre W → pre.length < N → YieldAt Fence.wide m Try.prog l #[entryV x] W (YP Bs J Jx pre x W)) (e : S29) :
    ∀ (h : Nat) (m : MT h) (n : Nat) (pre : List S29) (W : World), Ok W h m → (∀ a ∈ fp h m, ¬ Own Bs W a) → Good Bs W → Fit e h (abs h m) → J pre W → pre.length + (bfrom h (abs h m) e).length ≤ N →
      CallsIn Fence.wide n Try.prog 53 #[.pointer (some ⟨ptr h m, 0, none⟩), entryV e, .func (.yield l) #[] #[]] W (WalkPost Bs J Jx pre (bfrom h (abs h m) e) W)
  | 0, m, n, pre, W, h1, h2, h3, h4, h5, h6 => walk_leaf l Bs N J Jx hJ hY e m n pre W h1 h2 h3 h4 h5 h6
  | h + 1, m, n, pre, W, h1, h2, h3, h4, h5, h6 => walk_succ l Bs N J Jx hJ e h (walk_inn l Bs N J Jx hJ hY e h) m n pre W h1 h2 h3 h4 h5 h6
end Go.Proofs.Bt
end
section
namespace Go.Proofs.Bt
open Go Go.RowKit Go.Proofs.Ytjaddmflopahiaa.Q Go.Proofs.YtjaddmflopahiaaW.PrintWords Go.Proofs.YtjaddmflopahiaaW.PrintLast Go.Proofs.YtjaddmflopahiaaW.PrintMore
set_option linter.unusedVariables false
set_option linter.unusedSimpArgs false
set_option maxRecDepth 100000
attribute [local go_sem] Oper.semAt_some
theorem from_calls (w : World) (p : Nat) (e : S29) : Calls Try.prog 32 #[.pointer (some ⟨p, 0, none⟩), entryV e] w fun E w' => E = .returned (.func (.func 52) #[] #[.pointer (some ⟨w.heap.size, 0, none⟩), .pointer (some ⟨w.heap.size + 1, 0, none⟩)]) ∧ w' = (w.alloc (.cells #[.pointer (some ⟨p, 0, none⟩)] 59)).alloc (boxE e) := by
  have hu29 := Try.underlying29
  unfold entryV boxE
  go_enter Try.func32, Try.ntmps32
  go_wp2
  go_ret
  exact ⟨rfl, rfl⟩
def lowS (s : ByteArray) : S29 := ⟨s, ⟨-9223372036854775808, -9223372036854775808⟩⟩
theorem lowest_calls (w : World) (s : ByteArray) : Calls Try.prog 33 #[.string s] w fun E w' => E = .returned (entryV (lowS s)) ∧ Below w.heap.size w w' := by
  have hu29 := Try.underlying29
  go_enter Try.func33, Try.ntmps33
  go_wp2
  exact bodyPost_ret (v := entryV (lowS s)) (by simp [results, Try.results33, go_sem]; rfl) rfl ⟨rfl, (Below.refl _ _).alloc (Nat.le_refl _) _⟩
set_option maxHeartbeats 2000000 in
theorem closure_in (n l : Nat) (Bs : List Nat) (b1 b2 h : Nat) (m : MT h) (e : S29) (J Jx : List S29 → World → Prop) (hJ : Abide J)
    (hY : ∀ pre x W, J pre W → pre.length < (bfrom h (abs h m) e).length → YieldAt Fence.wide (n - 1) Try.prog l #[entryV x] W (YP Bs J Jx pre x W))
    (W : World) (hb1 : W.cell? ⟨b1, 0, none⟩ = some (.pointer (some ⟨ptr h m, 0, none⟩))) (hb2 : W.heap[b2]? = some (boxE e)) (hok : Ok W h m) (hfp : ∀ a ∈ fp h m, ¬ Own Bs W a) (hG : Good Bs W) (hf : Fit e h (abs h m)) (h0 : J [] W) :
    CallsIn Fence.wide n Try.prog 52 #[.func (.yield l) #[] #[], .pointer (some ⟨b1, 0, none⟩), .pointer (some ⟨b2, 0, none⟩)] W fun E W' => (∃ v, E = .returned v) ∧ ((∃ ys, ys = bfrom h (abs h m) e ∧ J ys W') ∨ (∃ pre, pre <+: bfrom h (abs h m) e ∧ Jx pre W')) := by
  have a0 : W.cell? ⟨b2, 0, none⟩ = some (.string e.f0) := (blk_cell hb2 0).trans rfl
  have a1 : W.cell? ⟨b2, 1, none⟩ = some (.int .i64 e.f1.f0) := (blk_cell hb2 1).trans rfl
  have a2 : W.cell? ⟨b2, 2, none⟩ = some (.int .i64 e.f1.f1) := (blk_cell hb2 2).trans rfl
  have HW := Aside0.mk (fun n => walk_inn l Bs _ J Jx hJ (fun k pre x W hj hl => YieldAt.any k (hY pre x W hj hl)) e h m n [] W hok hfp hG hf h0 (by simp))
  unfold entryV at HW
  have hu29 := Try.underlying29
  clear hb2 hok hfp hG hf h0 hY hJ
  refine callsIn_of_wp Try.func52 rfl trivial ?_ rfl
  simp only [Try.ntmps52, List.size_toArray, List.length_cons, List.length_nil, Nat.reduceAdd, Nat.reduceSub, Array.replicate_succ, Array.replicate_zero, List.push_toArray, List.append_toArray, List.nil_append, List.cons_append]
  gi_wp2_with (first
    | ((try refine ⟨trivial, fun h => (by cases h), ?_⟩); gi_at_call 53; refine (HW.out _).mono ?_; clear a0 a1 a2 hb1; rintro E W3 (⟨rfl, hJ3, hk3⟩ | ⟨rfl, q, hq, hJ3⟩)))
  · go_end0
    exact ⟨⟨_, rfl⟩, .inl ⟨_, rfl, by simpa using hJ3⟩⟩
  · go_end0
    exact ⟨⟨_, rfl⟩, .inr ⟨q, hq, by simpa using hJ3⟩⟩
theorem from_stops (n : Nat) (Bs : List Nat) (b1 b2 h : Nat) (m : MT h) (e : S29) (w : World) (hb1 : w.heap[b1]? = some (.cells #[.pointer (some ⟨ptr h m, 0, none⟩)] 59 (0, 0))) (hb2 : w.heap[b2]? = some (boxE e)) (hok : Ok w h m) (hfp : ∀ a ∈ fp h m, ¬ Own Bs w a) (hG : Good Bs w) (hf : Fit e h (abs h m)) :
    SeqStopsK Fence.wide n Try.prog 52 #[.pointer (some ⟨b1, 0, none⟩), .pointer (some ⟨b2, 0, none⟩)] (fun x : S29 => #[entryV x]) (Kp Bs) (fun ys => ys = bfrom h (abs h m) e) (fun pre => pre <+: bfrom h (abs h m) e) (bfrom h (abs h m) e).length w := by
  intro l J Jx W hW hJ hJx hY h0
  have kr := KpR.below hG hW
  refine closure_in n l Bs b1 b2 h m e J Jx (abide_of hJ) hY W ?_ ((hW.block b2 (lt_of_some hb2)).trans hb2) (hok.below hW) (fun a ha => kr.apart (hok.lt a ha) (hfp a ha)) kr.good hf h0
  exact (blk_cell ((hW.block b1 (lt_of_some hb1)).trans hb1) 0).trans rfl
end Go.Proofs.Bt
end
section
namespace Go.Proofs.Bt
open Go Go.RowKit Go.Proofs.Ytjaddmflopahiaa.Q Go.Proofs.YtjaddmflopahiaaW.PrintWords Go.Proofs.YtjaddmflopahiaaW.PrintLast Go.Proofs.YtjaddmflopahiaaW.PrintMore
set_option linter.unusedVariables false
set_option linter.unusedSimpArgs false
set_option maxRecDepth 100000
attribute [local go_sem] Oper.semAt_some
theorem wpListIn_append_run {F : Fence} {n : Nat} {P : Program} {w : World} {ops : Array Oper} {rest : List Oper} {o : Oper} {a : Act} {Q : Exit → Act → World → Prop} (hg : o.guard = none) (s x : Operand) (t u : TypeId)
    (hop : o.op = Op.call { callee := Callee.builtin Builtin.append, args := #[s, x], argTypes := #[t, u] }) (v y : Value) (hs : a.eval s = v) (hx : a.eval x = y) {v' : Value} {w' : World} (hr : (Builtin.append_ #[t, u] o.type #[v, y]).run P w = .ok v' w')
    (h : wpListIn F n P ops Q rest (a.put o.dst v') w') : wpListIn F n P ops Q (o :: rest) a w := by
  refine wpListIn_plain hg fun K hK' => ?_
  unfold Oper.wpIn
  refine ⟨?_, ?_⟩
  · simp [Oper.about, hop, resolve, Target.leads, Sem.run_pure]
  · rw [Oper.semAt_plain F _ _ (by rw [hop]; intro c hc'; cases hc')]
    simp [execOp, hop, resolve, invoke, builtin, hs, hx, hr, Result.andThen]
    exact hK' _ _ h
def boxC (b : Nat) (t : TypeId) (v : Value) : Chunk := ⟨fun w => Boxed w b t v, [b], fun h x hx => by simp at hx; subst hx; exact h.lt, fun h hm => (hm b (by simp)).trans h⟩
def CellsC (c : Chunk) : Prop := ∀ w, c.H w → ∀ b ∈ c.bs, ∃ o, w.heap[b]? = some o ∧ o.isCells = true
theorem boxC_cells (b : Nat) (t : TypeId) (v : Value) : CellsC (boxC b t v) := fun w h x hx => by
  simp [boxC] at hx
  subst hx
  exact ⟨_, h, rfl⟩
theorem row_cellsC {w : World} {e : TypeId} {sz n : Nat} {v : Value} {xs : List Value} (h : Row w e sz v n xs) (b : Nat) (hb : b ∈ bl v) : ∃ o, w.heap[b]? = some o ∧ o.isCells = true := by
  rcases h.2.2 with ⟨rfl, _⟩ | ⟨g, cap, cur, rfl, hg, _⟩
  · simp [bl, Value.ownBlock] at hb
  · rw [bl_slice] at hb
    simp at hb
    subst hb
    exact ⟨_, hg, rfl⟩
theorem rowEC_cells (v : Value) (ks : List S29) : CellsC (rowEC v ks) := fun w h b hb => row_cellsC h b hb
section
variable {w0 W W' : World} {F : Nat → Prop} {cs : List Chunk}
theorem Keep.row {w0 W W' : World} {F : Nat → Prop} (h : Keep w0 W F) {row : Option Nat} (hg : W.grownBy W' row) (hr : ∀ r, row = some r → w0.heap.size ≤ r) : Keep w0 W' F := h.grown hg fun b hb => .inr (hr b hb)
theorem St.turned (s : St w0 F W cs) {row : Option Nat} (hg : W.grownBy W' row) (hr : ∀ r, row = some r → w0.heap.size ≤ r ∧ ∃ o : Obj, W.heap[r]? = some o ∧ o.isCells = false) (hc : ∀ c ∈ cs, CellsC c) : St w0 F W' cs := by
  refine ⟨s.keep.row hg fun r e => (hr r e).1, fun c hcs => c.mv (s.h c hcs) fun b hb => hg.block b (c.lt (s.h c hcs) b hb) fun e => ?_, s.nd, s.own⟩
  obtain ⟨o, ho, hcc⟩ := hc c hcs W (s.h c hcs) b hb
  obtain ⟨_, o2, ho2, hcc2⟩ := hr b e.symm
  rw [ho] at ho2
  cases ho2
  rw [hcc] at hcc2
  cases hcc2
theorem St.box (s : St w0 F W cs) (i : Nat) {b : Nat} {t : TypeId} {v : Value} (hi : cs[i]? = some (boxC b t v)) : Boxed W b t v := s.get i hi
theorem St.putB (s : St w0 F W cs) (i : Nat) {b : Nat} {t : TypeId} {v : Value} (hi : cs[i]? = some (boxC b t v)) (v' : Value) : St w0 F (W.setCell ⟨b, 0, none⟩ v') (cs.set i (boxC b t v')) :=
  s.upd i hi (boxC b t v') (keep_set W b 0 v' _ (by simp [boxC])) ((s.box i hi).set v') (nd_one b) (fun x hx => .inl hx)
end
theorem keepsFrom_of {W W' : World} {F : Nat → Prop} (h : Keep W W' F) (hc : ∀ k o, F k → W.heap[k]? = some o → o.isCells = true) (B : Nat) : KeepsFrom B W W' :=
  ⟨h.size, fun k o _ hk ho => (h.block k (lt_of_some hk) (fun hf => by rw [hc k o hf hk] at ho; cases ho)).trans hk⟩
theorem KpR.of_keep {Bs : List Nat} {W W' : World} (hk : Keep W W' (Own Bs W)) (hg : Good Bs W') (ho : ∀ k, Own Bs W' k → Own Bs W k ∨ W.heap.size ≤ k) : KpR Bs W W' :=
  ⟨hk.size, hg, fun k o h1 _ h3 => (hk.block k (lt_of_some h1) h3).trans h1, ho⟩
theorem own_one {B : Nat} {W : World} {t : TypeId} {v : Value} (h : Boxed W B t v) (k : Nat) : Own [B] W k ↔ k = B ∨ v.ownBlock = some k := by
  unfold Own
  constructor
  · rintro (h1 | ⟨b, hb, u, hu, ho⟩)
    · exact .inl (by simpa using h1)
    · simp at hb
      subst hb
      rw [h.cell] at hu
      cases hu
      exact .inr ho
  · rintro (h1 | h1)
    · exact .inl (by simp [h1])
    · exact .inr ⟨B, by simp, v, h.cell, h1⟩
theorem Kp.b1 {Bs : List Nat} {W0 : World} (hB : ∀ b ∈ Bs, b < W0.heap.size) (W : World) (l : Nat) (o o' : Obj) (hl : W0.heap.size ≤ l) (h : W.heap[l]? = some o) (hc : o.isCells = false) : Kp Bs W (W.putObj l o') := by
  intro g
  have hlt := lt_of_some h
  have hoth : ∀ k, k ≠ l → (W.putObj l o').heap[k]? = W.heap[k]? := fun k hk => World.putObj_heap_other hk
  have hsz : (W.putObj l o').heap.size = W.heap.size := by simp [World.putObj]
  have he := own_eq (Bs := Bs) (W := W) (W' := W.putObj l o') (fun b hbs => World.cell?_of_block (a := ⟨b, 0, none⟩) (hoth b (by have := hB b hbs; omega)))
  refine ⟨by omega, fun k hk => by rw [hsz]; exact g k ((he k).1 hk), fun k o2 hk h2 _ => ?_, fun k hk => .inl ((he k).1 hk)⟩
  rw [hoth k (fun e => by rw [e, h] at hk; cases hk; rw [hc] at h2; cases h2)]
  exact hk
end Go.Proofs.Bt
end
section
namespace Go.Proofs.Bt
open Go Go.RowKit Go.Proofs.Ytjaddmflopahiaa.Q Go.Proofs.YtjaddmflopahiaaW.PrintWords Go.Proofs.YtjaddmflopahiaaW.PrintLast Go.Proofs.YtjaddmflopahiaaW.PrintMore
set_option linter.unusedVariables false
set_option linter.unusedSimpArgs false
set_option maxRecDepth 100000
attribute [local go_sem] Oper.semAt_some
def keyLt (a b : ByteArray) : Bool := Op.bytesLess a.toList b.toList
def rng (hiK : ByteArray) (most : Int) : List S29 → Nat → List S29
  | [], _ => []
  | x :: xs, n => if (n : Int) < most ∧ keyLt x.f0 hiK = true then x :: rng hiK most xs (n + 1) else []
def RFine (hiK : ByteArray) (most : Int) (pre : List S29) : Prop := ∀ (j : Nat) (x : S29), pre[j]? = some x → (j : Int) < most ∧ keyLt x.f0 hiK = true
theorem rng_all (hiK : ByteArray) (most : Int) : ∀ (xs : List S29) (n : Nat), (∀ j x, xs[j]? = some x → ((n + j : Nat) : Int) < most ∧ keyLt x.f0 hiK = true) → rng hiK most xs n = xs
  | [], n, h => rfl
  | x :: xs, n, h => by
    unfold rng
    rw [if_pos (by have := h 0 x rfl; simpa using this), rng_all hiK most xs (n + 1) (fun j y hj => by have := h (j + 1) y hj; rw [show n + 1 + j = n + (j + 1) by omega]; exact this)]
theorem rng_stop (hiK : ByteArray) (most : Int) : ∀ (pre : List S29) (x : S29) (r : List S29) (n : Nat), (∀ j y, pre[j]? = some y → ((n + j : Nat) : Int) < most ∧ keyLt y.f0 hiK = true) → ¬ (((n + pre.length : Nat) : Int) < most ∧ keyLt x.f0 hiK = true) → rng hiK most (pre ++ x :: r) n = pre
  | [], x, r, n, h, hx => by
    show rng hiK most (x :: r) n = []
    unfold rng
    rw [if_neg (by simpa using hx)]
  | y :: pre, x, r, n, h, hx => by
    show rng hiK most (y :: (pre ++ x :: r)) n = y :: pre
    unfold rng
    rw [if_pos (by have := h 0 y rfl; simpa using this), rng_stop hiK most pre x r (n + 1) (fun j z hj => by have := h (j + 1) z hj; rw [show n + 1 + j = n + (j + 1) by omega]; exact this) (by rw [List.length_cons] at hx; rw [show n + 1 + pre.length = n + (pre.length + 1) by omega]; exact hx)]
def NoF : Nat → Prop := fun _ => False
theorem keep_below {w w' : World} (h : Keep w w' NoF) : Below w.heap.size w w' := ⟨h.os, h.tape, h.output, h.size, fun k hk => h.block k hk (fun h => h)⟩
theorem St.none (w : World) (F : Nat → Prop) : St w F w [] := ⟨Keep.of_below (Below.refl _ _) _, fun c hc => (by cases hc), fun a => by simp [fpc], fun b hb => by simp [fpc] at hb⟩
theorem St.boxed {w0 w : World} {F : Nat → Prop} {cs : List Chunk} (s : St w0 F w cs) (t : TypeId) (v : Value) {n : Nat} (hn : w.heap.size = n) : St w0 F (w.alloc (.cells #[v] t)) (cs ++ [boxC n t v]) := s.alloc #[v] t hn
def NormQ (K : Act → World → Prop) : Exit → Act → World → Prop
  | .normal, a, w => K a w
  | _, _, _ => False
theorem NormQ.of {Q : Exit → Act → World → Prop} {a : Act} {w : World} (h : Q .normal a w) : NormQ (fun a w => Q .normal a w) .normal a w := h
theorem wp_norm {P : Program} {c : Code} {Q : Exit → Act → World → Prop} {a : Act} {w : World} (h : c.wp P (NormQ (fun a w => Q .normal a w)) a w) : c.wp P Q a w := wp_mono h fun e a w hh => by
  cases e with
  | normal => exact hh
  | _ => exact hh.elim
def RangePost (w : World) (xs : List S29) (E : Ending) (w' : World) : Prop := ∃ v, E = .returned v ∧ St w NoF w' [rowEC v xs]
set_option maxHeartbeats 4000000 in
theorem range_calls (w : World) (tp h : Nat) (m : MT h) (cnt : Int) (frm hiK : ByteArray) (most : Int) (hT : TreeAt w tp (ptr h m) cnt) (hok : Ok w h m) (hf : Fit (lowS frm) h (abs h m)) (hlen : (bfrom h (abs h m) (lowS frm)).length < 90000) :
    Calls Try.prog 19 #[.pointer (some ⟨tp, 0, none⟩), .string frm, .string hiK, .int .i64 most] w (RangePost w (rng hiK most (bfrom h (abs h m) (lowS frm)) 0)) := by
  have mixed : Try.prog.follows Departure.mixedOrders = true := by kernel_rfl
  have hu29 := Try.underlying29
  have hu64 := Try.underlying64
  obtain ⟨R, hR⟩ : ∃ R, RangePost w (rng hiK most (bfrom h (abs h m) (lowS frm)) 0) = R := ⟨_, rfl⟩
  rw [hR]
  have HR := Aside0.mk hR
  obtain ⟨n0, hn0⟩ : ∃ n, w.heap.size = n := ⟨_, rfl⟩
  have s1 := (St.none w NoF).boxed 9 (.string hiK) hn0
  have s2 := s1.boxed 3 (.int .i64 most) (n := n0 + 1) (by simp [hn0])
  have s3 := s2.boxed 22 (.slice none 0 0) (n := n0 + 2) (by simp [hn0])
  obtain ⟨W3, hW3⟩ : ∃ W, ((w.alloc (.cells #[.string hiK] 9)).alloc (.cells #[.int .i64 most] 3)).alloc (.cells #[.slice none 0 0] 22) = W := ⟨_, rfl⟩
  rw [hW3] at s3
  have HS := Aside0.mk (show St w NoF W3 [boxC n0 9 (.string hiK), boxC (n0 + 1) 3 (.int .i64 most), boxC (n0 + 2) 22 (.slice none 0 0)] from s3)
  have HTA := Aside0.mk hT
  have HOK := Aside0.mk hok
  have HFT := Aside0.mk hf
  have HLN := Aside0.mk hlen
  have HN0 := Aside0.mk hn0
  have HT3 := Aside0.mk (show TreeAt W3 _ _ _ from blk_below hT (keep_below HS.out.keep))
  have hs3 : W3.heap.size = n0 + 3 := by rw [← hW3]; simp [hn0]
  clear hR s1 s2 s3 hT hok hf hlen
  refine (callsIn_wide (n := 5)).1 ?_
  refine callsIn_of_wp_marks Try.func19 rfl trivial ?_ rfl
  simp only [Try.ntmps19, List.size_toArray, List.length_cons, List.length_nil, Nat.reduceAdd, Nat.reduceSub, Array.replicate_succ, Array.replicate_zero, List.push_toArray, List.append_toArray, List.nil_append, List.cons_append]
  gi_wp2
  refine wpIn_wide.2 (wp_norm ?_)
  refine start_ (n := 7) (S := fun w' => w'.cell? ⟨tp, 0, none⟩ = some (.pointer (some ⟨ptr h m, 0, none⟩))) (ds := []) #[false, false, false, false, false, false, false] (by kernel_rfl) rfl rfl HT3.out.c0 (fun hHeld => ?_)
  refine pure_ (i := 0) (N := (some 11)) (v := ?_) (a' := ?_) #[true, false, false, false, false, false, false] rfl rfl (by kernel_rfl) (fun _ _ _ h => h) (Or.inl ⟨by rfl, ?_⟩) ?_ ?_
  rotate_left
  · intro w'
    go_simp
    with_reducible rfl
  rotate_left
  · simp only [Act.put, List.setIfInBounds_toArray, List.set_cons_zero, List.set_cons_succ, i64_w, i32_w]
    rfl
  refine pure_ (i := 1) (N := (some 12)) (v := ?_) (a' := ?_) #[true, true, false, false, false, false, false] rfl rfl (by kernel_rfl) (fun _ _ _ h => h) (Or.inl ⟨by rfl, ?_⟩) ?_ ?_
  rotate_left
  · intro w'
    go_simp
    with_reducible rfl
  rotate_left
  · simp only [Act.put, List.setIfInBounds_toArray, List.set_cons_zero, List.set_cons_succ, i64_w, i32_w]
    rfl
  refine pure_ (i := 2) (N := (some 13)) (v := ?_) (a' := ?_) #[true, true, true, false, false, false, false] rfl rfl (by kernel_rfl) (fun _ _ _ h => h) (Or.inl ⟨by rfl, ?_⟩) ?_ ?_
  rotate_left
  · intro w'
    go_simp
    with_reducible rfl
  rotate_left
  · simp only [Act.put, List.setIfInBounds_toArray, List.set_cons_zero, List.set_cons_succ, i64_w, i32_w]
    rfl
  refine pure_ (i := 4) (N := (some 15)) (v := ?_) (a' := ?_) #[true, true, true, false, true, false, false] rfl rfl (by kernel_rfl) (fun _ _ _ h => h) (Or.inl ⟨by rfl, ?_⟩) ?_ ?_
  rotate_left
  · intro w'
    go_simp
    with_reducible rfl
  rotate_left
  · simp only [Act.put, List.setIfInBounds_toArray, List.set_cons_zero, List.set_cons_succ, i64_w, i32_w]
    rfl
  refine take_ (i := 3) (N := (some 14)) (v := ?_) (a' := ?_) #[true, true, true, true, true, false, false] rfl rfl (by kernel_rfl) (fun _ _ _ h => h) (Or.inl ⟨by rfl, ?_⟩) hHeld ?_ ?_
  rotate_left
  · rintro w' s0
    go_simp
    with_reducible rfl
  rotate_left
  · simp only [Act.put, List.setIfInBounds_toArray, List.set_cons_zero, List.set_cons_succ, i64_w, i32_w]
    rfl
  refine one_ (i := 5) (N := (some 16)) #[true, true, true, true, true, true, false] rfl rfl (by kernel_rfl) (by decide) (fun K_ hK => ?_)
  refine goes_ Try.func33 (by kernel_rfl) rfl #[.string frm] (by rfl) rfl rfl (by (try simp only [List.map_toArray, List.map_cons, List.map_nil]); first | done | rfl) ?_
  refine (lowest_calls _ frm).mono ?_
  rintro E w2 ⟨rfl, hb⟩
  have HB2 := Aside0.mk (show Below W3.heap.size W3 w2 from (⟨rfl, rfl, rfl, Nat.le_refl _, fun _ _ => rfl⟩ : Below W3.heap.size W3 W3.drew).trans hb)
  refine ⟨_, rfl, ?_⟩
  clear hHeld hb
  refine hK.out _ _ (show TreeAt w2 _ _ _ from blk_below HT3.out HB2.out).c0 (fun hHeld => ?_)
  clear hK K_
  unfold entryV
  refine norm_ (a' := ?_) ?_ ?_
  rotate_left
  · show Act.put _ (some 16) _ = _
    simp only [Act.put, List.setIfInBounds_toArray, List.set_cons_zero, List.set_cons_succ, i64_w, i32_w]
    rfl
  refine one_ (i := 6) (N := (some 17)) #[true, true, true, true, true, true, true] rfl rfl (by kernel_rfl) (by decide) (fun K_ hK => ?_)
  refine goes_ Try.func32 (by kernel_rfl) rfl #[.pointer (some ⟨ptr h m, 0, none⟩), entryV (lowS frm)] (by rfl) rfl rfl (by (try simp only [List.map_toArray, List.map_cons, List.map_nil]); first | done | rfl) ?_
  refine (from_calls _ _ _).mono ?_
  rintro E W4 ⟨rfl, hw4⟩
  have hb4 : Below w2.heap.size w2 W4 := by rw [hw4]; exact ((Below.refl _ w2).alloc (Nat.le_refl _) _).alloc (by simp) _
  have HX1 := Aside0.mk (show W4.heap[w2.heap.size]? = some (.cells #[.pointer (some ⟨ptr h m, 0, none⟩)] 59 (0, 0)) by rw [hw4]; exact blk_alloc (blk_new w2 _) _)
  have HX2 := Aside0.mk (show W4.heap[w2.heap.size + 1]? = some (boxE (lowS frm)) by rw [hw4]; have := blk_new (w2.alloc (.cells #[.pointer (some ⟨ptr h m, 0, none⟩)] 59)) (boxE (lowS frm)); rwa [World.size_alloc] at this)
  have HB4 := Aside0.mk (HB2.out.trans (hb4.mono HB2.out.size))
  have HS4 := Aside0.mk (HS.out.below HB4.out)
  have hs4 : n0 + 3 ≤ w2.heap.size := by have := HB2.out.size; omega
  have hs5 := hb4.size
  refine ⟨_, rfl, ?_⟩
  clear hHeld hb4 hw4
  refine hK.out _ _ (show TreeAt W4 _ _ _ from blk_below HT3.out HB4.out).c0 (fun hHeld => ?_)
  clear hK K_
  refine norm_ (a' := ?_) ?_ ?_
  rotate_left
  · show Act.put _ (some 17) _ = _
    simp only [Act.put, List.setIfInBounds_toArray, List.set_cons_zero, List.set_cons_succ, i64_w, i32_w]
    rfl
  refine done_ (by kernel_rfl) ?_
  clear hHeld HT3 HS hW3
  refine NormQ.of ?_
  gi_wp2
  have hno : ∀ v, NodeAt W4 0 v v → True := fun _ _ => trivial
  have hbx : Boxed W4 (n0 + 2) 22 (.slice none 0 0) := HS4.out.box 2 rfl
  have hg4 : Good [n0 + 2] W4 := fun k hk => by
    rcases (own_one hbx k).1 hk with rfl | hk
    · exact hbx.lt
    · simp [Value.ownBlock] at hk
  have hOK4 : Ok W4 h m := HOK.out.below (keep_below HS4.out.keep)
  have hfp4 : ∀ a ∈ fp h m, ¬ Own [n0 + 2] W4 a := fun a ha ho => by
    have h1 := HOK.out.lt a ha
    rw [HN0.out] at h1
    rcases (own_one hbx a).1 ho with h2 | h2
    · omega
    · simp [Value.ownBlock] at h2
  obtain ⟨X1, hX1⟩ : ∃ n, w2.heap.size = n := ⟨_, rfl⟩
  rw [hX1] at HX1 HX2 hs4 hs5 ⊢
  refine wpIn_rangeFunc_ownH (n := 5) (F := Fence.wide) (w := W4) rfl (by decide) (gf := 52) (lb := #[.pointer (some ⟨X1, 0, none⟩), .pointer (some ⟨X1 + 1, 0, none⟩)]) rfl trivial (enters_of Try.func52 (by kernel_rfl) rfl)
    (from_stops 4 [n0 + 2] X1 (X1 + 1) h m (lowS frm) W4 HX1.out HX2.out hOK4 hfp4 hg4 HFT.out) Kp.t (fun W l o o' hl h hc _ => Kp.b1 (W0 := W4) (by intro b hb; simp at hb; omega) W l o o' hl h hc) (Below.refl _ _) (fun _ => rfl)
    (fun pre W => ∃ v, St w NoF W [boxC n0 9 (.string hiK), boxC (n0 + 1) 3 (.int .i64 most), boxC (n0 + 2) 22 v, rowEC v pre] ∧ RFine hiK most pre)
    (fun c pre W => c = .exit 0 ∧ ∃ v pre' x, pre = pre' ++ [x] ∧ St w NoF W [boxC n0 9 (.string hiK), boxC (n0 + 1) 3 (.int .i64 most), boxC (n0 + 2) 22 v, rowEC v pre'] ∧ RFine hiK most pre' ∧ ¬ ((pre'.length : Int) < most ∧ keyLt x.f0 hiK = true))
    ?hI ?hIx ?h0
    (fun x a' W => ∃ Bx, n0 + 2 < Bx ∧ W.heap[Bx]? = some (boxE x) ∧ ¬ Own [n0 + 2] W Bx ∧ a' = { tmps := #[.pointer (some ⟨tp, 0, none⟩), .string frm, .string hiK, .int .i64 most, undef, undef, .pointer (some ⟨n0, 0, none⟩), .pointer (some ⟨n0 + 1, 0, none⟩), .slice none 0 0, .pointer (some ⟨n0 + 1 + 1, 0, none⟩), .pointer (some ⟨Bx, 0, none⟩), .pointer (some ⟨tp, 0, none⟩), .pointer (some ⟨tp, 0, none⟩), .pointer (some ⟨tp, 0, none⟩), .pointer (some ⟨ptr h m, 0, none⟩), .string frm, entryV (lowS frm), .func (.func 52) #[] #[.pointer (some ⟨X1, 0, none⟩), .pointer (some ⟨X1 + 1, 0, none⟩)], entryV x, undef, undef, undef, undef, undef, undef, undef, undef, undef, undef, undef, undef, undef, undef, undef], defers := [] })
    ?hAx ?assign ?body ?done ?stop
  case hI =>
    rintro s X Y row ⟨v, hs, hfn⟩ hg hr
    exact ⟨v, hs.turned hg (fun r e => ⟨by have := (hr r e).1; omega, (hr r e).2⟩) (by
      intro c hc
      simp at hc
      rcases hc with rfl | rfl | rfl | rfl
      · exact boxC_cells _ _ _
      · exact boxC_cells _ _ _
      · exact boxC_cells _ _ _
      · exact rowEC_cells _ _), hfn⟩
  case hIx =>
    rintro c s X Y row ⟨hc, v, pre', x, hp, hs, hfn⟩ hg hr
    exact ⟨hc, v, pre', x, hp, hs.turned hg (fun r e => ⟨by have := (hr r e).1; omega, (hr r e).2⟩) (by
      intro c hc
      simp at hc
      rcases hc with rfl | rfl | rfl | rfl
      · exact boxC_cells _ _ _
      · exact boxC_cells _ _ _
      · exact boxC_cells _ _ _
      · exact rowEC_cells _ _), hfn⟩
  case h0 =>
    refine ⟨.slice none 0 0, ?_, fun j x hj => by simp at hj⟩
    exact (HS4.out.fresh (Below.refl _ _) (rowEC (.slice none 0 0) []) (Row.nil _ _ _) (by intro x; simp [rowEC, bl, Value.ownBlock]) (by intro x hx; simp [rowEC, bl, Value.ownBlock] at hx)).perm (perm_ix _ [1, 2, 3, 0] 4 rfl (by decide))
  case hAx =>
    rintro x a' _ X Y row ⟨Bx, h1, h2, h3, h4⟩ hg hr
    have hne : ∀ b o, X.heap[b]? = some o → o.isCells = true → some b ≠ row := fun b o hb ho e => by
      obtain ⟨_, o2, ho2, hc2⟩ := hr b e.symm
      rw [hb] at ho2
      cases ho2
      rw [ho] at hc2
      cases hc2
    refine ⟨Bx, h1, (hg.block Bx (lt_of_some h2) (hne Bx _ h2 rfl)).trans h2, ?_, h4⟩
    intro ho
    have hcell : Y.cell? ⟨n0 + 2, 0, none⟩ = X.cell? ⟨n0 + 2, 0, none⟩ := World.cell?_of_block (a := ⟨n0 + 2, 0, none⟩) (hg.block (n0 + 2) (by have := lt_of_some h2; omega) (fun e => by have := (hr _ e.symm).1; omega))
    exact h3 ((own_eq (fun b hb => by simp at hb; subst hb; exact hcell) Bx).1 ho)
  case assign =>
    rintro l pre x W K ⟨v, hs, hfn⟩ hK
    have HS1 := Aside0.mk hs
    have HF1 := Aside0.mk hfn
    have HK := Aside0.mk hK
    clear hs hfn hK
    unfold entryV
    gi_wp2
    have hba : Below W.heap.size W (W.alloc (.cells #[.string x.f0, .int .i64 x.f1.f0, .int .i64 x.f1.f1] 29)) := (Below.refl _ W).alloc (Nat.le_refl _) _
    have hs2 := HS1.out.below hba
    refine HK.out _ _ ((KeepsOthers.alloc _ _).from _) (fun g => KpR.below g hba) ⟨v, hs2, HF1.out⟩ ⟨W.heap.size, (HS1.out.box 2 rfl).lt, heap_alloc_new W _, fun ho => ?_, rfl⟩
    rcases (own_one (hs2.box 2 rfl) _).1 ho with h1 | h1
    · have := (HS1.out.box 2 rfl).lt
      omega
    · have := Row.lt (HS1.out.rowE 3 rfl) _ h1
      omega
  case body =>
    rintro l pre x a' W hl hrr ⟨v, hs, hfn⟩ ⟨Bx, hBx, hX, hno, rfl⟩ hlt
    obtain ⟨A, c, rfl⟩ := (hs.rowE 3 rfl).slice
    have HS1 := Aside0.mk hs
    have HF1 := Aside0.mk hfn
    have HXB := Aside0.mk hX
    have HNO := Aside0.mk hno
    have c0 := (hs.box 0 rfl).cell
    have c1 := (hs.box 1 rfl).cell
    have c2 := (hs.box 2 rfl).cell
    have f2 := (hs.box 2 rfl).frozen
    have x0 : W.cell? ⟨Bx, 0, none⟩ = some (.string x.f0) := (blk_cell hX 0).trans rfl
    have x1 : W.cell? ⟨Bx, 1, none⟩ = some (.int .i64 x.f1.f0) := (blk_cell hX 1).trans rfl
    have x2 : W.cell? ⟨Bx, 2, none⟩ = some (.int .i64 x.f1.f1) := (blk_cell hX 2).trans rfl
    obtain ⟨L, hL⟩ : ∃ L, pre.length = L := ⟨_, rfl⟩
    rw [hL] at c2
    have HL := Aside0.mk hL
    have HLT := Aside0.mk (show L < _ from hL ▸ hlt)
    clear hs hfn hX hno hrr hL hlt
    unfold entryV
    by_cases hm : (L : Int) < most
    · cases hkk : keyLt x.f0 hiK
      · have hk2 : Op.bytesLess x.f0.toList hiK.toList = false := hkk
        have HKK := Aside0.mk hkk
        have hm2 : decide (most ≤ (L : Int)) = false := by simp; omega
        clear hkk
        gi_wp2
        exact ⟨KeepsFrom.refl _ _, rfl, _, pre, x, rfl, HS1.out, HF1.out, fun hh => by rw [HKK.out] at hh; exact absurd hh.2 (by simp)⟩
      · have hk2 : Op.bytesLess x.f0.toList hiK.toList = true := hkk
        have HKK := Aside0.mk hkk
        have hm2 : decide (most ≤ (L : Int)) = false := by simp; omega
        have HSa := Aside0.mk (HS1.out.alloc #[.string x.f0, .int .i64 x.f1.f0, .int .i64 x.f1.f1] 29 rfl)
        have hLb : L < 100000 := by
          have := HLN.out
          have := HLT.out
          omega
        clear hkk
        gi_wp2_with (gi_at_builtin; obtain ⟨g', c', w3, hrun, hrow, hgrow, hown⟩ := appendE _ _ pre x W.heap.size 22 (HSa.out.rowE 3 rfl) (HSa.out.blk 4 rfl) (by rw [HL.out]; omega); rw [HL.out] at hrun hrow hgrow hown; have HSb := Aside0.mk (HSa.out.setE 3 rfl (by rw [HL.out]; exact hgrow) hrow (by rw [HL.out]; exact hown)); have HG := Aside0.mk hgrow; have HO := Aside0.mk hown; refine wpListIn_append_run rfl (.tmp 29) (.tmp 31) 22 22 rfl (.slice A L c) (.slice (some ⟨W.heap.size, 0, none⟩) 1 1) rfl rfl hrun ?_; clear hrun hrow hgrow hown c0 c1 c2 f2 x0 x1 x2; have c2 := (HSb.out.box 2 rfl).cell; have f2 := (HSb.out.box 2 rfl).frozen)
        have hst := HSb.out.putB 2 rfl (.slice (some ⟨g', 0, none⟩) (L + 1) c')
        have hbx1 := HS1.out.box 2 rfl
        rw [HL.out] at hbx1
        have hrw1 : RowE W (.slice A L c) pre := by have := HS1.out.rowE 3 rfl; rw [HL.out] at this; exact this
        have hkeep : Keep W (w3.setCell ⟨n0 + 2, 0, none⟩ (.slice (some ⟨g', 0, none⟩) (L + 1) c')) (Own [n0 + 2] W) :=
          (((Keep.of_below (Below.refl _ W) _).below ((Below.refl _ W).alloc (Nat.le_refl _) (.cells #[.string x.f0, .int .i64 x.f1.f0, .int .i64 x.f1.f1] 29))).grown HG.out (fun b hb => .inl ((own_one hbx1 b).2 (.inr hb)))).cell (p := ⟨n0 + 2, 0, none⟩) (.inl ((own_one hbx1 _).2 (.inl rfl))) _
        have hown : ∀ k, Own [n0 + 2] (w3.setCell ⟨n0 + 2, 0, none⟩ (.slice (some ⟨g', 0, none⟩) (L + 1) c')) k → Own [n0 + 2] W k ∨ W.heap.size ≤ k := fun k hk => by
          rcases (own_one (hst.box 2 rfl) k).1 hk with h1 | h1
          · exact .inl ((own_one hbx1 k).2 (.inl h1))
          · rcases HO.out with h2 | ⟨k2, h2, h3⟩
            · exact .inl ((own_one hbx1 k).2 (.inr (h2 ▸ h1)))
            · rw [h1] at h2
              simp at h2 h3
              exact .inr (by omega)
        have hgood : Good [n0 + 2] (w3.setCell ⟨n0 + 2, 0, none⟩ (.slice (some ⟨g', 0, none⟩) (L + 1) c')) := fun k hk => by
          rcases (own_one (hst.box 2 rfl) k).1 hk with h1 | h1
          · rw [h1]
            exact (hst.box 2 rfl).lt
          · exact Row.lt (hst.rowE 3 rfl) k h1
        refine ⟨keepsFrom_of hkeep (fun k o ho hko => ?_) _, fun _ => KpR.of_keep hkeep hgood hown, _, hst.left, ?_⟩
        · rcases (own_one hbx1 k).1 ho with h1 | h1
          · rw [h1, show W.heap[n0 + 2]? = _ from hbx1] at hko
            cases hko
            rfl
          · obtain ⟨o2, h2, h3⟩ := row_cellsC hrw1 k (bl_mem.2 h1)
            rw [hko] at h2
            cases h2
            exact h3
        · intro j y hj
          rcases Nat.lt_or_ge j pre.length with hjl | hjl
          · rw [List.getElem?_append_left hjl] at hj
            exact HF1.out j y hj
          · rw [List.getElem?_append_right hjl] at hj
            have hj0 : j = pre.length := by
              rcases Nat.eq_or_lt_of_le hjl with h1 | h1
              · exact h1.symm
              · rw [List.getElem?_eq_none (by simp; omega)] at hj
                cases hj
            subst hj0
            simp at hj
            subst hj
            exact ⟨by rw [HL.out]; exact hm, HKK.out⟩
    · have hm2 : decide (most ≤ (L : Int)) = true := by simp; omega
      gi_wp2
      exact ⟨KeepsFrom.refl _ _, rfl, _, pre, x, rfl, HS1.out, HF1.out, fun hh => by rw [HL.out] at hh; omega⟩
  case done =>
    rintro D ys W hD rfl ⟨v, hs, hfn⟩ hK
    have hfin : rng hiK most (bfrom h (abs h m) (lowS frm)) 0 = bfrom h (abs h m) (lowS frm) := rng_all _ _ _ 0 (fun j x hj => by rw [Nat.zero_add]; exact hfn j x hj)
    have HFIN := Aside0.mk hfin
    have HS1 := Aside0.mk hs
    have c2 := (hs.box 2 rfl).cell
    clear hfin hs hfn
    gi_wp2
    refine ⟨by simp, .inl ⟨_, _, rfl, run_takeDeferred hK, ?_⟩⟩
    refine ⟨_, results_tmp rfl _ _ _, ?_⟩
    rw [← HR.out, HFIN.out]
    have hst : St w NoF (W.putObj D (.deferred none)) _ := HS1.out.turned (grownBy_putObj' W D _) (fun r e => by cases e; exact ⟨by omega, _, hK, rfl⟩) (by
      intro c hc
      simp at hc
      rcases hc with rfl | rfl | rfl | rfl
      · exact boxC_cells _ _ _
      · exact boxC_cells _ _ _
      · exact boxC_cells _ _ _
      · exact rowEC_cells _ _)
    exact ⟨v, rfl, St.drop (A := [boxC n0 9 (.string hiK), boxC (n0 + 1) 3 (.int .i64 most), boxC (n0 + 2) 22 v]) hst⟩
  case stop =>
    rintro D c pre W hD hpre ⟨rfl, v, pre', x, rfl, hs, hfn, hstop⟩ hK
    obtain ⟨r, hr⟩ := hpre
    have hfin : rng hiK most (bfrom h (abs h m) (lowS frm)) 0 = pre' := by
      rw [← hr, List.append_assoc]
      exact rng_stop _ _ pre' x r 0 (fun j y hj => by rw [Nat.zero_add]; exact hfn j y hj) (by rw [Nat.zero_add]; exact hstop)
    have HFIN := Aside0.mk hfin
    have HS1 := Aside0.mk hs
    have c2 := (hs.box 2 rfl).cell
    clear hfin hs hfn hr hstop
    gi_wp2
    refine ⟨by simp, .inl ⟨_, _, rfl, run_takeDeferred hK, ?_⟩⟩
    refine ⟨_, results_tmp rfl _ _ _, ?_⟩
    rw [← HR.out, HFIN.out]
    have hst : St w NoF (W.putObj D (.deferred none)) _ := HS1.out.turned (grownBy_putObj' W D _) (fun r e => by cases e; exact ⟨by omega, _, hK, rfl⟩) (by
      intro c hc
      simp at hc
      rcases hc with rfl | rfl | rfl | rfl
      · exact boxC_cells _ _ _
      · exact boxC_cells _ _ _
      · exact boxC_cells _ _ _
      · exact rowEC_cells _ _)
    exact ⟨v, rfl, St.drop (A := [boxC n0 9 (.string hiK), boxC (n0 + 1) 3 (.int .i64 most), boxC (n0 + 2) 22 v]) hst⟩
end Go.Proofs.Bt
end
section
namespace Go.Proofs.Bt
open Go Go.RowKit Go.Proofs.Ytjaddmflopahiaa.Q Go.Proofs.YtjaddmflopahiaaW.PrintWords Go.Proofs.YtjaddmflopahiaaW.PrintLast Go.Proofs.YtjaddmflopahiaaW.PrintMore
set_option linter.unusedVariables false
set_option linter.unusedSimpArgs false
set_option maxRecDepth 100000
attribute [local go_sem] Oper.semAt_some
set_option maxHeartbeats 4000000 in
theorem appendSeq_calls (w : World) (X1 h : Nat) (m : MT h) (e : S29) (hX1 : w.heap[X1]? = some (.cells #[.pointer (some ⟨ptr h m, 0, none⟩)] 59 (0, 0))) (hX2 : w.heap[X1 + 1]? = some (boxE e)) (hok : Ok w h m) (hf : Fit e h (abs h m)) (hlen : (bfrom h (abs h m) e).length < 90000) :
    Calls Try.prog 51 #[.slice none 0 0, .func (.func 52) #[] #[.pointer (some ⟨X1, 0, none⟩), .pointer (some ⟨X1 + 1, 0, none⟩)]] w (RangePost w (bfrom h (abs h m) e)) := by
  have hu29 := Try.underlying29
  obtain ⟨R, hR⟩ : ∃ R, RangePost w (bfrom h (abs h m) e) = R := ⟨_, rfl⟩
  rw [hR]
  have HR := Aside0.mk hR
  obtain ⟨n0, hn0⟩ : ∃ n, w.heap.size = n := ⟨_, rfl⟩
  have s1 := (St.none w NoF).boxed 22 (.slice none 0 0) hn0
  obtain ⟨W4, hW4⟩ : ∃ W, w.alloc (.cells #[.slice none 0 0] 22) = W := ⟨_, rfl⟩
  rw [hW4] at s1
  have HS4 := Aside0.mk (show St w NoF W4 [boxC n0 22 (.slice none 0 0)] from s1)
  have HOK := Aside0.mk hok
  have HFT := Aside0.mk hf
  have HLN := Aside0.mk hlen
  have HN0 := Aside0.mk hn0
  have HX1 := Aside0.mk (blk_below hX1 (keep_below HS4.out.keep))
  have HX2 := Aside0.mk (blk_below hX2 (keep_below HS4.out.keep))
  have hs4 : W4.heap.size = n0 + 1 := by rw [← hW4]; simp [hn0]
  clear hR s1 hok hf hlen hX1 hX2
  refine (callsIn_wide (n := 5)).1 ?_
  refine callsIn_of_wp_marks Try.func51 rfl trivial ?_ rfl
  simp only [Try.ntmps51, List.size_toArray, List.length_cons, List.length_nil, Nat.reduceAdd, Nat.reduceSub, Array.replicate_succ, Array.replicate_zero, List.push_toArray, List.append_toArray, List.nil_append, List.cons_append]
  gi_wp2
  have hbx : Boxed W4 n0 22 (.slice none 0 0) := HS4.out.box 0 rfl
  have hg4 : Good [n0] W4 := fun k hk => by
    rcases (own_one hbx k).1 hk with rfl | hk
    · exact hbx.lt
    · simp [Value.ownBlock] at hk
  have hOK4 : Ok W4 h m := HOK.out.below (keep_below HS4.out.keep)
  have hfp4 : ∀ a ∈ fp h m, ¬ Own [n0] W4 a := fun a ha ho => by
    have h1 := HOK.out.lt a ha
    rw [HN0.out] at h1
    rcases (own_one hbx a).1 ho with h2 | h2
    · omega
    · simp [Value.ownBlock] at h2
  clear hW4 hn0
  refine wpIn_rangeFunc_ownH (n := 5) (F := Fence.wide) (w := W4) rfl (by decide) (gf := 52) (lb := #[.pointer (some ⟨X1, 0, none⟩), .pointer (some ⟨X1 + 1, 0, none⟩)]) rfl trivial (enters_of Try.func52 (by kernel_rfl) rfl)
    (from_stops 4 [n0] X1 (X1 + 1) h m e W4 HX1.out HX2.out hOK4 hfp4 hg4 HFT.out) Kp.t (fun W l o o' hl h hc _ => Kp.b1 (W0 := W4) (by intro b hb; simp at hb; omega) W l o o' hl h hc) (Below.refl _ _) (fun _ => rfl)
    (fun pre W => ∃ v, St w NoF W [boxC n0 22 v, rowEC v pre])
    (fun _ _ _ => False)
    ?hI (fun _ _ _ _ _ hs _ _ => hs) ?h0
    (fun x a' W => ∃ Bx, n0 < Bx ∧ W.heap[Bx]? = some (boxE x) ∧ ¬ Own [n0] W Bx ∧ a' = { tmps := #[.slice none 0 0, .func (.func 52) #[] #[.pointer (some ⟨X1, 0, none⟩), .pointer (some ⟨X1 + 1, 0, none⟩)], .pointer (some ⟨n0, 0, none⟩), undef, .slice none 0 0, .pointer (some ⟨Bx, 0, none⟩), .func (.func 52) #[] #[.pointer (some ⟨X1, 0, none⟩), .pointer (some ⟨X1 + 1, 0, none⟩)], entryV x, undef, undef, undef, undef, undef], defers := [] })
    ?hAx ?assign ?body ?done ?stop
  case hI =>
    rintro s X Y row ⟨v, hs⟩ hg hr
    exact ⟨v, hs.turned hg (fun r e => ⟨by have := (hr r e).1; have := HN0.out; omega, (hr r e).2⟩) (by
      intro c hc
      simp at hc
      rcases hc with rfl | rfl
      · exact boxC_cells _ _ _
      · exact rowEC_cells _ _)⟩
  case h0 =>
    refine ⟨.slice none 0 0, ?_⟩
    exact (HS4.out.fresh (Below.refl _ _) (rowEC (.slice none 0 0) []) (Row.nil _ _ _) (by intro x; simp [rowEC, bl, Value.ownBlock]) (by intro x hx; simp [rowEC, bl, Value.ownBlock] at hx)).perm (List.Perm.swap _ _ _)
  case hAx =>
    rintro x a' _ X Y row ⟨Bx, h1, h2, h3, h4⟩ hg hr
    have hne : ∀ b o, X.heap[b]? = some o → o.isCells = true → some b ≠ row := fun b o hb ho e => by
      obtain ⟨_, o2, ho2, hc2⟩ := hr b e.symm
      rw [hb] at ho2
      cases ho2
      rw [ho] at hc2
      cases hc2
    refine ⟨Bx, h1, (hg.block Bx (lt_of_some h2) (hne Bx _ h2 rfl)).trans h2, ?_, h4⟩
    intro ho
    have hcell : Y.cell? ⟨n0, 0, none⟩ = X.cell? ⟨n0, 0, none⟩ := World.cell?_of_block (a := ⟨n0, 0, none⟩) (hg.block n0 (by have := lt_of_some h2; omega) (fun e => by have := (hr _ e.symm).1; omega))
    exact h3 ((own_eq (fun b hb => by simp at hb; subst hb; exact hcell) Bx).1 ho)
  case assign =>
    rintro l pre x W K ⟨v, hs⟩ hK
    have HS1 := Aside0.mk hs
    have HK := Aside0.mk hK
    clear hs hK
    unfold entryV
    gi_wp2
    have hba : Below W.heap.size W (W.alloc (.cells #[.string x.f0, .int .i64 x.f1.f0, .int .i64 x.f1.f1] 29)) := (Below.refl _ W).alloc (Nat.le_refl _) _
    have hs2 := HS1.out.below hba
    refine HK.out _ _ ((KeepsOthers.alloc _ _).from _) (fun g => KpR.below g hba) ⟨v, hs2⟩ ⟨W.heap.size, (HS1.out.box 0 rfl).lt, heap_alloc_new W _, fun ho => ?_, rfl⟩
    rcases (own_one (hs2.box 0 rfl) _).1 ho with h1 | h1
    · have := (HS1.out.box 0 rfl).lt
      omega
    · have := Row.lt (HS1.out.rowE 1 rfl) _ h1
      omega
  case body =>
    rintro l pre x a' W hl hrr ⟨v, hs⟩ ⟨Bx, hBx, hX, hno, rfl⟩ hlt
    obtain ⟨A, c, rfl⟩ := (hs.rowE 1 rfl).slice
    have HS1 := Aside0.mk hs
    have HXB := Aside0.mk hX
    have c2 := (hs.box 0 rfl).cell
    have f2 := (hs.box 0 rfl).frozen
    have x0 : W.cell? ⟨Bx, 0, none⟩ = some (.string x.f0) := (blk_cell hX 0).trans rfl
    have x1 : W.cell? ⟨Bx, 1, none⟩ = some (.int .i64 x.f1.f0) := (blk_cell hX 1).trans rfl
    have x2 : W.cell? ⟨Bx, 2, none⟩ = some (.int .i64 x.f1.f1) := (blk_cell hX 2).trans rfl
    obtain ⟨L, hL⟩ : ∃ L, pre.length = L := ⟨_, rfl⟩
    rw [hL] at c2
    have HL := Aside0.mk hL
    have HLT := Aside0.mk (show L < _ from hL ▸ hlt)
    have HSa := Aside0.mk (HS1.out.alloc #[.string x.f0, .int .i64 x.f1.f0, .int .i64 x.f1.f1] 29 rfl)
    have hLb : L < 100000 := by
      have := HLN.out
      have := HLT.out
      omega
    clear hs hX hno hrr hL hlt
    unfold entryV
    gi_wp2_with (gi_at_builtin; obtain ⟨g', c', w3, hrun, hrow, hgrow, hown⟩ := appendE _ _ pre x W.heap.size 22 (HSa.out.rowE 1 rfl) (HSa.out.blk 2 rfl) (by rw [HL.out]; omega); rw [HL.out] at hrun hrow hgrow hown; have HSb := Aside0.mk (HSa.out.setE 1 rfl (by rw [HL.out]; exact hgrow) hrow (by rw [HL.out]; exact hown)); have HG := Aside0.mk hgrow; have HO := Aside0.mk hown; refine wpListIn_append_run rfl (.tmp 8) (.tmp 10) 22 22 rfl (.slice A L c) (.slice (some ⟨W.heap.size, 0, none⟩) 1 1) rfl rfl hrun ?_; clear hrun hrow hgrow hown c2 f2 x0 x1 x2; have c2 := (HSb.out.box 0 rfl).cell; have f2 := (HSb.out.box 0 rfl).frozen)
    have hst := HSb.out.putB 0 rfl (.slice (some ⟨g', 0, none⟩) (L + 1) c')
    have hbx1 := HS1.out.box 0 rfl
    rw [HL.out] at hbx1
    have hrw1 : RowE W (.slice A L c) pre := by have := HS1.out.rowE 1 rfl; rw [HL.out] at this; exact this
    have hkeep : Keep W (w3.setCell ⟨n0, 0, none⟩ (.slice (some ⟨g', 0, none⟩) (L + 1) c')) (Own [n0] W) :=
      (((Keep.of_below (Below.refl _ W) _).below ((Below.refl _ W).alloc (Nat.le_refl _) (.cells #[.string x.f0, .int .i64 x.f1.f0, .int .i64 x.f1.f1] 29))).grown HG.out (fun b hb => .inl ((own_one hbx1 b).2 (.inr hb)))).cell (p := ⟨n0, 0, none⟩) (.inl ((own_one hbx1 _).2 (.inl rfl))) _
    have hown : ∀ k, Own [n0] (w3.setCell ⟨n0, 0, none⟩ (.slice (some ⟨g', 0, none⟩) (L + 1) c')) k → Own [n0] W k ∨ W.heap.size ≤ k := fun k hk => by
      rcases (own_one (hst.box 0 rfl) k).1 hk with h1 | h1
      · exact .inl ((own_one hbx1 k).2 (.inl h1))
      · rcases HO.out with h2 | ⟨k2, h2, h3⟩
        · exact .inl ((own_one hbx1 k).2 (.inr (h2 ▸ h1)))
        · rw [h1] at h2
          simp at h2 h3
          exact .inr (by omega)
    have hgood : Good [n0] (w3.setCell ⟨n0, 0, none⟩ (.slice (some ⟨g', 0, none⟩) (L + 1) c')) := fun k hk => by
      rcases (own_one (hst.box 0 rfl) k).1 hk with h1 | h1
      · rw [h1]
        exact (hst.box 0 rfl).lt
      · exact Row.lt (hst.rowE 1 rfl) k h1
    refine ⟨keepsFrom_of hkeep (fun k o ho hko => ?_) _, fun _ => KpR.of_keep hkeep hgood hown, _, hst.left⟩
    rcases (own_one hbx1 k).1 ho with h1 | h1
    · rw [h1, show W.heap[n0]? = _ from hbx1] at hko
      cases hko
      rfl
    · obtain ⟨o2, h2, h3⟩ := row_cellsC hrw1 k (bl_mem.2 h1)
      rw [hko] at h2
      cases h2
      exact h3
  case done =>
    rintro D ys W hD rfl ⟨v, hs⟩ hK
    have HS1 := Aside0.mk hs
    have c2 := (hs.box 0 rfl).cell
    clear hs
    gi_wp2
    refine ⟨by simp, .inl ⟨_, _, rfl, run_takeDeferred hK, ?_⟩⟩
    refine ⟨_, results_tmp rfl _ _ _, ?_⟩
    rw [← HR.out]
    have hst : St w NoF (W.putObj D (.deferred none)) _ := HS1.out.turned (grownBy_putObj' W D _) (fun r e => by cases e; exact ⟨by have := HN0.out; omega, _, hK, rfl⟩) (by
      intro c hc
      simp at hc
      rcases hc with rfl | rfl
      · exact boxC_cells _ _ _
      · exact rowEC_cells _ _)
    exact ⟨v, rfl, St.drop (A := [boxC n0 22 v]) hst⟩
  case stop =>
    rintro D c pre W _ _ hh _
    exact hh.elim
theorem collect_calls (w : World) (X1 h : Nat) (m : MT h) (e : S29) (hX1 : w.heap[X1]? = some (.cells #[.pointer (some ⟨ptr h m, 0, none⟩)] 59 (0, 0))) (hX2 : w.heap[X1 + 1]? = some (boxE e)) (hok : Ok w h m) (hf : Fit e h (abs h m)) (hlen : (bfrom h (abs h m) e).length < 90000) :
    Calls Try.prog 31 #[.func (.func 52) #[] #[.pointer (some ⟨X1, 0, none⟩), .pointer (some ⟨X1 + 1, 0, none⟩)]] w (RangePost w (bfrom h (abs h m) e)) := by
  have HA := Aside0.mk (appendSeq_calls w X1 h m e hX1 hX2 hok hf hlen)
  obtain ⟨R, hR⟩ : ∃ R, RangePost w (bfrom h (abs h m) e) = R := ⟨_, rfl⟩
  rw [hR]
  have HR := Aside0.mk hR
  clear hX1 hX2 hok hf hlen hR
  go_enter Try.func31, Try.ntmps31
  go_wp2_with (go_at_call 51; refine HA.out.mono ?_; rintro E w' ⟨v, rfl, hs⟩)
  first | (rw [← HR.out]) | (go_ret; rw [← HR.out])
  exact ⟨v, rfl, hs⟩
set_option maxHeartbeats 4000000 in
theorem all_calls (w : World) (tp h : Nat) (m : MT h) (cnt : Int) (hT : TreeAt w tp (ptr h m) cnt) (hok : Ok w h m) (hf : Fit (lowS ⟨#[]⟩) h (abs h m)) (hlen : (bfrom h (abs h m) (lowS ⟨#[]⟩)).length < 90000) :
    Calls Try.prog 18 #[.pointer (some ⟨tp, 0, none⟩)] w (RangePost w (bfrom h (abs h m) (lowS ⟨#[]⟩))) := by
  have mixed : Try.prog.follows Departure.mixedOrders = true := by kernel_rfl
  have hu64 := Try.underlying64
  obtain ⟨R, hR⟩ : ∃ R, RangePost w (bfrom h (abs h m) (lowS ⟨#[]⟩)) = R := ⟨_, rfl⟩
  rw [hR]
  have HR := Aside0.mk hR
  have HT3 := Aside0.mk hT
  have HOK := Aside0.mk hok
  have HFT := Aside0.mk hf
  have HLN := Aside0.mk hlen
  clear hR hT hok hf hlen
  go_enter Try.func18, Try.ntmps18
  go_wp2
  refine start_ (n := 8) (S := fun w' => w'.cell? ⟨tp, 0, none⟩ = some (.pointer (some ⟨ptr h m, 0, none⟩))) (ds := []) #[false, false, false, false, false, false, false, false] (by kernel_rfl) rfl rfl HT3.out.c0 (fun hHeld => ?_)
  refine pure_ (i := 0) (N := (some 3)) (v := ?_) (a' := ?_) #[true, false, false, false, false, false, false, false] rfl rfl (by kernel_rfl) (fun _ _ _ h => h) (Or.inl ⟨by rfl, ?_⟩) ?_ ?_
  rotate_left
  · intro w'
    go_simp
    with_reducible rfl
  rotate_left
  · simp only [Act.put, List.setIfInBounds_toArray, List.set_cons_zero, List.set_cons_succ, i64_w, i32_w]
    rfl
  refine pure_ (i := 1) (N := (some 4)) (v := ?_) (a' := ?_) #[true, true, false, false, false, false, false, false] rfl rfl (by kernel_rfl) (fun _ _ _ h => h) (Or.inl ⟨by rfl, ?_⟩) ?_ ?_
  rotate_left
  · intro w'
    go_simp
    with_reducible rfl
  rotate_left
  · simp only [Act.put, List.setIfInBounds_toArray, List.set_cons_zero, List.set_cons_succ, i64_w, i32_w]
    rfl
  refine pure_ (i := 2) (N := (some 5)) (v := ?_) (a' := ?_) #[true, true, true, false, false, false, false, false] rfl rfl (by kernel_rfl) (fun _ _ _ h => h) (Or.inl ⟨by rfl, ?_⟩) ?_ ?_
  rotate_left
  · intro w'
    go_simp
    with_reducible rfl
  rotate_left
  · simp only [Act.put, List.setIfInBounds_toArray, List.set_cons_zero, List.set_cons_succ, i64_w, i32_w]
    rfl
  refine take_ (i := 3) (N := (some 6)) (v := ?_) (a' := ?_) #[true, true, true, true, false, false, false, false] rfl rfl (by kernel_rfl) (fun _ _ _ h => h) (Or.inl ⟨by rfl, ?_⟩) hHeld ?_ ?_
  rotate_left
  · rintro w' s0
    go_simp
    with_reducible rfl
  rotate_left
  · simp only [Act.put, List.setIfInBounds_toArray, List.set_cons_zero, List.set_cons_succ, i64_w, i32_w]
    rfl
  refine one_ (i := 4) (N := (some 7)) #[true, true, true, true, true, false, false, false] rfl rfl (by kernel_rfl) (by decide) (fun K_ hK => ?_)
  refine goes_ Try.func33 (by kernel_rfl) rfl #[.string ⟨#[]⟩] (by rfl) rfl rfl (by (try simp only [List.map_toArray, List.map_cons, List.map_nil]); first | done | rfl) ?_
  refine (lowest_calls _ ⟨#[]⟩).mono ?_
  rintro E w2 ⟨rfl, hb⟩
  have HB2 := Aside0.mk (show Below w.heap.size w w2 from (⟨rfl, rfl, rfl, Nat.le_refl _, fun _ _ => rfl⟩ : Below w.heap.size w w.drew).trans hb)
  refine ⟨_, rfl, ?_⟩
  clear hHeld hb
  refine hK.out _ _ (show TreeAt w2 _ _ _ from blk_below HT3.out HB2.out).c0 (fun hHeld => ?_)
  clear hK K_
  unfold entryV
  refine norm_ (a' := ?_) ?_ ?_
  rotate_left
  · show Act.put _ (some 7) _ = _
    simp only [Act.put, List.setIfInBounds_toArray, List.set_cons_zero, List.set_cons_succ, i64_w, i32_w]
    rfl
  refine one_ (i := 5) (N := (some 8)) #[true, true, true, true, true, true, false, false] rfl rfl (by kernel_rfl) (by decide) (fun K_ hK => ?_)
  refine goes_ Try.func32 (by kernel_rfl) rfl #[.pointer (some ⟨ptr h m, 0, none⟩), entryV (lowS ⟨#[]⟩)] (by rfl) rfl rfl (by (try simp only [List.map_toArray, List.map_cons, List.map_nil]); first | done | rfl) ?_
  refine (from_calls _ _ _).mono ?_
  rintro E W4 ⟨rfl, hw4⟩
  have hb4 : Below w2.heap.size w2 W4 := by rw [hw4]; exact ((Below.refl _ w2).alloc (Nat.le_refl _) _).alloc (by simp) _
  have HX1 := Aside0.mk (show W4.heap[w2.heap.size]? = some (.cells #[.pointer (some ⟨ptr h m, 0, none⟩)] 59 (0, 0)) by rw [hw4]; exact blk_alloc (blk_new w2 _) _)
  have HX2 := Aside0.mk (show W4.heap[w2.heap.size + 1]? = some (boxE (lowS ⟨#[]⟩)) by rw [hw4]; have := blk_new (w2.alloc (.cells #[.pointer (some ⟨ptr h m, 0, none⟩)] 59)) (boxE (lowS ⟨#[]⟩)); rwa [World.size_alloc] at this)
  have HB4 := Aside0.mk (HB2.out.trans (hb4.mono HB2.out.size))
  refine ⟨_, rfl, ?_⟩
  clear hHeld hb4 hw4
  refine hK.out _ _ (show TreeAt W4 _ _ _ from blk_below HT3.out HB4.out).c0 (fun hHeld => ?_)
  clear hK K_
  refine norm_ (a' := ?_) ?_ ?_
  rotate_left
  · show Act.put _ (some 8) _ = _
    simp only [Act.put, List.setIfInBounds_toArray, List.set_cons_zero, List.set_cons_succ, i64_w, i32_w]
    rfl
  refine one_ (i := 6) (N := (some 9)) #[true, true, true, true, true, true, true, false] rfl rfl (by kernel_rfl) (by decide) (fun K_ hK => ?_)
  refine goes_ Try.func31 (by kernel_rfl) rfl #[.func (.func 52) #[] #[.pointer (some ⟨w2.heap.size, 0, none⟩), .pointer (some ⟨w2.heap.size + 1, 0, none⟩)]] (by rfl) rfl rfl (by (try simp only [List.map_toArray, List.map_cons, List.map_nil]); first | done | rfl) ?_
  refine (collect_calls W4 w2.heap.size h m (lowS ⟨#[]⟩) HX1.out HX2.out (HOK.out.below HB4.out) HFT.out HLN.out).mono ?_
  rintro E W5 ⟨v, rfl, hs⟩
  have HS5 := Aside0.mk hs
  have HB5 := Aside0.mk (HB4.out.trans ((keep_below hs.keep).mono HB4.out.size))
  refine ⟨_, rfl, ?_⟩
  clear hHeld hs
  refine hK.out _ _ (show TreeAt W5 _ _ _ from blk_below HT3.out HB5.out).c0 (fun hHeld => ?_)
  clear hK K_
  refine norm_ (a' := ?_) ?_ ?_
  rotate_left
  · show Act.put _ (some 9) _ = _
    simp only [Act.put, List.setIfInBounds_toArray, List.set_cons_zero, List.set_cons_succ, i64_w, i32_w]
    rfl
  refine pure_ (i := 7) (N := (some 2)) (v := ?_) (a' := ?_) #[true, true, true, true, true, true, true, true] rfl rfl (by kernel_rfl) (fun _ _ _ h => h) (Or.inl ⟨by rfl, ?_⟩) ?_ ?_
  rotate_left
  · intro w'
    go_simp
    with_reducible rfl
  rotate_left
  · simp only [Act.put, List.setIfInBounds_toArray, List.set_cons_zero, List.set_cons_succ, i64_w, i32_w]
    rfl
  refine done_ (by kernel_rfl) ?_
  go_wp2
  first | (rw [← HR.out]) | (go_ret; rw [← HR.out])
  refine ⟨v, rfl, ?_⟩
  have hs := HS5.out
  exact ⟨Keep.of_below HB5.out _, hs.h, hs.nd, fun b hb => (hs.own b hb).imp id (fun h1 => Nat.le_trans HB4.out.size h1)⟩
end Go.Proofs.Bt
end
section
namespace Go.Proofs.Bt
open Go Go.RowKit Go.Proofs.Ytjaddmflopahiaa.Q Go.Proofs.YtjaddmflopahiaaW.PrintWords Go.Proofs.YtjaddmflopahiaaW.PrintLast Go.Proofs.YtjaddmflopahiaaW.PrintMore
set_option linter.unusedVariables false
set_option linter.unusedSimpArgs false
set_option maxRecDepth 100000
attribute [local go_sem] Oper.semAt_some
abbrev S27 := Go.Proofs.Ytjaddmflopahiaa.Q.S27
def encR (x : S27) : List Value := [.int .i64 x.f0, .int .i64 x.f1]
def encRs (l : List S27) : List Value := l.flatMap encR
def RowR (w : World) (v : Value) (l : List S27) : Prop := Row w 27 2 v l.length (encRs l)
section
variable {w0 w w' : World} {F : Nat → Prop} {cs : List Chunk}
end
theorem RowR.slice {w : World} {v : Value} {l : List S27} (h : RowR w v l) : ∃ A c, v = .slice A l.length c := by
  rcases h.2.2 with ⟨rfl, h0⟩ | ⟨g, cap, cur, rfl, _⟩
  · exact ⟨none, 0, by rw [h0]⟩
  · exact ⟨_, _, rfl⟩
end Go.Proofs.Bt
end
section
namespace Go.Proofs.Ytjaddmflopahiaa.Q
open Go.RowKit Go.Proofs.YtjaddmflopahiaaW.PrintWords Go.Proofs.YtjaddmflopahiaaW.PrintLast Go.Proofs.YtjaddmflopahiaaW.PrintMore
attribute [local go_sem] max2_int min2_int max_two min_two max_three min_three max_four min_four
set_option linter.unusedVariables false
set_option linter.unusedSimpArgs false
theorem eqA27 (d : Nat) (w : World) (x0 y0 : Int) (x1 y1 : Int) :
    (Op.equalIn (d + 2) 27 (.agg #[.int .i64 x0, .int .i64 x1]) (.agg #[.int .i64 y0, .int .i64 y1])).run Try.prog w = .ok (x0 == y0 && (x1 == y1)) w := by
  refine eqA_of Try.underlying27 (by kernel_rfl) ?_
  refine eqf_cons (by rfl) (by go_simp; rfl) (by go_simp; rfl) (by go_simp) ?_
  exact eqf_last (by rfl) (by go_simp; rfl) (by go_simp; rfl) (by go_simp)
end Go.Proofs.Ytjaddmflopahiaa.Q
end
section
namespace Go.Proofs.Ytjaddmflopahiaa.Q
open Go.RowKit Go.Proofs.YtjaddmflopahiaaW.PrintWords Go.Proofs.YtjaddmflopahiaaW.PrintLast Go.Proofs.YtjaddmflopahiaaW.PrintMore
attribute [local go_sem] max2_int min2_int max_two min_two max_three min_three max_four min_four
set_option linter.unusedVariables false
set_option linter.unusedSimpArgs false
theorem eqA29 (d : Nat) (w : World) (x0 y0 : ByteArray) (x1 y1 : Int) (x2 y2 : Int) :
    (Op.equalIn (d + 3) 29 (.agg #[.string x0, .int .i64 x1, .int .i64 x2]) (.agg #[.string y0, .int .i64 y1, .int .i64 y2])).run Try.prog w = .ok (x0.toList == y0.toList && ((x1 == y1 && (x2 == y2)))) w := by
  refine eqA_of Try.underlying29 (by kernel_rfl) ?_
  refine eqf_cons (by rfl) (by go_simp; rfl) (by go_simp; rfl) (by go_simp) ?_
  exact eqf_last (by rfl) (by go_simp) (by go_simp) (eqA27 (d + 0) w _ _ _ _)
end Go.Proofs.Ytjaddmflopahiaa.Q
end
section
namespace Go.Proofs.Bt
open Go Go.RowKit Go.Proofs.Ytjaddmflopahiaa.Q Go.Proofs.YtjaddmflopahiaaW.PrintWords Go.Proofs.YtjaddmflopahiaaW.PrintLast Go.Proofs.YtjaddmflopahiaaW.PrintMore
set_option linter.unusedVariables false
set_option linter.unusedSimpArgs false
set_option maxRecDepth 100000
attribute [local go_sem] Oper.semAt_some eqA29
def hasL (e : S29) : List S29 → Bool
  | [] => false
  | x :: _ => (x.f0.toList == e.f0.toList && ((x.f1.f0 == e.f1.f0 && (x.f1.f1 == e.f1.f1))))
def hasB (n0 : Nat) (e : S29) (f : Bool) : List Chunk := [blkC n0 (boxE e), boxC (n0 + 1) 4 (.bool f)]
def HasPost (w : World) (r : Bool) (E : Ending) (w' : World) : Prop := E = .returned (.bool r) ∧ Below w.heap.size w w'
def HsI (w W : World) (n0 : Nat) (e : S29) (pre : List S29) : Prop := pre = [] ∧ ∃ f, St w NoF W (hasB n0 e f)
def HsX (w W : World) (n0 : Nat) (e : S29) (pre : List S29) : Prop := ∃ x, pre = [x] ∧ St w NoF W (hasB n0 e (hasL e [x]))
theorem blkC_cells (b : Nat) (C : Array Value) (t : TypeId) (fr : Nat × Nat) : CellsC (blkC b (.cells C t fr)) := fun w h x hx => by
  simp [blkC] at hx
  subst hx
  exact ⟨_, h, rfl⟩
theorem has_cells {n0 : Nat} {e : S29} {f : Bool} : ∀ c ∈ hasB n0 e f, CellsC c := by
  intro c hc
  simp [hasB] at hc
  rcases hc with rfl | rfl
  · exact blkC_cells _ _ _ _
  · exact boxC_cells _ _ _
theorem has_results {W : World} {n0 : Nat} {f : Bool} (h1 : Boxed W (n0 + 1) 4 (.bool f)) (tmps : Array Value) (t4 : tmps.getD 4 undef = .pointer (some ⟨n0 + 1, 0, none⟩)) :
    (results Try.f20 tmps).run Try.prog W = .ok (.bool f) W := by
  have c1 := h1.cell
  have t4' : tmps[4]?.getD undef = .pointer (some ⟨n0 + 1, 0, none⟩) := by simpa using t4
  simp [results, Try.results20, t4', asAddr, loadVar, run_underlying Try.underlying4, go_sem, c1]
set_option maxHeartbeats 4000000 in
theorem has_calls (w : World) (tp h : Nat) (m : MT h) (cnt : Int) (e : S29) (hT : TreeAt w tp (ptr h m) cnt) (hok : Ok w h m) (hf : Fit e h (abs h m)) :
    Calls Try.prog 20 #[.pointer (some ⟨tp, 0, none⟩), entryV e] w (HasPost w (hasL e (bfrom h (abs h m) e))) := by
  have mixed : Try.prog.follows Departure.mixedOrders = true := by kernel_rfl
  have hu29 := Try.underlying29
  have hu64 := Try.underlying64
  obtain ⟨R, hR⟩ : ∃ R, HasPost w (hasL e (bfrom h (abs h m) e)) = R := ⟨_, rfl⟩
  rw [hR]
  have HR := Aside0.mk hR
  obtain ⟨n0, hn0⟩ : ∃ n, w.heap.size = n := ⟨_, rfl⟩
  have s1 : St w NoF (w.alloc (boxE e)) [blkC n0 (boxE e)] := (St.none w NoF).alloc #[.string e.f0, .int .i64 e.f1.f0, .int .i64 e.f1.f1] 29 hn0
  have s3 := s1.boxed 4 (.bool false) (n := n0 + 1) (by simp [hn0])
  obtain ⟨W3, hW3⟩ : ∃ W, (w.alloc (.cells #[.string e.f0, .int .i64 e.f1.f0, .int .i64 e.f1.f1] 29)).alloc (.cells #[.bool false] 4) = W := ⟨_, rfl⟩
  have HS := Aside0.mk (show St w NoF W3 (hasB n0 e false) from hW3 ▸ s3)
  have HTA := Aside0.mk hT
  have HOK := Aside0.mk hok
  have HFT := Aside0.mk hf
  have HN0 := Aside0.mk hn0
  have HT3 := Aside0.mk (show TreeAt W3 _ _ _ from blk_below hT (keep_below HS.out.keep))
  have hs3 : n0 + 2 ≤ W3.heap.size := (HS.out.box 1 rfl).lt
  clear hR s1 s3 hT hok hf
  refine (callsIn_wide (n := 5)).1 ?_
  refine callsIn_of_wp_marks Try.func20 rfl trivial ?_ rfl
  unfold entryV
  simp only [Try.ntmps20, List.size_toArray, List.length_cons, List.length_nil, Nat.reduceAdd, Nat.reduceSub, Array.replicate_succ, Array.replicate_zero, List.push_toArray, List.append_toArray, List.nil_append, List.cons_append]
  gi_wp2
  refine wpIn_wide.2 (wp_norm ?_)
  refine start_ (n := 6) (S := fun w' => w'.cell? ⟨tp, 0, none⟩ = some (.pointer (some ⟨ptr h m, 0, none⟩)) ∧ w'.cell? ⟨n0, 0, none⟩ = some (.string e.f0) ∧ w'.cell? ⟨n0, 1, none⟩ = some (.int .i64 e.f1.f0) ∧ w'.cell? ⟨n0, 2, none⟩ = some (.int .i64 e.f1.f1)) (ds := []) #[false, false, false, false, false, false] (by kernel_rfl) rfl rfl ⟨HT3.out.c0, (blk_cell (HS.out.blk 0 rfl) 0).trans rfl, (blk_cell (HS.out.blk 0 rfl) 1).trans rfl, (blk_cell (HS.out.blk 0 rfl) 2).trans rfl⟩ (fun hHeld => ?_)
  refine pure_ (i := 0) (N := (some 6)) (v := ?_) (a' := ?_) #[true, false, false, false, false, false] rfl rfl (by kernel_rfl) (fun _ _ _ h => h) (Or.inl ⟨by rfl, ?_⟩) ?_ ?_
  rotate_left
  · intro w'
    go_simp
    with_reducible rfl
  rotate_left
  · simp only [Act.put, List.setIfInBounds_toArray, List.set_cons_zero, List.set_cons_succ, i64_w, i32_w]
    rfl
  refine pure_ (i := 1) (N := (some 7)) (v := ?_) (a' := ?_) #[true, true, false, false, false, false] rfl rfl (by kernel_rfl) (fun _ _ _ h => h) (Or.inl ⟨by rfl, ?_⟩) ?_ ?_
  rotate_left
  · intro w'
    go_simp
    with_reducible rfl
  rotate_left
  · simp only [Act.put, List.setIfInBounds_toArray, List.set_cons_zero, List.set_cons_succ, i64_w, i32_w]
    rfl
  refine pure_ (i := 2) (N := (some 8)) (v := ?_) (a' := ?_) #[true, true, true, false, false, false] rfl rfl (by kernel_rfl) (fun _ _ _ h => h) (Or.inl ⟨by rfl, ?_⟩) ?_ ?_
  rotate_left
  · intro w'
    go_simp
    with_reducible rfl
  rotate_left
  · simp only [Act.put, List.setIfInBounds_toArray, List.set_cons_zero, List.set_cons_succ, i64_w, i32_w]
    rfl
  refine take_ (i := 3) (N := (some 9)) (v := ?_) (a' := ?_) #[true, true, true, true, false, false] rfl rfl (by kernel_rfl) (fun _ _ _ h => h) (Or.inl ⟨by rfl, ?_⟩) hHeld ?_ ?_
  rotate_left
  · rintro w' ⟨s0, s1, s2, s3⟩
    go_simp
    with_reducible rfl
  rotate_left
  · simp only [Act.put, List.setIfInBounds_toArray, List.set_cons_zero, List.set_cons_succ, i64_w, i32_w]
    rfl
  refine take_ (i := 4) (N := (some 10)) (v := ?_) (a' := ?_) #[true, true, true, true, true, false] rfl rfl (by kernel_rfl) (fun _ _ _ h => h) (Or.inl ⟨by rfl, ?_⟩) hHeld ?_ ?_
  rotate_left
  · rintro w' ⟨s0, s1, s2, s3⟩
    go_simp
    with_reducible rfl
  rotate_left
  · simp only [Act.put, List.setIfInBounds_toArray, List.set_cons_zero, List.set_cons_succ, i64_w, i32_w]
    rfl
  refine one_ (i := 5) (N := (some 11)) #[true, true, true, true, true, true] rfl rfl (by kernel_rfl) (by decide) (fun K_ hK => ?_)
  refine goes_ Try.func32 (by kernel_rfl) rfl #[.pointer (some ⟨ptr h m, 0, none⟩), entryV e] (by rfl) rfl rfl (by (try simp only [List.map_toArray, List.map_cons, List.map_nil]); first | done | rfl) ?_
  refine (from_calls _ _ _).mono ?_
  rintro E W4 ⟨rfl, hw4⟩
  have HB3 := Aside0.mk (⟨rfl, rfl, rfl, Nat.le_refl _, fun _ _ => rfl⟩ : Below W3.heap.size W3 W3.drew)
  have hb4 : Below W3.drew.heap.size W3.drew W4 := by rw [hw4]; exact ((Below.refl _ W3.drew).alloc (Nat.le_refl _) _).alloc (by simp) _
  have HX1 := Aside0.mk (show W4.heap[W3.drew.heap.size]? = some (.cells #[.pointer (some ⟨ptr h m, 0, none⟩)] 59 (0, 0)) by rw [hw4]; exact blk_alloc (blk_new W3.drew _) _)
  have HX2 := Aside0.mk (show W4.heap[W3.drew.heap.size + 1]? = some (boxE e) by rw [hw4]; have := blk_new (W3.drew.alloc (.cells #[.pointer (some ⟨ptr h m, 0, none⟩)] 59)) (boxE e); rwa [World.size_alloc] at this)
  have HB4 := Aside0.mk (HB3.out.trans hb4)
  have HS4 := Aside0.mk (HS.out.below HB4.out)
  have hs5 : W3.drew.heap.size ≤ W4.heap.size := HB4.out.size
  have hs4 : n0 + 2 ≤ W3.drew.heap.size := hs3
  refine ⟨_, rfl, ?_⟩
  clear hHeld hb4 hw4
  refine hK.out _ _ ⟨(show TreeAt W4 _ _ _ from blk_below HT3.out HB4.out).c0, (blk_cell (HS4.out.blk 0 rfl) 0).trans rfl, (blk_cell (HS4.out.blk 0 rfl) 1).trans rfl, (blk_cell (HS4.out.blk 0 rfl) 2).trans rfl⟩ (fun hHeld => ?_)
  clear hK K_
  refine norm_ (a' := ?_) ?_ ?_
  rotate_left
  · show Act.put _ (some 11) _ = _
    simp only [Act.put, List.setIfInBounds_toArray, List.set_cons_zero, List.set_cons_succ, i64_w, i32_w]
    rfl
  refine done_ (by kernel_rfl) ?_
  clear hHeld HT3 HS hW3
  refine NormQ.of ?_
  gi_wp2
  have hbx : Boxed W4 (n0 + 1) 4 (.bool false) := HS4.out.box 1 rfl
  have hob : ∀ (W : World) (f : Bool), St w NoF W (hasB n0 e f) → ∀ k, Own [n0 + 1] W k ↔ k = n0 + 1 := fun W f s k => by
    have := own_one (s.box 1 rfl) k
    simpa [Value.ownBlock] using this
  have HOB := Aside0.mk hob
  have hgd : ∀ (W : World) (f : Bool), St w NoF W (hasB n0 e f) → Good [n0 + 1] W := fun W f s k hk => by
    rw [(hob W f s k).1 hk]
    exact (s.box 1 rfl).lt
  have HGD := Aside0.mk hgd
  have hOK4 : Ok W4 h m := HOK.out.below (keep_below HS4.out.keep)
  have hfp4 : ∀ a ∈ fp h m, ¬ Own [n0 + 1] W4 a := fun a ha ho => by
    have h1 := HOK.out.lt a ha
    rw [HN0.out] at h1
    have := (hob _ _ HS4.out a).1 ho
    omega
  clear hob hgd
  obtain ⟨X1, hX1⟩ : ∃ n, W3.drew.heap.size = n := ⟨_, rfl⟩
  rw [hX1] at HX1 HX2 hs4 hs5 ⊢
  refine wpIn_rangeFunc_ownH (n := 5) (F := Fence.wide) (w := W4) rfl (by decide) (gf := 52) (lb := #[.pointer (some ⟨X1, 0, none⟩), .pointer (some ⟨X1 + 1, 0, none⟩)]) rfl trivial (enters_of Try.func52 (by kernel_rfl) rfl)
    (from_stops 4 [n0 + 1] X1 (X1 + 1) h m e W4 HX1.out HX2.out hOK4 hfp4 (HGD.out _ _ HS4.out) HFT.out) Kp.t (fun W l o o' hl h hc _ => Kp.b1 (W0 := W4) (by intro b hb; simp at hb; omega) W l o o' hl h hc) (Below.refl _ _) (fun _ => rfl)
    (fun pre W => HsI w W n0 e pre)
    (fun c pre W => c = .ret ∧ HsX w W n0 e pre)
    ?hI ?hIx ?h0
    (fun x a' W => ∃ Bx, n0 + 1 < Bx ∧ W.heap[Bx]? = some (boxE x) ∧ a' = { tmps := #[.pointer (some ⟨tp, 0, none⟩), .agg #[.string e.f0, .int .i64 e.f1.f0, .int .i64 e.f1.f1], undef, .pointer (some ⟨n0, 0, none⟩), .pointer (some ⟨n0 + 1, 0, none⟩), .pointer (some ⟨Bx, 0, none⟩), .pointer (some ⟨tp, 0, none⟩), .pointer (some ⟨tp, 0, none⟩), .pointer (some ⟨tp, 0, none⟩), .pointer (some ⟨ptr h m, 0, none⟩), .agg #[.string e.f0, .int .i64 e.f1.f0, .int .i64 e.f1.f1], .func (.func 52) #[] #[.pointer (some ⟨X1, 0, none⟩), .pointer (some ⟨X1 + 1, 0, none⟩)], entryV x, undef, undef, undef], defers := [] })
    ?hAx ?assign ?body ?done ?stop
  case hI =>
    rintro s X Y row ⟨hp, f, hs⟩ hg hr
    exact ⟨hp, f, hs.turned hg (fun r e => ⟨by have := (hr r e).1; omega, (hr r e).2⟩) has_cells⟩
  case hIx =>
    rintro c s X Y row ⟨hc, x, hp, hs⟩ hg hr
    exact ⟨hc, x, hp, hs.turned hg (fun r e => ⟨by have := (hr r e).1; omega, (hr r e).2⟩) has_cells⟩
  case h0 => exact ⟨rfl, false, HS4.out⟩
  case hAx =>
    rintro x a' _ X Y row ⟨Bx, h1, h2, h4⟩ hg hr
    have hne : ∀ b o, X.heap[b]? = some o → o.isCells = true → some b ≠ row := fun b o hb ho e => by
      obtain ⟨_, o2, ho2, hc2⟩ := hr b e.symm
      rw [hb] at ho2
      cases ho2
      rw [ho] at hc2
      cases hc2
    exact ⟨Bx, h1, (hg.block Bx (lt_of_some h2) (hne Bx _ h2 rfl)).trans h2, h4⟩
  case assign =>
    rintro l pre x W K ⟨hp, f, hs⟩ hK
    have HS1 := Aside0.mk hs
    have HP := Aside0.mk hp
    have HK := Aside0.mk hK
    clear hs hp hK
    unfold entryV
    gi_wp2
    have hba : Below W.heap.size W (W.alloc (.cells #[.string x.f0, .int .i64 x.f1.f0, .int .i64 x.f1.f1] 29)) := (Below.refl _ W).alloc (Nat.le_refl _) _
    exact HK.out _ _ ((KeepsOthers.alloc _ _).from _) (fun g => KpR.below g hba) ⟨HP.out, f, HS1.out.below hba⟩ ⟨W.heap.size, (HS1.out.box 1 rfl).lt, heap_alloc_new W _, rfl⟩
  case body =>
    rintro l pre x a' W hl hrr ⟨hp, f, hs⟩ ⟨Bx, hBx, hX, rfl⟩ hlt
    have HS1 := Aside0.mk hs
    have HP := Aside0.mk hp
    have HXB := Aside0.mk hX
    have e0 : W.cell? ⟨n0, 0, none⟩ = some (.string e.f0) := (blk_cell (hs.blk 0 rfl) 0).trans rfl
    have e1 : W.cell? ⟨n0, 1, none⟩ = some (.int .i64 e.f1.f0) := (blk_cell (hs.blk 0 rfl) 1).trans rfl
    have e2 : W.cell? ⟨n0, 2, none⟩ = some (.int .i64 e.f1.f1) := (blk_cell (hs.blk 0 rfl) 2).trans rfl
    have c1 := (hs.box 1 rfl).cell
    have f1 := (hs.box 1 rfl).frozen
    have x0 : W.cell? ⟨Bx, 0, none⟩ = some (.string x.f0) := (blk_cell hX 0).trans rfl
    have x1 : W.cell? ⟨Bx, 1, none⟩ = some (.int .i64 x.f1.f0) := (blk_cell hX 1).trans rfl
    have x2 : W.cell? ⟨Bx, 2, none⟩ = some (.int .i64 x.f1.f1) := (blk_cell hX 2).trans rfl
    clear hs hp hX hrr hlt
    have hgo : ∀ b, hasL e [x] = b → KeepsFrom W4.heap.size W (W.setCell ⟨n0 + 1, 0, none⟩ (.bool b)) ∧ HsX w (W.setCell ⟨n0 + 1, 0, none⟩ (.bool b)) n0 e (pre ++ [x]) := by
      rintro b rfl
      have hst : St w NoF _ (hasB n0 e (hasL e [x])) := HS1.out.putB 1 rfl (.bool (hasL e [x]))
      have hkeep : Keep W (W.setCell ⟨n0 + 1, 0, none⟩ (.bool (hasL e [x]))) (Own [n0 + 1] W) := (Keep.of_below (Below.refl _ W) _).cell (p := ⟨n0 + 1, 0, none⟩) (.inl ((HOB.out _ _ HS1.out _).2 rfl)) _
      refine ⟨keepsFrom_of hkeep (fun k o ho hko => ?_) _, x, ?_, hst⟩
      · rw [(HOB.out _ _ HS1.out k).1 ho, show W.heap[n0 + 1]? = _ from HS1.out.box 1 rfl] at hko
        cases hko
        rfl
      · rw [HP.out]
        rfl
    have HGO := Aside0.mk hgo
    clear hgo
    unfold entryV
    cases k0 : (x.f0.toList == e.f0.toList) <;> cases k1 : (x.f1.f0 == e.f1.f0) <;> cases k2 : (x.f1.f1 == e.f1.f1)
    all_goals (have HK0 := Aside0.mk k0; have HK1 := Aside0.mk k1; have HK2 := Aside0.mk k2)
    all_goals gi_wp2
    all_goals exact ⟨(HGO.out _ (by show (x.f0.toList == e.f0.toList && ((x.f1.f0 == e.f1.f0 && (x.f1.f1 == e.f1.f1)))) = _; rw [HK0.out, HK1.out, HK2.out]; rfl)).1, rfl, (HGO.out _ (by show (x.f0.toList == e.f0.toList && ((x.f1.f0 == e.f1.f0 && (x.f1.f1 == e.f1.f1)))) = _; rw [HK0.out, HK1.out, HK2.out]; rfl)).2⟩
  case done =>
    rintro D ys W hD rfl ⟨hp, f, hs⟩ hK
    have HFIN := Aside0.mk (show hasL e (bfrom h (abs h m) e) = false by rw [hp]; rfl)
    have HS1 := Aside0.mk hs
    have c1 := (hs.box 1 rfl).cell
    have f1 := (hs.box 1 rfl).frozen
    clear hp hs
    gi_wp2
    have hst : St w NoF _ (hasB n0 e false) := HS1.out.putB 1 rfl (.bool false)
    have hkk : Keep W _ (fun b => b = n0 + 1) := (Keep.of_below (Below.refl _ W) (fun b => b = n0 + 1)).cell (p := ⟨n0 + 1, 0, none⟩) (.inl rfl) (.bool false)
    have hK5 := (hkk.block D (lt_of_some hK) (by omega)).trans hK
    refine ⟨by simp, .inl ⟨_, _, rfl, run_takeDeferred hK5, ?_⟩⟩
    have hst6 : St w NoF (World.putObj _ D (.deferred none)) _ := hst.turned (grownBy_putObj' _ D _) (fun r e => by cases e; exact ⟨by omega, _, hK5, rfl⟩) has_cells
    refine ⟨_, has_results (hst6.box 1 rfl) _ rfl, ?_⟩
    rw [← HR.out]
    refine ⟨?_, keep_below hst6.keep⟩
    rw [HFIN.out]
  case stop =>
    rintro D c pre W hD hpre ⟨rfl, x, hp, hs⟩ hK
    obtain ⟨r, hr⟩ := hpre
    have HFIN := Aside0.mk (show hasL e (bfrom h (abs h m) e) = hasL e [x] by rw [← hr, hp]; rfl)
    have HS1 := Aside0.mk hs
    clear hp hs hr
    gi_wp2
    refine ⟨by simp, .inl ⟨_, _, rfl, run_takeDeferred hK, ?_⟩⟩
    have hst6 : St w NoF (World.putObj W D (.deferred none)) _ := HS1.out.turned (grownBy_putObj' _ D _) (fun r e => by cases e; exact ⟨by omega, _, hK, rfl⟩) has_cells
    refine ⟨_, has_results (hst6.box 1 rfl) _ rfl, ?_⟩
    rw [← HR.out]
    refine ⟨?_, keep_below hst6.keep⟩
    rw [HFIN.out]
end Go.Proofs.Bt
end
section
namespace Go.Proofs.Bt
open Go Go.RowKit Go.Proofs.Ytjaddmflopahiaa.Q
set_option linter.unusedVariables false
set_option linter.unusedSimpArgs false
theorem bl_irr : ∀ x : List UInt8, Op.bytesLess x x = false
  | [] => rfl
  | a :: x => by
    simp [Op.bytesLess, bl_irr x]
theorem bl_trans : ∀ x y z : List UInt8, Op.bytesLess x y = true → Op.bytesLess y z = true → Op.bytesLess x z = true
  | [], [], z, h, _ => by simp [Op.bytesLess] at h
  | [], b :: y, [], _, h => by simp [Op.bytesLess] at h
  | [], b :: y, c :: z, _, _ => rfl
  | a :: x, [], z, h, _ => by simp [Op.bytesLess] at h
  | a :: x, b :: y, [], _, h => by simp [Op.bytesLess] at h
  | a :: x, b :: y, c :: z, h1, h2 => by
    simp only [Op.bytesLess, Bool.or_eq_true, decide_eq_true_eq, Bool.and_eq_true, beq_iff_eq] at h1 h2 ⊢
    rcases h1 with h1 | ⟨rfl, h1⟩
    · rcases h2 with h2 | ⟨rfl, h2⟩
      · exact .inl (UInt8.lt_trans h1 h2)
      · exact .inl h1
    · rcases h2 with h2 | ⟨rfl, h2⟩
      · exact .inl h2
      · exact .inr ⟨rfl, bl_trans x y z h1 h2⟩
theorem bl_tri : ∀ x y : List UInt8, Op.bytesLess x y = true ∨ x = y ∨ Op.bytesLess y x = true
  | [], [] => .inr (.inl rfl)
  | [], b :: y => .inl rfl
  | a :: x, [] => .inr (.inr rfl)
  | a :: x, b :: y => by
    simp only [Op.bytesLess, Bool.or_eq_true, decide_eq_true_eq, Bool.and_eq_true, beq_iff_eq, List.cons.injEq]
    by_cases h : a = b
    · subst h
      rcases bl_tri x y with h | h | h
      · exact .inl (.inr ⟨rfl, h⟩)
      · exact .inr (.inl ⟨rfl, h⟩)
      · exact .inr (.inr (.inr ⟨rfl, h⟩))
    · rcases Nat.lt_or_ge a.toNat b.toNat with h1 | h1
      · exact .inl (.inl (UInt8.lt_iff_toNat_lt.2 h1))
      · refine .inr (.inr (.inl (UInt8.lt_iff_toNat_lt.2 (Nat.lt_of_le_of_ne h1 fun e => h (UInt8.toNat_inj.1 e.symm)))))
theorem toList_inj {a b : ByteArray} (h : a.toList = b.toList) : a = b := by
  rw [Lib.toList_data, Lib.toList_data] at h
  exact ByteArray.ext (Array.toList_inj.1 h)
theorem cmpB_cases (a b : ByteArray) : (cmpB a b = -1 ∧ Op.bytesLess a.toList b.toList = true) ∨ (cmpB a b = 0 ∧ a = b) ∨ (cmpB a b = 1 ∧ Op.bytesLess b.toList a.toList = true) := by
  unfold cmpB
  rcases bl_tri a.toList b.toList with h | h | h
  · exact .inl ⟨by rw [if_pos h], h⟩
  · have := toList_inj h
    subst this
    exact .inr (.inl ⟨by rw [if_neg (by simp [bl_irr]), if_pos (by simp)], rfl⟩)
  · have h1 : ¬ Op.bytesLess a.toList b.toList = true := fun h2 => by
      have := bl_trans _ _ _ h h2
      rw [bl_irr] at this
      cases this
    have h2 : ¬ (a.toList == b.toList) = true := fun h2 => by
      rw [beq_iff_eq] at h2
      rw [h2, bl_irr] at h
      cases h
    exact .inr (.inr ⟨by rw [if_neg h1, if_neg h2], h⟩)
theorem cmpI_cases (a b : Int) : (cmpI a b = -1 ∧ a < b) ∨ (cmpI a b = 0 ∧ a = b) ∨ (cmpI a b = 1 ∧ b < a) := by
  unfold cmpI
  by_cases h : a < b
  · exact .inl ⟨if_pos h, h⟩
  · by_cases h2 : a > b
    · exact .inr (.inr ⟨by rw [if_neg h, if_pos h2], h2⟩)
    · exact .inr (.inl ⟨by rw [if_neg h, if_neg h2], by omega⟩)
def ltE (a b : S29) : Prop := ord a b < 0
theorem ltE_iff (a b : S29) : ltE a b ↔ Op.bytesLess a.f0.toList b.f0.toList = true ∨ (a.f0 = b.f0 ∧ (a.f1.f0 < b.f1.f0 ∨ (a.f1.f0 = b.f1.f0 ∧ a.f1.f1 < b.f1.f1))) := by
  unfold ltE ord
  rcases cmpB_cases a.f0 b.f0 with ⟨h1, h2⟩ | ⟨h1, h2⟩ | ⟨h1, h2⟩
  · rw [h1]
    simp [h2]
  · rw [h1, if_pos rfl]
    have h3 : ¬ Op.bytesLess a.f0.toList b.f0.toList = true := by rw [h2, bl_irr]; simp
    rcases cmpI_cases a.f1.f0 b.f1.f0 with ⟨g1, g2⟩ | ⟨g1, g2⟩ | ⟨g1, g2⟩ <;> rw [g1] <;> rcases cmpI_cases a.f1.f1 b.f1.f1 with ⟨k1, k2⟩ | ⟨k1, k2⟩ | ⟨k1, k2⟩ <;> rw [k1] <;> simp [h2, h3] <;> first | done | (constructor <;> intro h <;> first | omega | (simp at h; try omega)) | omega | (intro h; omega) | exact ⟨bl_irr _, by omega, fun _ => by omega⟩
  · rw [h1]
    have h3 : ¬ Op.bytesLess a.f0.toList b.f0.toList = true := fun h => by
      have := bl_trans _ _ _ h h2
      rw [bl_irr] at this
      cases this
    constructor
    · intro h
      rw [if_neg (by decide)] at h
      omega
    · rintro (h | ⟨h, _⟩)
      · exact absurd h h3
      · rw [h, bl_irr] at h2
        cases h2
theorem ltE_trans {a b c : S29} (h1 : ltE a b) (h2 : ltE b c) : ltE a c := by
  rw [ltE_iff] at h1 h2 ⊢
  rcases h1 with h1 | ⟨h1, h1'⟩
  · rcases h2 with h2 | ⟨h2, _⟩
    · exact .inl (bl_trans _ _ _ h1 h2)
    · exact .inl (h2 ▸ h1)
  · rcases h2 with h2 | ⟨h2, h2'⟩
    · exact .inl (h1 ▸ h2)
    · exact .inr ⟨h1.trans h2, by omega⟩
theorem ltE_irr (a : S29) : ¬ ltE a a := by
  rw [ltE_iff]
  rintro (h | ⟨_, h⟩)
  · rw [bl_irr] at h
    cases h
  · omega
theorem ord_zero (a b : S29) : ord a b = 0 ↔ a = b := by
  constructor
  · intro h
    obtain ⟨a0, a1, a2⟩ := a
    obtain ⟨b0, b1, b2⟩ := b
    unfold ord at h
    rcases cmpB_cases a0 b0 with ⟨h1, h2⟩ | ⟨h1, h2⟩ | ⟨h1, h2⟩
    · simp [h1] at h
    · simp only [h1, if_true] at h
      subst h2
      rcases cmpI_cases a1 b1 with ⟨g1, g2⟩ | ⟨g1, g2⟩ | ⟨g1, g2⟩
      · simp [g1] at h
      · simp only [g1, if_true] at h
        rcases cmpI_cases a2 b2 with ⟨k1, k2⟩ | ⟨k1, k2⟩ | ⟨k1, k2⟩
        · omega
        · rw [g2, k2]
        · omega
      · simp [g1] at h
    · simp [h1] at h
  · rintro rfl
    unfold ord
    rcases cmpB_cases a.f0 a.f0 with ⟨h1, h2⟩ | ⟨h1, h2⟩ | ⟨h1, h2⟩
    · rw [bl_irr] at h2; cases h2
    · simp [h1, cmpI]
    · rw [bl_irr] at h2; cases h2
end Go.Proofs.Bt
end
