/- Packed by shake.py: YtjaddmflopahiaaBd49 YtjaddmflopahiaaBd70 YtjaddmflopahiaaB12 YtjaddmflopahiaaS4 YtjaddmflopahiaaC1 YtjaddmflopahiaaC2 -/
import Derived.Shelf.RegionOpenPlain
import Derived.Shelf.Spec.SlicesInsert
import Derived.Test.YtjaddmflopahiaaV2
section
namespace Go.Proofs.Bt
open Go Go.RowKit Go.Lib Go.Shelf
set_option linter.unusedVariables false
set_option linter.unusedSimpArgs false
set_option maxRecDepth 100000
set_option maxHeartbeats 4000000 in
theorem delete49 (w : World) (g n cap i : Nat) (xs : List Value) (hR : Row w 29 3 (.slice (some ⟨g, 0, none⟩) n cap) n xs) (hi : i < n) (hn : n < 1000000) :
    Calls Try.prog 49 #[.slice (some ⟨g, 0, none⟩) n cap, .int .i64 i, .int .i64 ((i + 1 : Nat) : Int)] w fun e w' => e = .returned (.slice (some ⟨g, 0, none⟩) (n - 1) cap) ∧
      Row w' 29 3 (.slice (some ⟨g, 0, none⟩) (n - 1) cap) (n - 1) (xs.take (i * 3) ++ xs.drop ((i + 1) * 3)) ∧ w.grownBy w' (some g) := by
  have mixed : Try.prog.follows Departure.mixedOrders = true := by kernel_rfl
  obtain ⟨i0, hi0, hz0, hzs, hzb⟩ := info_parts ins42_info
  have hRl := hR.1
  have hR1 := hR.2.1
  rcases hR.2.2 with ⟨hv, _⟩ | ⟨g', cap', cur, hv, hg, hnc, hcm, hcs, htake⟩
  · simp at hv
  · simp at hv
    obtain ⟨rfl, rfl⟩ := hv
    have hcurs : cur.toList.length = cur.size := by simp
    have hl1 : (xs.take (i * 3)).length = i * 3 := by rw [List.length_take, hRl]; omega
    have hl2 : (xs.drop ((i + 1) * 3)).length = (n - (i + 1)) * 3 := by rw [List.length_drop, hRl]; omega
    obtain ⟨cur1, hcur1⟩ : ∃ c, splice cur.toList (i * 3) (xs.drop ((i + 1) * 3)) = c := ⟨_, rfl⟩
    have hs1 : cur1.length = cur.size := by rw [← hcur1, splice_len (by rw [hl2]; simp <;> omega)]; simp
    obtain ⟨W1, hW1⟩ : ∃ W1, w.drew.setRow g cur1.toArray = W1 := ⟨_, rfl⟩
    have hH1 : W1.heap[g]? = some (.cells cur1.toArray 29 (0, 0)) := by rw [← hW1]; exact setRow_heap w.drew g cur _ 29 _ hg
    obtain ⟨a, ha, hacell⟩ : ∃ a : Addr, (a = if cap = i + 1 then ⟨g, 0, none⟩ else ⟨g, (i + 1) * 3, none⟩) ∧ ∀ j u, (xs.drop ((i + 1) * 3))[j]? = some u → w.drew.cell? (a.add j) = some u := by
      refine ⟨_, rfl, fun j u hu => ?_⟩
      rw [List.getElem?_drop] at hu
      by_cases hce : cap = i + 1
      · have := (List.getElem?_eq_some_iff.1 hu).1
        omega
      · rw [if_neg hce]
        have := hR.cell rfl _ u hu
        try simp only [Nat.mul_one] at this ⊢
        rw [Addr.add_lit, cell_of_row w.drew g _ cur 29 (0, 0) hg, ← cell_of_row w g _ cur 29 (0, 0) hg]
        exact this
    have hrun : ∀ ty, (Builtin.append_ #[22, 22] ty #[.slice (some ⟨g, 0, none⟩) i cap, .slice (some a) (n - (i + 1)) (cap - (i + 1))]).run Try.prog w.drew = .ok (.slice (some ⟨g, 0, none⟩) (n - 1) cap) W1 := fun ty => by
      have := run_append_room w.drew 22 ty 29 i0 Try.underlying22 hi0 g i cap cur hg a (n - (i + 1)) (cap - (i + 1)) (xs.drop ((i + 1) * 3)) (by rw [hl2, hzs]) hacell (fun u hu => hR1 u (List.mem_of_mem_drop hu)) (by omega) (by rw [hzs, hl2]; omega)
      rw [hzs, show i + (n - (i + 1)) = n - 1 by omega] at this
      rw [← hW1, ← hcur1]
      exact this
    obtain ⟨zs, hzs2⟩ : ∃ zs, (Builtin.zeroCells (.agg #[.string ⟨#[]⟩, .int .i64 0, .int .i64 0] : Value).cells 1).toList = zs := ⟨_, rfl⟩
    have hzl : zs.length = 3 := by rw [← hzs2]; simp [size_zeroCells, Value.cells]
    obtain ⟨W2, hW2⟩ : ∃ W2, W1.setRow g (splice cur1 ((n - 1) * 3) zs).toArray = W2 := ⟨_, rfl⟩
    have hcl : ∀ ty, (Builtin.clear_ #[22] ty #[.slice (some ⟨g, (n - 1) * 3, none⟩) 1 (cap - (n - 1))]).run Try.prog W1 = .ok (.tuple #[]) W2 := fun ty => by
      have := run_clear_row W1 22 ty 29 i0 _ Try.underlying22 hi0 hz0 (by simp [Value.cells, Value.oneCell']) g ((n - 1) * 3) 1 (cap - (n - 1)) (by omega) cur1.toArray hH1 (by simp [Value.cells, hs1] <;> omega)
      rw [hzs2] at this
      rw [← hW2]
      try simp only [Nat.mul_one] at this ⊢
      exact this
    have hb0 : ¬ ((i : Int) = (i : Int) + 1) := by omega
    have hb1 : (0 : Int) ≤ (i : Int) + 1 := by omega
    have hb3 : (i : Int) ≤ (n : Int) := by omega
    have hb3b : (i : Int) + 1 ≤ (n : Int) := by omega
    have hb4 : (n : Int) ≤ (cap : Int) := by omega
    have htn : ((i : Int) + 1).toNat = i + 1 := by omega
    have hb5 : (0 : Int) ≤ ((n - 1 : Nat) : Int) := by omega
    have hb6 : ((n - 1 : Nat) : Int) ≤ (n : Int) := by omega
    have hb7 : ¬ (cap = n - 1) := by omega
    have hb8 : n - (n - 1) = 1 := by omega
    have hb9 : i ≤ n := by omega
    have hb10 : i + 1 ≤ n := by omega
    have hb11 : i ≤ cap := by omega
    have hb12 : (i : Int) ≤ (i : Int) + 1 := by omega
    have hfin : Row W2 29 3 (.slice (some ⟨g, 0, none⟩) (n - 1) cap) (n - 1) (xs.take (i * 3) ++ xs.drop ((i + 1) * 3)) ∧ w.grownBy W2 (some g) := by
      refine ⟨⟨by rw [List.length_append, hl1, hl2]; omega, ?_, .inr ⟨g, cap, (splice cur1 ((n - 1) * 3) zs).toArray, rfl, ?_, by omega, hcm, ?_, ?_⟩⟩, ⟨?_, ?_, ?_, ?_, ?_⟩⟩
      · intro u hu
        rcases List.mem_append.1 hu with hu | hu
        · exact hR1 u (List.mem_of_mem_take hu)
        · exact hR1 u (List.mem_of_mem_drop hu)
      · rw [← hW2]
        exact setRow_heap W1 g cur1.toArray _ 29 _ hH1
      · rw [List.size_toArray, splice_len (by rw [hzl, hs1]; omega), hs1]
        exact hcs
      · show (splice cur1 ((n - 1) * 3) zs).take ((n - 1) * 3) = _
        rw [splice_take _ (Nat.le_refl _) (by omega), ← hcur1, show (n - 1) * 3 = i * 3 + (xs.drop ((i + 1) * 3)).length by rw [hl2]; omega, splice_take_end (by omega), ← htake, List.take_take, Nat.min_eq_left (by omega)]
      · rw [← hW2, ← hW1]; rfl
      · rw [← hW2, ← hW1]; rfl
      · rw [← hW2, ← hW1]; rfl
      · rw [← hW2, ← hW1]; simp
      · intro k hk hkg
        have hk2 : k ≠ g := fun e => hkg (by rw [e])
        rw [← hW2, setRow_other _ _ _ _ hk2, ← hW1, setRow_other _ _ _ _ hk2]
        rfl
    by_cases hce : cap = i + 1
    · rw [if_pos hce] at ha
      subst ha
      subst hce
      obtain rfl : n = i + 1 := by omega
      simp only [Nat.add_sub_cancel, Nat.add_sub_cancel_left] at hcl
      go_enter Try.func49, Try.ntmps49
      go_wp2
      go_region_law_o (refine step_append_runI rfl _ _ 22 22 rfl _ _ (by simp [Act.eval, Act.put]) (by simp [Act.eval, Act.put]) (hrun _) ?_)
      go_wp2_with (at_builtin; refine wpList_clear_run _ rfl _ 22 rfl _ rfl (hcl _) ?_)
      go_ret
      exact ⟨rfl, hfin⟩
    · rw [if_neg hce] at ha
      subst ha
      go_enter Try.func49, Try.ntmps49
      go_wp2
      go_region_law_o (refine step_append_runI rfl _ _ 22 22 rfl _ _ (by simp [Act.eval, Act.put]) (by simp [Act.eval, Act.put]) (hrun _) ?_)
      go_wp2_with (at_builtin; refine wpList_clear_run _ rfl _ 22 rfl _ rfl (hcl _) ?_)
      go_ret
      exact ⟨rfl, hfin⟩
end Go.Proofs.Bt
end
section
namespace Go.Proofs.Bt
open Go Go.RowKit Go.Lib Go.Shelf
set_option linter.unusedVariables false
set_option linter.unusedSimpArgs false
set_option maxRecDepth 100000
set_option maxHeartbeats 4000000 in
theorem delete70 (w : World) (g n cap i : Nat) (xs : List Value) (hR : Row w 59 1 (.slice (some ⟨g, 0, none⟩) n cap) n xs) (hi : i < n) (hn : n < 1000000) :
    Calls Try.prog 70 #[.slice (some ⟨g, 0, none⟩) n cap, .int .i64 i, .int .i64 ((i + 1 : Nat) : Int)] w fun e w' => e = .returned (.slice (some ⟨g, 0, none⟩) (n - 1) cap) ∧
      Row w' 59 1 (.slice (some ⟨g, 0, none⟩) (n - 1) cap) (n - 1) (xs.take (i * 1) ++ xs.drop ((i + 1) * 1)) ∧ w.grownBy w' (some g) := by
  have mixed : Try.prog.follows Departure.mixedOrders = true := by kernel_rfl
  obtain ⟨i0, hi0, hz0, hzs, hzb⟩ := info_parts ins44_info
  have hRl := hR.1
  have hR1 := hR.2.1
  rcases hR.2.2 with ⟨hv, _⟩ | ⟨g', cap', cur, hv, hg, hnc, hcm, hcs, htake⟩
  · simp at hv
  · simp at hv
    obtain ⟨rfl, rfl⟩ := hv
    have hcurs : cur.toList.length = cur.size := by simp
    have hl1 : (xs.take (i * 1)).length = i * 1 := by rw [List.length_take, hRl]; omega
    have hl2 : (xs.drop ((i + 1) * 1)).length = (n - (i + 1)) * 1 := by rw [List.length_drop, hRl]; omega
    obtain ⟨cur1, hcur1⟩ : ∃ c, splice cur.toList (i * 1) (xs.drop ((i + 1) * 1)) = c := ⟨_, rfl⟩
    have hs1 : cur1.length = cur.size := by rw [← hcur1, splice_len (by rw [hl2]; simp <;> omega)]; simp
    obtain ⟨W1, hW1⟩ : ∃ W1, w.drew.setRow g cur1.toArray = W1 := ⟨_, rfl⟩
    have hH1 : W1.heap[g]? = some (.cells cur1.toArray 59 (0, 0)) := by rw [← hW1]; exact setRow_heap w.drew g cur _ 59 _ hg
    obtain ⟨a, ha, hacell⟩ : ∃ a : Addr, (a = if cap = i + 1 then ⟨g, 0, none⟩ else ⟨g, i + 1, none⟩) ∧ ∀ j u, (xs.drop ((i + 1) * 1))[j]? = some u → w.drew.cell? (a.add j) = some u := by
      refine ⟨_, rfl, fun j u hu => ?_⟩
      rw [List.getElem?_drop] at hu
      by_cases hce : cap = i + 1
      · have := (List.getElem?_eq_some_iff.1 hu).1
        omega
      · rw [if_neg hce]
        have := hR.cell rfl _ u hu
        try simp only [Nat.mul_one] at this ⊢
        rw [Addr.add_lit, cell_of_row w.drew g _ cur 59 (0, 0) hg, ← cell_of_row w g _ cur 59 (0, 0) hg]
        exact this
    have hrun : ∀ ty, (Builtin.append_ #[60, 60] ty #[.slice (some ⟨g, 0, none⟩) i cap, .slice (some a) (n - (i + 1)) (cap - (i + 1))]).run Try.prog w.drew = .ok (.slice (some ⟨g, 0, none⟩) (n - 1) cap) W1 := fun ty => by
      have := run_append_room w.drew 60 ty 59 i0 Try.underlying60 hi0 g i cap cur hg a (n - (i + 1)) (cap - (i + 1)) (xs.drop ((i + 1) * 1)) (by rw [hl2, hzs]) hacell (fun u hu => hR1 u (List.mem_of_mem_drop hu)) (by omega) (by rw [hzs, hl2]; omega)
      rw [hzs, show i + (n - (i + 1)) = n - 1 by omega] at this
      rw [← hW1, ← hcur1]
      exact this
    obtain ⟨zs, hzs2⟩ : ∃ zs, (Builtin.zeroCells (.pointer none : Value).cells 1).toList = zs := ⟨_, rfl⟩
    have hzl : zs.length = 1 := by rw [← hzs2]; simp [size_zeroCells, Value.cells]
    obtain ⟨W2, hW2⟩ : ∃ W2, W1.setRow g (splice cur1 ((n - 1) * 1) zs).toArray = W2 := ⟨_, rfl⟩
    have hcl : ∀ ty, (Builtin.clear_ #[60] ty #[.slice (some ⟨g, n - 1, none⟩) 1 (cap - (n - 1))]).run Try.prog W1 = .ok (.tuple #[]) W2 := fun ty => by
      have := run_clear_row W1 60 ty 59 i0 _ Try.underlying60 hi0 hz0 (by simp [Value.cells, Value.oneCell']) g ((n - 1) * 1) 1 (cap - (n - 1)) (by omega) cur1.toArray hH1 (by simp [Value.cells, hs1] <;> omega)
      rw [hzs2] at this
      rw [← hW2]
      try simp only [Nat.mul_one] at this ⊢
      exact this
    have hb0 : ¬ ((i : Int) = (i : Int) + 1) := by omega
    have hb1 : (0 : Int) ≤ (i : Int) + 1 := by omega
    have hb3 : (i : Int) ≤ (n : Int) := by omega
    have hb3b : (i : Int) + 1 ≤ (n : Int) := by omega
    have hb4 : (n : Int) ≤ (cap : Int) := by omega
    have htn : ((i : Int) + 1).toNat = i + 1 := by omega
    have hb5 : (0 : Int) ≤ ((n - 1 : Nat) : Int) := by omega
    have hb6 : ((n - 1 : Nat) : Int) ≤ (n : Int) := by omega
    have hb7 : ¬ (cap = n - 1) := by omega
    have hb8 : n - (n - 1) = 1 := by omega
    have hb9 : i ≤ n := by omega
    have hb10 : i + 1 ≤ n := by omega
    have hb11 : i ≤ cap := by omega
    have hb12 : (i : Int) ≤ (i : Int) + 1 := by omega
    have hfin : Row W2 59 1 (.slice (some ⟨g, 0, none⟩) (n - 1) cap) (n - 1) (xs.take (i * 1) ++ xs.drop ((i + 1) * 1)) ∧ w.grownBy W2 (some g) := by
      refine ⟨⟨by rw [List.length_append, hl1, hl2]; omega, ?_, .inr ⟨g, cap, (splice cur1 ((n - 1) * 1) zs).toArray, rfl, ?_, by omega, hcm, ?_, ?_⟩⟩, ⟨?_, ?_, ?_, ?_, ?_⟩⟩
      · intro u hu
        rcases List.mem_append.1 hu with hu | hu
        · exact hR1 u (List.mem_of_mem_take hu)
        · exact hR1 u (List.mem_of_mem_drop hu)
      · rw [← hW2]
        exact setRow_heap W1 g cur1.toArray _ 59 _ hH1
      · rw [List.size_toArray, splice_len (by rw [hzl, hs1]; omega), hs1]
        exact hcs
      · show (splice cur1 ((n - 1) * 1) zs).take ((n - 1) * 1) = _
        rw [splice_take _ (Nat.le_refl _) (by omega), ← hcur1, show (n - 1) * 1 = i * 1 + (xs.drop ((i + 1) * 1)).length by rw [hl2]; omega, splice_take_end (by omega), ← htake, List.take_take, Nat.min_eq_left (by omega)]
      · rw [← hW2, ← hW1]; rfl
      · rw [← hW2, ← hW1]; rfl
      · rw [← hW2, ← hW1]; rfl
      · rw [← hW2, ← hW1]; simp
      · intro k hk hkg
        have hk2 : k ≠ g := fun e => hkg (by rw [e])
        rw [← hW2, setRow_other _ _ _ _ hk2, ← hW1, setRow_other _ _ _ _ hk2]
        rfl
    by_cases hce : cap = i + 1
    · rw [if_pos hce] at ha
      subst ha
      subst hce
      obtain rfl : n = i + 1 := by omega
      simp only [Nat.add_sub_cancel, Nat.add_sub_cancel_left] at hcl
      go_enter Try.func70, Try.ntmps70
      go_wp2
      go_region_law_o (refine step_append_runI rfl _ _ 60 60 rfl _ _ (by simp [Act.eval, Act.put]) (by simp [Act.eval, Act.put]) (hrun _) ?_)
      go_wp2_with (at_builtin; refine wpList_clear_run _ rfl _ 60 rfl _ rfl (hcl _) ?_)
      go_ret
      exact ⟨rfl, hfin⟩
    · rw [if_neg hce] at ha
      subst ha
      go_enter Try.func70, Try.ntmps70
      go_wp2
      go_region_law_o (refine step_append_runI rfl _ _ 60 60 rfl _ _ (by simp [Act.eval, Act.put]) (by simp [Act.eval, Act.put]) (hrun _) ?_)
      go_wp2_with (at_builtin; refine wpList_clear_run _ rfl _ 60 rfl _ rfl (hcl _) ?_)
      go_ret
      exact ⟨rfl, hfin⟩
end Go.Proofs.Bt
end
section
namespace Go.Proofs.Bt
open Go Go.RowKit Go.Proofs.Ytjaddmflopahiaa.Q Go.Proofs.YtjaddmflopahiaaW.PrintWords Go.Proofs.YtjaddmflopahiaaW.PrintLast Go.Proofs.YtjaddmflopahiaaW.PrintMore
set_option linter.unusedVariables false
set_option linter.unusedSimpArgs false
set_option maxRecDepth 100000
def delAt {α : Type} (l : List α) (i : Nat) : List α := l.take i ++ l.drop (i + 1)
theorem delEs (ks : List S29) (i : Nat) (h : i < ks.length) : (encEs ks).take (i * 3) ++ (encEs ks).drop ((i + 1) * 3) = encEs (delAt ks i) := by
  unfold delAt
  rw [encEs_take ks i (by omega), encEs_drop ks (i + 1) (by omega), encEs_app]
theorem delAt_len {α : Type} (l : List α) (i : Nat) (h : i < l.length) : (delAt l i).length = l.length - 1 := by
  unfold delAt
  rw [List.length_append, List.length_take, List.length_drop]
  omega
theorem found_lt {ks : List S29} {e : S29} (h : found ks e = true) : low ks e < ks.length := by
  unfold found at h
  by_cases hl : low ks e < ks.length
  · exact hl
  · rw [dif_neg hl] at h
    cases h
def CutLeaf (w : World) (p : Nat) (K : Value) (ks : List S29) (e : S29) (E : Ending) (w' : World) : Prop := ∃ K', E = .returned (.bool (found ks e)) ∧
      NodeAt w' p K' (.slice none 0 0) ∧ RowE w' K' (if found ks e = true then delAt ks (low ks e) else ks) ∧ K'.ownBlock = K.ownBlock ∧
      Keep w w' (fun k => k = p ∨ some k = K.ownBlock)
set_option maxHeartbeats 4000000 in
theorem cut_leaf (w : World) (p : Nat) (K : Value) (ks : List S29) (e : S29) (hN : NodeAt w p K (.slice none 0 0)) (hR : RowE w K ks) (hn : ks.length < 1000) (hm : Mono ks e) (hKp : K.ownBlock ≠ some p) :
    Calls Try.prog 29 #[.pointer (some ⟨p, 0, none⟩), entryV e] w (CutLeaf w p K ks e) := by
  have hu29 := Try.underlying29
  have hpl := hN.lt
  obtain ⟨R, hRR⟩ : ∃ R, CutLeaf w p K ks e = R := ⟨_, rfl⟩
  rw [hRR]
  have HRR := Aside0.mk hRR
  clear hRR
  obtain ⟨W0, hW0⟩ : ∃ W0, w.alloc (.cells #[.string e.f0, .int .i64 e.f1.f0, .int .i64 e.f1.f1] 29) = W0 := ⟨_, rfl⟩
  have hX : W0.heap[w.heap.size]? = some (.cells #[.string e.f0, .int .i64 e.f1.f0, .int .i64 e.f1.f1] 29 (0, 0)) := by rw [← hW0]; exact heap_alloc_new w _
  have hb0 : Below w.heap.size w W0 := by rw [← hW0]; exact (Below.refl _ w).alloc (Nat.le_refl _) _
  have b0 := blk_cell hX 0
  have b1 := blk_cell hX 1
  have b2 := blk_cell hX 2
  have HN := Aside0.mk (hN.below hb0)
  have HR := Aside0.mk (show RowE W0 K ks from Row.below hR hb0)
  have HB0 := Aside0.mk (Keep.of_below hb0 (fun k => k = p ∨ some k = K.ownBlock))
  have HLL := Aside0.mk (fun (hf : found ks e = true) => found_lt hf)
  obtain ⟨i, hi⟩ : ∃ i, low ks e = i := ⟨_, rfl⟩
  obtain ⟨f, hf⟩ : ∃ f, found ks e = f := ⟨_, rfl⟩
  have HF := Aside0.mk (find_calls W0 p K _ ks e HN.out HR.out (by omega) hm)
  rw [hi, hf] at HF
  rw [hi, hf] at HLL
  have HI := Aside0.mk hi
  have HFF := Aside0.mk hf
  clear hR hm hb0 hN hX hi hf
  unfold entryV
  cases f
  · go_enter Try.func29, Try.ntmps29
    go_wp2_with (first
      | (go_at_call 30; refine (leaf_calls _ p _ none 0 0 HN.out).mono ?_; rintro E w' ⟨rfl, rfl⟩)
      | (go_at_call 41; refine HF.out.mono ?_; rintro E w2 ⟨rfl, hb⟩; have HN2 := Aside0.mk (HN.out.below hb); have HR2 := Aside0.mk (show RowE _ _ _ from Row.below HR.out hb); have HB2 := Aside0.mk (HB0.out.below hb); clear hb b0 b1 b2))
    first | (rw [← HRR.out]) | (go_ret; rw [← HRR.out])
    refine ⟨K, by rw [HFF.out]; rfl, HN2.out, ?_, rfl, HB2.out⟩
    rw [HFF.out]
    simp only [Bool.false_eq_true, if_false]
    exact HR2.out
  · have hil : i < ks.length := HLL.out rfl
    obtain ⟨g, cap, rfl, hcap, hgl⟩ := RowE.block HR.out (by omega)
    have hgp : g ≠ p := fun h => hKp (by rw [h]; rfl)
    have HIL := Aside0.mk hil
    have hw1 : IntKind.i64.wrap ((i : Int) + 1) = (i : Int) + 1 := by rw [IntKind.wrap_i64]; omega
    clear hil
    go_enter Try.func29, Try.ntmps29
    go_wp2_with (first
      | (go_at_call 30; refine (leaf_calls _ p _ none 0 0 HN.out).mono ?_; rintro E w' ⟨rfl, rfl⟩)
      | (go_at_call 41; refine HF.out.mono ?_; rintro E w2 ⟨rfl, hb⟩; have HN2 := Aside0.mk (HN.out.below hb); have HR2 := Aside0.mk (show RowE _ _ _ from Row.below HR.out hb); have HB2 := Aside0.mk (HB0.out.below hb); clear hb b0 b1 b2; have c0 := HN2.out.c0)
      | (go_at_call 49; have hc := delete49 _ g ks.length cap i (encEs ks) HR2.out HIL.out (by omega); rw [Int.natCast_add, Int.natCast_one] at hc; refine hc.mono ?_; clear hc c0; rintro E w3 ⟨rfl, hrow, hg⟩; have HN3 := Aside0.mk (show NodeAt _ _ _ _ from blk_grown HN2.out hg (by simp; exact Ne.symm hgp)); have HB3 := Aside0.mk (HB2.out.grown hg (fun b hb => .inl (.inr (by simp at hb; simp [Value.ownBlock, hb])))); have HR3 := Aside0.mk hrow; clear hrow hg; have c0 := HN3.out.c0; have f0 := HN3.out.fz 0))
    first | (rw [← HRR.out]) | (go_ret; rw [← HRR.out])
    refine ⟨.slice (some ⟨g, 0, none⟩) (ks.length - 1) cap, by rw [HFF.out]; rfl, blk_put HN3.out 0 _ rfl, ?_, rfl, HB3.out.cell (.inl (.inl rfl)) _⟩
    rw [HFF.out, HI.out]
    simp only [if_true]
    have hr := HR3.out
    rw [delEs ks i HIL.out] at hr
    exact RowE.of (Row.farS hr (p := ⟨p, 0, none⟩) hgp _) (by rw [delAt_len ks i HIL.out])
end Go.Proofs.Bt
end
section
namespace Go.Proofs.Bt
open Go Go.RowKit Go.Proofs.Ytjaddmflopahiaa.Q Go.Proofs.YtjaddmflopahiaaW.PrintWords Go.Proofs.YtjaddmflopahiaaW.PrintLast Go.Proofs.YtjaddmflopahiaaW.PrintMore
set_option linter.unusedVariables false
set_option linter.unusedSimpArgs false
theorem deleteE (w : World) (g n cap i : Nat) (ks : List S29) (a b : Int) (hR : RowE w (.slice (some ⟨g, 0, none⟩) n cap) ks) (hl : ks.length = n) (hi : i < n) (hn : n < 100000) (ha : a = i) (hb : b = i + 1) :
    Calls Try.prog 49 #[.slice (some ⟨g, 0, none⟩) n cap, .int .i64 a, .int .i64 b] w fun e w' => e = .returned (.slice (some ⟨g, 0, none⟩) (n - 1) cap) ∧ RowE w' (.slice (some ⟨g, 0, none⟩) (n - 1) cap) (delAt ks i) ∧ w.grownBy w' (some g) := by
  subst hl
  subst ha
  subst hb
  have hc := delete49 w g ks.length cap i (encEs ks) hR hi (by omega)
  rw [Int.natCast_add, Int.natCast_one] at hc
  refine hc.mono ?_
  rintro E w' ⟨rfl, h1, h2⟩
  rw [delEs ks i hi] at h1
  exact ⟨rfl, RowE.of h1 (by rw [delAt_len ks i hi]), h2⟩
theorem deleteP (w : World) (g n cap i : Nat) (ps : List Value) (a b : Int) (hR : Row w 59 1 (.slice (some ⟨g, 0, none⟩) n cap) ps.length ps) (hl : ps.length = n) (hi : i < n) (hn : n < 100000) (ha : a = i) (hb : b = i + 1) :
    Calls Try.prog 70 #[.slice (some ⟨g, 0, none⟩) n cap, .int .i64 a, .int .i64 b] w fun e w' => e = .returned (.slice (some ⟨g, 0, none⟩) (n - 1) cap) ∧ Row w' 59 1 (.slice (some ⟨g, 0, none⟩) (n - 1) cap) (delAt ps i).length (delAt ps i) ∧ w.grownBy w' (some g) := by
  subst hl
  subst ha
  subst hb
  have hc := delete70 w g ps.length cap i ps hR hi (by omega)
  rw [Int.natCast_add, Int.natCast_one] at hc
  refine hc.mono ?_
  rintro E w' ⟨rfl, h1, h2⟩
  rw [Nat.mul_one, Nat.mul_one] at h1
  refine ⟨rfl, ?_, h2⟩
  rw [delAt_len ps i hi]
  exact h1
theorem insertE (w : World) (v : Value) (ks : List S29) (i : Nat) (x : S29) (vb : Nat) (a : Int) (hR : RowE w v ks) (hi : i ≤ ks.length) (hn : ks.length < 100000) (hvb : w.heap[vb]? = some (.cells #[.string x.f0, .int .i64 x.f1.f0, .int .i64 x.f1.f1] 29 (0, 0))) (hne : vb ∉ bl v) (ha : a = i) :
    Calls Try.prog 42 #[v, .int .i64 a, .slice (some ⟨vb, 0, none⟩) 1 1] w fun e w' => ∃ g c, e = .returned (.slice (some ⟨g, 0, none⟩) (ks.length + 1) c) ∧ RowE w' (.slice (some ⟨g, 0, none⟩) (ks.length + 1) c) (insAt ks i x) ∧ w.grownBy w' v.ownBlock ∧ Owns w v (.slice (some ⟨g, 0, none⟩) (ks.length + 1) c) := by
  subst ha
  refine (insert42 w v ks.length i (encEs ks) vb _ hR hi (by omega) hvb rfl (encEs_one [x]) (fun h => hne (bl_mem.2 h))).mono ?_
  rintro E w' ⟨v', rfl, h1, h2, h3, h4⟩
  obtain ⟨g, c, rfl, _⟩ := row_slice h1 (by omega)
  have he := insEs ks i x hi
  unfold encE at he
  rw [he] at h1
  exact ⟨g, c, rfl, RowE.of h1 (by rw [insAt_len ks i x hi]), h2, h3⟩
theorem insertP (w : World) (v : Value) (ps : List Value) (i : Nat) (x : Value) (hx : x.oneCell' = true) (vb : Nat) (a : Int) (hR : Row w 59 1 v ps.length ps) (hi : i ≤ ps.length) (hn : ps.length < 100000) (hvb : w.heap[vb]? = some (.cells #[x] 59 (0, 0))) (hne : vb ∉ bl v) (ha : a = i) :
    Calls Try.prog 44 #[v, .int .i64 a, .slice (some ⟨vb, 0, none⟩) 1 1] w fun e w' => ∃ g c, e = .returned (.slice (some ⟨g, 0, none⟩) (ps.length + 1) c) ∧ Row w' 59 1 (.slice (some ⟨g, 0, none⟩) (ps.length + 1) c) (insAt ps i x).length (insAt ps i x) ∧ w.grownBy w' v.ownBlock ∧ Owns w v (.slice (some ⟨g, 0, none⟩) (ps.length + 1) c) := by
  subst ha
  refine (insert44 w v ps.length i ps vb _ hR hi (by omega) hvb rfl (by simp [hx]) (fun h => hne (bl_mem.2 h))).mono ?_
  rintro E w' ⟨v', rfl, h1, h2, h3, h4⟩
  obtain ⟨g, c, rfl, _⟩ := row_slice h1 (by omega)
  rw [Nat.mul_one] at h1
  refine ⟨g, c, rfl, ?_, h2, h3⟩
  rw [insAt_len ps i x hi]
  have : insAt ps i x = List.take i ps ++ [x] ++ List.drop i ps := by simp [insAt]
  rw [this]
  exact h1
theorem encEs_set : ∀ (ks : List S29) (i : Nat) (y : S29), i < ks.length → (((encEs ks).set (i * 3) (.string y.f0)).set (i * 3 + 1) (.int .i64 y.f1.f0)).set (i * 3 + 2) (.int .i64 y.f1.f1) = encEs (ks.set i y)
  | [], i, y, h => by simp at h
  | x :: ks, 0, y, h => rfl
  | x :: ks, i + 1, y, h => by
    have ih := encEs_set ks i y (by simpa using h)
    have e : ∀ (l : List Value) (j : Nat) (v : Value), (encE x ++ l).set (3 + j) v = encE x ++ l.set j v := fun l j v => by
      rw [List.set_append_right _ _ (by simp [encE])]
      simp [encE]
    rw [encEs_cons, List.set_cons_succ, encEs_cons, show (i + 1) * 3 = 3 + i * 3 by omega, e, Nat.add_assoc 3 (i * 3) 1, e, Nat.add_assoc 3 (i * 3) 2, e, ih]
theorem St.putE {w0 w : World} {F : Nat → Prop} {cs : List Chunk} {ks : List S29} {g n c : Nat} (s : St w0 F w cs) (j : Nat) (hj : cs[j]? = some (rowEC (.slice (some ⟨g, 0, none⟩) n c) ks)) (i : Nat) (y : S29) (hi : i < ks.length) :
    St w0 F (((w.setCell ⟨g, i * 3, none⟩ (.string y.f0)).setCell ⟨g, i * 3 + 1, none⟩ (.int .i64 y.f1.f0)).setCell ⟨g, i * 3 + 2, none⟩ (.int .i64 y.f1.f1)) (cs.set j (rowEC (.slice (some ⟨g, 0, none⟩) n c) (ks.set i y))) := by
  have hr := s.rowE j hj
  refine s.upd j hj (rowEC (.slice (some ⟨g, 0, none⟩) n c) (ks.set i y)) ?_ ?_ (nd_bl (.slice (some ⟨g, 0, none⟩) n c)) (fun b hb => .inl hb)
  · have hg : g ∈ bl (.slice (some ⟨g, 0, none⟩) n c) := by simp [bl_slice]
    exact (((Keep.of_below (Below.refl _ w) _).cell (p := ⟨g, i * 3, none⟩) (.inl hg) _).cell (p := ⟨g, i * 3 + 1, none⟩) (.inl hg) _).cell (p := ⟨g, i * 3 + 2, none⟩) (.inl hg) _
  · obtain ⟨h0, h1, h2⟩ := hr
    rcases h2 with ⟨h2, _⟩ | ⟨g', cap, cur, hv, hg, hn, hm, hs, ht⟩
    · simp at h2
    · simp at hv
      obtain ⟨rfl, hnn, rfl⟩ := hv
      subst hnn
      have b1 := blk_put hg (i * 3) (.string y.f0) rfl
      have b2 := blk_put b1 (i * 3 + 1) (.int .i64 y.f1.f0) rfl
      have b3 := blk_put b2 (i * 3 + 2) (.int .i64 y.f1.f1) rfl
      refine ⟨encEs_len _, encEs_one _, .inr ⟨g, c, _, by rw [List.length_set], b3, by rw [List.length_set]; exact hn, hm, by simpa using hs, ?_⟩⟩
      rw [← encEs_set ks i y hi, ← ht, List.length_set]
      simp [List.take_set]
end Go.Proofs.Bt
end
section
namespace Go.Proofs.Bt
open Go Go.RowKit Go.Proofs.Ytjaddmflopahiaa.Q Go.Proofs.YtjaddmflopahiaaW.PrintWords Go.Proofs.YtjaddmflopahiaaW.PrintLast Go.Proofs.YtjaddmflopahiaaW.PrintMore
set_option linter.unusedVariables false
set_option linter.unusedSimpArgs false
set_option maxRecDepth 100000
theorem RowE.formS {w : World} {v : Value} {ks : List S29} (h : RowE w v ks) (h0 : 0 < ks.length) : ∃ g c, v = .slice (some ⟨g, 0, none⟩) ks.length c ∧ ks.length ≤ c := by
  obtain ⟨g, c, h, h1, _⟩ := RowE.block h h0
  exact ⟨g, c, h, h1⟩
theorem rowP_form {w : World} {C : Value} {ps : List Value} (h : Row w 59 1 C ps.length ps) (h0 : 0 < ps.length) : ∃ g cap, C = .slice (some ⟨g, 0, none⟩) ps.length cap ∧ ps.length ≤ cap := by
  rcases h.2.2 with ⟨_, hk⟩ | ⟨g, cap, cur, rfl, hg, hn, _⟩
  · omega
  · exact ⟨g, cap, rfl, hn⟩
theorem rowP_slice {w : World} {C : Value} {ps : List Value} (h : Row w 59 1 C ps.length ps) : ∃ A c, C = .slice A ps.length c := by
  rcases h.2.2 with ⟨rfl, hk⟩ | ⟨g, cap, cur, rfl, hg, hn, _⟩
  · exact ⟨none, 0, by rw [hk]⟩
  · exact ⟨_, _, rfl⟩
theorem RowE.at {w : World} {g n c : Nat} {ks : List S29} (h : RowE w (.slice (some ⟨g, 0, none⟩) n c) ks) {i : Nat} {z : S29} (hz : ks[i]? = some z) :
    w.cell? ⟨g, i * 3, none⟩ = some (.string z.f0) ∧ w.cell? ⟨g, i * 3 + 1, none⟩ = some (.int .i64 z.f1.f0) ∧ w.cell? ⟨g, i * 3 + 2, none⟩ = some (.int .i64 z.f1.f1) := by
  obtain ⟨hi, rfl⟩ := List.getElem?_eq_some_iff.1 hz
  exact h.cells i hi
theorem leaf_no (w : World) (p : Nat) (K : Value) (A : Option Addr) (n c : Nat) (h : NodeAt w p K (.slice A n c)) (hn : n ≠ 0) : Calls Try.prog 30 #[.pointer (some ⟨p, 0, none⟩)] w fun e w' => e = .returned (.bool false) ∧ w' = w :=
  (leaf_calls w p K A n c h).mono fun e w' ⟨h1, h2⟩ => ⟨by rw [h1, decide_eq_false hn], h2⟩
def par3 (p : Nat) (K C : Value) (ks : List S29) (ps : List Value) (a : Nat) (Ka Ca : Value) (ka : List S29) (pa : List Value) (b : Nat) (Kb Cb : Value) (kb : List S29) (pb : List Value) : List Chunk :=
  [nodeC p K C, rowEC K ks, rowPC C ps, nodeC a Ka Ca, rowEC Ka ka, rowPC Ca pa, nodeC b Kb Cb, rowEC Kb kb, rowPC Cb pb]
def par2 (p : Nat) (K C : Value) (ks : List S29) (ps : List Value) (a : Nat) (Ka Ca : Value) (ka : List S29) (pa : List Value) : List Chunk :=
  [nodeC p K C, rowEC K ks, rowPC C ps, nodeC a Ka Ca, rowEC Ka ka, rowPC Ca pa]
def Par3Post (w : World) (F : Nat → Prop) (p : Nat) (K C : Value) (ks : List S29) (ps : List Value) (a : Nat) (ka : List S29) (pa : List Value) (b : Nat) (kb : List S29) (pb : List Value) (leaf : Bool) (E : Ending) (w' : World) : Prop :=
  ∃ Ka Ca Kb Cb, E = .returned (.tuple #[]) ∧ (leaf = true → Ca = .slice none 0 0 ∧ Cb = .slice none 0 0) ∧ St w F w' (par3 p K C ks ps a Ka Ca ka pa b Kb Cb kb pb)
def JoinPost (w : World) (F : Nat → Prop) (p : Nat) (ks : List S29) (ps : List Value) (a : Nat) (ka : List S29) (pa : List Value) (leaf : Bool) (E : Ending) (w' : World) : Prop :=
  ∃ K C Ka Ca, E = .returned (.tuple #[]) ∧ (leaf = true → Ca = .slice none 0 0) ∧ St w F w' (par2 p K C ks ps a Ka Ca ka pa)
set_option maxHeartbeats 4000000 in
theorem fromRight_leaf (w : World) (p a b : Nat) (K C Ka Kb : Value) (ks : List S29) (ps : List Value) (i : Nat) (x y : S29) (ka kb : List S29) (F : Nat → Prop) (hs : St w F w (par3 p K C ks ps a Ka (.slice none 0 0) ka [] b Kb (.slice none 0 0) (x :: y :: kb) []))
    (hi : i + 1 < ps.length) (hpa : ps[i]? = some (.pointer (some ⟨a, 0, none⟩))) (hpb : ps[i + 1]? = some (.pointer (some ⟨b, 0, none⟩))) (hps : ps.length < 1000) (hk : i < ks.length) (hks : ks.length < 1000) (hka : (ka).length < 1000) (hkb : ((x :: y :: kb)).length < 1000) (hpal : ([] : List Value).length < 1000) (hpbl : ([] : List Value).length < 1000) :
    Calls Try.prog 63 #[.pointer (some ⟨p, 0, none⟩), .int .i64 i] w (Par3Post w F p K C (ks.set i y) ps a (ka ++ [x]) [] b (y :: kb) [] true) := by
  have hu29 := Try.underlying29
  have hu62 := Try.underlying62
  obtain ⟨gc, capC, rfl, hcapC⟩ := rowP_form (hs.rowP 2 rfl) (by omega)
  obtain ⟨gk, capK, rfl, hcapK⟩ := (hs.rowE 1 rfl).formS (by omega)
  obtain ⟨gb, capb, rfl, hcapb⟩ := (hs.rowE 7 rfl).formS (by simp)
  obtain ⟨nb, hnb⟩ : ∃ n, (x :: y :: kb).length = n := ⟨_, rfl⟩
  rw [hnb] at hs hkb hcapb
  have HNB := Aside0.mk hnb
  have hb2 : 0 < nb - 1 := by rw [← hnb]; simp
  have hb1 : 0 < nb := by omega
  have hb0 : (0 : Int) < (nb : Int) := by omega
  have HPA := Aside0.mk hpa
  have HPB := Aside0.mk hpb
  obtain ⟨n, hn⟩ : ∃ n, ps.length = n := ⟨_, rfl⟩
  obtain ⟨nk, hnk⟩ : ∃ n, ks.length = n := ⟨_, rfl⟩
  rw [hn, hnk] at hs
  rw [hn] at hi hps hcapC
  rw [hnk] at hk hks hcapK
  have HN := Aside0.mk hn
  have HNK := Aside0.mk hnk
  obtain ⟨R, hR⟩ : ∃ R, (Par3Post w F p (.slice (some ⟨gk, 0, none⟩) nk capK) (.slice (some ⟨gc, 0, none⟩) n capC) (ks.set i y) ps a (ka ++ [x]) [] b (y :: kb) [] true) = R := ⟨_, rfl⟩
  have HR := Aside0.mk hR
  try rw [hn, hnk]
  show Calls _ _ _ _ (Par3Post w F p (.slice (some ⟨gk, 0, none⟩) nk capK) (.slice (some ⟨gc, 0, none⟩) n capC) (ks.set i y) ps a (ka ++ [x]) [] b (y :: kb) [] true)
  rw [hR]
  clear hR
  have HS := Aside0.mk hs
  have hi0 : (0 : Int) ≤ (i : Int) := by omega
  have hi1 : (i : Int) < (n : Int) := by omega
  have hi2 : (0 : Int) ≤ (i : Int) + 1 := by omega
  have hi3 : (i : Int) + 1 < (n : Int) := by omega
  have hik : (i : Int) < (nk : Int) := by omega
  have hw1 : IntKind.i64.wrap ((i : Int) + 1) = (i : Int) + 1 := by rw [IntKind.wrap_i64]; omega
  have htn : ((i : Int) + 1).toNat = i + 1 := by omega
  clear hs hpa hpb hn hnk hnb
  go_enter Try.func63, Try.ntmps63
  go_wp2
  refine start_ (n := 17) (S := fun w' => w'.cell? ⟨p, 1, none⟩ = some (.slice (some ⟨gc, 0, none⟩) n capC) ∧ w'.cell? ⟨gc, i, none⟩ = some (.pointer (some ⟨a, 0, none⟩)) ∧ w'.cell? ⟨gc, i + 1, none⟩ = some (.pointer (some ⟨b, 0, none⟩))) (ds := []) #[false, false, false, false, false, false, false, false, false, false, false, false, false, false, false, false, false] (by kernel_rfl) rfl rfl ⟨(HS.out.node 0 rfl).c1, (HS.out.rowP 2 rfl).cell (by rw [← HN.out]) i _ HPA.out, (HS.out.rowP 2 rfl).cell (by rw [← HN.out]) (i + 1) _ HPB.out⟩ (fun hHeld => ?_)
  have HS1 := Aside0.mk (HS.out.drew)
  clear HS
  generalize w.drew = w1 at HS1 hHeld  ⊢
  refine pure_ (i := 0) (N := (some 6)) (v := ?_) (a' := ?_) #[true, false, false, false, false, false, false, false, false, false, false, false, false, false, false, false, false] rfl rfl (by kernel_rfl) (fun _ _ _ h => h) (Or.inl ⟨by rfl, ?_⟩) ?_ ?_
  rotate_left
  · intro w'
    go_simp
    with_reducible rfl
  rotate_left
  · simp only [Act.put, List.setIfInBounds_toArray, List.set_cons_zero, List.set_cons_succ, i64_w, i32_w]
    rfl
  refine pure_ (i := 1) (N := (some 7)) (v := ?_) (a' := ?_) #[true, true, false, false, false, false, false, false, false, false, false, false, false, false, false, false, false] rfl rfl (by kernel_rfl) (fun _ _ _ h => h) (Or.inl ⟨by rfl, ?_⟩) ?_ ?_
  rotate_left
  · intro w'
    go_simp
    with_reducible rfl
  rotate_left
  · simp only [Act.put, List.setIfInBounds_toArray, List.set_cons_zero, List.set_cons_succ, i64_w, i32_w]
    rfl
  refine pure_ (i := 2) (N := (some 8)) (v := ?_) (a' := ?_) #[true, true, true, false, false, false, false, false, false, false, false, false, false, false, false, false, false] rfl rfl (by kernel_rfl) (fun _ _ _ h => h) (Or.inl ⟨by rfl, ?_⟩) ?_ ?_
  rotate_left
  · intro w'
    go_simp
    with_reducible rfl
  rotate_left
  · simp only [Act.put, List.setIfInBounds_toArray, List.set_cons_zero, List.set_cons_succ, i64_w, i32_w]
    rfl
  refine pure_ (i := 4) (N := (some 10)) (v := ?_) (a' := ?_) #[true, true, true, false, true, false, false, false, false, false, false, false, false, false, false, false, false] rfl rfl (by kernel_rfl) (fun _ _ _ h => h) (Or.inl ⟨by rfl, ?_⟩) ?_ ?_
  rotate_left
  · intro w'
    go_simp
    with_reducible rfl
  rotate_left
  · simp only [Act.put, List.setIfInBounds_toArray, List.set_cons_zero, List.set_cons_succ, i64_w, i32_w]
    rfl
  refine pure_ (i := 7) (N := (some 13)) (v := ?_) (a' := ?_) #[true, true, true, false, true, false, false, true, false, false, false, false, false, false, false, false, false] rfl rfl (by kernel_rfl) (fun _ _ _ h => h) (Or.inl ⟨by rfl, ?_⟩) ?_ ?_
  rotate_left
  · intro w'
    go_simp
    with_reducible rfl
  rotate_left
  · simp only [Act.put, List.setIfInBounds_toArray, List.set_cons_zero, List.set_cons_succ, i64_w, i32_w]
    rfl
  refine pure_ (i := 8) (N := (some 14)) (v := ?_) (a' := ?_) #[true, true, true, false, true, false, false, true, true, false, false, false, false, false, false, false, false] rfl rfl (by kernel_rfl) (fun _ _ _ h => h) (Or.inl ⟨by rfl, ?_⟩) ?_ ?_
  rotate_left
  · intro w'
    go_simp
    with_reducible rfl
  rotate_left
  · simp only [Act.put, List.setIfInBounds_toArray, List.set_cons_zero, List.set_cons_succ, i64_w, i32_w]
    rfl
  refine pure_ (i := 9) (N := (some 15)) (v := ?_) (a' := ?_) #[true, true, true, false, true, false, false, true, true, true, false, false, false, false, false, false, false] rfl rfl (by kernel_rfl) (fun _ _ _ h => h) (Or.inl ⟨by rfl, ?_⟩) ?_ ?_
  rotate_left
  · intro w'
    go_simp
    with_reducible rfl
  rotate_left
  · simp only [Act.put, List.setIfInBounds_toArray, List.set_cons_zero, List.set_cons_succ, i64_w, i32_w]
    rfl
  refine pure_ (i := 11) (N := (some 17)) (v := ?_) (a' := ?_) #[true, true, true, false, true, false, false, true, true, true, false, true, false, false, false, false, false] rfl rfl (by kernel_rfl) (fun _ _ _ h => h) (Or.inl ⟨by rfl, ?_⟩) ?_ ?_
  rotate_left
  · intro w'
    go_simp
    with_reducible rfl
  rotate_left
  · simp only [Act.put, List.setIfInBounds_toArray, List.set_cons_zero, List.set_cons_succ, i64_w, i32_w]
    rfl
  refine pure_ (i := 12) (N := (some 18)) (v := ?_) (a' := ?_) #[true, true, true, false, true, false, false, true, true, true, false, true, true, false, false, false, false] rfl rfl (by kernel_rfl) (fun _ _ _ h => h) (Or.inl ⟨by rfl, ?_⟩) ?_ ?_
  rotate_left
  · intro w'
    go_simp
    with_reducible rfl
  rotate_left
  · simp only [Act.put, List.setIfInBounds_toArray, List.set_cons_zero, List.set_cons_succ, i64_w, i32_w]
    rfl
  refine take_ (i := 3) (N := (some 9)) (v := ?_) (a' := ?_) #[true, true, true, true, true, false, false, true, true, true, false, true, true, false, false, false, false] rfl rfl (by kernel_rfl) (fun _ _ _ h => h) (Or.inl ⟨by rfl, ?_⟩) hHeld ?_ ?_
  rotate_left
  · rintro w' ⟨s0, s1, s2⟩
    go_simp
    with_reducible rfl
  rotate_left
  · simp only [Act.put, List.setIfInBounds_toArray, List.set_cons_zero, List.set_cons_succ, i64_w, i32_w]
    rfl
  refine pure_ (i := 5) (N := (some 11)) (v := ?_) (a' := ?_) #[true, true, true, true, true, true, false, true, true, true, false, true, true, false, false, false, false] rfl rfl (by kernel_rfl) (fun _ _ _ h => h) (Or.inl ⟨by rfl, ?_⟩) ?_ ?_
  rotate_left
  · intro w'
    go_simp
    with_reducible rfl
  rotate_left
  · simp only [Act.put, List.setIfInBounds_toArray, List.set_cons_zero, List.set_cons_succ, i64_w, i32_w]
    rfl
  refine take_ (i := 6) (N := (some 12)) (v := ?_) (a' := ?_) #[true, true, true, true, true, true, true, true, true, true, false, true, true, false, false, false, false] rfl rfl (by kernel_rfl) (fun _ _ _ h => h) (Or.inl ⟨by rfl, ?_⟩) hHeld ?_ ?_
  rotate_left
  · rintro w' ⟨s0, s1, s2⟩
    go_simp
    with_reducible rfl
  rotate_left
  · simp only [Act.put, List.setIfInBounds_toArray, List.set_cons_zero, List.set_cons_succ, i64_w, i32_w]
    rfl
  refine pure_ (i := 15) (N := (some 4)) (v := ?_) (a' := ?_) #[true, true, true, true, true, true, true, true, true, true, false, true, true, false, false, true, false] rfl rfl (by kernel_rfl) (fun _ _ _ h => h) (Or.inl ⟨by rfl, ?_⟩) ?_ ?_
  rotate_left
  · intro w'
    go_simp
    with_reducible rfl
  rotate_left
  · simp only [Act.put, List.setIfInBounds_toArray, List.set_cons_zero, List.set_cons_succ, i64_w, i32_w]
    rfl
  refine take_ (i := 10) (N := (some 16)) (v := ?_) (a' := ?_) #[true, true, true, true, true, true, true, true, true, true, true, true, true, false, false, true, false] rfl rfl (by kernel_rfl) (fun _ _ _ h => h) (Or.inl ⟨by rfl, ?_⟩) hHeld ?_ ?_
  rotate_left
  · rintro w' ⟨s0, s1, s2⟩
    go_simp
    with_reducible rfl
  rotate_left
  · simp only [Act.put, List.setIfInBounds_toArray, List.set_cons_zero, List.set_cons_succ, i64_w, i32_w]
    rfl
  refine pure_ (i := 13) (N := (some 19)) (v := ?_) (a' := ?_) #[true, true, true, true, true, true, true, true, true, true, true, true, true, true, false, true, false] rfl rfl (by kernel_rfl) (fun _ _ _ h => h) (Or.inl ⟨by rfl, ?_⟩) ?_ ?_
  rotate_left
  · intro w'
    go_simp
    with_reducible rfl
  rotate_left
  · simp only [Act.put, List.setIfInBounds_toArray, List.set_cons_zero, List.set_cons_succ, i64_w, i32_w]
    rfl
  refine take_ (i := 14) (N := (some 20)) (v := ?_) (a' := ?_) #[true, true, true, true, true, true, true, true, true, true, true, true, true, true, true, true, false] rfl rfl (by kernel_rfl) (fun _ _ _ h => h) (Or.inl ⟨by rfl, ?_⟩) hHeld ?_ ?_
  rotate_left
  · rintro w' ⟨s0, s1, s2⟩
    go_simp
    with_reducible rfl
  rotate_left
  · simp only [Act.put, List.setIfInBounds_toArray, List.set_cons_zero, List.set_cons_succ, i64_w, i32_w]
    rfl
  refine pure_ (i := 16) (N := (some 5)) (v := ?_) (a' := ?_) #[true, true, true, true, true, true, true, true, true, true, true, true, true, true, true, true, true] rfl rfl (by kernel_rfl) (fun _ _ _ h => h) (Or.inl ⟨by rfl, ?_⟩) ?_ ?_
  rotate_left
  · intro w'
    go_simp
    with_reducible rfl
  rotate_left
  · simp only [Act.put, List.setIfInBounds_toArray, List.set_cons_zero, List.set_cons_succ, i64_w, i32_w]
    rfl
  refine done_ (by kernel_rfl) ?_
  go_wp2_with (first
    | (go_at_call 30; refine (leaf_calls _ a Ka none 0 0 (HS1.out.node 3 rfl)).mono ?_; rintro E w1 ⟨rfl, rfl⟩))
  refine start_ (n := 16) (S := fun w' => w'.cell? ⟨a, 0, none⟩ = some (Ka) ∧ w'.cell? ⟨b, 0, none⟩ = some (.slice (some ⟨gb, 0, none⟩) nb capb) ∧ w'.cell? ⟨gb, 0, none⟩ = some (.string x.f0) ∧ w'.cell? ⟨gb, 1, none⟩ = some (.int .i64 x.f1.f0) ∧ w'.cell? ⟨gb, 2, none⟩ = some (.int .i64 x.f1.f1)) (ds := [15]) #[false, false, false, false, false, false, false, false, false, false, false, false, false, false, false, false] (by kernel_rfl) rfl rfl ⟨(HS1.out.node 3 rfl).c0, (HS1.out.node 6 rfl).c0, (RowE.first (HS1.out.rowE 7 rfl)).1, (RowE.first (HS1.out.rowE 7 rfl)).2.1, (RowE.first (HS1.out.rowE 7 rfl)).2.2⟩ (fun hHeld => ?_)
  have HS2 := Aside0.mk (HS1.out.drew)
  clear HS1
  generalize w1.drew = w2 at HS2 hHeld  ⊢
  refine pure_ (i := 0) (N := (some 23)) (v := ?_) (a' := ?_) #[true, false, false, false, false, false, false, false, false, false, false, false, false, false, false, false] rfl rfl (by kernel_rfl) (fun _ _ _ h => h) (Or.inl ⟨by rfl, ?_⟩) ?_ ?_
  rotate_left
  · intro w'
    go_simp
    with_reducible rfl
  rotate_left
  · simp only [Act.put, List.setIfInBounds_toArray, List.set_cons_zero, List.set_cons_succ, i64_w, i32_w]
    rfl
  refine pure_ (i := 1) (N := (some 24)) (v := ?_) (a' := ?_) #[true, true, false, false, false, false, false, false, false, false, false, false, false, false, false, false] rfl rfl (by kernel_rfl) (fun _ _ _ h => h) (Or.inl ⟨by rfl, ?_⟩) ?_ ?_
  rotate_left
  · intro w'
    go_simp
    with_reducible rfl
  rotate_left
  · simp only [Act.put, List.setIfInBounds_toArray, List.set_cons_zero, List.set_cons_succ, i64_w, i32_w]
    rfl
  refine pure_ (i := 2) (N := (some 25)) (v := ?_) (a' := ?_) #[true, true, true, false, false, false, false, false, false, false, false, false, false, false, false, false] rfl rfl (by kernel_rfl) (fun _ _ _ h => h) (Or.inl ⟨by rfl, ?_⟩) ?_ ?_
  rotate_left
  · intro w'
    go_simp
    with_reducible rfl
  rotate_left
  · simp only [Act.put, List.setIfInBounds_toArray, List.set_cons_zero, List.set_cons_succ, i64_w, i32_w]
    rfl
  refine pure_ (i := 3) (N := (some 26)) (v := ?_) (a' := ?_) #[true, true, true, true, false, false, false, false, false, false, false, false, false, false, false, false] rfl rfl (by kernel_rfl) (fun _ _ _ h => h) (Or.inl ⟨by rfl, ?_⟩) ?_ ?_
  rotate_left
  · intro w'
    go_simp
    with_reducible rfl
  rotate_left
  · simp only [Act.put, List.setIfInBounds_toArray, List.set_cons_zero, List.set_cons_succ, i64_w, i32_w]
    rfl
  refine pure_ (i := 5) (N := (some 28)) (v := ?_) (a' := ?_) #[true, true, true, true, false, true, false, false, false, false, false, false, false, false, false, false] rfl rfl (by kernel_rfl) (fun _ _ _ h => h) (Or.inl ⟨by rfl, ?_⟩) ?_ ?_
  rotate_left
  · intro w'
    go_simp
    with_reducible rfl
  rotate_left
  · simp only [Act.put, List.setIfInBounds_toArray, List.set_cons_zero, List.set_cons_succ, i64_w, i32_w]
    rfl
  refine pure_ (i := 6) (N := (some 29)) (v := ?_) (a' := ?_) #[true, true, true, true, false, true, true, false, false, false, false, false, false, false, false, false] rfl rfl (by kernel_rfl) (fun _ _ _ h => h) (Or.inl ⟨by rfl, ?_⟩) ?_ ?_
  rotate_left
  · intro w'
    go_simp
    with_reducible rfl
  rotate_left
  · simp only [Act.put, List.setIfInBounds_toArray, List.set_cons_zero, List.set_cons_succ, i64_w, i32_w]
    rfl
  refine pure_ (i := 7) (N := (some 30)) (v := ?_) (a' := ?_) #[true, true, true, true, false, true, true, true, false, false, false, false, false, false, false, false] rfl rfl (by kernel_rfl) (fun _ _ _ h => h) (Or.inl ⟨by rfl, ?_⟩) ?_ ?_
  rotate_left
  · intro w'
    go_simp
    with_reducible rfl
  rotate_left
  · simp only [Act.put, List.setIfInBounds_toArray, List.set_cons_zero, List.set_cons_succ, i64_w, i32_w]
    rfl
  refine take_ (i := 4) (N := (some 27)) (v := ?_) (a' := ?_) #[true, true, true, true, true, true, true, true, false, false, false, false, false, false, false, false] rfl rfl (by kernel_rfl) (fun _ _ _ h => h) (Or.inl ⟨by rfl, ?_⟩) hHeld ?_ ?_
  rotate_left
  · rintro w' ⟨s0, s1, s2, s3, s4⟩
    go_simp
    with_reducible rfl
  rotate_left
  · simp only [Act.put, List.setIfInBounds_toArray, List.set_cons_zero, List.set_cons_succ, i64_w, i32_w]
    rfl
  refine take_ (i := 8) (N := (some 31)) (v := ?_) (a' := ?_) #[true, true, true, true, true, true, true, true, true, false, false, false, false, false, false, false] rfl rfl (by kernel_rfl) (fun _ _ _ h => h) (Or.inl ⟨by rfl, ?_⟩) hHeld ?_ ?_
  rotate_left
  · rintro w' ⟨s0, s1, s2, s3, s4⟩
    go_simp
    with_reducible rfl
  rotate_left
  · simp only [Act.put, List.setIfInBounds_toArray, List.set_cons_zero, List.set_cons_succ, i64_w, i32_w]
    rfl
  refine pure_ (i := 9) (N := (some 32)) (v := ?_) (a' := ?_) #[true, true, true, true, true, true, true, true, true, true, false, false, false, false, false, false] rfl rfl (by kernel_rfl) (fun _ _ _ h => h) (Or.inl ⟨by rfl, ?_⟩) ?_ ?_
  rotate_left
  · intro w'
    go_simp
    with_reducible rfl
  rotate_left
  · simp only [Act.put, List.setIfInBounds_toArray, List.set_cons_zero, List.set_cons_succ, i64_w, i32_w]
    rfl
  refine take_ (i := 10) (N := (some 33)) (v := ?_) (a' := ?_) #[true, true, true, true, true, true, true, true, true, true, true, false, false, false, false, false] rfl rfl (by kernel_rfl) (fun _ _ _ h => h) (Or.inl ⟨by rfl, ?_⟩) hHeld ?_ ?_
  rotate_left
  · rintro w' ⟨s0, s1, s2, s3, s4⟩
    go_simp
    with_reducible rfl
  rotate_left
  · simp only [Act.put, List.setIfInBounds_toArray, List.set_cons_zero, List.set_cons_succ, i64_w, i32_w]
    rfl
  refine one_ (i := 11) (N := (some 34)) #[true, true, true, true, true, true, true, true, true, true, true, true, false, false, false, false] rfl rfl (by kernel_rfl) (by decide) (fun K_ hK => ?_)
  obtain ⟨v1, hv1⟩ : ∃ v : Nat, w2.heap.size = v := ⟨_, rfl⟩
  refine made_ (v := .slice (some ⟨w2.heap.size, 0, none⟩) 1 1) (w1 := w2.alloc (.cells #[.string x.f0, .int .i64 x.f1.f0, .int .i64 x.f1.f1] 29)) (by rfl) rfl (by go_simp) ?_
  have HS3 := Aside0.mk (HS2.out.alloc #[.string x.f0, .int .i64 x.f1.f0, .int .i64 x.f1.f1] 29 hv1)
  clear HS2
  rw [hv1]
  clear hv1
  clear hHeld
  refine hK.out _ _ ⟨(HS3.out.node 3 rfl).c0, (HS3.out.node 6 rfl).c0, (RowE.first (HS3.out.rowE 7 rfl)).1, (RowE.first (HS3.out.rowE 7 rfl)).2.1, (RowE.first (HS3.out.rowE 7 rfl)).2.2⟩ (fun hHeld => ?_)
  clear hK K_
  generalize w2.alloc (.cells #[.string x.f0, .int .i64 x.f1.f0, .int .i64 x.f1.f1] 29) = w3 at HS3 hHeld  ⊢
  refine norm_ (a' := ?_) ?_ ?_
  rotate_left
  · show Act.put _ (some 34) _ = _
    simp only [Act.put, List.setIfInBounds_toArray, List.set_cons_zero, List.set_cons_succ, i64_w, i32_w]
    rfl
  refine one_ (i := 12) (N := (some 35)) #[true, true, true, true, true, true, true, true, true, true, true, true, true, false, false, false] rfl rfl (by kernel_rfl) (by decide) (fun K_ hK => ?_)
  obtain ⟨g_v1, c_v1, w4, hrun, hrow, hgrow, hown⟩ := appendE _ Ka ka x v1 _ (HS3.out.rowE 4 rfl) (HS3.out.blk 9 rfl) (by omega)
  refine appended_ (.tmp 27) (.tmp 34) 22 22 (by rfl) rfl rfl Ka (.slice (some ⟨v1, 0, none⟩) 1 1) (by rfl) (by rfl) hrun ?_
  clear hrun
  have HS4 := Aside0.mk (HS3.out.setE 4 rfl hgrow hrow hown)
  clear HS3
  clear hrow hgrow hown
  clear hHeld
  refine hK.out _ _ ⟨(HS4.out.node 3 rfl).c0, (HS4.out.node 6 rfl).c0, (RowE.first (HS4.out.rowE 7 rfl)).1, (RowE.first (HS4.out.rowE 7 rfl)).2.1, (RowE.first (HS4.out.rowE 7 rfl)).2.2⟩ (fun hHeld => ?_)
  clear hK K_
  refine norm_ (a' := ?_) ?_ ?_
  rotate_left
  · show Act.put _ (some 35) _ = _
    simp only [Act.put, List.setIfInBounds_toArray, List.set_cons_zero, List.set_cons_succ, i64_w, i32_w]
    rfl
  refine pure_ (i := 13) (N := (some 36)) (v := ?_) (a' := ?_) #[true, true, true, true, true, true, true, true, true, true, true, true, true, true, false, false] rfl rfl (by kernel_rfl) (fun _ _ _ h => h) (Or.inl ⟨by rfl, ?_⟩) ?_ ?_
  rotate_left
  · intro w'
    go_simp
    with_reducible rfl
  rotate_left
  · simp only [Act.put, List.setIfInBounds_toArray, List.set_cons_zero, List.set_cons_succ, i64_w, i32_w]
    rfl
  refine pure_ (i := 14) (N := (some 37)) (v := ?_) (a' := ?_) #[true, true, true, true, true, true, true, true, true, true, true, true, true, true, true, false] rfl rfl (by kernel_rfl) (fun _ _ _ h => h) (Or.inl ⟨by rfl, ?_⟩) ?_ ?_
  rotate_left
  · intro w'
    go_simp
    with_reducible rfl
  rotate_left
  · simp only [Act.put, List.setIfInBounds_toArray, List.set_cons_zero, List.set_cons_succ, i64_w, i32_w]
    rfl
  refine last_ (i := 15) (N := none) #[true, true, true, true, true, true, true, true, true, true, true, true, true, true, true, true] rfl rfl (by kernel_rfl) (by decide) (fun K_ hK => ?_)
  have c_0 := (HS4.out.node 3 rfl).c0
  have c_1 := (HS4.out.node 3 rfl).fz 0
  refine skip_ (w1 := ?_) (by rfl) rfl ?_ ?_
  rotate_left
  · go_simp
    rfl
  refine hK.out _ _ ?_
  clear hK K_ hHeld c_0 c_1
  refine done_ (by kernel_rfl) ?_
  have HS5 := Aside0.mk (HS4.out.put0 3 rfl (.slice (some ⟨g_v1, 0, none⟩) (ka.length + 1) c_v1))
  clear HS4
  generalize w4.setCell ⟨a, 0, none⟩ (.slice (some ⟨g_v1, 0, none⟩) (ka.length + 1) c_v1) = w5 at HS5 ⊢
  have c0 := (HS5.out.node 6 rfl).c0
  go_wp2_with (first
    | (go_at_call 49; refine (deleteE _ gb nb capb 0 _ 0 1 (HS5.out.rowE 7 rfl) HNB.out hb1 (by omega) rfl rfl).mono ?_; clear c0; rintro E w6 ⟨rfl, hrow, hgrow⟩; have HS6 := Aside0.mk (HS5.out.setE 7 rfl hgrow hrow (.inl rfl)); clear HS5; clear hrow hgrow; have c0 := (HS6.out.node 6 rfl).c0; have f0 := (HS6.out.node 6 rfl).fz 0))
  have HS7 := Aside0.mk (HS6.out.put0 6 rfl (.slice (some ⟨gb, 0, none⟩) (nb - 1) capb))
  clear HS6
  generalize w6.setCell ⟨b, 0, none⟩ (.slice (some ⟨gb, 0, none⟩) (nb - 1) capb) = w7 at HS7 ⊢
  clear c0 f0
  have hd : delAt (x :: y :: kb) 0 = y :: kb := rfl
  rw [hd] at HS7
  clear hd
  refine start_ (n := 13) (S := fun w' => w'.cell? ⟨p, 0, none⟩ = some (.slice (some ⟨gk, 0, none⟩) nk capK) ∧ w'.cell? ⟨b, 0, none⟩ = some (.slice (some ⟨gb, 0, none⟩) (nb - 1) capb) ∧ w'.cell? ⟨gb, 0, none⟩ = some (.string y.f0) ∧ w'.cell? ⟨gb, 1, none⟩ = some (.int .i64 y.f1.f0) ∧ w'.cell? ⟨gb, 2, none⟩ = some (.int .i64 y.f1.f1)) (ds := [12]) #[false, false, false, false, false, false, false, false, false, false, false, false, false] (by kernel_rfl) rfl rfl ⟨(HS7.out.node 0 rfl).c0, (HS7.out.node 6 rfl).c0, (RowE.first (HS7.out.rowE 7 rfl)).1, (RowE.first (HS7.out.rowE 7 rfl)).2.1, (RowE.first (HS7.out.rowE 7 rfl)).2.2⟩ (fun hHeld => ?_)
  have HS8 := Aside0.mk (HS7.out.drew)
  clear HS7
  generalize w7.drew = w8 at HS8 hHeld  ⊢
  refine pure_ (i := 0) (N := (some 46)) (v := ?_) (a' := ?_) #[true, false, false, false, false, false, false, false, false, false, false, false, false] rfl rfl (by kernel_rfl) (fun _ _ _ h => h) (Or.inl ⟨by rfl, ?_⟩) ?_ ?_
  rotate_left
  · intro w'
    go_simp
    with_reducible rfl
  rotate_left
  · simp only [Act.put, List.setIfInBounds_toArray, List.set_cons_zero, List.set_cons_succ, i64_w, i32_w]
    rfl
  refine pure_ (i := 1) (N := (some 47)) (v := ?_) (a' := ?_) #[true, true, false, false, false, false, false, false, false, false, false, false, false] rfl rfl (by kernel_rfl) (fun _ _ _ h => h) (Or.inl ⟨by rfl, ?_⟩) ?_ ?_
  rotate_left
  · intro w'
    go_simp
    with_reducible rfl
  rotate_left
  · simp only [Act.put, List.setIfInBounds_toArray, List.set_cons_zero, List.set_cons_succ, i64_w, i32_w]
    rfl
  refine pure_ (i := 2) (N := (some 48)) (v := ?_) (a' := ?_) #[true, true, true, false, false, false, false, false, false, false, false, false, false] rfl rfl (by kernel_rfl) (fun _ _ _ h => h) (Or.inl ⟨by rfl, ?_⟩) ?_ ?_
  rotate_left
  · intro w'
    go_simp
    with_reducible rfl
  rotate_left
  · simp only [Act.put, List.setIfInBounds_toArray, List.set_cons_zero, List.set_cons_succ, i64_w, i32_w]
    rfl
  refine pure_ (i := 4) (N := (some 50)) (v := ?_) (a' := ?_) #[true, true, true, false, true, false, false, false, false, false, false, false, false] rfl rfl (by kernel_rfl) (fun _ _ _ h => h) (Or.inl ⟨by rfl, ?_⟩) ?_ ?_
  rotate_left
  · intro w'
    go_simp
    with_reducible rfl
  rotate_left
  · simp only [Act.put, List.setIfInBounds_toArray, List.set_cons_zero, List.set_cons_succ, i64_w, i32_w]
    rfl
  refine pure_ (i := 5) (N := (some 51)) (v := ?_) (a' := ?_) #[true, true, true, false, true, true, false, false, false, false, false, false, false] rfl rfl (by kernel_rfl) (fun _ _ _ h => h) (Or.inl ⟨by rfl, ?_⟩) ?_ ?_
  rotate_left
  · intro w'
    go_simp
    with_reducible rfl
  rotate_left
  · simp only [Act.put, List.setIfInBounds_toArray, List.set_cons_zero, List.set_cons_succ, i64_w, i32_w]
    rfl
  refine pure_ (i := 6) (N := (some 52)) (v := ?_) (a' := ?_) #[true, true, true, false, true, true, true, false, false, false, false, false, false] rfl rfl (by kernel_rfl) (fun _ _ _ h => h) (Or.inl ⟨by rfl, ?_⟩) ?_ ?_
  rotate_left
  · intro w'
    go_simp
    with_reducible rfl
  rotate_left
  · simp only [Act.put, List.setIfInBounds_toArray, List.set_cons_zero, List.set_cons_succ, i64_w, i32_w]
    rfl
  refine pure_ (i := 7) (N := (some 53)) (v := ?_) (a' := ?_) #[true, true, true, false, true, true, true, true, false, false, false, false, false] rfl rfl (by kernel_rfl) (fun _ _ _ h => h) (Or.inl ⟨by rfl, ?_⟩) ?_ ?_
  rotate_left
  · intro w'
    go_simp
    with_reducible rfl
  rotate_left
  · simp only [Act.put, List.setIfInBounds_toArray, List.set_cons_zero, List.set_cons_succ, i64_w, i32_w]
    rfl
  refine take_ (i := 3) (N := (some 49)) (v := ?_) (a' := ?_) #[true, true, true, true, true, true, true, true, false, false, false, false, false] rfl rfl (by kernel_rfl) (fun _ _ _ h => h) (Or.inl ⟨by rfl, ?_⟩) hHeld ?_ ?_
  rotate_left
  · rintro w' ⟨s0, s1, s2, s3, s4⟩
    go_simp
    with_reducible rfl
  rotate_left
  · simp only [Act.put, List.setIfInBounds_toArray, List.set_cons_zero, List.set_cons_succ, i64_w, i32_w]
    rfl
  refine take_ (i := 8) (N := (some 54)) (v := ?_) (a' := ?_) #[true, true, true, true, true, true, true, true, true, false, false, false, false] rfl rfl (by kernel_rfl) (fun _ _ _ h => h) (Or.inl ⟨by rfl, ?_⟩) hHeld ?_ ?_
  rotate_left
  · rintro w' ⟨s0, s1, s2, s3, s4⟩
    go_simp
    with_reducible rfl
  rotate_left
  · simp only [Act.put, List.setIfInBounds_toArray, List.set_cons_zero, List.set_cons_succ, i64_w, i32_w]
    rfl
  refine pure_ (i := 9) (N := (some 55)) (v := ?_) (a' := ?_) #[true, true, true, true, true, true, true, true, true, true, false, false, false] rfl rfl (by kernel_rfl) (fun _ _ _ h => h) (Or.inl ⟨by rfl, ?_⟩) ?_ ?_
  rotate_left
  · intro w'
    go_simp
    with_reducible rfl
  rotate_left
  · simp only [Act.put, List.setIfInBounds_toArray, List.set_cons_zero, List.set_cons_succ, i64_w, i32_w]
    rfl
  refine take_ (i := 10) (N := (some 56)) (v := ?_) (a' := ?_) #[true, true, true, true, true, true, true, true, true, true, true, false, false] rfl rfl (by kernel_rfl) (fun _ _ _ h => h) (Or.inl ⟨by rfl, ?_⟩) hHeld ?_ ?_
  rotate_left
  · rintro w' ⟨s0, s1, s2, s3, s4⟩
    go_simp
    with_reducible rfl
  rotate_left
  · simp only [Act.put, List.setIfInBounds_toArray, List.set_cons_zero, List.set_cons_succ, i64_w, i32_w]
    rfl
  refine pure_ (i := 11) (N := (some 57)) (v := ?_) (a' := ?_) #[true, true, true, true, true, true, true, true, true, true, true, true, false] rfl rfl (by kernel_rfl) (fun _ _ _ h => h) (Or.inl ⟨by rfl, ?_⟩) ?_ ?_
  rotate_left
  · intro w'
    go_simp
    with_reducible rfl
  rotate_left
  · simp only [Act.put, List.setIfInBounds_toArray, List.set_cons_zero, List.set_cons_succ, i64_w, i32_w]
    rfl
  refine last_ (i := 12) (N := none) #[true, true, true, true, true, true, true, true, true, true, true, true, true] rfl rfl (by kernel_rfl) (by decide) (fun K_ hK => ?_)
  have c_0 := RowE.cells (HS8.out.rowE 1 rfl) i (by rw [HNK.out]; exact hk)
  obtain ⟨d_0, d_1, d_2⟩ := c_0
  have c_1 := (HS8.out.rowE 1 rfl).frozen (by rw [← HNK.out]) (i * 3)
  have c_2 := (HS8.out.rowE 1 rfl).frozen (by rw [← HNK.out]) (i * 3 + 1)
  have c_3 := (HS8.out.rowE 1 rfl).frozen (by rw [← HNK.out]) (i * 3 + 2)
  refine skip_ (w1 := ?_) (by rfl) rfl ?_ ?_
  rotate_left
  · go_simp
    rfl
  refine hK.out _ _ ?_
  clear hK K_ hHeld d_0 d_1 d_2 c_1 c_2 c_3
  refine done_ (by kernel_rfl) ?_
  have HS9 := Aside0.mk (HS8.out.putE 1 rfl i y (by rw [HNK.out]; exact hk))
  clear HS8
  generalize ((w8.setCell ⟨gk, i * 3, none⟩ (.string y.f0)).setCell ⟨gk, i * 3 + 1, none⟩ (.int .i64 y.f1.f0)).setCell ⟨gk, i * 3 + 2, none⟩ (.int .i64 y.f1.f1) = w9 at HS9 ⊢
  go_wp2
  go_end0
  rw [← HR.out]
  have hl := Aside0.mk ((HS9.out.left : St _ _ _ (par3 p _ _ _ _ a _ _ _ _ b _ _ _ _)))
  exact ⟨_, _, _, _, rfl, fun _ => ⟨rfl, rfl⟩, hl.out⟩
set_option maxHeartbeats 4000000 in
theorem fromRight_inner (w : World) (p a b : Nat) (K C Ka Kb Ca Cb : Value) (ks : List S29) (ps : List Value) (i : Nat) (x z : S29) (ka kb : List S29) (A : Option Addr) (pa pb : List Value) (F : Nat → Prop) (hs : St w F w (par3 p K C ks ps a Ka Ca ka pa b Kb Cb (x :: kb) (.pointer A :: pb)))
    (hi : i + 1 < ps.length) (hpa : ps[i]? = some (.pointer (some ⟨a, 0, none⟩))) (hpb : ps[i + 1]? = some (.pointer (some ⟨b, 0, none⟩))) (hps : ps.length < 1000) (hk : i < ks.length) (hks : ks.length < 1000) (hka : (ka).length < 1000) (hkb : ((x :: kb)).length < 1000) (hpal : (pa : List Value).length < 1000) (hpbl : ((.pointer A :: pb) : List Value).length < 1000) (hz : ks[i]? = some z) (hpa0 : 0 < pa.length) :
    Calls Try.prog 63 #[.pointer (some ⟨p, 0, none⟩), .int .i64 i] w (Par3Post w F p K C (ks.set i x) ps a (ka ++ [z]) (pa ++ [.pointer A]) b kb pb false) := by
  have hu29 := Try.underlying29
  have hu62 := Try.underlying62
  obtain ⟨gc, capC, rfl, hcapC⟩ := rowP_form (hs.rowP 2 rfl) (by omega)
  obtain ⟨gk, capK, rfl, hcapK⟩ := (hs.rowE 1 rfl).formS (by omega)
  obtain ⟨gb, capb, rfl, hcapb⟩ := (hs.rowE 7 rfl).formS (by simp)
  obtain ⟨gd, capd, rfl, hcapd⟩ := rowP_form (hs.rowP 8 rfl) (by simp)
  obtain ⟨Aa, cpa, hCa⟩ := rowP_slice (hs.rowP 5 rfl)
  have HLA := Aside0.mk (fun w' (h : NodeAt w' a Ka Ca) => leaf_no w' a Ka Aa pa.length cpa (by rw [← hCa]; exact h) (by omega))
  obtain ⟨nb, hnb⟩ : ∃ n, (x :: kb).length = n := ⟨_, rfl⟩
  obtain ⟨nd, hnd⟩ : ∃ n, (Value.pointer A :: pb).length = n := ⟨_, rfl⟩
  rw [hnb, hnd] at hs
  rw [hnb] at hkb hcapb
  rw [hnd] at hpbl hcapd
  have HNB := Aside0.mk hnb
  have HND := Aside0.mk hnd
  have HZ := Aside0.mk hz
  have hb1 : 0 < nb := by rw [← hnb]; simp
  have hb0 : (0 : Int) < (nb : Int) := by omega
  have hd1 : 0 < nd := by rw [← hnd]; simp
  have hd0 : (0 : Int) < (nd : Int) := by omega
  have HPA := Aside0.mk hpa
  have HPB := Aside0.mk hpb
  obtain ⟨n, hn⟩ : ∃ n, ps.length = n := ⟨_, rfl⟩
  obtain ⟨nk, hnk⟩ : ∃ n, ks.length = n := ⟨_, rfl⟩
  rw [hn, hnk] at hs
  rw [hn] at hi hps hcapC
  rw [hnk] at hk hks hcapK
  have HN := Aside0.mk hn
  have HNK := Aside0.mk hnk
  obtain ⟨R, hR⟩ : ∃ R, (Par3Post w F p (.slice (some ⟨gk, 0, none⟩) nk capK) (.slice (some ⟨gc, 0, none⟩) n capC) (ks.set i x) ps a (ka ++ [z]) (pa ++ [.pointer A]) b kb pb false) = R := ⟨_, rfl⟩
  have HR := Aside0.mk hR
  try rw [hn, hnk]
  show Calls _ _ _ _ (Par3Post w F p (.slice (some ⟨gk, 0, none⟩) nk capK) (.slice (some ⟨gc, 0, none⟩) n capC) (ks.set i x) ps a (ka ++ [z]) (pa ++ [.pointer A]) b kb pb false)
  rw [hR]
  clear hR
  have HS := Aside0.mk hs
  have hi0 : (0 : Int) ≤ (i : Int) := by omega
  have hi1 : (i : Int) < (n : Int) := by omega
  have hi2 : (0 : Int) ≤ (i : Int) + 1 := by omega
  have hi3 : (i : Int) + 1 < (n : Int) := by omega
  have hik : (i : Int) < (nk : Int) := by omega
  have hw1 : IntKind.i64.wrap ((i : Int) + 1) = (i : Int) + 1 := by rw [IntKind.wrap_i64]; omega
  have htn : ((i : Int) + 1).toNat = i + 1 := by omega
  clear hs hpa hpb hn hnk hnb hnd hz hCa
  go_enter Try.func63, Try.ntmps63
  go_wp2
  refine start_ (n := 17) (S := fun w' => w'.cell? ⟨p, 1, none⟩ = some (.slice (some ⟨gc, 0, none⟩) n capC) ∧ w'.cell? ⟨gc, i, none⟩ = some (.pointer (some ⟨a, 0, none⟩)) ∧ w'.cell? ⟨gc, i + 1, none⟩ = some (.pointer (some ⟨b, 0, none⟩))) (ds := []) #[false, false, false, false, false, false, false, false, false, false, false, false, false, false, false, false, false] (by kernel_rfl) rfl rfl ⟨(HS.out.node 0 rfl).c1, (HS.out.rowP 2 rfl).cell (by rw [← HN.out]) i _ HPA.out, (HS.out.rowP 2 rfl).cell (by rw [← HN.out]) (i + 1) _ HPB.out⟩ (fun hHeld => ?_)
  have HS1 := Aside0.mk (HS.out.drew)
  clear HS
  generalize w.drew = w1 at HS1 hHeld  ⊢
  refine pure_ (i := 0) (N := (some 6)) (v := ?_) (a' := ?_) #[true, false, false, false, false, false, false, false, false, false, false, false, false, false, false, false, false] rfl rfl (by kernel_rfl) (fun _ _ _ h => h) (Or.inl ⟨by rfl, ?_⟩) ?_ ?_
  rotate_left
  · intro w'
    go_simp
    with_reducible rfl
  rotate_left
  · simp only [Act.put, List.setIfInBounds_toArray, List.set_cons_zero, List.set_cons_succ, i64_w, i32_w]
    rfl
  refine pure_ (i := 1) (N := (some 7)) (v := ?_) (a' := ?_) #[true, true, false, false, false, false, false, false, false, false, false, false, false, false, false, false, false] rfl rfl (by kernel_rfl) (fun _ _ _ h => h) (Or.inl ⟨by rfl, ?_⟩) ?_ ?_
  rotate_left
  · intro w'
    go_simp
    with_reducible rfl
  rotate_left
  · simp only [Act.put, List.setIfInBounds_toArray, List.set_cons_zero, List.set_cons_succ, i64_w, i32_w]
    rfl
  refine pure_ (i := 2) (N := (some 8)) (v := ?_) (a' := ?_) #[true, true, true, false, false, false, false, false, false, false, false, false, false, false, false, false, false] rfl rfl (by kernel_rfl) (fun _ _ _ h => h) (Or.inl ⟨by rfl, ?_⟩) ?_ ?_
  rotate_left
  · intro w'
    go_simp
    with_reducible rfl
  rotate_left
  · simp only [Act.put, List.setIfInBounds_toArray, List.set_cons_zero, List.set_cons_succ, i64_w, i32_w]
    rfl
  refine pure_ (i := 4) (N := (some 10)) (v := ?_) (a' := ?_) #[true, true, true, false, true, false, false, false, false, false, false, false, false, false, false, false, false] rfl rfl (by kernel_rfl) (fun _ _ _ h => h) (Or.inl ⟨by rfl, ?_⟩) ?_ ?_
  rotate_left
  · intro w'
    go_simp
    with_reducible rfl
  rotate_left
  · simp only [Act.put, List.setIfInBounds_toArray, List.set_cons_zero, List.set_cons_succ, i64_w, i32_w]
    rfl
  refine pure_ (i := 7) (N := (some 13)) (v := ?_) (a' := ?_) #[true, true, true, false, true, false, false, true, false, false, false, false, false, false, false, false, false] rfl rfl (by kernel_rfl) (fun _ _ _ h => h) (Or.inl ⟨by rfl, ?_⟩) ?_ ?_
  rotate_left
  · intro w'
    go_simp
    with_reducible rfl
  rotate_left
  · simp only [Act.put, List.setIfInBounds_toArray, List.set_cons_zero, List.set_cons_succ, i64_w, i32_w]
    rfl
  refine pure_ (i := 8) (N := (some 14)) (v := ?_) (a' := ?_) #[true, true, true, false, true, false, false, true, true, false, false, false, false, false, false, false, false] rfl rfl (by kernel_rfl) (fun _ _ _ h => h) (Or.inl ⟨by rfl, ?_⟩) ?_ ?_
  rotate_left
  · intro w'
    go_simp
    with_reducible rfl
  rotate_left
  · simp only [Act.put, List.setIfInBounds_toArray, List.set_cons_zero, List.set_cons_succ, i64_w, i32_w]
    rfl
  refine pure_ (i := 9) (N := (some 15)) (v := ?_) (a' := ?_) #[true, true, true, false, true, false, false, true, true, true, false, false, false, false, false, false, false] rfl rfl (by kernel_rfl) (fun _ _ _ h => h) (Or.inl ⟨by rfl, ?_⟩) ?_ ?_
  rotate_left
  · intro w'
    go_simp
    with_reducible rfl
  rotate_left
  · simp only [Act.put, List.setIfInBounds_toArray, List.set_cons_zero, List.set_cons_succ, i64_w, i32_w]
    rfl
  refine pure_ (i := 11) (N := (some 17)) (v := ?_) (a' := ?_) #[true, true, true, false, true, false, false, true, true, true, false, true, false, false, false, false, false] rfl rfl (by kernel_rfl) (fun _ _ _ h => h) (Or.inl ⟨by rfl, ?_⟩) ?_ ?_
  rotate_left
  · intro w'
    go_simp
    with_reducible rfl
  rotate_left
  · simp only [Act.put, List.setIfInBounds_toArray, List.set_cons_zero, List.set_cons_succ, i64_w, i32_w]
    rfl
  refine pure_ (i := 12) (N := (some 18)) (v := ?_) (a' := ?_) #[true, true, true, false, true, false, false, true, true, true, false, true, true, false, false, false, false] rfl rfl (by kernel_rfl) (fun _ _ _ h => h) (Or.inl ⟨by rfl, ?_⟩) ?_ ?_
  rotate_left
  · intro w'
    go_simp
    with_reducible rfl
  rotate_left
  · simp only [Act.put, List.setIfInBounds_toArray, List.set_cons_zero, List.set_cons_succ, i64_w, i32_w]
    rfl
  refine take_ (i := 3) (N := (some 9)) (v := ?_) (a' := ?_) #[true, true, true, true, true, false, false, true, true, true, false, true, true, false, false, false, false] rfl rfl (by kernel_rfl) (fun _ _ _ h => h) (Or.inl ⟨by rfl, ?_⟩) hHeld ?_ ?_
  rotate_left
  · rintro w' ⟨s0, s1, s2⟩
    go_simp
    with_reducible rfl
  rotate_left
  · simp only [Act.put, List.setIfInBounds_toArray, List.set_cons_zero, List.set_cons_succ, i64_w, i32_w]
    rfl
  refine pure_ (i := 5) (N := (some 11)) (v := ?_) (a' := ?_) #[true, true, true, true, true, true, false, true, true, true, false, true, true, false, false, false, false] rfl rfl (by kernel_rfl) (fun _ _ _ h => h) (Or.inl ⟨by rfl, ?_⟩) ?_ ?_
  rotate_left
  · intro w'
    go_simp
    with_reducible rfl
  rotate_left
  · simp only [Act.put, List.setIfInBounds_toArray, List.set_cons_zero, List.set_cons_succ, i64_w, i32_w]
    rfl
  refine take_ (i := 6) (N := (some 12)) (v := ?_) (a' := ?_) #[true, true, true, true, true, true, true, true, true, true, false, true, true, false, false, false, false] rfl rfl (by kernel_rfl) (fun _ _ _ h => h) (Or.inl ⟨by rfl, ?_⟩) hHeld ?_ ?_
  rotate_left
  · rintro w' ⟨s0, s1, s2⟩
    go_simp
    with_reducible rfl
  rotate_left
  · simp only [Act.put, List.setIfInBounds_toArray, List.set_cons_zero, List.set_cons_succ, i64_w, i32_w]
    rfl
  refine pure_ (i := 15) (N := (some 4)) (v := ?_) (a' := ?_) #[true, true, true, true, true, true, true, true, true, true, false, true, true, false, false, true, false] rfl rfl (by kernel_rfl) (fun _ _ _ h => h) (Or.inl ⟨by rfl, ?_⟩) ?_ ?_
  rotate_left
  · intro w'
    go_simp
    with_reducible rfl
  rotate_left
  · simp only [Act.put, List.setIfInBounds_toArray, List.set_cons_zero, List.set_cons_succ, i64_w, i32_w]
    rfl
  refine take_ (i := 10) (N := (some 16)) (v := ?_) (a' := ?_) #[true, true, true, true, true, true, true, true, true, true, true, true, true, false, false, true, false] rfl rfl (by kernel_rfl) (fun _ _ _ h => h) (Or.inl ⟨by rfl, ?_⟩) hHeld ?_ ?_
  rotate_left
  · rintro w' ⟨s0, s1, s2⟩
    go_simp
    with_reducible rfl
  rotate_left
  · simp only [Act.put, List.setIfInBounds_toArray, List.set_cons_zero, List.set_cons_succ, i64_w, i32_w]
    rfl
  refine pure_ (i := 13) (N := (some 19)) (v := ?_) (a' := ?_) #[true, true, true, true, true, true, true, true, true, true, true, true, true, true, false, true, false] rfl rfl (by kernel_rfl) (fun _ _ _ h => h) (Or.inl ⟨by rfl, ?_⟩) ?_ ?_
  rotate_left
  · intro w'
    go_simp
    with_reducible rfl
  rotate_left
  · simp only [Act.put, List.setIfInBounds_toArray, List.set_cons_zero, List.set_cons_succ, i64_w, i32_w]
    rfl
  refine take_ (i := 14) (N := (some 20)) (v := ?_) (a' := ?_) #[true, true, true, true, true, true, true, true, true, true, true, true, true, true, true, true, false] rfl rfl (by kernel_rfl) (fun _ _ _ h => h) (Or.inl ⟨by rfl, ?_⟩) hHeld ?_ ?_
  rotate_left
  · rintro w' ⟨s0, s1, s2⟩
    go_simp
    with_reducible rfl
  rotate_left
  · simp only [Act.put, List.setIfInBounds_toArray, List.set_cons_zero, List.set_cons_succ, i64_w, i32_w]
    rfl
  refine pure_ (i := 16) (N := (some 5)) (v := ?_) (a' := ?_) #[true, true, true, true, true, true, true, true, true, true, true, true, true, true, true, true, true] rfl rfl (by kernel_rfl) (fun _ _ _ h => h) (Or.inl ⟨by rfl, ?_⟩) ?_ ?_
  rotate_left
  · intro w'
    go_simp
    with_reducible rfl
  rotate_left
  · simp only [Act.put, List.setIfInBounds_toArray, List.set_cons_zero, List.set_cons_succ, i64_w, i32_w]
    rfl
  refine done_ (by kernel_rfl) ?_
  go_wp2_with (first
    | (go_at_call 30; refine (HLA.out _ (HS1.out.node 3 rfl)).mono ?_; rintro E w1 ⟨rfl, rfl⟩))
  refine start_ (n := 17) (S := fun w' => w'.cell? ⟨a, 0, none⟩ = some (Ka) ∧ w'.cell? ⟨p, 0, none⟩ = some (.slice (some ⟨gk, 0, none⟩) nk capK) ∧ w'.cell? ⟨gk, i * 3, none⟩ = some (.string z.f0) ∧ w'.cell? ⟨gk, i * 3 + 1, none⟩ = some (.int .i64 z.f1.f0) ∧ w'.cell? ⟨gk, i * 3 + 2, none⟩ = some (.int .i64 z.f1.f1)) (ds := [16]) #[false, false, false, false, false, false, false, false, false, false, false, false, false, false, false, false, false] (by kernel_rfl) rfl rfl ⟨(HS1.out.node 3 rfl).c0, (HS1.out.node 0 rfl).c0, (RowE.at (HS1.out.rowE 1 rfl) HZ.out).1, (RowE.at (HS1.out.rowE 1 rfl) HZ.out).2.1, (RowE.at (HS1.out.rowE 1 rfl) HZ.out).2.2⟩ (fun hHeld => ?_)
  have HS2 := Aside0.mk (HS1.out.drew)
  clear HS1
  generalize w1.drew = w2 at HS2 hHeld  ⊢
  refine pure_ (i := 0) (N := (some 58)) (v := ?_) (a' := ?_) #[true, false, false, false, false, false, false, false, false, false, false, false, false, false, false, false, false] rfl rfl (by kernel_rfl) (fun _ _ _ h => h) (Or.inl ⟨by rfl, ?_⟩) ?_ ?_
  rotate_left
  · intro w'
    go_simp
    with_reducible rfl
  rotate_left
  · simp only [Act.put, List.setIfInBounds_toArray, List.set_cons_zero, List.set_cons_succ, i64_w, i32_w]
    rfl
  refine pure_ (i := 1) (N := (some 59)) (v := ?_) (a' := ?_) #[true, true, false, false, false, false, false, false, false, false, false, false, false, false, false, false, false] rfl rfl (by kernel_rfl) (fun _ _ _ h => h) (Or.inl ⟨by rfl, ?_⟩) ?_ ?_
  rotate_left
  · intro w'
    go_simp
    with_reducible rfl
  rotate_left
  · simp only [Act.put, List.setIfInBounds_toArray, List.set_cons_zero, List.set_cons_succ, i64_w, i32_w]
    rfl
  refine pure_ (i := 2) (N := (some 60)) (v := ?_) (a' := ?_) #[true, true, true, false, false, false, false, false, false, false, false, false, false, false, false, false, false] rfl rfl (by kernel_rfl) (fun _ _ _ h => h) (Or.inl ⟨by rfl, ?_⟩) ?_ ?_
  rotate_left
  · intro w'
    go_simp
    with_reducible rfl
  rotate_left
  · simp only [Act.put, List.setIfInBounds_toArray, List.set_cons_zero, List.set_cons_succ, i64_w, i32_w]
    rfl
  refine pure_ (i := 3) (N := (some 61)) (v := ?_) (a' := ?_) #[true, true, true, true, false, false, false, false, false, false, false, false, false, false, false, false, false] rfl rfl (by kernel_rfl) (fun _ _ _ h => h) (Or.inl ⟨by rfl, ?_⟩) ?_ ?_
  rotate_left
  · intro w'
    go_simp
    with_reducible rfl
  rotate_left
  · simp only [Act.put, List.setIfInBounds_toArray, List.set_cons_zero, List.set_cons_succ, i64_w, i32_w]
    rfl
  refine pure_ (i := 5) (N := (some 63)) (v := ?_) (a' := ?_) #[true, true, true, true, false, true, false, false, false, false, false, false, false, false, false, false, false] rfl rfl (by kernel_rfl) (fun _ _ _ h => h) (Or.inl ⟨by rfl, ?_⟩) ?_ ?_
  rotate_left
  · intro w'
    go_simp
    with_reducible rfl
  rotate_left
  · simp only [Act.put, List.setIfInBounds_toArray, List.set_cons_zero, List.set_cons_succ, i64_w, i32_w]
    rfl
  refine pure_ (i := 6) (N := (some 64)) (v := ?_) (a' := ?_) #[true, true, true, true, false, true, true, false, false, false, false, false, false, false, false, false, false] rfl rfl (by kernel_rfl) (fun _ _ _ h => h) (Or.inl ⟨by rfl, ?_⟩) ?_ ?_
  rotate_left
  · intro w'
    go_simp
    with_reducible rfl
  rotate_left
  · simp only [Act.put, List.setIfInBounds_toArray, List.set_cons_zero, List.set_cons_succ, i64_w, i32_w]
    rfl
  refine pure_ (i := 7) (N := (some 65)) (v := ?_) (a' := ?_) #[true, true, true, true, false, true, true, true, false, false, false, false, false, false, false, false, false] rfl rfl (by kernel_rfl) (fun _ _ _ h => h) (Or.inl ⟨by rfl, ?_⟩) ?_ ?_
  rotate_left
  · intro w'
    go_simp
    with_reducible rfl
  rotate_left
  · simp only [Act.put, List.setIfInBounds_toArray, List.set_cons_zero, List.set_cons_succ, i64_w, i32_w]
    rfl
  refine pure_ (i := 9) (N := (some 67)) (v := ?_) (a' := ?_) #[true, true, true, true, false, true, true, true, false, true, false, false, false, false, false, false, false] rfl rfl (by kernel_rfl) (fun _ _ _ h => h) (Or.inl ⟨by rfl, ?_⟩) ?_ ?_
  rotate_left
  · intro w'
    go_simp
    with_reducible rfl
  rotate_left
  · simp only [Act.put, List.setIfInBounds_toArray, List.set_cons_zero, List.set_cons_succ, i64_w, i32_w]
    rfl
  refine take_ (i := 4) (N := (some 62)) (v := ?_) (a' := ?_) #[true, true, true, true, true, true, true, true, false, true, false, false, false, false, false, false, false] rfl rfl (by kernel_rfl) (fun _ _ _ h => h) (Or.inl ⟨by rfl, ?_⟩) hHeld ?_ ?_
  rotate_left
  · rintro w' ⟨s0, s1, s2, s3, s4⟩
    go_simp
    with_reducible rfl
  rotate_left
  · simp only [Act.put, List.setIfInBounds_toArray, List.set_cons_zero, List.set_cons_succ, i64_w, i32_w]
    rfl
  refine take_ (i := 8) (N := (some 66)) (v := ?_) (a' := ?_) #[true, true, true, true, true, true, true, true, true, true, false, false, false, false, false, false, false] rfl rfl (by kernel_rfl) (fun _ _ _ h => h) (Or.inl ⟨by rfl, ?_⟩) hHeld ?_ ?_
  rotate_left
  · rintro w' ⟨s0, s1, s2, s3, s4⟩
    go_simp
    with_reducible rfl
  rotate_left
  · simp only [Act.put, List.setIfInBounds_toArray, List.set_cons_zero, List.set_cons_succ, i64_w, i32_w]
    rfl
  refine pure_ (i := 10) (N := (some 68)) (v := ?_) (a' := ?_) #[true, true, true, true, true, true, true, true, true, true, true, false, false, false, false, false, false] rfl rfl (by kernel_rfl) (fun _ _ _ h => h) (Or.inl ⟨by rfl, ?_⟩) ?_ ?_
  rotate_left
  · intro w'
    go_simp
    with_reducible rfl
  rotate_left
  · simp only [Act.put, List.setIfInBounds_toArray, List.set_cons_zero, List.set_cons_succ, i64_w, i32_w]
    rfl
  refine take_ (i := 11) (N := (some 69)) (v := ?_) (a' := ?_) #[true, true, true, true, true, true, true, true, true, true, true, true, false, false, false, false, false] rfl rfl (by kernel_rfl) (fun _ _ _ h => h) (Or.inl ⟨by rfl, ?_⟩) hHeld ?_ ?_
  rotate_left
  · rintro w' ⟨s0, s1, s2, s3, s4⟩
    go_simp
    with_reducible rfl
  rotate_left
  · simp only [Act.put, List.setIfInBounds_toArray, List.set_cons_zero, List.set_cons_succ, i64_w, i32_w]
    rfl
  refine one_ (i := 12) (N := (some 70)) #[true, true, true, true, true, true, true, true, true, true, true, true, true, false, false, false, false] rfl rfl (by kernel_rfl) (by decide) (fun K_ hK => ?_)
  obtain ⟨v1, hv1⟩ : ∃ v : Nat, w2.heap.size = v := ⟨_, rfl⟩
  refine made_ (v := .slice (some ⟨w2.heap.size, 0, none⟩) 1 1) (w1 := w2.alloc (.cells #[.string z.f0, .int .i64 z.f1.f0, .int .i64 z.f1.f1] 29)) (by rfl) rfl (by go_simp) ?_
  have HS3 := Aside0.mk (HS2.out.alloc #[.string z.f0, .int .i64 z.f1.f0, .int .i64 z.f1.f1] 29 hv1)
  clear HS2
  rw [hv1]
  clear hv1
  clear hHeld
  refine hK.out _ _ ⟨(HS3.out.node 3 rfl).c0, (HS3.out.node 0 rfl).c0, (RowE.at (HS3.out.rowE 1 rfl) HZ.out).1, (RowE.at (HS3.out.rowE 1 rfl) HZ.out).2.1, (RowE.at (HS3.out.rowE 1 rfl) HZ.out).2.2⟩ (fun hHeld => ?_)
  clear hK K_
  generalize w2.alloc (.cells #[.string z.f0, .int .i64 z.f1.f0, .int .i64 z.f1.f1] 29) = w3 at HS3 hHeld  ⊢
  refine norm_ (a' := ?_) ?_ ?_
  rotate_left
  · show Act.put _ (some 70) _ = _
    simp only [Act.put, List.setIfInBounds_toArray, List.set_cons_zero, List.set_cons_succ, i64_w, i32_w]
    rfl
  refine one_ (i := 13) (N := (some 71)) #[true, true, true, true, true, true, true, true, true, true, true, true, true, true, false, false, false] rfl rfl (by kernel_rfl) (by decide) (fun K_ hK => ?_)
  obtain ⟨g_v1, c_v1, w4, hrun, hrow, hgrow, hown⟩ := appendE _ Ka ka z v1 _ (HS3.out.rowE 4 rfl) (HS3.out.blk 9 rfl) (by omega)
  refine appended_ (.tmp 62) (.tmp 70) 22 22 (by rfl) rfl rfl Ka (.slice (some ⟨v1, 0, none⟩) 1 1) (by rfl) (by rfl) hrun ?_
  clear hrun
  have HS4 := Aside0.mk (HS3.out.setE 4 rfl hgrow hrow hown)
  clear HS3
  clear hrow hgrow hown
  clear hHeld
  refine hK.out _ _ ⟨(HS4.out.node 3 rfl).c0, (HS4.out.node 0 rfl).c0, (RowE.at (HS4.out.rowE 1 rfl) HZ.out).1, (RowE.at (HS4.out.rowE 1 rfl) HZ.out).2.1, (RowE.at (HS4.out.rowE 1 rfl) HZ.out).2.2⟩ (fun hHeld => ?_)
  clear hK K_
  refine norm_ (a' := ?_) ?_ ?_
  rotate_left
  · show Act.put _ (some 71) _ = _
    simp only [Act.put, List.setIfInBounds_toArray, List.set_cons_zero, List.set_cons_succ, i64_w, i32_w]
    rfl
  refine pure_ (i := 14) (N := (some 72)) (v := ?_) (a' := ?_) #[true, true, true, true, true, true, true, true, true, true, true, true, true, true, true, false, false] rfl rfl (by kernel_rfl) (fun _ _ _ h => h) (Or.inl ⟨by rfl, ?_⟩) ?_ ?_
  rotate_left
  · intro w'
    go_simp
    with_reducible rfl
  rotate_left
  · simp only [Act.put, List.setIfInBounds_toArray, List.set_cons_zero, List.set_cons_succ, i64_w, i32_w]
    rfl
  refine pure_ (i := 15) (N := (some 73)) (v := ?_) (a' := ?_) #[true, true, true, true, true, true, true, true, true, true, true, true, true, true, true, true, false] rfl rfl (by kernel_rfl) (fun _ _ _ h => h) (Or.inl ⟨by rfl, ?_⟩) ?_ ?_
  rotate_left
  · intro w'
    go_simp
    with_reducible rfl
  rotate_left
  · simp only [Act.put, List.setIfInBounds_toArray, List.set_cons_zero, List.set_cons_succ, i64_w, i32_w]
    rfl
  refine last_ (i := 16) (N := none) #[true, true, true, true, true, true, true, true, true, true, true, true, true, true, true, true, true] rfl rfl (by kernel_rfl) (by decide) (fun K_ hK => ?_)
  have c_0 := (HS4.out.node 3 rfl).c0
  have c_1 := (HS4.out.node 3 rfl).fz 0
  refine skip_ (w1 := ?_) (by rfl) rfl ?_ ?_
  rotate_left
  · go_simp
    rfl
  refine hK.out _ _ ?_
  clear hK K_ hHeld c_0 c_1
  refine done_ (by kernel_rfl) ?_
  have HS5 := Aside0.mk (HS4.out.put0 3 rfl (.slice (some ⟨g_v1, 0, none⟩) (ka.length + 1) c_v1))
  clear HS4
  generalize w4.setCell ⟨a, 0, none⟩ (.slice (some ⟨g_v1, 0, none⟩) (ka.length + 1) c_v1) = w5 at HS5 ⊢
  go_wp2
  refine start_ (n := 16) (S := fun w' => w'.cell? ⟨a, 1, none⟩ = some (Ca) ∧ w'.cell? ⟨b, 1, none⟩ = some (.slice (some ⟨gd, 0, none⟩) nd capd) ∧ w'.cell? ⟨gd, 0, none⟩ = some (.pointer A)) (ds := [15]) #[false, false, false, false, false, false, false, false, false, false, false, false, false, false, false, false] (by kernel_rfl) rfl rfl ⟨(HS5.out.node 3 rfl).c1, (HS5.out.node 6 rfl).c1, (HS5.out.rowP 8 rfl).cell (by rw [← HND.out]) 0 _ rfl⟩ (fun hHeld => ?_)
  have HS6 := Aside0.mk (HS5.out.drew)
  clear HS5
  generalize w5.drew = w6 at HS6 hHeld  ⊢
  refine pure_ (i := 0) (N := (some 74)) (v := ?_) (a' := ?_) #[true, false, false, false, false, false, false, false, false, false, false, false, false, false, false, false] rfl rfl (by kernel_rfl) (fun _ _ _ h => h) (Or.inl ⟨by rfl, ?_⟩) ?_ ?_
  rotate_left
  · intro w'
    go_simp
    with_reducible rfl
  rotate_left
  · simp only [Act.put, List.setIfInBounds_toArray, List.set_cons_zero, List.set_cons_succ, i64_w, i32_w]
    rfl
  refine pure_ (i := 1) (N := (some 75)) (v := ?_) (a' := ?_) #[true, true, false, false, false, false, false, false, false, false, false, false, false, false, false, false] rfl rfl (by kernel_rfl) (fun _ _ _ h => h) (Or.inl ⟨by rfl, ?_⟩) ?_ ?_
  rotate_left
  · intro w'
    go_simp
    with_reducible rfl
  rotate_left
  · simp only [Act.put, List.setIfInBounds_toArray, List.set_cons_zero, List.set_cons_succ, i64_w, i32_w]
    rfl
  refine pure_ (i := 2) (N := (some 76)) (v := ?_) (a' := ?_) #[true, true, true, false, false, false, false, false, false, false, false, false, false, false, false, false] rfl rfl (by kernel_rfl) (fun _ _ _ h => h) (Or.inl ⟨by rfl, ?_⟩) ?_ ?_
  rotate_left
  · intro w'
    go_simp
    with_reducible rfl
  rotate_left
  · simp only [Act.put, List.setIfInBounds_toArray, List.set_cons_zero, List.set_cons_succ, i64_w, i32_w]
    rfl
  refine pure_ (i := 3) (N := (some 77)) (v := ?_) (a' := ?_) #[true, true, true, true, false, false, false, false, false, false, false, false, false, false, false, false] rfl rfl (by kernel_rfl) (fun _ _ _ h => h) (Or.inl ⟨by rfl, ?_⟩) ?_ ?_
  rotate_left
  · intro w'
    go_simp
    with_reducible rfl
  rotate_left
  · simp only [Act.put, List.setIfInBounds_toArray, List.set_cons_zero, List.set_cons_succ, i64_w, i32_w]
    rfl
  refine pure_ (i := 5) (N := (some 79)) (v := ?_) (a' := ?_) #[true, true, true, true, false, true, false, false, false, false, false, false, false, false, false, false] rfl rfl (by kernel_rfl) (fun _ _ _ h => h) (Or.inl ⟨by rfl, ?_⟩) ?_ ?_
  rotate_left
  · intro w'
    go_simp
    with_reducible rfl
  rotate_left
  · simp only [Act.put, List.setIfInBounds_toArray, List.set_cons_zero, List.set_cons_succ, i64_w, i32_w]
    rfl
  refine pure_ (i := 6) (N := (some 80)) (v := ?_) (a' := ?_) #[true, true, true, true, false, true, true, false, false, false, false, false, false, false, false, false] rfl rfl (by kernel_rfl) (fun _ _ _ h => h) (Or.inl ⟨by rfl, ?_⟩) ?_ ?_
  rotate_left
  · intro w'
    go_simp
    with_reducible rfl
  rotate_left
  · simp only [Act.put, List.setIfInBounds_toArray, List.set_cons_zero, List.set_cons_succ, i64_w, i32_w]
    rfl
  refine pure_ (i := 7) (N := (some 81)) (v := ?_) (a' := ?_) #[true, true, true, true, false, true, true, true, false, false, false, false, false, false, false, false] rfl rfl (by kernel_rfl) (fun _ _ _ h => h) (Or.inl ⟨by rfl, ?_⟩) ?_ ?_
  rotate_left
  · intro w'
    go_simp
    with_reducible rfl
  rotate_left
  · simp only [Act.put, List.setIfInBounds_toArray, List.set_cons_zero, List.set_cons_succ, i64_w, i32_w]
    rfl
  refine take_ (i := 4) (N := (some 78)) (v := ?_) (a' := ?_) #[true, true, true, true, true, true, true, true, false, false, false, false, false, false, false, false] rfl rfl (by kernel_rfl) (fun _ _ _ h => h) (Or.inl ⟨by rfl, ?_⟩) hHeld ?_ ?_
  rotate_left
  · rintro w' ⟨s0, s1, s2⟩
    go_simp
    with_reducible rfl
  rotate_left
  · simp only [Act.put, List.setIfInBounds_toArray, List.set_cons_zero, List.set_cons_succ, i64_w, i32_w]
    rfl
  refine take_ (i := 8) (N := (some 82)) (v := ?_) (a' := ?_) #[true, true, true, true, true, true, true, true, true, false, false, false, false, false, false, false] rfl rfl (by kernel_rfl) (fun _ _ _ h => h) (Or.inl ⟨by rfl, ?_⟩) hHeld ?_ ?_
  rotate_left
  · rintro w' ⟨s0, s1, s2⟩
    go_simp
    with_reducible rfl
  rotate_left
  · simp only [Act.put, List.setIfInBounds_toArray, List.set_cons_zero, List.set_cons_succ, i64_w, i32_w]
    rfl
  refine pure_ (i := 9) (N := (some 83)) (v := ?_) (a' := ?_) #[true, true, true, true, true, true, true, true, true, true, false, false, false, false, false, false] rfl rfl (by kernel_rfl) (fun _ _ _ h => h) (Or.inl ⟨by rfl, ?_⟩) ?_ ?_
  rotate_left
  · intro w'
    go_simp
    with_reducible rfl
  rotate_left
  · simp only [Act.put, List.setIfInBounds_toArray, List.set_cons_zero, List.set_cons_succ, i64_w, i32_w]
    rfl
  refine take_ (i := 10) (N := (some 84)) (v := ?_) (a' := ?_) #[true, true, true, true, true, true, true, true, true, true, true, false, false, false, false, false] rfl rfl (by kernel_rfl) (fun _ _ _ h => h) (Or.inl ⟨by rfl, ?_⟩) hHeld ?_ ?_
  rotate_left
  · rintro w' ⟨s0, s1, s2⟩
    go_simp
    with_reducible rfl
  rotate_left
  · simp only [Act.put, List.setIfInBounds_toArray, List.set_cons_zero, List.set_cons_succ, i64_w, i32_w]
    rfl
  refine one_ (i := 11) (N := (some 85)) #[true, true, true, true, true, true, true, true, true, true, true, true, false, false, false, false] rfl rfl (by kernel_rfl) (by decide) (fun K_ hK => ?_)
  obtain ⟨v2, hv2⟩ : ∃ v : Nat, w6.heap.size = v := ⟨_, rfl⟩
  refine made_ (v := .slice (some ⟨w6.heap.size, 0, none⟩) 1 1) (w1 := w6.alloc (.cells #[(.pointer A)] 59)) (by rfl) rfl (by go_simp) ?_
  have HS7 := Aside0.mk (HS6.out.alloc #[(.pointer A)] 59 hv2)
  clear HS6
  rw [hv2]
  clear hv2
  clear hHeld
  refine hK.out _ _ ⟨(HS7.out.node 3 rfl).c1, (HS7.out.node 6 rfl).c1, (HS7.out.rowP 8 rfl).cell (by rw [← HND.out]) 0 _ rfl⟩ (fun hHeld => ?_)
  clear hK K_
  generalize w6.alloc (.cells #[(.pointer A)] 59) = w7 at HS7 hHeld  ⊢
  refine norm_ (a' := ?_) ?_ ?_
  rotate_left
  · show Act.put _ (some 85) _ = _
    simp only [Act.put, List.setIfInBounds_toArray, List.set_cons_zero, List.set_cons_succ, i64_w, i32_w]
    rfl
  refine one_ (i := 12) (N := (some 86)) #[true, true, true, true, true, true, true, true, true, true, true, true, true, false, false, false] rfl rfl (by kernel_rfl) (by decide) (fun K_ hK => ?_)
  obtain ⟨g_v2, c_v2, w8, hrun, hrow, hgrow, hown⟩ := appendP _ Ca pa (.pointer A) rfl v2 _ (HS7.out.rowP 5 rfl) (HS7.out.blk 10 rfl) (by omega)
  refine appended_ (.tmp 78) (.tmp 85) 60 60 (by rfl) rfl rfl Ca (.slice (some ⟨v2, 0, none⟩) 1 1) (by rfl) (by rfl) hrun ?_
  clear hrun
  have HS8 := Aside0.mk (HS7.out.setP 5 rfl hgrow hrow hown)
  clear HS7
  clear hrow hgrow hown
  clear hHeld
  refine hK.out _ _ ⟨(HS8.out.node 3 rfl).c1, (HS8.out.node 6 rfl).c1, (HS8.out.rowP 8 rfl).cell (by rw [← HND.out]) 0 _ rfl⟩ (fun hHeld => ?_)
  clear hK K_
  refine norm_ (a' := ?_) ?_ ?_
  rotate_left
  · show Act.put _ (some 86) _ = _
    simp only [Act.put, List.setIfInBounds_toArray, List.set_cons_zero, List.set_cons_succ, i64_w, i32_w]
    rfl
  refine pure_ (i := 13) (N := (some 87)) (v := ?_) (a' := ?_) #[true, true, true, true, true, true, true, true, true, true, true, true, true, true, false, false] rfl rfl (by kernel_rfl) (fun _ _ _ h => h) (Or.inl ⟨by rfl, ?_⟩) ?_ ?_
  rotate_left
  · intro w'
    go_simp
    with_reducible rfl
  rotate_left
  · simp only [Act.put, List.setIfInBounds_toArray, List.set_cons_zero, List.set_cons_succ, i64_w, i32_w]
    rfl
  refine pure_ (i := 14) (N := (some 88)) (v := ?_) (a' := ?_) #[true, true, true, true, true, true, true, true, true, true, true, true, true, true, true, false] rfl rfl (by kernel_rfl) (fun _ _ _ h => h) (Or.inl ⟨by rfl, ?_⟩) ?_ ?_
  rotate_left
  · intro w'
    go_simp
    with_reducible rfl
  rotate_left
  · simp only [Act.put, List.setIfInBounds_toArray, List.set_cons_zero, List.set_cons_succ, i64_w, i32_w]
    rfl
  refine last_ (i := 15) (N := none) #[true, true, true, true, true, true, true, true, true, true, true, true, true, true, true, true] rfl rfl (by kernel_rfl) (by decide) (fun K_ hK => ?_)
  have c_0 := (HS8.out.node 3 rfl).c1
  have c_1 := (HS8.out.node 3 rfl).fz 1
  refine skip_ (w1 := ?_) (by rfl) rfl ?_ ?_
  rotate_left
  · go_simp
    rfl
  refine hK.out _ _ ?_
  clear hK K_ hHeld c_0 c_1
  refine done_ (by kernel_rfl) ?_
  have HS9 := Aside0.mk (HS8.out.put1 3 rfl (.slice (some ⟨g_v2, 0, none⟩) (pa.length + 1) c_v2))
  clear HS8
  generalize w8.setCell ⟨a, 1, none⟩ (.slice (some ⟨g_v2, 0, none⟩) (pa.length + 1) c_v2) = w9 at HS9 ⊢
  go_wp2
  refine start_ (n := 13) (S := fun w' => w'.cell? ⟨p, 0, none⟩ = some (.slice (some ⟨gk, 0, none⟩) nk capK) ∧ w'.cell? ⟨b, 0, none⟩ = some (.slice (some ⟨gb, 0, none⟩) nb capb) ∧ w'.cell? ⟨gb, 0, none⟩ = some (.string x.f0) ∧ w'.cell? ⟨gb, 1, none⟩ = some (.int .i64 x.f1.f0) ∧ w'.cell? ⟨gb, 2, none⟩ = some (.int .i64 x.f1.f1)) (ds := [12]) #[false, false, false, false, false, false, false, false, false, false, false, false, false] (by kernel_rfl) rfl rfl ⟨(HS9.out.node 0 rfl).c0, (HS9.out.node 6 rfl).c0, (RowE.first (HS9.out.rowE 7 rfl)).1, (RowE.first (HS9.out.rowE 7 rfl)).2.1, (RowE.first (HS9.out.rowE 7 rfl)).2.2⟩ (fun hHeld => ?_)
  have HS10 := Aside0.mk (HS9.out.drew)
  clear HS9
  generalize w9.drew = w10 at HS10 hHeld  ⊢
  refine pure_ (i := 0) (N := (some 89)) (v := ?_) (a' := ?_) #[true, false, false, false, false, false, false, false, false, false, false, false, false] rfl rfl (by kernel_rfl) (fun _ _ _ h => h) (Or.inl ⟨by rfl, ?_⟩) ?_ ?_
  rotate_left
  · intro w'
    go_simp
    with_reducible rfl
  rotate_left
  · simp only [Act.put, List.setIfInBounds_toArray, List.set_cons_zero, List.set_cons_succ, i64_w, i32_w]
    rfl
  refine pure_ (i := 1) (N := (some 90)) (v := ?_) (a' := ?_) #[true, true, false, false, false, false, false, false, false, false, false, false, false] rfl rfl (by kernel_rfl) (fun _ _ _ h => h) (Or.inl ⟨by rfl, ?_⟩) ?_ ?_
  rotate_left
  · intro w'
    go_simp
    with_reducible rfl
  rotate_left
  · simp only [Act.put, List.setIfInBounds_toArray, List.set_cons_zero, List.set_cons_succ, i64_w, i32_w]
    rfl
  refine pure_ (i := 2) (N := (some 91)) (v := ?_) (a' := ?_) #[true, true, true, false, false, false, false, false, false, false, false, false, false] rfl rfl (by kernel_rfl) (fun _ _ _ h => h) (Or.inl ⟨by rfl, ?_⟩) ?_ ?_
  rotate_left
  · intro w'
    go_simp
    with_reducible rfl
  rotate_left
  · simp only [Act.put, List.setIfInBounds_toArray, List.set_cons_zero, List.set_cons_succ, i64_w, i32_w]
    rfl
  refine pure_ (i := 4) (N := (some 93)) (v := ?_) (a' := ?_) #[true, true, true, false, true, false, false, false, false, false, false, false, false] rfl rfl (by kernel_rfl) (fun _ _ _ h => h) (Or.inl ⟨by rfl, ?_⟩) ?_ ?_
  rotate_left
  · intro w'
    go_simp
    with_reducible rfl
  rotate_left
  · simp only [Act.put, List.setIfInBounds_toArray, List.set_cons_zero, List.set_cons_succ, i64_w, i32_w]
    rfl
  refine pure_ (i := 5) (N := (some 94)) (v := ?_) (a' := ?_) #[true, true, true, false, true, true, false, false, false, false, false, false, false] rfl rfl (by kernel_rfl) (fun _ _ _ h => h) (Or.inl ⟨by rfl, ?_⟩) ?_ ?_
  rotate_left
  · intro w'
    go_simp
    with_reducible rfl
  rotate_left
  · simp only [Act.put, List.setIfInBounds_toArray, List.set_cons_zero, List.set_cons_succ, i64_w, i32_w]
    rfl
  refine pure_ (i := 6) (N := (some 95)) (v := ?_) (a' := ?_) #[true, true, true, false, true, true, true, false, false, false, false, false, false] rfl rfl (by kernel_rfl) (fun _ _ _ h => h) (Or.inl ⟨by rfl, ?_⟩) ?_ ?_
  rotate_left
  · intro w'
    go_simp
    with_reducible rfl
  rotate_left
  · simp only [Act.put, List.setIfInBounds_toArray, List.set_cons_zero, List.set_cons_succ, i64_w, i32_w]
    rfl
  refine pure_ (i := 7) (N := (some 96)) (v := ?_) (a' := ?_) #[true, true, true, false, true, true, true, true, false, false, false, false, false] rfl rfl (by kernel_rfl) (fun _ _ _ h => h) (Or.inl ⟨by rfl, ?_⟩) ?_ ?_
  rotate_left
  · intro w'
    go_simp
    with_reducible rfl
  rotate_left
  · simp only [Act.put, List.setIfInBounds_toArray, List.set_cons_zero, List.set_cons_succ, i64_w, i32_w]
    rfl
  refine take_ (i := 3) (N := (some 92)) (v := ?_) (a' := ?_) #[true, true, true, true, true, true, true, true, false, false, false, false, false] rfl rfl (by kernel_rfl) (fun _ _ _ h => h) (Or.inl ⟨by rfl, ?_⟩) hHeld ?_ ?_
  rotate_left
  · rintro w' ⟨s0, s1, s2, s3, s4⟩
    go_simp
    with_reducible rfl
  rotate_left
  · simp only [Act.put, List.setIfInBounds_toArray, List.set_cons_zero, List.set_cons_succ, i64_w, i32_w]
    rfl
  refine take_ (i := 8) (N := (some 97)) (v := ?_) (a' := ?_) #[true, true, true, true, true, true, true, true, true, false, false, false, false] rfl rfl (by kernel_rfl) (fun _ _ _ h => h) (Or.inl ⟨by rfl, ?_⟩) hHeld ?_ ?_
  rotate_left
  · rintro w' ⟨s0, s1, s2, s3, s4⟩
    go_simp
    with_reducible rfl
  rotate_left
  · simp only [Act.put, List.setIfInBounds_toArray, List.set_cons_zero, List.set_cons_succ, i64_w, i32_w]
    rfl
  refine pure_ (i := 9) (N := (some 98)) (v := ?_) (a' := ?_) #[true, true, true, true, true, true, true, true, true, true, false, false, false] rfl rfl (by kernel_rfl) (fun _ _ _ h => h) (Or.inl ⟨by rfl, ?_⟩) ?_ ?_
  rotate_left
  · intro w'
    go_simp
    with_reducible rfl
  rotate_left
  · simp only [Act.put, List.setIfInBounds_toArray, List.set_cons_zero, List.set_cons_succ, i64_w, i32_w]
    rfl
  refine take_ (i := 10) (N := (some 99)) (v := ?_) (a' := ?_) #[true, true, true, true, true, true, true, true, true, true, true, false, false] rfl rfl (by kernel_rfl) (fun _ _ _ h => h) (Or.inl ⟨by rfl, ?_⟩) hHeld ?_ ?_
  rotate_left
  · rintro w' ⟨s0, s1, s2, s3, s4⟩
    go_simp
    with_reducible rfl
  rotate_left
  · simp only [Act.put, List.setIfInBounds_toArray, List.set_cons_zero, List.set_cons_succ, i64_w, i32_w]
    rfl
  refine pure_ (i := 11) (N := (some 100)) (v := ?_) (a' := ?_) #[true, true, true, true, true, true, true, true, true, true, true, true, false] rfl rfl (by kernel_rfl) (fun _ _ _ h => h) (Or.inl ⟨by rfl, ?_⟩) ?_ ?_
  rotate_left
  · intro w'
    go_simp
    with_reducible rfl
  rotate_left
  · simp only [Act.put, List.setIfInBounds_toArray, List.set_cons_zero, List.set_cons_succ, i64_w, i32_w]
    rfl
  refine last_ (i := 12) (N := none) #[true, true, true, true, true, true, true, true, true, true, true, true, true] rfl rfl (by kernel_rfl) (by decide) (fun K_ hK => ?_)
  have c_0 := RowE.cells (HS10.out.rowE 1 rfl) i (by rw [HNK.out]; exact hk)
  obtain ⟨d_0, d_1, d_2⟩ := c_0
  have c_1 := (HS10.out.rowE 1 rfl).frozen (by rw [← HNK.out]) (i * 3)
  have c_2 := (HS10.out.rowE 1 rfl).frozen (by rw [← HNK.out]) (i * 3 + 1)
  have c_3 := (HS10.out.rowE 1 rfl).frozen (by rw [← HNK.out]) (i * 3 + 2)
  refine skip_ (w1 := ?_) (by rfl) rfl ?_ ?_
  rotate_left
  · go_simp
    rfl
  refine hK.out _ _ ?_
  clear hK K_ hHeld d_0 d_1 d_2 c_1 c_2 c_3
  refine done_ (by kernel_rfl) ?_
  have HS11 := Aside0.mk (HS10.out.putE 1 rfl i x (by rw [HNK.out]; exact hk))
  clear HS10
  generalize ((w10.setCell ⟨gk, i * 3, none⟩ (.string x.f0)).setCell ⟨gk, i * 3 + 1, none⟩ (.int .i64 x.f1.f0)).setCell ⟨gk, i * 3 + 2, none⟩ (.int .i64 x.f1.f1) = w11 at HS11 ⊢
  have c0 := (HS11.out.node 6 rfl).c0
  go_wp2_with (first
    | (go_at_call 49; refine (deleteE _ gb nb capb 0 _ 0 1 (HS11.out.rowE 7 rfl) HNB.out hb1 (by omega) rfl rfl).mono ?_; clear c0; rintro E w12 ⟨rfl, hrow, hgrow⟩; have HS12 := Aside0.mk (HS11.out.setE 7 rfl hgrow hrow (.inl rfl)); clear HS11; clear hrow hgrow; have c0 := (HS12.out.node 6 rfl).c0; have f0 := (HS12.out.node 6 rfl).fz 0; have c1 := (HS12.out.node 6 rfl).c1)
    | (go_at_call 70; have HS13 := Aside0.mk (HS12.out.put0 6 rfl (.slice (some ⟨gb, 0, none⟩) (nb - 1) capb)); clear HS12; clear c0 f0 c1; refine (deleteP _ gd nd capd 0 _ 0 1 (HS13.out.rowP 8 rfl) HND.out hd1 (by omega) rfl rfl).mono ?_; rintro E w13 ⟨rfl, hrow, hgrow⟩; have HS14 := Aside0.mk (HS13.out.setP 8 rfl hgrow hrow (.inl rfl)); clear HS13; clear hrow hgrow; have c0 := (HS14.out.node 6 rfl).c1; have f0 := (HS14.out.node 6 rfl).fz 1))
  have HS15 := Aside0.mk (HS14.out.put1 6 rfl (.slice (some ⟨gd, 0, none⟩) (nd - 1) capd))
  clear HS14
  generalize w13.setCell ⟨b, 1, none⟩ (.slice (some ⟨gd, 0, none⟩) (nd - 1) capd) = w14 at HS15 ⊢
  clear c0 f0
  go_end0
  rw [← HR.out]
  have hl := Aside0.mk ((HS15.out.left : St _ _ _ (par3 p _ _ _ _ a _ _ _ _ b _ _ _ _)))
  exact ⟨_, _, _, _, rfl, fun h => (by cases h), hl.out⟩
end Go.Proofs.Bt
end
section
namespace Go.Proofs.Bt
open Go Go.RowKit Go.Proofs.Ytjaddmflopahiaa.Q Go.Proofs.YtjaddmflopahiaaW.PrintWords Go.Proofs.YtjaddmflopahiaaW.PrintLast Go.Proofs.YtjaddmflopahiaaW.PrintMore
set_option linter.unusedVariables false
set_option linter.unusedSimpArgs false
set_option maxRecDepth 100000
set_option maxHeartbeats 4000000 in
theorem fromLeft_leaf (w : World) (p a b : Nat) (K C Ka Kb : Value) (ks : List S29) (ps : List Value) (i j : Nat) (x : S29) (ka kb : List S29) (F : Nat → Prop) (hs : St w F w (par3 p K C ks ps a Ka (.slice none 0 0) (ka ++ [x]) [] b Kb (.slice none 0 0) kb []))
    (hi : i + 1 < ps.length) (hj : j = i + 1) (hpa : ps[i]? = some (.pointer (some ⟨a, 0, none⟩))) (hpb : ps[i + 1]? = some (.pointer (some ⟨b, 0, none⟩))) (hps : ps.length < 1000) (hk : i < ks.length) (hks : ks.length < 1000) (hka : ((ka ++ [x])).length < 1000) (hkb : (kb).length < 1000) (hpal : ([] : List Value).length < 1000) (hpbl : ([] : List Value).length < 1000) :
    Calls Try.prog 62 #[.pointer (some ⟨p, 0, none⟩), .int .i64 (j : Int)] w (Par3Post w F p K C (ks.set i x) ps a ka [] b (x :: kb) [] true) := by
  have hu29 := Try.underlying29
  have hu62 := Try.underlying62
  obtain ⟨gc, capC, rfl, hcapC⟩ := rowP_form (hs.rowP 2 rfl) (by omega)
  obtain ⟨gk, capK, rfl, hcapK⟩ := (hs.rowE 1 rfl).formS (by omega)
  obtain ⟨ga, capa, rfl, hcapa⟩ := (hs.rowE 4 rfl).formS (by simp)
  obtain ⟨n0, hn0⟩ : ∃ n, ka.length = n := ⟨_, rfl⟩
  have hna : (ka ++ [x]).length = n0 + 1 := by rw [List.length_append, hn0]; rfl
  rw [hna] at hs hka hcapa
  have HNA := Aside0.mk hna
  have HN0 := Aside0.mk hn0
  have HX := Aside0.mk (show (ka ++ [x])[n0]? = some x by rw [← hn0]; simp)
  have HT := Aside0.mk (show (ka ++ [x]).take n0 = ka by rw [← hn0]; simp)
  have hl1 : (0 : Int) ≤ (n0 : Int) := by omega
  have hl2 : (n0 : Int) < (n0 : Int) + 1 := by omega
  have hl3 : n0 < n0 + 1 := by omega
  have hl4 : n0 ≤ capa := by omega
  have hl5 : (n0 : Int) ≤ (capa : Int) := by omega
  have HPA := Aside0.mk hpa
  have HPB := Aside0.mk hpb
  obtain ⟨n, hn⟩ : ∃ n, ps.length = n := ⟨_, rfl⟩
  obtain ⟨nk, hnk⟩ : ∃ n, ks.length = n := ⟨_, rfl⟩
  rw [hn, hnk] at hs
  rw [hn] at hi hps hcapC
  rw [hnk] at hk hks hcapK
  have HN := Aside0.mk hn
  have HNK := Aside0.mk hnk
  obtain ⟨R, hR⟩ : ∃ R, (Par3Post w F p (.slice (some ⟨gk, 0, none⟩) nk capK) (.slice (some ⟨gc, 0, none⟩) n capC) (ks.set i x) ps a ka [] b (x :: kb) [] true) = R := ⟨_, rfl⟩
  have HR := Aside0.mk hR
  try rw [hn, hnk]
  show Calls _ _ _ _ (Par3Post w F p (.slice (some ⟨gk, 0, none⟩) nk capK) (.slice (some ⟨gc, 0, none⟩) n capC) (ks.set i x) ps a ka [] b (x :: kb) [] true)
  rw [hR]
  clear hR
  have HS := Aside0.mk hs
  have hi0 : (0 : Int) ≤ (i : Int) := by omega
  have hi1 : (i : Int) < (n : Int) := by omega
  have hi2 : (0 : Int) ≤ (i : Int) + 1 := by omega
  have hi3 : (i : Int) + 1 < (n : Int) := by omega
  have hik : (i : Int) < (nk : Int) := by omega
  have hw1 : IntKind.i64.wrap ((j : Int) - 1) = (i : Int) := by rw [IntKind.wrap_i64]; omega
  have hw2 : Go.RowKit.wrap64 ((j : Int) - 1) = (i : Int) := by rw [← i64_w]; exact hw1
  have hj1 : (0 : Int) ≤ (j : Int) := by omega
  have hj2 : (j : Int) < (n : Int) := by omega
  have HJ := Aside0.mk hj
  clear hj
  clear hs hpa hpb hn hnk hna hn0
  go_enter Try.func62, Try.ntmps62
  go_wp2
  refine start_ (n := 17) (S := fun w' => w'.cell? ⟨p, 1, none⟩ = some (.slice (some ⟨gc, 0, none⟩) n capC) ∧ w'.cell? ⟨gc, i, none⟩ = some (.pointer (some ⟨a, 0, none⟩)) ∧ w'.cell? ⟨gc, j, none⟩ = some (.pointer (some ⟨b, 0, none⟩))) (ds := []) #[false, false, false, false, false, false, false, false, false, false, false, false, false, false, false, false, false] (by kernel_rfl) rfl rfl ⟨(HS.out.node 0 rfl).c1, (HS.out.rowP 2 rfl).cell (by rw [← HN.out]) i _ HPA.out, (HS.out.rowP 2 rfl).cell (by rw [← HN.out]) j _ (HJ.out.symm ▸ HPB.out)⟩ (fun hHeld => ?_)
  have HS1 := Aside0.mk (HS.out.drew)
  clear HS
  generalize w.drew = w1 at HS1 hHeld  ⊢
  refine pure_ (i := 0) (N := (some 7)) (v := ?_) (a' := ?_) #[true, false, false, false, false, false, false, false, false, false, false, false, false, false, false, false, false] rfl rfl (by kernel_rfl) (fun _ _ _ h => h) (Or.inl ⟨by rfl, ?_⟩) ?_ ?_
  rotate_left
  · intro w'
    go_simp
    with_reducible rfl
  rotate_left
  · simp only [Act.put, List.setIfInBounds_toArray, List.set_cons_zero, List.set_cons_succ, i64_w, i32_w]
    rfl
  refine pure_ (i := 1) (N := (some 8)) (v := ?_) (a' := ?_) #[true, true, false, false, false, false, false, false, false, false, false, false, false, false, false, false, false] rfl rfl (by kernel_rfl) (fun _ _ _ h => h) (Or.inl ⟨by rfl, ?_⟩) ?_ ?_
  rotate_left
  · intro w'
    go_simp
    with_reducible rfl
  rotate_left
  · simp only [Act.put, List.setIfInBounds_toArray, List.set_cons_zero, List.set_cons_succ, i64_w, i32_w]
    rfl
  refine pure_ (i := 2) (N := (some 9)) (v := ?_) (a' := ?_) #[true, true, true, false, false, false, false, false, false, false, false, false, false, false, false, false, false] rfl rfl (by kernel_rfl) (fun _ _ _ h => h) (Or.inl ⟨by rfl, ?_⟩) ?_ ?_
  rotate_left
  · intro w'
    go_simp
    with_reducible rfl
  rotate_left
  · simp only [Act.put, List.setIfInBounds_toArray, List.set_cons_zero, List.set_cons_succ, i64_w, i32_w]
    rfl
  refine pure_ (i := 4) (N := (some 11)) (v := ?_) (a' := ?_) #[true, true, true, false, true, false, false, false, false, false, false, false, false, false, false, false, false] rfl rfl (by kernel_rfl) (fun _ _ _ h => h) (Or.inl ⟨by rfl, ?_⟩) ?_ ?_
  rotate_left
  · intro w'
    go_simp
    with_reducible rfl
  rotate_left
  · simp only [Act.put, List.setIfInBounds_toArray, List.set_cons_zero, List.set_cons_succ, i64_w, i32_w]
    rfl
  refine pure_ (i := 5) (N := (some 12)) (v := ?_) (a' := ?_) #[true, true, true, false, true, true, false, false, false, false, false, false, false, false, false, false, false] rfl rfl (by kernel_rfl) (fun _ _ _ h => h) (Or.inl ⟨by rfl, ?_⟩) ?_ ?_
  rotate_left
  · intro w'
    go_simp
    with_reducible rfl
  rotate_left
  · simp only [Act.put, List.setIfInBounds_toArray, List.set_cons_zero, List.set_cons_succ, i64_w, i32_w]
    rfl
  refine pure_ (i := 8) (N := (some 15)) (v := ?_) (a' := ?_) #[true, true, true, false, true, true, false, false, true, false, false, false, false, false, false, false, false] rfl rfl (by kernel_rfl) (fun _ _ _ h => h) (Or.inl ⟨by rfl, ?_⟩) ?_ ?_
  rotate_left
  · intro w'
    go_simp
    with_reducible rfl
  rotate_left
  · simp only [Act.put, List.setIfInBounds_toArray, List.set_cons_zero, List.set_cons_succ, i64_w, i32_w]
    rfl
  refine pure_ (i := 9) (N := (some 16)) (v := ?_) (a' := ?_) #[true, true, true, false, true, true, false, false, true, true, false, false, false, false, false, false, false] rfl rfl (by kernel_rfl) (fun _ _ _ h => h) (Or.inl ⟨by rfl, ?_⟩) ?_ ?_
  rotate_left
  · intro w'
    go_simp
    with_reducible rfl
  rotate_left
  · simp only [Act.put, List.setIfInBounds_toArray, List.set_cons_zero, List.set_cons_succ, i64_w, i32_w]
    rfl
  refine pure_ (i := 10) (N := (some 17)) (v := ?_) (a' := ?_) #[true, true, true, false, true, true, false, false, true, true, true, false, false, false, false, false, false] rfl rfl (by kernel_rfl) (fun _ _ _ h => h) (Or.inl ⟨by rfl, ?_⟩) ?_ ?_
  rotate_left
  · intro w'
    go_simp
    with_reducible rfl
  rotate_left
  · simp only [Act.put, List.setIfInBounds_toArray, List.set_cons_zero, List.set_cons_succ, i64_w, i32_w]
    rfl
  refine pure_ (i := 12) (N := (some 19)) (v := ?_) (a' := ?_) #[true, true, true, false, true, true, false, false, true, true, true, false, true, false, false, false, false] rfl rfl (by kernel_rfl) (fun _ _ _ h => h) (Or.inl ⟨by rfl, ?_⟩) ?_ ?_
  rotate_left
  · intro w'
    go_simp
    with_reducible rfl
  rotate_left
  · simp only [Act.put, List.setIfInBounds_toArray, List.set_cons_zero, List.set_cons_succ, i64_w, i32_w]
    rfl
  refine take_ (i := 3) (N := (some 10)) (v := ?_) (a' := ?_) #[true, true, true, true, true, true, false, false, true, true, true, false, true, false, false, false, false] rfl rfl (by kernel_rfl) (fun _ _ _ h => h) (Or.inl ⟨by rfl, ?_⟩) hHeld ?_ ?_
  rotate_left
  · rintro w' ⟨s0, s1, s2⟩
    go_simp
    with_reducible rfl
  rotate_left
  · simp only [Act.put, List.setIfInBounds_toArray, List.set_cons_zero, List.set_cons_succ, i64_w, i32_w]
    rfl
  refine pure_ (i := 6) (N := (some 13)) (v := ?_) (a' := ?_) #[true, true, true, true, true, true, true, false, true, true, true, false, true, false, false, false, false] rfl rfl (by kernel_rfl) (fun _ _ _ h => h) (Or.inl ⟨by rfl, ?_⟩) ?_ ?_
  rotate_left
  · intro w'
    go_simp
    with_reducible rfl
  rotate_left
  · simp only [Act.put, List.setIfInBounds_toArray, List.set_cons_zero, List.set_cons_succ, i64_w, i32_w]
    rfl
  refine take_ (i := 7) (N := (some 14)) (v := ?_) (a' := ?_) #[true, true, true, true, true, true, true, true, true, true, true, false, true, false, false, false, false] rfl rfl (by kernel_rfl) (fun _ _ _ h => h) (Or.inl ⟨by rfl, ?_⟩) hHeld ?_ ?_
  rotate_left
  · rintro w' ⟨s0, s1, s2⟩
    go_simp
    with_reducible rfl
  rotate_left
  · simp only [Act.put, List.setIfInBounds_toArray, List.set_cons_zero, List.set_cons_succ, i64_w, i32_w]
    rfl
  refine pure_ (i := 15) (N := (some 4)) (v := ?_) (a' := ?_) #[true, true, true, true, true, true, true, true, true, true, true, false, true, false, false, true, false] rfl rfl (by kernel_rfl) (fun _ _ _ h => h) (Or.inl ⟨by rfl, ?_⟩) ?_ ?_
  rotate_left
  · intro w'
    go_simp
    with_reducible rfl
  rotate_left
  · simp only [Act.put, List.setIfInBounds_toArray, List.set_cons_zero, List.set_cons_succ, i64_w, i32_w]
    rfl
  refine take_ (i := 11) (N := (some 18)) (v := ?_) (a' := ?_) #[true, true, true, true, true, true, true, true, true, true, true, true, true, false, false, true, false] rfl rfl (by kernel_rfl) (fun _ _ _ h => h) (Or.inl ⟨by rfl, ?_⟩) hHeld ?_ ?_
  rotate_left
  · rintro w' ⟨s0, s1, s2⟩
    go_simp
    with_reducible rfl
  rotate_left
  · simp only [Act.put, List.setIfInBounds_toArray, List.set_cons_zero, List.set_cons_succ, i64_w, i32_w]
    rfl
  refine pure_ (i := 13) (N := (some 20)) (v := ?_) (a' := ?_) #[true, true, true, true, true, true, true, true, true, true, true, true, true, true, false, true, false] rfl rfl (by kernel_rfl) (fun _ _ _ h => h) (Or.inl ⟨by rfl, ?_⟩) ?_ ?_
  rotate_left
  · intro w'
    go_simp
    with_reducible rfl
  rotate_left
  · simp only [Act.put, List.setIfInBounds_toArray, List.set_cons_zero, List.set_cons_succ, i64_w, i32_w]
    rfl
  refine take_ (i := 14) (N := (some 21)) (v := ?_) (a' := ?_) #[true, true, true, true, true, true, true, true, true, true, true, true, true, true, true, true, false] rfl rfl (by kernel_rfl) (fun _ _ _ h => h) (Or.inl ⟨by rfl, ?_⟩) hHeld ?_ ?_
  rotate_left
  · rintro w' ⟨s0, s1, s2⟩
    go_simp
    with_reducible rfl
  rotate_left
  · simp only [Act.put, List.setIfInBounds_toArray, List.set_cons_zero, List.set_cons_succ, i64_w, i32_w]
    rfl
  refine pure_ (i := 16) (N := (some 5)) (v := ?_) (a' := ?_) #[true, true, true, true, true, true, true, true, true, true, true, true, true, true, true, true, true] rfl rfl (by kernel_rfl) (fun _ _ _ h => h) (Or.inl ⟨by rfl, ?_⟩) ?_ ?_
  rotate_left
  · intro w'
    go_simp
    with_reducible rfl
  rotate_left
  · simp only [Act.put, List.setIfInBounds_toArray, List.set_cons_zero, List.set_cons_succ, i64_w, i32_w]
    rfl
  refine done_ (by kernel_rfl) ?_
  have ca := (HS1.out.node 3 rfl).c0
  go_wp2_with (first
    | (go_at_call 30; refine (leaf_calls _ b Kb none 0 0 (HS1.out.node 6 rfl)).mono ?_; clear ca; rintro E w1 ⟨rfl, rfl⟩))
  refine start_ (n := 17) (S := fun w' => w'.cell? ⟨b, 0, none⟩ = some (Kb) ∧ w'.cell? ⟨a, 0, none⟩ = some (.slice (some ⟨ga, 0, none⟩) (n0 + 1) capa) ∧ w'.cell? ⟨ga, n0 * 3, none⟩ = some (.string x.f0) ∧ w'.cell? ⟨ga, n0 * 3 + 1, none⟩ = some (.int .i64 x.f1.f0) ∧ w'.cell? ⟨ga, n0 * 3 + 2, none⟩ = some (.int .i64 x.f1.f1)) (ds := [16]) #[false, false, false, false, false, false, false, false, false, false, false, false, false, false, false, false, false] (by kernel_rfl) rfl rfl ⟨(HS1.out.node 6 rfl).c0, (HS1.out.node 3 rfl).c0, (RowE.at (HS1.out.rowE 4 rfl) HX.out).1, (RowE.at (HS1.out.rowE 4 rfl) HX.out).2.1, (RowE.at (HS1.out.rowE 4 rfl) HX.out).2.2⟩ (fun hHeld => ?_)
  have HS2 := Aside0.mk (HS1.out.drew)
  clear HS1
  generalize w1.drew = w2 at HS2 hHeld  ⊢
  refine pure_ (i := 0) (N := (some 30)) (v := ?_) (a' := ?_) #[true, false, false, false, false, false, false, false, false, false, false, false, false, false, false, false, false] rfl rfl (by kernel_rfl) (fun _ _ _ h => h) (Or.inl ⟨by rfl, ?_⟩) ?_ ?_
  rotate_left
  · intro w'
    go_simp
    with_reducible rfl
  rotate_left
  · simp only [Act.put, List.setIfInBounds_toArray, List.set_cons_zero, List.set_cons_succ, i64_w, i32_w]
    rfl
  refine pure_ (i := 1) (N := (some 31)) (v := ?_) (a' := ?_) #[true, true, false, false, false, false, false, false, false, false, false, false, false, false, false, false, false] rfl rfl (by kernel_rfl) (fun _ _ _ h => h) (Or.inl ⟨by rfl, ?_⟩) ?_ ?_
  rotate_left
  · intro w'
    go_simp
    with_reducible rfl
  rotate_left
  · simp only [Act.put, List.setIfInBounds_toArray, List.set_cons_zero, List.set_cons_succ, i64_w, i32_w]
    rfl
  refine pure_ (i := 2) (N := (some 32)) (v := ?_) (a' := ?_) #[true, true, true, false, false, false, false, false, false, false, false, false, false, false, false, false, false] rfl rfl (by kernel_rfl) (fun _ _ _ h => h) (Or.inl ⟨by rfl, ?_⟩) ?_ ?_
  rotate_left
  · intro w'
    go_simp
    with_reducible rfl
  rotate_left
  · simp only [Act.put, List.setIfInBounds_toArray, List.set_cons_zero, List.set_cons_succ, i64_w, i32_w]
    rfl
  refine pure_ (i := 3) (N := (some 33)) (v := ?_) (a' := ?_) #[true, true, true, true, false, false, false, false, false, false, false, false, false, false, false, false, false] rfl rfl (by kernel_rfl) (fun _ _ _ h => h) (Or.inl ⟨by rfl, ?_⟩) ?_ ?_
  rotate_left
  · intro w'
    go_simp
    with_reducible rfl
  rotate_left
  · simp only [Act.put, List.setIfInBounds_toArray, List.set_cons_zero, List.set_cons_succ, i64_w, i32_w]
    rfl
  refine pure_ (i := 5) (N := (some 35)) (v := ?_) (a' := ?_) #[true, true, true, true, false, true, false, false, false, false, false, false, false, false, false, false, false] rfl rfl (by kernel_rfl) (fun _ _ _ h => h) (Or.inl ⟨by rfl, ?_⟩) ?_ ?_
  rotate_left
  · intro w'
    go_simp
    with_reducible rfl
  rotate_left
  · simp only [Act.put, List.setIfInBounds_toArray, List.set_cons_zero, List.set_cons_succ, i64_w, i32_w]
    rfl
  refine pure_ (i := 6) (N := (some 36)) (v := ?_) (a' := ?_) #[true, true, true, true, false, true, true, false, false, false, false, false, false, false, false, false, false] rfl rfl (by kernel_rfl) (fun _ _ _ h => h) (Or.inl ⟨by rfl, ?_⟩) ?_ ?_
  rotate_left
  · intro w'
    go_simp
    with_reducible rfl
  rotate_left
  · simp only [Act.put, List.setIfInBounds_toArray, List.set_cons_zero, List.set_cons_succ, i64_w, i32_w]
    rfl
  refine pure_ (i := 7) (N := (some 37)) (v := ?_) (a' := ?_) #[true, true, true, true, false, true, true, true, false, false, false, false, false, false, false, false, false] rfl rfl (by kernel_rfl) (fun _ _ _ h => h) (Or.inl ⟨by rfl, ?_⟩) ?_ ?_
  rotate_left
  · intro w'
    go_simp
    with_reducible rfl
  rotate_left
  · simp only [Act.put, List.setIfInBounds_toArray, List.set_cons_zero, List.set_cons_succ, i64_w, i32_w]
    rfl
  refine pure_ (i := 9) (N := (some 39)) (v := ?_) (a' := ?_) #[true, true, true, true, false, true, true, true, false, true, false, false, false, false, false, false, false] rfl rfl (by kernel_rfl) (fun _ _ _ h => h) (Or.inl ⟨by rfl, ?_⟩) ?_ ?_
  rotate_left
  · intro w'
    go_simp
    with_reducible rfl
  rotate_left
  · simp only [Act.put, List.setIfInBounds_toArray, List.set_cons_zero, List.set_cons_succ, i64_w, i32_w]
    rfl
  refine take_ (i := 4) (N := (some 34)) (v := ?_) (a' := ?_) #[true, true, true, true, true, true, true, true, false, true, false, false, false, false, false, false, false] rfl rfl (by kernel_rfl) (fun _ _ _ h => h) (Or.inl ⟨by rfl, ?_⟩) hHeld ?_ ?_
  rotate_left
  · rintro w' ⟨s0, s1, s2, s3, s4⟩
    go_simp
    with_reducible rfl
  rotate_left
  · simp only [Act.put, List.setIfInBounds_toArray, List.set_cons_zero, List.set_cons_succ, i64_w, i32_w]
    rfl
  refine take_ (i := 8) (N := (some 38)) (v := ?_) (a' := ?_) #[true, true, true, true, true, true, true, true, true, true, false, false, false, false, false, false, false] rfl rfl (by kernel_rfl) (fun _ _ _ h => h) (Or.inl ⟨by rfl, ?_⟩) hHeld ?_ ?_
  rotate_left
  · rintro w' ⟨s0, s1, s2, s3, s4⟩
    go_simp
    with_reducible rfl
  rotate_left
  · simp only [Act.put, List.setIfInBounds_toArray, List.set_cons_zero, List.set_cons_succ, i64_w, i32_w]
    rfl
  refine pure_ (i := 10) (N := (some 40)) (v := ?_) (a' := ?_) #[true, true, true, true, true, true, true, true, true, true, true, false, false, false, false, false, false] rfl rfl (by kernel_rfl) (fun _ _ _ h => h) (Or.inl ⟨by rfl, ?_⟩) ?_ ?_
  rotate_left
  · intro w'
    go_simp
    with_reducible rfl
  rotate_left
  · simp only [Act.put, List.setIfInBounds_toArray, List.set_cons_zero, List.set_cons_succ, i64_w, i32_w]
    rfl
  refine take_ (i := 11) (N := (some 41)) (v := ?_) (a' := ?_) #[true, true, true, true, true, true, true, true, true, true, true, true, false, false, false, false, false] rfl rfl (by kernel_rfl) (fun _ _ _ h => h) (Or.inl ⟨by rfl, ?_⟩) hHeld ?_ ?_
  rotate_left
  · rintro w' ⟨s0, s1, s2, s3, s4⟩
    go_simp
    with_reducible rfl
  rotate_left
  · simp only [Act.put, List.setIfInBounds_toArray, List.set_cons_zero, List.set_cons_succ, i64_w, i32_w]
    rfl
  refine one_ (i := 12) (N := (some 42)) #[true, true, true, true, true, true, true, true, true, true, true, true, true, false, false, false, false] rfl rfl (by kernel_rfl) (by decide) (fun K_ hK => ?_)
  obtain ⟨v1, hv1⟩ : ∃ v : Nat, w2.heap.size = v := ⟨_, rfl⟩
  refine made_ (v := .slice (some ⟨w2.heap.size, 0, none⟩) 1 1) (w1 := w2.alloc (.cells #[.string x.f0, .int .i64 x.f1.f0, .int .i64 x.f1.f1] 29)) (by rfl) rfl (by go_simp) ?_
  have HS3 := Aside0.mk (HS2.out.alloc #[.string x.f0, .int .i64 x.f1.f0, .int .i64 x.f1.f1] 29 hv1)
  clear HS2
  rw [hv1]
  clear hv1
  clear hHeld
  refine hK.out _ _ ⟨(HS3.out.node 6 rfl).c0, (HS3.out.node 3 rfl).c0, (RowE.at (HS3.out.rowE 4 rfl) HX.out).1, (RowE.at (HS3.out.rowE 4 rfl) HX.out).2.1, (RowE.at (HS3.out.rowE 4 rfl) HX.out).2.2⟩ (fun hHeld => ?_)
  clear hK K_
  generalize w2.alloc (.cells #[.string x.f0, .int .i64 x.f1.f0, .int .i64 x.f1.f1] 29) = w3 at HS3 hHeld  ⊢
  refine norm_ (a' := ?_) ?_ ?_
  rotate_left
  · show Act.put _ (some 42) _ = _
    simp only [Act.put, List.setIfInBounds_toArray, List.set_cons_zero, List.set_cons_succ, i64_w, i32_w]
    rfl
  refine one_ (i := 13) (N := (some 43)) #[true, true, true, true, true, true, true, true, true, true, true, true, true, true, false, false, false] rfl rfl (by kernel_rfl) (by decide) (fun K_ hK => ?_)
  refine goes_ Try.func42 (by kernel_rfl) rfl #[Kb, .int .i64 0, .slice (some ⟨v1, 0, none⟩) 1 1] (by rfl) rfl rfl (by (try simp only [List.map_toArray, List.map_cons, List.map_nil]); first | done | rfl) ?_
  refine (insertE _ Kb kb 0 x v1 0 (HS3.out.rowE 7 rfl) (by omega) (by omega) (HS3.out.blk 9 rfl) (fun h => HS3.out.apart 7 9 (by decide) rfl rfl _ h (by simp [blkC])) rfl).mono ?_
  rintro E w4 ⟨g_v1, c_v1, rfl, hrow, hgrow, hown⟩
  have HS4 := Aside0.mk (HS3.out.setE 7 rfl hgrow hrow hown)
  clear HS3
  clear hrow hgrow hown
  refine ⟨_, rfl, ?_⟩
  clear hHeld
  refine hK.out _ _ ⟨(HS4.out.node 6 rfl).c0, (HS4.out.node 3 rfl).c0, (RowE.at (HS4.out.rowE 4 rfl) HX.out).1, (RowE.at (HS4.out.rowE 4 rfl) HX.out).2.1, (RowE.at (HS4.out.rowE 4 rfl) HX.out).2.2⟩ (fun hHeld => ?_)
  clear hK K_
  refine norm_ (a' := ?_) ?_ ?_
  rotate_left
  · show Act.put _ (some 43) _ = _
    simp only [Act.put, List.setIfInBounds_toArray, List.set_cons_zero, List.set_cons_succ, i64_w, i32_w]
    rfl
  refine pure_ (i := 14) (N := (some 44)) (v := ?_) (a' := ?_) #[true, true, true, true, true, true, true, true, true, true, true, true, true, true, true, false, false] rfl rfl (by kernel_rfl) (fun _ _ _ h => h) (Or.inl ⟨by rfl, ?_⟩) ?_ ?_
  rotate_left
  · intro w'
    go_simp
    with_reducible rfl
  rotate_left
  · simp only [Act.put, List.setIfInBounds_toArray, List.set_cons_zero, List.set_cons_succ, i64_w, i32_w]
    rfl
  refine pure_ (i := 15) (N := (some 45)) (v := ?_) (a' := ?_) #[true, true, true, true, true, true, true, true, true, true, true, true, true, true, true, true, false] rfl rfl (by kernel_rfl) (fun _ _ _ h => h) (Or.inl ⟨by rfl, ?_⟩) ?_ ?_
  rotate_left
  · intro w'
    go_simp
    with_reducible rfl
  rotate_left
  · simp only [Act.put, List.setIfInBounds_toArray, List.set_cons_zero, List.set_cons_succ, i64_w, i32_w]
    rfl
  refine last_ (i := 16) (N := none) #[true, true, true, true, true, true, true, true, true, true, true, true, true, true, true, true, true] rfl rfl (by kernel_rfl) (by decide) (fun K_ hK => ?_)
  have c_0 := (HS4.out.node 6 rfl).c0
  have c_1 := (HS4.out.node 6 rfl).fz 0
  refine skip_ (w1 := ?_) (by rfl) rfl ?_ ?_
  rotate_left
  · go_simp
    rfl
  refine hK.out _ _ ?_
  clear hK K_ hHeld c_0 c_1
  refine done_ (by kernel_rfl) ?_
  have HS5 := Aside0.mk (HS4.out.put0 6 rfl (.slice (some ⟨g_v1, 0, none⟩) (kb.length + 1) c_v1))
  clear HS4
  generalize w4.setCell ⟨b, 0, none⟩ (.slice (some ⟨g_v1, 0, none⟩) (kb.length + 1) c_v1) = w5 at HS5 ⊢
  go_wp2
  have hd : insAt kb 0 x = x :: kb := rfl
  rw [hd] at HS5
  clear hd
  have hkb1 : 0 < kb.length + 1 := by omega
  refine start_ (n := 14) (S := fun w' => w'.cell? ⟨p, 0, none⟩ = some (.slice (some ⟨gk, 0, none⟩) nk capK) ∧ w'.cell? ⟨b, 0, none⟩ = some (.slice (some ⟨g_v1, 0, none⟩) (kb.length + 1) c_v1) ∧ w'.cell? ⟨g_v1, 0, none⟩ = some (.string x.f0) ∧ w'.cell? ⟨g_v1, 1, none⟩ = some (.int .i64 x.f1.f0) ∧ w'.cell? ⟨g_v1, 2, none⟩ = some (.int .i64 x.f1.f1)) (ds := [13]) #[false, false, false, false, false, false, false, false, false, false, false, false, false, false] (by kernel_rfl) rfl rfl ⟨(HS5.out.node 0 rfl).c0, (HS5.out.node 6 rfl).c0, (RowE.first (HS5.out.rowE 7 rfl)).1, (RowE.first (HS5.out.rowE 7 rfl)).2.1, (RowE.first (HS5.out.rowE 7 rfl)).2.2⟩ (fun hHeld => ?_)
  have HS6 := Aside0.mk (HS5.out.drew)
  clear HS5
  generalize w5.drew = w6 at HS6 hHeld  ⊢
  refine pure_ (i := 0) (N := (some 46)) (v := ?_) (a' := ?_) #[true, false, false, false, false, false, false, false, false, false, false, false, false, false] rfl rfl (by kernel_rfl) (fun _ _ _ h => h) (Or.inl ⟨by rfl, ?_⟩) ?_ ?_
  rotate_left
  · intro w'
    go_simp
    with_reducible rfl
  rotate_left
  · simp only [Act.put, List.setIfInBounds_toArray, List.set_cons_zero, List.set_cons_succ, i64_w, i32_w]
    rfl
  refine pure_ (i := 1) (N := (some 47)) (v := ?_) (a' := ?_) #[true, true, false, false, false, false, false, false, false, false, false, false, false, false] rfl rfl (by kernel_rfl) (fun _ _ _ h => h) (Or.inl ⟨by rfl, ?_⟩) ?_ ?_
  rotate_left
  · intro w'
    go_simp
    with_reducible rfl
  rotate_left
  · simp only [Act.put, List.setIfInBounds_toArray, List.set_cons_zero, List.set_cons_succ, i64_w, i32_w]
    rfl
  refine pure_ (i := 2) (N := (some 48)) (v := ?_) (a' := ?_) #[true, true, true, false, false, false, false, false, false, false, false, false, false, false] rfl rfl (by kernel_rfl) (fun _ _ _ h => h) (Or.inl ⟨by rfl, ?_⟩) ?_ ?_
  rotate_left
  · intro w'
    go_simp
    with_reducible rfl
  rotate_left
  · simp only [Act.put, List.setIfInBounds_toArray, List.set_cons_zero, List.set_cons_succ, i64_w, i32_w]
    rfl
  refine pure_ (i := 4) (N := (some 50)) (v := ?_) (a' := ?_) #[true, true, true, false, true, false, false, false, false, false, false, false, false, false] rfl rfl (by kernel_rfl) (fun _ _ _ h => h) (Or.inl ⟨by rfl, ?_⟩) ?_ ?_
  rotate_left
  · intro w'
    go_simp
    with_reducible rfl
  rotate_left
  · simp only [Act.put, List.setIfInBounds_toArray, List.set_cons_zero, List.set_cons_succ, i64_w, i32_w]
    rfl
  refine pure_ (i := 5) (N := (some 51)) (v := ?_) (a' := ?_) #[true, true, true, false, true, true, false, false, false, false, false, false, false, false] rfl rfl (by kernel_rfl) (fun _ _ _ h => h) (Or.inl ⟨by rfl, ?_⟩) ?_ ?_
  rotate_left
  · intro w'
    go_simp
    with_reducible rfl
  rotate_left
  · simp only [Act.put, List.setIfInBounds_toArray, List.set_cons_zero, List.set_cons_succ, i64_w, i32_w]
    rfl
  refine pure_ (i := 6) (N := (some 52)) (v := ?_) (a' := ?_) #[true, true, true, false, true, true, true, false, false, false, false, false, false, false] rfl rfl (by kernel_rfl) (fun _ _ _ h => h) (Or.inl ⟨by rfl, ?_⟩) ?_ ?_
  rotate_left
  · intro w'
    go_simp
    with_reducible rfl
  rotate_left
  · simp only [Act.put, List.setIfInBounds_toArray, List.set_cons_zero, List.set_cons_succ, i64_w, i32_w]
    rfl
  refine pure_ (i := 7) (N := (some 53)) (v := ?_) (a' := ?_) #[true, true, true, false, true, true, true, true, false, false, false, false, false, false] rfl rfl (by kernel_rfl) (fun _ _ _ h => h) (Or.inl ⟨by rfl, ?_⟩) ?_ ?_
  rotate_left
  · intro w'
    go_simp
    with_reducible rfl
  rotate_left
  · simp only [Act.put, List.setIfInBounds_toArray, List.set_cons_zero, List.set_cons_succ, i64_w, i32_w]
    rfl
  refine pure_ (i := 8) (N := (some 54)) (v := ?_) (a' := ?_) #[true, true, true, false, true, true, true, true, true, false, false, false, false, false] rfl rfl (by kernel_rfl) (fun _ _ _ h => h) (Or.inl ⟨by rfl, ?_⟩) ?_ ?_
  rotate_left
  · intro w'
    go_simp
    with_reducible rfl
  rotate_left
  · simp only [Act.put, List.setIfInBounds_toArray, List.set_cons_zero, List.set_cons_succ, i64_w, i32_w]
    rfl
  refine take_ (i := 3) (N := (some 49)) (v := ?_) (a' := ?_) #[true, true, true, true, true, true, true, true, true, false, false, false, false, false] rfl rfl (by kernel_rfl) (fun _ _ _ h => h) (Or.inl ⟨by rfl, ?_⟩) hHeld ?_ ?_
  rotate_left
  · rintro w' ⟨s0, s1, s2, s3, s4⟩
    go_simp
    with_reducible rfl
  rotate_left
  · simp only [Act.put, List.setIfInBounds_toArray, List.set_cons_zero, List.set_cons_succ, i64_w, i32_w]
    rfl
  refine take_ (i := 9) (N := (some 55)) (v := ?_) (a' := ?_) #[true, true, true, true, true, true, true, true, true, true, false, false, false, false] rfl rfl (by kernel_rfl) (fun _ _ _ h => h) (Or.inl ⟨by rfl, ?_⟩) hHeld ?_ ?_
  rotate_left
  · rintro w' ⟨s0, s1, s2, s3, s4⟩
    go_simp
    with_reducible rfl
  rotate_left
  · simp only [Act.put, List.setIfInBounds_toArray, List.set_cons_zero, List.set_cons_succ, i64_w, i32_w]
    rfl
  refine pure_ (i := 10) (N := (some 56)) (v := ?_) (a' := ?_) #[true, true, true, true, true, true, true, true, true, true, true, false, false, false] rfl rfl (by kernel_rfl) (fun _ _ _ h => h) (Or.inl ⟨by rfl, ?_⟩) ?_ ?_
  rotate_left
  · intro w'
    go_simp
    with_reducible rfl
  rotate_left
  · simp only [Act.put, List.setIfInBounds_toArray, List.set_cons_zero, List.set_cons_succ, i64_w, i32_w]
    rfl
  refine take_ (i := 11) (N := (some 57)) (v := ?_) (a' := ?_) #[true, true, true, true, true, true, true, true, true, true, true, true, false, false] rfl rfl (by kernel_rfl) (fun _ _ _ h => h) (Or.inl ⟨by rfl, ?_⟩) hHeld ?_ ?_
  rotate_left
  · rintro w' ⟨s0, s1, s2, s3, s4⟩
    go_simp
    with_reducible rfl
  rotate_left
  · simp only [Act.put, List.setIfInBounds_toArray, List.set_cons_zero, List.set_cons_succ, i64_w, i32_w]
    rfl
  refine pure_ (i := 12) (N := (some 58)) (v := ?_) (a' := ?_) #[true, true, true, true, true, true, true, true, true, true, true, true, true, false] rfl rfl (by kernel_rfl) (fun _ _ _ h => h) (Or.inl ⟨by rfl, ?_⟩) ?_ ?_
  rotate_left
  · intro w'
    go_simp
    with_reducible rfl
  rotate_left
  · simp only [Act.put, List.setIfInBounds_toArray, List.set_cons_zero, List.set_cons_succ, i64_w, i32_w]
    rfl
  refine last_ (i := 13) (N := none) #[true, true, true, true, true, true, true, true, true, true, true, true, true, true] rfl rfl (by kernel_rfl) (by decide) (fun K_ hK => ?_)
  have c_0 := RowE.cells (HS6.out.rowE 1 rfl) i (by rw [HNK.out]; exact hk)
  obtain ⟨d_0, d_1, d_2⟩ := c_0
  have c_1 := (HS6.out.rowE 1 rfl).frozen (by rw [← HNK.out]) (i * 3)
  have c_2 := (HS6.out.rowE 1 rfl).frozen (by rw [← HNK.out]) (i * 3 + 1)
  have c_3 := (HS6.out.rowE 1 rfl).frozen (by rw [← HNK.out]) (i * 3 + 2)
  refine skip_ (w1 := ?_) (by rfl) rfl ?_ ?_
  rotate_left
  · go_simp
    rfl
  refine hK.out _ _ ?_
  clear hK K_ hHeld d_0 d_1 d_2 c_1 c_2 c_3
  refine done_ (by kernel_rfl) ?_
  have HS7 := Aside0.mk (HS6.out.putE 1 rfl i x (by rw [HNK.out]; exact hk))
  clear HS6
  generalize ((w6.setCell ⟨gk, i * 3, none⟩ (.string x.f0)).setCell ⟨gk, i * 3 + 1, none⟩ (.int .i64 x.f1.f0)).setCell ⟨gk, i * 3 + 2, none⟩ (.int .i64 x.f1.f1) = w7 at HS7 ⊢
  have ca := (HS7.out.node 3 rfl).c0
  have fa := (HS7.out.node 3 rfl).fz 0
  go_wp2
  have HS8 := Aside0.mk ((HS7.out.setE 4 rfl (grown_refl _ _) ((RowE.cut (HS7.out.rowE 4 rfl) n0 capa (by rw [HNA.out]; omega) (by omega) (Nat.le_refl _))) (.inl rfl)).put0 3 rfl (.slice (some ⟨ga, 0, none⟩) n0 capa))
  clear HS7
  rw [HT.out] at HS8
  go_end0
  rw [← HR.out]
  have hl := Aside0.mk ((HS8.out.left : St _ _ _ (par3 p _ _ _ _ a _ _ _ _ b _ _ _ _)))
  exact ⟨_, _, _, _, rfl, fun _ => ⟨rfl, rfl⟩, hl.out⟩
set_option maxHeartbeats 4000000 in
theorem fromLeft_inner (w : World) (p a b : Nat) (K C Ka Kb Ca Cb : Value) (ks : List S29) (ps : List Value) (i j : Nat) (x z : S29) (ka kb : List S29) (A : Option Addr) (pa pb : List Value) (F : Nat → Prop) (hs : St w F w (par3 p K C ks ps a Ka Ca (ka ++ [x]) (pa ++ [.pointer A]) b Kb Cb kb pb))
    (hi : i + 1 < ps.length) (hj : j = i + 1) (hpa : ps[i]? = some (.pointer (some ⟨a, 0, none⟩))) (hpb : ps[i + 1]? = some (.pointer (some ⟨b, 0, none⟩))) (hps : ps.length < 1000) (hk : i < ks.length) (hks : ks.length < 1000) (hka : ((ka ++ [x])).length < 1000) (hkb : (kb).length < 1000) (hpal : ((pa ++ [.pointer A]) : List Value).length < 1000) (hpbl : (pb : List Value).length < 1000) (hz : ks[i]? = some z) (hpn : pa.length = ka.length + 1) (hpb0 : 0 < pb.length) :
    Calls Try.prog 62 #[.pointer (some ⟨p, 0, none⟩), .int .i64 (j : Int)] w (Par3Post w F p K C (ks.set i x) ps a ka pa b (z :: kb) (.pointer A :: pb) false) := by
  have hu29 := Try.underlying29
  have hu62 := Try.underlying62
  obtain ⟨gc, capC, rfl, hcapC⟩ := rowP_form (hs.rowP 2 rfl) (by omega)
  obtain ⟨gk, capK, rfl, hcapK⟩ := (hs.rowE 1 rfl).formS (by omega)
  obtain ⟨ga, capa, rfl, hcapa⟩ := (hs.rowE 4 rfl).formS (by simp)
  obtain ⟨n0, hn0⟩ : ∃ n, ka.length = n := ⟨_, rfl⟩
  have hna : (ka ++ [x]).length = n0 + 1 := by rw [List.length_append, hn0]; rfl
  rw [hna] at hs hka hcapa
  have HNA := Aside0.mk hna
  have HN0 := Aside0.mk hn0
  have HX := Aside0.mk (show (ka ++ [x])[n0]? = some x by rw [← hn0]; simp)
  have HT := Aside0.mk (show (ka ++ [x]).take n0 = ka by rw [← hn0]; simp)
  have hl1 : (0 : Int) ≤ (n0 : Int) := by omega
  have hl2 : (n0 : Int) < (n0 : Int) + 1 := by omega
  have hl3 : n0 < n0 + 1 := by omega
  have hl4 : n0 ≤ capa := by omega
  have hl5 : (n0 : Int) ≤ (capa : Int) := by omega
  obtain ⟨gd, capd, rfl, hcapd⟩ := rowP_form (hs.rowP 5 rfl) (by simp)
  obtain ⟨Ab, cpb, hCb⟩ := rowP_slice (hs.rowP 8 rfl)
  have HLB := Aside0.mk (fun w' (h : NodeAt w' b Kb Cb) => leaf_no w' b Kb Ab pb.length cpb (by rw [← hCb]; exact h) (by omega))
  have hnd : (pa ++ [Value.pointer A]).length = n0 + 2 := by rw [List.length_append, hpn, hn0]; rfl
  rw [hnd] at hs hpal hcapd
  have HND := Aside0.mk hnd
  have HZ := Aside0.mk hz
  have HQ := Aside0.mk (show (pa ++ [Value.pointer A])[n0 + 1]? = some (.pointer A) by rw [← hn0, ← hpn]; simp)
  have HTQ := Aside0.mk (show (pa ++ [Value.pointer A]).take (n0 + 1) = pa by rw [← hn0, ← hpn]; simp)
  have hl6 : n0 + 1 < n0 + 2 := by omega
  have hl7 : (0 : Int) ≤ (n0 : Int) + 1 := by omega
  have hl8 : (n0 : Int) + 1 < (n0 : Int) + 2 := by omega
  have hl9 : (n0 : Int) + 1 ≤ (capd : Int) := by omega
  have hl10 : ((n0 : Int) + 1).toNat = n0 + 1 := by omega
  have hw3 : IntKind.i64.wrap ((n0 : Int) + 1) = (n0 : Int) + 1 := by rw [IntKind.wrap_i64]; omega
  have hl11 : n0 + 1 ≤ capd := by omega
  have HPA := Aside0.mk hpa
  have HPB := Aside0.mk hpb
  obtain ⟨n, hn⟩ : ∃ n, ps.length = n := ⟨_, rfl⟩
  obtain ⟨nk, hnk⟩ : ∃ n, ks.length = n := ⟨_, rfl⟩
  rw [hn, hnk] at hs
  rw [hn] at hi hps hcapC
  rw [hnk] at hk hks hcapK
  have HN := Aside0.mk hn
  have HNK := Aside0.mk hnk
  obtain ⟨R, hR⟩ : ∃ R, (Par3Post w F p (.slice (some ⟨gk, 0, none⟩) nk capK) (.slice (some ⟨gc, 0, none⟩) n capC) (ks.set i x) ps a ka pa b (z :: kb) (.pointer A :: pb) false) = R := ⟨_, rfl⟩
  have HR := Aside0.mk hR
  try rw [hn, hnk]
  show Calls _ _ _ _ (Par3Post w F p (.slice (some ⟨gk, 0, none⟩) nk capK) (.slice (some ⟨gc, 0, none⟩) n capC) (ks.set i x) ps a ka pa b (z :: kb) (.pointer A :: pb) false)
  rw [hR]
  clear hR
  have HS := Aside0.mk hs
  have hi0 : (0 : Int) ≤ (i : Int) := by omega
  have hi1 : (i : Int) < (n : Int) := by omega
  have hi2 : (0 : Int) ≤ (i : Int) + 1 := by omega
  have hi3 : (i : Int) + 1 < (n : Int) := by omega
  have hik : (i : Int) < (nk : Int) := by omega
  have hw1 : IntKind.i64.wrap ((j : Int) - 1) = (i : Int) := by rw [IntKind.wrap_i64]; omega
  have hw2 : Go.RowKit.wrap64 ((j : Int) - 1) = (i : Int) := by rw [← i64_w]; exact hw1
  have hj1 : (0 : Int) ≤ (j : Int) := by omega
  have hj2 : (j : Int) < (n : Int) := by omega
  have HJ := Aside0.mk hj
  clear hj
  clear hs hpa hpb hn hnk hna hn0 hnd hz hCb hpn
  go_enter Try.func62, Try.ntmps62
  go_wp2
  refine start_ (n := 17) (S := fun w' => w'.cell? ⟨p, 1, none⟩ = some (.slice (some ⟨gc, 0, none⟩) n capC) ∧ w'.cell? ⟨gc, i, none⟩ = some (.pointer (some ⟨a, 0, none⟩)) ∧ w'.cell? ⟨gc, j, none⟩ = some (.pointer (some ⟨b, 0, none⟩))) (ds := []) #[false, false, false, false, false, false, false, false, false, false, false, false, false, false, false, false, false] (by kernel_rfl) rfl rfl ⟨(HS.out.node 0 rfl).c1, (HS.out.rowP 2 rfl).cell (by rw [← HN.out]) i _ HPA.out, (HS.out.rowP 2 rfl).cell (by rw [← HN.out]) j _ (HJ.out.symm ▸ HPB.out)⟩ (fun hHeld => ?_)
  have HS1 := Aside0.mk (HS.out.drew)
  clear HS
  generalize w.drew = w1 at HS1 hHeld  ⊢
  refine pure_ (i := 0) (N := (some 7)) (v := ?_) (a' := ?_) #[true, false, false, false, false, false, false, false, false, false, false, false, false, false, false, false, false] rfl rfl (by kernel_rfl) (fun _ _ _ h => h) (Or.inl ⟨by rfl, ?_⟩) ?_ ?_
  rotate_left
  · intro w'
    go_simp
    with_reducible rfl
  rotate_left
  · simp only [Act.put, List.setIfInBounds_toArray, List.set_cons_zero, List.set_cons_succ, i64_w, i32_w]
    rfl
  refine pure_ (i := 1) (N := (some 8)) (v := ?_) (a' := ?_) #[true, true, false, false, false, false, false, false, false, false, false, false, false, false, false, false, false] rfl rfl (by kernel_rfl) (fun _ _ _ h => h) (Or.inl ⟨by rfl, ?_⟩) ?_ ?_
  rotate_left
  · intro w'
    go_simp
    with_reducible rfl
  rotate_left
  · simp only [Act.put, List.setIfInBounds_toArray, List.set_cons_zero, List.set_cons_succ, i64_w, i32_w]
    rfl
  refine pure_ (i := 2) (N := (some 9)) (v := ?_) (a' := ?_) #[true, true, true, false, false, false, false, false, false, false, false, false, false, false, false, false, false] rfl rfl (by kernel_rfl) (fun _ _ _ h => h) (Or.inl ⟨by rfl, ?_⟩) ?_ ?_
  rotate_left
  · intro w'
    go_simp
    with_reducible rfl
  rotate_left
  · simp only [Act.put, List.setIfInBounds_toArray, List.set_cons_zero, List.set_cons_succ, i64_w, i32_w]
    rfl
  refine pure_ (i := 4) (N := (some 11)) (v := ?_) (a' := ?_) #[true, true, true, false, true, false, false, false, false, false, false, false, false, false, false, false, false] rfl rfl (by kernel_rfl) (fun _ _ _ h => h) (Or.inl ⟨by rfl, ?_⟩) ?_ ?_
  rotate_left
  · intro w'
    go_simp
    with_reducible rfl
  rotate_left
  · simp only [Act.put, List.setIfInBounds_toArray, List.set_cons_zero, List.set_cons_succ, i64_w, i32_w]
    rfl
  refine pure_ (i := 5) (N := (some 12)) (v := ?_) (a' := ?_) #[true, true, true, false, true, true, false, false, false, false, false, false, false, false, false, false, false] rfl rfl (by kernel_rfl) (fun _ _ _ h => h) (Or.inl ⟨by rfl, ?_⟩) ?_ ?_
  rotate_left
  · intro w'
    go_simp
    with_reducible rfl
  rotate_left
  · simp only [Act.put, List.setIfInBounds_toArray, List.set_cons_zero, List.set_cons_succ, i64_w, i32_w]
    rfl
  refine pure_ (i := 8) (N := (some 15)) (v := ?_) (a' := ?_) #[true, true, true, false, true, true, false, false, true, false, false, false, false, false, false, false, false] rfl rfl (by kernel_rfl) (fun _ _ _ h => h) (Or.inl ⟨by rfl, ?_⟩) ?_ ?_
  rotate_left
  · intro w'
    go_simp
    with_reducible rfl
  rotate_left
  · simp only [Act.put, List.setIfInBounds_toArray, List.set_cons_zero, List.set_cons_succ, i64_w, i32_w]
    rfl
  refine pure_ (i := 9) (N := (some 16)) (v := ?_) (a' := ?_) #[true, true, true, false, true, true, false, false, true, true, false, false, false, false, false, false, false] rfl rfl (by kernel_rfl) (fun _ _ _ h => h) (Or.inl ⟨by rfl, ?_⟩) ?_ ?_
  rotate_left
  · intro w'
    go_simp
    with_reducible rfl
  rotate_left
  · simp only [Act.put, List.setIfInBounds_toArray, List.set_cons_zero, List.set_cons_succ, i64_w, i32_w]
    rfl
  refine pure_ (i := 10) (N := (some 17)) (v := ?_) (a' := ?_) #[true, true, true, false, true, true, false, false, true, true, true, false, false, false, false, false, false] rfl rfl (by kernel_rfl) (fun _ _ _ h => h) (Or.inl ⟨by rfl, ?_⟩) ?_ ?_
  rotate_left
  · intro w'
    go_simp
    with_reducible rfl
  rotate_left
  · simp only [Act.put, List.setIfInBounds_toArray, List.set_cons_zero, List.set_cons_succ, i64_w, i32_w]
    rfl
  refine pure_ (i := 12) (N := (some 19)) (v := ?_) (a' := ?_) #[true, true, true, false, true, true, false, false, true, true, true, false, true, false, false, false, false] rfl rfl (by kernel_rfl) (fun _ _ _ h => h) (Or.inl ⟨by rfl, ?_⟩) ?_ ?_
  rotate_left
  · intro w'
    go_simp
    with_reducible rfl
  rotate_left
  · simp only [Act.put, List.setIfInBounds_toArray, List.set_cons_zero, List.set_cons_succ, i64_w, i32_w]
    rfl
  refine take_ (i := 3) (N := (some 10)) (v := ?_) (a' := ?_) #[true, true, true, true, true, true, false, false, true, true, true, false, true, false, false, false, false] rfl rfl (by kernel_rfl) (fun _ _ _ h => h) (Or.inl ⟨by rfl, ?_⟩) hHeld ?_ ?_
  rotate_left
  · rintro w' ⟨s0, s1, s2⟩
    go_simp
    with_reducible rfl
  rotate_left
  · simp only [Act.put, List.setIfInBounds_toArray, List.set_cons_zero, List.set_cons_succ, i64_w, i32_w]
    rfl
  refine pure_ (i := 6) (N := (some 13)) (v := ?_) (a' := ?_) #[true, true, true, true, true, true, true, false, true, true, true, false, true, false, false, false, false] rfl rfl (by kernel_rfl) (fun _ _ _ h => h) (Or.inl ⟨by rfl, ?_⟩) ?_ ?_
  rotate_left
  · intro w'
    go_simp
    with_reducible rfl
  rotate_left
  · simp only [Act.put, List.setIfInBounds_toArray, List.set_cons_zero, List.set_cons_succ, i64_w, i32_w]
    rfl
  refine take_ (i := 7) (N := (some 14)) (v := ?_) (a' := ?_) #[true, true, true, true, true, true, true, true, true, true, true, false, true, false, false, false, false] rfl rfl (by kernel_rfl) (fun _ _ _ h => h) (Or.inl ⟨by rfl, ?_⟩) hHeld ?_ ?_
  rotate_left
  · rintro w' ⟨s0, s1, s2⟩
    go_simp
    with_reducible rfl
  rotate_left
  · simp only [Act.put, List.setIfInBounds_toArray, List.set_cons_zero, List.set_cons_succ, i64_w, i32_w]
    rfl
  refine pure_ (i := 15) (N := (some 4)) (v := ?_) (a' := ?_) #[true, true, true, true, true, true, true, true, true, true, true, false, true, false, false, true, false] rfl rfl (by kernel_rfl) (fun _ _ _ h => h) (Or.inl ⟨by rfl, ?_⟩) ?_ ?_
  rotate_left
  · intro w'
    go_simp
    with_reducible rfl
  rotate_left
  · simp only [Act.put, List.setIfInBounds_toArray, List.set_cons_zero, List.set_cons_succ, i64_w, i32_w]
    rfl
  refine take_ (i := 11) (N := (some 18)) (v := ?_) (a' := ?_) #[true, true, true, true, true, true, true, true, true, true, true, true, true, false, false, true, false] rfl rfl (by kernel_rfl) (fun _ _ _ h => h) (Or.inl ⟨by rfl, ?_⟩) hHeld ?_ ?_
  rotate_left
  · rintro w' ⟨s0, s1, s2⟩
    go_simp
    with_reducible rfl
  rotate_left
  · simp only [Act.put, List.setIfInBounds_toArray, List.set_cons_zero, List.set_cons_succ, i64_w, i32_w]
    rfl
  refine pure_ (i := 13) (N := (some 20)) (v := ?_) (a' := ?_) #[true, true, true, true, true, true, true, true, true, true, true, true, true, true, false, true, false] rfl rfl (by kernel_rfl) (fun _ _ _ h => h) (Or.inl ⟨by rfl, ?_⟩) ?_ ?_
  rotate_left
  · intro w'
    go_simp
    with_reducible rfl
  rotate_left
  · simp only [Act.put, List.setIfInBounds_toArray, List.set_cons_zero, List.set_cons_succ, i64_w, i32_w]
    rfl
  refine take_ (i := 14) (N := (some 21)) (v := ?_) (a' := ?_) #[true, true, true, true, true, true, true, true, true, true, true, true, true, true, true, true, false] rfl rfl (by kernel_rfl) (fun _ _ _ h => h) (Or.inl ⟨by rfl, ?_⟩) hHeld ?_ ?_
  rotate_left
  · rintro w' ⟨s0, s1, s2⟩
    go_simp
    with_reducible rfl
  rotate_left
  · simp only [Act.put, List.setIfInBounds_toArray, List.set_cons_zero, List.set_cons_succ, i64_w, i32_w]
    rfl
  refine pure_ (i := 16) (N := (some 5)) (v := ?_) (a' := ?_) #[true, true, true, true, true, true, true, true, true, true, true, true, true, true, true, true, true] rfl rfl (by kernel_rfl) (fun _ _ _ h => h) (Or.inl ⟨by rfl, ?_⟩) ?_ ?_
  rotate_left
  · intro w'
    go_simp
    with_reducible rfl
  rotate_left
  · simp only [Act.put, List.setIfInBounds_toArray, List.set_cons_zero, List.set_cons_succ, i64_w, i32_w]
    rfl
  refine done_ (by kernel_rfl) ?_
  have ca := (HS1.out.node 3 rfl).c0
  go_wp2_with (first
    | (go_at_call 30; refine (HLB.out _ (HS1.out.node 6 rfl)).mono ?_; clear ca; rintro E w1 ⟨rfl, rfl⟩))
  refine start_ (n := 18) (S := fun w' => w'.cell? ⟨b, 0, none⟩ = some (Kb) ∧ w'.cell? ⟨p, 0, none⟩ = some (.slice (some ⟨gk, 0, none⟩) nk capK) ∧ w'.cell? ⟨gk, i * 3, none⟩ = some (.string z.f0) ∧ w'.cell? ⟨gk, i * 3 + 1, none⟩ = some (.int .i64 z.f1.f0) ∧ w'.cell? ⟨gk, i * 3 + 2, none⟩ = some (.int .i64 z.f1.f1)) (ds := [17]) #[false, false, false, false, false, false, false, false, false, false, false, false, false, false, false, false, false, false] (by kernel_rfl) rfl rfl ⟨(HS1.out.node 6 rfl).c0, (HS1.out.node 0 rfl).c0, (RowE.at (HS1.out.rowE 1 rfl) HZ.out).1, (RowE.at (HS1.out.rowE 1 rfl) HZ.out).2.1, (RowE.at (HS1.out.rowE 1 rfl) HZ.out).2.2⟩ (fun hHeld => ?_)
  have HS2 := Aside0.mk (HS1.out.drew)
  clear HS1
  generalize w1.drew = w2 at HS2 hHeld  ⊢
  refine pure_ (i := 0) (N := (some 59)) (v := ?_) (a' := ?_) #[true, false, false, false, false, false, false, false, false, false, false, false, false, false, false, false, false, false] rfl rfl (by kernel_rfl) (fun _ _ _ h => h) (Or.inl ⟨by rfl, ?_⟩) ?_ ?_
  rotate_left
  · intro w'
    go_simp
    with_reducible rfl
  rotate_left
  · simp only [Act.put, List.setIfInBounds_toArray, List.set_cons_zero, List.set_cons_succ, i64_w, i32_w]
    rfl
  refine pure_ (i := 1) (N := (some 60)) (v := ?_) (a' := ?_) #[true, true, false, false, false, false, false, false, false, false, false, false, false, false, false, false, false, false] rfl rfl (by kernel_rfl) (fun _ _ _ h => h) (Or.inl ⟨by rfl, ?_⟩) ?_ ?_
  rotate_left
  · intro w'
    go_simp
    with_reducible rfl
  rotate_left
  · simp only [Act.put, List.setIfInBounds_toArray, List.set_cons_zero, List.set_cons_succ, i64_w, i32_w]
    rfl
  refine pure_ (i := 2) (N := (some 61)) (v := ?_) (a' := ?_) #[true, true, true, false, false, false, false, false, false, false, false, false, false, false, false, false, false, false] rfl rfl (by kernel_rfl) (fun _ _ _ h => h) (Or.inl ⟨by rfl, ?_⟩) ?_ ?_
  rotate_left
  · intro w'
    go_simp
    with_reducible rfl
  rotate_left
  · simp only [Act.put, List.setIfInBounds_toArray, List.set_cons_zero, List.set_cons_succ, i64_w, i32_w]
    rfl
  refine pure_ (i := 3) (N := (some 62)) (v := ?_) (a' := ?_) #[true, true, true, true, false, false, false, false, false, false, false, false, false, false, false, false, false, false] rfl rfl (by kernel_rfl) (fun _ _ _ h => h) (Or.inl ⟨by rfl, ?_⟩) ?_ ?_
  rotate_left
  · intro w'
    go_simp
    with_reducible rfl
  rotate_left
  · simp only [Act.put, List.setIfInBounds_toArray, List.set_cons_zero, List.set_cons_succ, i64_w, i32_w]
    rfl
  refine pure_ (i := 5) (N := (some 64)) (v := ?_) (a' := ?_) #[true, true, true, true, false, true, false, false, false, false, false, false, false, false, false, false, false, false] rfl rfl (by kernel_rfl) (fun _ _ _ h => h) (Or.inl ⟨by rfl, ?_⟩) ?_ ?_
  rotate_left
  · intro w'
    go_simp
    with_reducible rfl
  rotate_left
  · simp only [Act.put, List.setIfInBounds_toArray, List.set_cons_zero, List.set_cons_succ, i64_w, i32_w]
    rfl
  refine pure_ (i := 6) (N := (some 65)) (v := ?_) (a' := ?_) #[true, true, true, true, false, true, true, false, false, false, false, false, false, false, false, false, false, false] rfl rfl (by kernel_rfl) (fun _ _ _ h => h) (Or.inl ⟨by rfl, ?_⟩) ?_ ?_
  rotate_left
  · intro w'
    go_simp
    with_reducible rfl
  rotate_left
  · simp only [Act.put, List.setIfInBounds_toArray, List.set_cons_zero, List.set_cons_succ, i64_w, i32_w]
    rfl
  refine pure_ (i := 7) (N := (some 66)) (v := ?_) (a' := ?_) #[true, true, true, true, false, true, true, true, false, false, false, false, false, false, false, false, false, false] rfl rfl (by kernel_rfl) (fun _ _ _ h => h) (Or.inl ⟨by rfl, ?_⟩) ?_ ?_
  rotate_left
  · intro w'
    go_simp
    with_reducible rfl
  rotate_left
  · simp only [Act.put, List.setIfInBounds_toArray, List.set_cons_zero, List.set_cons_succ, i64_w, i32_w]
    rfl
  refine pure_ (i := 9) (N := (some 68)) (v := ?_) (a' := ?_) #[true, true, true, true, false, true, true, true, false, true, false, false, false, false, false, false, false, false] rfl rfl (by kernel_rfl) (fun _ _ _ h => h) (Or.inl ⟨by rfl, ?_⟩) ?_ ?_
  rotate_left
  · intro w'
    go_simp
    with_reducible rfl
  rotate_left
  · simp only [Act.put, List.setIfInBounds_toArray, List.set_cons_zero, List.set_cons_succ, i64_w, i32_w]
    rfl
  refine pure_ (i := 10) (N := (some 69)) (v := ?_) (a' := ?_) #[true, true, true, true, false, true, true, true, false, true, true, false, false, false, false, false, false, false] rfl rfl (by kernel_rfl) (fun _ _ _ h => h) (Or.inl ⟨by rfl, ?_⟩) ?_ ?_
  rotate_left
  · intro w'
    go_simp
    with_reducible rfl
  rotate_left
  · simp only [Act.put, List.setIfInBounds_toArray, List.set_cons_zero, List.set_cons_succ, i64_w, i32_w]
    rfl
  refine take_ (i := 4) (N := (some 63)) (v := ?_) (a' := ?_) #[true, true, true, true, true, true, true, true, false, true, true, false, false, false, false, false, false, false] rfl rfl (by kernel_rfl) (fun _ _ _ h => h) (Or.inl ⟨by rfl, ?_⟩) hHeld ?_ ?_
  rotate_left
  · rintro w' ⟨s0, s1, s2, s3, s4⟩
    go_simp
    with_reducible rfl
  rotate_left
  · simp only [Act.put, List.setIfInBounds_toArray, List.set_cons_zero, List.set_cons_succ, i64_w, i32_w]
    rfl
  refine take_ (i := 8) (N := (some 67)) (v := ?_) (a' := ?_) #[true, true, true, true, true, true, true, true, true, true, true, false, false, false, false, false, false, false] rfl rfl (by kernel_rfl) (fun _ _ _ h => h) (Or.inl ⟨by rfl, ?_⟩) hHeld ?_ ?_
  rotate_left
  · rintro w' ⟨s0, s1, s2, s3, s4⟩
    go_simp
    with_reducible rfl
  rotate_left
  · simp only [Act.put, List.setIfInBounds_toArray, List.set_cons_zero, List.set_cons_succ, i64_w, i32_w]
    rfl
  refine pure_ (i := 11) (N := (some 70)) (v := ?_) (a' := ?_) #[true, true, true, true, true, true, true, true, true, true, true, true, false, false, false, false, false, false] rfl rfl (by kernel_rfl) (fun _ _ _ h => h) (Or.inl ⟨by rfl, ?_⟩) ?_ ?_
  rotate_left
  · intro w'
    go_simp
    with_reducible rfl
  rotate_left
  · simp only [Act.put, List.setIfInBounds_toArray, List.set_cons_zero, List.set_cons_succ, i64_w, i32_w]
    rfl
  refine take_ (i := 12) (N := (some 71)) (v := ?_) (a' := ?_) #[true, true, true, true, true, true, true, true, true, true, true, true, true, false, false, false, false, false] rfl rfl (by kernel_rfl) (fun _ _ _ h => h) (Or.inl ⟨by rfl, ?_⟩) hHeld ?_ ?_
  rotate_left
  · rintro w' ⟨s0, s1, s2, s3, s4⟩
    go_simp
    with_reducible rfl
  rotate_left
  · simp only [Act.put, List.setIfInBounds_toArray, List.set_cons_zero, List.set_cons_succ, i64_w, i32_w]
    rfl
  refine one_ (i := 13) (N := (some 72)) #[true, true, true, true, true, true, true, true, true, true, true, true, true, true, false, false, false, false] rfl rfl (by kernel_rfl) (by decide) (fun K_ hK => ?_)
  obtain ⟨v1, hv1⟩ : ∃ v : Nat, w2.heap.size = v := ⟨_, rfl⟩
  refine made_ (v := .slice (some ⟨w2.heap.size, 0, none⟩) 1 1) (w1 := w2.alloc (.cells #[.string z.f0, .int .i64 z.f1.f0, .int .i64 z.f1.f1] 29)) (by rfl) rfl (by go_simp) ?_
  have HS3 := Aside0.mk (HS2.out.alloc #[.string z.f0, .int .i64 z.f1.f0, .int .i64 z.f1.f1] 29 hv1)
  clear HS2
  rw [hv1]
  clear hv1
  clear hHeld
  refine hK.out _ _ ⟨(HS3.out.node 6 rfl).c0, (HS3.out.node 0 rfl).c0, (RowE.at (HS3.out.rowE 1 rfl) HZ.out).1, (RowE.at (HS3.out.rowE 1 rfl) HZ.out).2.1, (RowE.at (HS3.out.rowE 1 rfl) HZ.out).2.2⟩ (fun hHeld => ?_)
  clear hK K_
  generalize w2.alloc (.cells #[.string z.f0, .int .i64 z.f1.f0, .int .i64 z.f1.f1] 29) = w3 at HS3 hHeld  ⊢
  refine norm_ (a' := ?_) ?_ ?_
  rotate_left
  · show Act.put _ (some 72) _ = _
    simp only [Act.put, List.setIfInBounds_toArray, List.set_cons_zero, List.set_cons_succ, i64_w, i32_w]
    rfl
  refine one_ (i := 14) (N := (some 73)) #[true, true, true, true, true, true, true, true, true, true, true, true, true, true, true, false, false, false] rfl rfl (by kernel_rfl) (by decide) (fun K_ hK => ?_)
  refine goes_ Try.func42 (by kernel_rfl) rfl #[Kb, .int .i64 0, .slice (some ⟨v1, 0, none⟩) 1 1] (by rfl) rfl rfl (by (try simp only [List.map_toArray, List.map_cons, List.map_nil]); first | done | rfl) ?_
  refine (insertE _ Kb kb 0 z v1 0 (HS3.out.rowE 7 rfl) (by omega) (by omega) (HS3.out.blk 9 rfl) (fun h => HS3.out.apart 7 9 (by decide) rfl rfl _ h (by simp [blkC])) rfl).mono ?_
  rintro E w4 ⟨g_v1, c_v1, rfl, hrow, hgrow, hown⟩
  have HS4 := Aside0.mk (HS3.out.setE 7 rfl hgrow hrow hown)
  clear HS3
  clear hrow hgrow hown
  refine ⟨_, rfl, ?_⟩
  clear hHeld
  refine hK.out _ _ ⟨(HS4.out.node 6 rfl).c0, (HS4.out.node 0 rfl).c0, (RowE.at (HS4.out.rowE 1 rfl) HZ.out).1, (RowE.at (HS4.out.rowE 1 rfl) HZ.out).2.1, (RowE.at (HS4.out.rowE 1 rfl) HZ.out).2.2⟩ (fun hHeld => ?_)
  clear hK K_
  refine norm_ (a' := ?_) ?_ ?_
  rotate_left
  · show Act.put _ (some 73) _ = _
    simp only [Act.put, List.setIfInBounds_toArray, List.set_cons_zero, List.set_cons_succ, i64_w, i32_w]
    rfl
  refine pure_ (i := 15) (N := (some 74)) (v := ?_) (a' := ?_) #[true, true, true, true, true, true, true, true, true, true, true, true, true, true, true, true, false, false] rfl rfl (by kernel_rfl) (fun _ _ _ h => h) (Or.inl ⟨by rfl, ?_⟩) ?_ ?_
  rotate_left
  · intro w'
    go_simp
    with_reducible rfl
  rotate_left
  · simp only [Act.put, List.setIfInBounds_toArray, List.set_cons_zero, List.set_cons_succ, i64_w, i32_w]
    rfl
  refine pure_ (i := 16) (N := (some 75)) (v := ?_) (a' := ?_) #[true, true, true, true, true, true, true, true, true, true, true, true, true, true, true, true, true, false] rfl rfl (by kernel_rfl) (fun _ _ _ h => h) (Or.inl ⟨by rfl, ?_⟩) ?_ ?_
  rotate_left
  · intro w'
    go_simp
    with_reducible rfl
  rotate_left
  · simp only [Act.put, List.setIfInBounds_toArray, List.set_cons_zero, List.set_cons_succ, i64_w, i32_w]
    rfl
  refine last_ (i := 17) (N := none) #[true, true, true, true, true, true, true, true, true, true, true, true, true, true, true, true, true, true] rfl rfl (by kernel_rfl) (by decide) (fun K_ hK => ?_)
  have c_0 := (HS4.out.node 6 rfl).c0
  have c_1 := (HS4.out.node 6 rfl).fz 0
  refine skip_ (w1 := ?_) (by rfl) rfl ?_ ?_
  rotate_left
  · go_simp
    rfl
  refine hK.out _ _ ?_
  clear hK K_ hHeld c_0 c_1
  refine done_ (by kernel_rfl) ?_
  have HS5 := Aside0.mk (HS4.out.put0 6 rfl (.slice (some ⟨g_v1, 0, none⟩) (kb.length + 1) c_v1))
  clear HS4
  generalize w4.setCell ⟨b, 0, none⟩ (.slice (some ⟨g_v1, 0, none⟩) (kb.length + 1) c_v1) = w5 at HS5 ⊢
  go_wp2
  have hd : insAt kb 0 z = z :: kb := rfl
  rw [hd] at HS5
  clear hd
  refine start_ (n := 18) (S := fun w' => w'.cell? ⟨b, 1, none⟩ = some (Cb) ∧ w'.cell? ⟨a, 1, none⟩ = some (.slice (some ⟨gd, 0, none⟩) (n0 + 2) capd) ∧ w'.cell? ⟨gd, n0 + 1, none⟩ = some (.pointer A)) (ds := [17]) #[false, false, false, false, false, false, false, false, false, false, false, false, false, false, false, false, false, false] (by kernel_rfl) rfl rfl ⟨(HS5.out.node 6 rfl).c1, (HS5.out.node 3 rfl).c1, (HS5.out.rowP 5 rfl).cell (by rw [← HND.out]) (n0 + 1) _ HQ.out⟩ (fun hHeld => ?_)
  have HS6 := Aside0.mk (HS5.out.drew)
  clear HS5
  generalize w5.drew = w6 at HS6 hHeld  ⊢
  refine pure_ (i := 0) (N := (some 76)) (v := ?_) (a' := ?_) #[true, false, false, false, false, false, false, false, false, false, false, false, false, false, false, false, false, false] rfl rfl (by kernel_rfl) (fun _ _ _ h => h) (Or.inl ⟨by rfl, ?_⟩) ?_ ?_
  rotate_left
  · intro w'
    go_simp
    with_reducible rfl
  rotate_left
  · simp only [Act.put, List.setIfInBounds_toArray, List.set_cons_zero, List.set_cons_succ, i64_w, i32_w]
    rfl
  refine pure_ (i := 1) (N := (some 77)) (v := ?_) (a' := ?_) #[true, true, false, false, false, false, false, false, false, false, false, false, false, false, false, false, false, false] rfl rfl (by kernel_rfl) (fun _ _ _ h => h) (Or.inl ⟨by rfl, ?_⟩) ?_ ?_
  rotate_left
  · intro w'
    go_simp
    with_reducible rfl
  rotate_left
  · simp only [Act.put, List.setIfInBounds_toArray, List.set_cons_zero, List.set_cons_succ, i64_w, i32_w]
    rfl
  refine pure_ (i := 2) (N := (some 78)) (v := ?_) (a' := ?_) #[true, true, true, false, false, false, false, false, false, false, false, false, false, false, false, false, false, false] rfl rfl (by kernel_rfl) (fun _ _ _ h => h) (Or.inl ⟨by rfl, ?_⟩) ?_ ?_
  rotate_left
  · intro w'
    go_simp
    with_reducible rfl
  rotate_left
  · simp only [Act.put, List.setIfInBounds_toArray, List.set_cons_zero, List.set_cons_succ, i64_w, i32_w]
    rfl
  refine pure_ (i := 3) (N := (some 79)) (v := ?_) (a' := ?_) #[true, true, true, true, false, false, false, false, false, false, false, false, false, false, false, false, false, false] rfl rfl (by kernel_rfl) (fun _ _ _ h => h) (Or.inl ⟨by rfl, ?_⟩) ?_ ?_
  rotate_left
  · intro w'
    go_simp
    with_reducible rfl
  rotate_left
  · simp only [Act.put, List.setIfInBounds_toArray, List.set_cons_zero, List.set_cons_succ, i64_w, i32_w]
    rfl
  refine pure_ (i := 5) (N := (some 81)) (v := ?_) (a' := ?_) #[true, true, true, true, false, true, false, false, false, false, false, false, false, false, false, false, false, false] rfl rfl (by kernel_rfl) (fun _ _ _ h => h) (Or.inl ⟨by rfl, ?_⟩) ?_ ?_
  rotate_left
  · intro w'
    go_simp
    with_reducible rfl
  rotate_left
  · simp only [Act.put, List.setIfInBounds_toArray, List.set_cons_zero, List.set_cons_succ, i64_w, i32_w]
    rfl
  refine pure_ (i := 6) (N := (some 82)) (v := ?_) (a' := ?_) #[true, true, true, true, false, true, true, false, false, false, false, false, false, false, false, false, false, false] rfl rfl (by kernel_rfl) (fun _ _ _ h => h) (Or.inl ⟨by rfl, ?_⟩) ?_ ?_
  rotate_left
  · intro w'
    go_simp
    with_reducible rfl
  rotate_left
  · simp only [Act.put, List.setIfInBounds_toArray, List.set_cons_zero, List.set_cons_succ, i64_w, i32_w]
    rfl
  refine pure_ (i := 7) (N := (some 83)) (v := ?_) (a' := ?_) #[true, true, true, true, false, true, true, true, false, false, false, false, false, false, false, false, false, false] rfl rfl (by kernel_rfl) (fun _ _ _ h => h) (Or.inl ⟨by rfl, ?_⟩) ?_ ?_
  rotate_left
  · intro w'
    go_simp
    with_reducible rfl
  rotate_left
  · simp only [Act.put, List.setIfInBounds_toArray, List.set_cons_zero, List.set_cons_succ, i64_w, i32_w]
    rfl
  refine pure_ (i := 9) (N := (some 85)) (v := ?_) (a' := ?_) #[true, true, true, true, false, true, true, true, false, true, false, false, false, false, false, false, false, false] rfl rfl (by kernel_rfl) (fun _ _ _ h => h) (Or.inl ⟨by rfl, ?_⟩) ?_ ?_
  rotate_left
  · intro w'
    go_simp
    with_reducible rfl
  rotate_left
  · simp only [Act.put, List.setIfInBounds_toArray, List.set_cons_zero, List.set_cons_succ, i64_w, i32_w]
    rfl
  refine pure_ (i := 10) (N := (some 86)) (v := ?_) (a' := ?_) #[true, true, true, true, false, true, true, true, false, true, true, false, false, false, false, false, false, false] rfl rfl (by kernel_rfl) (fun _ _ _ h => h) (Or.inl ⟨by rfl, ?_⟩) ?_ ?_
  rotate_left
  · intro w'
    go_simp
    with_reducible rfl
  rotate_left
  · simp only [Act.put, List.setIfInBounds_toArray, List.set_cons_zero, List.set_cons_succ, i64_w, i32_w]
    rfl
  refine take_ (i := 4) (N := (some 80)) (v := ?_) (a' := ?_) #[true, true, true, true, true, true, true, true, false, true, true, false, false, false, false, false, false, false] rfl rfl (by kernel_rfl) (fun _ _ _ h => h) (Or.inl ⟨by rfl, ?_⟩) hHeld ?_ ?_
  rotate_left
  · rintro w' ⟨s0, s1, s2⟩
    go_simp
    with_reducible rfl
  rotate_left
  · simp only [Act.put, List.setIfInBounds_toArray, List.set_cons_zero, List.set_cons_succ, i64_w, i32_w]
    rfl
  refine take_ (i := 8) (N := (some 84)) (v := ?_) (a' := ?_) #[true, true, true, true, true, true, true, true, true, true, true, false, false, false, false, false, false, false] rfl rfl (by kernel_rfl) (fun _ _ _ h => h) (Or.inl ⟨by rfl, ?_⟩) hHeld ?_ ?_
  rotate_left
  · rintro w' ⟨s0, s1, s2⟩
    go_simp
    with_reducible rfl
  rotate_left
  · simp only [Act.put, List.setIfInBounds_toArray, List.set_cons_zero, List.set_cons_succ, i64_w, i32_w]
    rfl
  refine pure_ (i := 11) (N := (some 87)) (v := ?_) (a' := ?_) #[true, true, true, true, true, true, true, true, true, true, true, true, false, false, false, false, false, false] rfl rfl (by kernel_rfl) (fun _ _ _ h => h) (Or.inl ⟨by rfl, ?_⟩) ?_ ?_
  rotate_left
  · intro w'
    go_simp
    with_reducible rfl
  rotate_left
  · simp only [Act.put, List.setIfInBounds_toArray, List.set_cons_zero, List.set_cons_succ, i64_w, i32_w]
    rfl
  refine take_ (i := 12) (N := (some 88)) (v := ?_) (a' := ?_) #[true, true, true, true, true, true, true, true, true, true, true, true, true, false, false, false, false, false] rfl rfl (by kernel_rfl) (fun _ _ _ h => h) (Or.inl ⟨by rfl, ?_⟩) hHeld ?_ ?_
  rotate_left
  · rintro w' ⟨s0, s1, s2⟩
    go_simp
    with_reducible rfl
  rotate_left
  · simp only [Act.put, List.setIfInBounds_toArray, List.set_cons_zero, List.set_cons_succ, i64_w, i32_w]
    rfl
  refine one_ (i := 13) (N := (some 89)) #[true, true, true, true, true, true, true, true, true, true, true, true, true, true, false, false, false, false] rfl rfl (by kernel_rfl) (by decide) (fun K_ hK => ?_)
  obtain ⟨v2, hv2⟩ : ∃ v : Nat, w6.heap.size = v := ⟨_, rfl⟩
  refine made_ (v := .slice (some ⟨w6.heap.size, 0, none⟩) 1 1) (w1 := w6.alloc (.cells #[.pointer A] 59)) (by rfl) rfl (by go_simp) ?_
  have HS7 := Aside0.mk (HS6.out.alloc #[.pointer A] 59 hv2)
  clear HS6
  rw [hv2]
  clear hv2
  clear hHeld
  refine hK.out _ _ ⟨(HS7.out.node 6 rfl).c1, (HS7.out.node 3 rfl).c1, (HS7.out.rowP 5 rfl).cell (by rw [← HND.out]) (n0 + 1) _ HQ.out⟩ (fun hHeld => ?_)
  clear hK K_
  generalize w6.alloc (.cells #[.pointer A] 59) = w7 at HS7 hHeld  ⊢
  refine norm_ (a' := ?_) ?_ ?_
  rotate_left
  · show Act.put _ (some 89) _ = _
    simp only [Act.put, List.setIfInBounds_toArray, List.set_cons_zero, List.set_cons_succ, i64_w, i32_w]
    rfl
  refine one_ (i := 14) (N := (some 90)) #[true, true, true, true, true, true, true, true, true, true, true, true, true, true, true, false, false, false] rfl rfl (by kernel_rfl) (by decide) (fun K_ hK => ?_)
  refine goes_ Try.func44 (by kernel_rfl) rfl #[Cb, .int .i64 0, .slice (some ⟨v2, 0, none⟩) 1 1] (by rfl) rfl rfl (by (try simp only [List.map_toArray, List.map_cons, List.map_nil]); first | done | rfl) ?_
  refine (insertP _ Cb pb 0 (.pointer A) rfl v2 0 (HS7.out.rowP 8 rfl) (by omega) (by omega) (HS7.out.blk 10 rfl) (fun h => HS7.out.apart 8 10 (by decide) rfl rfl _ h (by simp [blkC])) rfl).mono ?_
  rintro E w8 ⟨g_v2, c_v2, rfl, hrow, hgrow, hown⟩
  have HS8 := Aside0.mk (HS7.out.setP 8 rfl hgrow hrow hown)
  clear HS7
  clear hrow hgrow hown
  refine ⟨_, rfl, ?_⟩
  clear hHeld
  refine hK.out _ _ ⟨(HS8.out.node 6 rfl).c1, (HS8.out.node 3 rfl).c1, (HS8.out.rowP 5 rfl).cell (by rw [← HND.out]) (n0 + 1) _ HQ.out⟩ (fun hHeld => ?_)
  clear hK K_
  refine norm_ (a' := ?_) ?_ ?_
  rotate_left
  · show Act.put _ (some 90) _ = _
    simp only [Act.put, List.setIfInBounds_toArray, List.set_cons_zero, List.set_cons_succ, i64_w, i32_w]
    rfl
  refine pure_ (i := 15) (N := (some 91)) (v := ?_) (a' := ?_) #[true, true, true, true, true, true, true, true, true, true, true, true, true, true, true, true, false, false] rfl rfl (by kernel_rfl) (fun _ _ _ h => h) (Or.inl ⟨by rfl, ?_⟩) ?_ ?_
  rotate_left
  · intro w'
    go_simp
    with_reducible rfl
  rotate_left
  · simp only [Act.put, List.setIfInBounds_toArray, List.set_cons_zero, List.set_cons_succ, i64_w, i32_w]
    rfl
  refine pure_ (i := 16) (N := (some 92)) (v := ?_) (a' := ?_) #[true, true, true, true, true, true, true, true, true, true, true, true, true, true, true, true, true, false] rfl rfl (by kernel_rfl) (fun _ _ _ h => h) (Or.inl ⟨by rfl, ?_⟩) ?_ ?_
  rotate_left
  · intro w'
    go_simp
    with_reducible rfl
  rotate_left
  · simp only [Act.put, List.setIfInBounds_toArray, List.set_cons_zero, List.set_cons_succ, i64_w, i32_w]
    rfl
  refine last_ (i := 17) (N := none) #[true, true, true, true, true, true, true, true, true, true, true, true, true, true, true, true, true, true] rfl rfl (by kernel_rfl) (by decide) (fun K_ hK => ?_)
  have c_0 := (HS8.out.node 6 rfl).c1
  have c_1 := (HS8.out.node 6 rfl).fz 1
  refine skip_ (w1 := ?_) (by rfl) rfl ?_ ?_
  rotate_left
  · go_simp
    rfl
  refine hK.out _ _ ?_
  clear hK K_ hHeld c_0 c_1
  refine done_ (by kernel_rfl) ?_
  have HS9 := Aside0.mk (HS8.out.put1 6 rfl (.slice (some ⟨g_v2, 0, none⟩) (pb.length + 1) c_v2))
  clear HS8
  generalize w8.setCell ⟨b, 1, none⟩ (.slice (some ⟨g_v2, 0, none⟩) (pb.length + 1) c_v2) = w9 at HS9 ⊢
  have hd : insAt pb 0 (Value.pointer A) = .pointer A :: pb := rfl
  rw [hd] at HS9
  clear hd
  have ca := (HS9.out.node 3 rfl).c1
  have fa := (HS9.out.node 3 rfl).fz 1
  go_wp2
  have HS10 := Aside0.mk ((HS9.out.setP 5 rfl (v' := .slice (some ⟨gd, 0, none⟩) (n0 + 1) capd) (ps' := pa) (grown_refl _ _) (by have hq := HS9.out.rowP 5 rfl; rw [HND.out] at hq; have hc := Row.cut (k := n0 + 1) (c := capd) hq (by omega) (by omega) (Nat.le_refl _); rw [Nat.mul_one, HTQ.out] at hc; have hpl : pa.length = n0 + 1 := (by have := HND.out; simp at this; omega); rw [hpl]; exact hc) (.inl rfl)).put1 3 rfl (.slice (some ⟨gd, 0, none⟩) (n0 + 1) capd))
  clear HS9
  generalize w9.setCell ⟨a, 1, none⟩ (.slice (some ⟨gd, 0, none⟩) (n0 + 1) capd) = w10 at HS10 ⊢
  clear ca fa
  refine start_ (n := 15) (S := fun w' => w'.cell? ⟨p, 0, none⟩ = some (.slice (some ⟨gk, 0, none⟩) nk capK) ∧ w'.cell? ⟨a, 0, none⟩ = some (.slice (some ⟨ga, 0, none⟩) (n0 + 1) capa) ∧ w'.cell? ⟨ga, n0 * 3, none⟩ = some (.string x.f0) ∧ w'.cell? ⟨ga, n0 * 3 + 1, none⟩ = some (.int .i64 x.f1.f0) ∧ w'.cell? ⟨ga, n0 * 3 + 2, none⟩ = some (.int .i64 x.f1.f1)) (ds := [14]) #[false, false, false, false, false, false, false, false, false, false, false, false, false, false, false] (by kernel_rfl) rfl rfl ⟨(HS10.out.node 0 rfl).c0, (HS10.out.node 3 rfl).c0, (RowE.at (HS10.out.rowE 4 rfl) HX.out).1, (RowE.at (HS10.out.rowE 4 rfl) HX.out).2.1, (RowE.at (HS10.out.rowE 4 rfl) HX.out).2.2⟩ (fun hHeld => ?_)
  have HS11 := Aside0.mk (HS10.out.drew)
  clear HS10
  generalize w10.drew = w11 at HS11 hHeld  ⊢
  refine pure_ (i := 0) (N := (some 103)) (v := ?_) (a' := ?_) #[true, false, false, false, false, false, false, false, false, false, false, false, false, false, false] rfl rfl (by kernel_rfl) (fun _ _ _ h => h) (Or.inl ⟨by rfl, ?_⟩) ?_ ?_
  rotate_left
  · intro w'
    go_simp
    with_reducible rfl
  rotate_left
  · simp only [Act.put, List.setIfInBounds_toArray, List.set_cons_zero, List.set_cons_succ, i64_w, i32_w]
    rfl
  refine pure_ (i := 1) (N := (some 104)) (v := ?_) (a' := ?_) #[true, true, false, false, false, false, false, false, false, false, false, false, false, false, false] rfl rfl (by kernel_rfl) (fun _ _ _ h => h) (Or.inl ⟨by rfl, ?_⟩) ?_ ?_
  rotate_left
  · intro w'
    go_simp
    with_reducible rfl
  rotate_left
  · simp only [Act.put, List.setIfInBounds_toArray, List.set_cons_zero, List.set_cons_succ, i64_w, i32_w]
    rfl
  refine pure_ (i := 2) (N := (some 105)) (v := ?_) (a' := ?_) #[true, true, true, false, false, false, false, false, false, false, false, false, false, false, false] rfl rfl (by kernel_rfl) (fun _ _ _ h => h) (Or.inl ⟨by rfl, ?_⟩) ?_ ?_
  rotate_left
  · intro w'
    go_simp
    with_reducible rfl
  rotate_left
  · simp only [Act.put, List.setIfInBounds_toArray, List.set_cons_zero, List.set_cons_succ, i64_w, i32_w]
    rfl
  refine pure_ (i := 4) (N := (some 107)) (v := ?_) (a' := ?_) #[true, true, true, false, true, false, false, false, false, false, false, false, false, false, false] rfl rfl (by kernel_rfl) (fun _ _ _ h => h) (Or.inl ⟨by rfl, ?_⟩) ?_ ?_
  rotate_left
  · intro w'
    go_simp
    with_reducible rfl
  rotate_left
  · simp only [Act.put, List.setIfInBounds_toArray, List.set_cons_zero, List.set_cons_succ, i64_w, i32_w]
    rfl
  refine pure_ (i := 5) (N := (some 108)) (v := ?_) (a' := ?_) #[true, true, true, false, true, true, false, false, false, false, false, false, false, false, false] rfl rfl (by kernel_rfl) (fun _ _ _ h => h) (Or.inl ⟨by rfl, ?_⟩) ?_ ?_
  rotate_left
  · intro w'
    go_simp
    with_reducible rfl
  rotate_left
  · simp only [Act.put, List.setIfInBounds_toArray, List.set_cons_zero, List.set_cons_succ, i64_w, i32_w]
    rfl
  refine pure_ (i := 6) (N := (some 109)) (v := ?_) (a' := ?_) #[true, true, true, false, true, true, true, false, false, false, false, false, false, false, false] rfl rfl (by kernel_rfl) (fun _ _ _ h => h) (Or.inl ⟨by rfl, ?_⟩) ?_ ?_
  rotate_left
  · intro w'
    go_simp
    with_reducible rfl
  rotate_left
  · simp only [Act.put, List.setIfInBounds_toArray, List.set_cons_zero, List.set_cons_succ, i64_w, i32_w]
    rfl
  refine pure_ (i := 7) (N := (some 110)) (v := ?_) (a' := ?_) #[true, true, true, false, true, true, true, true, false, false, false, false, false, false, false] rfl rfl (by kernel_rfl) (fun _ _ _ h => h) (Or.inl ⟨by rfl, ?_⟩) ?_ ?_
  rotate_left
  · intro w'
    go_simp
    with_reducible rfl
  rotate_left
  · simp only [Act.put, List.setIfInBounds_toArray, List.set_cons_zero, List.set_cons_succ, i64_w, i32_w]
    rfl
  refine pure_ (i := 8) (N := (some 111)) (v := ?_) (a' := ?_) #[true, true, true, false, true, true, true, true, true, false, false, false, false, false, false] rfl rfl (by kernel_rfl) (fun _ _ _ h => h) (Or.inl ⟨by rfl, ?_⟩) ?_ ?_
  rotate_left
  · intro w'
    go_simp
    with_reducible rfl
  rotate_left
  · simp only [Act.put, List.setIfInBounds_toArray, List.set_cons_zero, List.set_cons_succ, i64_w, i32_w]
    rfl
  refine pure_ (i := 10) (N := (some 113)) (v := ?_) (a' := ?_) #[true, true, true, false, true, true, true, true, true, false, true, false, false, false, false] rfl rfl (by kernel_rfl) (fun _ _ _ h => h) (Or.inl ⟨by rfl, ?_⟩) ?_ ?_
  rotate_left
  · intro w'
    go_simp
    with_reducible rfl
  rotate_left
  · simp only [Act.put, List.setIfInBounds_toArray, List.set_cons_zero, List.set_cons_succ, i64_w, i32_w]
    rfl
  refine take_ (i := 3) (N := (some 106)) (v := ?_) (a' := ?_) #[true, true, true, true, true, true, true, true, true, false, true, false, false, false, false] rfl rfl (by kernel_rfl) (fun _ _ _ h => h) (Or.inl ⟨by rfl, ?_⟩) hHeld ?_ ?_
  rotate_left
  · rintro w' ⟨s0, s1, s2, s3, s4⟩
    go_simp
    with_reducible rfl
  rotate_left
  · simp only [Act.put, List.setIfInBounds_toArray, List.set_cons_zero, List.set_cons_succ, i64_w, i32_w]
    rfl
  refine take_ (i := 9) (N := (some 112)) (v := ?_) (a' := ?_) #[true, true, true, true, true, true, true, true, true, true, true, false, false, false, false] rfl rfl (by kernel_rfl) (fun _ _ _ h => h) (Or.inl ⟨by rfl, ?_⟩) hHeld ?_ ?_
  rotate_left
  · rintro w' ⟨s0, s1, s2, s3, s4⟩
    go_simp
    with_reducible rfl
  rotate_left
  · simp only [Act.put, List.setIfInBounds_toArray, List.set_cons_zero, List.set_cons_succ, i64_w, i32_w]
    rfl
  refine pure_ (i := 11) (N := (some 114)) (v := ?_) (a' := ?_) #[true, true, true, true, true, true, true, true, true, true, true, true, false, false, false] rfl rfl (by kernel_rfl) (fun _ _ _ h => h) (Or.inl ⟨by rfl, ?_⟩) ?_ ?_
  rotate_left
  · intro w'
    go_simp
    with_reducible rfl
  rotate_left
  · simp only [Act.put, List.setIfInBounds_toArray, List.set_cons_zero, List.set_cons_succ, i64_w, i32_w]
    rfl
  refine take_ (i := 12) (N := (some 115)) (v := ?_) (a' := ?_) #[true, true, true, true, true, true, true, true, true, true, true, true, true, false, false] rfl rfl (by kernel_rfl) (fun _ _ _ h => h) (Or.inl ⟨by rfl, ?_⟩) hHeld ?_ ?_
  rotate_left
  · rintro w' ⟨s0, s1, s2, s3, s4⟩
    go_simp
    with_reducible rfl
  rotate_left
  · simp only [Act.put, List.setIfInBounds_toArray, List.set_cons_zero, List.set_cons_succ, i64_w, i32_w]
    rfl
  refine pure_ (i := 13) (N := (some 116)) (v := ?_) (a' := ?_) #[true, true, true, true, true, true, true, true, true, true, true, true, true, true, false] rfl rfl (by kernel_rfl) (fun _ _ _ h => h) (Or.inl ⟨by rfl, ?_⟩) ?_ ?_
  rotate_left
  · intro w'
    go_simp
    with_reducible rfl
  rotate_left
  · simp only [Act.put, List.setIfInBounds_toArray, List.set_cons_zero, List.set_cons_succ, i64_w, i32_w]
    rfl
  refine last_ (i := 14) (N := none) #[true, true, true, true, true, true, true, true, true, true, true, true, true, true, true] rfl rfl (by kernel_rfl) (by decide) (fun K_ hK => ?_)
  have c_0 := RowE.cells (HS11.out.rowE 1 rfl) i (by rw [HNK.out]; exact hk)
  obtain ⟨d_0, d_1, d_2⟩ := c_0
  have c_1 := (HS11.out.rowE 1 rfl).frozen (by rw [← HNK.out]) (i * 3)
  have c_2 := (HS11.out.rowE 1 rfl).frozen (by rw [← HNK.out]) (i * 3 + 1)
  have c_3 := (HS11.out.rowE 1 rfl).frozen (by rw [← HNK.out]) (i * 3 + 2)
  refine skip_ (w1 := ?_) (by rfl) rfl ?_ ?_
  rotate_left
  · go_simp
    rfl
  refine hK.out _ _ ?_
  clear hK K_ hHeld d_0 d_1 d_2 c_1 c_2 c_3
  refine done_ (by kernel_rfl) ?_
  have HS12 := Aside0.mk (HS11.out.putE 1 rfl i x (by rw [HNK.out]; exact hk))
  clear HS11
  generalize ((w11.setCell ⟨gk, i * 3, none⟩ (.string x.f0)).setCell ⟨gk, i * 3 + 1, none⟩ (.int .i64 x.f1.f0)).setCell ⟨gk, i * 3 + 2, none⟩ (.int .i64 x.f1.f1) = w12 at HS12 ⊢
  have ca := (HS12.out.node 3 rfl).c0
  have fa := (HS12.out.node 3 rfl).fz 0
  go_wp2
  have HS13 := Aside0.mk ((HS12.out.setE 4 rfl (grown_refl _ _) ((RowE.cut (HS12.out.rowE 4 rfl) n0 capa (by rw [HNA.out]; omega) (by omega) (Nat.le_refl _))) (.inl rfl)).put0 3 rfl (.slice (some ⟨ga, 0, none⟩) n0 capa))
  clear HS12
  rw [HT.out] at HS13
  go_end0
  rw [← HR.out]
  have hl := Aside0.mk ((HS13.out.left : St _ _ _ (par3 p _ _ _ _ a _ _ _ _ b _ _ _ _)))
  exact ⟨_, _, _, _, rfl, fun h => (by cases h), hl.out⟩
end Go.Proofs.Bt
end
