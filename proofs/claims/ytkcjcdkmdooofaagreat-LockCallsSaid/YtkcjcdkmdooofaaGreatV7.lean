/- Packed by shake.py: YtkcjcdkmdooofaaGreatRC6 YtkcjcdkmdooofaaGreatRC7 YtkcjcdkmdooofaaGreatQ39 YtkcjcdkmdooofaaGreatQ37 YtkcjcdkmdooofaaGreatRC8 YtkcjcdkmdooofaaGreatRP1 YtkcjcdkmdooofaaGreatRC11 YtkcjcdkmdooofaaGreatQ102 YtkcjcdkmdooofaaGreatQ88 -/
import Derived.Test.YtkcjcdkmdooofaaGreatV6
set_option linter.unusedVariables false
set_option linter.unusedSimpArgs false
set_option linter.unusedSectionVars false
section
namespace Go.Proofs.Kb
open Go Go.RowKit Go.Proofs.YtkcjcdkmdooofaaGreat.Q Go.Proofs.YtkcjcdkmdooofaaGreatW.PrintWords Go.Proofs.YtkcjcdkmdooofaaGreatW.PrintLast Go.Proofs.YtkcjcdkmdooofaaGreatW.PrintMore
set_option maxRecDepth 100000
open Go.Proofs.Lk Go.Proofs.Mp
attribute [local go_sem high] eqT
section
variable {w0 w w' : World} {F : Nat → Prop} {rp : Nat} {r : RS S32} {R R' : List Chunk}
theorem RowX.empty {α : Type} {E : EncT α} (w : World) : RowX E (w.alloc (.cells #[] E.ty)) (.slice (some ⟨w.heap.size, 0, none⟩) 0 0) [] :=
 ⟨by simp [EncT.all], by simp [EncT.all], .inr ⟨_, 0, #[], rfl, heap_alloc_new w _, Nat.le_refl _, by simp [maxLen], by simp, by simp [EncT.all]⟩⟩
theorem RQ.openz (h : RQ w0 F rp r R w) {n : Nat} (hn : r.waits.length = n) : ∃ A c, w.cell? ⟨rp, 1, none⟩ = some (.slice A n c) ∧ rp < w.heap.size := by
 subst hn
 obtain ⟨Ah, ch, Aw, cw, h⟩ := h
 exact ⟨Aw, cw, (blk_cell (h.blk 0 rfl) 1).trans rfl, lt_of_some (h.blk 0 rfl)⟩
theorem RQ.openy (h : RQ w0 F rp r R w) {n : Nat} (hn : r.holds.length = n) : ∃ A c, w.cell? ⟨rp, 0, none⟩ = some (.slice A n c) ∧ rp < w.heap.size := by
 subst hn
 obtain ⟨Ah, ch, Aw, cw, h⟩ := h
 exact ⟨Ah, ch, (blk_cell (h.blk 0 rfl) 0).trans rfl, lt_of_some (h.blk 0 rfl)⟩
def q6 (w : World) (g i : Nat) (b : Bool) (o : S32 × One) : Prop := w.cell? ⟨g, i * 6, none⟩ = some (.int .i64 o.1.f0) ∧ w.cell? ⟨g, i * 6 + 1, none⟩ = some (.string o.1.f1) ∧ w.cell? ⟨g, i * 6 + 2, none⟩ = some (.string o.1.f2) ∧ w.cell? ⟨g, i * 6 + 3, none⟩ = some (.int .i64 o.2.1) ∧ w.cell? ⟨g, i * 6 + 4, none⟩ = some (.int .i64 o.2.2) ∧ w.cell? ⟨g, i * 6 + 5, none⟩ = some (.bool b)
theorem RQ.openw (h : RQ w0 F rp r R w) {n i : Nat} {o : S32 × One} (hn : r.waits.length = n) (ho : r.waits[i]? = some o) : ∃ g c, w.cell? ⟨rp, 1, none⟩ = some (.slice (some ⟨g, 0, none⟩) n c) ∧ rp < w.heap.size ∧ g < w.heap.size ∧ q6 w g i true o := by
 subst hn
 obtain ⟨Ah, ch, Aw, cw, h⟩ := h
 have hl := (List.getElem?_eq_some_iff.1 ho).1
 obtain ⟨g1, c1, hv, _⟩ := row_slice (n := (r.waits.map (qv true)).length) (h.rowX 2 rfl) (by rw [List.length_map]; omega)
 obtain ⟨rfl, rfl⟩ : Aw = some ⟨g1, 0, none⟩ ∧ cw = c1 := by
   injection hv with e1 e2 e3
   exact ⟨e1, e3⟩
 have hq := (h.rowX 2 rfl).q ho
 exact ⟨g1, cw, (blk_cell (h.blk 0 rfl) 1).trans rfl, lt_of_some (h.blk 0 rfl), World.block_lt_of_cell? _ _ hq.1, hq⟩
theorem RQ.openh (h : RQ w0 F rp r R w) {n i : Nat} {o : S32 × One} (hn : r.holds.length = n) (ho : r.holds[i]? = some o) : ∃ g c, w.cell? ⟨rp, 0, none⟩ = some (.slice (some ⟨g, 0, none⟩) n c) ∧ rp < w.heap.size ∧ g < w.heap.size ∧ q6 w g i false o := by
 subst hn
 obtain ⟨Ah, ch, Aw, cw, h⟩ := h
 have hl := (List.getElem?_eq_some_iff.1 ho).1
 obtain ⟨g1, c1, hv, _⟩ := row_slice (n := (r.holds.map (qv false)).length) (h.rowX 1 rfl) (by rw [List.length_map]; omega)
 obtain ⟨rfl, rfl⟩ : Ah = some ⟨g1, 0, none⟩ ∧ ch = c1 := by
   injection hv with e1 e2 e3
   exact ⟨e1, e3⟩
 have hq := (h.rowX 1 rfl).q ho
 exact ⟨g1, ch, (blk_cell (h.blk 0 rfl) 0).trans rfl, lt_of_some (h.blk 0 rfl), World.block_lt_of_cell? _ _ hq.1, hq⟩
theorem RQ.alloc (h : RQ w0 F rp r R w) (C : Array Value) (T : TypeId) {n : Nat} (hn : w.heap.size = n) : RQ w0 F rp r (blkC n (.cells C T (0, 0)) :: R) (w.alloc (.cells C T)) := by
 obtain ⟨Ah, ch, Aw, cw, h⟩ := h
 refine ⟨Ah, ch, Aw, cw, ?_⟩
 have h1 := h.alloc C T hn
 exact (show St w0 F _ ([_, _, _] ++ (R ++ [_])) from h1).perm (List.Perm.append_left _ (List.perm_append_comm (l₂ := [_])))
theorem RQ.swap (h : RQ w0 F rp r R w) (hp : R.Perm R') : RQ w0 F rp r R' w := h.perm hp
theorem RQ.drop1 {c : Chunk} (h : RQ w0 F rp r (c :: R) w) : RQ w0 F rp r R w := by
 obtain ⟨Ah, ch, Aw, cw, h⟩ := h
 refine ⟨Ah, ch, Aw, cw, ?_⟩
 have h2 := (show St w0 F _ ([_, _, _] ++ ([c] ++ R)) from h).perm (B := [c] ++ ([_, _, _] ++ R)) (by rw [← List.append_assoc, ← List.append_assoc]; exact List.Perm.append_right R List.perm_append_comm)
 exact St.drop (A := [c]) h2
theorem RQ.side {c c' : Chunk} (h : RQ w0 F rp r (c :: R) w) (hk : Keep w w' (fun b => b ∈ c.bs)) (hc : c'.H w') (hnd : ND c'.bs) (hs : ∀ b ∈ c'.bs, b ∈ c.bs ∨ w.heap.size ≤ b) : RQ w0 F rp r (c' :: R) w' := by
 obtain ⟨Ah, ch, Aw, cw, h⟩ := h
 exact ⟨Ah, ch, Aw, cw, h.upd 3 rfl c' hk hc hnd hs⟩
theorem RQ.sideTo {α : Type} {E : EncT α} {v v' : Value} {l l' : List α} (h : RQ w0 F rp r (rowXC E v l :: R) w) (hr : RowX E w' v' l') (hg : w.grownBy w' v.ownBlock) (ho : Owns w v v') : RQ w0 F rp r (rowXC E v' l' :: R) w' :=
 h.side (keep_row hg) hr (nd_bl v') (bl_sub ho)
theorem RQ.more {c : Chunk} (h : RQ w0 F rp r R w) (hb : Below w.heap.size w w') (hc : c.H w') (hnd : ND c.bs) (hs : ∀ b ∈ c.bs, w.heap.size ≤ b) : RQ w0 F rp r (c :: R) w' := by
 obtain ⟨Ah, ch, Aw, cw, h⟩ := h
 refine ⟨Ah, ch, Aw, cw, ?_⟩
 exact (show St w0 F _ ([c] ++ [_, _, _] ++ R) from h.fresh hb c hc hnd hs).perm (B := ([_, _, _] ++ [c]) ++ R) (List.Perm.append_right R List.perm_append_comm)
theorem rgive_len (t : S32) (o : One) : ∀ l : List (S32 × One), (rgiveL t o l).length ≤ l.length + 1
 | [] => Nat.le_refl _
 | p :: l => by
   rw [rgiveL]
   split
   · simp
   · have := rgive_len t o l
     simp only [List.length_cons]
     omega
theorem rsweepA_end (k : Nat) (t : S32) (r : RS S32) (i : Nat) (h : r.waits.length ≤ i) : rsweepA k t r i = (r, []) := by
 cases k with
 | zero => rfl
 | succ k =>
   unfold rsweepA
   rw [List.getElem?_eq_none h]
theorem rsweepA_give {k : Nat} {t : S32} {r : RS S32} {i : Nat} {o : S32 × One} (ho : r.waits[i]? = some o) (ht : o.1 = t) (hc : rcan r o.2.1 t o.2.2 i = true) : rsweepA (k + 1) t r i = ((rsweepA k t ⟨rgiveL t o.2 r.holds, r.waits.eraseIdx i⟩ i).1, o.2.1 :: (rsweepA k t ⟨rgiveL t o.2 r.holds, r.waits.eraseIdx i⟩ i).2) := by
 rw [rsweepA]
 simp only [ho]
 rw [if_pos ⟨ht, hc⟩]
theorem rsweepA_skip {k : Nat} {t : S32} {r : RS S32} {i : Nat} {o : S32 × One} (ho : r.waits[i]? = some o) (h : ¬ (o.1 = t ∧ rcan r o.2.1 t o.2.2 i = true)) : rsweepA (k + 1) t r i = rsweepA k t r (i + 1) := by
 rw [rsweepA]
 simp only [ho]
 rw [if_neg h]
set_option maxHeartbeats 16000000 in
theorem qsweep_calls (h : RQ w0 F rp r R w) (t : S32) (hn : r.holds.length + r.waits.length < 90000) :
   Calls Tryz.prog 47 #[.pointer (some ⟨rp, 0, none⟩), thgV t] w fun E w' => ∃ A n c, E = .returned (.slice A n c) ∧ RQ w0 F rp (rsweep t r).1 (rowIC (.slice A n c) (rsweep t r).2 :: R) w' := by
 obtain ⟨Q, hQ⟩ : ∃ Q, (fun E w' => ∃ A n c, E = Ending.returned (.slice A n c) ∧ RQ w0 F rp (rsweep t r).1 (rowIC (.slice A n c) (rsweep t r).2 :: R) w') = Q := ⟨_, rfl⟩
 have HQ := Aside0.mk hQ
 rw [hQ]
 clear hQ
 have hu30 := Tryz.underlying30
 have hu28 := Tryz.underlying28
 have hu77 := Tryz.underlying77
 have hu75 := Tryz.underlying75
 have hu32 := Tryz.underlying32
 have hu34 := Tryz.underlying34
 have hu41 := Tryz.underlying41
 have hz77 := Tryz.sizeOf77
 have hz34 := Tryz.sizeOf34
 have hz32 := Tryz.sizeOf32
 obtain ⟨n3, hn3⟩ : ∃ n, w.heap.size = n := ⟨_, rfl⟩
 have h1 := h.alloc #[.int .i64 t.f0, .string t.f1, .string t.f2] 32 hn3
 obtain ⟨W8, hW8⟩ : ∃ W, w.alloc (.cells #[.int .i64 t.f0, .string t.f1, .string t.f2] 32) = W := ⟨_, rfl⟩
 rw [hW8] at h1
 have h2 := h1.more (c := rowIC (.slice (some ⟨W8.heap.size, 0, none⟩) 0 0) []) ((Below.refl _ W8).alloc (Nat.le_refl _) (.cells #[] 3)) (RowX.empty W8) (nd_bl (.slice (some ⟨W8.heap.size, 0, none⟩) 0 0)) (fun b hb => by
   have hb : b ∈ bl (.slice (some ⟨W8.heap.size, 0, none⟩) 0 0) := hb
   rw [bl_slice] at hb
   simp at hb
   omega)
 have HS := Aside0.mk h2
 have HN := Aside0.mk hn
 clear h h1 h2 hn
 unfold thgV
 go_enter Tryz.func47, Tryz.ntmps47
 go_wp2
 go_loopg [5, 6] r.waits.length (fun gq v5 v6 wx => ∃ (rk : RS S32) (i k na : Nat) (acc : List Int) (A : Option Addr) (c : Nat), v6 = .int .i64 i ∧ v5 = .slice A na c ∧ i + gq = rk.waits.length ∧
   Aside0 (acc.length = na) ∧ Aside0 (rsweep t r = ((rsweepA k t rk i).1, acc ++ (rsweepA k t rk i).2) ∧ rk.waits.length < i + k) ∧ Aside0 (rk.holds.length + rk.waits.length ≤ r.holds.length + r.waits.length ∧ na + rk.waits.length ≤ r.waits.length) ∧
   Aside0 (RQ w0 F rp rk (rowIC (.slice A na c) acc :: blkC n3 (.cells #[.int .i64 t.f0, .string t.f1, .string t.f2] 32 (0, 0)) :: R) wx))
 case atStart => exact ⟨r, 0, r.waits.length + 1, 0, [], _, 0, rfl, rfl, by omega, Aside0.mk rfl, Aside0.mk ⟨rfl, by omega⟩, Aside0.mk ⟨Nat.le_refl _, by omega⟩, HS⟩
 case round =>
   clear HS hW8
   obtain ⟨rk, i, k, na, acc, A, c, rfl, rfl, hi, HNA, HSW, HLE, HS⟩ := hrel
   obtain ⟨nw, hnw⟩ : ∃ n, rk.waits.length = n := ⟨_, rfl⟩
   have HNW := Aside0.mk hnw
   rw [hnw] at hi HLE HSW
   cases gk with
   | zero =>
     obtain ⟨Aw, cw, c0, pl⟩ := HS.out.openz hnw
     clear hnw
     obtain rfl : i = nw := by omega
     have hin : ¬ (i : Int) < (i : Int) := by omega
     go_wp2
     rw [← HQ.out]
     obtain ⟨e1, _⟩ := HSW.out
     rw [rsweepA_end k t rk i (by rw [HNW.out]; exact Nat.le_refl _), List.append_nil] at e1
     refine ⟨A, na, c, rfl, ?_⟩
     rw [e1]
     exact RQ.drop1 (HS.out.perm (R' := _ :: _ :: R) (List.Perm.swap _ _ _))
   | succ gq =>
     have hin : (i : Int) < (nw : Int) := by omega
     have hi0 : (0 : Int) ≤ (i : Int) := by omega
     have hi9 : (i : Int) ≤ 1000000 := by have := HLE.out; have := HN.out; omega
     obtain ⟨o, ho⟩ : ∃ o, rk.waits[i]? = some o := ⟨_, List.getElem?_eq_getElem (by omega)⟩
     obtain ⟨k', rfl⟩ : ∃ k', k = k' + 1 := ⟨k - 1, by have := HSW.out.2; omega⟩
     obtain ⟨g, cw, c0, pl, gl, d0, d1, d2, d3, d4, d5⟩ := HS.out.openw hnw ho
     have t3 := HS.out.rest.blk 1 rfl
     have f0 := (blk_cell t3 0).trans rfl
     have f1 := (blk_cell t3 1).trans rfl
     have f2 := (blk_cell t3 2).trans rfl
     have l3 := lt_of_some t3
     clear t3
     have HO := Aside0.mk ho
     obtain ⟨n5, hn5⟩ : ∃ n, wr.heap.size = n := ⟨_, rfl⟩
     have ha1 := HS.out.alloc #[.int .i64 o.1.f0, .string o.1.f1, .string o.1.f2, .int .i64 o.2.1, .int .i64 o.2.2, .bool true] 77 hn5
     have ha2 := ha1.alloc #[.int .i64 t.f0, .string t.f1, .string t.f2, .int .i64 o.2.2] 34 (n := n5 + 1) (by simp [hn5])
     have HSA := Aside0.mk ha2
     have x0 : (wr.alloc (.cells #[.int .i64 o.1.f0, .string o.1.f1, .string o.1.f2, .int .i64 o.2.1, .int .i64 o.2.2, .bool true] 77)).cell? ⟨n3, 0, none⟩ = some (.int .i64 t.f0) := (blk_cell (ha1.rest.blk 2 rfl) 0).trans rfl
     have x1 : (wr.alloc (.cells #[.int .i64 o.1.f0, .string o.1.f1, .string o.1.f2, .int .i64 o.2.1, .int .i64 o.2.2, .bool true] 77)).cell? ⟨n3, 1, none⟩ = some (.string t.f1) := (blk_cell (ha1.rest.blk 2 rfl) 1).trans rfl
     have x2 : (wr.alloc (.cells #[.int .i64 o.1.f0, .string o.1.f1, .string o.1.f2, .int .i64 o.2.1, .int .i64 o.2.2, .bool true] 77)).cell? ⟨n3, 2, none⟩ = some (.string t.f2) := (blk_cell (ha1.rest.blk 2 rfl) 2).trans rfl
     have y0 : (wr.alloc (.cells #[.int .i64 o.1.f0, .string o.1.f1, .string o.1.f2, .int .i64 o.2.1, .int .i64 o.2.2, .bool true] 77)).cell? ⟨n5, 0, none⟩ = some (.int .i64 o.1.f0) := (blk_cell (ha1.rest.blk 0 rfl) 0).trans rfl
     have y1 : (wr.alloc (.cells #[.int .i64 o.1.f0, .string o.1.f1, .string o.1.f2, .int .i64 o.2.1, .int .i64 o.2.2, .bool true] 77)).cell? ⟨n5, 1, none⟩ = some (.string o.1.f1) := (blk_cell (ha1.rest.blk 0 rfl) 1).trans rfl
     have y2 : (wr.alloc (.cells #[.int .i64 o.1.f0, .string o.1.f1, .string o.1.f2, .int .i64 o.2.1, .int .i64 o.2.2, .bool true] 77)).cell? ⟨n5, 2, none⟩ = some (.string o.1.f2) := (blk_cell (ha1.rest.blk 0 rfl) 2).trans rfl
     have y3 : (wr.alloc (.cells #[.int .i64 o.1.f0, .string o.1.f1, .string o.1.f2, .int .i64 o.2.1, .int .i64 o.2.2, .bool true] 77)).cell? ⟨n5, 3, none⟩ = some (.int .i64 o.2.1) := (blk_cell (ha1.rest.blk 0 rfl) 3).trans rfl
     have y4 : (wr.alloc (.cells #[.int .i64 o.1.f0, .string o.1.f1, .string o.1.f2, .int .i64 o.2.1, .int .i64 o.2.2, .bool true] 77)).cell? ⟨n5, 4, none⟩ = some (.int .i64 o.2.2) := (blk_cell (ha1.rest.blk 0 rfl) 4).trans rfl
     have y5 : (wr.alloc (.cells #[.int .i64 o.1.f0, .string o.1.f1, .string o.1.f2, .int .i64 o.2.1, .int .i64 o.2.2, .bool true] 77)).cell? ⟨n5, 5, none⟩ = some (.bool true) := (blk_cell (ha1.rest.blk 0 rfl) 5).trans rfl
     have z0 : ((wr.alloc (.cells #[.int .i64 o.1.f0, .string o.1.f1, .string o.1.f2, .int .i64 o.2.1, .int .i64 o.2.2, .bool true] 77)).alloc (.cells #[.int .i64 t.f0, .string t.f1, .string t.f2, .int .i64 o.2.2] 34)).cell? ⟨n3, 0, none⟩ = some (.int .i64 t.f0) := (blk_cell (ha2.rest.blk 3 rfl) 0).trans rfl
     have z1 : ((wr.alloc (.cells #[.int .i64 o.1.f0, .string o.1.f1, .string o.1.f2, .int .i64 o.2.1, .int .i64 o.2.2, .bool true] 77)).alloc (.cells #[.int .i64 t.f0, .string t.f1, .string t.f2, .int .i64 o.2.2] 34)).cell? ⟨n3, 1, none⟩ = some (.string t.f1) := (blk_cell (ha2.rest.blk 3 rfl) 1).trans rfl
     have z2 : ((wr.alloc (.cells #[.int .i64 o.1.f0, .string o.1.f1, .string o.1.f2, .int .i64 o.2.1, .int .i64 o.2.2, .bool true] 77)).alloc (.cells #[.int .i64 t.f0, .string t.f1, .string t.f2, .int .i64 o.2.2] 34)).cell? ⟨n3, 2, none⟩ = some (.string t.f2) := (blk_cell (ha2.rest.blk 3 rfl) 2).trans rfl
     have u0 : ((wr.alloc (.cells #[.int .i64 o.1.f0, .string o.1.f1, .string o.1.f2, .int .i64 o.2.1, .int .i64 o.2.2, .bool true] 77)).alloc (.cells #[.int .i64 t.f0, .string t.f1, .string t.f2, .int .i64 o.2.2] 34)).cell? ⟨n5, 0, none⟩ = some (.int .i64 o.1.f0) := (blk_cell (ha2.rest.blk 1 rfl) 0).trans rfl
     have u1 : ((wr.alloc (.cells #[.int .i64 o.1.f0, .string o.1.f1, .string o.1.f2, .int .i64 o.2.1, .int .i64 o.2.2, .bool true] 77)).alloc (.cells #[.int .i64 t.f0, .string t.f1, .string t.f2, .int .i64 o.2.2] 34)).cell? ⟨n5, 1, none⟩ = some (.string o.1.f1) := (blk_cell (ha2.rest.blk 1 rfl) 1).trans rfl
     have u2 : ((wr.alloc (.cells #[.int .i64 o.1.f0, .string o.1.f1, .string o.1.f2, .int .i64 o.2.1, .int .i64 o.2.2, .bool true] 77)).alloc (.cells #[.int .i64 t.f0, .string t.f1, .string t.f2, .int .i64 o.2.2] 34)).cell? ⟨n5, 2, none⟩ = some (.string o.1.f2) := (blk_cell (ha2.rest.blk 1 rfl) 2).trans rfl
     have u3 : ((wr.alloc (.cells #[.int .i64 o.1.f0, .string o.1.f1, .string o.1.f2, .int .i64 o.2.1, .int .i64 o.2.2, .bool true] 77)).alloc (.cells #[.int .i64 t.f0, .string t.f1, .string t.f2, .int .i64 o.2.2] 34)).cell? ⟨n5, 3, none⟩ = some (.int .i64 o.2.1) := (blk_cell (ha2.rest.blk 1 rfl) 3).trans rfl
     have u4 : ((wr.alloc (.cells #[.int .i64 o.1.f0, .string o.1.f1, .string o.1.f2, .int .i64 o.2.1, .int .i64 o.2.2, .bool true] 77)).alloc (.cells #[.int .i64 t.f0, .string t.f1, .string t.f2, .int .i64 o.2.2] 34)).cell? ⟨n5, 4, none⟩ = some (.int .i64 o.2.2) := (blk_cell (ha2.rest.blk 1 rfl) 4).trans rfl
     have u5 : ((wr.alloc (.cells #[.int .i64 o.1.f0, .string o.1.f1, .string o.1.f2, .int .i64 o.2.1, .int .i64 o.2.2, .bool true] 77)).alloc (.cells #[.int .i64 t.f0, .string t.f1, .string t.f2, .int .i64 o.2.2] 34)).cell? ⟨n5, 5, none⟩ = some (.bool true) := (blk_cell (ha2.rest.blk 1 rfl) 5).trans rfl
     have v0 : ((wr.alloc (.cells #[.int .i64 o.1.f0, .string o.1.f1, .string o.1.f2, .int .i64 o.2.1, .int .i64 o.2.2, .bool true] 77)).alloc (.cells #[.int .i64 t.f0, .string t.f1, .string t.f2, .int .i64 o.2.2] 34)).cell? ⟨(n5 + 1), 0, none⟩ = some (.int .i64 t.f0) := (blk_cell (ha2.rest.blk 0 rfl) 0).trans rfl
     have v1 : ((wr.alloc (.cells #[.int .i64 o.1.f0, .string o.1.f1, .string o.1.f2, .int .i64 o.2.1, .int .i64 o.2.2, .bool true] 77)).alloc (.cells #[.int .i64 t.f0, .string t.f1, .string t.f2, .int .i64 o.2.2] 34)).cell? ⟨(n5 + 1), 1, none⟩ = some (.string t.f1) := (blk_cell (ha2.rest.blk 0 rfl) 1).trans rfl
     have v2 : ((wr.alloc (.cells #[.int .i64 o.1.f0, .string o.1.f1, .string o.1.f2, .int .i64 o.2.1, .int .i64 o.2.2, .bool true] 77)).alloc (.cells #[.int .i64 t.f0, .string t.f1, .string t.f2, .int .i64 o.2.2] 34)).cell? ⟨(n5 + 1), 2, none⟩ = some (.string t.f2) := (blk_cell (ha2.rest.blk 0 rfl) 2).trans rfl
     have v3 : ((wr.alloc (.cells #[.int .i64 o.1.f0, .string o.1.f1, .string o.1.f2, .int .i64 o.2.1, .int .i64 o.2.2, .bool true] 77)).alloc (.cells #[.int .i64 t.f0, .string t.f1, .string t.f2, .int .i64 o.2.2] 34)).cell? ⟨(n5 + 1), 3, none⟩ = some (.int .i64 o.2.2) := (blk_cell (ha2.rest.blk 0 rfl) 3).trans rfl
     clear ha1 ha2 HS f0 f1 f2
     have hbnd : rk.holds.length < 100000 ∧ rk.waits.length < 100000 ∧ i < rk.waits.length := by have := HLE.out; have := HN.out; omega
     have HBND := Aside0.mk hbnd
     have CAN := Aside0.mk (fun W (h : RQ w0 F rp rk (blkC (n5 + 1) (.cells #[.int .i64 t.f0, .string t.f1, .string t.f2, .int .i64 o.2.2] 34 (0, 0)) :: blkC n5 (.cells #[.int .i64 o.1.f0, .string o.1.f1, .string o.1.f2, .int .i64 o.2.1, .int .i64 o.2.2, .bool true] 77 (0, 0)) :: rowIC (.slice A na c) acc :: blkC n3 (.cells #[.int .i64 t.f0, .string t.f1, .string t.f2] 32 (0, 0)) :: R) W) => qcan_calls h o.2.1 t o.2.2 i HBND.out.1 HBND.out.2.1 (Nat.le_of_lt HBND.out.2.2))
     unfold wantV at CAN
     clear hbnd hnw ho
     cases he : eqD ⟨o.1.f0, o.1.f1, o.1.f2⟩ ⟨t.f0, t.f1, t.f2⟩ with
     | false =>
       go_wp2
       go_roundg gq
       case measure => omega
       case rel =>
         refine ⟨rk, i + 1, k', na, acc, A, c, by go_num, rfl, by rw [HNW.out]; omega, HNA, Aside0.mk ?_, Aside0.mk (by rw [HNW.out]; exact HLE.out), Aside0.mk (RQ.drop1 (RQ.drop1 HSA.out))⟩
         obtain ⟨e1, e3⟩ := HSW.out
         rw [rsweepA_skip HO.out (fun e => by rw [eqD_dec] at he; exact absurd e.1 (of_decide_eq_false he))] at e1
         exact ⟨e1, by rw [HNW.out]; omega⟩
     | true =>
       cases hc : rcan rk o.2.1 t o.2.2 i with
       | false =>
         rw [hc] at CAN
         go_wp2_with (go_at_call 40; refine (CAN.out _ HSA.out).mono ?_; rintro E w5 ⟨rfl, hs5⟩; have HSB := Aside0.mk hs5; clear hs5 HSA c0 d0 d1 d2 d3 d4 d5 pl gl l3 x0 x1 x2 y0 y1 y2 y3 y4 y5 z0 z1 z2 u0 u1 u2 u3 u4 u5 v0 v1 v2 v3)
         go_roundg gq
         case measure => omega
         case rel =>
           refine ⟨rk, i + 1, k', na, acc, A, c, by go_num, rfl, by rw [HNW.out]; omega, HNA, Aside0.mk ?_, Aside0.mk (by rw [HNW.out]; exact HLE.out), Aside0.mk (RQ.drop1 (RQ.drop1 HSB.out))⟩
           obtain ⟨e1, e3⟩ := HSW.out
           rw [rsweepA_skip HO.out (fun e => by rw [hc] at e; exact absurd e.2 (by simp))] at e1
           exact ⟨e1, by rw [HNW.out]; omega⟩
       | true =>
         rw [hc] at CAN
         have DROP := Aside0.mk (fun W (h : RQ w0 F rp rk (blkC (n5 + 1) (.cells #[.int .i64 t.f0, .string t.f1, .string t.f2, .int .i64 o.2.2] 34 (0, 0)) :: blkC n5 (.cells #[.int .i64 o.1.f0, .string o.1.f1, .string o.1.f2, .int .i64 o.2.1, .int .i64 o.2.2, .bool true] 77 (0, 0)) :: rowIC (.slice A na c) acc :: blkC n3 (.cells #[.int .i64 t.f0, .string t.f1, .string t.f2] 32 (0, 0)) :: R) W) => qdrop_calls h i HBND.out.2.2 HBND.out.2.1)
         have GIVE := Aside0.mk (fun W (h : RQ w0 F rp ⟨rk.holds, rk.waits.eraseIdx i⟩ (blkC (n5 + 1) (.cells #[.int .i64 t.f0, .string t.f1, .string t.f2, .int .i64 o.2.2] 34 (0, 0)) :: blkC n5 (.cells #[.int .i64 o.1.f0, .string o.1.f1, .string o.1.f2, .int .i64 o.2.1, .int .i64 o.2.2, .bool true] 77 (0, 0)) :: rowIC (.slice A na c) acc :: blkC n3 (.cells #[.int .i64 t.f0, .string t.f1, .string t.f2] 32 (0, 0)) :: R) W) => qgive_calls h o.2.1 t o.2.2 HBND.out.1)
         unfold wantV at GIVE
         have HAB := Aside0.mk (show acc.length < 999999 by have := HLE.out; have := HN.out; rw [HNA.out]; omega)
         have G1 : True := trivial
         have G2 : True := trivial
         have G3 : True := trivial
         go_wp2_with (first
           | (clear G1; go_at_call 40; refine (CAN.out _ HSA.out).mono ?_; rintro E w5 ⟨rfl, hs5⟩; have HSB := Aside0.mk hs5; clear hs5 HSA c0 d0 d1 d2 d3 d4 d5 pl gl l3 x0 x1 x2 y0 y1 y2 y3 y4 y5 z0 z1 z2 u0 u1 u2 u3 u4 u5 v0 v1 v2 v3)
           | (clear G2; go_at_call 46; refine (DROP.out _ HSB.out).mono ?_; rintro E w6 ⟨rfl, hs6⟩; have hb0 := hs6.rest.blk 0 rfl; have hb1 := hs6.rest.blk 1 rfl; have k0 := (blk_cell hb0 0).trans rfl; have k1 := (blk_cell hb0 1).trans rfl; have k2 := (blk_cell hb0 2).trans rfl; have k3 := (blk_cell hb0 3).trans rfl; have j3 := (blk_cell hb1 3).trans rfl; have HSC := Aside0.mk hs6; clear hs6 HSB hb0 hb1)
           | (clear G3; go_at_call 41; refine (GIVE.out _ HSC.out).mono ?_; rintro E w7 ⟨rfl, hs7⟩; have hb1 := hs7.rest.blk 1 rfl; clear k0 k1 k2 k3 j3; have j3 := (blk_cell hb1 3).trans rfl; have HSD := Aside0.mk (RQ.drop1 (RQ.drop1 hs7)); clear hs7 HSC hb1)
           | (at_builtin; have HSE := Aside0.mk (HSD.out.below ((Below.refl _ w7).alloc (Nat.le_refl _) (.cells #[.int .i64 o.2.1] 3))); obtain ⟨g2, c2, w9, hrun, hrow, hgrow, hown⟩ := appendX intI (l := acc) (v := .slice A na c) o.2.1 w7.heap.size #[.int .i64 o.2.1] 41 (HSE.out.rest.rowX 0 rfl) (heap_alloc_new w7 _) rfl HAB.out; have HSF := Aside0.mk (HSE.out.sideTo hrow hgrow hown); refine wpList_append_run rfl (.tmp 54) (.tmp 58) 41 41 rfl _ _ rfl rfl hrun ?_; rw [HNA.out] at HSF ⊢; clear hrun hrow hgrow hown j3 HSE HSD))
         go_roundg gq
         case measure => omega
         case rel =>
           refine ⟨⟨rgiveL t (o.2.1, o.2.2) rk.holds, rk.waits.eraseIdx i⟩, i, k', na + 1, acc ++ [o.2.1], some ⟨g2, 0, none⟩, c2, rfl, rfl, ?_, Aside0.mk ?_, Aside0.mk ?_, Aside0.mk ?_, HSF⟩
           · show i + gq = (rk.waits.eraseIdx i).length
             rw [List.length_eraseIdx_of_lt HBND.out.2.2, HNW.out]
             omega
           · rw [List.length_append, HNA.out]; rfl
           · obtain ⟨e1, e3⟩ := HSW.out
             rw [rsweepA_give HO.out (by rw [eqD_dec] at he; exact of_decide_eq_true he) hc] at e1
             refine ⟨by rw [e1]; simp, ?_⟩
             show (rk.waits.eraseIdx i).length < _
             rw [List.length_eraseIdx_of_lt HBND.out.2.2, HNW.out]
             omega
           · have h1 := rgive_len t (o.2.1, o.2.2) rk.holds
             have h2 : (rk.waits.eraseIdx i).length = nw - 1 := by rw [List.length_eraseIdx_of_lt HBND.out.2.2, HNW.out]
             have h3 := HLE.out
             show (rgiveL t (o.2.1, o.2.2) rk.holds).length + (rk.waits.eraseIdx i).length ≤ _ ∧ na + 1 + (rk.waits.eraseIdx i).length ≤ _
             omega
end
end Go.Proofs.Kb
end
section
namespace Go.Proofs.Kb
open Go Go.RowKit Go.Proofs.YtkcjcdkmdooofaaGreat.Q Go.Proofs.YtkcjcdkmdooofaaGreatW.PrintWords Go.Proofs.YtkcjcdkmdooofaaGreatW.PrintLast Go.Proofs.YtkcjcdkmdooofaaGreatW.PrintMore
set_option maxRecDepth 100000
open Go.Proofs.Lk Go.Proofs.Mp
theorem findIdx_here {β : Type} {f : β → Bool} {l : List β} {i : Nat} {o : β} (h : l[i]? = some o) (hf : (l.take i).find? f = none) (ho : f o = true) : l.findIdx? f = some i := by
 obtain ⟨hi, rfl⟩ := List.getElem?_eq_some_iff.1 h
 refine List.findIdx?_eq_some_iff_getElem.2 ⟨hi, ho, fun j hj => ?_⟩
 have := List.find?_eq_none.1 hf l[j] (List.mem_take_iff_getElem.2 ⟨j, by omega, rfl⟩)
 simpa using this
theorem findIdx_none {β : Type} {f : β → Bool} {l : List β} (hf : l.find? f = none) : l.findIdx? f = none :=
 List.findIdx?_eq_none_iff.2 fun x hx => by simpa using List.find?_eq_none.1 hf x hx
section
variable {w0 w w' : World} {F : Nat → Prop} {rp : Nat} {r : RS S32} {R R' : List Chunk}
theorem RQ.row0 {α : Type} {E : EncT α} (h : RQ w0 F rp r R w) : RQ w0 F rp r (rowXC E (.slice none 0 0) [] :: R) w :=
 h.more (Below.refl _ _) RowX.nil (nd_bl (.slice none 0 0)) (fun b hb => by simp [rowXC, bl] at hb; cases hb)
set_option maxHeartbeats 16000000 in
theorem qcancel_calls (h : RQ w0 F rp r R w) (x : Int) (hn : r.holds.length + r.waits.length < 90000) :
   Calls Tryz.prog 11 #[.pointer (some ⟨rp, 0, none⟩), .int .i64 x] w fun E w' => ∃ A n c, E = .returned (.slice A n c) ∧ RQ w0 F rp (rcancel r x).1 (rowIC (.slice A n c) (rcancel r x).2 :: R) w' := by
 obtain ⟨Q, hQ⟩ : ∃ Q, (fun E w' => ∃ A n c, E = Ending.returned (.slice A n c) ∧ RQ w0 F rp (rcancel r x).1 (rowIC (.slice A n c) (rcancel r x).2 :: R) w') = Q := ⟨_, rfl⟩
 have HQ := Aside0.mk hQ
 rw [hQ]
 clear hQ
 have hu30 := Tryz.underlying30
 have hu28 := Tryz.underlying28
 have hu77 := Tryz.underlying77
 have hu75 := Tryz.underlying75
 have hu32 := Tryz.underlying32
 have hz77 := Tryz.sizeOf77
 have hz32 := Tryz.sizeOf32
 obtain ⟨n, hnn⟩ : ∃ n, r.waits.length = n := ⟨_, rfl⟩
 have HNN := Aside0.mk hnn
 have HN := Aside0.mk hn
 have HS := Aside0.mk h
 clear h hn hnn
 go_enter Tryz.func11, Tryz.ntmps11
 go_wp2
 go_loopg [5] n (fun gq v5 wx => ∃ i : Nat, v5 = .int .i64 i ∧ i + gq = n ∧ Aside0 ((r.waits.take i).find? (fun o => o.2.1 == x) = none) ∧ Aside0 (RQ w0 F rp r R wx))
 case atStart => exact ⟨0, rfl, by omega, Aside0.mk rfl, HS⟩
 case round =>
   clear HS
   obtain ⟨i, rfl, hi, HF, HS⟩ := hrel
   cases gk with
   | zero =>
     obtain ⟨Aw, cw, c0, pl⟩ := HS.out.openz HNN.out
     obtain rfl : i = n := by omega
     have hin : ¬ (i : Int) < (i : Int) := by omega
     go_wp2
     rw [← HQ.out]
     have hm : rcancel r x = (r, []) := by
       have h := HF.out
       rw [List.take_of_length_le (by rw [HNN.out]; exact Nat.le_refl _)] at h
       unfold rcancel
       rw [findIdx_none h]
     refine ⟨none, 0, 0, rfl, ?_⟩
     rw [hm]
     exact HS.out.row0
   | succ gq =>
     have hin : (i : Int) < (n : Int) := by omega
     have hi0 : (0 : Int) ≤ (i : Int) := by omega
     have hi9 : (i : Int) ≤ 1000000 := by have := HN.out; have := HNN.out; omega
     obtain ⟨o, ho⟩ : ∃ o, r.waits[i]? = some o := ⟨_, List.getElem?_eq_getElem (by rw [HNN.out]; omega)⟩
     have hlt := (List.getElem?_eq_some_iff.1 ho).1
     obtain ⟨g, cw, c0, pl, gl, d0, d1, d2, d3, d4, d5⟩ := HS.out.openw HNN.out ho
     have HO := Aside0.mk ho
     have HLT := Aside0.mk hlt
     clear ho hlt
     cases hx : (o.2.1 == x) with
     | false =>
       go_wp2
       go_roundg gq
       case measure => omega
       case rel => exact ⟨i + 1, by go_num, by omega, Aside0.mk (find_snoc HO.out HF.out hx), HS⟩
     | true =>
       have hm : rcancel r x = rsweep o.1 ⟨r.holds, r.waits.eraseIdx i⟩ := by
         unfold rcancel
         rw [findIdx_here HO.out HF.out hx]
         simp only [HO.out]
       have HM := Aside0.mk hm
       clear hm
       obtain ⟨n5, hn5⟩ : ∃ n, wr.heap.size = n := ⟨_, rfl⟩
       have HSA := Aside0.mk (HS.out.alloc #[.int .i64 o.1.f0, .string o.1.f1, .string o.1.f2] 32 hn5)
       have DROP := Aside0.mk (fun W (h : RQ w0 F rp r (blkC n5 (.cells #[.int .i64 o.1.f0, .string o.1.f1, .string o.1.f2] 32 (0, 0)) :: R) W) => qdrop_calls h i HLT.out (by have := HN.out; omega))
       have SW := Aside0.mk (fun W (h : RQ w0 F rp ⟨r.holds, r.waits.eraseIdx i⟩ (blkC n5 (.cells #[.int .i64 o.1.f0, .string o.1.f1, .string o.1.f2] 32 (0, 0)) :: R) W) => qsweep_calls h o.1 (by have h1 := HN.out; have h2 : (r.waits.eraseIdx i).length ≤ r.waits.length := List.length_eraseIdx_le _ _; show r.holds.length + (r.waits.eraseIdx i).length < _; omega))
       unfold thgV at SW
       have G1 : True := trivial
       go_wp2_with (first
         | (clear G1; go_at_call 46; refine (DROP.out _ HSA.out).mono ?_; rintro E w6 ⟨rfl, hs6⟩; have hb0 := hs6.rest.blk 0 rfl; have k0 := (blk_cell hb0 0).trans rfl; have k1 := (blk_cell hb0 1).trans rfl; have k2 := (blk_cell hb0 2).trans rfl; have HSC := Aside0.mk hs6; clear hs6 hb0 HSA c0 pl gl d0 d1 d2 d3 d4 d5)
         | (go_at_call 47; refine (SW.out _ HSC.out).mono ?_; rintro E w7 ⟨A2, n2, c2, rfl, hs7⟩; have HSD := Aside0.mk hs7; clear hs7 HSC k0 k1 k2))
       rw [← HQ.out]
       refine ⟨A2, n2, c2, rfl, ?_⟩
       rw [HM.out]
       exact RQ.drop1 (HSD.out.perm (R' := _ :: _ :: R) (List.Perm.swap _ _ _))
end
end Go.Proofs.Kb
end
section
namespace Go.Proofs.YtkcjcdkmdooofaaGreat.Q
open Go.RowKit Go.Proofs.YtkcjcdkmdooofaaGreatW.PrintWords Go.Proofs.YtkcjcdkmdooofaaGreatW.PrintLast Go.Proofs.YtkcjcdkmdooofaaGreatW.PrintMore
attribute [local go_sem] max2_int min2_int max_two min_two max_three min_three max_four min_four
def interlockref10_Join.l0 : Nat → Int → Int → Int → Int → Option (Int)
 | 0, _, _, _, _ => none
 | k + 1, x0, x1, x5, x6 => if x6 ≤ 8 then ((interlockref10_Covers.f k x6 x0).bind fun t379 => (if t379 = true then ((interlockref10_Covers.f k x6 x1).bind fun t380 => (if t380 = true then (if x5 = 0 then (interlockref10_Join.l0 k x0 x1 x6 (wrap64 (x6 + 1))) else ((interlockref10_row.f x6).bind fun t381 => ((interlockref10_row.f x5).bind fun t384 => (if (t381.length : Int) < (t384.length : Int) then (interlockref10_Join.l0 k x0 x1 x6 (wrap64 (x6 + 1))) else (interlockref10_Join.l0 k x0 x1 x5 (wrap64 (x6 + 1))))))) else (interlockref10_Join.l0 k x0 x1 x5 (wrap64 (x6 + 1))))) else (interlockref10_Join.l0 k x0 x1 x5 (wrap64 (x6 + 1))))) else (some x5)
def interlockref10_Join.f (k : Nat) (a0 : Int) (a1 : Int) : Option (Int) := interlockref10_Join.l0 k a0 a1 0 1
theorem interlockref10_Join.mono_l : ∀ k, (∀ y0 y1 y2 y3, LeO (interlockref10_Join.l0 k y0 y1 y2 y3) (interlockref10_Join.l0 (k + 1) y0 y1 y2 y3))
 | 0 => fun _ _ _ _ r h => by simp [interlockref10_Join.l0] at h
 | k + 1 => by
   have ih0 := interlockref10_Join.mono_l k
   · intro y0 y1 y2 y3
     unfold interlockref10_Join.l0
     repeat' first
     | (with_reducible exact ih0 _ _ _ _)
     | (with_reducible exact interlockref10_Covers.mono _ _ _)
     | (with_reducible exact LeO.refl _)
     | (with_reducible exact LeO.none _)
     | (with_reducible refine LeO.ite ?_ ?_)
     | (with_reducible refine LeO.bind ?_ (fun _ => ?_))
     | exact ih0 _ _ _ _
     | exact interlockref10_Covers.mono _ _ _
     | exact LeO.none _
     | refine LeO.ite ?_ ?_
     | refine LeO.bind ?_ (fun _ => ?_)
theorem interlockref10_Join.mono : ∀ a0 a1 k, LeO (interlockref10_Join.f k a0 a1) (interlockref10_Join.f (k + 1) a0 a1) := by
 intro a0 a1 k
 have ih0 := interlockref10_Join.mono_l k
 unfold interlockref10_Join.f
 repeat' first
     | (with_reducible exact ih0 _ _ _ _)
     | (with_reducible exact interlockref10_Covers.mono _ _ _)
     | (with_reducible exact LeO.refl _)
     | (with_reducible exact LeO.none _)
     | (with_reducible refine LeO.ite ?_ ?_)
     | (with_reducible refine LeO.bind ?_ (fun _ => ?_))
     | exact ih0 _ _ _ _
     | exact interlockref10_Covers.mono _ _ _
     | exact LeO.none _
     | refine LeO.ite ?_ ?_
     | refine LeO.bind ?_ (fun _ => ?_)
set_option maxHeartbeats 8000000 in
set_option maxRecDepth 100000 in
theorem interlockref10_Join.calls (k : Nat) (a0 : Int) (a1 : Int) (r : Int) (w : World) (h : interlockref10_Join.f k a0 a1 = some r) :
   Calls Tryz.prog 39 #[.int .i64 a0, .int .i64 a1] w fun e w' => e = .returned (.int .i64 r) ∧ Below w.heap.size w w' := by
 have HB := Aside0.mk (Below.refl w.heap.size w)
 have H : (interlockref10_Join.l0 k a0 a1 0 1) = some r := h
 clear h
 have H' := Aside0.mk H
 clear H
 go_enter Tryz.func39, Tryz.ntmps39
 go_wp2
 go_loopg [5, 6] k (fun kq v5 v6 w' => ∃ (x5_1 : Int) (x6_1 : Int), v5 = .int .i64 x5_1 ∧ v6 = .int .i64 x6_1 ∧ Aside0 (interlockref10_Join.l0 kq a0 a1 x5_1 x6_1 = some r) ∧ Aside0 (kq ≤ k) ∧ Aside0 (Below w.heap.size w w'))
 case atStart => exact ⟨(0), (1), (by first | rfl | (simp; done) | (simp [*]; done)), (by first | rfl | (simp; done) | (simp [*]; done)), H', ⟨Nat.le_refl _⟩, ⟨by repeat (first | (with_reducible first | exact HB.out | apply below_alloc | apply pw_below_drewN | apply below_drew1) | exact HB.out)⟩⟩
 case round =>
   clear H'
   try clear p2
   obtain ⟨x5_1, x6_1, rfl, rfl, HA, HK1, HB⟩ := hrel
   cases gk with
   | zero => exact absurd HA.out (by simp [interlockref10_Join.l0])
   | succ k1 =>
     have H := HA.out
     clear HA
     simp only [interlockref10_Join.l0] at H
     by_cases c3 : x6_1 ≤ 8
     · rw [if_pos c3] at H
       have c3b0 : decide (x6_1 ≤ 8) = true := decide_eq_true c3
       clear c3
       replace H := Option.bind_eq_some_iff.mp H
       obtain ⟨t379, A40, H⟩ := H
       replace H : (if t379 = true then ((interlockref10_Covers.f k1 x6_1 a1).bind fun t380 => (if t380 = true then (if x5_1 = 0 then (interlockref10_Join.l0 k1 a0 a1 x6_1 (wrap64 (x6_1 + 1))) else ((interlockref10_row.f x6_1).bind fun t381 => ((interlockref10_row.f x5_1).bind fun t384 => (if (t381.length : Int) < (t384.length : Int) then (interlockref10_Join.l0 k1 a0 a1 x6_1 (wrap64 (x6_1 + 1))) else (interlockref10_Join.l0 k1 a0 a1 x5_1 (wrap64 (x6_1 + 1))))))) else (interlockref10_Join.l0 k1 a0 a1 x5_1 (wrap64 (x6_1 + 1))))) else (interlockref10_Join.l0 k1 a0 a1 x5_1 (wrap64 (x6_1 + 1)))) = some r := H
       have A4 := Aside0.mk A40
       clear A40
       by_cases c5 : t379 = true
       · subst c5
         have H1 : ((interlockref10_Covers.f k1 x6_1 a1).bind fun t380 => (if t380 = true then (if x5_1 = 0 then (interlockref10_Join.l0 k1 a0 a1 x6_1 (wrap64 (x6_1 + 1))) else ((interlockref10_row.f x6_1).bind fun t381 => ((interlockref10_row.f x5_1).bind fun t384 => (if (t381.length : Int) < (t384.length : Int) then (interlockref10_Join.l0 k1 a0 a1 x6_1 (wrap64 (x6_1 + 1))) else (interlockref10_Join.l0 k1 a0 a1 x5_1 (wrap64 (x6_1 + 1))))))) else (interlockref10_Join.l0 k1 a0 a1 x5_1 (wrap64 (x6_1 + 1))))) = some r := by rw [if_pos rfl] at H; exact H
         clear H
         have H := H1
         clear H1
         replace H := Option.bind_eq_some_iff.mp H
         obtain ⟨t380, A60, H⟩ := H
         replace H : (if t380 = true then (if x5_1 = 0 then (interlockref10_Join.l0 k1 a0 a1 x6_1 (wrap64 (x6_1 + 1))) else ((interlockref10_row.f x6_1).bind fun t381 => ((interlockref10_row.f x5_1).bind fun t384 => (if (t381.length : Int) < (t384.length : Int) then (interlockref10_Join.l0 k1 a0 a1 x6_1 (wrap64 (x6_1 + 1))) else (interlockref10_Join.l0 k1 a0 a1 x5_1 (wrap64 (x6_1 + 1))))))) else (interlockref10_Join.l0 k1 a0 a1 x5_1 (wrap64 (x6_1 + 1)))) = some r := H
         have A6 := Aside0.mk A60
         clear A60
         by_cases c7 : t380 = true
         · subst c7
           have H1 : (if x5_1 = 0 then (interlockref10_Join.l0 k1 a0 a1 x6_1 (wrap64 (x6_1 + 1))) else ((interlockref10_row.f x6_1).bind fun t381 => ((interlockref10_row.f x5_1).bind fun t384 => (if (t381.length : Int) < (t384.length : Int) then (interlockref10_Join.l0 k1 a0 a1 x6_1 (wrap64 (x6_1 + 1))) else (interlockref10_Join.l0 k1 a0 a1 x5_1 (wrap64 (x6_1 + 1))))))) = some r := by rw [if_pos rfl] at H; exact H
           clear H
           have H := H1
           clear H1
           by_cases c8 : x5_1 = 0
           · rw [if_pos c8] at H
             have c8b0 : (x5_1 == 0) = true := beq_iff_eq.mpr c8
             have c8b1 : (x5_1 != 0) = false := bne_eq_false_iff_eq.mpr c8
             clear c8
             have H' := Aside0.mk H
             clear H
             go_wp2_with (first | ((with_reducible refine gate_callee (f := 38) rfl ?_); refine goesL_ (some 13) rfl rfl Tryz.func38 (by kernel_rfl) rfl #[.int .i64 x6_1, .int .i64 a0] rfl (by (try simp only [List.map_toArray, List.map_cons, List.map_nil]); first | done | rfl | (simp only [List.length_drop, List.length_take]; rfl)) ?_; (with_reducible refine (interlockref10_Covers.calls k1 x6_1 a0 true _ A4.out).mono ?_); rintro e w9 ⟨rfl, hb⟩; refine ⟨_, rfl, ?_⟩; have n0_ := Aside0.mk (below_step (by repeat (first | (with_reducible first | exact HB.out | apply below_alloc | apply pw_below_drewN | apply below_drew1) | exact HB.out)) hb); clear HB; have HB := n0_; clear n0_; (try clear hb); (try clear hb2); (try clear hk); (try clear hi)) | (go_at_call 38; (with_reducible refine (interlockref10_Covers.calls k1 x6_1 a1 true _ A6.out).mono ?_); rintro e w10 ⟨rfl, hb⟩; have n0_ := Aside0.mk (below_step (by repeat (first | (with_reducible first | exact HB.out | apply below_alloc | apply pw_below_drewN | apply below_drew1) | exact HB.out)) hb); clear HB; have HB := n0_; clear n0_; (try clear hb); (try clear hb2); (try clear hk); (try clear hi)))
             go_roundg k1
             case measure => have := HK1.out; omega
             case rel => exact ⟨(x6_1), (wrap64 (x6_1 + 1)), (by first | rfl | (simp; done) | (simp [*]; done)), (by first | rfl | (simp; done) | (simp [*]; done)), H', ⟨by have := HK1.out; omega⟩, ⟨by repeat (first | (with_reducible first | exact HB.out | apply below_alloc | apply pw_below_drewN | apply below_drew1) | exact HB.out)⟩⟩
           · rw [if_neg c8] at H
             have c8b0 : (x5_1 == 0) = false := beq_eq_false_iff_ne.mpr c8
             have c8b1 : (x5_1 != 0) = true := bne_iff_ne.mpr c8
             replace H := Option.bind_eq_some_iff.mp H
             obtain ⟨t381, A110, H⟩ := H
             replace H : ((interlockref10_row.f x5_1).bind fun t384 => (if (t381.length : Int) < (t384.length : Int) then (interlockref10_Join.l0 k1 a0 a1 x6_1 (wrap64 (x6_1 + 1))) else (interlockref10_Join.l0 k1 a0 a1 x5_1 (wrap64 (x6_1 + 1))))) = some r := H
             have A11 := Aside0.mk A110
             clear A110
             replace H := Option.bind_eq_some_iff.mp H
             obtain ⟨t384, A120, H⟩ := H
             replace H : (if (t381.length : Int) < (t384.length : Int) then (interlockref10_Join.l0 k1 a0 a1 x6_1 (wrap64 (x6_1 + 1))) else (interlockref10_Join.l0 k1 a0 a1 x5_1 (wrap64 (x6_1 + 1)))) = some r := H
             have A12 := Aside0.mk A120
             clear A120
             by_cases c13 : (t381.length : Int) < (t384.length : Int)
             · rw [if_pos c13] at H
               have c13b0 : decide ((t381.length : Int) < (t384.length : Int)) = true := decide_eq_true c13
               have c13b1 : decide (t381.length < t384.length) = true := decide_eq_true (Int.ofNat_lt.mp c13)
               clear c13
               have H' := Aside0.mk H
               clear H
               go_wp2_with (first | ((with_reducible refine gate_callee (f := 38) rfl ?_); refine goesL_ (some 13) rfl rfl Tryz.func38 (by kernel_rfl) rfl #[.int .i64 x6_1, .int .i64 a0] rfl (by (try simp only [List.map_toArray, List.map_cons, List.map_nil]); first | done | rfl | (simp only [List.length_drop, List.length_take]; rfl)) ?_; (with_reducible refine (interlockref10_Covers.calls k1 x6_1 a0 true _ A4.out).mono ?_); rintro e w14 ⟨rfl, hb⟩; refine ⟨_, rfl, ?_⟩; have n0_ := Aside0.mk (below_step (by repeat (first | (with_reducible first | exact HB.out | apply below_alloc | apply pw_below_drewN | apply below_drew1) | exact HB.out)) hb); clear HB; have HB := n0_; clear n0_; (try clear hb); (try clear hb2); (try clear hk); (try clear hi)) | (go_at_call 38; (with_reducible refine (interlockref10_Covers.calls k1 x6_1 a1 true _ A6.out).mono ?_); rintro e w15 ⟨rfl, hb⟩; have n0_ := Aside0.mk (below_step (by repeat (first | (with_reducible first | exact HB.out | apply below_alloc | apply pw_below_drewN | apply below_drew1) | exact HB.out)) hb); clear HB; have HB := n0_; clear n0_; (try clear hb); (try clear hb2); (try clear hk); (try clear hi)) | (go_at_call 68; (with_reducible refine (interlockref10_row.calls x6_1 t381 _ A11.out).mono ?_); rintro e w16 ⟨v382, rfl, ho0, hb⟩; have n0_ := Aside0.mk (Kd.R_lower ho0 (below_size (by repeat (first | (with_reducible first | exact HB.out | apply below_alloc | apply pw_below_drewN | apply below_drew1) | exact HB.out)))); have n1_ := Aside0.mk (below_step (by repeat (first | (with_reducible first | exact HB.out | apply below_alloc | apply pw_below_drewN | apply below_drew1) | exact HB.out)) hb); clear HB; have HO383 := n0_; have HB := n1_; clear n0_ n1_; (try clear hb); (try clear hb2); (try clear hk); (try clear hi); (try clear ho0); obtain ⟨Ao17, co17, eo17⟩ := Kd.R_slice HO383.out; subst eo17) | (go_at_call 68; (with_reducible refine (interlockref10_row.calls x5_1 t384 _ A12.out).mono ?_); rintro e w18 ⟨v385, rfl, ho0, hb⟩; have n0_ := Aside0.mk (Kd.R_elder' (by (with_reducible repeat (first | apply Kd.R_alloc | apply Kd.R_drewN | apply Kd.R_drew)); exact HO383.out) (Kd.R_base ho0) hb); have n1_ := Aside0.mk (Kd.R_lower (Kd.R_new' ho0 (Kd.R_lt (by (with_reducible repeat (first | apply Kd.R_alloc | apply Kd.R_drewN | apply Kd.R_drew)); exact HO383.out))) (below_size (by repeat (first | (with_reducible first | exact HB.out | apply below_alloc | apply pw_below_drewN | apply below_drew1) | exact HB.out)))); have n2_ := Aside0.mk (below_step (by repeat (first | (with_reducible first | exact HB.out | apply below_alloc | apply pw_below_drewN | apply below_drew1) | exact HB.out)) hb); clear HO383; clear HB; have HO383 := n0_; have HO386 := n1_; have HB := n2_; clear n0_ n1_ n2_; (try clear hb); (try clear hb2); (try clear hk); (try clear hi); (try clear ho0); obtain ⟨Ao19, co19, eo19⟩ := Kd.R_slice HO386.out; subst eo19))
               go_roundg k1
               case measure => have := HK1.out; omega
               case rel => exact ⟨(x6_1), (wrap64 (x6_1 + 1)), (by first | rfl | (simp; done) | (simp [*]; done)), (by first | rfl | (simp; done) | (simp [*]; done)), H', ⟨by have := HK1.out; omega⟩, ⟨by repeat (first | (with_reducible first | exact HB.out | apply below_alloc | apply pw_below_drewN | apply below_drew1) | exact HB.out)⟩⟩
             · rw [if_neg c13] at H
               have c13b0 : decide ((t381.length : Int) < (t384.length : Int)) = false := decide_eq_false c13
               have c13b1 : decide (t381.length < t384.length) = false := decide_eq_false (fun h => c13 (Int.ofNat_lt.mpr h))
               clear c13
               have H' := Aside0.mk H
               clear H
               go_wp2_with (first | ((with_reducible refine gate_callee (f := 38) rfl ?_); refine goesL_ (some 13) rfl rfl Tryz.func38 (by kernel_rfl) rfl #[.int .i64 x6_1, .int .i64 a0] rfl (by (try simp only [List.map_toArray, List.map_cons, List.map_nil]); first | done | rfl | (simp only [List.length_drop, List.length_take]; rfl)) ?_; (with_reducible refine (interlockref10_Covers.calls k1 x6_1 a0 true _ A4.out).mono ?_); rintro e w20 ⟨rfl, hb⟩; refine ⟨_, rfl, ?_⟩; have n0_ := Aside0.mk (below_step (by repeat (first | (with_reducible first | exact HB.out | apply below_alloc | apply pw_below_drewN | apply below_drew1) | exact HB.out)) hb); clear HB; have HB := n0_; clear n0_; (try clear hb); (try clear hb2); (try clear hk); (try clear hi)) | (go_at_call 38; (with_reducible refine (interlockref10_Covers.calls k1 x6_1 a1 true _ A6.out).mono ?_); rintro e w21 ⟨rfl, hb⟩; have n0_ := Aside0.mk (below_step (by repeat (first | (with_reducible first | exact HB.out | apply below_alloc | apply pw_below_drewN | apply below_drew1) | exact HB.out)) hb); clear HB; have HB := n0_; clear n0_; (try clear hb); (try clear hb2); (try clear hk); (try clear hi)) | (go_at_call 68; (with_reducible refine (interlockref10_row.calls x6_1 t381 _ A11.out).mono ?_); rintro e w22 ⟨v382, rfl, ho0, hb⟩; have n0_ := Aside0.mk (Kd.R_lower ho0 (below_size (by repeat (first | (with_reducible first | exact HB.out | apply below_alloc | apply pw_below_drewN | apply below_drew1) | exact HB.out)))); have n1_ := Aside0.mk (below_step (by repeat (first | (with_reducible first | exact HB.out | apply below_alloc | apply pw_below_drewN | apply below_drew1) | exact HB.out)) hb); clear HB; have HO383 := n0_; have HB := n1_; clear n0_ n1_; (try clear hb); (try clear hb2); (try clear hk); (try clear hi); (try clear ho0); obtain ⟨Ao23, co23, eo23⟩ := Kd.R_slice HO383.out; subst eo23) | (go_at_call 68; (with_reducible refine (interlockref10_row.calls x5_1 t384 _ A12.out).mono ?_); rintro e w24 ⟨v385, rfl, ho0, hb⟩; have n0_ := Aside0.mk (Kd.R_elder' (by (with_reducible repeat (first | apply Kd.R_alloc | apply Kd.R_drewN | apply Kd.R_drew)); exact HO383.out) (Kd.R_base ho0) hb); have n1_ := Aside0.mk (Kd.R_lower (Kd.R_new' ho0 (Kd.R_lt (by (with_reducible repeat (first | apply Kd.R_alloc | apply Kd.R_drewN | apply Kd.R_drew)); exact HO383.out))) (below_size (by repeat (first | (with_reducible first | exact HB.out | apply below_alloc | apply pw_below_drewN | apply below_drew1) | exact HB.out)))); have n2_ := Aside0.mk (below_step (by repeat (first | (with_reducible first | exact HB.out | apply below_alloc | apply pw_below_drewN | apply below_drew1) | exact HB.out)) hb); clear HO383; clear HB; have HO383 := n0_; have HO386 := n1_; have HB := n2_; clear n0_ n1_ n2_; (try clear hb); (try clear hb2); (try clear hk); (try clear hi); (try clear ho0); obtain ⟨Ao25, co25, eo25⟩ := Kd.R_slice HO386.out; subst eo25))
               go_roundg k1
               case measure => have := HK1.out; omega
               case rel => exact ⟨(x5_1), (wrap64 (x6_1 + 1)), (by first | rfl | (simp; done) | (simp [*]; done)), (by first | rfl | (simp; done) | (simp [*]; done)), H', ⟨by have := HK1.out; omega⟩, ⟨by repeat (first | (with_reducible first | exact HB.out | apply below_alloc | apply pw_below_drewN | apply below_drew1) | exact HB.out)⟩⟩
         · replace c7 := Bool.eq_false_iff.mpr c7
           subst c7
           have H1 : (interlockref10_Join.l0 k1 a0 a1 x5_1 (wrap64 (x6_1 + 1))) = some r := by rw [if_neg (show ¬ (false = true) by decide)] at H; exact H
           clear H
           have H := H1
           clear H1
           have H' := Aside0.mk H
           clear H
           go_wp2_with (first | ((with_reducible refine gate_callee (f := 38) rfl ?_); refine goesL_ (some 13) rfl rfl Tryz.func38 (by kernel_rfl) rfl #[.int .i64 x6_1, .int .i64 a0] rfl (by (try simp only [List.map_toArray, List.map_cons, List.map_nil]); first | done | rfl | (simp only [List.length_drop, List.length_take]; rfl)) ?_; (with_reducible refine (interlockref10_Covers.calls k1 x6_1 a0 true _ A4.out).mono ?_); rintro e w26 ⟨rfl, hb⟩; refine ⟨_, rfl, ?_⟩; have n0_ := Aside0.mk (below_step (by repeat (first | (with_reducible first | exact HB.out | apply below_alloc | apply pw_below_drewN | apply below_drew1) | exact HB.out)) hb); clear HB; have HB := n0_; clear n0_; (try clear hb); (try clear hb2); (try clear hk); (try clear hi)) | (go_at_call 38; (with_reducible refine (interlockref10_Covers.calls k1 x6_1 a1 false _ A6.out).mono ?_); rintro e w27 ⟨rfl, hb⟩; have n0_ := Aside0.mk (below_step (by repeat (first | (with_reducible first | exact HB.out | apply below_alloc | apply pw_below_drewN | apply below_drew1) | exact HB.out)) hb); clear HB; have HB := n0_; clear n0_; (try clear hb); (try clear hb2); (try clear hk); (try clear hi)))
           go_roundg k1
           case measure => have := HK1.out; omega
           case rel => exact ⟨(x5_1), (wrap64 (x6_1 + 1)), (by first | rfl | (simp; done) | (simp [*]; done)), (by first | rfl | (simp; done) | (simp [*]; done)), H', ⟨by have := HK1.out; omega⟩, ⟨by repeat (first | (with_reducible first | exact HB.out | apply below_alloc | apply pw_below_drewN | apply below_drew1) | exact HB.out)⟩⟩
       · replace c5 := Bool.eq_false_iff.mpr c5
         subst c5
         have H1 : (interlockref10_Join.l0 k1 a0 a1 x5_1 (wrap64 (x6_1 + 1))) = some r := by rw [if_neg (show ¬ (false = true) by decide)] at H; exact H
         clear H
         have H := H1
         clear H1
         have H' := Aside0.mk H
         clear H
         go_wp2_with (first | ((with_reducible refine gate_callee (f := 38) rfl ?_); refine goesL_ (some 13) rfl rfl Tryz.func38 (by kernel_rfl) rfl #[.int .i64 x6_1, .int .i64 a0] rfl (by (try simp only [List.map_toArray, List.map_cons, List.map_nil]); first | done | rfl | (simp only [List.length_drop, List.length_take]; rfl)) ?_; (with_reducible refine (interlockref10_Covers.calls k1 x6_1 a0 false _ A4.out).mono ?_); rintro e w28 ⟨rfl, hb⟩; refine ⟨_, rfl, ?_⟩; have n0_ := Aside0.mk (below_step (by repeat (first | (with_reducible first | exact HB.out | apply below_alloc | apply pw_below_drewN | apply below_drew1) | exact HB.out)) hb); clear HB; have HB := n0_; clear n0_; (try clear hb); (try clear hb2); (try clear hk); (try clear hi)))
         go_roundg k1
         case measure => have := HK1.out; omega
         case rel => exact ⟨(x5_1), (wrap64 (x6_1 + 1)), (by first | rfl | (simp; done) | (simp [*]; done)), (by first | rfl | (simp; done) | (simp [*]; done)), H', ⟨by have := HK1.out; omega⟩, ⟨by repeat (first | (with_reducible first | exact HB.out | apply below_alloc | apply pw_below_drewN | apply below_drew1) | exact HB.out)⟩⟩
     · rw [if_neg c3] at H
       have c3b0 : decide (x6_1 ≤ 8) = false := decide_eq_false c3
       clear c3
       obtain rfl := Option.some.inj H
       go_wp2
       go_ret
       exact ⟨by first | rfl | (simp [errW_none, errW_some] <;> rfl) | (simp [*, errW_none, errW_some] <;> rfl), by repeat (first | (with_reducible first | exact HB.out | apply below_alloc | apply pw_below_drewN | apply below_drew1) | exact HB.out)⟩
end Go.Proofs.YtkcjcdkmdooofaaGreat.Q
end
section
namespace Go.Proofs.YtkcjcdkmdooofaaGreat.Q
open Go.RowKit Go.Proofs.YtkcjcdkmdooofaaGreatW.PrintWords Go.Proofs.YtkcjcdkmdooofaaGreatW.PrintLast Go.Proofs.YtkcjcdkmdooofaaGreatW.PrintMore
attribute [local go_sem] max2_int min2_int max_two min_two max_three min_three max_four min_four
def interlockref10_Fits.j0 : Nat → Int → Bool → Int → ByteArray → ByteArray → Option (Bool)
 | 0, _, _, _, _, _ => none
 | k + 1, x4, x5, x347000, x347001, x347002 => if x5 = true then (if x347001.toList = ([] : List UInt8) then (some (x347002.toList == ([] : List UInt8))) else (some false)) else (if x4 = 3 then (some (x347002.toList == ([] : List UInt8))) else (some (x347000 == 4)))
def interlockref10_Fits.f (k : Nat) (a0_0 : Int) (a0_1 : ByteArray) (a0_2 : ByteArray) : Option (Bool) := if a0_0 = 1 then (interlockref10_Fits.j0 k a0_0 (a0_0 == 1) a0_0 a0_1 a0_2) else (interlockref10_Fits.j0 k a0_0 (a0_0 == 2) a0_0 a0_1 a0_2)
theorem interlockref10_Fits.mono_l : ∀ k, (∀ y0 y1 y2 y3 y4, LeO (interlockref10_Fits.j0 k y0 y1 y2 y3 y4) (interlockref10_Fits.j0 (k + 1) y0 y1 y2 y3 y4))
 | 0 => fun _ _ _ _ _ r h => by simp [interlockref10_Fits.j0] at h
 | k + 1 => by
   have ih0 := interlockref10_Fits.mono_l k
   · intro y0 y1 y2 y3 y4
     unfold interlockref10_Fits.j0
     repeat' first
     | (with_reducible exact ih0 _ _ _ _ _)
     | (with_reducible exact LeO.refl _)
     | (with_reducible exact LeO.none _)
     | (with_reducible refine LeO.ite ?_ ?_)
     | (with_reducible refine LeO.bind ?_ (fun _ => ?_))
     | exact ih0 _ _ _ _ _
     | exact LeO.none _
     | refine LeO.ite ?_ ?_
     | refine LeO.bind ?_ (fun _ => ?_)
theorem interlockref10_Fits.mono : ∀ a0 a1 a2 k, LeO (interlockref10_Fits.f k a0 a1 a2) (interlockref10_Fits.f (k + 1) a0 a1 a2) := by
 intro a0 a1 a2 k
 have ih0 := interlockref10_Fits.mono_l k
 unfold interlockref10_Fits.f
 repeat' first
     | (with_reducible exact ih0 _ _ _ _ _)
     | (with_reducible exact LeO.refl _)
     | (with_reducible exact LeO.none _)
     | (with_reducible refine LeO.ite ?_ ?_)
     | (with_reducible refine LeO.bind ?_ (fun _ => ?_))
     | exact ih0 _ _ _ _ _
     | exact LeO.none _
     | refine LeO.ite ?_ ?_
     | refine LeO.bind ?_ (fun _ => ?_)
set_option maxHeartbeats 8000000 in
set_option maxRecDepth 100000 in
theorem interlockref10_Fits.calls (k : Nat) (a0_0 : Int) (a0_1 : ByteArray) (a0_2 : ByteArray) (r : Bool) (w : World) (h : interlockref10_Fits.f k a0_0 a0_1 a0_2 = some r) :
   Calls Tryz.prog 37 #[.agg #[.int .i64 a0_0, .string a0_1, .string a0_2]] w fun e w' => e = .returned (.bool r) ∧ Below w.heap.size w w' := by
 have hu32 := Tryz.underlying32
 have HB := Aside0.mk (Below.refl w.heap.size w)
 have H : (if a0_0 = 1 then (interlockref10_Fits.j0 k a0_0 (a0_0 == 1) a0_0 a0_1 a0_2) else (interlockref10_Fits.j0 k a0_0 (a0_0 == 2) a0_0 a0_1 a0_2)) = some r := h
 clear h
 have HC2 := Aside0.mk H
 clear H
 go_enter Tryz.func37, Tryz.ntmps37
 go_upto_if 5 with (first | ((with_reducible refine gate_dst (N := 1) rfl ?_); refine box_event ?hg (N := 1) ?hd (cs := #[.int .i64 a0_0, .string a0_1, .string a0_2]) (t := 32) ?hr ?_; (case hd => rfl); (case hg => rfl); (case hr => first | (go_simp; done) | (go_simp; rfl)); intro gb346 hg w3 hbox hb; have n0_ := Aside0.mk (below_step (by repeat (first | (with_reducible first | exact HB.out | apply below_alloc | apply pw_below_drewN | apply below_drew1) | exact HB.out)) hb); have n1_ := Aside0.mk (hbox); have n2_ := Aside0.mk ((by rw [hg]; exact (below_size (by repeat (first | (with_reducible first | exact HB.out | apply below_alloc | apply pw_below_drewN | apply below_drew1) | exact HB.out))) : w.heap.size ≤ gb346)); have n3_ := Aside0.mk ((by rw [hg]; exact (below_size (by repeat (first | (with_reducible first | exact HB.out | apply below_alloc | apply pw_below_drewN | apply below_drew1) | exact HB.out))) : w.heap.size ≤ gb346)); clear HB; have HB := n0_; have BK346 := n1_; have GW346 := n2_; have GE346 := n3_; clear n0_ n1_ n2_ n3_; clear hb hbox hg; have hcz4_0 : w3.cell? ⟨gb346, 0, none⟩ = some (.int .i64 a0_0) := (blk_cell BK346.out 0).trans rfl; have hcz4_1 : w3.cell? ⟨gb346, 1, none⟩ = some (.string a0_1) := (blk_cell BK346.out 1).trans rfl; have hcz4_2 : w3.cell? ⟨gb346, 2, none⟩ = some (.string a0_2) := (blk_cell BK346.out 2).trans rfl; have hfz4_0 := blk_frozen BK346.out 0; have hfz4_1 := blk_frozen BK346.out 1; have hfz4_2 := blk_frozen BK346.out 2))
 (try simp only [Act.put, List.setIfInBounds_toArray, List.set_cons_zero, List.set_cons_succ])
 go_cut [5] (fun v5 wc => ∃ (kq : Nat) (x5_1 : Bool), v5 = .bool x5_1 ∧ Aside0 (interlockref10_Fits.j0 kq a0_0 x5_1 a0_0 a0_1 a0_2 = some r) ∧ Aside0 (kq ≤ k) ∧ Aside0 (wc.heap[gb346]? = some (.cells #[.int .i64 a0_0, .string a0_1, .string a0_2] 32 (0, 0))) ∧ Aside0 (Below w.heap.size w wc))
 case first =>
   have H := HC2.out
   clear HC2
   by_cases c5 : a0_0 = 1
   · rw [if_pos c5] at H
     have c5b0 : (a0_0 == 1) = true := beq_iff_eq.mpr c5
     have c5b1 : (a0_0 != 1) = false := bne_eq_false_iff_eq.mpr c5
     clear c5
     (first | rw [c5b0] | (simp only [i64_w, i32_w]; rw [c5b0]) | skip)
     have H' := Aside0.mk H
     clear H
     go_wp2
     go_meet
     case rel => exact ⟨_, ((a0_0 == 1)), (by first | rfl | (simp; done) | (simp [*]; done)), H', ⟨by first | omega | exact Nat.le_refl _⟩, ⟨by (with_reducible repeat (first | refine blk_drewN ?_ _ | refine blk_drew ?_ | refine blk_alloc ?_ _)); exact BK346.out⟩, ⟨by repeat (first | (with_reducible first | exact HB.out | apply below_alloc | apply pw_below_drewN | apply below_drew1 | refine below_set ?_ GE346.out) | exact HB.out)⟩⟩
   · rw [if_neg c5] at H
     have c5b0 : (a0_0 == 1) = false := beq_eq_false_iff_ne.mpr c5
     have c5b1 : (a0_0 != 1) = true := bne_iff_ne.mpr c5
     (first | rw [c5b0] | (simp only [i64_w, i32_w]; rw [c5b0]) | skip)
     have H' := Aside0.mk H
     clear H
     go_wp2
     go_meet
     case rel => exact ⟨_, ((a0_0 == 2)), (by first | rfl | (simp; done) | (simp [*]; done)), H', ⟨by first | omega | exact Nat.le_refl _⟩, ⟨by (with_reducible repeat (first | refine blk_drewN ?_ _ | refine blk_drew ?_ | refine blk_alloc ?_ _)); exact BK346.out⟩, ⟨by repeat (first | (with_reducible first | exact HB.out | apply below_alloc | apply pw_below_drewN | apply below_drew1 | refine below_set ?_ GE346.out) | exact HB.out)⟩⟩
 case rest =>
   clear HC2
   try clear p2
   try clear c3
   try clear c5
   try clear c5b0
   try clear c5b1
   try clear hcz4_0
   try clear hcz4_1
   try clear hcz4_2
   try clear hfz4_0
   try clear hfz4_1
   try clear hfz4_2
   obtain ⟨kq, x5_1, rfl, HA, HJ1, BK346, HB⟩ := hcut
   cases kq with
   | zero => exact absurd HA.out (by simp [interlockref10_Fits.j0])
   | succ kj1 =>
     have H := HA.out
     clear HA
     simp only [interlockref10_Fits.j0] at H
     by_cases c6 : x5_1 = true
     · subst c6
       have H1 : (if a0_1.toList = ([] : List UInt8) then (some (a0_2.toList == ([] : List UInt8))) else (some false)) = some r := by rw [if_pos rfl] at H; exact H
       clear H
       have H := H1
       clear H1
       by_cases c7 : a0_1.toList = ([] : List UInt8)
       · rw [if_pos c7] at H
         have c7b0 : (a0_1.toList == ([] : List UInt8)) = true := beq_iff_eq.mpr c7
         have c7b1 : (a0_1.toList != ([] : List UInt8)) = false := bne_eq_false_iff_eq.mpr c7
         clear c7
         obtain rfl := Option.some.inj H
         have hcz8_0 : wc.cell? ⟨gb346, 0, none⟩ = some (.int .i64 a0_0) := (blk_cell BK346.out 0).trans rfl
         have hcz8_1 : wc.cell? ⟨gb346, 1, none⟩ = some (.string a0_1) := (blk_cell BK346.out 1).trans rfl
         have hcz8_2 : wc.cell? ⟨gb346, 2, none⟩ = some (.string a0_2) := (blk_cell BK346.out 2).trans rfl
         have hfz8_0 := blk_frozen BK346.out 0
         have hfz8_1 := blk_frozen BK346.out 1
         have hfz8_2 := blk_frozen BK346.out 2
         go_wp2
         go_ret
         exact ⟨by first | rfl | (simp [errW_none, errW_some] <;> rfl) | (simp [*, errW_none, errW_some] <;> rfl), by repeat (first | (with_reducible first | exact HB.out | apply below_alloc | apply pw_below_drewN | apply below_drew1 | refine below_set ?_ GE346.out) | exact HB.out)⟩
       · rw [if_neg c7] at H
         have c7b0 : (a0_1.toList == ([] : List UInt8)) = false := beq_eq_false_iff_ne.mpr c7
         have c7b1 : (a0_1.toList != ([] : List UInt8)) = true := bne_iff_ne.mpr c7
         obtain rfl := Option.some.inj H
         have hcz9_0 : wc.cell? ⟨gb346, 0, none⟩ = some (.int .i64 a0_0) := (blk_cell BK346.out 0).trans rfl
         have hcz9_1 : wc.cell? ⟨gb346, 1, none⟩ = some (.string a0_1) := (blk_cell BK346.out 1).trans rfl
         have hcz9_2 : wc.cell? ⟨gb346, 2, none⟩ = some (.string a0_2) := (blk_cell BK346.out 2).trans rfl
         have hfz9_0 := blk_frozen BK346.out 0
         have hfz9_1 := blk_frozen BK346.out 1
         have hfz9_2 := blk_frozen BK346.out 2
         go_wp2
         go_ret
         exact ⟨by first | rfl | (simp [errW_none, errW_some] <;> rfl) | (simp [*, errW_none, errW_some] <;> rfl), by repeat (first | (with_reducible first | exact HB.out | apply below_alloc | apply pw_below_drewN | apply below_drew1 | refine below_set ?_ GE346.out) | exact HB.out)⟩
     · replace c6 := Bool.eq_false_iff.mpr c6
       subst c6
       have H1 : (if a0_0 = 3 then (some (a0_2.toList == ([] : List UInt8))) else (some (a0_0 == 4))) = some r := by rw [if_neg (show ¬ (false = true) by decide)] at H; exact H
       clear H
       have H := H1
       clear H1
       by_cases c10 : a0_0 = 3
       · rw [if_pos c10] at H
         have c10b0 : (a0_0 == 3) = true := beq_iff_eq.mpr c10
         have c10b1 : (a0_0 != 3) = false := bne_eq_false_iff_eq.mpr c10
         clear c10
         obtain rfl := Option.some.inj H
         have hcz11_0 : wc.cell? ⟨gb346, 0, none⟩ = some (.int .i64 a0_0) := (blk_cell BK346.out 0).trans rfl
         have hcz11_1 : wc.cell? ⟨gb346, 1, none⟩ = some (.string a0_1) := (blk_cell BK346.out 1).trans rfl
         have hcz11_2 : wc.cell? ⟨gb346, 2, none⟩ = some (.string a0_2) := (blk_cell BK346.out 2).trans rfl
         have hfz11_0 := blk_frozen BK346.out 0
         have hfz11_1 := blk_frozen BK346.out 1
         have hfz11_2 := blk_frozen BK346.out 2
         go_wp2
         go_ret
         exact ⟨by first | rfl | (simp [errW_none, errW_some] <;> rfl) | (simp [*, errW_none, errW_some] <;> rfl), by repeat (first | (with_reducible first | exact HB.out | apply below_alloc | apply pw_below_drewN | apply below_drew1 | refine below_set ?_ GE346.out) | exact HB.out)⟩
       · rw [if_neg c10] at H
         have c10b0 : (a0_0 == 3) = false := beq_eq_false_iff_ne.mpr c10
         have c10b1 : (a0_0 != 3) = true := bne_iff_ne.mpr c10
         obtain rfl := Option.some.inj H
         have hcz12_0 : wc.cell? ⟨gb346, 0, none⟩ = some (.int .i64 a0_0) := (blk_cell BK346.out 0).trans rfl
         have hcz12_1 : wc.cell? ⟨gb346, 1, none⟩ = some (.string a0_1) := (blk_cell BK346.out 1).trans rfl
         have hcz12_2 : wc.cell? ⟨gb346, 2, none⟩ = some (.string a0_2) := (blk_cell BK346.out 2).trans rfl
         have hfz12_0 := blk_frozen BK346.out 0
         have hfz12_1 := blk_frozen BK346.out 1
         have hfz12_2 := blk_frozen BK346.out 2
         go_wp2
         go_ret
         exact ⟨by first | rfl | (simp [errW_none, errW_some] <;> rfl) | (simp [*, errW_none, errW_some] <;> rfl), by repeat (first | (with_reducible first | exact HB.out | apply below_alloc | apply pw_below_drewN | apply below_drew1 | refine below_set ?_ GE346.out) | exact HB.out)⟩
end Go.Proofs.YtkcjcdkmdooofaaGreat.Q
end
section
namespace Go.Proofs.Kb
open Go Go.RowKit Go.Proofs.YtkcjcdkmdooofaaGreat.Q Go.Proofs.YtkcjcdkmdooofaaGreatW.PrintWords Go.Proofs.YtkcjcdkmdooofaaGreatW.PrintLast Go.Proofs.YtkcjcdkmdooofaaGreatW.PrintMore
set_option maxRecDepth 100000
open Go.Proofs.Lk Go.Proofs.Mp
attribute [local go_sem high] eqT
theorem rjoin_f {a b : Int} (ha : right a = true) (hb : right b = true) : interlockref10_Join.f 40 a b = some (join a b) := by
 rcases right_cases ha with rfl | rfl | rfl | rfl | rfl | rfl | rfl | rfl <;> rcases right_cases hb with rfl | rfl | rfl | rfl | rfl | rfl | rfl | rfl <;> decide +kernel
theorem rjoin_calls (w : World) {a b : Int} (ha : right a = true) (hb : right b = true) : Calls Tryz.prog 39 #[.int .i64 a, .int .i64 b] w fun E w' => E = .returned (.int .i64 (join a b)) ∧ Below w.heap.size w w' := interlockref10_Join.calls 40 a b _ w (rjoin_f ha hb)
theorem rfits_f (t : S32) : interlockref10_Fits.f 4 t.f0 t.f1 t.f2 = some (fitsT t) := fitsT_f t
theorem rfits_calls (w : World) (t : S32) : Calls Tryz.prog 37 #[thgV t] w fun E w' => E = .returned (.bool (fitsT t)) ∧ Below w.heap.size w w' := interlockref10_Fits.calls 4 _ _ _ _ w (rfits_f t)
def AskR (q : RS S32 × Bool × Ans) : Ending := .returned (.tuple #[.bool q.2.1, .int .i64 (errC q.2.2)])
def rtail (r : RS S32) (x : Int) (t : S32) (g : Int) (p : Nat) : RS S32 × Bool × Ans := if rcan r x t g p = true then (⟨rgiveL t (x, g) r.holds, r.waits⟩, true, .ok) else (⟨r.holds, r.waits.take p ++ (t, (x, g)) :: r.waits.drop p⟩, false, .ok)
theorem rask_form {r : RS S32} {x : Int} {t : S32} {m : Int} (h : (fitsT t && right m) = false) : rask fitsT r x t m = (r, false, .form) := by
 unfold rask
 rw [if_neg (by rw [h]; simp)]
theorem rask_state {r : RS S32} {x : Int} {t : S32} {m : Int} (h : (fitsT t && right m) = true) (hw : (rwait r x).isSome = true) : rask fitsT r x t m = (r, false, .state) := by
 unfold rask
 rw [if_pos h, if_pos hw]
theorem rask_ok {r : RS S32} {x : Int} {t : S32} {m : Int} (h : (fitsT t && right m) = true) (hw : (rwait r x).isSome = false) (h0 : rmode r x t ≠ 0) (hc : cov (rmode r x t) m = true) : rask fitsT r x t m = (r, true, .ok) := by
 unfold rask
 rw [if_pos h, if_neg (by rw [hw]; simp)]
 dsimp only
 rw [if_pos ⟨h0, hc⟩]
theorem rask_up {r : RS S32} {x : Int} {t : S32} {m : Int} (h : (fitsT t && right m) = true) (hw : (rwait r x).isSome = false) (h0 : rmode r x t ≠ 0) (hc : cov (rmode r x t) m = false) : rask fitsT r x t m = rtail r x t (join (rmode r x t) m) (rplaceA r t r.waits 0 0) := by
 unfold rask
 rw [if_pos h, if_neg (by rw [hw]; simp)]
 dsimp only
 rw [if_neg (fun e => by rw [hc] at e; exact absurd e.2 (by simp)), if_pos h0, if_pos h0]
 rfl
theorem rask_new {r : RS S32} {x : Int} {t : S32} {m : Int} (h : (fitsT t && right m) = true) (hw : (rwait r x).isSome = false) (h0 : rmode r x t = 0) : rask fitsT r x t m = rtail r x t m r.waits.length := by
 unfold rask
 rw [if_pos h, if_neg (by rw [hw]; simp)]
 dsimp only
 have e1 : (if rmode r x t ≠ 0 then join (rmode r x t) m else m) = m := if_neg (fun e => e h0)
 have e2 : (if rmode r x t ≠ 0 then rplaceA r t r.waits 0 0 else r.waits.length) = r.waits.length := if_neg (fun e => e h0)
 rw [if_neg (fun e => e.1 h0), e1, e2]
 rfl
theorem rplace_end (r : RS S32) (t : S32) (i p : Nat) (h : r.waits.length ≤ i) : rplaceA r t (r.waits.drop i) i p = p := by
 rw [List.drop_eq_nil_of_le h]
 rfl
theorem rplace_other {r : RS S32} {t : S32} {i p : Nat} {o : S32 × One} (ho : r.waits[i]? = some o) (h : o.1 ≠ t) : rplaceA r t (r.waits.drop i) i p = rplaceA r t (r.waits.drop (i + 1)) (i + 1) p := by
 obtain ⟨hi, rfl⟩ := List.getElem?_eq_some_iff.1 ho
 rw [List.drop_eq_getElem_cons hi, rplaceA, if_pos h]
theorem rplace_stop {r : RS S32} {t : S32} {i p : Nat} {o : S32 × One} (ho : r.waits[i]? = some o) (h : o.1 = t) (h0 : rmode r o.2.1 t = 0) : rplaceA r t (r.waits.drop i) i p = p := by
 obtain ⟨hi, rfl⟩ := List.getElem?_eq_some_iff.1 ho
 rw [List.drop_eq_getElem_cons hi, rplaceA, if_neg (by simpa using h), if_pos h0]
theorem rplace_next {r : RS S32} {t : S32} {i p : Nat} {o : S32 × One} (ho : r.waits[i]? = some o) (h : o.1 = t) (h0 : rmode r o.2.1 t ≠ 0) : rplaceA r t (r.waits.drop i) i p = rplaceA r t (r.waits.drop (i + 1)) (i + 1) (i + 1) := by
 obtain ⟨hi, rfl⟩ := List.getElem?_eq_some_iff.1 ho
 rw [List.drop_eq_getElem_cons hi, rplaceA, if_neg (by simpa using h), if_neg h0]
section
variable {w0 w w' : World} {F : Nat → Prop} {rp : Nat} {r : RS S32} {R R' : List Chunk}
theorem RQ.put5 {n5 : Nat} {C C' : Array Value} {T : TypeId} (h : RQ w0 F rp r (blkC n5 (.cells C T (0, 0)) :: R) w) (j : Nat) (v : Value) (e : C.setIfInBounds j v = C') : RQ w0 F rp r (blkC n5 (.cells C' T (0, 0)) :: R) (w.setCell ⟨n5, j, none⟩ v) :=
 h.side (keep_set w n5 j v _ (by simp [blkC])) (blk_put (h.rest.blk 0 rfl) j v e) (nd_one n5) (fun b hb => .inl hb)
set_option maxHeartbeats 32000000 in
theorem qask_calls (h : RQ w0 F rp r R w) (x : Int) (t : S32) (m : Int) (hn : r.holds.length + r.waits.length < 90000) (hm0 : rmode r x t ≠ 0 → right (rmode r x t) = true) :
   Calls Tryz.prog 8 #[.pointer (some ⟨rp, 0, none⟩), .int .i64 x, wantV t m] w fun E w' => E = AskR (rask fitsT r x t m) ∧ RQ w0 F rp (rask fitsT r x t m).1 R w' := by
 obtain ⟨q, hq⟩ : ∃ q, rask fitsT r x t m = q := ⟨_, rfl⟩
 rw [hq]
 obtain ⟨Q, hQ⟩ : ∃ Q, (fun E w' => E = AskR q ∧ RQ w0 F rp q.1 R w') = Q := ⟨_, rfl⟩
 have HQ := Aside0.mk hQ
 rw [hQ]
 have HQQ := Aside0.mk hq
 clear hQ hq
 have hu30 := Tryz.underlying30
 have hu28 := Tryz.underlying28
 have hu77 := Tryz.underlying77
 have hu75 := Tryz.underlying75
 have hu32 := Tryz.underlying32
 have hu34 := Tryz.underlying34
 have hu43 := Tryz.underlying43
 have hz77 := Tryz.sizeOf77
 have hz34 := Tryz.sizeOf34
 have hz32 := Tryz.sizeOf32
 obtain ⟨n5, hn5⟩ : ∃ n, w.heap.size = n := ⟨_, rfl⟩
 have h1 := h.alloc #[.int .i64 t.f0, .string t.f1, .string t.f2, .int .i64 m] 34 hn5
 obtain ⟨W8, hW8⟩ : ∃ W, w.alloc (.cells #[.int .i64 t.f0, .string t.f1, .string t.f2, .int .i64 m] 34) = W := ⟨_, rfl⟩
 rw [hW8] at h1
 have HS := Aside0.mk h1
 have HN := Aside0.mk hn
 have HM0 := Aside0.mk hm0
 have a0 : W8.cell? ⟨n5, 0, none⟩ = some (.int .i64 t.f0) := (blk_cell (h1.rest.blk 0 rfl) 0).trans rfl; have a1 : W8.cell? ⟨n5, 1, none⟩ = some (.string t.f1) := (blk_cell (h1.rest.blk 0 rfl) 1).trans rfl; have a2 : W8.cell? ⟨n5, 2, none⟩ = some (.string t.f2) := (blk_cell (h1.rest.blk 0 rfl) 2).trans rfl; have a3 : W8.cell? ⟨n5, 3, none⟩ = some (.int .i64 m) := (blk_cell (h1.rest.blk 0 rfl) 3).trans rfl
 have BACK := Aside0.mk (fun (W : World) (g : Int) (r' : RS S32) (h : RQ w0 F rp r' (blkC n5 (.cells #[.int .i64 t.f0, .string t.f1, .string t.f2, .int .i64 g] 34 (0, 0)) :: R) W) => (show RQ w0 F rp r' R W from RQ.drop1 h))
 have FITS := Aside0.mk (fun W => rfits_calls W t)
 have WAIT := Aside0.mk (fun W (h : RQ w0 F rp r (blkC n5 (.cells #[.int .i64 t.f0, .string t.f1, .string t.f2, .int .i64 m] 34 (0, 0)) :: R) W) => qwaiting_calls h x (by have := HN.out; omega))
 have MODE := Aside0.mk (fun W (g : Int) (y : Int) (h : RQ w0 F rp r (blkC n5 (.cells #[.int .i64 t.f0, .string t.f1, .string t.f2, .int .i64 g] 34 (0, 0)) :: R) W) => qmode_calls h y t (by have := HN.out; omega))
 have COV := Aside0.mk (fun W => rcov_calls W (rmode r x t) m)
 have CAN := Aside0.mk (fun W (g : Int) (p : Nat) (hp : p ≤ r.waits.length) (h : RQ w0 F rp r (blkC n5 (.cells #[.int .i64 t.f0, .string t.f1, .string t.f2, .int .i64 g] 34 (0, 0)) :: R) W) => qcan_calls h x t g p (by have := HN.out; omega) (by have := HN.out; omega) hp)
 have GIVE := Aside0.mk (fun W (g : Int) (h : RQ w0 F rp r (blkC n5 (.cells #[.int .i64 t.f0, .string t.f1, .string t.f2, .int .i64 g] 34 (0, 0)) :: R) W) => qgive_calls h x t g (by have := HN.out; omega))
 have INS := Aside0.mk (fun W (g : Int) (p : Nat) (hp : p ≤ r.waits.length) (h : RQ w0 F rp r (blkC n5 (.cells #[.int .i64 t.f0, .string t.f1, .string t.f2, .int .i64 g] 34 (0, 0)) :: R) W) => qinsert_calls h p t x g hp (by have := HN.out; omega))
 unfold thgV at FITS MODE
 unfold wantV at CAN GIVE
 clear h h1 hn hm0
 have G1 := Aside0.mk trivial
 have G2 := G1
 have G3 := G1
 have G4 := G1
 have G5 := G1
 have G6 := G1
 unfold wantV
 cases hf : fitsT t with
 | false =>
   rw [hf] at FITS
   go_enter Tryz.func8, Tryz.ntmps8
   go_wp2_with (go_at_call 37; refine (FITS.out _).mono ?_; rintro E w1 ⟨rfl, hb⟩; have HS1 := Aside0.mk (HS.out.below hb); clear hb HS a0 a1 a2 a3)
   skip
   rw [← HQ.out, ← HQQ.out, rask_form (by rw [hf]; rfl)]
   exact ⟨rfl, BACK.out _ _ _ HS1.out⟩
 | true =>
   rw [hf] at FITS
   by_cases m1 : m < 1
   · go_enter Tryz.func8, Tryz.ntmps8
     go_wp2_with (go_at_call 37; refine (FITS.out _).mono ?_; rintro E w1 ⟨rfl, hb⟩; have HS1 := Aside0.mk (HS.out.below hb); clear hb a0 a1 a2 a3; have b0 : w1.cell? ⟨n5, 0, none⟩ = some (.int .i64 t.f0) := (blk_cell (HS1.out.rest.blk 0 rfl) 0).trans rfl; have b1 : w1.cell? ⟨n5, 1, none⟩ = some (.string t.f1) := (blk_cell (HS1.out.rest.blk 0 rfl) 1).trans rfl; have b2 : w1.cell? ⟨n5, 2, none⟩ = some (.string t.f2) := (blk_cell (HS1.out.rest.blk 0 rfl) 2).trans rfl; have b3 : w1.cell? ⟨n5, 3, none⟩ = some (.int .i64 m) := (blk_cell (HS1.out.rest.blk 0 rfl) 3).trans rfl)
     skip
     rw [← HQ.out, ← HQQ.out, rask_form (by unfold right; rw [decide_eq_false (show ¬ (1 ≤ m ∧ m ≤ 8) by omega), Bool.and_false])]
     exact ⟨rfl, BACK.out _ _ _ HS1.out⟩
   · by_cases m8 : m > 8
     · go_enter Tryz.func8, Tryz.ntmps8
       go_wp2_with (go_at_call 37; refine (FITS.out _).mono ?_; rintro E w1 ⟨rfl, hb⟩; have HS1 := Aside0.mk (HS.out.below hb); clear hb a0 a1 a2 a3; have b0 : w1.cell? ⟨n5, 0, none⟩ = some (.int .i64 t.f0) := (blk_cell (HS1.out.rest.blk 0 rfl) 0).trans rfl; have b1 : w1.cell? ⟨n5, 1, none⟩ = some (.string t.f1) := (blk_cell (HS1.out.rest.blk 0 rfl) 1).trans rfl; have b2 : w1.cell? ⟨n5, 2, none⟩ = some (.string t.f2) := (blk_cell (HS1.out.rest.blk 0 rfl) 2).trans rfl; have b3 : w1.cell? ⟨n5, 3, none⟩ = some (.int .i64 m) := (blk_cell (HS1.out.rest.blk 0 rfl) 3).trans rfl)
       skip
       rw [← HQ.out, ← HQQ.out, rask_form (by unfold right; rw [decide_eq_false (show ¬ (1 ≤ m ∧ m ≤ 8) by omega), Bool.and_false])]
       exact ⟨rfl, BACK.out _ _ _ HS1.out⟩
     · have hr : (fitsT t && right m) = true := by
         rw [hf]
         unfold right
         rw [decide_eq_true (show 1 ≤ m ∧ m ≤ 8 by omega)]
         rfl
       have HR := Aside0.mk hr
       have HRM := Aside0.mk (show right m = true by rw [hf] at hr; exact hr)
       clear hr
       unfold rwaitV at WAIT
       cases hw : rwait r x with
       | some o =>
         have HW := Aside0.mk (show (rwait r x).isSome = true by rw [hw]; rfl)
         rw [hw] at WAIT
         simp only [Option.isSome_some] at WAIT
         unfold wantV at WAIT
         clear hw
         go_enter Tryz.func8, Tryz.ntmps8
         go_wp2_with (first
           | (clear G1; go_at_call 37; refine (FITS.out _).mono ?_; rintro E w1 ⟨rfl, hb⟩; have HS1 := Aside0.mk (HS.out.below hb); clear hb a0 a1 a2 a3; have b0 : w1.cell? ⟨n5, 0, none⟩ = some (.int .i64 t.f0) := (blk_cell (HS1.out.rest.blk 0 rfl) 0).trans rfl; have b1 : w1.cell? ⟨n5, 1, none⟩ = some (.string t.f1) := (blk_cell (HS1.out.rest.blk 0 rfl) 1).trans rfl; have b2 : w1.cell? ⟨n5, 2, none⟩ = some (.string t.f2) := (blk_cell (HS1.out.rest.blk 0 rfl) 2).trans rfl; have b3 : w1.cell? ⟨n5, 3, none⟩ = some (.int .i64 m) := (blk_cell (HS1.out.rest.blk 0 rfl) 3).trans rfl)
           | (clear G2; go_at_call 15; refine (WAIT.out _ HS1.out).mono ?_; rintro E w2 ⟨rfl, hs2⟩; have HS2 := Aside0.mk hs2; have HS3 := Aside0.mk (RQ.drop1 (hs2.alloc #[.int .i64 o.1.f0, .string o.1.f1, .string o.1.f2, .int .i64 o.2.2] 34 rfl)); clear hs2 b0 b1 b2 b3))
         skip
         rw [← HQ.out, ← HQQ.out, rask_state HR.out HW.out]
         exact ⟨rfl, BACK.out _ _ _ HS3.out⟩
       | none =>
         have HW := Aside0.mk (show (rwait r x).isSome = false by rw [hw]; rfl)
         rw [hw] at WAIT
         simp only [Option.isSome_none] at WAIT
         clear hw
         obtain ⟨m0, hm0⟩ : ∃ m0, rmode r x t = m0 := ⟨_, rfl⟩
         rw [hm0] at HM0 COV
         have MODEX := Aside0.mk (fun W (h : RQ w0 F rp r (blkC n5 (.cells #[.int .i64 t.f0, .string t.f1, .string t.f2, .int .i64 m] 34 (0, 0)) :: R) W) => MODE.out W m x h)
         rw [hm0] at MODEX
         have HMM := Aside0.mk hm0
         have CALLS37 := Aside0.mk trivial
         clear hm0
         by_cases hz : m0 = 0
         · obtain ⟨nw, hnw⟩ : ∃ n, r.waits.length = n := ⟨_, rfl⟩
           have HNW := Aside0.mk hnw
           have hq : q = rtail r x t m nw := by
             rw [← HQQ.out, rask_new HR.out HW.out (by rw [HMM.out]; exact hz), hnw]
           have HQT := Aside0.mk hq
           have HPL := Aside0.mk (show nw ≤ r.waits.length by omega)
           clear hq hnw
           cases hc : rcan r x t m nw with
           | true =>
             have CANX := Aside0.mk (fun W (h : RQ w0 F rp r (blkC n5 (.cells #[.int .i64 t.f0, .string t.f1, .string t.f2, .int .i64 m] 34 (0, 0)) :: R) W) => CAN.out W m nw HPL.out h)
             rw [hc] at CANX
             have GIVEX := Aside0.mk (fun W (h : RQ w0 F rp r (blkC n5 (.cells #[.int .i64 t.f0, .string t.f1, .string t.f2, .int .i64 m] 34 (0, 0)) :: R) W) => GIVE.out W m h)
             have HQ2 := Aside0.mk (HQT.out.trans (show rtail r x t m nw = (⟨rgiveL t (x, m) r.holds, r.waits⟩, true, .ok) from by unfold rtail; rw [hc]; rfl))
             clear hc
             go_enter Tryz.func8, Tryz.ntmps8
             go_wp2_with (first
               | (clear G1; go_at_call 37; refine (FITS.out _).mono ?_; rintro E w1 ⟨rfl, hb⟩; have HS1 := Aside0.mk (HS.out.below hb); clear hb a0 a1 a2 a3; have b0 : w1.cell? ⟨n5, 0, none⟩ = some (.int .i64 t.f0) := (blk_cell (HS1.out.rest.blk 0 rfl) 0).trans rfl; have b1 : w1.cell? ⟨n5, 1, none⟩ = some (.string t.f1) := (blk_cell (HS1.out.rest.blk 0 rfl) 1).trans rfl; have b2 : w1.cell? ⟨n5, 2, none⟩ = some (.string t.f2) := (blk_cell (HS1.out.rest.blk 0 rfl) 2).trans rfl; have b3 : w1.cell? ⟨n5, 3, none⟩ = some (.int .i64 m) := (blk_cell (HS1.out.rest.blk 0 rfl) 3).trans rfl)
               | (clear G2; go_at_call 15; refine (WAIT.out _ HS1.out).mono ?_; rintro E w2 ⟨rfl, hs2⟩; have hs3 := RQ.drop1 (hs2.alloc #[.int .i64 0, .string ⟨#[]⟩, .string ⟨#[]⟩, .int .i64 0] 34 rfl); have HS3 := Aside0.mk hs3; have c0 : (w2.alloc (.cells #[.int .i64 0, .string ⟨#[]⟩, .string ⟨#[]⟩, .int .i64 0] 34)).cell? ⟨n5, 0, none⟩ = some (.int .i64 t.f0) := (blk_cell (hs3.rest.blk 0 rfl) 0).trans rfl; have c1 : (w2.alloc (.cells #[.int .i64 0, .string ⟨#[]⟩, .string ⟨#[]⟩, .int .i64 0] 34)).cell? ⟨n5, 1, none⟩ = some (.string t.f1) := (blk_cell (hs3.rest.blk 0 rfl) 1).trans rfl; have c2 : (w2.alloc (.cells #[.int .i64 0, .string ⟨#[]⟩, .string ⟨#[]⟩, .int .i64 0] 34)).cell? ⟨n5, 2, none⟩ = some (.string t.f2) := (blk_cell (hs3.rest.blk 0 rfl) 2).trans rfl; have c3 : (w2.alloc (.cells #[.int .i64 0, .string ⟨#[]⟩, .string ⟨#[]⟩, .int .i64 0] 34)).cell? ⟨n5, 3, none⟩ = some (.int .i64 m) := (blk_cell (hs3.rest.blk 0 rfl) 3).trans rfl; clear hs2 hs3 b0 b1 b2 b3)
               | (clear G3; go_at_call 22; refine (MODEX.out _ HS3.out).mono ?_; rintro E w4 ⟨rfl, hs4⟩; have HS4 := Aside0.mk hs4; obtain ⟨Aw, cw, cz, pl⟩ := hs4.openz HNW.out; have d0 : w4.cell? ⟨n5, 0, none⟩ = some (.int .i64 t.f0) := (blk_cell (hs4.rest.blk 0 rfl) 0).trans rfl; have d1 : w4.cell? ⟨n5, 1, none⟩ = some (.string t.f1) := (blk_cell (hs4.rest.blk 0 rfl) 1).trans rfl; have d2 : w4.cell? ⟨n5, 2, none⟩ = some (.string t.f2) := (blk_cell (hs4.rest.blk 0 rfl) 2).trans rfl; have d3 : w4.cell? ⟨n5, 3, none⟩ = some (.int .i64 m) := (blk_cell (hs4.rest.blk 0 rfl) 3).trans rfl; clear hs4 HS3 c0 c1 c2 c3)
               | (clear G6; go_at_call 40; refine (CANX.out _ HS4.out).mono ?_; rintro E w7 ⟨rfl, hs7⟩; have HS7 := Aside0.mk hs7; have k0 : w7.cell? ⟨n5, 0, none⟩ = some (.int .i64 t.f0) := (blk_cell (hs7.rest.blk 0 rfl) 0).trans rfl; have k1 : w7.cell? ⟨n5, 1, none⟩ = some (.string t.f1) := (blk_cell (hs7.rest.blk 0 rfl) 1).trans rfl; have k2 : w7.cell? ⟨n5, 2, none⟩ = some (.string t.f2) := (blk_cell (hs7.rest.blk 0 rfl) 2).trans rfl; have k3 : w7.cell? ⟨n5, 3, none⟩ = some (.int .i64 m) := (blk_cell (hs7.rest.blk 0 rfl) 3).trans rfl; clear hs7 HS4 cz pl d0 d1 d2 d3)
               | (go_at_call 41; refine (GIVEX.out _ HS7.out).mono ?_; rintro E w8 ⟨rfl, hs8⟩; have HS8 := Aside0.mk hs8; clear hs8))
             skip
             rw [← HQ.out, HQ2.out]
             exact ⟨rfl, BACK.out _ _ _ HS8.out⟩
           | false =>
             have CANX := Aside0.mk (fun W (h : RQ w0 F rp r (blkC n5 (.cells #[.int .i64 t.f0, .string t.f1, .string t.f2, .int .i64 m] 34 (0, 0)) :: R) W) => CAN.out W m nw HPL.out h)
             rw [hc] at CANX
             have INSX := Aside0.mk (fun W (h : RQ w0 F rp r (blkC n5 (.cells #[.int .i64 t.f0, .string t.f1, .string t.f2, .int .i64 m] 34 (0, 0)) :: R) W) => INS.out W m nw HPL.out h)
             have HQ2 := Aside0.mk (HQT.out.trans (show rtail r x t m nw = (⟨r.holds, r.waits.take nw ++ (t, (x, m)) :: r.waits.drop nw⟩, false, .ok) from by unfold rtail; rw [hc]; rfl))
             clear hc
             go_enter Tryz.func8, Tryz.ntmps8
             go_wp2_with (first
               | (clear G1; go_at_call 37; refine (FITS.out _).mono ?_; rintro E w1 ⟨rfl, hb⟩; have HS1 := Aside0.mk (HS.out.below hb); clear hb a0 a1 a2 a3; have b0 : w1.cell? ⟨n5, 0, none⟩ = some (.int .i64 t.f0) := (blk_cell (HS1.out.rest.blk 0 rfl) 0).trans rfl; have b1 : w1.cell? ⟨n5, 1, none⟩ = some (.string t.f1) := (blk_cell (HS1.out.rest.blk 0 rfl) 1).trans rfl; have b2 : w1.cell? ⟨n5, 2, none⟩ = some (.string t.f2) := (blk_cell (HS1.out.rest.blk 0 rfl) 2).trans rfl; have b3 : w1.cell? ⟨n5, 3, none⟩ = some (.int .i64 m) := (blk_cell (HS1.out.rest.blk 0 rfl) 3).trans rfl)
               | (clear G2; go_at_call 15; refine (WAIT.out _ HS1.out).mono ?_; rintro E w2 ⟨rfl, hs2⟩; have hs3 := RQ.drop1 (hs2.alloc #[.int .i64 0, .string ⟨#[]⟩, .string ⟨#[]⟩, .int .i64 0] 34 rfl); have HS3 := Aside0.mk hs3; have c0 : (w2.alloc (.cells #[.int .i64 0, .string ⟨#[]⟩, .string ⟨#[]⟩, .int .i64 0] 34)).cell? ⟨n5, 0, none⟩ = some (.int .i64 t.f0) := (blk_cell (hs3.rest.blk 0 rfl) 0).trans rfl; have c1 : (w2.alloc (.cells #[.int .i64 0, .string ⟨#[]⟩, .string ⟨#[]⟩, .int .i64 0] 34)).cell? ⟨n5, 1, none⟩ = some (.string t.f1) := (blk_cell (hs3.rest.blk 0 rfl) 1).trans rfl; have c2 : (w2.alloc (.cells #[.int .i64 0, .string ⟨#[]⟩, .string ⟨#[]⟩, .int .i64 0] 34)).cell? ⟨n5, 2, none⟩ = some (.string t.f2) := (blk_cell (hs3.rest.blk 0 rfl) 2).trans rfl; have c3 : (w2.alloc (.cells #[.int .i64 0, .string ⟨#[]⟩, .string ⟨#[]⟩, .int .i64 0] 34)).cell? ⟨n5, 3, none⟩ = some (.int .i64 m) := (blk_cell (hs3.rest.blk 0 rfl) 3).trans rfl; clear hs2 hs3 b0 b1 b2 b3)
               | (clear G3; go_at_call 22; refine (MODEX.out _ HS3.out).mono ?_; rintro E w4 ⟨rfl, hs4⟩; have HS4 := Aside0.mk hs4; obtain ⟨Aw, cw, cz, pl⟩ := hs4.openz HNW.out; have d0 : w4.cell? ⟨n5, 0, none⟩ = some (.int .i64 t.f0) := (blk_cell (hs4.rest.blk 0 rfl) 0).trans rfl; have d1 : w4.cell? ⟨n5, 1, none⟩ = some (.string t.f1) := (blk_cell (hs4.rest.blk 0 rfl) 1).trans rfl; have d2 : w4.cell? ⟨n5, 2, none⟩ = some (.string t.f2) := (blk_cell (hs4.rest.blk 0 rfl) 2).trans rfl; have d3 : w4.cell? ⟨n5, 3, none⟩ = some (.int .i64 m) := (blk_cell (hs4.rest.blk 0 rfl) 3).trans rfl; clear hs4 HS3 c0 c1 c2 c3)
               | (clear G6; go_at_call 40; refine (CANX.out _ HS4.out).mono ?_; rintro E w7 ⟨rfl, hs7⟩; have HS7 := Aside0.mk hs7; have k0 : w7.cell? ⟨n5, 0, none⟩ = some (.int .i64 t.f0) := (blk_cell (hs7.rest.blk 0 rfl) 0).trans rfl; have k1 : w7.cell? ⟨n5, 1, none⟩ = some (.string t.f1) := (blk_cell (hs7.rest.blk 0 rfl) 1).trans rfl; have k2 : w7.cell? ⟨n5, 2, none⟩ = some (.string t.f2) := (blk_cell (hs7.rest.blk 0 rfl) 2).trans rfl; have k3 : w7.cell? ⟨n5, 3, none⟩ = some (.int .i64 m) := (blk_cell (hs7.rest.blk 0 rfl) 3).trans rfl; clear hs7 HS4 cz pl d0 d1 d2 d3)
               | (go_at_call 42; refine (INSX.out _ HS7.out).mono ?_; rintro E w8 ⟨rfl, hs8⟩; have HS8 := Aside0.mk hs8; clear hs8))
             skip
             rw [← HQ.out, HQ2.out]
             exact ⟨rfl, BACK.out _ _ _ HS8.out⟩
         · cases hcv : cov m0 m with
           | true =>
             rw [hcv] at COV
             have hq : q = (r, true, .ok) := by
               rw [← HQQ.out]
               exact rask_ok HR.out HW.out (by rw [HMM.out]; exact hz) (by rw [HMM.out]; exact hcv)
             have HQT := Aside0.mk hq
             clear hq
             go_enter Tryz.func8, Tryz.ntmps8
             go_wp2_with (first
               | (clear G1; go_at_call 37; refine (FITS.out _).mono ?_; rintro E w1 ⟨rfl, hb⟩; have HS1 := Aside0.mk (HS.out.below hb); clear hb a0 a1 a2 a3; have b0 : w1.cell? ⟨n5, 0, none⟩ = some (.int .i64 t.f0) := (blk_cell (HS1.out.rest.blk 0 rfl) 0).trans rfl; have b1 : w1.cell? ⟨n5, 1, none⟩ = some (.string t.f1) := (blk_cell (HS1.out.rest.blk 0 rfl) 1).trans rfl; have b2 : w1.cell? ⟨n5, 2, none⟩ = some (.string t.f2) := (blk_cell (HS1.out.rest.blk 0 rfl) 2).trans rfl; have b3 : w1.cell? ⟨n5, 3, none⟩ = some (.int .i64 m) := (blk_cell (HS1.out.rest.blk 0 rfl) 3).trans rfl)
               | (clear G2; go_at_call 15; refine (WAIT.out _ HS1.out).mono ?_; rintro E w2 ⟨rfl, hs2⟩; have hs3 := RQ.drop1 (hs2.alloc #[.int .i64 0, .string ⟨#[]⟩, .string ⟨#[]⟩, .int .i64 0] 34 rfl); have HS3 := Aside0.mk hs3; have c0 : (w2.alloc (.cells #[.int .i64 0, .string ⟨#[]⟩, .string ⟨#[]⟩, .int .i64 0] 34)).cell? ⟨n5, 0, none⟩ = some (.int .i64 t.f0) := (blk_cell (hs3.rest.blk 0 rfl) 0).trans rfl; have c1 : (w2.alloc (.cells #[.int .i64 0, .string ⟨#[]⟩, .string ⟨#[]⟩, .int .i64 0] 34)).cell? ⟨n5, 1, none⟩ = some (.string t.f1) := (blk_cell (hs3.rest.blk 0 rfl) 1).trans rfl; have c2 : (w2.alloc (.cells #[.int .i64 0, .string ⟨#[]⟩, .string ⟨#[]⟩, .int .i64 0] 34)).cell? ⟨n5, 2, none⟩ = some (.string t.f2) := (blk_cell (hs3.rest.blk 0 rfl) 2).trans rfl; have c3 : (w2.alloc (.cells #[.int .i64 0, .string ⟨#[]⟩, .string ⟨#[]⟩, .int .i64 0] 34)).cell? ⟨n5, 3, none⟩ = some (.int .i64 m) := (blk_cell (hs3.rest.blk 0 rfl) 3).trans rfl; clear hs2 hs3 b0 b1 b2 b3)
               | (clear G3; go_at_call 22; refine (MODEX.out _ HS3.out).mono ?_; rintro E w4 ⟨rfl, hs4⟩; have HS4 := Aside0.mk hs4; have d0 : w4.cell? ⟨n5, 0, none⟩ = some (.int .i64 t.f0) := (blk_cell (hs4.rest.blk 0 rfl) 0).trans rfl; have d1 : w4.cell? ⟨n5, 1, none⟩ = some (.string t.f1) := (blk_cell (hs4.rest.blk 0 rfl) 1).trans rfl; have d2 : w4.cell? ⟨n5, 2, none⟩ = some (.string t.f2) := (blk_cell (hs4.rest.blk 0 rfl) 2).trans rfl; have d3 : w4.cell? ⟨n5, 3, none⟩ = some (.int .i64 m) := (blk_cell (hs4.rest.blk 0 rfl) 3).trans rfl; clear hs4 HS3 c0 c1 c2 c3)
               | (clear G4; go_at_call 38; refine (COV.out _).mono ?_; rintro E w5 ⟨rfl, hb⟩; have HS5 := Aside0.mk (HS4.out.below hb); clear hb HS4 d0 d1 d2 d3))
             skip
             rw [← HQ.out, HQT.out]
             exact ⟨rfl, BACK.out _ _ _ HS5.out⟩
           | false =>
             rw [hcv] at COV
             have JOIN := Aside0.mk (fun W => rjoin_calls W (HM0.out hz) HRM.out)
             obtain ⟨g, hg⟩ : ∃ g, join m0 m = g := ⟨_, rfl⟩
             rw [hg] at JOIN
             obtain ⟨nw, hnw⟩ : ∃ n, r.waits.length = n := ⟨_, rfl⟩
             have HNW := Aside0.mk hnw
             obtain ⟨p, hp⟩ : ∃ p, rplaceA r t r.waits 0 0 = p := ⟨_, rfl⟩
             have hq : q = rtail r x t g p := by
               rw [← HQQ.out, rask_up HR.out HW.out (by rw [HMM.out]; exact hz) (by rw [HMM.out]; exact hcv), HMM.out, hg, hp]
             have HQT := Aside0.mk hq
             have HP := Aside0.mk hp
             clear hq hg hp hnw
             have G7 := G1
             go_enter Tryz.func8, Tryz.ntmps8
             go_wp2_with (first
               | (clear G1; go_at_call 37; refine (FITS.out _).mono ?_; rintro E w1 ⟨rfl, hb⟩; have HS1 := Aside0.mk (HS.out.below hb); clear hb a0 a1 a2 a3; have b0 : w1.cell? ⟨n5, 0, none⟩ = some (.int .i64 t.f0) := (blk_cell (HS1.out.rest.blk 0 rfl) 0).trans rfl; have b1 : w1.cell? ⟨n5, 1, none⟩ = some (.string t.f1) := (blk_cell (HS1.out.rest.blk 0 rfl) 1).trans rfl; have b2 : w1.cell? ⟨n5, 2, none⟩ = some (.string t.f2) := (blk_cell (HS1.out.rest.blk 0 rfl) 2).trans rfl; have b3 : w1.cell? ⟨n5, 3, none⟩ = some (.int .i64 m) := (blk_cell (HS1.out.rest.blk 0 rfl) 3).trans rfl)
               | (clear G2; go_at_call 15; refine (WAIT.out _ HS1.out).mono ?_; rintro E w2 ⟨rfl, hs2⟩; have hs3 := RQ.drop1 (hs2.alloc #[.int .i64 0, .string ⟨#[]⟩, .string ⟨#[]⟩, .int .i64 0] 34 rfl); have HS3 := Aside0.mk hs3; have c0 : (w2.alloc (.cells #[.int .i64 0, .string ⟨#[]⟩, .string ⟨#[]⟩, .int .i64 0] 34)).cell? ⟨n5, 0, none⟩ = some (.int .i64 t.f0) := (blk_cell (hs3.rest.blk 0 rfl) 0).trans rfl; have c1 : (w2.alloc (.cells #[.int .i64 0, .string ⟨#[]⟩, .string ⟨#[]⟩, .int .i64 0] 34)).cell? ⟨n5, 1, none⟩ = some (.string t.f1) := (blk_cell (hs3.rest.blk 0 rfl) 1).trans rfl; have c2 : (w2.alloc (.cells #[.int .i64 0, .string ⟨#[]⟩, .string ⟨#[]⟩, .int .i64 0] 34)).cell? ⟨n5, 2, none⟩ = some (.string t.f2) := (blk_cell (hs3.rest.blk 0 rfl) 2).trans rfl; have c3 : (w2.alloc (.cells #[.int .i64 0, .string ⟨#[]⟩, .string ⟨#[]⟩, .int .i64 0] 34)).cell? ⟨n5, 3, none⟩ = some (.int .i64 m) := (blk_cell (hs3.rest.blk 0 rfl) 3).trans rfl; clear hs2 hs3 b0 b1 b2 b3)
               | (clear G3; go_at_call 22; refine (MODEX.out _ HS3.out).mono ?_; rintro E w4 ⟨rfl, hs4⟩; have HS4 := Aside0.mk hs4; have d0 : w4.cell? ⟨n5, 0, none⟩ = some (.int .i64 t.f0) := (blk_cell (hs4.rest.blk 0 rfl) 0).trans rfl; have d1 : w4.cell? ⟨n5, 1, none⟩ = some (.string t.f1) := (blk_cell (hs4.rest.blk 0 rfl) 1).trans rfl; have d2 : w4.cell? ⟨n5, 2, none⟩ = some (.string t.f2) := (blk_cell (hs4.rest.blk 0 rfl) 2).trans rfl; have d3 : w4.cell? ⟨n5, 3, none⟩ = some (.int .i64 m) := (blk_cell (hs4.rest.blk 0 rfl) 3).trans rfl; clear hs4 HS3 c0 c1 c2 c3)
               | (clear G4; go_at_call 38; refine (COV.out _).mono ?_; rintro E w5 ⟨rfl, hb⟩; have HS5 := Aside0.mk (HS4.out.below hb); clear hb HS4 d0 d1 d2 d3; have e0 : w5.cell? ⟨n5, 0, none⟩ = some (.int .i64 t.f0) := (blk_cell (HS5.out.rest.blk 0 rfl) 0).trans rfl; have e1 : w5.cell? ⟨n5, 1, none⟩ = some (.string t.f1) := (blk_cell (HS5.out.rest.blk 0 rfl) 1).trans rfl; have e2 : w5.cell? ⟨n5, 2, none⟩ = some (.string t.f2) := (blk_cell (HS5.out.rest.blk 0 rfl) 2).trans rfl; have e3 : w5.cell? ⟨n5, 3, none⟩ = some (.int .i64 m) := (blk_cell (HS5.out.rest.blk 0 rfl) 3).trans rfl; obtain ⟨Aw, cw, c0, pl⟩ := HS5.out.openz HNW.out)
               | (clear G5; go_at_call 39; refine (JOIN.out _).mono ?_; rintro E w6 ⟨rfl, hb⟩; have HS6 := Aside0.mk (HS5.out.below hb); clear hb HS5 c0 pl e0 e1 e2 e3; have f0 : w6.cell? ⟨n5, 0, none⟩ = some (.int .i64 t.f0) := (blk_cell (HS6.out.rest.blk 0 rfl) 0).trans rfl; have f1 : w6.cell? ⟨n5, 1, none⟩ = some (.string t.f1) := (blk_cell (HS6.out.rest.blk 0 rfl) 1).trans rfl; have f2 : w6.cell? ⟨n5, 2, none⟩ = some (.string t.f2) := (blk_cell (HS6.out.rest.blk 0 rfl) 2).trans rfl; have f3 : w6.cell? ⟨n5, 3, none⟩ = some (.int .i64 m) := (blk_cell (HS6.out.rest.blk 0 rfl) 3).trans rfl; have ff : w6.frozen? ⟨n5, 3, none⟩ = false := frozen_of_row w6 n5 3 _ _ (HS6.out.rest.blk 0 rfl); have fl := lt_of_some (HS6.out.rest.blk 0 rfl); have HS7 := Aside0.mk (HS6.out.put5 3 (.int .i64 g) rfl)))
             go_loopg [11, 12] nw (fun gq v11 v12 wx => ∃ i k : Nat, v12 = .int .i64 i ∧ v11 = .int .i64 k ∧ i + gq = nw ∧ k ≤ i ∧ Aside0 (rplaceA r t (r.waits.drop i) i k = p) ∧ Aside0 (RQ w0 F rp r (blkC n5 (.cells #[.int .i64 t.f0, .string t.f1, .string t.f2, .int .i64 g] 34 (0, 0)) :: R) wx))
             case atStart => exact ⟨0, 0, rfl, rfl, by omega, Nat.le_refl _, Aside0.mk HP.out, HS7⟩
             case round =>
               clear HS6 HS7 f0 f1 f2 f3 ff fl
               obtain ⟨i, k, rfl, rfl, hi, hki, HF, HS⟩ := hrel
               cases gk with
               | zero =>
                 obtain ⟨Aw, cw, c0, pl⟩ := HS.out.openz HNW.out
                 obtain rfl : i = nw := by omega
                 have hin : ¬ (i : Int) < (i : Int) := by omega
                 have hp : k = p := by
                   have h := HF.out
                   rwa [rplace_end r t i k (by rw [HNW.out]; exact Nat.le_refl _)] at h
                 have HPL := Aside0.mk (show p ≤ r.waits.length by rw [HNW.out]; omega)
                 subst hp
                 have y0 : wr.cell? ⟨n5, 0, none⟩ = some (.int .i64 t.f0) := (blk_cell (HS.out.rest.blk 0 rfl) 0).trans rfl; have y1 : wr.cell? ⟨n5, 1, none⟩ = some (.string t.f1) := (blk_cell (HS.out.rest.blk 0 rfl) 1).trans rfl; have y2 : wr.cell? ⟨n5, 2, none⟩ = some (.string t.f2) := (blk_cell (HS.out.rest.blk 0 rfl) 2).trans rfl; have y3 : wr.cell? ⟨n5, 3, none⟩ = some (.int .i64 g) := (blk_cell (HS.out.rest.blk 0 rfl) 3).trans rfl
                 cases hc : rcan r x t g k with
                 | true =>
                   have CANX := Aside0.mk (fun W (h : RQ w0 F rp r (blkC n5 (.cells #[.int .i64 t.f0, .string t.f1, .string t.f2, .int .i64 g] 34 (0, 0)) :: R) W) => CAN.out W g k HPL.out h)
                   rw [hc] at CANX
                   have GIVEX := Aside0.mk (fun W (h : RQ w0 F rp r (blkC n5 (.cells #[.int .i64 t.f0, .string t.f1, .string t.f2, .int .i64 g] 34 (0, 0)) :: R) W) => GIVE.out W g h)
                   have HQ2 := Aside0.mk (HQT.out.trans (show rtail r x t g k = (⟨rgiveL t (x, g) r.holds, r.waits⟩, true, .ok) from by unfold rtail; rw [hc]; rfl))
                   clear hc
                   go_wp2_with (first
                     | (clear G6; go_at_call 40; refine (CANX.out _ HS.out).mono ?_; rintro E w7 ⟨rfl, hs7⟩; have HS7 := Aside0.mk hs7; have k0 : w7.cell? ⟨n5, 0, none⟩ = some (.int .i64 t.f0) := (blk_cell (hs7.rest.blk 0 rfl) 0).trans rfl; have k1 : w7.cell? ⟨n5, 1, none⟩ = some (.string t.f1) := (blk_cell (hs7.rest.blk 0 rfl) 1).trans rfl; have k2 : w7.cell? ⟨n5, 2, none⟩ = some (.string t.f2) := (blk_cell (hs7.rest.blk 0 rfl) 2).trans rfl; have k3 : w7.cell? ⟨n5, 3, none⟩ = some (.int .i64 g) := (blk_cell (hs7.rest.blk 0 rfl) 3).trans rfl; clear hs7 HS c0 pl y0 y1 y2 y3)
                     | (go_at_call 41; refine (GIVEX.out _ HS7.out).mono ?_; rintro E w8 ⟨rfl, hs8⟩; have HS8 := Aside0.mk hs8; clear hs8))
                   skip
                   rw [← HQ.out, HQ2.out]
                   exact ⟨rfl, BACK.out _ _ _ HS8.out⟩
                 | false =>
                   have CANX := Aside0.mk (fun W (h : RQ w0 F rp r (blkC n5 (.cells #[.int .i64 t.f0, .string t.f1, .string t.f2, .int .i64 g] 34 (0, 0)) :: R) W) => CAN.out W g k HPL.out h)
                   rw [hc] at CANX
                   have INSX := Aside0.mk (fun W (h : RQ w0 F rp r (blkC n5 (.cells #[.int .i64 t.f0, .string t.f1, .string t.f2, .int .i64 g] 34 (0, 0)) :: R) W) => INS.out W g k HPL.out h)
                   have HQ2 := Aside0.mk (HQT.out.trans (show rtail r x t g k = (⟨r.holds, r.waits.take k ++ (t, (x, g)) :: r.waits.drop k⟩, false, .ok) from by unfold rtail; rw [hc]; rfl))
                   clear hc
                   go_wp2_with (first
                     | (clear G6; go_at_call 40; refine (CANX.out _ HS.out).mono ?_; rintro E w7 ⟨rfl, hs7⟩; have HS7 := Aside0.mk hs7; have k0 : w7.cell? ⟨n5, 0, none⟩ = some (.int .i64 t.f0) := (blk_cell (hs7.rest.blk 0 rfl) 0).trans rfl; have k1 : w7.cell? ⟨n5, 1, none⟩ = some (.string t.f1) := (blk_cell (hs7.rest.blk 0 rfl) 1).trans rfl; have k2 : w7.cell? ⟨n5, 2, none⟩ = some (.string t.f2) := (blk_cell (hs7.rest.blk 0 rfl) 2).trans rfl; have k3 : w7.cell? ⟨n5, 3, none⟩ = some (.int .i64 g) := (blk_cell (hs7.rest.blk 0 rfl) 3).trans rfl; clear hs7 HS c0 pl y0 y1 y2 y3)
                     | (go_at_call 42; refine (INSX.out _ HS7.out).mono ?_; rintro E w8 ⟨rfl, hs8⟩; have HS8 := Aside0.mk hs8; clear hs8))
                   skip
                   rw [← HQ.out, HQ2.out]
                   exact ⟨rfl, BACK.out _ _ _ HS8.out⟩
               | succ gq =>
                 have hin : (i : Int) < (nw : Int) := by omega
                 have hi0 : (0 : Int) ≤ (i : Int) := by omega
                 have hi9 : (i : Int) ≤ 1000000 := by have := HN.out; have := HNW.out; omega
                 obtain ⟨o, ho⟩ : ∃ o, r.waits[i]? = some o := ⟨_, List.getElem?_eq_getElem (by rw [HNW.out]; omega)⟩
                 have HO := Aside0.mk ho
                 obtain ⟨g1, cw, c0, pl, gl, d0, d1, d2, d3, d4, d5⟩ := HS.out.openw HNW.out ho
                 have OPEN := Aside0.mk (fun W (h : RQ w0 F rp r (blkC n5 (.cells #[.int .i64 t.f0, .string t.f1, .string t.f2, .int .i64 g] 34 (0, 0)) :: R) W) (h6 : q6 W g1 i true o ∧ W.cell? ⟨rp, 1, none⟩ = some (.slice (some ⟨g1, 0, none⟩) nw cw)) => h6)
                 clear ho OPEN
                 obtain ⟨Ah_, ch_, Aw_, cw_, hs_⟩ := HS.out
                 rw [HNW.out] at hs_
                 obtain ⟨rfl, rfl⟩ : Aw_ = some ⟨g1, 0, none⟩ ∧ cw_ = cw := by
                   have := ((blk_cell (hs_.blk 0 rfl) 1).trans rfl).symm.trans c0
                   injection this with this
                   injection this with e1 e2 e3
                   exact ⟨e1, e3⟩
                 have HS := Aside0.mk hs_
                 have TORQ := Aside0.mk (fun W (h : St w0 F W (blkC rp (.cells #[.slice Ah_ r.holds.length ch_, .slice (some ⟨g1, 0, none⟩) nw cw_] 30 (0, 0)) :: rowXC qE (.slice Ah_ r.holds.length ch_) (r.holds.map (qv false)) :: rowXC qE (.slice (some ⟨g1, 0, none⟩) nw cw_) (r.waits.map (qv true)) :: (blkC n5 (.cells #[.int .i64 t.f0, .string t.f1, .string t.f2, .int .i64 g] 34 (0, 0)) :: R))) => RQ.mk' h)
                 clear hs_ d0 d1 d2 d3 d4 d5 gl
                 go_wp2
                 cases he : eqD ⟨o.1.f0, o.1.f1, o.1.f2⟩ ⟨t.f0, t.f1, t.f2⟩ with
                 | false =>
                   refine start_ (n := 11) (S := fun w' => w'.cell? ⟨rp, 1, none⟩ = some (.slice (some ⟨g1, 0, none⟩) nw cw_) ∧ w'.cell? ⟨g1, i * 6, none⟩ = some (.int .i64 o.1.f0) ∧ w'.cell? ⟨g1, i * 6 + 1, none⟩ = some (.string o.1.f1) ∧ w'.cell? ⟨g1, i * 6 + 2, none⟩ = some (.string o.1.f2) ∧ w'.cell? ⟨g1, i * 6 + 3, none⟩ = some (.int .i64 o.2.1) ∧ w'.cell? ⟨g1, i * 6 + 4, none⟩ = some (.int .i64 o.2.2) ∧ w'.cell? ⟨n5, 0, none⟩ = some (.int .i64 t.f0) ∧ w'.cell? ⟨n5, 1, none⟩ = some (.string t.f1) ∧ w'.cell? ⟨n5, 2, none⟩ = some (.string t.f2) ∧ w'.cell? ⟨n5, 3, none⟩ = some (.int .i64 g)) (ds := []) #[false, false, false, false, false, false, false, false, false, false, false] (by kernel_rfl) rfl rfl ⟨(blk_cell (HS.out.blk 0 rfl) 1).trans rfl, ((HS.out.rowX 2 rfl).q HO.out).1, ((HS.out.rowX 2 rfl).q HO.out).2.1, ((HS.out.rowX 2 rfl).q HO.out).2.2.1, ((HS.out.rowX 2 rfl).q HO.out).2.2.2.1, ((HS.out.rowX 2 rfl).q HO.out).2.2.2.2.1, (blk_cell (HS.out.blk 3 rfl) 0).trans rfl, (blk_cell (HS.out.blk 3 rfl) 1).trans rfl, (blk_cell (HS.out.blk 3 rfl) 2).trans rfl, (blk_cell (HS.out.blk 3 rfl) 3).trans rfl⟩ (fun hHeld => ?_)
                   have HS11 := Aside0.mk (HS.out.drew)
                   clear HS
                   generalize wr.drew = wd0 at HS11 hHeld  ⊢
                   refine pu_ 0 68 (bs_ 11 1) ?_; refine pu_ 1 69 (bs_ 11 3) ?_; refine pu_ 2 70 (bs_ 11 7) ?_; refine pu_ 4 72 (bs_ 11 23) ?_; refine pu_ 8 76 (bs_ 11 279) ?_; refine ta_ 3 71 (bs_ 11 287) hHeld ?_; refine pu_ 5 73 (bs_ 11 319) ?_; refine pu_ 6 74 (bs_ 11 383) ?_; refine ta_ 7 75 (bs_ 11 511) hHeld ?_; refine ta_ 9 77 (bs_ 11 1023) hHeld ?_; refine pu_ 10 78 (bs_ 11 2047) ?_
                   refine done_ (by kernel_rfl) ?_
                   clear hHeld c0 pl
                   go_wp2
                   go_roundg gq
                   case measure => omega
                   case rel => exact ⟨i + 1, k, by go_num, rfl, by omega, by omega, Aside0.mk (by rw [← rplace_other HO.out (by rw [eqD_dec] at he; exact of_decide_eq_false he)]; exact HF.out), Aside0.mk (TORQ.out _ HS11.out)⟩
                 | true =>
                   have het : o.1 = t := by rw [eqD_dec] at he; exact of_decide_eq_true he
                   have HET := Aside0.mk het
                   clear het
                   have MC := Aside0.mk (fun W (h : St w0 F W (blkC rp (.cells #[.slice Ah_ r.holds.length ch_, .slice (some ⟨g1, 0, none⟩) nw cw_] 30 (0, 0)) :: rowXC qE (.slice Ah_ r.holds.length ch_) (r.holds.map (qv false)) :: rowXC qE (.slice (some ⟨g1, 0, none⟩) nw cw_) (r.waits.map (qv true)) :: (blkC n5 (.cells #[.int .i64 t.f0, .string t.f1, .string t.f2, .int .i64 g] 34 (0, 0)) :: R))) => MODE.out W g o.2.1 (TORQ.out _ h))
                   by_cases hmz : rmode r o.2.1 t = 0
                   · rw [hmz] at MC
                     have hp : k = p := by
                       have h := HF.out
                       rwa [rplace_stop HO.out HET.out hmz] at h
                     have HPL := Aside0.mk (show p ≤ r.waits.length by rw [HNW.out]; omega)
                     subst hp
                     refine start_ (n := 11) (S := fun w' => w'.cell? ⟨rp, 1, none⟩ = some (.slice (some ⟨g1, 0, none⟩) nw cw_) ∧ w'.cell? ⟨g1, i * 6, none⟩ = some (.int .i64 o.1.f0) ∧ w'.cell? ⟨g1, i * 6 + 1, none⟩ = some (.string o.1.f1) ∧ w'.cell? ⟨g1, i * 6 + 2, none⟩ = some (.string o.1.f2) ∧ w'.cell? ⟨g1, i * 6 + 3, none⟩ = some (.int .i64 o.2.1) ∧ w'.cell? ⟨g1, i * 6 + 4, none⟩ = some (.int .i64 o.2.2) ∧ w'.cell? ⟨n5, 0, none⟩ = some (.int .i64 t.f0) ∧ w'.cell? ⟨n5, 1, none⟩ = some (.string t.f1) ∧ w'.cell? ⟨n5, 2, none⟩ = some (.string t.f2) ∧ w'.cell? ⟨n5, 3, none⟩ = some (.int .i64 g)) (ds := []) #[false, false, false, false, false, false, false, false, false, false, false] (by kernel_rfl) rfl rfl ⟨(blk_cell (HS.out.blk 0 rfl) 1).trans rfl, ((HS.out.rowX 2 rfl).q HO.out).1, ((HS.out.rowX 2 rfl).q HO.out).2.1, ((HS.out.rowX 2 rfl).q HO.out).2.2.1, ((HS.out.rowX 2 rfl).q HO.out).2.2.2.1, ((HS.out.rowX 2 rfl).q HO.out).2.2.2.2.1, (blk_cell (HS.out.blk 3 rfl) 0).trans rfl, (blk_cell (HS.out.blk 3 rfl) 1).trans rfl, (blk_cell (HS.out.blk 3 rfl) 2).trans rfl, (blk_cell (HS.out.blk 3 rfl) 3).trans rfl⟩ (fun hHeld => ?_)
                     have HS21 := Aside0.mk (HS.out.drew)
                     clear HS
                     generalize wr.drew = wd1 at HS21 hHeld  ⊢
                     refine pu_ 0 68 (bs_ 11 1) ?_; refine pu_ 1 69 (bs_ 11 3) ?_; refine pu_ 2 70 (bs_ 11 7) ?_; refine pu_ 4 72 (bs_ 11 23) ?_; refine pu_ 8 76 (bs_ 11 279) ?_; refine ta_ 3 71 (bs_ 11 287) hHeld ?_; refine pu_ 5 73 (bs_ 11 319) ?_; refine pu_ 6 74 (bs_ 11 383) ?_; refine ta_ 7 75 (bs_ 11 511) hHeld ?_; refine ta_ 9 77 (bs_ 11 1023) hHeld ?_; refine pu_ 10 78 (bs_ 11 2047) ?_
                     refine done_ (by kernel_rfl) ?_
                     clear hHeld
                     go_wp2
                     refine start_ (n := 14) (S := fun w' => w'.cell? ⟨rp, 1, none⟩ = some (.slice (some ⟨g1, 0, none⟩) nw cw_) ∧ w'.cell? ⟨g1, i * 6, none⟩ = some (.int .i64 o.1.f0) ∧ w'.cell? ⟨g1, i * 6 + 1, none⟩ = some (.string o.1.f1) ∧ w'.cell? ⟨g1, i * 6 + 2, none⟩ = some (.string o.1.f2) ∧ w'.cell? ⟨g1, i * 6 + 3, none⟩ = some (.int .i64 o.2.1) ∧ w'.cell? ⟨g1, i * 6 + 4, none⟩ = some (.int .i64 o.2.2) ∧ w'.cell? ⟨n5, 0, none⟩ = some (.int .i64 t.f0) ∧ w'.cell? ⟨n5, 1, none⟩ = some (.string t.f1) ∧ w'.cell? ⟨n5, 2, none⟩ = some (.string t.f2) ∧ w'.cell? ⟨n5, 3, none⟩ = some (.int .i64 g)) (ds := [12]) #[false, false, false, false, false, false, false, false, false, false, false, false, false, false] (by kernel_rfl) rfl rfl ⟨(blk_cell (HS21.out.blk 0 rfl) 1).trans rfl, ((HS21.out.rowX 2 rfl).q HO.out).1, ((HS21.out.rowX 2 rfl).q HO.out).2.1, ((HS21.out.rowX 2 rfl).q HO.out).2.2.1, ((HS21.out.rowX 2 rfl).q HO.out).2.2.2.1, ((HS21.out.rowX 2 rfl).q HO.out).2.2.2.2.1, (blk_cell (HS21.out.blk 3 rfl) 0).trans rfl, (blk_cell (HS21.out.blk 3 rfl) 1).trans rfl, (blk_cell (HS21.out.blk 3 rfl) 2).trans rfl, (blk_cell (HS21.out.blk 3 rfl) 3).trans rfl⟩ (fun hHeld => ?_)
                     have HS26 := Aside0.mk (HS21.out.drew)
                     clear HS21
                     generalize wd1.drew = we1 at HS26 hHeld  ⊢
                     refine pu_ 0 79 (bs_ 14 1) ?_; refine pu_ 1 80 (bs_ 14 3) ?_; refine pu_ 2 81 (bs_ 14 7) ?_; refine pu_ 3 82 (bs_ 14 15) ?_; refine pu_ 5 84 (bs_ 14 47) ?_; refine pu_ 10 89 (bs_ 14 1071) ?_; refine ta_ 4 83 (bs_ 14 1087) hHeld ?_; refine pu_ 6 85 (bs_ 14 1151) ?_; refine pu_ 7 86 (bs_ 14 1279) ?_; refine pu_ 8 87 (bs_ 14 1535) ?_; refine ta_ 9 88 (bs_ 14 2047) hHeld ?_; refine ta_ 11 90 (bs_ 14 4095) hHeld ?_
                     refine last_ (i := 12) (N := (some 91)) (bs_ 14 8191) rfl rfl (by kernel_rfl) (by decide) (fun K_ hK => ?_)
                     refine goes_ Tryz.func22 (by kernel_rfl) rfl #[.pointer (some ⟨rp, 0, none⟩), .int .i64 o.2.1, .agg #[.int .i64 t.f0, .string t.f1, .string t.f2]] (by rfl) rfl rfl (by (try simp only [List.map_toArray, List.map_cons, List.map_nil]); first | done | rfl) ?_
                     refine (MC.out _ HS26.out).mono ?_
                     rintro E wc ⟨rfl, hq_⟩
                     have HSZ := Aside0.mk hq_
                     clear hq_ HS26
                     refine ⟨_, rfl, ?_⟩
                     refine hK.out _ _ ?_
                     clear hK K_ hHeld
                     refine pu_ 13 92 (bs_ 14 16383) ?_
                     refine done_ (by kernel_rfl) ?_
                     clear c0 pl
                     have z0 : wc.cell? ⟨n5, 0, none⟩ = some (.int .i64 t.f0) := (blk_cell (HSZ.out.rest.blk 0 rfl) 0).trans rfl; have z1 : wc.cell? ⟨n5, 1, none⟩ = some (.string t.f1) := (blk_cell (HSZ.out.rest.blk 0 rfl) 1).trans rfl; have z2 : wc.cell? ⟨n5, 2, none⟩ = some (.string t.f2) := (blk_cell (HSZ.out.rest.blk 0 rfl) 2).trans rfl; have z3 : wc.cell? ⟨n5, 3, none⟩ = some (.int .i64 g) := (blk_cell (HSZ.out.rest.blk 0 rfl) 3).trans rfl
                     cases hc : rcan r x t g k with
                     | true =>
                       have CANX := Aside0.mk (fun W (h : RQ w0 F rp r (blkC n5 (.cells #[.int .i64 t.f0, .string t.f1, .string t.f2, .int .i64 g] 34 (0, 0)) :: R) W) => CAN.out W g k HPL.out h)
                       rw [hc] at CANX
                       have GIVEX := Aside0.mk (fun W (h : RQ w0 F rp r (blkC n5 (.cells #[.int .i64 t.f0, .string t.f1, .string t.f2, .int .i64 g] 34 (0, 0)) :: R) W) => GIVE.out W g h)
                       have HQ2 := Aside0.mk (HQT.out.trans (show rtail r x t g k = (⟨rgiveL t (x, g) r.holds, r.waits⟩, true, .ok) from by unfold rtail; rw [hc]; rfl))
                       clear hc
                       go_wp2_with (first
                         | (clear G6; go_at_call 40; refine (CANX.out _ HSZ.out).mono ?_; rintro E w7 ⟨rfl, hs7⟩; have HS7 := Aside0.mk hs7; have k0 : w7.cell? ⟨n5, 0, none⟩ = some (.int .i64 t.f0) := (blk_cell (hs7.rest.blk 0 rfl) 0).trans rfl; have k1 : w7.cell? ⟨n5, 1, none⟩ = some (.string t.f1) := (blk_cell (hs7.rest.blk 0 rfl) 1).trans rfl; have k2 : w7.cell? ⟨n5, 2, none⟩ = some (.string t.f2) := (blk_cell (hs7.rest.blk 0 rfl) 2).trans rfl; have k3 : w7.cell? ⟨n5, 3, none⟩ = some (.int .i64 g) := (blk_cell (hs7.rest.blk 0 rfl) 3).trans rfl; clear hs7 HSZ z0 z1 z2 z3)
                         | (go_at_call 41; refine (GIVEX.out _ HS7.out).mono ?_; rintro E w8 ⟨rfl, hs8⟩; have HS8 := Aside0.mk hs8; clear hs8))
                       skip
                       rw [← HQ.out, HQ2.out]
                       exact ⟨rfl, BACK.out _ _ _ HS8.out⟩
                     | false =>
                       have CANX := Aside0.mk (fun W (h : RQ w0 F rp r (blkC n5 (.cells #[.int .i64 t.f0, .string t.f1, .string t.f2, .int .i64 g] 34 (0, 0)) :: R) W) => CAN.out W g k HPL.out h)
                       rw [hc] at CANX
                       have INSX := Aside0.mk (fun W (h : RQ w0 F rp r (blkC n5 (.cells #[.int .i64 t.f0, .string t.f1, .string t.f2, .int .i64 g] 34 (0, 0)) :: R) W) => INS.out W g k HPL.out h)
                       have HQ2 := Aside0.mk (HQT.out.trans (show rtail r x t g k = (⟨r.holds, r.waits.take k ++ (t, (x, g)) :: r.waits.drop k⟩, false, .ok) from by unfold rtail; rw [hc]; rfl))
                       clear hc
                       go_wp2_with (first
                         | (clear G6; go_at_call 40; refine (CANX.out _ HSZ.out).mono ?_; rintro E w7 ⟨rfl, hs7⟩; have HS7 := Aside0.mk hs7; have k0 : w7.cell? ⟨n5, 0, none⟩ = some (.int .i64 t.f0) := (blk_cell (hs7.rest.blk 0 rfl) 0).trans rfl; have k1 : w7.cell? ⟨n5, 1, none⟩ = some (.string t.f1) := (blk_cell (hs7.rest.blk 0 rfl) 1).trans rfl; have k2 : w7.cell? ⟨n5, 2, none⟩ = some (.string t.f2) := (blk_cell (hs7.rest.blk 0 rfl) 2).trans rfl; have k3 : w7.cell? ⟨n5, 3, none⟩ = some (.int .i64 g) := (blk_cell (hs7.rest.blk 0 rfl) 3).trans rfl; clear hs7 HSZ z0 z1 z2 z3)
                         | (go_at_call 42; refine (INSX.out _ HS7.out).mono ?_; rintro E w8 ⟨rfl, hs8⟩; have HS8 := Aside0.mk hs8; clear hs8))
                       skip
                       rw [← HQ.out, HQ2.out]
                       exact ⟨rfl, BACK.out _ _ _ HS8.out⟩
                   · obtain ⟨mz, hmz'⟩ : ∃ z, rmode r o.2.1 t = z := ⟨_, rfl⟩
                     rw [hmz'] at MC hmz
                     refine start_ (n := 11) (S := fun w' => w'.cell? ⟨rp, 1, none⟩ = some (.slice (some ⟨g1, 0, none⟩) nw cw_) ∧ w'.cell? ⟨g1, i * 6, none⟩ = some (.int .i64 o.1.f0) ∧ w'.cell? ⟨g1, i * 6 + 1, none⟩ = some (.string o.1.f1) ∧ w'.cell? ⟨g1, i * 6 + 2, none⟩ = some (.string o.1.f2) ∧ w'.cell? ⟨g1, i * 6 + 3, none⟩ = some (.int .i64 o.2.1) ∧ w'.cell? ⟨g1, i * 6 + 4, none⟩ = some (.int .i64 o.2.2) ∧ w'.cell? ⟨n5, 0, none⟩ = some (.int .i64 t.f0) ∧ w'.cell? ⟨n5, 1, none⟩ = some (.string t.f1) ∧ w'.cell? ⟨n5, 2, none⟩ = some (.string t.f2) ∧ w'.cell? ⟨n5, 3, none⟩ = some (.int .i64 g)) (ds := []) #[false, false, false, false, false, false, false, false, false, false, false] (by kernel_rfl) rfl rfl ⟨(blk_cell (HS.out.blk 0 rfl) 1).trans rfl, ((HS.out.rowX 2 rfl).q HO.out).1, ((HS.out.rowX 2 rfl).q HO.out).2.1, ((HS.out.rowX 2 rfl).q HO.out).2.2.1, ((HS.out.rowX 2 rfl).q HO.out).2.2.2.1, ((HS.out.rowX 2 rfl).q HO.out).2.2.2.2.1, (blk_cell (HS.out.blk 3 rfl) 0).trans rfl, (blk_cell (HS.out.blk 3 rfl) 1).trans rfl, (blk_cell (HS.out.blk 3 rfl) 2).trans rfl, (blk_cell (HS.out.blk 3 rfl) 3).trans rfl⟩ (fun hHeld => ?_)
                     have HS31 := Aside0.mk (HS.out.drew)
                     clear HS
                     generalize wr.drew = wd2 at HS31 hHeld  ⊢
                     refine pu_ 0 68 (bs_ 11 1) ?_; refine pu_ 1 69 (bs_ 11 3) ?_; refine pu_ 2 70 (bs_ 11 7) ?_; refine pu_ 4 72 (bs_ 11 23) ?_; refine pu_ 8 76 (bs_ 11 279) ?_; refine ta_ 3 71 (bs_ 11 287) hHeld ?_; refine pu_ 5 73 (bs_ 11 319) ?_; refine pu_ 6 74 (bs_ 11 383) ?_; refine ta_ 7 75 (bs_ 11 511) hHeld ?_; refine ta_ 9 77 (bs_ 11 1023) hHeld ?_; refine pu_ 10 78 (bs_ 11 2047) ?_
                     refine done_ (by kernel_rfl) ?_
                     clear hHeld
                     go_wp2
                     refine start_ (n := 14) (S := fun w' => w'.cell? ⟨rp, 1, none⟩ = some (.slice (some ⟨g1, 0, none⟩) nw cw_) ∧ w'.cell? ⟨g1, i * 6, none⟩ = some (.int .i64 o.1.f0) ∧ w'.cell? ⟨g1, i * 6 + 1, none⟩ = some (.string o.1.f1) ∧ w'.cell? ⟨g1, i * 6 + 2, none⟩ = some (.string o.1.f2) ∧ w'.cell? ⟨g1, i * 6 + 3, none⟩ = some (.int .i64 o.2.1) ∧ w'.cell? ⟨g1, i * 6 + 4, none⟩ = some (.int .i64 o.2.2) ∧ w'.cell? ⟨n5, 0, none⟩ = some (.int .i64 t.f0) ∧ w'.cell? ⟨n5, 1, none⟩ = some (.string t.f1) ∧ w'.cell? ⟨n5, 2, none⟩ = some (.string t.f2) ∧ w'.cell? ⟨n5, 3, none⟩ = some (.int .i64 g)) (ds := [12]) #[false, false, false, false, false, false, false, false, false, false, false, false, false, false] (by kernel_rfl) rfl rfl ⟨(blk_cell (HS31.out.blk 0 rfl) 1).trans rfl, ((HS31.out.rowX 2 rfl).q HO.out).1, ((HS31.out.rowX 2 rfl).q HO.out).2.1, ((HS31.out.rowX 2 rfl).q HO.out).2.2.1, ((HS31.out.rowX 2 rfl).q HO.out).2.2.2.1, ((HS31.out.rowX 2 rfl).q HO.out).2.2.2.2.1, (blk_cell (HS31.out.blk 3 rfl) 0).trans rfl, (blk_cell (HS31.out.blk 3 rfl) 1).trans rfl, (blk_cell (HS31.out.blk 3 rfl) 2).trans rfl, (blk_cell (HS31.out.blk 3 rfl) 3).trans rfl⟩ (fun hHeld => ?_)
                     have HS36 := Aside0.mk (HS31.out.drew)
                     clear HS31
                     generalize wd2.drew = we2 at HS36 hHeld  ⊢
                     refine pu_ 0 79 (bs_ 14 1) ?_; refine pu_ 1 80 (bs_ 14 3) ?_; refine pu_ 2 81 (bs_ 14 7) ?_; refine pu_ 3 82 (bs_ 14 15) ?_; refine pu_ 5 84 (bs_ 14 47) ?_; refine pu_ 10 89 (bs_ 14 1071) ?_; refine ta_ 4 83 (bs_ 14 1087) hHeld ?_; refine pu_ 6 85 (bs_ 14 1151) ?_; refine pu_ 7 86 (bs_ 14 1279) ?_; refine pu_ 8 87 (bs_ 14 1535) ?_; refine ta_ 9 88 (bs_ 14 2047) hHeld ?_; refine ta_ 11 90 (bs_ 14 4095) hHeld ?_
                     refine last_ (i := 12) (N := (some 91)) (bs_ 14 8191) rfl rfl (by kernel_rfl) (by decide) (fun K_ hK => ?_)
                     refine goes_ Tryz.func22 (by kernel_rfl) rfl #[.pointer (some ⟨rp, 0, none⟩), .int .i64 o.2.1, .agg #[.int .i64 t.f0, .string t.f1, .string t.f2]] (by rfl) rfl rfl (by (try simp only [List.map_toArray, List.map_cons, List.map_nil]); first | done | rfl) ?_
                     refine (MC.out _ HS36.out).mono ?_
                     rintro E wc ⟨rfl, hq_⟩
                     have HSZ := Aside0.mk hq_
                     clear hq_ HS36
                     refine ⟨_, rfl, ?_⟩
                     refine hK.out _ _ ?_
                     clear hK K_ hHeld
                     refine pu_ 13 92 (bs_ 14 16383) ?_
                     refine done_ (by kernel_rfl) ?_
                     clear c0 pl
                     go_wp2
                     go_roundg gq
                     case measure => omega
                     case rel => exact ⟨i + 1, i + 1, by go_num, by go_num, by omega, by omega, Aside0.mk (by rw [← rplace_next HO.out HET.out (by rw [hmz']; exact hmz)]; exact HF.out), HSZ⟩
end
end Go.Proofs.Kb
end
section
namespace Go.Proofs.Kb
open Go Go.RowKit Go.Proofs.YtkcjcdkmdooofaaGreat.Q Go.Proofs.YtkcjcdkmdooofaaGreatW.PrintWords Go.Proofs.YtkcjcdkmdooofaaGreatW.PrintLast Go.Proofs.YtkcjcdkmdooofaaGreatW.PrintMore
set_option maxRecDepth 100000
open Go.Proofs.Lk Go.Proofs.Mp
section
variable {α : Type}
def putL (lt : α → α → Bool) (t : α) : Bool → List α → List α
 | b, [] => if b = true then [] else [t]
 | b, y :: l => if (!b && lt t y) = true then t :: y :: putL lt t true l else y :: putL lt t b l
theorem putL_true (lt : α → α → Bool) (t : α) : ∀ (l : List α), putL lt t true l = l
 | [] => rfl
 | y :: l => by
   rw [putL, if_neg (by simp), putL_true lt t l]
theorem putL_len (lt : α → α → Bool) (t : α) : ∀ (b : Bool) (l : List α), (putL lt t b l).length ≤ l.length + 1
 | true, l => by rw [putL_true]; omega
 | false, [] => by simp [putL]
 | false, y :: l => by
   rw [putL]
   split
   · rw [putL_true]; simp
   · have := putL_len lt t false l
     simp only [List.length_cons]
     omega
def putT [DecidableEq α] (lt : α → α → Bool) (l : List α) (t : α) : List α := if t ∈ l then l else putL lt t false l
theorem putT_len [DecidableEq α] (lt : α → α → Bool) (l : List α) (t : α) : (putT lt l t).length ≤ l.length + 1 := by
 unfold putT
 split
 · omega
 · exact putL_len lt t false l
end
def ltTB (a b : S32) : Bool := decide (ltT a b)
def ltIB (a b : Int) : Bool := decide (a < b)
theorem putL_ins (t : S32) : ∀ (l : List S32), t ∉ l → putL ltTB t false l = insAt l (low l t) t
 | [], _ => rfl
 | y :: l, h => by
   have hne : y ≠ t := fun e => h (by rw [e]; exact List.mem_cons_self)
   have ih := putL_ins t l (fun e => h (List.mem_cons_of_mem _ e))
   have hl : low (y :: l) t = if ltT y t then low l t + 1 else 0 := by
     unfold low
     rw [List.takeWhile_cons]
     by_cases q : ltT y t
     · rw [if_pos (show decide (ord y t < 0) = true from decide_eq_true q), if_pos q]
       rfl
     · rw [if_neg (show ¬ decide (ord y t < 0) = true from fun e => q (of_decide_eq_true e)), if_neg q]
       rfl
   rw [putL, hl]
   by_cases h1 : ltT t y
   · have h2 : ¬ ltT y t := fun e => ltT_irr _ (ltT_trans h1 e)
     rw [if_pos (by unfold ltTB; rw [decide_eq_true h1]; rfl), if_neg h2, putL_true]
     rfl
   · have h2 : ltT y t := by
       rcases ltT_tri t y with h3 | h3 | h3
       · exact absurd h3 h1
       · exact absurd h3.symm hne
       · exact h3
     rw [if_neg (by unfold ltTB; rw [decide_eq_false h1]; simp), if_pos h2, ih]
     unfold insAt
     rw [List.take_succ_cons, List.drop_succ_cons]
     rfl
theorem putT_hadd {l : List S32} (hs : Sorted l) (t : S32) : putT ltTB l t = haddT l t := by
 unfold putT haddT
 by_cases h : t ∈ l
 · rw [if_pos h, if_pos (found_of hs h)]
 · rw [if_neg h, if_neg (fun e => h (found_mem e)), putL_ins t l h]
theorem sorted_extT : ∀ {a b : List S32}, Sorted a → Sorted b → (∀ x, x ∈ a ↔ x ∈ b) → a = b
 | [], [], _, _, _ => rfl
 | [], y :: b, _, _, h => by have := (h y).2 List.mem_cons_self; cases this
 | x :: a, [], _, _, h => by have := (h x).1 List.mem_cons_self; cases this
 | x :: a, y :: b, ha, hb, h => by
   obtain ⟨ha1, ha2⟩ := List.pairwise_cons.1 ha
   obtain ⟨hb1, hb2⟩ := List.pairwise_cons.1 hb
   have e : x = y := by
     have h1 := (h x).1 List.mem_cons_self
     have h2 := (h y).2 List.mem_cons_self
     rcases List.mem_cons.1 h1 with h1 | h1
     · exact h1
     · rcases List.mem_cons.1 h2 with h2 | h2
       · exact h2.symm
       · exact absurd (ltT_trans (hb1 x h1) (ha1 y h2)) (ltT_irr _)
   subst e
   rw [sorted_extT ha2 hb2 fun z => ?_]
   constructor
   · intro hz
     rcases List.mem_cons.1 ((h z).1 (List.mem_cons_of_mem _ hz)) with h1 | h1
     · subst h1
       exact absurd (ha1 z hz) (ltT_irr _)
     · exact h1
   · intro hz
     rcases List.mem_cons.1 ((h z).2 (List.mem_cons_of_mem _ hz)) with h1 | h1
     · subst h1
       exact absurd (hb1 z hz) (ltT_irr _)
     · exact h1
theorem putL_mem (t : Int) : ∀ (l : List Int) (x : Int), x ∈ putL ltIB t false l ↔ x = t ∨ x ∈ l
 | [], x => by simp [putL]
 | y :: l, x => by
   rw [putL]
   split
   · rw [putL_true]; simp
   · rw [List.mem_cons, putL_mem t l x, List.mem_cons]
     constructor
     · rintro (h | h | h) <;> simp [h]
     · rintro (h | h | h) <;> simp [h]
theorem putT_memI (l : List Int) (t x : Int) : x ∈ putT ltIB l t ↔ x = t ∨ x ∈ l := by
 unfold putT
 split
 · rename_i h
   constructor
   · exact .inr
   · rintro (rfl | h2)
     · exact h
     · exact h2
 · exact putL_mem t l x
theorem putL_sortedI (t : Int) : ∀ (l : List Int), l.Pairwise (· < ·) → t ∉ l → (putL ltIB t false l).Pairwise (· < ·)
 | [], _, _ => by simp [putL]
 | y :: l, h, hn => by
   obtain ⟨h1, h2⟩ := List.pairwise_cons.1 h
   have hne : y ≠ t := fun e => hn (by rw [e]; exact List.mem_cons_self)
   rw [putL]
   split
   · rename_i q
     have q : t < y := by
       rw [Bool.not_false, Bool.true_and] at q
       exact of_decide_eq_true q
     rw [putL_true]
     refine List.pairwise_cons.2 ⟨fun z hz => ?_, h⟩
     rcases List.mem_cons.1 hz with rfl | hz
     · exact q
     · have := h1 z hz
       omega
   · rename_i q
     have q : ¬ t < y := fun e => q (by unfold ltIB; rw [decide_eq_true e]; rfl)
     refine List.pairwise_cons.2 ⟨fun z hz => ?_, putL_sortedI t l h2 (fun e => hn (List.mem_cons_of_mem _ e))⟩
     rcases (putL_mem t l z).1 hz with rfl | hz
     · omega
     · exact h1 z hz
theorem putT_sortedI {l : List Int} (h : l.Pairwise (· < ·)) (t : Int) : (putT ltIB l t).Pairwise (· < ·) := by
 unfold putT
 split
 · exact h
 · rename_i hn
   exact putL_sortedI t l h hn
theorem foldI (L : List Int) : ∀ (acc : List Int), acc.Pairwise (· < ·) → (L.foldl (putT ltIB) acc).Pairwise (· < ·) ∧ ∀ x, x ∈ L.foldl (putT ltIB) acc ↔ x ∈ acc ∨ x ∈ L := by
 induction L with
 | nil => intro acc h; exact ⟨h, fun x => by simp⟩
 | cons t L ih =>
   intro acc h
   obtain ⟨h1, h2⟩ := ih _ (putT_sortedI h t)
   refine ⟨h1, fun x => ?_⟩
   rw [List.foldl_cons, h2 x, putT_memI, List.mem_cons]
   constructor
   · rintro ((h | h) | h) <;> simp [h]
   · rintro (h | h | h) <;> simp [h]
theorem fold_srt (L : List Int) : L.foldl (putT ltIB) [] = srtI L := by
 obtain ⟨h1, h2⟩ := foldI L [] List.Pairwise.nil
 exact sorted_ext h1 (srtI_sorted L) fun x => by rw [h2 x, mem_srtI]; simp
theorem foldT (L : List S32) : ∀ (acc : List S32), Sorted acc → Sorted (L.foldl (putT ltTB) acc) ∧ ∀ x, x ∈ L.foldl (putT ltTB) acc ↔ x ∈ acc ∨ x ∈ L := by
 induction L with
 | nil => intro acc h; exact ⟨h, fun x => by simp⟩
 | cons t L ih =>
   intro acc h
   have e := putT_hadd h t
   obtain ⟨h1, h2⟩ := ih (putT ltTB acc t) (by rw [e]; exact haddT_sorted h t)
   refine ⟨h1, fun x => ?_⟩
   rw [List.foldl_cons, h2 x, e, mem_haddT, List.mem_cons]
   constructor
   · rintro ((h | h) | h) <;> simp [h]
   · rintro (h | h | h) <;> simp [h]
def rthings (r : RS S32) (x : Int) : List S32 := ((r.holds.filter fun o => o.2.1 == x).map (·.1)).foldl (putT ltTB) []
def rall (r : RS S32) (x : Int) : List S32 := match rwait r x with | none => rthings r x | some o => putT ltTB (rthings r x) o.1
def rblock (r : RS S32) (x : Int) : List Int := match rwait r x with
 | none => []
 | some o => (((r.holds.filter fun h => decide (h.1 = o.1) && (h.2.1 != x && conf h.2.2 o.2.2)) ++ ((r.waits.takeWhile fun h => h.2.1 != x).filter fun h => decide (h.1 = o.1) && conf h.2.2 o.2.2)).map (·.2.1)).foldl (putT ltIB) []
def rstate (r : RS S32) (t : S32) : List S75 := heldL false (Lk.part t r.holds) ++ heldL true (Lk.part t r.waits)
section
variable {s : LS S32} {r : RS S32}
theorem rstate_rr (hr : RR s r) (t : S32) : rstate r t = stateL (s.rows t) := by
 rw [← hr t]
 rfl
theorem rthings_rr (h : LInv s) (hr : RR s r) (hs : ∀ x, Sorted (s.held x)) (x : Int) : rthings r x = s.held x := by
 obtain ⟨h1, h2⟩ := foldT ((r.holds.filter fun o => o.2.1 == x).map (·.1)) [] List.Pairwise.nil
 refine sorted_extT h1 (hs x) fun t => ?_
 have e := h2 t
 unfold rthings
 rw [e, h.hh x t, ← hr t, has_iff]
 constructor
 · rintro (h | h)
   · cases h
   · obtain ⟨o, ho, rfl⟩ := List.mem_map.1 h
     obtain ⟨h3, h4⟩ := List.mem_filter.1 ho
     exact ⟨o.2, mem_part.2 h3, by simpa using h4⟩
 · rintro ⟨o, ho, rfl⟩
   exact .inr (List.mem_map.2 ⟨(t, o), List.mem_filter.2 ⟨mem_part.1 ho, by simp⟩, rfl⟩)
theorem rall_rr (h : LInv s) (hr : RR s r) (hs : ∀ x, Sorted (s.held x)) (x : Int) : rall r x = allT haddT s x := by
 unfold rall allT
 cases hx : s.waits x with
 | none =>
   rw [rwait_none h hr hx]
   exact rthings_rr h hr hs x
 | some t =>
   obtain ⟨o, A, B, e, _⟩ := rwait_some h hr hx
   rw [e]
   show putT ltTB (rthings r x) t = _
   rw [rthings_rr h hr hs x, putT_hadd (hs x)]
theorem part_filt (t : S32) (p : One → Bool) (l : List (S32 × One)) : (l.filter fun o => decide (o.1 = t) && p o.2).map (·.2.1) = ((Lk.part t l).filter p).map (·.1) := by
 induction l with
 | nil => rfl
 | cons o l ih =>
   rw [List.filter_cons, part_cons]
   by_cases h : o.1 = t
   · rw [decide_eq_true h, if_pos h, List.filter_cons, Bool.true_and]
     split
     · rw [List.map_cons, List.map_cons, ih]
     · exact ih
   · rw [decide_eq_false h, if_neg h, Bool.false_and, if_neg (by simp), ih]
theorem takeWhile_at {β : Type} {p : β → Bool} {A B : List β} {o : β} (ha : ∀ a ∈ A, p a = true) (ho : p o = false) : (A ++ o :: B).takeWhile p = A := by
 induction A with
 | nil => rw [List.nil_append, List.takeWhile_cons, if_neg (by rw [ho]; simp)]
 | cons a A ih =>
   rw [List.cons_append, List.takeWhile_cons, if_pos (ha a List.mem_cons_self), ih (fun b hb => ha b (List.mem_cons_of_mem _ hb))]
theorem rblock_rr (h : LInv s) (hr : RR s r) (x : Int) : rblock r x = blockS srtI s x := by
 unfold rblock blockS
 cases hx : s.waits x with
 | none =>
   rw [rwait_none h hr hx]
 | some t =>
   obtain ⟨o, A, B, e, e1, e2, e3, e4, e5⟩ := rwait_some h hr hx
   rw [e]
   dsimp only
   rw [e5]
   dsimp only
   rw [fold_srt]
   refine congrArg srtI ?_
   rw [e2, takeWhile_at (fun a ha => by simpa using e3 a ha) (by simp [e1]), List.map_append, part_filt t (fun h => h.1 != x && conf h.2 o.2), part_filt t (fun h => conf h.2 o.2)]
   unfold rawB
   rw [List.filter_append, List.map_append, e1]
   have a1 : Lk.part t r.holds = (s.rows t).holds := congrArg LRow.holds (hr t)
   have a2 : (s.rows t).waits.take (Lk.part t A).length = Lk.part t A := by rw [e4, List.take_left']; rfl
   rw [a1, a2]
   congr 2
   refine List.filter_congr fun w hw => ?_
   have : w.1 ≠ x := e3 (t, w) (mem_part.1 hw)
   rw [show (w.1 != x) = true by simpa using this, Bool.true_and]
theorem rgive_len1 (t : S32) (o : One) : ∀ l, (rgiveL t o l).length ≤ l.length + 1
 | [] => by simp [rgiveL]
 | p :: l => by
   rw [rgiveL]
   split
   · simp
   · have := rgive_len1 t o l
     simp only [List.length_cons]
     omega
def rsLen (r : RS S32) : Nat := r.holds.length + r.waits.length
theorem rsweepA_len : ∀ (k : Nat) (t : S32) (r : RS S32) (i : Nat), rsLen (rsweepA k t r i).1 ≤ rsLen r
 | 0, t, r, i => Nat.le_refl _
 | k + 1, t, r, i => by
   unfold rsweepA
   cases ho : r.waits[i]? with
   | none => exact Nat.le_refl _
   | some o =>
     dsimp only
     split
     · refine Nat.le_trans (rsweepA_len k t _ i) ?_
       have hi := (List.getElem?_eq_some_iff.1 ho).1
       have h1 := rgive_len1 t (o.2.1, o.2.2) r.holds
       have h2 := List.length_eraseIdx_of_lt hi
       have h3 := rgive_len1 t o.2 r.holds
       show (rgiveL t _ r.holds).length + (r.waits.eraseIdx i).length ≤ r.holds.length + r.waits.length
       omega
     · exact rsweepA_len k t r (i + 1)
theorem rsweeps_len : ∀ (ts : List S32) (r : RS S32), rsLen (rsweeps ts r).1 ≤ rsLen r
 | [], r => Nat.le_refl _
 | t :: ts, r => by
   unfold rsweeps
   exact Nat.le_trans (rsweeps_len ts _) (rsweepA_len _ t r 0)
theorem rcancel_len (r : RS S32) (x : Int) : rsLen (rcancel r x).1 ≤ rsLen r := by
 unfold rcancel
 cases r.waits.findIdx? (fun o => o.2.1 == x) with
 | none => exact Nat.le_refl _
 | some i =>
   dsimp only
   cases r.waits[i]? with
   | none => exact Nat.le_refl _
   | some o =>
     refine Nat.le_trans (rsweepA_len _ _ _ 0) ?_
     have := List.length_eraseIdx_le r.waits i
     show r.holds.length + (r.waits.eraseIdx i).length ≤ r.holds.length + r.waits.length
     omega
theorem rrelease_len (r : RS S32) (x : Int) (all : List S32) : rsLen (rrelease r x all).1 ≤ rsLen r := by
 unfold rrelease
 refine Nat.le_trans (rsweeps_len _ _) ?_
 have h1 := List.length_filter_le (fun o : S32 × One => o.2.1 != x) r.holds
 cases r.waits.findIdx? (fun o => o.2.1 == x) with
 | none =>
   show (r.holds.filter _).length + r.waits.length ≤ r.holds.length + r.waits.length
   omega
 | some i =>
   have := List.length_eraseIdx_le r.waits i
   show (r.holds.filter _).length + (r.waits.eraseIdx i).length ≤ r.holds.length + r.waits.length
   omega
theorem rask_len (r : RS S32) (x : Int) (t : S32) (m : Int) : rsLen (rask fitsT r x t m).1 ≤ rsLen r + 1 := by
 have key : ∀ (g : Int) (p : Nat), rsLen (if rcan r x t g p = true then ((⟨rgiveL t (x, g) r.holds, r.waits⟩, true, .ok) : RS S32 × Bool × Ans) else (⟨r.holds, r.waits.take p ++ (t, (x, g)) :: r.waits.drop p⟩, false, .ok)).1 ≤ rsLen r + 1 := fun g p => by
   split
   · have := rgive_len1 t (x, g) r.holds
     show (rgiveL t (x, g) r.holds).length + r.waits.length ≤ r.holds.length + r.waits.length + 1
     omega
   · show r.holds.length + (r.waits.take p ++ (t, (x, g)) :: r.waits.drop p).length ≤ r.holds.length + r.waits.length + 1
     rw [List.length_append, List.length_cons, List.length_take, List.length_drop]
     omega
 unfold rask
 split
 · split
   · exact Nat.le_succ _
   · dsimp only
     split
     · exact Nat.le_succ _
     · exact key _ _
 · exact Nat.le_succ _
end
end Go.Proofs.Kb
end
section
namespace Go.Proofs.Kb
open Go Go.RowKit Go.Proofs.YtkcjcdkmdooofaaGreat.Q Go.Proofs.YtkcjcdkmdooofaaGreatW.PrintWords Go.Proofs.YtkcjcdkmdooofaaGreatW.PrintLast Go.Proofs.YtkcjcdkmdooofaaGreatW.PrintMore
set_option maxRecDepth 100000
open Go.Proofs.Lk Go.Proofs.Mp
attribute [local go_sem high] eqT
theorem heldL_le (t : S32) (l : List (S32 × One)) (i : Nat) (b : Bool) : (heldL b (Lk.part t (l.take i))).length ≤ i := by
 unfold heldL Lk.part
 rw [List.length_map, List.length_map]
 exact Nat.le_trans (List.length_filter_le _ _) (by rw [List.length_take]; omega)
theorem heldL_le' (t : S32) (l : List (S32 × One)) (b : Bool) : (heldL b (Lk.part t l)).length ≤ l.length := by
 unfold heldL Lk.part
 rw [List.length_map, List.length_map]
 exact List.length_filter_le _ _
section
variable {t : S32} {l : List (S32 × One)} {i : Nat} {o : S32 × One} {b : Bool}
theorem part_on (h : l[i]? = some o) (ht : o.1 = t) : heldL b (Lk.part t (l.take (i + 1))) = heldL b (Lk.part t (l.take i)) ++ [⟨o.2.1, o.2.2, b⟩] := by
 rw [List.take_add_one, h, Option.toList_some, part_app, part_cons, if_pos ht]
 unfold heldL
 rw [List.map_append]
 rfl
theorem part_off (h : l[i]? = some o) (ht : o.1 ≠ t) : heldL b (Lk.part t (l.take (i + 1))) = heldL b (Lk.part t (l.take i)) := by
 rw [List.take_add_one, h, Option.toList_some, part_app, part_cons, if_neg ht]
 show heldL b (Lk.part t (l.take i) ++ []) = _
 rw [List.append_nil]
end
section
variable {w0 w w' : World} {F : Nat → Prop} {rp : Nat} {r : RS S32} {R R' : List Chunk}
set_option maxHeartbeats 16000000 in
theorem qstate_calls (h : RQ w0 F rp r R w) (t : S32) (hn : r.holds.length + r.waits.length < 90000) :
   Calls Tryz.prog 18 #[.pointer (some ⟨rp, 0, none⟩), thgV t] w fun E w' => ∃ A n c, E = .returned (.slice A n c) ∧ RQ w0 F rp r (rowHC (.slice A n c) (rstate r t) :: R) w' := by
 obtain ⟨Q, hQ⟩ : ∃ Q, (fun E w' => ∃ A n c, E = Ending.returned (.slice A n c) ∧ RQ w0 F rp r (rowHC (.slice A n c) (rstate r t) :: R) w') = Q := ⟨_, rfl⟩
 have HQ := Aside0.mk hQ
 rw [hQ]
 clear hQ
 have hu30 := Tryz.underlying30
 have hu28 := Tryz.underlying28
 have hu77 := Tryz.underlying77
 have hu75 := Tryz.underlying75
 have hu32 := Tryz.underlying32
 have hu46 := Tryz.underlying46
 have hz77 := Tryz.sizeOf77
 have hz32 := Tryz.sizeOf32
 have hz75 := Tryz.sizeOf75
 obtain ⟨n3, hn3⟩ : ∃ n, w.heap.size = n := ⟨_, rfl⟩
 obtain ⟨Ah, ch, Aw, cw, h0⟩ := h
 obtain ⟨nh, hnh⟩ : ∃ n, r.holds.length = n := ⟨_, rfl⟩
 obtain ⟨nw, hnw⟩ : ∃ n, r.waits.length = n := ⟨_, rfl⟩
 have h1 := h0.alloc #[.int .i64 t.f0, .string t.f1, .string t.f2] 32 hn3
 obtain ⟨W8, hW8⟩ : ∃ W, w.alloc (.cells #[.int .i64 t.f0, .string t.f1, .string t.f2] 32) = W := ⟨_, rfl⟩
 rw [hW8] at h1
 have h2 := h1.perm (B := blkC n3 (.cells #[.int .i64 t.f0, .string t.f1, .string t.f2] 32 (0, 0)) :: blkC rp _ :: rowXC qE _ _ :: rowXC qE _ _ :: R) (List.perm_append_comm (l₂ := [_]))
 have h3 := st_emptyX heldE h2
 have HNH := Aside0.mk hnh
 have HNW := Aside0.mk hnw
 rw [hnh, hnw] at h3
 have HN := Aside0.mk hn
 have HS := Aside0.mk h3
 have c0 : (W8.alloc (.cells #[] 75)).cell? ⟨rp, 0, none⟩ = some (.slice Ah nh ch) := (blk_cell (HS.out.blk 2 rfl) 0).trans rfl
 have pl := lt_of_some (HS.out.blk 2 rfl)
 clear h0 h1 h2 h3 hnh hnw hn
 unfold thgV
 go_enter Tryz.func18, Tryz.ntmps18
 go_wp2
 clear c0 pl
 go_loopg [5, 6] nh (fun gq v5 v6 wx => ∃ (i na c : Nat) (A : Option Addr), v6 = .int .i64 i ∧ v5 = .slice A na c ∧ i + gq = nh ∧ Aside0 ((heldL false (Lk.part t (r.holds.take i))).length = na) ∧ Aside0 (St w0 F wx (rowHC (.slice A na c) (heldL false (Lk.part t (r.holds.take i))) :: blkC n3 (.cells #[.int .i64 t.f0, .string t.f1, .string t.f2] 32 (0, 0)) :: blkC rp (.cells #[.slice Ah nh ch, .slice Aw nw cw] 30 (0, 0)) :: rowXC qE (.slice Ah nh ch) (r.holds.map (qv false)) :: rowXC qE (.slice Aw nw cw) (r.waits.map (qv true)) :: R)))
 case atStart => exact ⟨0, 0, 0, _, rfl, rfl, by omega, Aside0.mk rfl, HS⟩
 case round =>
   clear HS hW8
   obtain ⟨i, na, c, A, rfl, rfl, hi, HNA, HS⟩ := hrel
   have c0 : wr.cell? ⟨rp, 0, none⟩ = some (.slice Ah nh ch) := (blk_cell (HS.out.blk 2 rfl) 0).trans rfl
   have pl := lt_of_some (HS.out.blk 2 rfl)
   cases gk with
   | zero =>
     obtain rfl : i = nh := by omega
     have hin : ¬ (i : Int) < (i : Int) := by omega
     have e : r.holds.take i = r.holds := List.take_of_length_le (by rw [HNH.out]; exact Nat.le_refl _)
     rw [e] at HS HNA
     have HS2 := Aside0.mk (show St w0 F wr (rowHC (.slice A na c) (heldL false (Lk.part t r.holds) ++ heldL true (Lk.part t (r.waits.take 0))) :: blkC n3 (.cells #[.int .i64 t.f0, .string t.f1, .string t.f2] 32 (0, 0)) :: blkC rp (.cells #[.slice Ah i ch, .slice Aw nw cw] 30 (0, 0)) :: rowXC qE (.slice Ah i ch) (r.holds.map (qv false)) :: rowXC qE (.slice Aw nw cw) (r.waits.map (qv true)) :: R) from (by show St w0 F wr (rowHC (.slice A na c) (heldL false (Lk.part t r.holds) ++ []) :: blkC n3 (.cells #[.int .i64 t.f0, .string t.f1, .string t.f2] 32 (0, 0)) :: blkC rp (.cells #[.slice Ah i ch, .slice Aw nw cw] 30 (0, 0)) :: rowXC qE (.slice Ah i ch) (r.holds.map (qv false)) :: rowXC qE (.slice Aw nw cw) (r.waits.map (qv true)) :: R); rw [List.append_nil]; exact HS.out))
     have HNA2 : Aside0 ((heldL false (Lk.part t r.holds) ++ heldL true (Lk.part t (r.waits.take 0))).length = na) := Aside0.mk (by show (heldL false (Lk.part t r.holds) ++ []).length = na; rw [List.append_nil]; exact HNA.out)
     clear HS HNA e
     go_wp2
     clear c0 pl
     go_loopg [5, 7] nw (fun gq v5 v7 wx => ∃ (j na c : Nat) (A : Option Addr), v7 = .int .i64 j ∧ v5 = .slice A na c ∧ j + gq = nw ∧ Aside0 ((heldL false (Lk.part t r.holds) ++ heldL true (Lk.part t (r.waits.take j))).length = na) ∧ Aside0 (St w0 F wx (rowHC (.slice A na c) (heldL false (Lk.part t r.holds) ++ heldL true (Lk.part t (r.waits.take j))) :: blkC n3 (.cells #[.int .i64 t.f0, .string t.f1, .string t.f2] 32 (0, 0)) :: blkC rp (.cells #[.slice Ah i ch, .slice Aw nw cw] 30 (0, 0)) :: rowXC qE (.slice Ah i ch) (r.holds.map (qv false)) :: rowXC qE (.slice Aw nw cw) (r.waits.map (qv true)) :: R)))
     case atStart => exact ⟨0, na, c, A, rfl, rfl, by omega, HNA2, HS2⟩
     case round =>
       clear HS2 HNA2
       obtain ⟨j, na, c, A, rfl, rfl, hj, HNA, HS⟩ := hrel
       have c0 : wr.cell? ⟨rp, 1, none⟩ = some (.slice Aw nw cw) := (blk_cell (HS.out.blk 2 rfl) 1).trans rfl
       have pl := lt_of_some (HS.out.blk 2 rfl)
       cases gk with
       | zero =>
         obtain rfl : j = nw := by omega
         have hjn : ¬ (j : Int) < (j : Int) := by omega
         have e : r.waits.take j = r.waits := List.take_of_length_le (by rw [HNW.out]; exact Nat.le_refl _)
         rw [e] at HS
         clear e
         go_wp2
         rw [← HQ.out]
         refine ⟨A, na, c, rfl, RQ.mk' (r := r) (Ah := Ah) (nh := i) (ch := ch) (Aw := Aw) (nw := j) (cw := cw) ?_⟩
         exact St.drop (A := [_]) ((show St w0 F wr ([_, _, _, _, _] ++ R) from HS.out).perm (B := [_, _, _, _, _] ++ R) ((perm_ix _ [1, 2, 3, 4, 0] 5 rfl (by decide)).append_right R))
       | succ gq =>
         have hin : (j : Int) < (nw : Int) := by omega
         have hi0 : (0 : Int) ≤ (j : Int) := by omega
         have hi9 : (j : Int) ≤ 1000000 := by have := HN.out; have := HNW.out; omega
         obtain ⟨o, ho⟩ : ∃ o, r.waits[j]? = some o := ⟨_, List.getElem?_eq_getElem (by rw [HNW.out]; omega)⟩
         obtain ⟨g1, c1, hv, _⟩ := row_slice (n := (r.waits.map (qv true)).length) (HS.out.rowX 4 rfl) (by rw [List.length_map, HNW.out]; omega)
         obtain ⟨rfl, rfl⟩ : Aw = some ⟨g1, 0, none⟩ ∧ cw = c1 := by
           injection hv with e1 e2 e3
           exact ⟨e1, e3⟩
         have HO := Aside0.mk ho
         clear hv ho
         go_wp2
         cases he : eqD ⟨o.1.f0, o.1.f1, o.1.f2⟩ ⟨t.f0, t.f1, t.f2⟩ with
         | false =>
           refine start_ (n := 10) (S := fun w' => w'.cell? ⟨rp, 1, none⟩ = some (.slice (some ⟨g1, 0, none⟩) nw cw) ∧ w'.cell? ⟨g1, j * 6, none⟩ = some (.int .i64 o.1.f0) ∧ w'.cell? ⟨g1, j * 6 + 1, none⟩ = some (.string o.1.f1) ∧ w'.cell? ⟨g1, j * 6 + 2, none⟩ = some (.string o.1.f2) ∧ w'.cell? ⟨n3, 0, none⟩ = some (.int .i64 t.f0) ∧ w'.cell? ⟨n3, 1, none⟩ = some (.string t.f1) ∧ w'.cell? ⟨n3, 2, none⟩ = some (.string t.f2)) (ds := []) #[false, false, false, false, false, false, false, false, false, false] (by kernel_rfl) rfl rfl ⟨(blk_cell (HS.out.blk 2 rfl) 1).trans rfl, ((HS.out.rowX 4 rfl).q HO.out).1, ((HS.out.rowX 4 rfl).q HO.out).2.1, ((HS.out.rowX 4 rfl).q HO.out).2.2.1, (blk_cell (HS.out.blk 1 rfl) 0).trans rfl, (blk_cell (HS.out.blk 1 rfl) 1).trans rfl, (blk_cell (HS.out.blk 1 rfl) 2).trans rfl⟩ (fun hHeld => ?_)
           have HS61 := Aside0.mk (HS.out.drew)
           clear HS
           generalize wr.drew = wd at HS61 hHeld  ⊢
           refine pu_ 0 48 (bs_ 10 1) ?_; refine pu_ 1 49 (bs_ 10 3) ?_; refine pu_ 2 50 (bs_ 10 7) ?_; refine pu_ 4 52 (bs_ 10 23) ?_; refine ta_ 3 51 (bs_ 10 31) hHeld ?_; refine pu_ 5 53 (bs_ 10 63) ?_; refine pu_ 6 54 (bs_ 10 127) ?_; refine ta_ 7 55 (bs_ 10 255) hHeld ?_; refine ta_ 8 56 (bs_ 10 511) hHeld ?_; refine pu_ 9 57 (bs_ 10 1023) ?_
           refine done_ (by kernel_rfl) ?_
           clear hHeld c0 pl
           have HST := Aside0.mk HS61.out
           rw [← part_off (t := t) (b := true) HO.out (by rw [eqD_dec] at he; exact of_decide_eq_false he)] at HST HNA
           go_wp2
           go_roundg gq
           case measure => omega
           case rel => exact ⟨j + 1, na, c, A, by go_num, rfl, by omega, HNA, HST⟩
         | true =>
           refine start_ (n := 10) (S := fun w' => w'.cell? ⟨rp, 1, none⟩ = some (.slice (some ⟨g1, 0, none⟩) nw cw) ∧ w'.cell? ⟨g1, j * 6, none⟩ = some (.int .i64 o.1.f0) ∧ w'.cell? ⟨g1, j * 6 + 1, none⟩ = some (.string o.1.f1) ∧ w'.cell? ⟨g1, j * 6 + 2, none⟩ = some (.string o.1.f2) ∧ w'.cell? ⟨n3, 0, none⟩ = some (.int .i64 t.f0) ∧ w'.cell? ⟨n3, 1, none⟩ = some (.string t.f1) ∧ w'.cell? ⟨n3, 2, none⟩ = some (.string t.f2)) (ds := []) #[false, false, false, false, false, false, false, false, false, false] (by kernel_rfl) rfl rfl ⟨(blk_cell (HS.out.blk 2 rfl) 1).trans rfl, ((HS.out.rowX 4 rfl).q HO.out).1, ((HS.out.rowX 4 rfl).q HO.out).2.1, ((HS.out.rowX 4 rfl).q HO.out).2.2.1, (blk_cell (HS.out.blk 1 rfl) 0).trans rfl, (blk_cell (HS.out.blk 1 rfl) 1).trans rfl, (blk_cell (HS.out.blk 1 rfl) 2).trans rfl⟩ (fun hHeld => ?_)
           have HS71 := Aside0.mk (HS.out.drew)
           clear HS
           generalize wr.drew = wd at HS71 hHeld  ⊢
           refine pu_ 0 48 (bs_ 10 1) ?_; refine pu_ 1 49 (bs_ 10 3) ?_; refine pu_ 2 50 (bs_ 10 7) ?_; refine pu_ 4 52 (bs_ 10 23) ?_; refine ta_ 3 51 (bs_ 10 31) hHeld ?_; refine pu_ 5 53 (bs_ 10 63) ?_; refine pu_ 6 54 (bs_ 10 127) ?_; refine ta_ 7 55 (bs_ 10 255) hHeld ?_; refine ta_ 8 56 (bs_ 10 511) hHeld ?_; refine pu_ 9 57 (bs_ 10 1023) ?_
           refine done_ (by kernel_rfl) ?_
           clear hHeld c0 pl
           have c0 : wd.cell? ⟨rp, 1, none⟩ = some (.slice (some ⟨g1, 0, none⟩) nw cw) := (blk_cell (HS71.out.blk 2 rfl) 1).trans rfl
           have pl := lt_of_some (HS71.out.blk 2 rfl)
           obtain ⟨d0, d1, d2, d3, d4, d5⟩ := (HS71.out.rowX 4 rfl).q HO.out
           have HAB := Aside0.mk (show na < 999999 by have h1 := HNA.out; have h2 := HN.out; have h3 := heldL_le t r.holds j false; have h4 := heldL_le t r.holds i false; have h5 := heldL_le t r.waits j true; have h6 := heldL_le' t r.holds false; have h7 := HNH.out; have h8 := HNW.out; rw [List.length_append] at h1; omega)
           go_wp2_with (at_builtin; have HSE := Aside0.mk (HS71.out.below ((Below.refl _ wd).alloc (Nat.le_refl _) (.cells #[.int .i64 o.2.1, .int .i64 o.2.2, .bool true] 75))); obtain ⟨g9, c9, w9, hrun, hrow, hgrow, hown⟩ := appendX heldI (v := .slice A na c) ⟨o.2.1, o.2.2, true⟩ wd.heap.size #[.int .i64 o.2.1, .int .i64 o.2.2, .bool true] 46 (HSE.out.rowX 0 rfl) (heap_alloc_new wd _) rfl (by rw [HNA.out]; exact HAB.out); have HSF := Aside0.mk (HSE.out.rowTo 0 rfl hrow hgrow hown); refine wpList_append_run rfl (.tmp 58) (.tmp 67) 46 46 rfl _ _ rfl rfl hrun ?_; clear hrun hrow hgrow hown HSE; rw [HNA.out] at HSF ⊢)
           go_roundg gq
           case measure => omega
           case rel =>
             have e := part_on (t := t) (b := true) HO.out (by rw [eqD_dec] at he; exact of_decide_eq_true he)
             refine ⟨j + 1, na + 1, c9, some ⟨g9, 0, none⟩, by go_num, rfl, by omega, Aside0.mk ?_, Aside0.mk ?_⟩
             · rw [e]
               have := HNA.out
               simp only [List.length_append, List.length_singleton] at this ⊢
               omega
             · rw [e, ← List.append_assoc]
               exact HSF.out
   | succ gq =>
     have hin : (i : Int) < (nh : Int) := by omega
     have hi0 : (0 : Int) ≤ (i : Int) := by omega
     have hi9 : (i : Int) ≤ 1000000 := by have := HN.out; have := HNH.out; omega
     obtain ⟨o, ho⟩ : ∃ o, r.holds[i]? = some o := ⟨_, List.getElem?_eq_getElem (by rw [HNH.out]; omega)⟩
     obtain ⟨g1, c1, hv, _⟩ := row_slice (n := (r.holds.map (qv false)).length) (HS.out.rowX 3 rfl) (by rw [List.length_map, HNH.out]; omega)
     obtain ⟨rfl, rfl⟩ : Ah = some ⟨g1, 0, none⟩ ∧ ch = c1 := by
       injection hv with e1 e2 e3
       exact ⟨e1, e3⟩
     have HO := Aside0.mk ho
     clear hv ho
     go_wp2
     cases he : eqD ⟨o.1.f0, o.1.f1, o.1.f2⟩ ⟨t.f0, t.f1, t.f2⟩ with
     | false =>
       refine start_ (n := 10) (S := fun w' => w'.cell? ⟨rp, 0, none⟩ = some (.slice (some ⟨g1, 0, none⟩) nh ch) ∧ w'.cell? ⟨g1, i * 6, none⟩ = some (.int .i64 o.1.f0) ∧ w'.cell? ⟨g1, i * 6 + 1, none⟩ = some (.string o.1.f1) ∧ w'.cell? ⟨g1, i * 6 + 2, none⟩ = some (.string o.1.f2) ∧ w'.cell? ⟨n3, 0, none⟩ = some (.int .i64 t.f0) ∧ w'.cell? ⟨n3, 1, none⟩ = some (.string t.f1) ∧ w'.cell? ⟨n3, 2, none⟩ = some (.string t.f2)) (ds := []) #[false, false, false, false, false, false, false, false, false, false] (by kernel_rfl) rfl rfl ⟨(blk_cell (HS.out.blk 2 rfl) 0).trans rfl, ((HS.out.rowX 3 rfl).q HO.out).1, ((HS.out.rowX 3 rfl).q HO.out).2.1, ((HS.out.rowX 3 rfl).q HO.out).2.2.1, (blk_cell (HS.out.blk 1 rfl) 0).trans rfl, (blk_cell (HS.out.blk 1 rfl) 1).trans rfl, (blk_cell (HS.out.blk 1 rfl) 2).trans rfl⟩ (fun hHeld => ?_)
       have HS11 := Aside0.mk (HS.out.drew)
       clear HS
       generalize wr.drew = wd at HS11 hHeld  ⊢
       refine pu_ 0 18 (bs_ 10 1) ?_; refine pu_ 1 19 (bs_ 10 3) ?_; refine pu_ 2 20 (bs_ 10 7) ?_; refine pu_ 4 22 (bs_ 10 23) ?_; refine ta_ 3 21 (bs_ 10 31) hHeld ?_; refine pu_ 5 23 (bs_ 10 63) ?_; refine pu_ 6 24 (bs_ 10 127) ?_; refine ta_ 7 25 (bs_ 10 255) hHeld ?_; refine ta_ 8 26 (bs_ 10 511) hHeld ?_; refine pu_ 9 27 (bs_ 10 1023) ?_
       refine done_ (by kernel_rfl) ?_
       clear hHeld c0 pl
       have HST := Aside0.mk HS11.out
       rw [← part_off (t := t) (b := false) HO.out (by rw [eqD_dec] at he; exact of_decide_eq_false he)] at HST HNA
       go_wp2
       go_roundg gq
       case measure => omega
       case rel => exact ⟨i + 1, na, c, A, by go_num, rfl, by omega, HNA, HST⟩
     | true =>
       refine start_ (n := 10) (S := fun w' => w'.cell? ⟨rp, 0, none⟩ = some (.slice (some ⟨g1, 0, none⟩) nh ch) ∧ w'.cell? ⟨g1, i * 6, none⟩ = some (.int .i64 o.1.f0) ∧ w'.cell? ⟨g1, i * 6 + 1, none⟩ = some (.string o.1.f1) ∧ w'.cell? ⟨g1, i * 6 + 2, none⟩ = some (.string o.1.f2) ∧ w'.cell? ⟨n3, 0, none⟩ = some (.int .i64 t.f0) ∧ w'.cell? ⟨n3, 1, none⟩ = some (.string t.f1) ∧ w'.cell? ⟨n3, 2, none⟩ = some (.string t.f2)) (ds := []) #[false, false, false, false, false, false, false, false, false, false] (by kernel_rfl) rfl rfl ⟨(blk_cell (HS.out.blk 2 rfl) 0).trans rfl, ((HS.out.rowX 3 rfl).q HO.out).1, ((HS.out.rowX 3 rfl).q HO.out).2.1, ((HS.out.rowX 3 rfl).q HO.out).2.2.1, (blk_cell (HS.out.blk 1 rfl) 0).trans rfl, (blk_cell (HS.out.blk 1 rfl) 1).trans rfl, (blk_cell (HS.out.blk 1 rfl) 2).trans rfl⟩ (fun hHeld => ?_)
       have HS21 := Aside0.mk (HS.out.drew)
       clear HS
       generalize wr.drew = wd at HS21 hHeld  ⊢
       refine pu_ 0 18 (bs_ 10 1) ?_; refine pu_ 1 19 (bs_ 10 3) ?_; refine pu_ 2 20 (bs_ 10 7) ?_; refine pu_ 4 22 (bs_ 10 23) ?_; refine ta_ 3 21 (bs_ 10 31) hHeld ?_; refine pu_ 5 23 (bs_ 10 63) ?_; refine pu_ 6 24 (bs_ 10 127) ?_; refine ta_ 7 25 (bs_ 10 255) hHeld ?_; refine ta_ 8 26 (bs_ 10 511) hHeld ?_; refine pu_ 9 27 (bs_ 10 1023) ?_
       refine done_ (by kernel_rfl) ?_
       clear hHeld c0 pl
       have c0 : wd.cell? ⟨rp, 0, none⟩ = some (.slice (some ⟨g1, 0, none⟩) nh ch) := (blk_cell (HS21.out.blk 2 rfl) 0).trans rfl
       have pl := lt_of_some (HS21.out.blk 2 rfl)
       obtain ⟨d0, d1, d2, d3, d4, d5⟩ := (HS21.out.rowX 3 rfl).q HO.out
       have HAB := Aside0.mk (show na < 999999 by have h1 := HNA.out; have h2 := HN.out; have h3 := heldL_le t r.holds i false; have h4 := heldL_le t r.holds nh false; have h5 := heldL_le t r.waits i true; have h6 := heldL_le' t r.holds false; have h7 := HNH.out; have h8 := HNW.out; skip; omega)
       go_wp2_with (at_builtin; have HSE := Aside0.mk (HS21.out.below ((Below.refl _ wd).alloc (Nat.le_refl _) (.cells #[.int .i64 o.2.1, .int .i64 o.2.2, .bool false] 75))); obtain ⟨g9, c9, w9, hrun, hrow, hgrow, hown⟩ := appendX heldI (v := .slice A na c) ⟨o.2.1, o.2.2, false⟩ wd.heap.size #[.int .i64 o.2.1, .int .i64 o.2.2, .bool false] 46 (HSE.out.rowX 0 rfl) (heap_alloc_new wd _) rfl (by rw [HNA.out]; exact HAB.out); have HSF := Aside0.mk (HSE.out.rowTo 0 rfl hrow hgrow hown); refine wpList_append_run rfl (.tmp 28) (.tmp 37) 46 46 rfl _ _ rfl rfl hrun ?_; clear hrun hrow hgrow hown HSE; rw [HNA.out] at HSF ⊢)
       go_roundg gq
       case measure => omega
       case rel =>
         have e := part_on (t := t) (b := false) HO.out (by rw [eqD_dec] at he; exact of_decide_eq_true he)
         refine ⟨i + 1, na + 1, c9, some ⟨g9, 0, none⟩, by go_num, rfl, by omega, Aside0.mk ?_, Aside0.mk ?_⟩
         · rw [e]
           have := HNA.out
           simp only [List.length_append, List.length_singleton] at this ⊢
           omega
         · rw [e]
           exact HSF.out
end
end Go.Proofs.Kb
end
section
namespace Go.Proofs.YtkcjcdkmdooofaaGreat.Q
open Go.RowKit Go.Proofs.YtkcjcdkmdooofaaGreatW.PrintWords Go.Proofs.YtkcjcdkmdooofaaGreatW.PrintLast Go.Proofs.YtkcjcdkmdooofaaGreatW.PrintMore
attribute [local go_sem] max2_int min2_int max_two min_two max_three min_three max_four min_four
def interlockref04_cmp.f (a0 : Int) (a1 : Int) : Option (Int) := if a0 < a1 then (some (-1)) else (if a0 > a1 then (some 1) else (some 0))
set_option maxHeartbeats 8000000 in
set_option maxRecDepth 100000 in
theorem interlockref04_cmp.calls (a0 : Int) (a1 : Int) (r : Int) (w : World) (h : interlockref04_cmp.f a0 a1 = some r) :
   Calls Tryz.prog 102 #[.int .i64 a0, .int .i64 a1] w fun e w' => e = .returned (.int .i64 r) ∧ Drawn0 w w' := by
 have H : (if a0 < a1 then (some (-1)) else (if a0 > a1 then (some 1) else (some 0))) = some r := h
 clear h
 by_cases c3 : a0 < a1
 · rw [if_pos c3] at H
   have c3b0 : decide (a0 < a1) = true := decide_eq_true c3
   clear c3
   obtain rfl := Option.some.inj H
   go_enter Tryz.func102, Tryz.ntmps102
   go_wp2
   go_ret
   exact ⟨by first | rfl | (simp; done) | (simp [*]; done), by repeat (first | exact Drawn0.refl _ | apply Drawn0.step)⟩
 · rw [if_neg c3] at H
   have c3b0 : decide (a0 < a1) = false := decide_eq_false c3
   clear c3
   by_cases c4 : a0 > a1
   · rw [if_pos c4] at H
     have c4b0 : decide (a1 < a0) = true := decide_eq_true c4
     clear c4
     obtain rfl := Option.some.inj H
     go_enter Tryz.func102, Tryz.ntmps102
     go_wp2
     go_ret
     exact ⟨by first | rfl | (simp; done) | (simp [*]; done), by repeat (first | exact Drawn0.refl _ | apply Drawn0.step)⟩
   · rw [if_neg c4] at H
     have c4b0 : decide (a1 < a0) = false := decide_eq_false c4
     clear c4
     obtain rfl := Option.some.inj H
     go_enter Tryz.func102, Tryz.ntmps102
     go_wp2
     go_ret
     exact ⟨by first | rfl | (simp; done) | (simp [*]; done), by repeat (first | exact Drawn0.refl _ | apply Drawn0.step)⟩
end Go.Proofs.YtkcjcdkmdooofaaGreat.Q
end
section
namespace Go.Proofs.YtkcjcdkmdooofaaGreat.Q
open Go.RowKit Go.Proofs.YtkcjcdkmdooofaaGreatW.PrintWords Go.Proofs.YtkcjcdkmdooofaaGreatW.PrintLast Go.Proofs.YtkcjcdkmdooofaaGreatW.PrintMore
attribute [local go_sem] max2_int min2_int max_two min_two max_three min_three max_four min_four
mutual
def interlockref04_Texts.l0 : Nat → ByteArray → ByteArray → Int → Option (Int)
 | 0, _, _, _ => none
 | k + 1, x0, x1, x5 => if x5 < (x0.size : Int) then (interlockref04_Texts.j1 k x0 x1 x5 (decide (x5 < (x1.size : Int)))) else (interlockref04_Texts.j1 k x0 x1 x5 false)
def interlockref04_Texts.j1 : Nat → ByteArray → ByteArray → Int → Bool → Option (Int)
 | 0, _, _, _, _ => none
 | k + 1, x0, x1, x5, x15 => if x15 = true then (if 0 ≤ x5 then (if x5 < (x0.size : Int) then (if x5 < (x1.size : Int) then (if (bt x0 x5) = (bt x1 x5) then (interlockref04_Texts.l0 k x0 x1 (wrap64 (x5 + 1))) else ((interlockref04_cmp.f (wrap64 (bt x0 x5)) (wrap64 (bt x1 x5))).bind fun t418 => (some t418))) else (none)) else (none)) else (none)) else ((interlockref04_cmp.f (x0.size : Int) (x1.size : Int)).bind fun t419 => (some t419))
end
def interlockref04_Texts.f (k : Nat) (a0 : ByteArray) (a1 : ByteArray) : Option (Int) := interlockref04_Texts.l0 k a0 a1 0
theorem interlockref04_Texts.mono_l : ∀ k, (∀ y0 y1 y2, LeO (interlockref04_Texts.l0 k y0 y1 y2) (interlockref04_Texts.l0 (k + 1) y0 y1 y2)) ∧ (∀ y0 y1 y2 y3, LeO (interlockref04_Texts.j1 k y0 y1 y2 y3) (interlockref04_Texts.j1 (k + 1) y0 y1 y2 y3))
 | 0 => ⟨fun _ _ _ r h => by simp [interlockref04_Texts.l0] at h, fun _ _ _ _ r h => by simp [interlockref04_Texts.j1] at h⟩
 | k + 1 => by
   obtain ⟨ih0, ih1⟩ := interlockref04_Texts.mono_l k
   refine ⟨?_, ?_⟩
   · intro y0 y1 y2
     unfold interlockref04_Texts.l0
     repeat' first
     | (with_reducible exact ih0 _ _ _)
     | (with_reducible exact ih1 _ _ _ _)
     | (with_reducible exact LeO.refl _)
     | (with_reducible exact LeO.none _)
     | (with_reducible refine LeO.ite ?_ ?_)
     | (with_reducible refine LeO.bind ?_ (fun _ => ?_))
     | exact ih0 _ _ _
     | exact ih1 _ _ _ _
     | exact LeO.none _
     | refine LeO.ite ?_ ?_
     | refine LeO.bind ?_ (fun _ => ?_)
   · intro y0 y1 y2 y3
     unfold interlockref04_Texts.j1
     repeat' first
     | (with_reducible exact ih0 _ _ _)
     | (with_reducible exact ih1 _ _ _ _)
     | (with_reducible exact LeO.refl _)
     | (with_reducible exact LeO.none _)
     | (with_reducible refine LeO.ite ?_ ?_)
     | (with_reducible refine LeO.bind ?_ (fun _ => ?_))
     | exact ih0 _ _ _
     | exact ih1 _ _ _ _
     | exact LeO.none _
     | refine LeO.ite ?_ ?_
     | refine LeO.bind ?_ (fun _ => ?_)
theorem interlockref04_Texts.mono : ∀ a0 a1 k, LeO (interlockref04_Texts.f k a0 a1) (interlockref04_Texts.f (k + 1) a0 a1) := by
 intro a0 a1 k
 obtain ⟨ih0, ih1⟩ := interlockref04_Texts.mono_l k
 unfold interlockref04_Texts.f
 repeat' first
     | (with_reducible exact ih0 _ _ _)
     | (with_reducible exact ih1 _ _ _ _)
     | (with_reducible exact LeO.refl _)
     | (with_reducible exact LeO.none _)
     | (with_reducible refine LeO.ite ?_ ?_)
     | (with_reducible refine LeO.bind ?_ (fun _ => ?_))
     | exact ih0 _ _ _
     | exact ih1 _ _ _ _
     | exact LeO.none _
     | refine LeO.ite ?_ ?_
     | refine LeO.bind ?_ (fun _ => ?_)
set_option maxHeartbeats 8000000 in
set_option maxRecDepth 100000 in
theorem interlockref04_Texts.calls (k : Nat) (a0 : ByteArray) (a1 : ByteArray) (r : Int) (w : World) (h : interlockref04_Texts.f k a0 a1 = some r) :
   Calls Tryz.prog 88 #[.string a0, .string a1] w fun e w' => e = .returned (.int .i64 r) ∧ Drawn0 w w' := by
 have H : (interlockref04_Texts.l0 k a0 a1 0) = some r := h
 clear h
 have H' := Aside0.mk H
 clear H
 go_enter Tryz.func88, Tryz.ntmps88
 go_wp2
 repeat (go_quiet (fail); try go_wp2)
 go_loopg [5] k (fun kq v5 w' => ∃ (x5_1 : Int), v5 = .int .i64 x5_1 ∧ Aside0 (interlockref04_Texts.l0 kq a0 a1 x5_1 = some r) ∧ Aside0 (kq ≤ k) ∧ Drawn0 w w')
 case atStart => exact ⟨(0), (by first | rfl | (simp; done) | (simp [*]; done)), H', ⟨Nat.le_refl _⟩, by repeat (first | exact Drawn0.refl _ | apply Drawn0.step)⟩
 case round =>
   clear H'
   try clear p2
   obtain ⟨x5_1, rfl, HA, HK1, ⟨m1, rfl⟩⟩ := hrel
   cases gk with
   | zero => exact absurd HA.out (by simp [interlockref04_Texts.l0])
   | succ k1 =>
     have H := HA.out
     clear HA
     simp only [interlockref04_Texts.l0] at H
     have HC3 := Aside0.mk H
     clear H
     go_upto_region 2 with (fail)
     repeat (go_quiet (fail); go_upto_region 2 with (fail))
     go_cut [15] (fun v15 wc => ∃ (kq : Nat) (x15_2 : Bool), v15 = .bool x15_2 ∧ Aside0 (interlockref04_Texts.j1 kq a0 a1 x5_1 x15_2 = some r) ∧ Aside0 (kq ≤ k1) ∧ Drawn0 w wc)
     case first =>
       have H := HC3.out
       clear HC3
       by_cases c4 : x5_1 < (a0.size : Int)
       · rw [if_pos c4] at H
         have c4b0 : decide (x5_1 < (a0.size : Int)) = true := decide_eq_true c4
         clear c4
         (first | rw [c4b0] | (simp only [i64_w, i32_w]; rw [c4b0]) | skip)
         have H' := Aside0.mk H
         clear H
         go_wp2
         repeat (go_quiet (fail); try go_wp2)
         go_meet
         case rel => exact ⟨_, (decide (x5_1 < (a1.size : Int))), (by first | rfl | (simp; done) | (simp [*]; done)), H', ⟨by have := HK1.out; first | omega | exact Nat.le_refl _⟩, by repeat (first | exact Drawn0.refl _ | apply Drawn0.step)⟩
       · rw [if_neg c4] at H
         have c4b0 : decide (x5_1 < (a0.size : Int)) = false := decide_eq_false c4
         clear c4
         (first | rw [c4b0] | (simp only [i64_w, i32_w]; rw [c4b0]) | skip)
         have H' := Aside0.mk H
         clear H
         go_wp2
         repeat (go_quiet (fail); try go_wp2)
         go_meet
         case rel => exact ⟨_, (false), (by first | rfl | (simp; done) | (simp [*]; done)), H', ⟨by have := HK1.out; first | omega | exact Nat.le_refl _⟩, by repeat (first | exact Drawn0.refl _ | apply Drawn0.step)⟩
     case rest =>
       clear HC3
       try clear p2
       try clear c4
       try clear c4b0
       try clear p2
       obtain ⟨kq, x15_2, rfl, HA, HJ2, ⟨mc2, rfl⟩⟩ := hcut
       cases kq with
       | zero => exact absurd HA.out (by simp [interlockref04_Texts.j1])
       | succ kj2 =>
         have H := HA.out
         clear HA
         simp only [interlockref04_Texts.j1] at H
         by_cases c5 : x15_2 = true
         · subst c5
           have H1 : (if 0 ≤ x5_1 then (if x5_1 < (a0.size : Int) then (if x5_1 < (a1.size : Int) then (if (bt a0 x5_1) = (bt a1 x5_1) then (interlockref04_Texts.l0 kj2 a0 a1 (wrap64 (x5_1 + 1))) else ((interlockref04_cmp.f (wrap64 (bt a0 x5_1)) (wrap64 (bt a1 x5_1))).bind fun t418 => (some t418))) else (none)) else (none)) else (none)) = some r := by rw [if_pos rfl] at H; exact H
           clear H
           have H := H1
           clear H1
           by_cases c6 : 0 ≤ x5_1
           · rw [if_pos c6] at H
             have c6b0 : decide (0 ≤ x5_1) = true := decide_eq_true c6
             clear c6
             by_cases c7 : x5_1 < (a0.size : Int)
             · rw [if_pos c7] at H
               have c7b0 : decide (x5_1 < (a0.size : Int)) = true := decide_eq_true c7
               clear c7
               by_cases c9 : x5_1 < (a1.size : Int)
               · rw [if_pos c9] at H
                 have c9b0 : decide (x5_1 < (a1.size : Int)) = true := decide_eq_true c9
                 clear c9
                 by_cases c11 : (bt a0 x5_1) = (bt a1 x5_1)
                 · rw [if_pos c11] at H
                   have c11b0 : ((bt a0 x5_1) == (bt a1 x5_1)) = true := beq_iff_eq.mpr c11
                   have c11b1 : ((bt a0 x5_1) != (bt a1 x5_1)) = false := bne_eq_false_iff_eq.mpr c11
                   clear c11
                   have H' := Aside0.mk H
                   clear H
                   have p8 : 0 ≤ (x5_1 : Int) := of_decide_eq_true (by first | (with_reducible assumption) | assumption)
                   have q8 : x5_1 < (a0.size : Int) := of_decide_eq_true (by first | (with_reducible assumption) | assumption)
                   have hx8 := bt_at a0 x5_1
                   replace p8 := eq_true p8
                   replace q8 := eq_true q8
                   have p10 : 0 ≤ (x5_1 : Int) := of_decide_eq_true (by first | (with_reducible assumption) | assumption)
                   have q10 : x5_1 < (a1.size : Int) := of_decide_eq_true (by first | (with_reducible assumption) | assumption)
                   have hx10 := bt_at a1 x5_1
                   replace p10 := eq_true p10
                   replace q10 := eq_true q10
                   go_wp2
                   repeat (go_quiet (fail); try go_wp2)
                   go_roundg kj2
                   case measure => have := HK1.out; have := HJ2.out; omega
                   case rel => exact ⟨(wrap64 (x5_1 + 1)), (by first | rfl | (simp; done) | (simp [*]; done)), H', ⟨by have := HK1.out; have := HJ2.out; omega⟩, by repeat (first | exact Drawn0.refl _ | apply Drawn0.step)⟩
                 · rw [if_neg c11] at H
                   have c11b0 : ((bt a0 x5_1) == (bt a1 x5_1)) = false := beq_eq_false_iff_ne.mpr c11
                   have c11b1 : ((bt a0 x5_1) != (bt a1 x5_1)) = true := bne_iff_ne.mpr c11
                   replace H := Option.bind_eq_some_iff.mp H
                   obtain ⟨t418, A140, H⟩ := H
                   replace H : (some t418) = some r := H
                   have A14 := Aside0.mk A140
                   clear A140
                   obtain rfl := Option.some.inj H
                   have p8 : 0 ≤ (x5_1 : Int) := of_decide_eq_true (by first | (with_reducible assumption) | assumption)
                   have q8 : x5_1 < (a0.size : Int) := of_decide_eq_true (by first | (with_reducible assumption) | assumption)
                   have hx8 := bt_at a0 x5_1
                   replace p8 := eq_true p8
                   replace q8 := eq_true q8
                   have p10 : 0 ≤ (x5_1 : Int) := of_decide_eq_true (by first | (with_reducible assumption) | assumption)
                   have q10 : x5_1 < (a1.size : Int) := of_decide_eq_true (by first | (with_reducible assumption) | assumption)
                   have hx10 := bt_at a1 x5_1
                   replace p10 := eq_true p10
                   replace q10 := eq_true q10
                   have p12 : 0 ≤ (x5_1 : Int) := of_decide_eq_true (by first | (with_reducible assumption) | assumption)
                   have q12 : x5_1 < (a0.size : Int) := of_decide_eq_true (by first | (with_reducible assumption) | assumption)
                   have hx12 := bt_at a0 x5_1
                   replace p12 := eq_true p12
                   replace q12 := eq_true q12
                   have p13 : 0 ≤ (x5_1 : Int) := of_decide_eq_true (by first | (with_reducible assumption) | assumption)
                   have q13 : x5_1 < (a1.size : Int) := of_decide_eq_true (by first | (with_reducible assumption) | assumption)
                   have hx13 := bt_at a1 x5_1
                   replace p13 := eq_true p13
                   replace q13 := eq_true q13
                   go_wp2_with (first | (go_at_call 102; (with_reducible refine (interlockref04_cmp.calls (wrap64 (bt a0 x5_1)) (wrap64 (bt a1 x5_1)) t418 _ A14.out).mono ?_); rintro e w' ⟨rfl, ⟨nd, rfl⟩⟩; (try first | exact ⟨rfl, _, World.drewN_drewN _ _ _⟩ | exact ⟨rfl, _, Eq.trans (World.drewN_drewN _ _ _) (congrArg (World.drewN _) (Nat.add_assoc _ _ _))⟩)))
                   repeat (go_quiet (first | (go_at_call 102; (with_reducible refine (interlockref04_cmp.calls (wrap64 (bt a0 x5_1)) (wrap64 (bt a1 x5_1)) t418 _ A14.out).mono ?_); rintro e w' ⟨rfl, ⟨nd, rfl⟩⟩; (try first | exact ⟨rfl, _, World.drewN_drewN _ _ _⟩ | exact ⟨rfl, _, Eq.trans (World.drewN_drewN _ _ _) (congrArg (World.drewN _) (Nat.add_assoc _ _ _))⟩))); try go_wp2_with (first | (go_at_call 102; (with_reducible refine (interlockref04_cmp.calls (wrap64 (bt a0 x5_1)) (wrap64 (bt a1 x5_1)) t418 _ A14.out).mono ?_); rintro e w' ⟨rfl, ⟨nd, rfl⟩⟩; (try first | exact ⟨rfl, _, World.drewN_drewN _ _ _⟩ | exact ⟨rfl, _, Eq.trans (World.drewN_drewN _ _ _) (congrArg (World.drewN _) (Nat.add_assoc _ _ _))⟩))))
                   go_ret
                   exact ⟨by first | rfl | (simp; done) | (simp [*]; done), by repeat (first | exact Drawn0.refl _ | apply Drawn0.step)⟩
               · rw [if_neg c9] at H
                 exact absurd H (by simp)
             · rw [if_neg c7] at H
               exact absurd H (by simp)
           · rw [if_neg c6] at H
             exact absurd H (by simp)
         · replace c5 := Bool.eq_false_iff.mpr c5
           subst c5
           have H1 : ((interlockref04_cmp.f (a0.size : Int) (a1.size : Int)).bind fun t419 => (some t419)) = some r := by rw [if_neg (show ¬ (false = true) by decide)] at H; exact H
           clear H
           have H := H1
           clear H1
           replace H := Option.bind_eq_some_iff.mp H
           obtain ⟨t419, A150, H⟩ := H
           replace H : (some t419) = some r := H
           have A15 := Aside0.mk A150
           clear A150
           obtain rfl := Option.some.inj H
           go_wp2_with (first | (go_at_call 102; (with_reducible refine (interlockref04_cmp.calls (a0.size : Int) (a1.size : Int) t419 _ A15.out).mono ?_); rintro e w' ⟨rfl, ⟨nd, rfl⟩⟩; (try first | exact ⟨rfl, _, World.drewN_drewN _ _ _⟩ | exact ⟨rfl, _, Eq.trans (World.drewN_drewN _ _ _) (congrArg (World.drewN _) (Nat.add_assoc _ _ _))⟩)))
           repeat (go_quiet (first | (go_at_call 102; (with_reducible refine (interlockref04_cmp.calls (a0.size : Int) (a1.size : Int) t419 _ A15.out).mono ?_); rintro e w' ⟨rfl, ⟨nd, rfl⟩⟩; (try first | exact ⟨rfl, _, World.drewN_drewN _ _ _⟩ | exact ⟨rfl, _, Eq.trans (World.drewN_drewN _ _ _) (congrArg (World.drewN _) (Nat.add_assoc _ _ _))⟩))); try go_wp2_with (first | (go_at_call 102; (with_reducible refine (interlockref04_cmp.calls (a0.size : Int) (a1.size : Int) t419 _ A15.out).mono ?_); rintro e w' ⟨rfl, ⟨nd, rfl⟩⟩; (try first | exact ⟨rfl, _, World.drewN_drewN _ _ _⟩ | exact ⟨rfl, _, Eq.trans (World.drewN_drewN _ _ _) (congrArg (World.drewN _) (Nat.add_assoc _ _ _))⟩))))
           go_ret
           exact ⟨by first | rfl | (simp; done) | (simp [*]; done), by repeat (first | exact Drawn0.refl _ | apply Drawn0.step)⟩
end Go.Proofs.YtkcjcdkmdooofaaGreat.Q
end
