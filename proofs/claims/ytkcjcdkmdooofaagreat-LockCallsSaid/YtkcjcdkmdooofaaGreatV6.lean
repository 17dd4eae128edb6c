/- Packed by shake.py: YtkcjcdkmdooofaaGreatRC3 YtkcjcdkmdooofaaGreatRC4 YtkcjcdkmdooofaaGreatRC5 -/
import Derived.Test.YtkcjcdkmdooofaaGreatV5
set_option linter.unusedVariables false
set_option linter.unusedSimpArgs false
set_option linter.unusedSectionVars false
section
namespace Go.Proofs.Kb
open Go Go.RowKit Go.Proofs.YtkcjcdkmdooofaaGreat.Q Go.Proofs.YtkcjcdkmdooofaaGreatW.PrintWords Go.Proofs.YtkcjcdkmdooofaaGreatW.PrintLast Go.Proofs.YtkcjcdkmdooofaaGreatW.PrintMore
set_option maxRecDepth 100000
open Go.Proofs.Lk Go.Proofs.Mp
def rwaitV (r : RS S32) (x : Int) : Value := match rwait r x with | none => .agg #[.int .i64 0, .string ⟨#[]⟩, .string ⟨#[]⟩, .int .i64 0] | some o => wantV o.1 o.2.2
section
variable {w0 w w' : World} {F : Nat → Prop} {rp : Nat} {r : RS S32} {R R' : List Chunk}
theorem RQ.mk' {Ah Aw : Option Addr} {nh ch nw cw : Nat} (h : St w0 F w (blkC rp (.cells #[.slice Ah nh ch, .slice Aw nw cw] 30 (0, 0)) :: rowXC qE (.slice Ah nh ch) (r.holds.map (qv false)) :: rowXC qE (.slice Aw nw cw) (r.waits.map (qv true)) :: R)) : RQ w0 F rp r R w := by
 have e1 : nh = r.holds.length := by
   obtain ⟨A, c, e⟩ := (h.rowX 1 rfl).form
   injection e with _ e _
   rw [e, List.length_map]
 have e2 : nw = r.waits.length := by
   obtain ⟨A, c, e⟩ := (h.rowX 2 rfl).form
   injection e with _ e _
   rw [e, List.length_map]
 subst e1 e2
 exact ⟨_, _, _, _, h⟩
set_option maxHeartbeats 8000000 in
theorem qwaiting_calls (h : RQ w0 F rp r R w) (x : Int) (hn : r.waits.length < 100000) :
   Calls Tryz.prog 15 #[.pointer (some ⟨rp, 0, none⟩), .int .i64 x] w fun E w' => E = .returned (.tuple #[rwaitV r x, .bool (rwait r x).isSome]) ∧ RQ w0 F rp r R w' := by
 obtain ⟨Q, hQ⟩ : ∃ Q, (fun E w' => E = Ending.returned (.tuple #[rwaitV r x, .bool (rwait r x).isSome]) ∧ RQ w0 F rp r R w') = Q := ⟨_, rfl⟩
 have HQ := Aside0.mk hQ
 rw [hQ]
 clear hQ
 have hu30 := Tryz.underlying30
 have hu28 := Tryz.underlying28
 have hu77 := Tryz.underlying77
 have hu75 := Tryz.underlying75
 have hu32 := Tryz.underlying32
 have hu34 := Tryz.underlying34
 have hz77 := Tryz.sizeOf77
 have hz32 := Tryz.sizeOf32
 have hz34 := Tryz.sizeOf34
 obtain ⟨n4, hn4⟩ : ∃ n, w.heap.size = n := ⟨_, rfl⟩
 obtain ⟨Ah, ch, Aw, cw, h0⟩ := h
 have h1 := h0.alloc #[.int .i64 0, .string ⟨#[]⟩, .string ⟨#[]⟩, .int .i64 0] 34 hn4
 obtain ⟨W8, hW8⟩ : ∃ W, w.alloc (.cells #[.int .i64 0, .string ⟨#[]⟩, .string ⟨#[]⟩, .int .i64 0] 34) = W := ⟨_, rfl⟩
 rw [hW8] at h1
 have h2 := h1.perm (B := blkC n4 (.cells #[.int .i64 0, .string ⟨#[]⟩, .string ⟨#[]⟩, .int .i64 0] 34 (0, 0)) :: blkC rp _ :: rowXC qE _ _ :: rowXC qE _ _ :: R) (List.perm_append_comm (l₂ := [_]))
 obtain ⟨n, hnn⟩ : ∃ n, r.waits.length = n := ⟨_, rfl⟩
 obtain ⟨nh, hnh⟩ : ∃ n, r.holds.length = n := ⟨_, rfl⟩
 have HNN := Aside0.mk hnn
 rw [hnn] at h2 hn
 rw [hnh] at h2
 have HS := Aside0.mk h2
 have c0 : W8.cell? ⟨rp, 1, none⟩ = some (.slice Aw n cw) := (blk_cell (h2.blk 1 rfl) 1).trans rfl
 have pl := lt_of_some (h2.blk 1 rfl)
 clear h0 h1 h2 hnn hnh
 go_enter Tryz.func15, Tryz.ntmps15
 go_wp2
 clear c0 pl
 go_loopg [6] n (fun gq v6 wx => ∃ i : Nat, v6 = .int .i64 i ∧ i + gq = n ∧ Aside0 ((r.waits.take i).find? (fun o => o.2.1 == x) = none) ∧ Aside0 (St w0 F wx (blkC n4 (.cells #[.int .i64 0, .string ⟨#[]⟩, .string ⟨#[]⟩, .int .i64 0] 34 (0, 0)) :: blkC rp (.cells #[.slice Ah nh ch, .slice Aw n cw] 30 (0, 0)) :: rowXC qE (.slice Ah nh ch) (r.holds.map (qv false)) :: rowXC qE (.slice Aw n cw) (r.waits.map (qv true)) :: R)))
 case atStart => exact ⟨0, rfl, by omega, Aside0.mk rfl, HS⟩
 case round =>
   clear HS
   obtain ⟨i, rfl, hi, HF, HS⟩ := hrel
   have c0 : wr.cell? ⟨rp, 1, none⟩ = some (.slice Aw n cw) := (blk_cell (HS.out.blk 1 rfl) 1).trans rfl
   have pl := lt_of_some (HS.out.blk 1 rfl)
   cases gk with
   | zero =>
     obtain rfl : i = n := by omega
     have hin : ¬ (i : Int) < (i : Int) := by omega
     have b0 := (blk_cell (HS.out.blk 0 rfl) 0).trans rfl
     have b1 := (blk_cell (HS.out.blk 0 rfl) 1).trans rfl
     have b2 := (blk_cell (HS.out.blk 0 rfl) 2).trans rfl
     have b3 := (blk_cell (HS.out.blk 0 rfl) 3).trans rfl
     have bf : ∀ j, wr.frozen? ⟨n4, j, none⟩ = false := fun j => frozen_of_row wr n4 j _ _ (HS.out.blk 0 rfl)
     have bl4 := lt_of_some (HS.out.blk 0 rfl)
     go_wp2
     obtain ⟨W9, hW9⟩ : ∃ W9, puts wr n4 0 [.int .i64 0, .string ⟨#[]⟩, .string ⟨#[]⟩, .int .i64 0] = W9 := ⟨_, rfl⟩
     have h9 := HS.out.putAll 0 rfl [.int .i64 0, .string ⟨#[]⟩, .string ⟨#[]⟩, .int .i64 0] rfl
     show bodyPost _ _ _ _ _ (puts wr n4 0 [.int .i64 0, .string ⟨#[]⟩, .string ⟨#[]⟩, .int .i64 0])
     rw [hW9] at h9 ⊢
     have p0 := (blk_cell (h9.blk 0 rfl) 0).trans rfl
     have p1 := (blk_cell (h9.blk 0 rfl) 1).trans rfl
     have p2 := (blk_cell (h9.blk 0 rfl) 2).trans rfl
     have p3 := (blk_cell (h9.blk 0 rfl) 3).trans rfl
     have hm : rwait r x = none := by
       have h := HF.out
       rw [List.take_of_length_le (by rw [HNN.out]; exact Nat.le_refl _)] at h
       exact h
     have hfin : Q (.returned (.tuple #[.agg #[.int .i64 0, .string ⟨#[]⟩, .string ⟨#[]⟩, .int .i64 0], .bool false])) W9 := by
       rw [← HQ.out]
       exact ⟨by unfold rwaitV; rw [hm]; rfl, RQ.mk' (St.drop (A := [_]) h9)⟩
     clear c0 b0 b1 b2 b3 bf bl4 hW9
     refine bodyPost_ret (v := .tuple #[.agg #[.int .i64 0, .string ⟨#[]⟩, .string ⟨#[]⟩, .int .i64 0], .bool false]) ?_ rfl hfin
     rw [results_cell_tmp rfl]
     go_simp
     try rfl
   | succ gq =>
     have hin : (i : Int) < (n : Int) := by omega
     have hi0 : (0 : Int) ≤ (i : Int) := by omega
     have hi9 : (i : Int) ≤ 1000000 := by omega
     obtain ⟨o, ho⟩ : ∃ o, r.waits[i]? = some o := ⟨_, List.getElem?_eq_getElem (by rw [HNN.out]; omega)⟩
     obtain ⟨g1, c1, hv, _⟩ := row_slice (n := (r.waits.map (qv true)).length) (HS.out.rowX 3 rfl) (by rw [List.length_map, HNN.out]; omega)
     obtain ⟨rfl, rfl⟩ : Aw = some ⟨g1, 0, none⟩ ∧ cw = c1 := by
       injection hv with e1 e2 e3
       exact ⟨e1, e3⟩
     have HO := Aside0.mk ho
     clear hv ho
     obtain ⟨d0, d1, d2, d3, d4, d5⟩ := (HS.out.rowX 3 rfl).q HO.out
     have dl := World.block_lt_of_cell? wr _ d0
     cases hx : (o.2.1 == x) with
     | false =>
       go_wp2
       go_roundg gq
       case measure => omega
       case rel => exact ⟨i + 1, by go_num, by omega, Aside0.mk (find_snoc HO.out HF.out hx), HS⟩
     | true =>
       go_wp2
       refine start_ (n := 20) (S := fun w' => w'.cell? ⟨rp, 1, none⟩ = some (.slice (some ⟨g1, 0, none⟩) n cw) ∧ w'.cell? ⟨g1, i * 6, none⟩ = some (.int .i64 o.1.f0) ∧ w'.cell? ⟨g1, i * 6 + 1, none⟩ = some (.string o.1.f1) ∧ w'.cell? ⟨g1, i * 6 + 2, none⟩ = some (.string o.1.f2) ∧ w'.cell? ⟨g1, i * 6 + 3, none⟩ = some (.int .i64 o.2.1) ∧ w'.cell? ⟨g1, i * 6 + 4, none⟩ = some (.int .i64 o.2.2)) (ds := [18]) #[false, false, false, false, false, false, false, false, false, false, false, false, false, false, false, false, false, false, false, false] (by kernel_rfl) rfl rfl ⟨(blk_cell (HS.out.blk 1 rfl) 1).trans rfl, ((HS.out.rowX 3 rfl).q HO.out).1, ((HS.out.rowX 3 rfl).q HO.out).2.1, ((HS.out.rowX 3 rfl).q HO.out).2.2.1, ((HS.out.rowX 3 rfl).q HO.out).2.2.2.1, ((HS.out.rowX 3 rfl).q HO.out).2.2.2.2.1⟩ (fun hHeld => ?_)
       have HS1 := Aside0.mk (HS.out.drew)
       clear HS
       generalize wr.drew = w3 at HS1 hHeld  ⊢
       refine pu_ 0 27 (bs_ 20 1) ?_; refine pu_ 1 28 (bs_ 20 3) ?_; refine pu_ 2 29 (bs_ 20 7) ?_; refine pu_ 4 31 (bs_ 20 23) ?_; refine pu_ 8 35 (bs_ 20 279) ?_; refine pu_ 9 36 (bs_ 20 791) ?_; refine pu_ 10 37 (bs_ 20 1815) ?_; refine pu_ 12 39 (bs_ 20 5911) ?_; refine ta_ 3 30 (bs_ 20 5919) hHeld ?_; refine pu_ 5 32 (bs_ 20 5951) ?_; refine pu_ 6 33 (bs_ 20 6015) ?_; refine ta_ 7 34 (bs_ 20 6143) hHeld ?_; refine ta_ 11 38 (bs_ 20 8191) hHeld ?_; refine pu_ 13 40 (bs_ 20 16383) ?_; refine pu_ 14 41 (bs_ 20 32767) ?_; refine pu_ 15 42 (bs_ 20 65535) ?_; refine ta_ 16 43 (bs_ 20 131071) hHeld ?_
       refine pu_ 17 44 (bs_ 20 262143) ?_
       refine last_ (i := 18) (N := none) (bs_ 20 524287) rfl rfl (by kernel_rfl) (by decide) (fun K_ hK => ?_)
       have c_0 := (blk_cell (HS1.out.blk 0 rfl) 0).trans rfl
       have c_1 := (blk_cell (HS1.out.blk 0 rfl) 1).trans rfl
       have c_2 := (blk_cell (HS1.out.blk 0 rfl) 2).trans rfl
       have c_3 := (blk_cell (HS1.out.blk 0 rfl) 3).trans rfl
       have c_4 := (fun j => frozen_of_row _ n4 j _ _ (HS1.out.blk 0 rfl))
       refine skip_ (w1 := ?_) (by rfl) rfl ?_ ?_
       rotate_left
       · go_simp
         rfl
       refine hK.out _ _ ?_
       clear hK K_ hHeld c_0 c_1 c_2 c_3 c_4
       refine pu_ 19 5 (bs_ 20 1048575) ?_
       refine done_ (by kernel_rfl) ?_
       have HS2 := Aside0.mk (show St w0 F ((((w3.setCell ⟨n4, 0, none⟩ (.int .i64 o.1.f0)).setCell ⟨n4, 1, none⟩ (.string o.1.f1)).setCell ⟨n4, 2, none⟩ (.string o.1.f2)).setCell ⟨n4, 3, none⟩ (.int .i64 o.2.2)) (blkC n4 (.cells #[.int .i64 o.1.f0, .string o.1.f1, .string o.1.f2, .int .i64 o.2.2] 34 (0, 0)) :: blkC rp (.cells #[.slice Ah nh ch, .slice (some ⟨g1, 0, none⟩) n cw] 30 (0, 0)) :: rowXC qE (.slice Ah nh ch) (r.holds.map (qv false)) :: rowXC qE (.slice (some ⟨g1, 0, none⟩) n cw) (r.waits.map (qv true)) :: R) from HS1.out.putAll 0 rfl [.int .i64 o.1.f0, .string o.1.f1, .string o.1.f2, .int .i64 o.2.2] rfl)
       clear HS1
       generalize hW9_ : ((((w3.setCell ⟨n4, 0, none⟩ (.int .i64 o.1.f0)).setCell ⟨n4, 1, none⟩ (.string o.1.f1)).setCell ⟨n4, 2, none⟩ (.string o.1.f2)).setCell ⟨n4, 3, none⟩ (.int .i64 o.2.2)) = w5 at HS2 ⊢
       clear hW9_
       go_wp2
       have p0 := (blk_cell (HS2.out.blk 0 rfl) 0).trans rfl
       have p1 := (blk_cell (HS2.out.blk 0 rfl) 1).trans rfl
       have p2 := (blk_cell (HS2.out.blk 0 rfl) 2).trans rfl
       have p3 := (blk_cell (HS2.out.blk 0 rfl) 3).trans rfl
       have hm : rwait r x = some o := find_here HO.out HF.out hx
       have hfin : Q (.returned (.tuple #[.agg #[.int .i64 o.1.f0, .string o.1.f1, .string o.1.f2, .int .i64 o.2.2], .bool true])) w5 := by
         rw [← HQ.out]
         exact ⟨by unfold rwaitV; rw [hm]; rfl, RQ.mk' (St.drop (A := [_]) HS2.out)⟩
       refine bodyPost_ret (v := .tuple #[.agg #[.int .i64 o.1.f0, .string o.1.f1, .string o.1.f2, .int .i64 o.2.2], .bool true]) ?_ rfl hfin
       rw [results_cell_tmp rfl]
       go_simp
       try rfl
end
end Go.Proofs.Kb
end
section
namespace Go.Proofs.Kb
open Go Go.RowKit Go.Proofs.YtkcjcdkmdooofaaGreat.Q Go.Proofs.YtkcjcdkmdooofaaGreatW.PrintWords Go.Proofs.YtkcjcdkmdooofaaGreatW.PrintLast Go.Proofs.YtkcjcdkmdooofaaGreatW.PrintMore
set_option maxRecDepth 100000
open Go.Proofs.Lk Go.Proofs.Mp
attribute [local go_sem high] eqT
section
variable {α : Type} {E : EncT α}
theorem EncT.all_set1 {l : List α} {i j : Nat} {x y : α} {v : Value} (hy : l[i]? = some y) (hj : j < E.sz) (hx : E.enc x = (E.enc y).set j v) : (E.all l).set (i * E.sz + j) v = E.all (l.set i x) := by
 obtain ⟨A, B, e1, e2, e3⟩ := set_split x hy
 rw [e2, e1, E.all_app, E.all_app, E.all_cons, E.all_cons, hx, List.set_append_right _ _ (by rw [E.all_len, e3]; omega), List.set_append_left _ _ (by rw [E.all_len, e3, E.len]; omega), E.all_len, e3, Nat.add_sub_cancel_left]
theorem RowX.put1 {w : World} {l : List α} {g n c i j : Nat} {x y : α} {v : Value} (hr : RowX E w (.slice (some ⟨g, 0, none⟩) n c) l) (hy : l[i]? = some y) (hj : j < E.sz) (hx : E.enc x = (E.enc y).set j v) : RowX E (w.setCell ⟨g, i * E.sz + j, none⟩ v) (.slice (some ⟨g, 0, none⟩) n c) (l.set i x) := by
 obtain ⟨h0, h1, h2⟩ := hr
 rcases h2 with ⟨h2, _⟩ | ⟨g', cap, cur, hv, hg, hn, hm, hs, ht⟩
 · simp at h2
 · simp at hv
   obtain ⟨rfl, rfl, rfl⟩ := hv
   obtain ⟨C', h3, h4⟩ := puts_heap [v] (i * E.sz + j) w g _ _ hg
   have hsz : C'.size = cur.size := by
     have := congrArg List.length h4
     rw [setL_len] at this
     simpa using this
   refine ⟨E.all_len _, E.all_one _, .inr ⟨g, c, C', by rw [List.length_set], h3, by rw [List.length_set]; exact hn, hm, by rw [hsz]; exact hs, ?_⟩⟩
   rw [h4, setL_take, List.length_set, ht]
   exact EncT.all_set1 hy hj hx
theorem St.putX1 {w0 w : World} {F : Nat → Prop} {cs : List Chunk} {l : List α} {g n c i j k : Nat} {x y : α} {v : Value} (s : St w0 F w cs) (hk : cs[k]? = some (rowXC E (.slice (some ⟨g, 0, Option.none⟩) n c) l)) (hy : l[i]? = some y) (hj : j < E.sz) (hx : E.enc x = (E.enc y).set j v) :
   St w0 F (w.setCell ⟨g, i * E.sz + j, none⟩ v) (cs.set k (rowXC E (.slice (some ⟨g, 0, Option.none⟩) n c) (l.set i x))) :=
 s.rowTo k hk ((s.rowX k hk).put1 hy hj hx) (puts_grown [v] _ _ _) (.inl rfl)
end
theorem snoc4 {α : Type} (a b c d : α) (R : List α) (x : α) : (a :: b :: c :: d :: (R ++ [x]))[R.length + 4]? = some x := by simp
def mtch (x : Int) (t : S32) (o : S32 × One) : Bool := decide (o.1 = t) && o.2.1 == x
theorem rgive_set {t : S32} {x m : Int} : ∀ {l : List (S32 × One)} {i : Nat} {o : S32 × One}, l[i]? = some o → (l.take i).find? (mtch x t) = none → mtch x t o = true → rgiveL t (x, m) l = l.set i (t, (x, m))
 | [], i, o, h, _, _ => by simp at h
 | p :: l, 0, o, h, _, ho => by
   injection h with h
   subst h
   unfold mtch at ho
   rw [Bool.and_eq_true] at ho
   rw [rgiveL, if_pos ⟨of_decide_eq_true ho.1, eq_of_beq ho.2⟩]
   rfl
 | p :: l, i + 1, o, h, hf, ho => by
   rw [List.take_succ_cons, List.find?_cons] at hf
   cases hp : mtch x t p with
   | true => rw [hp] at hf; cases hf
   | false =>
     rw [hp] at hf
     unfold mtch at hp
     rw [rgiveL, if_neg (fun e => by rw [e.1, e.2] at hp; simp at hp), rgive_set (l := l) (i := i) (o := o) (by simpa using h) hf ho]
     rfl
theorem rgive_new {t : S32} {x m : Int} : ∀ {l : List (S32 × One)}, l.find? (mtch x t) = none → rgiveL t (x, m) l = l ++ [(t, (x, m))]
 | [], _ => rfl
 | p :: l, hf => by
   rw [List.find?_cons] at hf
   cases hp : mtch x t p with
   | true => rw [hp] at hf; cases hf
   | false =>
     rw [hp] at hf
     unfold mtch at hp
     rw [rgiveL, if_neg (fun e => by rw [e.1, e.2] at hp; simp at hp), rgive_new hf]
     rfl
section
variable {w0 w w' : World} {F : Nat → Prop} {rp : Nat} {r : RS S32} {R R' : List Chunk}
set_option maxHeartbeats 16000000 in
theorem qgive_calls (h : RQ w0 F rp r R w) (x : Int) (t : S32) (m : Int) (hn : r.holds.length < 100000) :
   Calls Tryz.prog 41 #[.pointer (some ⟨rp, 0, none⟩), .int .i64 x, wantV t m] w fun E w' => E = .returned (.tuple #[]) ∧ RQ w0 F rp ⟨rgiveL t (x, m) r.holds, r.waits⟩ R w' := by
 obtain ⟨Q, hQ⟩ : ∃ Q, (fun E w' => E = Ending.returned (.tuple #[]) ∧ RQ w0 F rp ⟨rgiveL t (x, m) r.holds, r.waits⟩ R w') = Q := ⟨_, rfl⟩
 have HQ := Aside0.mk hQ
 rw [hQ]
 clear hQ
 have hu30 := Tryz.underlying30
 have hu28 := Tryz.underlying28
 have hu77 := Tryz.underlying77
 have hu75 := Tryz.underlying75
 have hu32 := Tryz.underlying32
 have hu34 := Tryz.underlying34
 have hz77 := Tryz.sizeOf77
 obtain ⟨n8, hn8⟩ : ∃ n, w.heap.size = n := ⟨_, rfl⟩
 obtain ⟨Ah, ch, Aw, cw, h0⟩ := h
 have h1 := h0.alloc #[.int .i64 t.f0, .string t.f1, .string t.f2, .int .i64 m] 34 hn8
 obtain ⟨W8, hW8⟩ : ∃ W, w.alloc (.cells #[.int .i64 t.f0, .string t.f1, .string t.f2, .int .i64 m] 34) = W := ⟨_, rfl⟩
 rw [hW8] at h1
 have h2 := h1.perm (B := blkC n8 (.cells #[.int .i64 t.f0, .string t.f1, .string t.f2, .int .i64 m] 34 (0, 0)) :: blkC rp _ :: rowXC qE _ _ :: rowXC qE _ _ :: R) (List.perm_append_comm (l₂ := [_]))
 obtain ⟨n, hnn⟩ : ∃ n, r.holds.length = n := ⟨_, rfl⟩
 obtain ⟨nw, hnnw⟩ : ∃ n, r.waits.length = n := ⟨_, rfl⟩
 have HNN := Aside0.mk hnn
 rw [hnn] at h2 hn
 rw [hnnw] at h2
 have HS := Aside0.mk h2
 have c0 : W8.cell? ⟨rp, 0, none⟩ = some (.slice Ah n ch) := (blk_cell (h2.blk 1 rfl) 0).trans rfl
 have pl := lt_of_some (h2.blk 1 rfl)
 clear h0 h1 h2 hnn hnnw
 unfold wantV
 go_enter Tryz.func41, Tryz.ntmps41
 go_wp2
 clear c0 pl
 go_loopg [6] n (fun gq v6 wx => ∃ i : Nat, v6 = .int .i64 i ∧ i + gq = n ∧ Aside0 ((r.holds.take i).find? (mtch x t) = none) ∧ Aside0 (St w0 F wx (blkC n8 (.cells #[.int .i64 t.f0, .string t.f1, .string t.f2, .int .i64 m] 34 (0, 0)) :: blkC rp (.cells #[.slice Ah n ch, .slice Aw nw cw] 30 (0, 0)) :: rowXC qE (.slice Ah n ch) (r.holds.map (qv false)) :: rowXC qE (.slice Aw nw cw) (r.waits.map (qv true)) :: R)))
 case atStart => exact ⟨0, rfl, by omega, Aside0.mk rfl, HS⟩
 case round =>
   clear HS
   obtain ⟨i, rfl, hi, HF, HS⟩ := hrel
   have c0 : wr.cell? ⟨rp, 0, none⟩ = some (.slice Ah n ch) := (blk_cell (HS.out.blk 1 rfl) 0).trans rfl
   have pl := lt_of_some (HS.out.blk 1 rfl)
   cases gk with
   | zero =>
     obtain rfl : i = n := by omega
     have hin : ¬ (i : Int) < (i : Int) := by omega
     have hm : rgiveL t (x, m) r.holds = r.holds ++ [(t, (x, m))] := rgive_new (by
       have h := HF.out
       rwa [List.take_of_length_le (by rw [HNN.out]; exact Nat.le_refl _)] at h)
     have HM := Aside0.mk hm
     have HLN : Aside0 ((r.holds.map (qv false)).length < 999999) := Aside0.mk (by rw [List.length_map, HNN.out]; omega)
     clear hm HF
     go_wp2
     refine start_ (n := 17) (S := fun w' => w'.cell? ⟨rp, 0, none⟩ = some (.slice Ah i ch) ∧ w'.cell? ⟨n8, 0, none⟩ = some (.int .i64 t.f0) ∧ w'.cell? ⟨n8, 1, none⟩ = some (.string t.f1) ∧ w'.cell? ⟨n8, 2, none⟩ = some (.string t.f2) ∧ w'.cell? ⟨n8, 3, none⟩ = some (.int .i64 m)) (ds := [16]) #[false, false, false, false, false, false, false, false, false, false, false, false, false, false, false, false, false] (by kernel_rfl) rfl rfl ⟨(blk_cell (HS.out.blk 1 rfl) 0).trans rfl, (blk_cell (HS.out.blk 0 rfl) 0).trans rfl, (blk_cell (HS.out.blk 0 rfl) 1).trans rfl, (blk_cell (HS.out.blk 0 rfl) 2).trans rfl, (blk_cell (HS.out.blk 0 rfl) 3).trans rfl⟩ (fun hHeld => ?_)
     have HS71 := Aside0.mk (HS.out.drew)
     clear HS
     generalize wr.drew = w3 at HS71 hHeld  ⊢
     refine pu_ 0 50 (bs_ 17 1) ?_; refine pu_ 1 51 (bs_ 17 3) ?_; refine pu_ 2 52 (bs_ 17 7) ?_; refine pu_ 3 53 (bs_ 17 15) ?_; refine pu_ 5 55 (bs_ 17 47) ?_; refine pu_ 7 57 (bs_ 17 175) ?_; refine pu_ 8 58 (bs_ 17 431) ?_; refine ta_ 4 54 (bs_ 17 447) hHeld ?_; refine ta_ 6 56 (bs_ 17 511) hHeld ?_; refine ta_ 9 59 (bs_ 17 1023) hHeld ?_; refine pu_ 10 60 (bs_ 17 2047) ?_; refine pu_ 11 61 (bs_ 17 4095) ?_
     refine one_ (i := 12) (N := (some 62)) (bs_ 17 8191) rfl rfl (by kernel_rfl) (by decide) (fun K_ hK => ?_)
     obtain ⟨vb, hvb⟩ : ∃ v : Nat, w3.heap.size = v := ⟨_, rfl⟩
     refine made_ (v := .slice (some ⟨w3.heap.size, 0, none⟩) 1 1) (w1 := w3.alloc (.cells #[.int .i64 t.f0, .string t.f1, .string t.f2, .int .i64 x, .int .i64 m, .bool false] 77)) (by rfl) rfl (by go_simp) ?_
     have HS72 := Aside0.mk (HS71.out.alloc #[.int .i64 t.f0, .string t.f1, .string t.f2, .int .i64 x, .int .i64 m, .bool false] 77 hvb)
     clear HS71
     rw [hvb]
     clear hvb
     clear hHeld
     refine hK.out _ _ ⟨(blk_cell (HS72.out.blk 1 rfl) 0).trans rfl, (blk_cell (HS72.out.blk 0 rfl) 0).trans rfl, (blk_cell (HS72.out.blk 0 rfl) 1).trans rfl, (blk_cell (HS72.out.blk 0 rfl) 2).trans rfl, (blk_cell (HS72.out.blk 0 rfl) 3).trans rfl⟩ (fun hHeld => ?_)
     clear hK K_
     generalize w3.alloc (.cells #[.int .i64 t.f0, .string t.f1, .string t.f2, .int .i64 x, .int .i64 m, .bool false] 77) = w4 at HS72 hHeld  ⊢
     refine norm_ (a' := ?_) ?_ ?_
     rotate_left
     · show Act.put _ (some 62) _ = _
       simp only [Act.put, List.setIfInBounds_toArray, List.set_cons_zero, List.set_cons_succ, i64_w, i32_w]
       rfl
     refine one_ (i := 13) (N := (some 63)) (bs_ 17 16383) rfl rfl (by kernel_rfl) (by decide) (fun K_ hK => ?_)
     obtain ⟨g_, c_, w5, hrun, hrow, hgrow, hown⟩ := appendX qI (l := r.holds.map (qv false)) (v := .slice Ah i ch) (qv false (t, (x, m))) vb _ _ (HS72.out.rowX 2 rfl) (HS72.out.blk (R.length + 4) (b := vb) (snoc4 _ _ _ _ R _)) rfl HLN.out
     rw [List.length_map, HNN.out] at hrun hrow hown
     refine appended_ (.tmp 54) (.tmp 62) 28 28 (by rfl) rfl rfl (.slice Ah i ch) (.slice (some ⟨vb, 0, none⟩) 1 1) (by rfl) (by rfl) hrun ?_
     clear hrun
     have HS73 := Aside0.mk (HS72.out.rowTo 2 rfl hrow hgrow hown)
     clear HS72
     clear hrow hgrow hown
     clear hHeld
     refine hK.out _ _ ⟨(blk_cell (HS73.out.blk 1 rfl) 0).trans rfl, (blk_cell (HS73.out.blk 0 rfl) 0).trans rfl, (blk_cell (HS73.out.blk 0 rfl) 1).trans rfl, (blk_cell (HS73.out.blk 0 rfl) 2).trans rfl, (blk_cell (HS73.out.blk 0 rfl) 3).trans rfl⟩ (fun hHeld => ?_)
     clear hK K_
     refine norm_ (a' := ?_) ?_ ?_
     rotate_left
     · show Act.put _ (some 63) _ = _
       simp only [Act.put, List.setIfInBounds_toArray, List.set_cons_zero, List.set_cons_succ, i64_w, i32_w]
       rfl
     refine pu_ 14 64 (bs_ 17 32767) ?_; refine pu_ 15 65 (bs_ 17 65535) ?_
     refine last_ (i := 16) (N := none) (bs_ 17 131071) rfl rfl (by kernel_rfl) (by decide) (fun K_ hK => ?_)
     have c_0 := (blk_cell (HS73.out.blk 1 rfl) 0).trans rfl
     have c_1 := frozen_of_row _ rp 0 _ _ (HS73.out.blk 1 rfl)
     refine skip_ (w1 := ?_) (by rfl) rfl ?_ ?_
     rotate_left
     · go_simp
       rfl
     refine hK.out _ _ ?_
     clear hK K_ hHeld c_0 c_1
     refine done_ (by kernel_rfl) ?_
     have HS74 := Aside0.mk (HS73.out.upd 1 rfl (blkC rp (.cells #[.slice (some ⟨g_, 0, none⟩) (i + 1) c_, .slice Aw nw cw] 30 (0, 0))) (keep_set w5 rp 0 _ _ (by simp [blkC])) (blk_put (HS73.out.blk 1 rfl) 0 _ rfl) (nd_one rp) (fun b hb => .inl hb))
     clear HS73
     generalize (w5.setCell ⟨rp, 0, none⟩ (.slice (some ⟨g_, 0, none⟩) (i + 1) c_)) = w6 at HS74 ⊢
     go_end0
     rw [← HQ.out]
     refine ⟨rfl, ?_⟩
     rw [HM.out]
     refine RQ.mk' (r := ⟨r.holds ++ [(t, (x, m))], r.waits⟩) (Ah := (some ⟨g_, 0, none⟩)) (nh := i + 1) (ch := c_) (Aw := Aw) (nw := nw) (cw := cw) ?_
     rw [List.map_append]
     exact St.left (A := [_, _, _] ++ R) (St.drop (A := [_]) HS74.out)
   | succ gq =>
     have hin : (i : Int) < (n : Int) := by omega
     have hi0 : (0 : Int) ≤ (i : Int) := by omega
     have hi9 : (i : Int) ≤ 1000000 := by omega
     obtain ⟨o, ho⟩ : ∃ o, r.holds[i]? = some o := ⟨_, List.getElem?_eq_getElem (by rw [HNN.out]; omega)⟩
     obtain ⟨g1, c1, hv, _⟩ := row_slice (n := (r.holds.map (qv false)).length) (HS.out.rowX 2 rfl) (by rw [List.length_map, HNN.out]; omega)
     obtain ⟨rfl, rfl⟩ : Ah = some ⟨g1, 0, none⟩ ∧ ch = c1 := by
       injection hv with e1 e2 e3
       exact ⟨e1, e3⟩
     have HO := Aside0.mk ho
     clear hv ho
     go_wp2
     cases he : eqD ⟨o.1.f0, o.1.f1, o.1.f2⟩ ⟨t.f0, t.f1, t.f2⟩ with
     | false =>
       refine start_ (n := 24) (S := fun w' => w'.cell? ⟨rp, 0, none⟩ = some (.slice (some ⟨g1, 0, none⟩) n ch) ∧ w'.cell? ⟨g1, i * 6, none⟩ = some (.int .i64 o.1.f0) ∧ w'.cell? ⟨g1, i * 6 + 1, none⟩ = some (.string o.1.f1) ∧ w'.cell? ⟨g1, i * 6 + 2, none⟩ = some (.string o.1.f2) ∧ w'.cell? ⟨g1, i * 6 + 3, none⟩ = some (.int .i64 o.2.1) ∧ w'.cell? ⟨g1, i * 6 + 4, none⟩ = some (.int .i64 o.2.2) ∧ w'.cell? ⟨n8, 0, none⟩ = some (.int .i64 t.f0) ∧ w'.cell? ⟨n8, 1, none⟩ = some (.string t.f1) ∧ w'.cell? ⟨n8, 2, none⟩ = some (.string t.f2) ∧ w'.cell? ⟨n8, 3, none⟩ = some (.int .i64 m)) (ds := []) #[false, false, false, false, false, false, false, false, false, false, false, false, false, false, false, false, false, false, false, false, false, false, false, false] (by kernel_rfl) rfl rfl ⟨(blk_cell (HS.out.blk 1 rfl) 0).trans rfl, ((HS.out.rowX 2 rfl).q HO.out).1, ((HS.out.rowX 2 rfl).q HO.out).2.1, ((HS.out.rowX 2 rfl).q HO.out).2.2.1, ((HS.out.rowX 2 rfl).q HO.out).2.2.2.1, ((HS.out.rowX 2 rfl).q HO.out).2.2.2.2.1, (blk_cell (HS.out.blk 0 rfl) 0).trans rfl, (blk_cell (HS.out.blk 0 rfl) 1).trans rfl, (blk_cell (HS.out.blk 0 rfl) 2).trans rfl, (blk_cell (HS.out.blk 0 rfl) 3).trans rfl⟩ (fun hHeld => ?_)
       have HS11 := Aside0.mk (HS.out.drew)
       clear HS
       generalize wr.drew = wd0 at HS11 hHeld  ⊢
       refine pu_ 0 16 (bs_ 24 1) ?_; refine pu_ 1 17 (bs_ 24 3) ?_; refine pu_ 2 18 (bs_ 24 7) ?_; refine pu_ 4 20 (bs_ 24 23) ?_; refine pu_ 8 24 (bs_ 24 279) ?_; refine ta_ 3 19 (bs_ 24 287) hHeld ?_; refine pu_ 5 21 (bs_ 24 319) ?_; refine pu_ 6 22 (bs_ 24 383) ?_; refine ta_ 7 23 (bs_ 24 511) hHeld ?_; refine ta_ 9 25 (bs_ 24 1023) hHeld ?_; refine pu_ 10 26 (bs_ 24 2047) ?_; refine pu_ 11 27 (bs_ 24 4095) ?_; refine pn_ 12 28 (bs_ 24 8191) ?_; refine pn_ 13 29 (bs_ 24 16383) ?_; refine pn_ 14 30 (bs_ 24 32767) ?_; refine pn_ 15 31 (bs_ 24 65535) ?_; refine pn_ 16 32 (bs_ 24 131071) ?_; refine pn_ 17 33 (bs_ 24 262143) ?_
       refine pn_ 18 34 (bs_ 24 524287) ?_; refine pn_ 19 35 (bs_ 24 1048575) ?_; refine pn_ 20 36 (bs_ 24 2097151) ?_; refine pn_ 21 37 (bs_ 24 4194303) ?_; refine pn_ 22 38 (bs_ 24 8388607) ?_; refine pu_ 23 39 (bs_ 24 16777215) ?_
       refine done_ (by kernel_rfl) ?_
       clear hHeld c0 pl
       go_wp2
       go_roundg gq
       case measure => omega
       case rel => exact ⟨i + 1, by go_num, by omega, Aside0.mk (find_snoc HO.out HF.out (by unfold mtch; rw [eqD_dec] at he; rw [show decide (o.1 = t) = false from he]; rfl)), HS11⟩
     | true =>
       cases hx : (o.2.1 == x) with
       | false =>
         refine start_ (n := 24) (S := fun w' => w'.cell? ⟨rp, 0, none⟩ = some (.slice (some ⟨g1, 0, none⟩) n ch) ∧ w'.cell? ⟨g1, i * 6, none⟩ = some (.int .i64 o.1.f0) ∧ w'.cell? ⟨g1, i * 6 + 1, none⟩ = some (.string o.1.f1) ∧ w'.cell? ⟨g1, i * 6 + 2, none⟩ = some (.string o.1.f2) ∧ w'.cell? ⟨g1, i * 6 + 3, none⟩ = some (.int .i64 o.2.1) ∧ w'.cell? ⟨g1, i * 6 + 4, none⟩ = some (.int .i64 o.2.2) ∧ w'.cell? ⟨n8, 0, none⟩ = some (.int .i64 t.f0) ∧ w'.cell? ⟨n8, 1, none⟩ = some (.string t.f1) ∧ w'.cell? ⟨n8, 2, none⟩ = some (.string t.f2) ∧ w'.cell? ⟨n8, 3, none⟩ = some (.int .i64 m)) (ds := []) #[false, false, false, false, false, false, false, false, false, false, false, false, false, false, false, false, false, false, false, false, false, false, false, false] (by kernel_rfl) rfl rfl ⟨(blk_cell (HS.out.blk 1 rfl) 0).trans rfl, ((HS.out.rowX 2 rfl).q HO.out).1, ((HS.out.rowX 2 rfl).q HO.out).2.1, ((HS.out.rowX 2 rfl).q HO.out).2.2.1, ((HS.out.rowX 2 rfl).q HO.out).2.2.2.1, ((HS.out.rowX 2 rfl).q HO.out).2.2.2.2.1, (blk_cell (HS.out.blk 0 rfl) 0).trans rfl, (blk_cell (HS.out.blk 0 rfl) 1).trans rfl, (blk_cell (HS.out.blk 0 rfl) 2).trans rfl, (blk_cell (HS.out.blk 0 rfl) 3).trans rfl⟩ (fun hHeld => ?_)
         have HS21 := Aside0.mk (HS.out.drew)
         clear HS
         generalize wr.drew = wd1 at HS21 hHeld  ⊢
         refine pu_ 0 16 (bs_ 24 1) ?_; refine pu_ 1 17 (bs_ 24 3) ?_; refine pu_ 2 18 (bs_ 24 7) ?_; refine pu_ 4 20 (bs_ 24 23) ?_; refine pu_ 8 24 (bs_ 24 279) ?_; refine ta_ 3 19 (bs_ 24 287) hHeld ?_; refine pu_ 5 21 (bs_ 24 319) ?_; refine pu_ 6 22 (bs_ 24 383) ?_; refine ta_ 7 23 (bs_ 24 511) hHeld ?_; refine ta_ 9 25 (bs_ 24 1023) hHeld ?_; refine pu_ 10 26 (bs_ 24 2047) ?_; refine pu_ 11 27 (bs_ 24 4095) ?_; refine pu_ 12 28 (bs_ 24 8191) ?_; refine pu_ 13 29 (bs_ 24 16383) ?_; refine pu_ 14 30 (bs_ 24 32767) ?_; refine pu_ 16 32 (bs_ 24 98303) ?_; refine pu_ 21 37 (bs_ 24 2195455) ?_
         refine ta_ 15 31 (bs_ 24 2228223) hHeld ?_; refine pu_ 17 33 (bs_ 24 2359295) ?_; refine pu_ 18 34 (bs_ 24 2621439) ?_; refine pu_ 19 35 (bs_ 24 3145727) ?_; refine ta_ 20 36 (bs_ 24 4194303) hHeld ?_; refine pu_ 22 38 (bs_ 24 8388607) ?_; refine pu_ 23 39 (bs_ 24 16777215) ?_
         refine done_ (by kernel_rfl) ?_
         clear hHeld c0 pl
         go_wp2
         go_roundg gq
         case measure => omega
         case rel => exact ⟨i + 1, by go_num, by omega, Aside0.mk (find_snoc HO.out HF.out (by unfold mtch; rw [hx, Bool.and_false])), HS21⟩
       | true =>
         refine start_ (n := 24) (S := fun w' => w'.cell? ⟨rp, 0, none⟩ = some (.slice (some ⟨g1, 0, none⟩) n ch) ∧ w'.cell? ⟨g1, i * 6, none⟩ = some (.int .i64 o.1.f0) ∧ w'.cell? ⟨g1, i * 6 + 1, none⟩ = some (.string o.1.f1) ∧ w'.cell? ⟨g1, i * 6 + 2, none⟩ = some (.string o.1.f2) ∧ w'.cell? ⟨g1, i * 6 + 3, none⟩ = some (.int .i64 o.2.1) ∧ w'.cell? ⟨g1, i * 6 + 4, none⟩ = some (.int .i64 o.2.2) ∧ w'.cell? ⟨n8, 0, none⟩ = some (.int .i64 t.f0) ∧ w'.cell? ⟨n8, 1, none⟩ = some (.string t.f1) ∧ w'.cell? ⟨n8, 2, none⟩ = some (.string t.f2) ∧ w'.cell? ⟨n8, 3, none⟩ = some (.int .i64 m)) (ds := []) #[false, false, false, false, false, false, false, false, false, false, false, false, false, false, false, false, false, false, false, false, false, false, false, false] (by kernel_rfl) rfl rfl ⟨(blk_cell (HS.out.blk 1 rfl) 0).trans rfl, ((HS.out.rowX 2 rfl).q HO.out).1, ((HS.out.rowX 2 rfl).q HO.out).2.1, ((HS.out.rowX 2 rfl).q HO.out).2.2.1, ((HS.out.rowX 2 rfl).q HO.out).2.2.2.1, ((HS.out.rowX 2 rfl).q HO.out).2.2.2.2.1, (blk_cell (HS.out.blk 0 rfl) 0).trans rfl, (blk_cell (HS.out.blk 0 rfl) 1).trans rfl, (blk_cell (HS.out.blk 0 rfl) 2).trans rfl, (blk_cell (HS.out.blk 0 rfl) 3).trans rfl⟩ (fun hHeld => ?_)
         have HS31 := Aside0.mk (HS.out.drew)
         clear HS
         generalize wr.drew = wd2 at HS31 hHeld  ⊢
         refine pu_ 0 16 (bs_ 24 1) ?_; refine pu_ 1 17 (bs_ 24 3) ?_; refine pu_ 2 18 (bs_ 24 7) ?_; refine pu_ 4 20 (bs_ 24 23) ?_; refine pu_ 8 24 (bs_ 24 279) ?_; refine ta_ 3 19 (bs_ 24 287) hHeld ?_; refine pu_ 5 21 (bs_ 24 319) ?_; refine pu_ 6 22 (bs_ 24 383) ?_; refine ta_ 7 23 (bs_ 24 511) hHeld ?_; refine ta_ 9 25 (bs_ 24 1023) hHeld ?_; refine pu_ 10 26 (bs_ 24 2047) ?_; refine pu_ 11 27 (bs_ 24 4095) ?_; refine pu_ 12 28 (bs_ 24 8191) ?_; refine pu_ 13 29 (bs_ 24 16383) ?_; refine pu_ 14 30 (bs_ 24 32767) ?_; refine pu_ 16 32 (bs_ 24 98303) ?_; refine pu_ 21 37 (bs_ 24 2195455) ?_
         refine ta_ 15 31 (bs_ 24 2228223) hHeld ?_; refine pu_ 17 33 (bs_ 24 2359295) ?_; refine pu_ 18 34 (bs_ 24 2621439) ?_; refine pu_ 19 35 (bs_ 24 3145727) ?_; refine ta_ 20 36 (bs_ 24 4194303) hHeld ?_; refine pu_ 22 38 (bs_ 24 8388607) ?_; refine pu_ 23 39 (bs_ 24 16777215) ?_
         refine done_ (by kernel_rfl) ?_
         clear hHeld
         go_wp2
         refine start_ (n := 11) (S := fun w' => w'.cell? ⟨rp, 0, none⟩ = some (.slice (some ⟨g1, 0, none⟩) n ch) ∧ w'.cell? ⟨g1, i * 6, none⟩ = some (.int .i64 o.1.f0) ∧ w'.cell? ⟨g1, i * 6 + 1, none⟩ = some (.string o.1.f1) ∧ w'.cell? ⟨g1, i * 6 + 2, none⟩ = some (.string o.1.f2) ∧ w'.cell? ⟨g1, i * 6 + 3, none⟩ = some (.int .i64 o.2.1) ∧ w'.cell? ⟨g1, i * 6 + 4, none⟩ = some (.int .i64 o.2.2) ∧ w'.cell? ⟨n8, 0, none⟩ = some (.int .i64 t.f0) ∧ w'.cell? ⟨n8, 1, none⟩ = some (.string t.f1) ∧ w'.cell? ⟨n8, 2, none⟩ = some (.string t.f2) ∧ w'.cell? ⟨n8, 3, none⟩ = some (.int .i64 m)) (ds := [10]) #[false, false, false, false, false, false, false, false, false, false, false] (by kernel_rfl) rfl rfl ⟨(blk_cell (HS31.out.blk 1 rfl) 0).trans rfl, ((HS31.out.rowX 2 rfl).q HO.out).1, ((HS31.out.rowX 2 rfl).q HO.out).2.1, ((HS31.out.rowX 2 rfl).q HO.out).2.2.1, ((HS31.out.rowX 2 rfl).q HO.out).2.2.2.1, ((HS31.out.rowX 2 rfl).q HO.out).2.2.2.2.1, (blk_cell (HS31.out.blk 0 rfl) 0).trans rfl, (blk_cell (HS31.out.blk 0 rfl) 1).trans rfl, (blk_cell (HS31.out.blk 0 rfl) 2).trans rfl, (blk_cell (HS31.out.blk 0 rfl) 3).trans rfl⟩ (fun hHeld => ?_)
         have HS51 := Aside0.mk (HS31.out.drew)
         clear HS31
         generalize wd2.drew = we at HS51 hHeld  ⊢
         refine pu_ 0 40 (bs_ 11 1) ?_; refine pu_ 1 41 (bs_ 11 3) ?_; refine pu_ 2 42 (bs_ 11 7) ?_; refine pu_ 4 44 (bs_ 11 23) ?_; refine pu_ 5 45 (bs_ 11 55) ?_; refine ta_ 3 43 (bs_ 11 63) hHeld ?_; refine ta_ 6 46 (bs_ 11 127) hHeld ?_; refine pu_ 7 47 (bs_ 11 255) ?_; refine pu_ 8 48 (bs_ 11 511) ?_; refine pu_ 9 49 (bs_ 11 1023) ?_
         refine last_ (i := 10) (N := none) (bs_ 11 2047) rfl rfl (by kernel_rfl) (by decide) (fun K_ hK => ?_)
         have c_0 := (HS51.out.rowX 2 rfl).q HO.out |>.2.2.2.2.1
         have c_1 := (HS51.out.rowX 2 rfl).frozen (i * 6 + 4)
         refine skip_ (w1 := ?_) (by rfl) rfl ?_ ?_
         rotate_left
         · go_simp
           rfl
         refine hK.out _ _ ?_
         clear hK K_ hHeld c_0 c_1
         refine done_ (by kernel_rfl) ?_
         have HS52 := Aside0.mk (show St w0 F (we.setCell ⟨g1, i * 6 + 4, none⟩ (.int .i64 m)) (blkC n8 (.cells #[.int .i64 t.f0, .string t.f1, .string t.f2, .int .i64 m] 34 (0, 0)) :: blkC rp (.cells #[.slice (some ⟨g1, 0, none⟩) n ch, .slice Aw nw cw] 30 (0, 0)) :: rowXC qE (.slice (some ⟨g1, 0, none⟩) n ch) ((r.holds.map (qv false)).set i (qv false (t, (x, m)))) :: rowXC qE (.slice Aw nw cw) (r.waits.map (qv true)) :: R) from HS51.out.putX1 (i := i) (j := 4) (k := 2) (x := qv false (t, (x, m))) (y := qv false o) (v := .int .i64 m) rfl (by rw [List.getElem?_map, HO.out]; rfl) (by decide) (by rw [eqD_dec] at he; have ht : o.1 = t := of_decide_eq_true he; have hx2 : o.2.1 = x := eq_of_beq hx; rw [← ht, ← hx2]; rfl))
         clear HS51
         generalize (we.setCell ⟨g1, i * 6 + 4, none⟩ (.int .i64 m)) = w5 at HS52 ⊢
         go_wp2
         refine ⟨rfl, _, results_none rfl _ _ _, ?_⟩
         rw [← HQ.out]
         refine ⟨rfl, ?_⟩
         have ht : o.1 = t := by rw [eqD_dec] at he; exact of_decide_eq_true he
         have hm : rgiveL t (x, m) r.holds = r.holds.set i (t, (x, m)) := rgive_set HO.out HF.out (by unfold mtch; rw [hx, Bool.and_true]; exact decide_eq_true ht)
         rw [hm]
         refine RQ.mk' (r := ⟨r.holds.set i (t, (x, m)), r.waits⟩) (Ah := (some ⟨g1, 0, none⟩)) (nh := n) (ch := ch) (Aw := Aw) (nw := nw) (cw := cw) ?_
         rw [List.map_set]
         exact St.drop (A := [_]) HS52.out
end
end Go.Proofs.Kb
end
section
namespace Go.Proofs.Kb
open Go Go.RowKit Go.Proofs.YtkcjcdkmdooofaaGreat.Q Go.Proofs.YtkcjcdkmdooofaaGreatW.PrintWords Go.Proofs.YtkcjcdkmdooofaaGreatW.PrintLast Go.Proofs.YtkcjcdkmdooofaaGreatW.PrintMore
set_option maxRecDepth 100000
open Go.Proofs.Lk Go.Proofs.Mp
section
variable {α : Type} {E : EncT α} {P : Program} {t : TypeId} {w w' w0 : World} {v u : Value} {l l' : List α} {F : Nat → Prop} {cs : List Chunk}
theorem st_emptyX (E : EncT α) (s : St w0 F w cs) : St w0 F (w.alloc (.cells #[] E.ty)) (rowXC E (.slice (some ⟨w.heap.size, 0, none⟩) 0 0) [] :: cs) := by
 refine s.fresh ((Below.refl _ w).alloc (Nat.le_refl _) _) (rowXC E (.slice (some ⟨w.heap.size, 0, none⟩) 0 0) []) ?_ (nd_bl (.slice (some ⟨w.heap.size, 0, none⟩) 0 0)) (fun b hb => ?_)
 · exact ⟨by simp [EncT.all], by simp [EncT.all], .inr ⟨_, 0, #[], rfl, heap_alloc_new w _, Nat.le_refl _, by simp [maxLen], by simp, by simp [EncT.all]⟩⟩
 · have hb : b ∈ bl (.slice (some ⟨w.heap.size, 0, none⟩) 0 0) := hb
   have := bl_mem.1 hb
   simp [Value.ownBlock] at this
   omega
def PartX (E : EncT α) (w : World) (u : Value) (l : List α) : Prop := (u = .slice none 0 0 ∧ l = []) ∨ ∃ a c, u = .slice (some a) l.length c ∧ ∀ j x, (E.all l)[j]? = some x → w.cell? (a.add j) = some x
theorem appendPX (I : InfoX P E t) (ty : TypeId) (hR : RowX E w v l) (hu : PartX E w u l') {n : Nat} (hm : (l ++ l').length = n) (hn : n < 1000000) :
   ∃ A c w', (Builtin.append_ #[t, t] ty #[v, u]).run P w = .ok (.slice A n c) w' ∧ RowX E w' (.slice A n c) (l ++ l') ∧ w.grownBy w' v.ownBlock ∧ Owns w v (.slice A n c) := by
 subst hm
 rw [List.length_append] at hn
 rcases hu with ⟨rfl, rfl⟩ | ⟨a, c, rfl, hc⟩
 · obtain ⟨A, c, rfl⟩ := hR.form
   exact ⟨A, c, w, by rw [List.append_nil]; exact appendX_none I ty hR, by rw [List.append_nil]; exact hR, ⟨rfl, rfl, rfl, Nat.le_refl _, fun _ _ _ => rfl⟩, .inl (by rw [List.append_nil])⟩
 · obtain ⟨v', w', h1, h2, h3, h4⟩ := run_append_R (P := P) w t ty E.ty I.i _ E.sz I.bytes I.under I.info I.zero I.size I.bt I.zsz I.pos I.small v l.length (E.all l) hR a l'.length c (E.all l') (E.all_len l') hc (E.all_one l') (by omega)
   have h2' : RowX E w' v' (l ++ l') := RowX.of h2 (by simp) (by rw [E.all_app])
   obtain ⟨A, c', rfl⟩ := h2'.form
   exact ⟨A, c', w', h1, h2', h3, h4⟩
theorem part_takeX {g n c c' i : Nat} (h : RowX E w (.slice (some ⟨g, 0, none⟩) n c) l) (hn : l.length = n) (hi : i ≤ n) : PartX E w (.slice (some ⟨g, 0, none⟩) i c') (l.take i) := by
 have hl : (l.take i).length = i := by rw [List.length_take]; omega
 refine .inr ⟨_, c', by rw [hl], fun j x hx => ?_⟩
 rw [← E.all_take, List.getElem?_take] at hx
 split at hx
 · subst hn
   exact row_cells (show Row w E.ty E.sz _ _ (E.all l) from h) j x hx
 · cases hx
theorem part_dropX {g n c c' i m : Nat} (h : RowX E w (.slice (some ⟨g, 0, none⟩) n c) l) (hn : l.length = n) (hm : m = n - i) : PartX E w (.slice (some ⟨g, i * E.sz, none⟩) m c') (l.drop i) := by
 have hl : (l.drop i).length = m := by rw [List.length_drop]; omega
 refine .inr ⟨_, c', by rw [hl], fun j x hx => ?_⟩
 rw [← E.all_drop, List.getElem?_drop] at hx
 subst hn
 have := row_cells (show Row w E.ty E.sz _ _ (E.all l) from h) _ x hx
 rw [Addr.add_lit, Nat.zero_add] at this
 rw [Addr.add_lit]
 exact this
theorem part_endX {g : Nat} (h : l = []) : PartX E w (.slice (some ⟨g, 0, none⟩) 0 0) l := by
 subst h
 exact .inr ⟨_, 0, rfl, fun j x hx => by simp [EncT.all] at hx⟩
end
section
variable {w0 w w' : World} {F : Nat → Prop} {rp : Nat} {r : RS S32} {R R' : List Chunk}
def wchunk (rp : Nat) (HV : Value) (wv : Value) (r : RS S32) (L : List S77) (R : List Chunk) : List Chunk := blkC rp (.cells #[HV, wv] 30 (0, 0)) :: rowXC qE HV (r.holds.map (qv false)) :: rowXC qE wv L :: R
theorem wput {v : Value} {A : Option Addr} {n c : Nat} {L : List S77} {L2 : List S77} {HV v2 : Value} (s : St w0 F w (rowXC qE v L :: blkC rp (.cells #[HV, v2] 30 (0, 0)) :: rowXC qE HV (r.holds.map (qv false)) :: rowXC qE v2 L2 :: R)) :
   St w0 F (w.setCell ⟨rp, 1, none⟩ v) (wchunk rp HV v r L R) := by
 have h1 := s.upd 1 rfl (blkC rp (.cells #[HV, v] 30 (0, 0))) (keep_set w rp 1 v _ (by simp [blkC])) (blk_put (s.blk 1 rfl) 1 _ rfl) (nd_one rp) (fun b hb => .inl hb)
 exact St.drop (A := [_]) ((show St w0 F _ ([_, _, _, _] ++ R) from h1).perm (B := [rowXC qE v2 L2, blkC rp (.cells #[HV, v] 30 (0, 0)), rowXC qE HV (r.holds.map (qv false)), rowXC qE v L] ++ R) ((perm_ix _ [3, 1, 2, 0] 4 rfl (by decide)).append_right R))
set_option maxHeartbeats 8000000 in
theorem qdrop_calls (h : RQ w0 F rp r R w) (i : Nat) (hi : i < r.waits.length) (hn : r.waits.length < 100000) :
   Calls Tryz.prog 46 #[.pointer (some ⟨rp, 0, none⟩), .int .i64 i] w fun E w' => E = .returned (.tuple #[]) ∧ RQ w0 F rp ⟨r.holds, r.waits.eraseIdx i⟩ R w' := by
 obtain ⟨Q, hQ⟩ : ∃ Q, (fun E w' => E = Ending.returned (.tuple #[]) ∧ RQ w0 F rp ⟨r.holds, r.waits.eraseIdx i⟩ R w') = Q := ⟨_, rfl⟩
 have HQ := Aside0.mk hQ
 rw [hQ]
 clear hQ
 have hu30 := Tryz.underlying30
 have hu28 := Tryz.underlying28
 have hz77 := Tryz.sizeOf77
 obtain ⟨Ah, ch, Aw, c, h0⟩ := h
 obtain ⟨HV, hHV⟩ : ∃ V, Value.slice Ah r.holds.length ch = V := ⟨_, rfl⟩
 rw [hHV] at h0
 obtain ⟨L, hL⟩ : ∃ L, r.waits.map (qv true) = L := ⟨_, rfl⟩
 obtain ⟨n, hnn⟩ : ∃ n, r.waits.length = n := ⟨_, rfl⟩
 have HN : Aside0 (L.length = n) := Aside0.mk (by rw [← hL, List.length_map, hnn])
 rw [hL, hnn] at h0
 rw [hnn] at hi hn
 have BACK := Aside0.mk (fun (W : World) (A : Option Addr) (m c : Nat) (h : St w0 F W (wchunk rp HV (.slice A m c) r (L.take i ++ L.drop (i + 1)) R)) => (show RQ w0 F rp ⟨r.holds, r.waits.eraseIdx i⟩ R W from by
   subst hHV
   refine RQ.mk' (r := ⟨r.holds, r.waits.eraseIdx i⟩) (Ah := Ah) (nh := r.holds.length) (ch := ch) (Aw := A) (nw := m) (cw := c) ?_
   have e : (r.waits.eraseIdx i).map (qv true) = L.take i ++ L.drop (i + 1) := by rw [List.eraseIdx_eq_take_drop_succ, List.map_append, List.map_take, List.map_drop, hL]
   rw [e]
   exact h))
 clear hL hnn hHV
 obtain ⟨g, c1, hv, hnc⟩ := row_slice (n := L.length) (h0.rowX 2 rfl) (by rw [HN.out]; omega)
 obtain ⟨rfl, rfl⟩ : Aw = some ⟨g, 0, none⟩ ∧ c = c1 := by
   injection hv with e1 e2 e3
   exact ⟨e1, e3⟩
 rw [HN.out] at hnc
 clear hv
 have HSA := Aside0.mk (st_emptyX qE h0)
 obtain ⟨b0, hb0⟩ : ∃ b, w.heap.size = b := ⟨_, rfl⟩
 have c0 : (w.alloc (.cells #[] 77)).cell? ⟨rp, 1, none⟩ = some (.slice (some ⟨g, 0, none⟩) n c) := (blk_cell (HSA.out.blk 1 rfl) 1).trans rfl
 have hrl := lt_of_some (h0.blk 0 rfl)
 have HTL := Aside0.mk (show (L.take i).length = i by rw [List.length_take, HN.out]; omega)
 have HML := Aside0.mk (show (L.take i ++ L.drop (i + 1)).length = n - 1 by rw [List.length_append, List.length_drop, HN.out, HTL.out]; omega)
 have hn9 : n - 1 < 1000000 := by omega
 have hi9 : i < 1000000 := by omega
 have HB9 := Aside0.mk hn9
 have HI9 := Aside0.mk hi9
 have HLE := Aside0.mk (show i ≤ n by omega)
 have hic : i ≤ c := by omega
 have HPL := Aside0.mk hrl
 have HB0 := Aside0.mk hb0
 clear h0 hn9 hi9 hrl hb0
 have G1 := Aside0.mk trivial
 have G3 := G1
 by_cases hci : c = i + 1
 · subst hci
   obtain rfl : n = i + 1 := by omega
   have HML := Aside0.mk (show (L.take i ++ L.drop (i + 1)).length = i from HML.out)
   have HB9 := HI9
   have HPD := Aside0.mk (fun W (_ : RowX qE W (.slice (some ⟨g, 0, none⟩) (i + 1) (i + 1)) L) => part_endX (E := qE) (w := W) (g := g) (List.drop_eq_nil_iff.2 (show L.length ≤ i + 1 by rw [HN.out]; exact Nat.le_refl _)))
   go_enter Tryz.func46, Tryz.ntmps46
   go_wp2_with (first
     | (clear G1; at_builtin; obtain ⟨Aa, ca, w3, hrun, hrow, hgrow, hown⟩ := appendPX qI 28 (HSA.out.rowX 0 rfl) (part_takeX (i := i) (c' := (i + 1)) (HSA.out.rowX 3 rfl) HN.out HLE.out) HTL.out HI9.out; have HSB := Aside0.mk (HSA.out.rowTo 0 rfl hrow hgrow hown); refine wpList_append_run rfl (.tmp 6) (.tmp 12) 28 28 rfl _ _ rfl rfl hrun ?_; clear hrun hrow hgrow hown c0; have c0 : w3.cell? ⟨rp, 1, none⟩ = some (.slice (some ⟨g, 0, none⟩) (i + 1) (i + 1)) := (blk_cell (HSB.out.blk 1 rfl) 1).trans rfl; clear HSA)
     | (clear G3; at_builtin; obtain ⟨Ad, cd, w5, hrun, hrow, hgrow, hown⟩ := appendPX qI 28 (HSB.out.rowX 0 rfl) (HPD.out _ (HSB.out.rowX 3 rfl)) HML.out HB9.out; have HSD := Aside0.mk (HSB.out.rowTo 0 rfl hrow hgrow hown); refine wpList_append_run rfl (.tmp 15) (.tmp 22) 28 28 rfl _ _ rfl rfl hrun ?_; clear hrun hrow hgrow hown c0; have c0 : w5.cell? ⟨rp, 1, none⟩ = some (.slice (some ⟨g, 0, none⟩) (i + 1) (i + 1)) := (blk_cell (HSD.out.blk 1 rfl) 1).trans rfl; have f0 : w5.frozen? ⟨rp, 1, none⟩ = false := frozen_of_row _ rp 1 _ _ (HSD.out.blk 1 rfl))
     )
   rw [← HQ.out]
   exact ⟨rfl, _, results_none rfl _ _ _, rfl, BACK.out _ _ _ _ (wput (A := Ad) (n := 0) (c := cd) HSD.out)⟩
 · have HPD := Aside0.mk (fun W (h : RowX qE W (.slice (some ⟨g, 0, none⟩) n c) L) => part_dropX (c' := c - (i + 1)) (i := i + 1) (m := n - (i + 1)) h HN.out rfl)
   go_enter Tryz.func46, Tryz.ntmps46
   go_wp2_with (first
     | (clear G1; at_builtin; obtain ⟨Aa, ca, w3, hrun, hrow, hgrow, hown⟩ := appendPX qI 28 (HSA.out.rowX 0 rfl) (part_takeX (i := i) (c' := c) (HSA.out.rowX 3 rfl) HN.out HLE.out) HTL.out HI9.out; have HSB := Aside0.mk (HSA.out.rowTo 0 rfl hrow hgrow hown); refine wpList_append_run rfl (.tmp 6) (.tmp 12) 28 28 rfl _ _ rfl rfl hrun ?_; clear hrun hrow hgrow hown c0; have c0 : w3.cell? ⟨rp, 1, none⟩ = some (.slice (some ⟨g, 0, none⟩) n c) := (blk_cell (HSB.out.blk 1 rfl) 1).trans rfl; clear HSA)
     | (clear G3; at_builtin; obtain ⟨Ad, cd, w5, hrun, hrow, hgrow, hown⟩ := appendPX qI 28 (HSB.out.rowX 0 rfl) (HPD.out _ (HSB.out.rowX 3 rfl)) HML.out HB9.out; have HSD := Aside0.mk (HSB.out.rowTo 0 rfl hrow hgrow hown); refine wpList_append_run rfl (.tmp 15) (.tmp 22) 28 28 rfl _ _ rfl rfl hrun ?_; clear hrun hrow hgrow hown c0; have c0 : w5.cell? ⟨rp, 1, none⟩ = some (.slice (some ⟨g, 0, none⟩) n c) := (blk_cell (HSD.out.blk 1 rfl) 1).trans rfl; have f0 : w5.frozen? ⟨rp, 1, none⟩ = false := frozen_of_row _ rp 1 _ _ (HSD.out.blk 1 rfl))
     )
   rw [← HQ.out]
   exact ⟨rfl, _, results_none rfl _ _ _, rfl, BACK.out _ _ _ _ (wput (A := Ad) (n := 0) (c := cd) HSD.out)⟩
set_option maxHeartbeats 8000000 in
theorem qinsert_calls (h : RQ w0 F rp r R w) (p : Nat) (t : S32) (x m : Int) (hi : p ≤ r.waits.length) (hn : r.waits.length < 100000) :
   Calls Tryz.prog 42 #[.pointer (some ⟨rp, 0, none⟩), .int .i64 p, .agg #[.int .i64 t.f0, .string t.f1, .string t.f2, .int .i64 x, .int .i64 m, .bool true]] w fun E w' => E = .returned (.tuple #[]) ∧ RQ w0 F rp ⟨r.holds, r.waits.take p ++ (t, (x, m)) :: r.waits.drop p⟩ R w' := by
 obtain ⟨Q, hQ⟩ : ∃ Q, (fun E w' => E = Ending.returned (.tuple #[]) ∧ RQ w0 F rp ⟨r.holds, r.waits.take p ++ (t, (x, m)) :: r.waits.drop p⟩ R w') = Q := ⟨_, rfl⟩
 have HQ := Aside0.mk hQ
 rw [hQ]
 clear hQ
 have hu30 := Tryz.underlying30
 have hu28 := Tryz.underlying28
 have hu32 := Tryz.underlying32
 have hu75 := Tryz.underlying75
 have hu77 := Tryz.underlying77
 have hz77 := Tryz.sizeOf77
 obtain ⟨Ah, ch, Aw, c, h0⟩ := h
 obtain ⟨n8, hn8⟩ : ∃ n, w.heap.size = n := ⟨_, rfl⟩
 have h1 := h0.alloc #[.int .i64 t.f0, .string t.f1, .string t.f2, .int .i64 x, .int .i64 m, .bool true] 77 hn8
 obtain ⟨W8, hW8⟩ : ∃ W, w.alloc (.cells #[.int .i64 t.f0, .string t.f1, .string t.f2, .int .i64 x, .int .i64 m, .bool true] 77) = W := ⟨_, rfl⟩
 rw [hW8] at h1
 obtain ⟨HV, hHV⟩ : ∃ V, Value.slice Ah r.holds.length ch = V := ⟨_, rfl⟩
 rw [hHV] at h1
 obtain ⟨L, hL⟩ : ∃ L, r.waits.map (qv true) = L := ⟨_, rfl⟩
 obtain ⟨n, hnn⟩ : ∃ n, r.waits.length = n := ⟨_, rfl⟩
 have HN : Aside0 (L.length = n) := Aside0.mk (by rw [← hL, List.length_map, hnn])
 rw [hL, hnn] at h1
 rw [hnn] at hi hn
 obtain ⟨R2, hR2⟩ : ∃ R2, R ++ [blkC n8 (.cells #[.int .i64 t.f0, .string t.f1, .string t.f2, .int .i64 x, .int .i64 m, .bool true] 77 (0, 0))] = R2 := ⟨_, rfl⟩
 have h2 : St w0 F W8 (wchunk rp HV (.slice Aw n c) r L R2) := by rw [← hR2]; exact h1
 have BOX : Aside0 (∀ (W : World) (a b d e : Chunk), St w0 F W (a :: b :: d :: e :: R2) → W.heap[n8]? = some (.cells #[.int .i64 t.f0, .string t.f1, .string t.f2, .int .i64 x, .int .i64 m, .bool true] 77 (0, 0))) := Aside0.mk (fun W a b d e h => by
   rw [← hR2] at h
   exact h.blk (R.length + 4) (snoc4 _ _ _ _ R _))
 have BACK := Aside0.mk (fun (W : World) (A : Option Addr) (k c : Nat) (h : St w0 F W (wchunk rp HV (.slice A k c) r (L.take p ++ [qv true (t, (x, m))] ++ L.drop p) R2)) => (show RQ w0 F rp ⟨r.holds, r.waits.take p ++ (t, (x, m)) :: r.waits.drop p⟩ R W from by
   subst hHV hR2
   refine RQ.mk' (r := ⟨r.holds, r.waits.take p ++ (t, (x, m)) :: r.waits.drop p⟩) (Ah := Ah) (nh := r.holds.length) (ch := ch) (Aw := A) (nw := k) (cw := c) ?_
   have e : (r.waits.take p ++ (t, (x, m)) :: r.waits.drop p).map (qv true) = L.take p ++ [qv true (t, (x, m))] ++ L.drop p := by rw [List.map_append, List.map_cons, List.map_take, List.map_drop, hL, List.append_assoc]; rfl
   rw [e]
   exact St.left (A := [_, _, _] ++ R) h))
 clear hL hnn hHV hR2 h1 h0
 have HSA := Aside0.mk (st_emptyX qE h2)
 have e0 : W8.cell? ⟨rp, 1, none⟩ = some (.slice Aw n c) := (blk_cell (h2.blk 0 rfl) 1).trans rfl
 have c0 : (W8.alloc (.cells #[] 77)).cell? ⟨rp, 1, none⟩ = some (.slice Aw n c) := (blk_cell (HSA.out.blk 1 rfl) 1).trans rfl
 have HTL := Aside0.mk (show (L.take p).length = p by rw [List.length_take, HN.out]; omega)
 have HML := Aside0.mk (show (L.take p ++ [qv true (t, (x, m))] ++ L.drop p).length = n + 1 by rw [List.length_append, List.length_append, List.length_drop, HN.out, HTL.out, List.length_singleton]; omega)
 have HB9 := Aside0.mk (show n + 1 < 1000000 by omega)
 have HI9 := Aside0.mk (show p < 999999 by omega)
 have HLE := Aside0.mk (show p ≤ n by omega)
 have HPL := Aside0.mk (lt_of_some (h2.blk 0 rfl))
 clear e0
 have G1 := Aside0.mk trivial
 have G2 := G1
 have G3 := G1
 cases Aw with
 | none =>
   obtain ⟨rfl, rfl, rfl⟩ : n = 0 ∧ c = 0 ∧ L = [] := by
     rcases (h2.rowX 2 rfl).2.2 with ⟨h1, h2⟩ | ⟨g, cap, cur, h1, _⟩
     · injection h1 with _ e2 e3
       exact ⟨e2, e3, List.eq_nil_of_length_eq_zero h2⟩
     · injection h1 with h2 _ _
       cases h2
   obtain rfl : p = 0 := by omega
   have HPT := Aside0.mk (fun W (_ : RowX qE W (.slice none 0 0) ([] : List S77)) => (.inl ⟨rfl, rfl⟩ : PartX qE W (.slice none 0 0) (([] : List S77).take 0)))
   have HPD := Aside0.mk (fun W (_ : RowX qE W (.slice none 0 0) ([] : List S77)) => (.inl ⟨rfl, rfl⟩ : PartX qE W (.slice none 0 0) (([] : List S77).drop 0)))
   clear h2
   go_enter Tryz.func42, Tryz.ntmps42
   go_wp2_with (first
     | (clear G1; at_builtin; obtain ⟨Aa, ca, w3, hrun, hrow, hgrow, hown⟩ := appendPX qI 28 (HSA.out.rowX 0 rfl) (HPT.out _ (HSA.out.rowX 3 rfl)) HTL.out (Nat.lt_of_lt_of_le HI9.out (by decide)); have HSB := Aside0.mk (HSA.out.rowTo 0 rfl hrow hgrow hown); refine wpList_append_run rfl (.tmp 8) (.tmp 14) 28 28 rfl _ _ rfl rfl hrun ?_; clear hrun hrow hgrow hown c0 HSA; have hbx := BOX.out _ _ _ _ _ HSB.out; have e0 : w3.cell? ⟨n8, 0, none⟩ = some (.int .i64 t.f0) := (blk_cell hbx 0).trans rfl; have e1 : w3.cell? ⟨n8, 1, none⟩ = some (.string t.f1) := (blk_cell hbx 1).trans rfl; have e2 : w3.cell? ⟨n8, 2, none⟩ = some (.string t.f2) := (blk_cell hbx 2).trans rfl; have e3 : w3.cell? ⟨n8, 3, none⟩ = some (.int .i64 x) := (blk_cell hbx 3).trans rfl; have e4 : w3.cell? ⟨n8, 4, none⟩ = some (.int .i64 m) := (blk_cell hbx 4).trans rfl; have e5 : w3.cell? ⟨n8, 5, none⟩ = some (.bool true) := (blk_cell hbx 5).trans rfl; clear hbx)
     | (clear G2; at_builtin; have HSX := Aside0.mk (HSB.out.below ((Below.refl _ w3).alloc (Nat.le_refl _) (.cells #[.int .i64 t.f0, .string t.f1, .string t.f2, .int .i64 x, .int .i64 m, .bool true] 77))); obtain ⟨gb, cb, w4, hrun, hrow, hgrow, hown⟩ := appendX qI (l := (([] : List S77).take 0)) (qv true (t, (x, m))) w3.heap.size #[.int .i64 t.f0, .string t.f1, .string t.f2, .int .i64 x, .int .i64 m, .bool true] 28 (HSX.out.rowX 0 rfl) (heap_alloc_new w3 _) rfl (by show ((([] : List S77).take 0).length < _); rw [HTL.out]; exact HI9.out); rw [HTL.out] at hrun hrow hown; have HSC := Aside0.mk (HSX.out.rowTo 0 rfl hrow hgrow hown); refine wpList_append_run rfl (.tmp 16) (.tmp 18) 28 28 rfl _ _ rfl rfl hrun ?_; clear hrun hrow hgrow hown e0 e1 e2 e3 e4 e5 HSX; have c0 : w4.cell? ⟨rp, 1, none⟩ = some (.slice none 0 0) := (blk_cell (HSC.out.blk 1 rfl) 1).trans rfl)
     | (clear G3; at_builtin; obtain ⟨Ad, cd, w5, hrun, hrow, hgrow, hown⟩ := appendPX qI 28 (HSC.out.rowX 0 rfl) (HPD.out _ (HSC.out.rowX 3 rfl)) HML.out HB9.out; have HSD := Aside0.mk (HSC.out.rowTo 0 rfl hrow hgrow hown); refine wpList_append_run rfl (.tmp 21) (.tmp 27) 28 28 rfl _ _ rfl rfl hrun ?_; clear hrun hrow hgrow hown c0; have c0 : w5.cell? ⟨rp, 1, none⟩ = some (.slice none 0 0) := (blk_cell (HSD.out.blk 1 rfl) 1).trans rfl; have f0 : w5.frozen? ⟨rp, 1, none⟩ = false := frozen_of_row _ rp 1 _ _ (HSD.out.blk 1 rfl))
     )
   rw [← HQ.out]
   exact ⟨rfl, _, results_none rfl _ _ _, rfl, BACK.out _ _ _ _ (wput (A := Ad) (n := 0) (c := cd) HSD.out)⟩
 | some a =>
   obtain ⟨g, rfl, hnc⟩ : ∃ g, a = ⟨g, 0, none⟩ ∧ n ≤ c := by
     rcases (h2.rowX 2 rfl).2.2 with ⟨h1, _⟩ | ⟨g, cap, cur, h1, _, h4, _⟩
     · cases h1
     · injection h1 with e1 e2 e3
       injection e1 with e1
       exact ⟨g, e1, by rw [e2, e3]; exact h4⟩
   have hpc : p ≤ c := by omega
   clear h2
   by_cases hci : c = p
   · obtain rfl : c = p := hci
     obtain rfl : c = n := by omega
     have HPT := Aside0.mk (fun W (h : RowX qE W (.slice (some ⟨g, 0, none⟩) c c) L) => part_takeX (i := c) (c' := c) h HN.out (Nat.le_refl _))
     have HPD := Aside0.mk (fun W (_ : RowX qE W (.slice (some ⟨g, 0, none⟩) c c) L) => part_endX (E := qE) (w := W) (g := g) (List.drop_eq_nil_iff.2 (show L.length ≤ c by rw [HN.out]; exact Nat.le_refl _)))
     go_enter Tryz.func42, Tryz.ntmps42
     go_wp2_with (first
       | (clear G1; at_builtin; obtain ⟨Aa, ca, w3, hrun, hrow, hgrow, hown⟩ := appendPX qI 28 (HSA.out.rowX 0 rfl) (HPT.out _ (HSA.out.rowX 3 rfl)) HTL.out (Nat.lt_of_lt_of_le HI9.out (by decide)); have HSB := Aside0.mk (HSA.out.rowTo 0 rfl hrow hgrow hown); refine wpList_append_run rfl (.tmp 8) (.tmp 14) 28 28 rfl _ _ rfl rfl hrun ?_; clear hrun hrow hgrow hown c0 HSA; have hbx := BOX.out _ _ _ _ _ HSB.out; have e0 : w3.cell? ⟨n8, 0, none⟩ = some (.int .i64 t.f0) := (blk_cell hbx 0).trans rfl; have e1 : w3.cell? ⟨n8, 1, none⟩ = some (.string t.f1) := (blk_cell hbx 1).trans rfl; have e2 : w3.cell? ⟨n8, 2, none⟩ = some (.string t.f2) := (blk_cell hbx 2).trans rfl; have e3 : w3.cell? ⟨n8, 3, none⟩ = some (.int .i64 x) := (blk_cell hbx 3).trans rfl; have e4 : w3.cell? ⟨n8, 4, none⟩ = some (.int .i64 m) := (blk_cell hbx 4).trans rfl; have e5 : w3.cell? ⟨n8, 5, none⟩ = some (.bool true) := (blk_cell hbx 5).trans rfl; clear hbx)
       | (clear G2; at_builtin; have HSX := Aside0.mk (HSB.out.below ((Below.refl _ w3).alloc (Nat.le_refl _) (.cells #[.int .i64 t.f0, .string t.f1, .string t.f2, .int .i64 x, .int .i64 m, .bool true] 77))); obtain ⟨gb, cb, w4, hrun, hrow, hgrow, hown⟩ := appendX qI (l := (L.take c)) (qv true (t, (x, m))) w3.heap.size #[.int .i64 t.f0, .string t.f1, .string t.f2, .int .i64 x, .int .i64 m, .bool true] 28 (HSX.out.rowX 0 rfl) (heap_alloc_new w3 _) rfl (by show ((L.take c).length < _); rw [HTL.out]; exact HI9.out); rw [HTL.out] at hrun hrow hown; have HSC := Aside0.mk (HSX.out.rowTo 0 rfl hrow hgrow hown); refine wpList_append_run rfl (.tmp 16) (.tmp 18) 28 28 rfl _ _ rfl rfl hrun ?_; clear hrun hrow hgrow hown e0 e1 e2 e3 e4 e5 HSX; have c0 : w4.cell? ⟨rp, 1, none⟩ = some (.slice (some ⟨g, 0, none⟩) c c) := (blk_cell (HSC.out.blk 1 rfl) 1).trans rfl)
       | (clear G3; at_builtin; obtain ⟨Ad, cd, w5, hrun, hrow, hgrow, hown⟩ := appendPX qI 28 (HSC.out.rowX 0 rfl) (HPD.out _ (HSC.out.rowX 3 rfl)) HML.out HB9.out; have HSD := Aside0.mk (HSC.out.rowTo 0 rfl hrow hgrow hown); refine wpList_append_run rfl (.tmp 21) (.tmp 27) 28 28 rfl _ _ rfl rfl hrun ?_; clear hrun hrow hgrow hown c0; have c0 : w5.cell? ⟨rp, 1, none⟩ = some (.slice (some ⟨g, 0, none⟩) c c) := (blk_cell (HSD.out.blk 1 rfl) 1).trans rfl; have f0 : w5.frozen? ⟨rp, 1, none⟩ = false := frozen_of_row _ rp 1 _ _ (HSD.out.blk 1 rfl))
       )
     rw [← HQ.out]
     exact ⟨rfl, _, results_none rfl _ _ _, rfl, BACK.out _ _ _ _ (wput (A := Ad) (n := 0) (c := cd) HSD.out)⟩
   · have HPT := Aside0.mk (fun W (h : RowX qE W (.slice (some ⟨g, 0, none⟩) n c) L) => part_takeX (i := p) (c' := c) h HN.out HLE.out)
     have HPD := Aside0.mk (fun W (h : RowX qE W (.slice (some ⟨g, 0, none⟩) n c) L) => part_dropX (c' := c - p) (i := p) (m := n - p) h HN.out rfl)
     go_enter Tryz.func42, Tryz.ntmps42
     go_wp2_with (first
       | (clear G1; at_builtin; obtain ⟨Aa, ca, w3, hrun, hrow, hgrow, hown⟩ := appendPX qI 28 (HSA.out.rowX 0 rfl) (HPT.out _ (HSA.out.rowX 3 rfl)) HTL.out (Nat.lt_of_lt_of_le HI9.out (by decide)); have HSB := Aside0.mk (HSA.out.rowTo 0 rfl hrow hgrow hown); refine wpList_append_run rfl (.tmp 8) (.tmp 14) 28 28 rfl _ _ rfl rfl hrun ?_; clear hrun hrow hgrow hown c0 HSA; have hbx := BOX.out _ _ _ _ _ HSB.out; have e0 : w3.cell? ⟨n8, 0, none⟩ = some (.int .i64 t.f0) := (blk_cell hbx 0).trans rfl; have e1 : w3.cell? ⟨n8, 1, none⟩ = some (.string t.f1) := (blk_cell hbx 1).trans rfl; have e2 : w3.cell? ⟨n8, 2, none⟩ = some (.string t.f2) := (blk_cell hbx 2).trans rfl; have e3 : w3.cell? ⟨n8, 3, none⟩ = some (.int .i64 x) := (blk_cell hbx 3).trans rfl; have e4 : w3.cell? ⟨n8, 4, none⟩ = some (.int .i64 m) := (blk_cell hbx 4).trans rfl; have e5 : w3.cell? ⟨n8, 5, none⟩ = some (.bool true) := (blk_cell hbx 5).trans rfl; clear hbx)
       | (clear G2; at_builtin; have HSX := Aside0.mk (HSB.out.below ((Below.refl _ w3).alloc (Nat.le_refl _) (.cells #[.int .i64 t.f0, .string t.f1, .string t.f2, .int .i64 x, .int .i64 m, .bool true] 77))); obtain ⟨gb, cb, w4, hrun, hrow, hgrow, hown⟩ := appendX qI (l := (L.take p)) (qv true (t, (x, m))) w3.heap.size #[.int .i64 t.f0, .string t.f1, .string t.f2, .int .i64 x, .int .i64 m, .bool true] 28 (HSX.out.rowX 0 rfl) (heap_alloc_new w3 _) rfl (by show ((L.take p).length < _); rw [HTL.out]; exact HI9.out); rw [HTL.out] at hrun hrow hown; have HSC := Aside0.mk (HSX.out.rowTo 0 rfl hrow hgrow hown); refine wpList_append_run rfl (.tmp 16) (.tmp 18) 28 28 rfl _ _ rfl rfl hrun ?_; clear hrun hrow hgrow hown e0 e1 e2 e3 e4 e5 HSX; have c0 : w4.cell? ⟨rp, 1, none⟩ = some (.slice (some ⟨g, 0, none⟩) n c) := (blk_cell (HSC.out.blk 1 rfl) 1).trans rfl)
       | (clear G3; at_builtin; obtain ⟨Ad, cd, w5, hrun, hrow, hgrow, hown⟩ := appendPX qI 28 (HSC.out.rowX 0 rfl) (HPD.out _ (HSC.out.rowX 3 rfl)) HML.out HB9.out; have HSD := Aside0.mk (HSC.out.rowTo 0 rfl hrow hgrow hown); refine wpList_append_run rfl (.tmp 21) (.tmp 27) 28 28 rfl _ _ rfl rfl hrun ?_; clear hrun hrow hgrow hown c0; have c0 : w5.cell? ⟨rp, 1, none⟩ = some (.slice (some ⟨g, 0, none⟩) n c) := (blk_cell (HSD.out.blk 1 rfl) 1).trans rfl; have f0 : w5.frozen? ⟨rp, 1, none⟩ = false := frozen_of_row _ rp 1 _ _ (HSD.out.blk 1 rfl))
       )
     rw [← HQ.out]
     exact ⟨rfl, _, results_none rfl _ _ _, rfl, BACK.out _ _ _ _ (wput (A := Ad) (n := 0) (c := cd) HSD.out)⟩
end
end Go.Proofs.Kb
end
