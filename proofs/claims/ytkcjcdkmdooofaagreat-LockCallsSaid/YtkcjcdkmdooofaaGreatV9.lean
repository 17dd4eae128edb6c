/- Packed by shake.py: YtkcjcdkmdooofaaGreatRC13 YtkcjcdkmdooofaaGreatR YtkcjcdkmdooofaaGreatRC14 YtkcjcdkmdooofaaGreatRC15 YtkcjcdkmdooofaaGreatRC16 -/
import Derived.Deep.Slices
import Derived.ChangeArms
import Derived.DataReads
import Derived.Deep.CutBlock
import Derived.Deep.DeepCutAuto
import Derived.Test.YtkcjcdkmdooofaaGreatV8
set_option linter.unusedVariables false
set_option linter.unusedSimpArgs false
set_option linter.unusedSectionVars false
section
namespace Go.Proofs.Kb
open Go Go.RowKit Go.Proofs.YtkcjcdkmdooofaaGreat.Q Go.Proofs.YtkcjcdkmdooofaaGreatW.PrintWords Go.Proofs.YtkcjcdkmdooofaaGreatW.PrintLast Go.Proofs.YtkcjcdkmdooofaaGreatW.PrintMore
set_option maxRecDepth 100000
open Go.Proofs.Lk Go.Proofs.Mp
theorem fil_on {β : Type} {p : β → Bool} {l : List β} {i : Nat} {o : β} (h : l[i]? = some o) (hp : p o = true) : (l.take (i + 1)).filter p = (l.take i).filter p ++ [o] := by
 rw [List.take_add_one, h, Option.toList_some, List.filter_append, List.filter_cons, if_pos hp]
 rfl
theorem fil_off {β : Type} {p : β → Bool} {l : List β} {i : Nat} {o : β} (h : l[i]? = some o) (hp : p o = false) : (l.take (i + 1)).filter p = (l.take i).filter p := by
 rw [List.take_add_one, h, Option.toList_some, List.filter_append, List.filter_cons, if_neg (by rw [hp]; simp)]
 exact List.append_nil _
theorem rsweepA_cnt : ∀ (k : Nat) (t : S32) (r : RS S32) (i : Nat), (rsweepA k t r i).2.length + (rsweepA k t r i).1.waits.length ≤ r.waits.length
 | 0, t, r, i => by simp [rsweepA]
 | k + 1, t, r, i => by
   unfold rsweepA
   cases ho : r.waits[i]? with
   | none => simp
   | some o =>
     dsimp only
     split
     · have h1 := rsweepA_cnt k t ⟨rgiveL t o.2 r.holds, r.waits.eraseIdx i⟩ i
       have h2 := List.length_eraseIdx_of_lt (List.getElem?_eq_some_iff.1 ho).1
       have h3 := (List.getElem?_eq_some_iff.1 ho).1
       have h1 : _ + _ ≤ (r.waits.eraseIdx i).length := h1
       simp only [List.length_cons]
       omega
     · exact rsweepA_cnt k t r (i + 1)
theorem rsweep_cnt (t : S32) (r : RS S32) : (rsweep t r).2.length + (rsweep t r).1.waits.length ≤ r.waits.length := rsweepA_cnt _ t r 0
theorem RowX.part {α : Type} {E : EncT α} {w : World} {A : Option Addr} {n c : Nat} {l : List α} (h : RowX E w (.slice A n c) l) : PartX E w (.slice A n c) l := by
 rcases h.2.2 with ⟨h1, h2⟩ | ⟨g, cap, cur, h1, _⟩
 · exact .inl ⟨h1, List.eq_nil_of_length_eq_zero h2⟩
 · injection h1 with e1 e2 e3
   subst e1 e2 e3
   have := part_takeX (c' := c) (i := l.length) h rfl (Nat.le_refl _)
   rwa [List.take_length] at this
section
variable {w0 w w' : World} {F : Nat → Prop} {rp : Nat} {r : RS S32} {R R' : List Chunk}
theorem RQ.rowQ (h : RQ w0 F rp r R w) : RQ w0 F rp r (rowXC qE (.slice (some ⟨w.heap.size, 0, none⟩) 0 0) [] :: R) (w.alloc (.cells #[] 77)) :=
 h.more (c := rowXC qE (.slice (some ⟨w.heap.size, 0, none⟩) 0 0) []) ((Below.refl _ w).alloc (Nat.le_refl _) (.cells #[] 77)) (RowX.empty w) (nd_bl (.slice (some ⟨w.heap.size, 0, none⟩) 0 0)) (fun b hb => by
   have hb : b ∈ bl (.slice (some ⟨w.heap.size, 0, none⟩) 0 0) := hb
   rw [bl_slice] at hb
   simp at hb
   omega)
theorem RQ.frz (h : RQ w0 F rp r R w) {j : Nat} : w.frozen? ⟨rp, j, none⟩ = false := by
 obtain ⟨Ah, ch, Aw, cw, h⟩ := h
 exact frozen_of_row w rp j _ _ (h.blk 0 rfl)
theorem RQ.setH {L : List (S32 × One)} {A : Option Addr} {n c : Nat} (h : RQ w0 F rp r (rowXC qE (.slice A n c) (L.map (qv false)) :: R) w) : RQ w0 F rp ⟨L, r.waits⟩ R (w.setCell ⟨rp, 0, none⟩ (.slice A n c)) := by
 obtain ⟨Ah, ch, Aw, cw, h⟩ := h
 have h1 := h.upd 0 rfl (blkC rp (.cells #[.slice A n c, .slice Aw r.waits.length cw] 30 (0, 0))) (keep_set w rp 0 (.slice A n c) _ (by simp [blkC])) (blk_put (h.blk 0 rfl) 0 _ rfl) (nd_one rp) (fun b hb => .inl hb)
 exact RQ.mk' (r := ⟨L, r.waits⟩) (St.drop (A := [_]) ((show St w0 F _ ([_, _, _, _] ++ R) from h1).perm (B := [_, _, _, _] ++ R) ((perm_ix _ [1, 0, 3, 2] 4 rfl (by decide)).append_right R)))
set_option maxHeartbeats 32000000 in
theorem qrelease_calls (h : RQ w0 F rp r R w) (x : Int) (hn : r.holds.length + r.waits.length < 90000) (hs : SmallR r) :
   Calls Tryz.prog 13 #[.pointer (some ⟨rp, 0, none⟩), .int .i64 x] w fun E w' => ∃ A n c, E = .returned (.slice A n c) ∧ RQ w0 F rp (rrelease r x (rall r x)).1 (rowIC (.slice A n c) (rrelease r x (rall r x)).2 :: R) w' := by
 obtain ⟨Q, hQ⟩ : ∃ Q, (fun E w' => ∃ A n c, E = Ending.returned (.slice A n c) ∧ RQ w0 F rp (rrelease r x (rall r x)).1 (rowIC (.slice A n c) (rrelease r x (rall r x)).2 :: R) w') = Q := ⟨_, rfl⟩
 have HQ := Aside0.mk hQ
 rw [hQ]
 clear hQ
 have hu30 := Tryz.underlying30
 have hu28 := Tryz.underlying28
 have hu77 := Tryz.underlying77
 have hu75 := Tryz.underlying75
 have hu32 := Tryz.underlying32
 have hu34 := Tryz.underlying34
 have hu41 := Tryz.underlying41
 have hu43 := Tryz.underlying43
 have hu49 := Tryz.underlying49
 have hz77 := Tryz.sizeOf77
 have hz32 := Tryz.sizeOf32
 have hz34 := Tryz.sizeOf34
 have hz75 := Tryz.sizeOf75
 have HN := Aside0.mk hn
 have HSM := Aside0.mk hs
 have HS := Aside0.mk h
 obtain ⟨T, hT⟩ : ∃ T, rthings r x = T := ⟨_, rfl⟩
 have HTT := Aside0.mk hT
 have HTL := Aside0.mk (show T.length ≤ r.holds.length by rw [← hT]; exact rthings_len)
 have HTS := Aside0.mk (show ∀ y ∈ T, SmallT y by rw [← hT]; exact rthings_small hs)
 have THI := Aside0.mk (fun W (h : RQ w0 F rp r R W) => qthings_calls h x (by have := HN.out; omega) HSM.out)
 rw [hT] at THI
 obtain ⟨nt, hnt⟩ : ∃ n, T.length = n := ⟨_, rfl⟩
 rw [hnt] at THI
 have HNT := Aside0.mk hnt
 have WAIT := Aside0.mk (fun W A c (h : RQ w0 F rp r (rowTC (.slice A nt c) T :: R) W) => qwaiting_calls h x (by have := HN.out; omega))
 unfold rwaitV at WAIT
 have G1 := Aside0.mk trivial
 have G2 := G1
 cases hw : rwait r x with
 | none =>
   rw [hw] at WAIT
   simp only [Option.isSome_none] at WAIT
   have HW := Aside0.mk hw
   clear h hn hw hs hT hnt
   go_enter Tryz.func13, Tryz.ntmps13
   go_wp2_with (first
     | (clear G1; go_at_call 24; refine (THI.out _ HS.out).mono ?_; rintro E w1 ⟨Aa, ca, rfl, hs1⟩; have HS1 := Aside0.mk hs1; clear hs1 HS)
     | (go_at_call 15; refine (WAIT.out _ _ _ HS1.out).mono ?_; rintro E w2 ⟨rfl, hs2⟩; have HS2 := Aside0.mk (RQ.drop1 (hs2.alloc #[.int .i64 0, .string ⟨#[]⟩, .string ⟨#[]⟩, .int .i64 0] 34 rfl)); clear hs2 HS1))
   have hT0 := HS2.out.rowQ
   have hsz : (w2.alloc (.cells #[.int .i64 0, .string ⟨#[]⟩, .string ⟨#[]⟩, .int .i64 0] 34)).heap.size = w2.heap.size + 1 := by simp
   rw [hsz] at hT0
   have HTA : RQ w0 F rp r (rowXC qE (.slice (some ⟨w2.heap.size + 1, 0, none⟩) 0 0) [] :: rowTC (.slice Aa nt ca) T :: R) _ := hT0
   obtain ⟨r1, hr1⟩ : ∃ r1 : RS S32, r = r1 := ⟨_, rfl⟩
   obtain ⟨L, hL⟩ : ∃ L : List S32, T = L := ⟨_, rfl⟩
   obtain ⟨n9, hn9, hE⟩ : ∃ n, L.length = n ∧ n = nt := ⟨_, rfl, by rw [← hL]; exact HNT.out⟩
   subst hE
   rw [hr1, hL] at HTA
   have HREL := Aside0.mk (show rrelease r x (rall r x) = rsweeps L ⟨r1.holds.filter (fun o => o.2.1 != x), r1.waits⟩ by
     rw [← hr1, ← hL]
     exact (by unfold rrelease rall; rw [HW.out, findIdx_none (show r.waits.find? (fun o => o.2.1 == x) = none from HW.out), HTT.out]))
   have HNL := Aside0.mk hn9
   have HL9 := Aside0.mk (show n9 ≤ 100000 by rw [← hn9, ← hL]; have h1 := HN.out; have h2 := HTL.out; omega)
   obtain ⟨nh, hnh⟩ : ∃ n, r1.holds.length = n := ⟨_, rfl⟩
   have HNH := Aside0.mk hnh
   have HN1 := Aside0.mk (show r1.holds.length + r1.waits.length < 90000 by rw [← hr1]; exact HN.out)
   clear hr1 hL hn9 hnh
   have HT := Aside0.mk HTA
   clear hT0 HTA hsz HS2
   go_loopg [9, 10] nh (fun gq v9 v10 wx => ∃ (i na c : Nat) (A : Option Addr), v10 = .int .i64 i ∧ v9 = .slice A na c ∧ i + gq = nh ∧ Aside0 (((r1.holds.take i).filter fun o => o.2.1 != x).length = na) ∧ Aside0 (RQ w0 F rp r1 (rowXC qE (.slice A na c) (((r1.holds.take i).filter fun o => o.2.1 != x).map (qv false)) :: rowTC (.slice Aa n9 ca) L :: R) wx))
   case atStart => exact ⟨0, 0, 0, _, rfl, rfl, by omega, Aside0.mk rfl, HT⟩
   case round =>
     clear HT
     obtain ⟨i, na, c, A, rfl, rfl, hi, HNA, HS⟩ := hrel
     cases gk with
     | zero =>
       obtain ⟨Ah, ch, c0, pl⟩ := HS.out.openy HNH.out
       obtain rfl : i = nh := by omega
       have hin : ¬ (i : Int) < (i : Int) := by omega
       have e : r1.holds.take i = r1.holds := List.take_of_length_le (by rw [HNH.out]; exact Nat.le_refl _)
       rw [e] at HS
       have f0 : wr.frozen? ⟨rp, 0, none⟩ = false := HS.out.frz
       have HU := Aside0.mk (RQ.setH (L := r1.holds.filter fun o => o.2.1 != x) HS.out)
       have HU2 := Aside0.mk HU.out.rowI
       have hsz : (wr.setCell ⟨rp, 0, none⟩ (.slice A na c)).heap.size = wr.heap.size := by simp
       rw [hsz] at HU2
       obtain ⟨r2, hr2⟩ : ∃ r2 : RS S32, (⟨r1.holds.filter fun o => o.2.1 != x, r1.waits⟩ : RS S32) = r2 := ⟨_, rfl⟩
       have HR2 := Aside0.mk (show rrelease r x (rall r x) = rsweeps L r2 by rw [HREL.out, hr2])
       have HB2 := Aside0.mk (show r2.holds.length + r2.waits.length < 90000 by
         rw [← hr2]
         have h1 := HN1.out
         have h2 := List.length_filter_le (fun o : S32 × One => o.2.1 != x) r1.holds
         show (r1.holds.filter _).length + r1.waits.length < 90000
         omega)
       rw [hr2] at HU2
       clear e HS HU hsz hr2
       go_wp2
       clear c0 pl f0
       go_loopg [11, 12] n9 (fun gq v11 v12 wx => ∃ (k na c : Nat) (A : Option Addr) (acc : List Int) (rk : RS S32), v12 = .int .i64 k ∧ v11 = .slice A na c ∧ k + gq = n9 ∧ Aside0 (acc.length = na) ∧ Aside0 (rsweeps L r2 = ((rsweeps (L.drop k) rk).1, acc ++ (rsweeps (L.drop k) rk).2)) ∧ Aside0 (rsLen rk ≤ rsLen r2 ∧ acc.length + rk.waits.length ≤ r2.waits.length) ∧ Aside0 (RQ w0 F rp rk (rowIC (.slice A na c) acc :: rowTC (.slice Aa n9 ca) L :: R) wx))
       case atStart => exact ⟨0, 0, 0, _, [], r2, rfl, rfl, by omega, Aside0.mk rfl, Aside0.mk rfl, Aside0.mk ⟨Nat.le_refl _, by simp⟩, HU2⟩
       case round =>
         clear HU2
         obtain ⟨k, na, c, A, acc, rk, rfl, rfl, hk, HNA, HSW, HLE, HS⟩ := hrel
         cases gk with
         | zero =>
           obtain rfl : k = n9 := by omega
           have hkn : ¬ (k : Int) < (k : Int) := by omega
           go_wp2
           rw [← HQ.out]
           have h := HSW.out
           rw [List.drop_eq_nil_of_le (by rw [HNL.out]; exact Nat.le_refl _)] at h
           refine ⟨A, na, c, rfl, ?_⟩
           rw [HR2.out, h]
           show RQ w0 F rp rk (rowIC (.slice A na c) (acc ++ []) :: R) wr
           rw [List.append_nil]
           exact RQ.drop1 (HS.out.perm (R' := _ :: _ :: R) (List.Perm.swap _ _ _))
         | succ gq =>
           have hkn : (k : Int) < (n9 : Int) := by omega
           have hk0 : (0 : Int) ≤ (k : Int) := by omega
           have hk9 : (k : Int) ≤ 1000000 := by have := HL9.out; omega
           obtain ⟨t, ht⟩ : ∃ t, L[k]? = some t := ⟨_, List.getElem?_eq_getElem (by rw [HNL.out]; omega)⟩
           obtain ⟨g1, c1, hv, _⟩ := row_slice (n := L.length) (HS.out.rest.rowX 1 rfl) (by rw [HNL.out]; omega)
           obtain ⟨rfl, rfl⟩ : Aa = some ⟨g1, 0, none⟩ ∧ ca = c1 := by
             injection hv with e1 e2 e3
             exact ⟨e1, e3⟩
           obtain ⟨x0, x1, x2⟩ := (HS.out.rest.rowX 1 rfl).thg ht
           have HT := Aside0.mk ht
           clear hv ht
           have SW := Aside0.mk (fun W (h : RQ w0 F rp rk (rowIC (.slice A na c) acc :: rowTC (.slice (some ⟨g1, 0, none⟩) n9 ca) L :: R) W) => qsweep_calls h t (by have h1 := HLE.out.1; have h2 := HB2.out; unfold rsLen at h1; omega))
           unfold thgV at SW
           have HCN := Aside0.mk (rsweep_cnt t rk)
           have HAB := Aside0.mk (show (acc ++ (rsweep t rk).2).length = na + (rsweep t rk).2.length by rw [List.length_append, HNA.out])
           have HA9 := Aside0.mk (show na + (rsweep t rk).2.length < 1000000 by have h1 := HCN.out; have h2 := HLE.out.2; have h3 := HB2.out; have h4 := HNA.out; omega)
           have G1 := Aside0.mk trivial
           go_wp2_with (first
             | (clear G1; go_at_call 47; refine (SW.out _ HS.out).mono ?_; rintro E w5 ⟨A2, n2, c2, rfl, hs5⟩; have HS5 := Aside0.mk (hs5.perm (R' := _ :: _ :: _ :: R) (List.Perm.swap _ _ _)); clear hs5 HS x0 x1 x2)
             | (at_builtin; obtain ⟨A3, c3, w6, hrun, hrow, hgrow, hown⟩ := appendPX intI 41 (HS5.out.rest.rowX 0 rfl) (HS5.out.rest.rowX 1 rfl).part HAB.out HA9.out; have HS6 := Aside0.mk (RQ.drop1 ((HS5.out.sideTo hrow hgrow hown).perm (R' := _ :: _ :: _ :: R) (List.Perm.swap _ _ _))); refine wpList_append_run rfl (.tmp 92) (.tmp 98) 41 41 rfl _ _ rfl rfl hrun ?_; clear hrun hrow hgrow hown HS5))
           go_roundg gq
           case measure => omega
           case rel =>
             refine ⟨k + 1, _, c3, A3, _, (rsweep t rk).1, by go_num, rfl, by omega, HAB, Aside0.mk ?_, Aside0.mk ⟨?_, ?_⟩, HS6⟩
             · have h := HSW.out
               rw [drop_at HT.out] at h
               rw [h]
               show ((rsweeps (L.drop (k + 1)) (rsweep t rk).1).1, acc ++ ((rsweep t rk).2 ++ (rsweeps (L.drop (k + 1)) (rsweep t rk).1).2)) = _
               rw [List.append_assoc]
             · exact Nat.le_trans (rsweepA_len _ t rk 0) HLE.out.1
             · have h1 := HCN.out
               have h2 := HLE.out.2
               rw [List.length_append]
               omega
     | succ gq =>
       have hin : (i : Int) < (nh : Int) := by omega
       have hi0 : (0 : Int) ≤ (i : Int) := by omega
       have hi9 : (i : Int) ≤ 1000000 := by have := HN1.out; have := HNH.out; omega
       obtain ⟨o, ho⟩ : ∃ o, r1.holds[i]? = some o := ⟨_, List.getElem?_eq_getElem (by rw [HNH.out]; omega)⟩
       obtain ⟨g, cw, c0, pl, gl, d0, d1, d2, d3, d4, d5⟩ := HS.out.openh HNH.out ho
       have HO := Aside0.mk ho
       clear ho
       cases hx : (o.2.1 == x) with
       | true =>
         have hx2 : (o.2.1 != x) = false := by unfold bne; rw [hx]; rfl
         have e : (r1.holds.take (i + 1)).filter (fun o => o.2.1 != x) = ((r1.holds.take i).filter fun o => o.2.1 != x) := fil_off HO.out hx2
         go_wp2
         go_roundg gq
         case measure => omega
         case rel => exact ⟨i + 1, na, c, A, by go_num, rfl, by omega, Aside0.mk (by rw [e]; exact HNA.out), Aside0.mk (by rw [e]; exact HS.out)⟩
       | false =>
         have hx2 : (o.2.1 != x) = true := by unfold bne; rw [hx]; rfl
         have HFE := Aside0.mk (show (r1.holds.take (i + 1)).filter (fun o => o.2.1 != x) = ((r1.holds.take i).filter fun o => o.2.1 != x) ++ [o] from fil_on HO.out hx2)
         have HML := Aside0.mk (show (((r1.holds.take i).filter fun o => o.2.1 != x).map (qv false)).length = na by rw [List.length_map, HNA.out])
         have HAB := Aside0.mk (show na < 999999 by have h1 := HNA.out; have h2 := List.length_filter_le (fun o : S32 × One => o.2.1 != x) (r1.holds.take i); have h3 : (r1.holds.take i).length ≤ i := (by rw [List.length_take]; omega); have h4 := HN1.out; have h5 := HNH.out; omega)
         go_wp2_with (at_builtin; have HSE := Aside0.mk (HS.out.below ((Below.refl _ wr).alloc (Nat.le_refl _) (.cells #[.int .i64 o.1.f0, .string o.1.f1, .string o.1.f2, .int .i64 o.2.1, .int .i64 o.2.2, .bool false] 77))); obtain ⟨g9, c9, w9, hrun, hrow, hgrow, hown⟩ := appendX qI (v := .slice A na c) (qv false o) wr.heap.size #[.int .i64 o.1.f0, .string o.1.f1, .string o.1.f2, .int .i64 o.2.1, .int .i64 o.2.2, .bool false] 28 (HSE.out.rest.rowX 0 rfl) (heap_alloc_new wr _) rfl (by rw [HML.out]; exact HAB.out); have HSF := Aside0.mk (HSE.out.sideTo hrow hgrow hown); refine wpList_append_run rfl (.tmp 71) (.tmp 79) 28 28 rfl _ _ rfl rfl hrun ?_; clear hrun hrow hgrow hown HSE; rw [HML.out] at HSF ⊢)
         go_roundg gq
         case measure => omega
         case rel =>
           refine ⟨i + 1, na + 1, c9, some ⟨g9, 0, none⟩, by go_num, rfl, by omega, Aside0.mk ?_, Aside0.mk ?_⟩
           · rw [HFE.out, List.length_append, HNA.out]; rfl
           · rw [HFE.out, List.map_append]
             exact HSF.out
 | some q =>
   rw [hw] at WAIT
   simp only [Option.isSome_some] at WAIT
   unfold wantV at WAIT
   have HW := Aside0.mk hw
   have hqs : SmallT q.1 := hs.2 q (List.mem_of_find?_eq_some hw)
   have PUT := Aside0.mk (fun W A c B (h : RQ w0 F rp r (rowTC (.slice A nt c) T :: B :: R) W) => h.put HNT.out q.1 hqs HTS.out (by have h1 := HN.out; have h2 := HTL.out; have h3 := HNT.out; omega))
   unfold thgV at PUT
   obtain ⟨nw, hnw⟩ : ∃ n, r.waits.length = n := ⟨_, rfl⟩
   have HNW := Aside0.mk hnw
   clear h hn hw hs hT hnt hnw hqs
   go_enter Tryz.func13, Tryz.ntmps13
   go_wp2_with (first
     | (clear G1; go_at_call 24; refine (THI.out _ HS.out).mono ?_; rintro E w1 ⟨A1, c1, rfl, hs1⟩; have HS1 := Aside0.mk hs1; clear hs1 HS)
     | (clear G2; go_at_call 15; refine (WAIT.out _ _ _ HS1.out).mono ?_; rintro E w2 ⟨rfl, hs2⟩; have hs3 := hs2.alloc #[.int .i64 q.1.f0, .string q.1.f1, .string q.1.f2, .int .i64 q.2.2] 34 rfl; have e0 := (blk_cell (hs3.rest.blk 0 rfl) 0).trans rfl; have e1 := (blk_cell (hs3.rest.blk 0 rfl) 1).trans rfl; have e2 := (blk_cell (hs3.rest.blk 0 rfl) 2).trans rfl; have HS2 := Aside0.mk (hs3.perm (R' := _ :: _ :: R) (List.Perm.swap _ _ _)); clear hs2 hs3 HS1)
     | (go_at_call 52; refine (PUT.out _ _ _ _ HS2.out).mono ?_; rintro E w3 ⟨Aa, ca, rfl, hs3⟩; have hs4 := RQ.drop1 (hs3.perm (R' := _ :: _ :: R) (List.Perm.swap _ _ _)); obtain ⟨Aw, cw, c0, pl⟩ := hs4.openz HNW.out; have HS4 := Aside0.mk hs4; clear hs3 hs4 HS2 e0 e1 e2))
   clear c0 pl
   go_loopg [8] nw (fun gq v8 wx => ∃ i : Nat, v8 = .int .i64 i ∧ i + gq = nw ∧ Aside0 ((r.waits.take i).find? (fun o => o.2.1 == x) = none) ∧ Aside0 (RQ w0 F rp r (rowTC (.slice Aa (putT ltTB T q.1).length ca) (putT ltTB T q.1) :: R) wx))
   case atStart => exact ⟨0, rfl, by omega, Aside0.mk rfl, HS4⟩
   case round =>
     clear HS4
     obtain ⟨i, rfl, hi, HF, HS⟩ := hrel
     cases gk with
     | zero =>
       exfalso
       have h := HF.out
       rw [List.take_of_length_le (by rw [HNW.out]; omega)] at h
       have h2 := HW.out
       unfold rwait at h2
       rw [h] at h2
       cases h2
     | succ gq =>
       have hin : (i : Int) < (nw : Int) := by omega
       have hi0 : (0 : Int) ≤ (i : Int) := by omega
       have hi9 : (i : Int) ≤ 1000000 := by have := HN.out; have := HNW.out; omega
       obtain ⟨o, ho⟩ : ∃ o, r.waits[i]? = some o := ⟨_, List.getElem?_eq_getElem (by rw [HNW.out]; omega)⟩
       obtain ⟨g, cw, c0, pl, gl, d0, d1, d2, d3, d4, d5⟩ := HS.out.openw HNW.out ho
       have HO := Aside0.mk ho
       have HLT := Aside0.mk (List.getElem?_eq_some_iff.1 ho).1
       clear ho
       cases hx : (o.2.1 == x) with
       | false =>
         go_wp2
         go_roundg gq
         case measure => omega
         case rel => exact ⟨i + 1, by go_num, by omega, Aside0.mk (find_snoc HO.out HF.out hx), HS⟩
       | true =>
         have DROP := Aside0.mk (fun W (h : RQ w0 F rp r (rowTC (.slice Aa (putT ltTB T q.1).length ca) (putT ltTB T q.1) :: R) W) => qdrop_calls h i HLT.out (by have := HN.out; omega))
         have HFI := Aside0.mk (findIdx_here HO.out HF.out hx)
         go_wp2_with (go_at_call 46; refine (DROP.out _ HS.out).mono ?_; rintro E w6 ⟨rfl, hs6⟩; have HS6 := Aside0.mk hs6; clear hs6 HS c0 pl gl d0 d1 d2 d3 d4 d5)
         have HTA := HS6.out.rowQ
         obtain ⟨r1, hr1⟩ : ∃ r1 : RS S32, (⟨r.holds, r.waits.eraseIdx i⟩ : RS S32) = r1 := ⟨_, rfl⟩
         obtain ⟨L, hL⟩ : ∃ L : List S32, putT ltTB T q.1 = L := ⟨_, rfl⟩
         obtain ⟨n9, hn9⟩ : ∃ n, L.length = n := ⟨_, rfl⟩
         rw [hr1, hL, hn9] at HTA
         rw [hL, hn9]
         have HREL := Aside0.mk (show rrelease r x (rall r x) = rsweeps L ⟨r1.holds.filter (fun o => o.2.1 != x), r1.waits⟩ by
           rw [← hr1, ← hL]
           exact (by unfold rrelease rall; rw [HW.out, HFI.out, HTT.out]))
         have HNL := Aside0.mk hn9
         have HL9 := Aside0.mk (show n9 ≤ 100000 by rw [← hn9, ← hL]; have h1 := HN.out; have h2 := HTL.out; have h3 := putT_len ltTB T q.1; omega)
         obtain ⟨nh, hnh⟩ : ∃ n, r1.holds.length = n := ⟨_, rfl⟩
         have HNH := Aside0.mk hnh
         have HN1 := Aside0.mk (show r1.holds.length + r1.waits.length < 90000 by rw [← hr1]; have h1 := HN.out; have h2 := List.length_eraseIdx_le r.waits i; show r.holds.length + (r.waits.eraseIdx i).length < 90000; omega)
         clear hr1 hL hn9 hnh
         have HT := Aside0.mk HTA
         clear HTA HS6
         go_loopg [9, 10] nh (fun gq v9 v10 wx => ∃ (i na c : Nat) (A : Option Addr), v10 = .int .i64 i ∧ v9 = .slice A na c ∧ i + gq = nh ∧ Aside0 (((r1.holds.take i).filter fun o => o.2.1 != x).length = na) ∧ Aside0 (RQ w0 F rp r1 (rowXC qE (.slice A na c) (((r1.holds.take i).filter fun o => o.2.1 != x).map (qv false)) :: rowTC (.slice Aa n9 ca) L :: R) wx))
         case atStart => exact ⟨0, 0, 0, _, rfl, rfl, by omega, Aside0.mk rfl, HT⟩
         case round =>
           clear HT
           obtain ⟨i, na, c, A, rfl, rfl, hi, HNA, HS⟩ := hrel
           cases gk with
           | zero =>
             obtain ⟨Ah, ch, c0, pl⟩ := HS.out.openy HNH.out
             obtain rfl : i = nh := by omega
             have hin : ¬ (i : Int) < (i : Int) := by omega
             have e : r1.holds.take i = r1.holds := List.take_of_length_le (by rw [HNH.out]; exact Nat.le_refl _)
             rw [e] at HS
             have f0 : wr.frozen? ⟨rp, 0, none⟩ = false := HS.out.frz
             have HU := Aside0.mk (RQ.setH (L := r1.holds.filter fun o => o.2.1 != x) HS.out)
             have HU2 := Aside0.mk HU.out.rowI
             have hsz : (wr.setCell ⟨rp, 0, none⟩ (.slice A na c)).heap.size = wr.heap.size := by simp
             rw [hsz] at HU2
             obtain ⟨r2, hr2⟩ : ∃ r2 : RS S32, (⟨r1.holds.filter fun o => o.2.1 != x, r1.waits⟩ : RS S32) = r2 := ⟨_, rfl⟩
             have HR2 := Aside0.mk (show rrelease r x (rall r x) = rsweeps L r2 by rw [HREL.out, hr2])
             have HB2 := Aside0.mk (show r2.holds.length + r2.waits.length < 90000 by
               rw [← hr2]
               have h1 := HN1.out
               have h2 := List.length_filter_le (fun o : S32 × One => o.2.1 != x) r1.holds
               show (r1.holds.filter _).length + r1.waits.length < 90000
               omega)
             rw [hr2] at HU2
             clear e HS HU hsz hr2
             go_wp2
             clear c0 pl f0
             go_loopg [11, 12] n9 (fun gq v11 v12 wx => ∃ (k na c : Nat) (A : Option Addr) (acc : List Int) (rk : RS S32), v12 = .int .i64 k ∧ v11 = .slice A na c ∧ k + gq = n9 ∧ Aside0 (acc.length = na) ∧ Aside0 (rsweeps L r2 = ((rsweeps (L.drop k) rk).1, acc ++ (rsweeps (L.drop k) rk).2)) ∧ Aside0 (rsLen rk ≤ rsLen r2 ∧ acc.length + rk.waits.length ≤ r2.waits.length) ∧ Aside0 (RQ w0 F rp rk (rowIC (.slice A na c) acc :: rowTC (.slice Aa n9 ca) L :: R) wx))
             case atStart => exact ⟨0, 0, 0, _, [], r2, rfl, rfl, by omega, Aside0.mk rfl, Aside0.mk rfl, Aside0.mk ⟨Nat.le_refl _, by simp⟩, HU2⟩
             case round =>
               clear HU2
               obtain ⟨k, na, c, A, acc, rk, rfl, rfl, hk, HNA, HSW, HLE, HS⟩ := hrel
               cases gk with
               | zero =>
                 obtain rfl : k = n9 := by omega
                 have hkn : ¬ (k : Int) < (k : Int) := by omega
                 go_wp2
                 rw [← HQ.out]
                 have h := HSW.out
                 rw [List.drop_eq_nil_of_le (by rw [HNL.out]; exact Nat.le_refl _)] at h
                 refine ⟨A, na, c, rfl, ?_⟩
                 rw [HR2.out, h]
                 show RQ w0 F rp rk (rowIC (.slice A na c) (acc ++ []) :: R) wr
                 rw [List.append_nil]
                 exact RQ.drop1 (HS.out.perm (R' := _ :: _ :: R) (List.Perm.swap _ _ _))
               | succ gq =>
                 have hkn : (k : Int) < (n9 : Int) := by omega
                 have hk0 : (0 : Int) ≤ (k : Int) := by omega
                 have hk9 : (k : Int) ≤ 1000000 := by have := HL9.out; omega
                 obtain ⟨t, ht⟩ : ∃ t, L[k]? = some t := ⟨_, List.getElem?_eq_getElem (by rw [HNL.out]; omega)⟩
                 obtain ⟨g1, c1, hv, _⟩ := row_slice (n := L.length) (HS.out.rest.rowX 1 rfl) (by rw [HNL.out]; omega)
                 obtain ⟨rfl, rfl⟩ : Aa = some ⟨g1, 0, none⟩ ∧ ca = c1 := by
                   injection hv with e1 e2 e3
                   exact ⟨e1, e3⟩
                 obtain ⟨x0, x1, x2⟩ := (HS.out.rest.rowX 1 rfl).thg ht
                 have HT := Aside0.mk ht
                 clear hv ht
                 have SW := Aside0.mk (fun W (h : RQ w0 F rp rk (rowIC (.slice A na c) acc :: rowTC (.slice (some ⟨g1, 0, none⟩) n9 ca) L :: R) W) => qsweep_calls h t (by have h1 := HLE.out.1; have h2 := HB2.out; unfold rsLen at h1; omega))
                 unfold thgV at SW
                 have HCN := Aside0.mk (rsweep_cnt t rk)
                 have HAB := Aside0.mk (show (acc ++ (rsweep t rk).2).length = na + (rsweep t rk).2.length by rw [List.length_append, HNA.out])
                 have HA9 := Aside0.mk (show na + (rsweep t rk).2.length < 1000000 by have h1 := HCN.out; have h2 := HLE.out.2; have h3 := HB2.out; have h4 := HNA.out; omega)
                 have G1 := Aside0.mk trivial
                 go_wp2_with (first
                   | (clear G1; go_at_call 47; refine (SW.out _ HS.out).mono ?_; rintro E w5 ⟨A2, n2, c2, rfl, hs5⟩; have HS5 := Aside0.mk (hs5.perm (R' := _ :: _ :: _ :: R) (List.Perm.swap _ _ _)); clear hs5 HS x0 x1 x2)
                   | (at_builtin; obtain ⟨A3, c3, w6, hrun, hrow, hgrow, hown⟩ := appendPX intI 41 (HS5.out.rest.rowX 0 rfl) (HS5.out.rest.rowX 1 rfl).part HAB.out HA9.out; have HS6 := Aside0.mk (RQ.drop1 ((HS5.out.sideTo hrow hgrow hown).perm (R' := _ :: _ :: _ :: R) (List.Perm.swap _ _ _))); refine wpList_append_run rfl (.tmp 92) (.tmp 98) 41 41 rfl _ _ rfl rfl hrun ?_; clear hrun hrow hgrow hown HS5))
                 go_roundg gq
                 case measure => omega
                 case rel =>
                   refine ⟨k + 1, _, c3, A3, _, (rsweep t rk).1, by go_num, rfl, by omega, HAB, Aside0.mk ?_, Aside0.mk ⟨?_, ?_⟩, HS6⟩
                   · have h := HSW.out
                     rw [drop_at HT.out] at h
                     rw [h]
                     show ((rsweeps (L.drop (k + 1)) (rsweep t rk).1).1, acc ++ ((rsweep t rk).2 ++ (rsweeps (L.drop (k + 1)) (rsweep t rk).1).2)) = _
                     rw [List.append_assoc]
                   · exact Nat.le_trans (rsweepA_len _ t rk 0) HLE.out.1
                   · have h1 := HCN.out
                     have h2 := HLE.out.2
                     rw [List.length_append]
                     omega
           | succ gq =>
             have hin : (i : Int) < (nh : Int) := by omega
             have hi0 : (0 : Int) ≤ (i : Int) := by omega
             have hi9 : (i : Int) ≤ 1000000 := by have := HN1.out; have := HNH.out; omega
             obtain ⟨o, ho⟩ : ∃ o, r1.holds[i]? = some o := ⟨_, List.getElem?_eq_getElem (by rw [HNH.out]; omega)⟩
             obtain ⟨g, cw, c0, pl, gl, d0, d1, d2, d3, d4, d5⟩ := HS.out.openh HNH.out ho
             have HO := Aside0.mk ho
             clear ho
             cases hx : (o.2.1 == x) with
             | true =>
               have hx2 : (o.2.1 != x) = false := by unfold bne; rw [hx]; rfl
               have e : (r1.holds.take (i + 1)).filter (fun o => o.2.1 != x) = ((r1.holds.take i).filter fun o => o.2.1 != x) := fil_off HO.out hx2
               go_wp2
               go_roundg gq
               case measure => omega
               case rel => exact ⟨i + 1, na, c, A, by go_num, rfl, by omega, Aside0.mk (by rw [e]; exact HNA.out), Aside0.mk (by rw [e]; exact HS.out)⟩
             | false =>
               have hx2 : (o.2.1 != x) = true := by unfold bne; rw [hx]; rfl
               have HFE := Aside0.mk (show (r1.holds.take (i + 1)).filter (fun o => o.2.1 != x) = ((r1.holds.take i).filter fun o => o.2.1 != x) ++ [o] from fil_on HO.out hx2)
               have HML := Aside0.mk (show (((r1.holds.take i).filter fun o => o.2.1 != x).map (qv false)).length = na by rw [List.length_map, HNA.out])
               have HAB := Aside0.mk (show na < 999999 by have h1 := HNA.out; have h2 := List.length_filter_le (fun o : S32 × One => o.2.1 != x) (r1.holds.take i); have h3 : (r1.holds.take i).length ≤ i := (by rw [List.length_take]; omega); have h4 := HN1.out; have h5 := HNH.out; omega)
               go_wp2_with (at_builtin; have HSE := Aside0.mk (HS.out.below ((Below.refl _ wr).alloc (Nat.le_refl _) (.cells #[.int .i64 o.1.f0, .string o.1.f1, .string o.1.f2, .int .i64 o.2.1, .int .i64 o.2.2, .bool false] 77))); obtain ⟨g9, c9, w9, hrun, hrow, hgrow, hown⟩ := appendX qI (v := .slice A na c) (qv false o) wr.heap.size #[.int .i64 o.1.f0, .string o.1.f1, .string o.1.f2, .int .i64 o.2.1, .int .i64 o.2.2, .bool false] 28 (HSE.out.rest.rowX 0 rfl) (heap_alloc_new wr _) rfl (by rw [HML.out]; exact HAB.out); have HSF := Aside0.mk (HSE.out.sideTo hrow hgrow hown); refine wpList_append_run rfl (.tmp 71) (.tmp 79) 28 28 rfl _ _ rfl rfl hrun ?_; clear hrun hrow hgrow hown HSE; rw [HML.out] at HSF ⊢)
               go_roundg gq
               case measure => omega
               case rel =>
                 refine ⟨i + 1, na + 1, c9, some ⟨g9, 0, none⟩, by go_num, rfl, by omega, Aside0.mk ?_, Aside0.mk ?_⟩
                 · rw [HFE.out, List.length_append, HNA.out]; rfl
                 · rw [HFE.out, List.map_append]
                   exact HSF.out
end
end Go.Proofs.Kb
end
section
namespace Go.Proofs.YtkcjcdkmdooofaaGreat.Q
open Go.RowKit Go.Proofs.YtkcjcdkmdooofaaGreatW.PrintWords Go.Proofs.YtkcjcdkmdooofaaGreatW.PrintLast Go.Proofs.YtkcjcdkmdooofaaGreatW.PrintMore
attribute [local go_sem] max2_int min2_int max_two min_two max_three min_three max_four min_four
set_option maxRecDepth 100000
def Rd {α : Type} (P : Program) (d : Kd α) (t : TypeId) (wf : α → Prop) : Prop :=
 ∀ {H : Type} (enc : TypeId × Value → H) (w : World) (base : Nat) (spare : Nat → Bool) (held : Bool) (fuel : Nat) (cs : List Value) (x : DataW H × List MemPlace),
   DataW.trod enc P w base spare held fuel t cs = some x → ∃ a, d.K w a cs ∧ wf a
theorem Rd.int {P : Program} {t : TypeId} {k : IntKind} (ht : P.underlying t = some (.int k)) : Rd P (Kd.int k) t (fun n => (Lit.int k n).wf = true) := by
 intro H enc w base spare held fuel cs x h
 obtain ⟨n, rfl, _, hw⟩ := DataW.trod_int ht h
 exact ⟨n, rfl, hw⟩
theorem Rd.bool {P : Program} {t : TypeId} (ht : P.underlying t = some .bool) : Rd P Kd.bool t (fun _ => True) := by
 intro H enc w base spare held fuel cs x h
 obtain ⟨n, rfl, _⟩ := DataW.trod_bool ht h
 exact ⟨n, rfl, trivial⟩
theorem Rd.string {P : Program} {t : TypeId} (ht : P.underlying t = some .string) : Rd P Kd.string t (fun s => s.size ≤ maxLen) := by
 intro H enc w base spare held fuel cs x h
 obtain ⟨n, rfl, _, hs⟩ := DataW.trod_string ht h
 exact ⟨n, rfl, hs⟩
theorem Rd.slice {α : Type} {P : Program} {d : Kd α} {t e : TypeId} {wf : α → Prop} (ht : P.underlying t = some (.slice e)) (hc : P.cellsOf e = d.sz) (hd : Rd P d e wf) :
   Rd P (Kd.slice e d) t (fun l => l.length ≤ maxLen ∧ ∀ a ∈ l, wf a) := by
 intro H enc w base spare held fuel cs x h
 rcases Go.Deep.open_slice ht h with ⟨rfl, _⟩ | ⟨a, len, cap, m, n, D, Pl, rfl, _, hl, hm, hmm, _, hi⟩
 · exact ⟨[], ⟨none, 0, rfl, Nat.le_refl _, rfl, Nat.zero_le _, fun h => absurd h (Nat.lt_irrefl _)⟩, Nat.zero_le _, fun _ h => by cases h⟩
 · have hlm : len ≤ m := by rw [hmm]; split <;> omega
   have hex : ∀ i, i < len → ∃ v, wf v ∧ ∃ c, c.length = d.sz ∧ d.K w v c ∧ ∀ j u, c[j]? = some u → w.cell? (a.add (i * d.sz + j)) = some u := by
     intro i hilt
     obtain ⟨cs', hcs, ht'⟩ := hi i (by omega)
     obtain ⟨v, hK, hw⟩ := hd enc w base spare held n cs' _ ht'
     rw [hc] at hcs
     obtain ⟨_, hlen, hat⟩ := World.cells?_some hcs
     refine ⟨v, hw, cs', hlen, hK, fun j u hj => ?_⟩
     have hjl : j < d.sz := by rw [← hlen]; exact (List.getElem?_eq_some_iff.1 hj).1
     have := hat j hjl
     rw [Go.Deep.add_add] at this
     rw [this, hj]
   have hex' : ∀ i : Fin len, ∃ v, wf v ∧ ∃ c, c.length = d.sz ∧ d.K w v c ∧ ∀ j u, c[j]? = some u → w.cell? (a.add (i.val * d.sz + j)) = some u := fun i => hex i.val i.isLt
   have hch : ∃ g : Fin len → α, ∀ i : Fin len, wf (g i) ∧ ∃ c, c.length = d.sz ∧ d.K w (g i) c ∧ ∀ j u, c[j]? = some u → w.cell? (a.add (i.val * d.sz + j)) = some u := ⟨fun i => Classical.choose (hex' i), fun i => Classical.choose_spec (hex' i)⟩
   obtain ⟨g, hg⟩ := hch
   have hlen : (List.ofFn g).length = len := List.length_ofFn
   refine ⟨List.ofFn g, ⟨some a, cap, by rw [hlen], by rw [hlen]; exact hl, rfl, by rw [hlen]; simp only [maxLen] at hm; omega, fun _ => ⟨a, rfl, fun j p hp => ?_⟩⟩, by rw [hlen]; omega, fun v hv => ?_⟩
   · obtain ⟨hj, he⟩ := List.getElem?_eq_some_iff.1 hp
     rw [List.getElem_ofFn] at he
     subst he
     exact (hg ⟨j, by omega⟩).2
   · obtain ⟨i, rfl⟩ := List.mem_ofFn.1 hv
     exact (hg i).1
theorem Rd.arg_slice {α : Type} {P : Program} {d : Kd α} {t e : TypeId} {wf : α → Prop} (hd : Rd P (Kd.slice e d) t (fun l => l.length ≤ maxLen ∧ ∀ a ∈ l, wf a)) {H : Type} {enc : TypeId × Value → H} {w : World} {base : Nat} {spare : Nat → Bool} {held : Bool} {A : Option Addr} {n c : Nat} {x : DataW H} {p : List MemPlace}
   (h : DataW.Trod enc P w base spare held t (.slice A n c) x p) : ∃ l : List α, l.length = n ∧ d.C w A l.length l ∧ l.length ≤ c ∧ l.length ≤ maxLen ∧ ∀ a ∈ l, wf a := by
 obtain ⟨fuel, hf⟩ := h
 obtain ⟨l, ⟨A', c', he, hl, hC⟩, hm, hw⟩ := hd enc w base spare held fuel _ _ hf
 have he' : [Value.slice A n c] = [.slice A' l.length c'] := he
 injection he' with he' _
 injection he' with h1 h2 h3
 subst h1; subst h3
 exact ⟨l, h2.symm, hC, hl, hm, hw⟩
theorem some_of_len {α : Type} {xs : List α} {n j : Nat} (h : xs.length = n) (hj : j < n) : ∃ y, xs[j]? = some y := ⟨_, List.getElem?_eq_getElem (by omega)⟩
def wf32 (v : S32) : Prop := (fun n => (Lit.int .i64 n).wf = true) v.f0 ∧ (fun s => s.size ≤ maxLen) v.f1 ∧ (fun s => s.size ≤ maxLen) v.f2
theorem rd32 : Rd Tryz.prog k32 32 wf32 := by
 intro H enc w base spare held fuel cs x h
 obtain ⟨xs, n, _, _, hlen, hl, hf⟩ := DataW.trod_struct Tryz.underlying32 h
 rw [show Tryz.prog.cellsOf 32 = 3 by kernel_rfl] at hlen
 obtain ⟨c0, c1, c2, rfl⟩ : ∃ c0 c1 c2, cs = [c0, c1, c2] := by
   match cs, hlen with
   | [c0, c1, c2], _ => exact ⟨c0, c1, c2, rfl⟩
 obtain ⟨y0, hy0⟩ := some_of_len hl (j := 0) (by decide)
 have g0 : DataW.trod enc Tryz.prog w base spare held n 3 ((([c0, c1, c2] : List Value).drop 0).take (Tryz.prog.cellsOf 3)) = some y0 := (hf 0 _ rfl).trans hy0
 rw [show Tryz.prog.cellsOf 3 = 1 by kernel_rfl] at g0
 obtain ⟨a0, K0, w0⟩ := (Rd.int Tryz.underlying3) enc w base spare held n _ _ g0
 obtain ⟨y1, hy1⟩ := some_of_len hl (j := 1) (by decide)
 have g1 : DataW.trod enc Tryz.prog w base spare held n 9 ((([c0, c1, c2] : List Value).drop 1).take (Tryz.prog.cellsOf 9)) = some y1 := (hf 1 _ rfl).trans hy1
 rw [show Tryz.prog.cellsOf 9 = 1 by kernel_rfl] at g1
 obtain ⟨a1, K1, w1⟩ := (Rd.string Tryz.underlying9) enc w base spare held n _ _ g1
 obtain ⟨y2, hy2⟩ := some_of_len hl (j := 2) (by decide)
 have g2 : DataW.trod enc Tryz.prog w base spare held n 9 ((([c0, c1, c2] : List Value).drop 2).take (Tryz.prog.cellsOf 9)) = some y2 := (hf 2 _ rfl).trans hy2
 rw [show Tryz.prog.cellsOf 9 = 1 by kernel_rfl] at g2
 obtain ⟨a2, K2, w2⟩ := (Rd.string Tryz.underlying9) enc w base spare held n _ _ g2
 exact ⟨⟨a0, a1, a2⟩, ⟨[c0], [c1, c2], rfl, K0, ⟨[c1], [c2], rfl, K1, K2⟩⟩, ⟨w0, w1, w2⟩⟩
def wf34 (v : S34) : Prop := wf32 v.f0 ∧ (fun n => (Lit.int .i64 n).wf = true) v.f1
theorem rd34 : Rd Tryz.prog k34 34 wf34 := by
 intro H enc w base spare held fuel cs x h
 obtain ⟨xs, n, _, _, hlen, hl, hf⟩ := DataW.trod_struct Tryz.underlying34 h
 rw [show Tryz.prog.cellsOf 34 = 4 by kernel_rfl] at hlen
 obtain ⟨c0, c1, c2, c3, rfl⟩ : ∃ c0 c1 c2 c3, cs = [c0, c1, c2, c3] := by
   match cs, hlen with
   | [c0, c1, c2, c3], _ => exact ⟨c0, c1, c2, c3, rfl⟩
 obtain ⟨y0, hy0⟩ := some_of_len hl (j := 0) (by decide)
 have g0 : DataW.trod enc Tryz.prog w base spare held n 32 ((([c0, c1, c2, c3] : List Value).drop 0).take (Tryz.prog.cellsOf 32)) = some y0 := (hf 0 _ rfl).trans hy0
 rw [show Tryz.prog.cellsOf 32 = 3 by kernel_rfl] at g0
 obtain ⟨a0, K0, w0⟩ := rd32 enc w base spare held n _ _ g0
 obtain ⟨y1, hy1⟩ := some_of_len hl (j := 1) (by decide)
 have g1 : DataW.trod enc Tryz.prog w base spare held n 3 ((([c0, c1, c2, c3] : List Value).drop 3).take (Tryz.prog.cellsOf 3)) = some y1 := (hf 1 _ rfl).trans hy1
 rw [show Tryz.prog.cellsOf 3 = 1 by kernel_rfl] at g1
 obtain ⟨a1, K1, w1⟩ := (Rd.int Tryz.underlying3) enc w base spare held n _ _ g1
 exact ⟨⟨a0, a1⟩, ⟨[c0, c1, c2], [c3], rfl, K0, K1⟩, ⟨w0, w1⟩⟩
def wf36 (v : S36) : Prop := (fun n => (Lit.int .i64 n).wf = true) v.f0 ∧ (fun n => (Lit.int .i64 n).wf = true) v.f1 ∧ wf34 v.f2
theorem rd36 : Rd Tryz.prog k36 36 wf36 := by
 intro H enc w base spare held fuel cs x h
 obtain ⟨xs, n, _, _, hlen, hl, hf⟩ := DataW.trod_struct Tryz.underlying36 h
 rw [show Tryz.prog.cellsOf 36 = 6 by kernel_rfl] at hlen
 obtain ⟨c0, c1, c2, c3, c4, c5, rfl⟩ : ∃ c0 c1 c2 c3 c4 c5, cs = [c0, c1, c2, c3, c4, c5] := by
   match cs, hlen with
   | [c0, c1, c2, c3, c4, c5], _ => exact ⟨c0, c1, c2, c3, c4, c5, rfl⟩
 obtain ⟨y0, hy0⟩ := some_of_len hl (j := 0) (by decide)
 have g0 : DataW.trod enc Tryz.prog w base spare held n 3 ((([c0, c1, c2, c3, c4, c5] : List Value).drop 0).take (Tryz.prog.cellsOf 3)) = some y0 := (hf 0 _ rfl).trans hy0
 rw [show Tryz.prog.cellsOf 3 = 1 by kernel_rfl] at g0
 obtain ⟨a0, K0, w0⟩ := (Rd.int Tryz.underlying3) enc w base spare held n _ _ g0
 obtain ⟨y1, hy1⟩ := some_of_len hl (j := 1) (by decide)
 have g1 : DataW.trod enc Tryz.prog w base spare held n 3 ((([c0, c1, c2, c3, c4, c5] : List Value).drop 1).take (Tryz.prog.cellsOf 3)) = some y1 := (hf 1 _ rfl).trans hy1
 rw [show Tryz.prog.cellsOf 3 = 1 by kernel_rfl] at g1
 obtain ⟨a1, K1, w1⟩ := (Rd.int Tryz.underlying3) enc w base spare held n _ _ g1
 obtain ⟨y2, hy2⟩ := some_of_len hl (j := 2) (by decide)
 have g2 : DataW.trod enc Tryz.prog w base spare held n 34 ((([c0, c1, c2, c3, c4, c5] : List Value).drop 2).take (Tryz.prog.cellsOf 34)) = some y2 := (hf 2 _ rfl).trans hy2
 rw [show Tryz.prog.cellsOf 34 = 4 by kernel_rfl] at g2
 obtain ⟨a2, K2, w2⟩ := rd34 enc w base spare held n _ _ g2
 exact ⟨⟨a0, a1, a2⟩, ⟨[c0], [c1, c2, c3, c4, c5], rfl, K0, ⟨[c1], [c2, c3, c4, c5], rfl, K1, K2⟩⟩, ⟨w0, w1, w2⟩⟩
end Go.Proofs.YtkcjcdkmdooofaaGreat.Q
end
section
namespace Go.Proofs.Kb
open Go Go.RowKit Go.Proofs.YtkcjcdkmdooofaaGreat.Q Go.Proofs.YtkcjcdkmdooofaaGreatW.PrintWords Go.Proofs.YtkcjcdkmdooofaaGreatW.PrintLast Go.Proofs.YtkcjcdkmdooofaaGreatW.PrintMore
set_option maxRecDepth 100000
open Go.Proofs.Lk Go.Proofs.Mp
section
variable {w0 w w' : World} {F : Nat → Prop} {R R' : List Chunk} {lp k : Nat} {s : LS S32} {X : List Int} {D : List S32}
theorem LA.drew (h : LA w0 F lp s k R w) : LA w0 F lp s k R w.drew := by
 obtain ⟨M, h1, h2, h3, h4⟩ := h
 exact ⟨M, h1, h2, h3, h4.drew⟩
end
theorem great_at (w : World) (A : Option Addr) (c : Nat) (l : List S36) (hC : Kd.C k36 w A l.length l) (hcap : l.length ≤ c) {b : Bool} (hb : interlocklaw11_great.f 200 l = some b) :
   Calls Tryz.prog 5 #[.slice A l.length c] w fun E w' => E = .returned (.bool b) ∧ Below w.heap.size w w' := (interlocklaw11_great.calls 200 A c l b w hC hcap hb).mono fun E w' h => ⟨h.1, h.2.below⟩
structure Arg (w : World) (A : Option Addr) (l : List S36) : Prop where
 row : Kd.C k36 w A l.length l
theorem Arg.cells {w : World} {A : Option Addr} {l : List S36} (h : Arg w A l) {i : Nat} {x : S36} (hx : l[i]? = some x) : ∃ ad, A = some ad ∧ ∀ W, Below w.heap.size w W →
   W.cell? (ad.add (i * 6)) = some (.int .i64 x.f0) ∧ W.cell? ⟨(ad.add (i * 6)).block, (ad.add (i * 6)).off + 1, none⟩ = some (.int .i64 x.f1) ∧ W.cell? ⟨(ad.add (i * 6)).block, (ad.add (i * 6)).off + 2, none⟩ = some (.int .i64 x.f2.f0.f0) ∧
   W.cell? ⟨(ad.add (i * 6)).block, (ad.add (i * 6)).off + 3, none⟩ = some (.string x.f2.f0.f1) ∧ W.cell? ⟨(ad.add (i * 6)).block, (ad.add (i * 6)).off + 4, none⟩ = some (.string x.f2.f0.f2) ∧ W.cell? ⟨(ad.add (i * 6)).block, (ad.add (i * 6)).off + 5, none⟩ = some (.int .i64 x.f2.f1) := by
 have hi := (List.getElem?_eq_some_iff.1 hx).1
 have hr : rd_T36 l (i : Int) = x := by simp [rd_T36, List.getD_eq_getElem?_getD, hx]
 obtain ⟨ad, hA, d0, d1, d2, d3, d4, d5⟩ := at_T36 h.row (i : Int) (by omega) (by omega)
 rw [hr, Int.toNat_natCast] at d0 d1 d2 d3 d4 d5
 exact ⟨ad, hA, fun W hb => ⟨pw_cell_below hb d0, pw_cell_below hb d1, pw_cell_below hb d2, pw_cell_below hb d3, pw_cell_below hb d4, pw_cell_below hb d5⟩⟩
theorem wf_I {c : S36} (h : wf36 c) : wfI c.f1 := h.2.1
theorem wf_T {c : S36} (h : wf36 c) : wfT c.f2.f0 := ⟨h.2.2.1.1, h.2.2.1.2.1, h.2.2.1.2.2⟩
def txnsOf (l : List S36) : List Int := l.map (·.f1)
def thgsOf (l : List S36) : List S32 := l.map (·.f2.f0)
theorem good_new {l : List S36} (hn : l.length ≤ 120) (hw : ∀ a ∈ l, wf36 a) : Good (txnsOf l) (thgsOf l) (LS.new : LS S32) :=
 Good.new (by simp only [txnsOf, List.length_map]; omega) (by simp only [thgsOf, List.length_map]; omega) (fun x hx => by
   obtain ⟨c, hc, rfl⟩ := List.mem_map.1 hx
   exact wf_I (hw c hc)) (fun t ht => by
   obtain ⟨c, hc, rfl⟩ := List.mem_map.1 ht
   exact wf_T (hw c hc))
theorem srtI_nodup (l : List Int) : (srtI l).Nodup := List.Pairwise.imp (fun {a b} h => by omega) (srtI_sorted l)
theorem blockS_len {X : List Int} {D : List S32} {s : LS S32} (h : Good X D s) (x : Int) : (blockS srtI s x).length ≤ 299 := by
 refine Nat.le_trans (nodup_le (l' := X) ?_ fun y hy => ?_) h.xl
 · unfold blockS
   split
   · exact List.nodup_nil
   · split
     · exact List.nodup_nil
     · exact srtI_nodup _
 · obtain ⟨⟨t, ht⟩, _⟩ := block_pres (srt := srtI) mem_srtI hy
   exact (h.am t y ht).1
theorem sh_l0 (l : List S75) (hn : l.length < 100000) : ∀ (k i : Nat), i ≤ l.length → l.length < i + k → interlockref11_SameHeld.l0 k l l (i : Int) = some true
 | 0, i, h1, h2 => by omega
 | k + 1, i, h1, h2 => by
   unfold interlockref11_SameHeld.l0
   by_cases h : i < l.length
   · rw [if_pos (by omega), if_pos (by omega), if_pos (by omega), if_neg (by simp), show wrap64 ((i : Int) + 1) = ((i + 1 : Nat) : Int) by rw [IntWalk.wrap64_in _ (by omega)]; omega]
     exact sh_l0 l hn k (i + 1) (by omega) (by omega)
   · rw [if_neg (by omega)]
theorem sh_f (l : List S75) (hn : l.length < 100000) : interlockref11_SameHeld.f 100001 l l = some true := by
 unfold interlockref11_SameHeld.f
 rw [if_pos rfl]
 exact sh_l0 l hn 100001 0 (Nat.zero_le _) (by omega)
theorem sameheld_calls (w : World) (v u : Value) (l : List S75) (hv : RowX heldE w v l) (hu : RowX heldE w u l) (hl : l.length < 100000) :
   Calls Tryz.prog 16 #[v, u] w fun E w' => E = .returned (.bool true) ∧ Below w.heap.size w w' := by
 have hk : ∀ (w : World) (x : S75), k75.K w x (heldE.enc x) := fun w x => k75_mk w x
 obtain ⟨A, c, rfl, h1, h2⟩ := rowX_C (d := k75) rfl hk hv hl
 obtain ⟨A', c', rfl, h3, h4⟩ := rowX_C (d := k75) rfl hk hu hl
 exact (interlockref11_SameHeld.calls 100001 A c l A' c' l _ w h2 h1 h4 h3 (sh_f l hl)).mono fun E w' h => ⟨h.1, h.2.below⟩
theorem state_len {X : List Int} {D : List S32} {s : LS S32} (h : Good X D s) (t : S32) : (stateL (s.rows t)).length < 100000 := by
 have := (h.ok.rows t).len
 unfold stateL heldL
 simp only [List.length_append, List.length_map]
 omega
theorem great_l0s (l : List S36) (hn : l.length ≤ 120) : ∀ (k i : Nat), i ≤ l.length → l.length < i + k → ∃ b, interlocklaw11_great.l0 k l (i : Int) = some b ∧ (b = false → ∀ x ∈ l.drop i, SmallT x.f2.f0)
 | 0, i, h1, h2 => by omega
 | k + 1, i, h1, h2 => by
   unfold interlocklaw11_great.l0
   by_cases h : i < l.length
   · have hr : rd_T36 l (i : Int) = l[i] := by simp [rd_T36, List.getD_eq_getElem?_getD, List.getElem?_eq_getElem h]
     rw [if_pos (by omega), if_pos (by omega), hr]
     split
     · exact ⟨_, rfl, fun h => by cases h⟩
     · split
       · exact ⟨_, rfl, fun h => by cases h⟩
       · rename_i q1 q2
         rw [show wrap64 ((i : Int) + 1) = ((i + 1 : Nat) : Int) by rw [IntWalk.wrap64_in _ (by omega)]; omega]
         obtain ⟨b, hb, hb2⟩ := great_l0s l hn k (i + 1) (by omega) (by omega)
         refine ⟨b, hb, fun hf x hx => ?_⟩
         rw [List.drop_eq_getElem_cons h] at hx
         rcases List.mem_cons.1 hx with rfl | hx
         · exact ⟨by omega, by omega⟩
         · exact hb2 hf x hx
   · rw [if_neg (by omega)]
     refine ⟨_, rfl, fun _ x hx => ?_⟩
     rw [List.drop_eq_nil_of_le (by omega)] at hx
     cases hx
theorem great_small (l : List S36) : ∃ b, interlocklaw11_great.f 200 l = some b ∧ (b = false → l.length ≤ 120 ∧ ∀ x ∈ l, SmallT x.f2.f0) := by
 unfold interlocklaw11_great.f
 by_cases h : (l.length : Int) > 120
 · rw [if_pos h]
   exact ⟨true, rfl, fun h => by cases h⟩
 · rw [if_neg h]
   obtain ⟨b, hb, hs⟩ := great_l0s l (by omega) 200 0 (Nat.zero_le _) (by omega)
   exact ⟨b, hb, fun hf => ⟨by omega, fun x hx => hs hf x (by simpa using hx)⟩⟩
theorem waitV_agg (s : LS S32) (x : Int) : ∃ z0 z1 z2 z3, waitV s x = .agg #[.int .i64 z0, .string z1, .string z2, .int .i64 z3] := by
 unfold waitV
 split
 · exact ⟨_, _, _, _, rfl⟩
 · exact ⟨_, _, _, _, rfl⟩
section
variable {s : LS S32} {r : RS S32} {X : List Int} {D : List S32}
theorem rwaitV_eq (h : LInv s) (hr : RR s r) (x : Int) : rwaitV r x = waitV s x ∧ (rwait r x).isSome = (s.waits x).isSome := by
 unfold rwaitV waitV
 cases hx : s.waits x with
 | none =>
   rw [rwait_none h hr hx]
   exact ⟨rfl, rfl⟩
 | some t =>
   obtain ⟨o, A, B, e, e1, e2, e3, e4, e5⟩ := rwait_some h hr hx
   rw [e]
   dsimp only
   refine ⟨?_, rfl⟩
   have hm : modeW (s.rows t) x = o.2 := by
     unfold modeW
     rw [e4, List.find?_append, List.find?_eq_none.2 (fun w hw => by
       have := e3 (t, w) (mem_part.1 hw)
       simpa using this), Option.none_or, List.find?_cons_of_pos (by simp [e1])]
     rfl
   rw [hm]
theorem small_rr (hg : Good X D s) (hr : RR s r) (hd : ∀ t ∈ D, SmallT t) : SmallR r := by
 constructor
 · intro o ho
   refine hd _ (hg.am o.1 o.2.1 (.inl ?_)).2.1
   rw [← hr o.1]
   exact has_iff.2 ⟨o.2, mem_part.2 ho, rfl⟩
 · intro o ho
   refine hd _ (hg.am o.1 o.2.1 (.inr ?_)).2.1
   rw [← hr o.1]
   exact has_iff.2 ⟨o.2, mem_part.2 ho, rfl⟩
theorem rmode_right (hg : Good X D s) (hr : RR s r) (x : Int) (t : S32) (h0 : rmode r x t ≠ 0) : right (rmode r x t) = true := by
 have e := rmode_row r x t
 rw [hr t] at e
 cases hm : modeOf (s.rows t) x with
 | none =>
   rw [hm] at e
   exact absurd e h0
 | some g =>
   rw [hm] at e
   rw [e]
   exact (hg.inv.row t).hm _ (Lk.modeOf_some hm)
theorem rmode_eq (hr : RR s r) (x : Int) (t : S32) : rmode r x t = modeD s x t := by
 rw [rmode_row, hr t]
 rfl
end
def LQ (w0 : World) (F : Nat → Prop) (lp : Nat) (s : LS S32) (k : Nat) (rp : Nat) (r : RS S32) (R : List Chunk) (W : World) : Prop := ∃ M : LM, M.lp = lp ∧ Rep M s ∧ M.tot ≤ k ∧ RQ w0 F rp r (lk M ++ R) W
def qk (rp : Nat) (r : RS S32) (Ah : Option Addr) (ch : Nat) (Aw : Option Addr) (cw : Nat) : List Chunk := [blkC rp (.cells #[.slice Ah r.holds.length ch, .slice Aw r.waits.length cw] 30 (0, 0)), rowXC qE (.slice Ah r.holds.length ch) (r.holds.map (qv false)), rowXC qE (.slice Aw r.waits.length cw) (r.waits.map (qv true))]
section
variable {w0 w w' : World} {F : Nat → Prop} {R R' : List Chunk} {lp k rp : Nat} {s : LS S32} {r : RS S32} {X : List Int} {D : List S32}
theorem LQ.la (h : LQ w0 F lp s k rp r R w) : ∃ Ah ch Aw cw, LA w0 F lp s k (qk rp r Ah ch Aw cw ++ R) w := by
 obtain ⟨M, h1, h2, h3, Ah, ch, Aw, cw, h4⟩ := h
 exact ⟨Ah, ch, Aw, cw, M, h1, h2, h3, (show St w0 F w (qk rp r Ah ch Aw cw ++ (lk M ++ R)) from h4).perm (List.perm_append_comm_assoc _ _ _)⟩
theorem LQ.of {Ah Aw : Option Addr} {ch cw : Nat} (h : LA w0 F lp s k (qk rp r Ah ch Aw cw ++ R) w) : LQ w0 F lp s k rp r R w := by
 obtain ⟨M, h1, h2, h3, h4⟩ := h
 exact ⟨M, h1, h2, h3, Ah, ch, Aw, cw, (show St w0 F w (qk rp r Ah ch Aw cw ++ (lk M ++ R)) from h4.perm (List.perm_append_comm_assoc _ _ _))⟩
theorem LQ.of1 {Ah Aw : Option Addr} {ch cw : Nat} {c : Chunk} (h : LA w0 F lp s k (c :: (qk rp r Ah ch Aw cw ++ R)) w) : LQ w0 F lp s k rp r (c :: R) w := LQ.of (h.perm List.perm_middle.symm)
theorem LQ.below (h : LQ w0 F lp s k rp r R w) (hb : Below w.heap.size w w') : LQ w0 F lp s k rp r R w' := by
 obtain ⟨M, h1, h2, h3, h4⟩ := h
 exact ⟨M, h1, h2, h3, h4.below hb⟩
theorem LQ.rest (h : LQ w0 F lp s k rp r R w) : St w0 F w R := by
 obtain ⟨M, h1, h2, h3, h4⟩ := h
 exact St.drop h4.rest
theorem LQ.perm (h : LQ w0 F lp s k rp r R w) (hp : R.Perm R') : LQ w0 F lp s k rp r R' w := by
 obtain ⟨M, h1, h2, h3, h4⟩ := h
 exact ⟨M, h1, h2, h3, h4.perm (List.Perm.append_left _ hp)⟩
theorem LQ.mono (h : LQ w0 F lp s k rp r R w) {k' : Nat} (hk : k ≤ k') : LQ w0 F lp s k' rp r R w := by
 obtain ⟨M, h1, h2, h3, h4⟩ := h
 exact ⟨M, h1, h2, Nat.le_trans h3 hk, h4⟩
theorem LQ.drew (h : LQ w0 F lp s k rp r R w) : LQ w0 F lp s k rp r R w.drew := by
 obtain ⟨Ah, ch, Aw, cw, h⟩ := h.la
 exact LQ.of h.drew
theorem LQ.drop1 {c : Chunk} (h : LQ w0 F lp s k rp r (c :: R) w) : LQ w0 F lp s k rp r R w := by
 obtain ⟨M, h1, h2, h3, h4⟩ := h
 exact ⟨M, h1, h2, h3, RQ.drop1 (h4.perm (R' := c :: (lk M ++ R)) List.perm_middle)⟩
theorem LQ.alloc (h : LQ w0 F lp s k rp r R w) (C : Array Value) (T : TypeId) {n : Nat} (hn : w.heap.size = n) : LQ w0 F lp s k rp r (blkC n (.cells C T (0, 0)) :: R) (w.alloc (.cells C T)) := by
 obtain ⟨M, h1, h2, h3, h4⟩ := h
 exact ⟨M, h1, h2, h3, (h4.alloc C T hn).perm List.perm_middle.symm⟩
theorem LQ.new (h : LA w0 F lp s k [] w) {n : Nat} (hn : w.heap.size = n) : LQ w0 F lp s k n ⟨[], []⟩ [] (w.alloc (.cells #[.slice none 0 0, .slice none 0 0] 30)) := by
 have h1 : LA w0 F lp s k [blkC n (.cells #[.slice none 0 0, .slice none 0 0] 30 (0, 0))] (w.alloc (.cells #[.slice none 0 0, .slice none 0 0] 30)) := h.alloc #[.slice none 0 0, .slice none 0 0] 30 hn
 refine LQ.of (Ah := none) (ch := 0) (Aw := none) (cw := 0) (h1.sub (R' := qk n ⟨[], []⟩ none 0 none 0 ++ []) fun cs h2 => ?_)
 have h3 := h2.fresh (Below.refl _ _) (rowXC qE (.slice none 0 0) []) RowX.nil (nd_bl (.slice none 0 0)) (fun b hb => by simp [rowXC, bl] at hb; cases hb)
 have h4 := h3.fresh (Below.refl _ _) (rowXC qE (.slice none 0 0) []) RowX.nil (nd_bl (.slice none 0 0)) (fun b hb => by simp [rowXC, bl] at hb; cases hb)
 exact (show St w0 F _ ([_, _, _] ++ cs) from h4).perm (B := [_, _, _] ++ cs) ((perm_ix _ [2, 0, 1] 3 rfl (by decide)).append_right cs)
theorem LQ.ask (h : LQ w0 F lp s k rp r R w) (hg : Good X D s) {x : Int} {t : S32} (m : Int) (hx : x ∈ X) (ht : t ∈ D) (hk : k < 4000000000000000000) :
   Calls Tryz.prog 7 #[lpP lp, .int .i64 x, wantV t m] w fun E w' => E = AskE (askS haddT fitsT s x t m) ∧ LQ w0 F lp (askS haddT fitsT s x t m).1 (k + 1000000) rp r R w' := by
 obtain ⟨Ah, ch, Aw, cw, h⟩ := h.la
 exact (h.ask hg m hx ht hk).mono fun E w' h => ⟨h.1, LQ.of h.2⟩
theorem LQ.cancel (h : LQ w0 F lp s k rp r R w) (hg : Good X D s) {x : Int} (hx : x ∈ X) (hk : k < 4000000000000000000) :
   Calls Tryz.prog 10 #[lpP lp, .int .i64 x] w fun E w' => ∃ v, E = .returned v ∧ LQ w0 F lp (cancelS haddT s x).1 (k + 1000000) rp r (rowIC v (cancelS haddT s x).2 :: R) w' := by
 obtain ⟨Ah, ch, Aw, cw, h⟩ := h.la
 exact (h.cancel hg hx hk).mono fun E w' ⟨v, h1, h2⟩ => ⟨v, h1, LQ.of1 h2⟩
theorem LQ.release (h : LQ w0 F lp s k rp r R w) (hg : Good X D s) {x : Int} (hx : x ∈ X) (hk : k < 4000000000000000000) :
   Calls Tryz.prog 12 #[lpP lp, .int .i64 x] w fun E w' => ∃ v, E = .returned v ∧ LQ w0 F lp (releaseS haddT s x).1 (k + 1000000) rp r (rowIC v (releaseS haddT s x).2 :: R) w' := by
 obtain ⟨Ah, ch, Aw, cw, h⟩ := h.la
 exact (h.release hg hx hk).mono fun E w' ⟨v, h1, h2⟩ => ⟨v, h1, LQ.of1 h2⟩
theorem LQ.blockers (h : LQ w0 F lp s k rp r R w) (hg : Good X D s) {x : Int} (hx : x ∈ X) (hk : k < 4000000000000000000) :
   Calls Tryz.prog 19 #[lpP lp, .int .i64 x] w fun E w' => ∃ v, E = .returned v ∧ LQ w0 F lp s (k + 1000000) rp r (rowIC v (blockS srtI s x) :: R) w' := by
 obtain ⟨Ah, ch, Aw, cw, h⟩ := h.la
 exact (h.blockers hg hx hk).mono fun E w' ⟨v, h1, h2⟩ => ⟨v, h1, LQ.of1 h2⟩
theorem LQ.mode (h : LQ w0 F lp s k rp r R w) (hg : Good X D s) (x : Int) {t : S32} (ht : wfT t) :
   Calls Tryz.prog 21 #[lpP lp, .int .i64 x, thgV t] w fun E w' => E = .returned (.int .i64 (modeD s x t)) ∧ LQ w0 F lp s k rp r R w' := by
 obtain ⟨Ah, ch, Aw, cw, h⟩ := h.la
 exact (h.mode hg x ht).mono fun E w' h => ⟨h.1, LQ.of h.2⟩
theorem LQ.state (h : LQ w0 F lp s k rp r R w) (hg : Good X D s) {t : S32} (ht : wfT t) :
   Calls Tryz.prog 17 #[lpP lp, thgV t] w fun E w' => ∃ v, E = .returned v ∧ LQ w0 F lp s k rp r (rowHC v (stateL (s.rows t)) :: R) w' := by
 obtain ⟨Ah, ch, Aw, cw, h⟩ := h.la
 exact (h.state hg ht).mono fun E w' ⟨v, h1, h2⟩ => ⟨v, h1, LQ.of1 h2⟩
theorem LQ.things (h : LQ w0 F lp s k rp r R w) (hg : Good X D s) {x : Int} (hx : wfI x) :
   Calls Tryz.prog 23 #[lpP lp, .int .i64 x] w fun E w' => ∃ v, E = .returned v ∧ LQ w0 F lp s k rp r (rowTC v (s.held x) :: R) w' := by
 obtain ⟨Ah, ch, Aw, cw, h⟩ := h.la
 exact (h.things hg hx).mono fun E w' ⟨v, h1, h2⟩ => ⟨v, h1, LQ.of1 h2⟩
theorem LQ.waiting (h : LQ w0 F lp s k rp r R w) (hg : Good X D s) {x : Int} (hx : x ∈ X) (hk : k < 4000000000000000000) :
   Calls Tryz.prog 14 #[lpP lp, .int .i64 x] w fun E w' => E = .returned (.tuple #[waitV s x, .bool (s.waits x).isSome]) ∧ LQ w0 F lp s (k + 1000000) rp r R w' := by
 obtain ⟨Ah, ch, Aw, cw, h⟩ := h.la
 exact (h.waiting hg hx hk).mono fun E w' h => ⟨h.1, LQ.of h.2⟩
theorem LQ.dask (h : LQ w0 F lp s k rp r R w) (x : Int) (t : S32) (m : Int) (hn : r.holds.length + r.waits.length < 90000) (hm0 : rmode r x t ≠ 0 → right (rmode r x t) = true) :
   Calls Tryz.prog 8 #[.pointer (some ⟨rp, 0, none⟩), .int .i64 x, wantV t m] w fun E w' => E = AskR (rask fitsT r x t m) ∧ LQ w0 F lp s k rp (rask fitsT r x t m).1 R w' := by
 obtain ⟨M, h1, h2, h3, h4⟩ := h
 exact (qask_calls h4 x t m hn hm0).mono fun E w' h => ⟨h.1, M, h1, h2, h3, h.2⟩
theorem LQ.dcancel (h : LQ w0 F lp s k rp r R w) (x : Int) (hn : r.holds.length + r.waits.length < 90000) :
   Calls Tryz.prog 11 #[.pointer (some ⟨rp, 0, none⟩), .int .i64 x] w fun E w' => ∃ A n c, E = .returned (.slice A n c) ∧ LQ w0 F lp s k rp (rcancel r x).1 (rowIC (.slice A n c) (rcancel r x).2 :: R) w' := by
 obtain ⟨M, h1, h2, h3, h4⟩ := h
 exact (qcancel_calls h4 x hn).mono fun E w' ⟨A, n, c, e, h⟩ => ⟨A, n, c, e, M, h1, h2, h3, h.perm List.perm_middle.symm⟩
theorem LQ.drelease (h : LQ w0 F lp s k rp r R w) (x : Int) (hn : r.holds.length + r.waits.length < 90000) (hs : SmallR r) :
   Calls Tryz.prog 13 #[.pointer (some ⟨rp, 0, none⟩), .int .i64 x] w fun E w' => ∃ A n c, E = .returned (.slice A n c) ∧ LQ w0 F lp s k rp (rrelease r x (rall r x)).1 (rowIC (.slice A n c) (rrelease r x (rall r x)).2 :: R) w' := by
 obtain ⟨M, h1, h2, h3, h4⟩ := h
 exact (qrelease_calls h4 x hn hs).mono fun E w' ⟨A, n, c, e, h⟩ => ⟨A, n, c, e, M, h1, h2, h3, h.perm List.perm_middle.symm⟩
theorem LQ.dwaiting (h : LQ w0 F lp s k rp r R w) (x : Int) (hn : r.waits.length < 100000) :
   Calls Tryz.prog 15 #[.pointer (some ⟨rp, 0, none⟩), .int .i64 x] w fun E w' => E = .returned (.tuple #[rwaitV r x, .bool (rwait r x).isSome]) ∧ LQ w0 F lp s k rp r R w' := by
 obtain ⟨M, h1, h2, h3, h4⟩ := h
 exact (qwaiting_calls h4 x hn).mono fun E w' h => ⟨h.1, M, h1, h2, h3, h.2⟩
theorem LQ.dmode (h : LQ w0 F lp s k rp r R w) (x : Int) (t : S32) (hn : r.holds.length < 100000) :
   Calls Tryz.prog 22 #[.pointer (some ⟨rp, 0, none⟩), .int .i64 x, thgV t] w fun E w' => E = .returned (.int .i64 (rmode r x t)) ∧ LQ w0 F lp s k rp r R w' := by
 obtain ⟨M, h1, h2, h3, h4⟩ := h
 exact (qmode_calls h4 x t hn).mono fun E w' h => ⟨h.1, M, h1, h2, h3, h.2⟩
theorem LQ.dstate (h : LQ w0 F lp s k rp r R w) (t : S32) (hn : r.holds.length + r.waits.length < 90000) :
   Calls Tryz.prog 18 #[.pointer (some ⟨rp, 0, none⟩), thgV t] w fun E w' => ∃ A n c, E = .returned (.slice A n c) ∧ LQ w0 F lp s k rp r (rowHC (.slice A n c) (rstate r t) :: R) w' := by
 obtain ⟨M, h1, h2, h3, h4⟩ := h
 exact (qstate_calls h4 t hn).mono fun E w' ⟨A, n, c, e, h⟩ => ⟨A, n, c, e, M, h1, h2, h3, h.perm List.perm_middle.symm⟩
theorem LQ.dblockers (h : LQ w0 F lp s k rp r R w) (x : Int) (hn : r.holds.length + r.waits.length < 90000) :
   Calls Tryz.prog 20 #[.pointer (some ⟨rp, 0, none⟩), .int .i64 x] w fun E w' => ∃ A n c, E = .returned (.slice A n c) ∧ LQ w0 F lp s k rp r (rowIC (.slice A n c) (rblock r x) :: R) w' := by
 obtain ⟨M, h1, h2, h3, h4⟩ := h
 exact (qblockers_calls h4 x hn).mono fun E w' ⟨A, n, c, e, h⟩ => ⟨A, n, c, e, M, h1, h2, h3, h.perm List.perm_middle.symm⟩
theorem LQ.dthings (h : LQ w0 F lp s k rp r R w) (x : Int) (hn : r.holds.length < 90000) (hs : SmallR r) :
   Calls Tryz.prog 24 #[.pointer (some ⟨rp, 0, none⟩), .int .i64 x] w fun E w' => ∃ A c, E = .returned (.slice A (rthings r x).length c) ∧ LQ w0 F lp s k rp r (rowTC (.slice A (rthings r x).length c) (rthings r x) :: R) w' := by
 obtain ⟨M, h1, h2, h3, h4⟩ := h
 exact (qthings_calls h4 x hn hs).mono fun E w' ⟨A, c, e, h⟩ => ⟨A, c, e, M, h1, h2, h3, h.perm List.perm_middle.symm⟩
end
end Go.Proofs.Kb
end
section
namespace Go.Proofs.Kb
open Go Go.RowKit Go.Proofs.YtkcjcdkmdooofaaGreat.Q Go.Proofs.YtkcjcdkmdooofaaGreatW.PrintWords Go.Proofs.YtkcjcdkmdooofaaGreatW.PrintLast Go.Proofs.YtkcjcdkmdooofaaGreatW.PrintMore
set_option maxRecDepth 100000
open Go.Proofs.Lk Go.Proofs.Mp
attribute [local go_sem high] eqT
theorem eqD_self (x : S32) : eqD x x = true := by
 rw [eqD_dec]
 exact decide_eq_true rfl
theorem eqA34 (d : Nat) (w : World) (x0 : Int) (x1 x2 : ByteArray) (x3 : Int) :
   (Op.equalIn (d + 3) 34 (.agg #[.int .i64 x0, .string x1, .string x2, .int .i64 x3]) (.agg #[.int .i64 x0, .string x1, .string x2, .int .i64 x3])).run Tryz.prog w = .ok true w := by
 have h : (Op.equalIn (d + 3) 34 (.agg #[.int .i64 x0, .string x1, .string x2, .int .i64 x3]) (.agg #[.int .i64 x0, .string x1, .string x2, .int .i64 x3])).run Tryz.prog w = .ok (eqD ⟨x0, x1, x2⟩ ⟨x0, x1, x2⟩ && (x3 == x3)) w := by
   refine eqA_of Tryz.underlying34 (by kernel_rfl) ?_
   refine eqf_cons (by rfl) (by go_simp; rfl) (by go_simp; rfl) (by go_simp) ?_
   exact eqf_last (by rfl) (by go_simp; rfl) (by go_simp; rfl) (by go_simp)
 rw [h, eqD_self, beq_self_eq_true]
 rfl
attribute [local go_sem high] eqA34
theorem askr_e {q : RS S32 × Bool × Ans} {b : Bool} {a : Ans} (h : q.2 = (b, a)) : AskR q = .returned (.tuple #[.bool b, .int .i64 (errC a)]) := by
 unfold AskR
 rw [h]
theorem rsweeps_cnt : ∀ (ts : List S32) (r : RS S32), (rsweeps ts r).2.length + (rsweeps ts r).1.waits.length ≤ r.waits.length
 | [], r => by simp [rsweeps]
 | t :: ts, r => by
   have h1 := rsweep_cnt t r
   have h2 := rsweeps_cnt ts (rsweep t r).1
   unfold rsweeps
   simp only [List.length_append]
   omega
theorem rrelease_cnt (r : RS S32) (x : Int) (all : List S32) : (rrelease r x all).2.length ≤ r.waits.length := by
 unfold rrelease
 refine Nat.le_trans (Nat.le_trans (Nat.le_add_right _ _) (rsweeps_cnt _ _)) ?_
 cases r.waits.findIdx? (fun o => o.2.1 == x) with
 | none => exact Nat.le_refl _
 | some i => exact List.length_eraseIdx_le r.waits i
theorem rcancel_cnt (r : RS S32) (x : Int) : (rcancel r x).2.length ≤ r.waits.length := by
 unfold rcancel
 cases r.waits.findIdx? (fun o => o.2.1 == x) with
 | none => exact Nat.zero_le _
 | some i =>
   dsimp only
   cases r.waits[i]? with
   | none => exact Nat.zero_le _
   | some o =>
     have h1 := rsweep_cnt o.1 ⟨r.holds, r.waits.eraseIdx i⟩
     have h2 := List.length_eraseIdx_le r.waits i
     have h1 : _ + _ ≤ (r.waits.eraseIdx i).length := h1
     show (rsweep o.1 _).2.length ≤ _
     omega
theorem sameI_true (w : World) (v u : Value) {l : List Int} (hv : RowX intE w v l) (hu : RowX intE w u l) (hl : l.length < 100000) :
   Calls Tryz.prog 9 #[v, u] w fun E w' => E = .returned (.bool true) ∧ Below w.heap.size w w' :=
 (sameints_calls w v u l l hv hu hl hl).mono fun E w' h => ⟨by rw [h.1, decide_eq_true rfl], h.2⟩
theorem LQ.left {w0 w : World} {F : Nat → Prop} {R R' : List Chunk} {lp k rp : Nat} {s : LS S32} {r : RS S32} (h : LQ w0 F lp s k rp r (R ++ R') w) : LQ w0 F lp s k rp r R w := by
 obtain ⟨Ah, ch, Aw, cw, h⟩ := h.la
 rw [← List.append_assoc] at h
 exact LQ.of h.left
def z4 (w : World) (n : Nat) (z0 : Int) (z1 z2 : ByteArray) (z3 : Int) : Prop := w.cell? ⟨n, 0, none⟩ = some (.int .i64 z0) ∧ w.cell? ⟨n, 1, none⟩ = some (.string z1) ∧ w.cell? ⟨n, 2, none⟩ = some (.string z2) ∧ w.cell? ⟨n, 3, none⟩ = some (.int .i64 z3)
theorem z4_of {w : World} {n : Nat} {z0 : Int} {z1 z2 : ByteArray} {z3 : Int} (h : w.heap[n]? = some (.cells #[.int .i64 z0, .string z1, .string z2, .int .i64 z3] 34 (0, 0))) : z4 w n z0 z1 z2 z3 :=
 ⟨(blk_cell h 0).trans rfl, (blk_cell h 1).trans rfl, (blk_cell h 2).trans rfl, (blk_cell h 3).trans rfl⟩
def LQI (w : World) (l : List S36) (lp rp i k : Nat) (C : List Chunk) (W : World) : Prop := ∃ s r, Good (txnsOf l) (thgsOf l) s ∧ RR s r ∧ r.holds.length + r.waits.length ≤ i ∧ LQ w NoF lp s k rp r C W
def findR (n : Nat) : Code → Option Code
 | .region id ops d => if id == n then some (.region id ops d) else none
 | .seq a b => match findR n a with | some c => some c | none => findR n b
 | .cond _ a b => match findR n a with | some c => some c | none => findR n b
 | .block _ b => findR n b
 | .loop b => findR n b
 | .scope b => findR n b
 | _ => none
def codeOf (f : Func) (n : Nat) : Code := (f.body.bind (findR n)).getD .skip
set_option maxHeartbeats 32000000 in
theorem reg25 {w : World} {l : List S36} {c : S36} {lp rp n6 n11 n13 : Nat} {s : LS S32} {r : RS S32} {bw : Bool} {z0 : Int} {z1 z2 : ByteArray} {z3 : Int} {Q : Exit → Act → World → Prop} {W7 : World} {u0 u1 u2 u5 u7 u8 u9 u10 u15 u16 u17 u18 u19 u20 u21 u22 u23 u24 u25 u26 u27 u28 u29 u30 u31 u32 u33 u34 u35 u36 u37 u38 u39 u40 u41 u42 u43 u44 u45 u46 u47 u48 u49 u50 u51 u52 u53 u54 u55 u56 u57 u58 u59 u60 u61 u62 u63 u64 u65 u66 u67 u68 u69 u70 u71 u72 u73 u74 u75 u76 u77 u78 u79 u80 u81 u82 u83 u84 u85 u86 u87 u88 u89 u90 u91 u92 u93 u94 u95 u96 u97 u98 u99 u100 u101 u102 u103 u104 u105 u106 u107 u108 u109 u110 u111 u112 u113 u114 u115 u116 u117 u118 u119 u120 u121 u122 u123 u124 u125 u126 u127 u128 u129 u130 u131 u132 u133 u134 u135 u136 u137 u138 u139 u140 u141 u142 u143 u144 u145 u146 u147 u148 u149 u150 u151 u152 u153 u154 u155 u156 u157 u158 u159 u160 u161 u162 u163 u164 u165 u166 u167 u168 u169 u170 u171 u172 u173 u174 u175 u176 u177 u178 u179 u180 u181 : Value} (hg : Good (txnsOf l) (thgsOf l) s) (hrr : RR s r) (hlen9 : r.holds.length + r.waits.length < 80000) (hx : c.f1 ∈ txnsOf l) (ht : wfT c.f2.f0) (k : Nat) (hk : k < 3000000000000000000) (hp : ∀ (e : _) (a : Act) (d : Option Tmp) (u : Value) (v : World), Q (.panic e) (a.put d u) v → Q (.panic e) a v)
   (hq : LQ w NoF lp s k rp r [blkC n13 (.cells #[.int .i64 z0, .string z1, .string z2, .int .i64 z3] 34 (0, 0)), blkC n11 (.cells #[.int .i64 z0, .string z1, .string z2, .int .i64 z3] 34 (0, 0)), blkC n6 (.cells #[.int .i64 c.f0, .int .i64 c.f1, .int .i64 c.f2.f0.f0, .string c.f2.f0.f1, .string c.f2.f0.f2, .int .i64 c.f2.f1] 36 (0, 0))] W7) (h : ∀ (v103 v104 v105 v106 v107 v108 v109 v110 v111 v112 v113 v114 v115 v116 v117 v118 v119 v120 v121 v122 v123 v124 v125 v126 v127 v128 v129 v130 v131 v132 v133 v134 v135 v136 v137 v138 v139 v140 v141 v142 v143 v144 v145 v146 v147 v148 v149 v150 v151 v152 : Value) (W8 : World), LQ w NoF lp s (k + 1000000) rp r [blkC n6 (.cells #[.int .i64 c.f0, .int .i64 c.f1, .int .i64 c.f2.f0.f0, .string c.f2.f0.f1, .string c.f2.f0.f2, .int .i64 c.f2.f1] 36 (0, 0))] W8 → Q .normal ⟨#[u0, u1, u2, .pointer (some ⟨lp, 0, none⟩), .pointer (some ⟨rp, 0, none⟩), u5, .pointer (some ⟨n6, 0, none⟩), u7, u8, u9, u10, .pointer (some ⟨n11, 0, none⟩), .bool bw, .pointer (some ⟨n13, 0, none⟩), .bool bw, u15, u16, u17, u18, u19, u20, u21, u22, u23, u24, u25, u26, u27, u28, u29, u30, u31, u32, u33, u34, u35, u36, u37, u38, u39, u40, u41, u42, u43, u44, u45, u46, u47, u48, u49, u50, u51, u52, u53, u54, u55, u56, u57, u58, u59, u60, u61, u62, u63, u64, u65, u66, u67, u68, u69, u70, u71, u72, u73, u74, u75, u76, u77, u78, u79, u80, u81, u82, u83, u84, u85, u86, u87, u88, u89, u90, u91, u92, u93, u94, u95, u96, u97, u98, u99, u100, u101, u102, v103, v104, v105, v106, v107, v108, v109, v110, v111, v112, v113, v114, v115, v116, v117, v118, v119, v120, v121, v122, v123, v124, v125, v126, v127, v128, v129, v130, v131, v132, v133, v134, v135, v136, v137, v138, v139, v140, v141, v142, v143, v144, v145, v146, v147, v148, v149, v150, v151, v152, .bool false, u154, u155, u156, u157, u158, u159, u160, u161, u162, u163, u164, u165, u166, u167, u168, u169, u170, u171, u172, u173, u174, u175, u176, u177, u178, u179, u180, u181], []⟩ W8) :
   (codeOf Tryz.f3 25).wp Tryz.prog Q ⟨#[u0, u1, u2, .pointer (some ⟨lp, 0, none⟩), .pointer (some ⟨rp, 0, none⟩), u5, .pointer (some ⟨n6, 0, none⟩), u7, u8, u9, u10, .pointer (some ⟨n11, 0, none⟩), .bool bw, .pointer (some ⟨n13, 0, none⟩), .bool bw, u15, u16, u17, u18, u19, u20, u21, u22, u23, u24, u25, u26, u27, u28, u29, u30, u31, u32, u33, u34, u35, u36, u37, u38, u39, u40, u41, u42, u43, u44, u45, u46, u47, u48, u49, u50, u51, u52, u53, u54, u55, u56, u57, u58, u59, u60, u61, u62, u63, u64, u65, u66, u67, u68, u69, u70, u71, u72, u73, u74, u75, u76, u77, u78, u79, u80, u81, u82, u83, u84, u85, u86, u87, u88, u89, u90, u91, u92, u93, u94, u95, u96, u97, u98, u99, u100, u101, u102, u103, u104, u105, u106, u107, u108, u109, u110, u111, u112, u113, u114, u115, u116, u117, u118, u119, u120, u121, u122, u123, u124, u125, u126, u127, u128, u129, u130, u131, u132, u133, u134, u135, u136, u137, u138, u139, u140, u141, u142, u143, u144, u145, u146, u147, u148, u149, u150, u151, u152, u153, u154, u155, u156, u157, u158, u159, u160, u161, u162, u163, u164, u165, u166, u167, u168, u169, u170, u171, u172, u173, u174, u175, u176, u177, u178, u179, u180, u181], []⟩ W7 := by
 have HH := Aside0.mk h
 have HP := Aside0.mk hp
 have HSE := Aside0.mk hq
 clear h hq hp
 obtain ⟨LS, hLS⟩ : ∃ L, stateL (s.rows c.f2.f0) = L := ⟨_, rfl⟩
 obtain ⟨LB, hLB⟩ : ∃ L, blockS srtI s c.f1 = L := ⟨_, rfl⟩
 obtain ⟨md, hmd⟩ : ∃ m, modeD s c.f1 c.f2.f0 = m := ⟨_, rfl⟩
 have STA := Aside0.mk (fun W k' R2 (h : LQ w NoF lp s k' rp r R2 W) => h.state hg ht)
 have DSTA := Aside0.mk (fun W k' R2 (h : LQ w NoF lp s k' rp r R2 W) => h.dstate c.f2.f0 (by omega))
 rw [rstate_rr hrr] at DSTA
 rw [hLS] at STA DSTA
 have hls : LS.length < 100000 := by rw [← hLS]; exact state_len hg c.f2.f0
 have SH := Aside0.mk (fun W v u (hv : RowX heldE W v LS) (hu : RowX heldE W u LS) => sameheld_calls W v u LS hv hu hls)
 have BLO := Aside0.mk (fun W R2 (h : LQ w NoF lp s (k) rp r R2 W) => h.blockers hg hx (by omega))
 have DBLO := Aside0.mk (fun W k' R2 (h : LQ w NoF lp s k' rp r R2 W) => h.dblockers c.f1 (by omega))
 rw [rblock_rr hg.inv hrr] at DBLO
 rw [hLB] at BLO DBLO
 have hlb : LB.length < 100000 := by rw [← hLB]; have := blockS_len hg c.f1; omega
 have SI := Aside0.mk (fun W v u (hv : RowX intE W v LB) (hu : RowX intE W u LB) => sameI_true W v u hv hu hlb)
 have MOD := Aside0.mk (fun W k' R2 (h : LQ w NoF lp s k' rp r R2 W) => h.mode hg c.f1 ht)
 have DMOD := Aside0.mk (fun W k' R2 (h : LQ w NoF lp s k' rp r R2 W) => h.dmode c.f1 c.f2.f0 (by omega))
 rw [rmode_eq hrr] at DMOD
 rw [hmd] at MOD DMOD
 unfold lpP at BLO
 unfold lpP thgV at STA MOD
 unfold thgV at DSTA DMOD
 clear hg hrr hlen9 hx ht hk hLS hLB hmd hls hlb
 refine start_ (n := 51) (S := fun w' => w'.cell? ⟨n6, 1, none⟩ = some (.int .i64 c.f1) ∧ w'.cell? ⟨n6, 2, none⟩ = some (.int .i64 c.f2.f0.f0) ∧ w'.cell? ⟨n6, 3, none⟩ = some (.string c.f2.f0.f1) ∧ w'.cell? ⟨n6, 4, none⟩ = some (.string c.f2.f0.f2) ∧ z4 w' n11 z0 z1 z2 z3 ∧ z4 w' n13 z0 z1 z2 z3) (ds := []) #[false, false, false, false, false, false, false, false, false, false, false, false, false, false, false, false, false, false, false, false, false, false, false, false, false, false, false, false, false, false, false, false, false, false, false, false, false, false, false, false, false, false, false, false, false, false, false, false, false, false, false] (by kernel_rfl) rfl rfl ⟨(blk_cell (HSE.out.rest.blk 2 rfl) 1).trans rfl, (blk_cell (HSE.out.rest.blk 2 rfl) 2).trans rfl, (blk_cell (HSE.out.rest.blk 2 rfl) 3).trans rfl, (blk_cell (HSE.out.rest.blk 2 rfl) 4).trans rfl, z4_of (HSE.out.rest.blk 1 rfl), z4_of (HSE.out.rest.blk 0 rfl)⟩ (fun hHeld => ?_)
 have HS201 := Aside0.mk (HSE.out.drew)
 clear HSE
 generalize W7.drew = wd at HS201 hHeld  ⊢
 refine ta_ 0 103 (bs_ 51 1) hHeld ?_ (hQ := fun _ _ _ h => HP.out _ _ _ _ _ h) (hy := by rintro w' ⟨s0, s1, s2, s3, s4, s5⟩; obtain ⟨t0, t1, t2, t3⟩ := s4; go_simp; with_reducible rfl); refine ta_ 1 104 (bs_ 51 3) hHeld ?_ (hQ := fun _ _ _ h => HP.out _ _ _ _ _ h) (hy := by rintro w' ⟨s0, s1, s2, s3, s4, s5⟩; obtain ⟨t0, t1, t2, t3⟩ := s5; go_simp; with_reducible rfl); refine pu_ 2 105 (bs_ 51 7) ?_ (hQ := fun _ _ _ h => HP.out _ _ _ _ _ h); refine pu_ 3 106 (bs_ 51 15) ?_ (hQ := fun _ _ _ h => HP.out _ _ _ _ _ h); refine pu_ 4 107 (bs_ 51 31) ?_ (hQ := fun _ _ _ h => HP.out _ _ _ _ _ h); refine pu_ 5 108 (bs_ 51 63) ?_ (hQ := fun _ _ _ h => HP.out _ _ _ _ _ h)
 refine pu_ 6 109 (bs_ 51 127) ?_ (hQ := fun _ _ _ h => HP.out _ _ _ _ _ h); refine pu_ 7 110 (bs_ 51 255) ?_ (hQ := fun _ _ _ h => HP.out _ _ _ _ _ h); refine pu_ 8 111 (bs_ 51 511) ?_ (hQ := fun _ _ _ h => HP.out _ _ _ _ _ h); refine pu_ 9 112 (bs_ 51 1023) ?_ (hQ := fun _ _ _ h => HP.out _ _ _ _ _ h); refine pu_ 10 113 (bs_ 51 2047) ?_ (hQ := fun _ _ _ h => HP.out _ _ _ _ _ h); refine pu_ 11 114 (bs_ 51 4095) ?_ (hQ := fun _ _ _ h => HP.out _ _ _ _ _ h); refine pu_ 14 117 (bs_ 51 20479) ?_ (hQ := fun _ _ _ h => HP.out _ _ _ _ _ h); refine pu_ 15 118 (bs_ 51 53247) ?_ (hQ := fun _ _ _ h => HP.out _ _ _ _ _ h)
 refine pu_ 16 119 (bs_ 51 118783) ?_ (hQ := fun _ _ _ h => HP.out _ _ _ _ _ h); refine ta_ 12 115 (bs_ 51 122879) hHeld ?_ (hQ := fun _ _ _ h => HP.out _ _ _ _ _ h); refine ta_ 17 120 (bs_ 51 253951) hHeld ?_ (hQ := fun _ _ _ h => HP.out _ _ _ _ _ h)
 refine one_ (i := 13) (N := (some 116)) (bs_ 51 262143) rfl rfl (by kernel_rfl) (by decide) (fun K_ hK => ?_)
 refine goes_ Tryz.func17 (by kernel_rfl) rfl #[.pointer (some ⟨lp, 0, none⟩), .agg #[.int .i64 c.f2.f0.f0, .string c.f2.f0.f1, .string c.f2.f0.f2]] (by rfl) rfl rfl (by (try simp only [List.map_toArray, List.map_cons, List.map_nil]); first | done | rfl) ?_
 refine (STA.out _ _ _ HS201.out).mono ?_
 rintro E x1 ⟨v1, rfl, hq_⟩
 have HS202 := Aside0.mk (hq_.perm (R' := [blkC n13 (.cells #[.int .i64 z0, .string z1, .string z2, .int .i64 z3] 34 (0, 0)), blkC n11 (.cells #[.int .i64 z0, .string z1, .string z2, .int .i64 z3] 34 (0, 0)), blkC n6 (.cells #[.int .i64 c.f0, .int .i64 c.f1, .int .i64 c.f2.f0.f0, .string c.f2.f0.f1, .string c.f2.f0.f2, .int .i64 c.f2.f1] 36 (0, 0)), rowHC v1 LS]) (List.perm_append_comm (l₁ := [_])))
 clear HS201
 clear hq_
 refine ⟨_, rfl, ?_⟩
 clear hHeld
 refine hK.out _ _ ⟨(blk_cell (HS202.out.rest.blk 2 rfl) 1).trans rfl, (blk_cell (HS202.out.rest.blk 2 rfl) 2).trans rfl, (blk_cell (HS202.out.rest.blk 2 rfl) 3).trans rfl, (blk_cell (HS202.out.rest.blk 2 rfl) 4).trans rfl, z4_of (HS202.out.rest.blk 1 rfl), z4_of (HS202.out.rest.blk 0 rfl)⟩ (fun hHeld => ?_)
 clear hK K_
 refine norm_ (a' := ?_) ?_ ?_
 rotate_left
 · show Act.put _ (some 116) _ = _
   simp only [Act.put, List.setIfInBounds_toArray, List.set_cons_zero, List.set_cons_succ, i64_w, i32_w]
   rfl
 refine one_ (i := 18) (N := (some 121)) (bs_ 51 524287) rfl rfl (by kernel_rfl) (by decide) (fun K_ hK => ?_)
 refine goes_ Tryz.func18 (by kernel_rfl) rfl #[.pointer (some ⟨rp, 0, none⟩), .agg #[.int .i64 c.f2.f0.f0, .string c.f2.f0.f1, .string c.f2.f0.f2]] (by rfl) rfl rfl (by (try simp only [List.map_toArray, List.map_cons, List.map_nil]); first | done | rfl) ?_
 refine (DSTA.out _ _ _ HS202.out).mono ?_
 rintro E x2 ⟨A2, n2, c2, rfl, hq_⟩
 have HS203 := Aside0.mk (hq_.perm (R' := [blkC n13 (.cells #[.int .i64 z0, .string z1, .string z2, .int .i64 z3] 34 (0, 0)), blkC n11 (.cells #[.int .i64 z0, .string z1, .string z2, .int .i64 z3] 34 (0, 0)), blkC n6 (.cells #[.int .i64 c.f0, .int .i64 c.f1, .int .i64 c.f2.f0.f0, .string c.f2.f0.f1, .string c.f2.f0.f2, .int .i64 c.f2.f1] 36 (0, 0)), rowHC v1 LS, rowHC (.slice A2 n2 c2) LS]) (List.perm_append_comm (l₁ := [_])))
 clear HS202
 clear hq_
 refine ⟨_, rfl, ?_⟩
 clear hHeld
 refine hK.out _ _ ⟨(blk_cell (HS203.out.rest.blk 2 rfl) 1).trans rfl, (blk_cell (HS203.out.rest.blk 2 rfl) 2).trans rfl, (blk_cell (HS203.out.rest.blk 2 rfl) 3).trans rfl, (blk_cell (HS203.out.rest.blk 2 rfl) 4).trans rfl, z4_of (HS203.out.rest.blk 1 rfl), z4_of (HS203.out.rest.blk 0 rfl)⟩ (fun hHeld => ?_)
 clear hK K_
 refine norm_ (a' := ?_) ?_ ?_
 rotate_left
 · show Act.put _ (some 121) _ = _
   simp only [Act.put, List.setIfInBounds_toArray, List.set_cons_zero, List.set_cons_succ, i64_w, i32_w]
   rfl
 refine one_ (i := 19) (N := (some 122)) (bs_ 51 1048575) rfl rfl (by kernel_rfl) (by decide) (fun K_ hK => ?_)
 refine goes_ Tryz.func16 (by kernel_rfl) rfl #[v1, .slice A2 n2 c2] (by rfl) rfl rfl (by (try simp only [List.map_toArray, List.map_cons, List.map_nil]); first | done | rfl) ?_
 refine (SH.out _ _ _ (HS203.out.rest.rowX 3 rfl) (HS203.out.rest.rowX 4 rfl)).mono ?_
 rintro E x3 ⟨rfl, hb⟩
 have HS204 := Aside0.mk (HS203.out.below hb)
 clear HS203
 clear hb
 refine ⟨_, rfl, ?_⟩
 clear hHeld
 refine hK.out _ _ ⟨(blk_cell (HS204.out.rest.blk 2 rfl) 1).trans rfl, (blk_cell (HS204.out.rest.blk 2 rfl) 2).trans rfl, (blk_cell (HS204.out.rest.blk 2 rfl) 3).trans rfl, (blk_cell (HS204.out.rest.blk 2 rfl) 4).trans rfl, z4_of (HS204.out.rest.blk 1 rfl), z4_of (HS204.out.rest.blk 0 rfl)⟩ (fun hHeld => ?_)
 clear hK K_
 refine norm_ (a' := ?_) ?_ ?_
 rotate_left
 · show Act.put _ (some 122) _ = _
   simp only [Act.put, List.setIfInBounds_toArray, List.set_cons_zero, List.set_cons_succ, i64_w, i32_w]
   rfl
 refine pu_ 20 123 (bs_ 51 2097151) ?_ (hQ := fun _ _ _ h => HP.out _ _ _ _ _ h); refine pu_ 21 124 (bs_ 51 4194303) ?_ (hQ := fun _ _ _ h => HP.out _ _ _ _ _ h); refine pu_ 22 125 (bs_ 51 8388607) ?_ (hQ := fun _ _ _ h => HP.out _ _ _ _ _ h); refine pu_ 23 126 (bs_ 51 16777215) ?_ (hQ := fun _ _ _ h => HP.out _ _ _ _ _ h); refine pu_ 24 127 (bs_ 51 33554431) ?_ (hQ := fun _ _ _ h => HP.out _ _ _ _ _ h); refine pu_ 27 130 (bs_ 51 167772159) ?_ (hQ := fun _ _ _ h => HP.out _ _ _ _ _ h); refine pu_ 28 131 (bs_ 51 436207615) ?_ (hQ := fun _ _ _ h => HP.out _ _ _ _ _ h); refine ta_ 25 128 (bs_ 51 469762047) hHeld ?_ (hQ := fun _ _ _ h => HP.out _ _ _ _ _ h)
 refine ta_ 29 132 (bs_ 51 1006632959) hHeld ?_ (hQ := fun _ _ _ h => HP.out _ _ _ _ _ h)
 refine one_ (i := 26) (N := (some 129)) (bs_ 51 1073741823) rfl rfl (by kernel_rfl) (by decide) (fun K_ hK => ?_)
 refine goes_ Tryz.func19 (by kernel_rfl) rfl #[.pointer (some ⟨lp, 0, none⟩), .int .i64 c.f1] (by rfl) rfl rfl (by (try simp only [List.map_toArray, List.map_cons, List.map_nil]); first | done | rfl) ?_
 refine (BLO.out _ _ HS204.out).mono ?_
 rintro E x4 ⟨v3, rfl, hq_⟩
 have HS205 := Aside0.mk (hq_.perm (R' := [blkC n13 (.cells #[.int .i64 z0, .string z1, .string z2, .int .i64 z3] 34 (0, 0)), blkC n11 (.cells #[.int .i64 z0, .string z1, .string z2, .int .i64 z3] 34 (0, 0)), blkC n6 (.cells #[.int .i64 c.f0, .int .i64 c.f1, .int .i64 c.f2.f0.f0, .string c.f2.f0.f1, .string c.f2.f0.f2, .int .i64 c.f2.f1] 36 (0, 0)), rowHC v1 LS, rowHC (.slice A2 n2 c2) LS, rowIC v3 LB]) (List.perm_append_comm (l₁ := [_])))
 clear HS204
 clear hq_
 refine ⟨_, rfl, ?_⟩
 clear hHeld
 refine hK.out _ _ ⟨(blk_cell (HS205.out.rest.blk 2 rfl) 1).trans rfl, (blk_cell (HS205.out.rest.blk 2 rfl) 2).trans rfl, (blk_cell (HS205.out.rest.blk 2 rfl) 3).trans rfl, (blk_cell (HS205.out.rest.blk 2 rfl) 4).trans rfl, z4_of (HS205.out.rest.blk 1 rfl), z4_of (HS205.out.rest.blk 0 rfl)⟩ (fun hHeld => ?_)
 clear hK K_
 refine norm_ (a' := ?_) ?_ ?_
 rotate_left
 · show Act.put _ (some 129) _ = _
   simp only [Act.put, List.setIfInBounds_toArray, List.set_cons_zero, List.set_cons_succ, i64_w, i32_w]
   rfl
 refine one_ (i := 30) (N := (some 133)) (bs_ 51 2147483647) rfl rfl (by kernel_rfl) (by decide) (fun K_ hK => ?_)
 refine goes_ Tryz.func20 (by kernel_rfl) rfl #[.pointer (some ⟨rp, 0, none⟩), .int .i64 c.f1] (by rfl) rfl rfl (by (try simp only [List.map_toArray, List.map_cons, List.map_nil]); first | done | rfl) ?_
 refine (DBLO.out _ _ _ HS205.out).mono ?_
 rintro E x5 ⟨A4, n4, c4, rfl, hq_⟩
 have HS206 := Aside0.mk (hq_.perm (R' := [blkC n13 (.cells #[.int .i64 z0, .string z1, .string z2, .int .i64 z3] 34 (0, 0)), blkC n11 (.cells #[.int .i64 z0, .string z1, .string z2, .int .i64 z3] 34 (0, 0)), blkC n6 (.cells #[.int .i64 c.f0, .int .i64 c.f1, .int .i64 c.f2.f0.f0, .string c.f2.f0.f1, .string c.f2.f0.f2, .int .i64 c.f2.f1] 36 (0, 0)), rowHC v1 LS, rowHC (.slice A2 n2 c2) LS, rowIC v3 LB, rowIC (.slice A4 n4 c4) LB]) (List.perm_append_comm (l₁ := [_])))
 clear HS205
 clear hq_
 refine ⟨_, rfl, ?_⟩
 clear hHeld
 refine hK.out _ _ ⟨(blk_cell (HS206.out.rest.blk 2 rfl) 1).trans rfl, (blk_cell (HS206.out.rest.blk 2 rfl) 2).trans rfl, (blk_cell (HS206.out.rest.blk 2 rfl) 3).trans rfl, (blk_cell (HS206.out.rest.blk 2 rfl) 4).trans rfl, z4_of (HS206.out.rest.blk 1 rfl), z4_of (HS206.out.rest.blk 0 rfl)⟩ (fun hHeld => ?_)
 clear hK K_
 refine norm_ (a' := ?_) ?_ ?_
 rotate_left
 · show Act.put _ (some 133) _ = _
   simp only [Act.put, List.setIfInBounds_toArray, List.set_cons_zero, List.set_cons_succ, i64_w, i32_w]
   rfl
 refine one_ (i := 31) (N := (some 134)) (bs_ 51 4294967295) rfl rfl (by kernel_rfl) (by decide) (fun K_ hK => ?_)
 refine goes_ Tryz.func9 (by kernel_rfl) rfl #[v3, .slice A4 n4 c4] (by rfl) rfl rfl (by (try simp only [List.map_toArray, List.map_cons, List.map_nil]); first | done | rfl) ?_
 refine (SI.out _ _ _ (HS206.out.rest.rowX 5 rfl) (HS206.out.rest.rowX 6 rfl)).mono ?_
 rintro E x6 ⟨rfl, hb⟩
 have HS207 := Aside0.mk (HS206.out.below hb)
 clear HS206
 clear hb
 refine ⟨_, rfl, ?_⟩
 clear hHeld
 refine hK.out _ _ ⟨(blk_cell (HS207.out.rest.blk 2 rfl) 1).trans rfl, (blk_cell (HS207.out.rest.blk 2 rfl) 2).trans rfl, (blk_cell (HS207.out.rest.blk 2 rfl) 3).trans rfl, (blk_cell (HS207.out.rest.blk 2 rfl) 4).trans rfl, z4_of (HS207.out.rest.blk 1 rfl), z4_of (HS207.out.rest.blk 0 rfl)⟩ (fun hHeld => ?_)
 clear hK K_
 refine norm_ (a' := ?_) ?_ ?_
 rotate_left
 · show Act.put _ (some 134) _ = _
   simp only [Act.put, List.setIfInBounds_toArray, List.set_cons_zero, List.set_cons_succ, i64_w, i32_w]
   rfl
 refine pu_ 32 135 (bs_ 51 8589934591) ?_ (hQ := fun _ _ _ h => HP.out _ _ _ _ _ h); refine pu_ 33 136 (bs_ 51 17179869183) ?_ (hQ := fun _ _ _ h => HP.out _ _ _ _ _ h); refine pu_ 34 137 (bs_ 51 34359738367) ?_ (hQ := fun _ _ _ h => HP.out _ _ _ _ _ h); refine pu_ 35 138 (bs_ 51 68719476735) ?_ (hQ := fun _ _ _ h => HP.out _ _ _ _ _ h); refine pu_ 36 139 (bs_ 51 137438953471) ?_ (hQ := fun _ _ _ h => HP.out _ _ _ _ _ h); refine pu_ 38 141 (bs_ 51 412316860415) ?_ (hQ := fun _ _ _ h => HP.out _ _ _ _ _ h); refine pu_ 39 142 (bs_ 51 962072674303) ?_ (hQ := fun _ _ _ h => HP.out _ _ _ _ _ h); refine pu_ 42 145 (bs_ 51 5360119185407) ?_ (hQ := fun _ _ _ h => HP.out _ _ _ _ _ h)
 refine pu_ 43 146 (bs_ 51 14156212207615) ?_ (hQ := fun _ _ _ h => HP.out _ _ _ _ _ h); refine pu_ 45 148 (bs_ 51 49340584296447) ?_ (hQ := fun _ _ _ h => HP.out _ _ _ _ _ h); refine pu_ 46 149 (bs_ 51 119709328474111) ?_ (hQ := fun _ _ _ h => HP.out _ _ _ _ _ h); refine ta_ 37 140 (bs_ 51 119846767427583) hHeld ?_ (hQ := fun _ _ _ h => HP.out _ _ _ _ _ h); refine ta_ 40 143 (bs_ 51 120946279055359) hHeld ?_ (hQ := fun _ _ _ h => HP.out _ _ _ _ _ h); refine ta_ 44 147 (bs_ 51 138538465099775) hHeld ?_ (hQ := fun _ _ _ h => HP.out _ _ _ _ _ h); refine ta_ 47 150 (bs_ 51 279275953455103) hHeld ?_ (hQ := fun _ _ _ h => HP.out _ _ _ _ _ h)
 refine one_ (i := 41) (N := (some 144)) (bs_ 51 281474976710655) rfl rfl (by kernel_rfl) (by decide) (fun K_ hK => ?_)
 refine goes_ Tryz.func21 (by kernel_rfl) rfl #[.pointer (some ⟨lp, 0, none⟩), .int .i64 c.f1, .agg #[.int .i64 c.f2.f0.f0, .string c.f2.f0.f1, .string c.f2.f0.f2]] (by rfl) rfl rfl (by (try simp only [List.map_toArray, List.map_cons, List.map_nil]); first | done | rfl) ?_
 refine (MOD.out _ _ _ HS207.out).mono ?_
 rintro E x7 ⟨rfl, hq_⟩
 have HS208 := Aside0.mk (hq_)
 clear HS207
 clear hq_
 refine ⟨_, rfl, ?_⟩
 clear hHeld
 refine hK.out _ _ ⟨(blk_cell (HS208.out.rest.blk 2 rfl) 1).trans rfl, (blk_cell (HS208.out.rest.blk 2 rfl) 2).trans rfl, (blk_cell (HS208.out.rest.blk 2 rfl) 3).trans rfl, (blk_cell (HS208.out.rest.blk 2 rfl) 4).trans rfl, z4_of (HS208.out.rest.blk 1 rfl), z4_of (HS208.out.rest.blk 0 rfl)⟩ (fun hHeld => ?_)
 clear hK K_
 refine norm_ (a' := ?_) ?_ ?_
 rotate_left
 · show Act.put _ (some 144) _ = _
   simp only [Act.put, List.setIfInBounds_toArray, List.set_cons_zero, List.set_cons_succ, i64_w, i32_w]
   rfl
 refine one_ (i := 48) (N := (some 151)) (bs_ 51 562949953421311) rfl rfl (by kernel_rfl) (by decide) (fun K_ hK => ?_)
 refine goes_ Tryz.func22 (by kernel_rfl) rfl #[.pointer (some ⟨rp, 0, none⟩), .int .i64 c.f1, .agg #[.int .i64 c.f2.f0.f0, .string c.f2.f0.f1, .string c.f2.f0.f2]] (by rfl) rfl rfl (by (try simp only [List.map_toArray, List.map_cons, List.map_nil]); first | done | rfl) ?_
 refine (DMOD.out _ _ _ HS208.out).mono ?_
 rintro E x8 ⟨rfl, hq_⟩
 have HS209 := Aside0.mk (hq_)
 clear HS208
 clear hq_
 refine ⟨_, rfl, ?_⟩
 clear hHeld
 refine hK.out _ _ ⟨(blk_cell (HS209.out.rest.blk 2 rfl) 1).trans rfl, (blk_cell (HS209.out.rest.blk 2 rfl) 2).trans rfl, (blk_cell (HS209.out.rest.blk 2 rfl) 3).trans rfl, (blk_cell (HS209.out.rest.blk 2 rfl) 4).trans rfl, z4_of (HS209.out.rest.blk 1 rfl), z4_of (HS209.out.rest.blk 0 rfl)⟩ (fun hHeld => ?_)
 clear hK K_
 refine norm_ (a' := ?_) ?_ ?_
 rotate_left
 · show Act.put _ (some 151) _ = _
   simp only [Act.put, List.setIfInBounds_toArray, List.set_cons_zero, List.set_cons_succ, i64_w, i32_w]
   rfl
 refine pu_ 49 152 (bs_ 51 1125899906842623) ?_ (hQ := fun _ _ _ h => HP.out _ _ _ _ _ h); refine pu_ 50 153 (bs_ 51 2251799813685247) ?_ (hQ := fun _ _ _ h => HP.out _ _ _ _ _ h)
 refine done_ (by kernel_rfl) ?_
 exact HH.out _ _ _ _ _ _ _ _ _ _ _ _ _ _ _ _ _ _ _ _ _ _ _ _ _ _ _ _ _ _ _ _ _ _ _ _ _ _ _ _ _ _ _ _ _ _ _ _ _ _ _ (LQ.left (R := [blkC n6 (.cells #[.int .i64 c.f0, .int .i64 c.f1, .int .i64 c.f2.f0.f0, .string c.f2.f0.f1, .string c.f2.f0.f2, .int .i64 c.f2.f1] 36 (0, 0))]) (R' := [_, _, _, _]) (LQ.drop1 (LQ.drop1 HS209.out)))
end Go.Proofs.Kb
end
section
namespace Go.Proofs.Kb
open Go Go.RowKit Go.Proofs.YtkcjcdkmdooofaaGreat.Q Go.Proofs.YtkcjcdkmdooofaaGreatW.PrintWords Go.Proofs.YtkcjcdkmdooofaaGreatW.PrintLast Go.Proofs.YtkcjcdkmdooofaaGreatW.PrintMore
set_option maxRecDepth 100000
open Go.Proofs.Lk Go.Proofs.Mp
attribute [local go_sem high] eqT
set_option maxHeartbeats 8000000 in
theorem calls_great (w : World) (A0 : Option Addr) (c0 n : Nat) (A5 : ∀ W, Below w.heap.size w W → Calls Tryz.prog 5 #[.slice A0 n c0] W fun E w' => E = .returned (.bool true) ∧ Below W.heap.size W w') :
   Calls Tryz.prog 3 #[.slice A0 n c0] w fun E w' => E = .returned (.bool true) ∧ Below w.heap.size w w' := by
 obtain ⟨Q, hQ⟩ : ∃ Q, (fun E w' => E = Ending.returned (.bool true) ∧ Below w.heap.size w w') = Q := ⟨_, rfl⟩
 have HQ := Aside0.mk hQ
 rw [hQ]
 have A5 := Aside0.mk A5
 have G1 := Aside0.mk trivial
 clear hQ
 go_enter Tryz.func3, Tryz.ntmps3
 go_wp2_with (first
   | (clear G1; go_at_call 4; refine (alive_calls w).mono ?_; rintro E w1 ⟨rfl, hb⟩; have HB1 := Aside0.mk hb; clear hb)
   | (go_at_call 5; refine (A5.out _ HB1.out).mono ?_; rintro E w2 ⟨rfl, hb⟩; have HB2 := Aside0.mk (HB1.out.trans (hb.mono HB1.out.size)); clear hb))
 rw [← HQ.out]
 exact ⟨rfl, HB2.out⟩
set_option maxHeartbeats 64000000 in
theorem calls_row (w : World) (A0 : Option Addr) (c0 : Nat) (l : List S36) (hC : Kd.C k36 w A0 l.length l) (hcap : l.length ≤ c0) (hwf : l.length ≤ maxLen ∧ ∀ a ∈ l, wf36 a) :
   Calls Tryz.prog 3 #[.slice A0 l.length c0] w fun E w' => E = .returned (.bool true) ∧ Below w.heap.size w w' := by
 obtain ⟨Q, hQ⟩ : ∃ Q, (fun E w' => E = Ending.returned (.bool true) ∧ Below w.heap.size w w') = Q := ⟨_, rfl⟩
 have HQ := Aside0.mk hQ
 rw [hQ]
 have hu22 := Tryz.underlying22
 have hu30 := Tryz.underlying30
 have hu36 := Tryz.underlying36
 have hu34 := Tryz.underlying34
 have hu32 := Tryz.underlying32
 have hu38 := Tryz.underlying38
 have hu43 := Tryz.underlying43
 have hu49 := Tryz.underlying49
 have hu41 := Tryz.underlying41
 have hz36 := Tryz.sizeOf36
 have hz34 := Tryz.sizeOf34
 have hz32 := Tryz.sizeOf32
 have HA := Aside0.mk (Arg.mk hC)
 have HW := Aside0.mk hwf.2
 obtain ⟨b, hb1, hb2⟩ := great_small l
 have A5 := Aside0.mk (fun W (hb : Below w.heap.size w W) => great_at W A0 c0 l (Kd.C_below hC hb) hcap hb1)
 obtain ⟨n, hnn⟩ : ∃ n, l.length = n := ⟨_, rfl⟩
 have HN := Aside0.mk hnn
 have G1 := Aside0.mk trivial
 have G2 := G1
 cases b with
 | true =>
   rw [hnn] at A5 ⊢
   rw [← hQ]
   exact calls_great w A0 c0 n A5.out
 | false =>
   have hn120 : n ≤ 120 := by rw [← hnn]; exact (hb2 rfl).1
   have HSMD := Aside0.mk (show ∀ t ∈ thgsOf l, SmallT t from fun t ht => by
     obtain ⟨c, hc, rfl⟩ := List.mem_map.1 ht
     exact (hb2 rfl).2 c hc)
   have HG0 := Aside0.mk (good_new (l := l) (by rw [hnn]; exact hn120) HW.out)
   rw [hnn] at A5 ⊢
   clear hQ hC hcap hwf hnn hb1 hb2
   go_enter Tryz.func3, Tryz.ntmps3
   go_wp2_with (first
     | (clear G1; go_at_call 4; refine (alive_calls w).mono ?_; rintro E w1 ⟨rfl, hb⟩; have HB1 := Aside0.mk hb; clear hb)
     | (clear G2; go_at_call 5; refine (A5.out _ HB1.out).mono ?_; rintro E w2 ⟨rfl, hb⟩; have HB2 := Aside0.mk (HB1.out.trans (hb.mono HB1.out.size)); clear hb)
     | (go_at_call 6; refine (LA.new (R := []) ((St.nil0 w NoF).below HB2.out)).mono ?_; rintro E w3 ⟨lp, rfl, h⟩; have HS3 := Aside0.mk h; clear h HB1 HB2; unfold lpP))
   clear A5
   have hs4 := LQ.new HS3.out rfl
   obtain ⟨rp, hrp⟩ : ∃ rp, w3.heap.size = rp := ⟨_, rfl⟩
   rw [hrp] at hs4 ⊢
   have HS4 := Aside0.mk (show LQI w l lp rp 0 (10000000 * 0) [] _ from ⟨LS.new, ⟨[], []⟩, HG0.out, (fun t => rfl), Nat.le_refl _, hs4⟩)
   clear hs4 hrp HS3
   go_loopg [5, 6, 7, 8, 9, 10, 11, 12, 13, 14, 15, 16, 17] n (fun gq v5 v6 v7 v8 v9 v10 v11 v12 v13 v14 v15 v16 v17 wx => ∃ i : Nat, v5 = .int .i64 i ∧ i + gq = n ∧ Aside0 (LQI w l lp rp i (10000000 * i) [] wx))
   case atStart => exact ⟨0, rfl, by omega, HS4⟩
   case round =>
     clear HS4
     obtain ⟨i, rfl, hi, HSI⟩ := hrel
     cases gk with
     | zero =>
       obtain rfl : i = n := by omega
       have hin : ¬ (i : Int) < (i : Int) := by omega
       go_wp2
       rw [← HQ.out]
       obtain ⟨s, r, _, _, _, h⟩ := HSI.out
       exact ⟨rfl, keep_below h.rest.keep⟩
     | succ gq =>
       have hin : i < n := by omega
       have hin2 : (i : Int) < (n : Int) := by omega
       have hi0 : (0 : Int) ≤ (i : Int) := by omega
       have hi9 : (i : Int) ≤ 1000000 := by omega
       obtain ⟨s, r, hg, hrr, hlen, hq⟩ := HSI.out
       clear HSI
       obtain ⟨c, hc⟩ : ∃ c, l[i]? = some c := ⟨_, List.getElem?_eq_getElem (by rw [HN.out]; exact hin)⟩
       obtain ⟨ad, rfl, hcell⟩ := HA.out.cells hc
       obtain ⟨d0, d1, d2, d3, d4, d5⟩ := hcell wr (keep_below hq.rest.keep)
       have hcm := List.mem_of_getElem? hc
       have hxX : c.f1 ∈ txnsOf l := List.mem_map.2 ⟨c, hcm, rfl⟩
       have htD : c.f2.f0 ∈ thgsOf l := List.mem_map.2 ⟨c, hcm, rfl⟩
       have HXX := Aside0.mk hxX
       have HWX := Aside0.mk (wf_I (HW.out c hcm))
       have HWT := Aside0.mk (wf_T (HW.out c hcm))
       have HTD := Aside0.mk htD
       obtain ⟨n6, hn6⟩ : ∃ n, wr.heap.size = n := ⟨_, rfl⟩
       obtain ⟨W6, hW6⟩ : ∃ W, wr.alloc (.cells #[.int .i64 c.f0, .int .i64 c.f1, .int .i64 c.f2.f0.f0, .string c.f2.f0.f1, .string c.f2.f0.f2, .int .i64 c.f2.f1] 36) = W := ⟨_, rfl⟩
       have hqa := hq.alloc #[.int .i64 c.f0, .int .i64 c.f1, .int .i64 c.f2.f0.f0, .string c.f2.f0.f1, .string c.f2.f0.f2, .int .i64 c.f2.f1] 36 hn6
       rw [hW6] at hqa
       have HSA := Aside0.mk hqa
       have HG := Aside0.mk hg
       have HRR := Aside0.mk hrr
       have HLN := Aside0.mk (show r.holds.length + r.waits.length < 80000 by omega)
       have HLE := Aside0.mk (show r.holds.length + r.waits.length ≤ i from hlen)
       have HI := Aside0.mk (show 10000000 * i < 3000000000000000000 by omega)
       have p0 : W6.cell? ⟨n6, 0, none⟩ = some (.int .i64 c.f0) := (blk_cell (hqa.rest.blk 0 rfl) 0).trans rfl; have p1 : W6.cell? ⟨n6, 1, none⟩ = some (.int .i64 c.f1) := (blk_cell (hqa.rest.blk 0 rfl) 1).trans rfl; have p2 : W6.cell? ⟨n6, 2, none⟩ = some (.int .i64 c.f2.f0.f0) := (blk_cell (hqa.rest.blk 0 rfl) 2).trans rfl; have p3 : W6.cell? ⟨n6, 3, none⟩ = some (.string c.f2.f0.f1) := (blk_cell (hqa.rest.blk 0 rfl) 3).trans rfl; have p4 : W6.cell? ⟨n6, 4, none⟩ = some (.string c.f2.f0.f2) := (blk_cell (hqa.rest.blk 0 rfl) 4).trans rfl; have p5 : W6.cell? ⟨n6, 5, none⟩ = some (.int .i64 c.f2.f1) := (blk_cell (hqa.rest.blk 0 rfl) 5).trans rfl; have pl := lt_of_some (hqa.rest.blk 0 rfl)
       clear hc hcell hcm hg hrr hlen hq hqa hxX htD
       go_upto_block 2 with (fail)
       clear d0 d1 d2 d3 d4 d5
       go_cut [7, 8, 9, 10] (fun v7 v8 v9 v10 wx => Aside0 (LQI w l lp rp (i + 1) (10000000 * i + 2000000) [blkC n6 (.cells #[.int .i64 c.f0, .int .i64 c.f1, .int .i64 c.f2.f0.f0, .string c.f2.f0.f1, .string c.f2.f0.f2, .int .i64 c.f2.f1] 36 (0, 0))] wx))
       case first =>
         by_cases h0 : c.f0 = 0
         · have hb0 : (c.f0 == 0) = true := beq_iff_eq.2 h0
           have hask := HSA.out.ask HG.out c.f2.f1 HXX.out HTD.out (by have := HI.out; omega)
           obtain ⟨⟨ab, aa⟩, hba⟩ : ∃ p : Bool × Ans, (askS haddT fitsT s c.f1 c.f2.f0 c.f2.f1).2 = p := ⟨_, rfl⟩
           obtain ⟨hr1, hr2⟩ := rask_rr (hadd := haddT) (fits := fitsT) HG.out.inv HRR.out c.f1 c.f2.f0 c.f2.f1
           have hl1 := rask_len r c.f1 c.f2.f0 c.f2.f1
           have hg1 := HG.out.ask c.f2.f1 HXX.out HTD.out
           have DASK := Aside0.mk (fun W s' k' (h : LQ w NoF lp s' k' rp r [blkC n6 (.cells #[.int .i64 c.f0, .int .i64 c.f1, .int .i64 c.f2.f0.f0, .string c.f2.f0.f1, .string c.f2.f0.f2, .int .i64 c.f2.f1] 36 (0, 0))] W) => h.dask c.f1 c.f2.f0 c.f2.f1 (by have := HLN.out; omega) (rmode_right HG.out HRR.out c.f1 c.f2.f0))
           rw [ask_e hba] at hask
           have hr3 := askr_e (hr2.trans hba)
           rw [hr3] at DASK
           obtain ⟨s1, hs1⟩ : ∃ s1, (askS haddT fitsT s c.f1 c.f2.f0 c.f2.f1).1 = s1 := ⟨_, rfl⟩
           obtain ⟨r1, hr1'⟩ : ∃ r1, (rask fitsT r c.f1 c.f2.f0 c.f2.f1).1 = r1 := ⟨_, rfl⟩
           rw [hs1] at hask hr1 hg1
           rw [hr1'] at DASK hr1 hl1
           obtain ⟨e, he⟩ : ∃ e, errC aa = e := ⟨_, rfl⟩
           rw [he] at hask DASK
           have ASK := Aside0.mk hask
           have HEND := Aside0.mk (show Good (txnsOf l) (thgsOf l) s1 ∧ RR s1 r1 ∧ r1.holds.length + r1.waits.length ≤ i + 1 from ⟨hg1, hr1, by have := HLE.out; unfold rsLen at hl1; omega⟩)
           unfold lpP wantV at ASK
           unfold wantV at DASK
           clear h0 hask hba hr1 hr2 hr3 hl1 hg1 hs1 hr1' he
           have G3 := Aside0.mk trivial
           go_wp2_with (first
             | (clear G3; go_at_call 7; refine ASK.out.mono ?_; rintro E w7 ⟨rfl, h7⟩; clear p0 p1 p2 p3 p4 p5 pl; have p0 : w7.cell? ⟨n6, 0, none⟩ = some (.int .i64 c.f0) := (blk_cell (h7.rest.blk 0 rfl) 0).trans rfl; have p1 : w7.cell? ⟨n6, 1, none⟩ = some (.int .i64 c.f1) := (blk_cell (h7.rest.blk 0 rfl) 1).trans rfl; have p2 : w7.cell? ⟨n6, 2, none⟩ = some (.int .i64 c.f2.f0.f0) := (blk_cell (h7.rest.blk 0 rfl) 2).trans rfl; have p3 : w7.cell? ⟨n6, 3, none⟩ = some (.string c.f2.f0.f1) := (blk_cell (h7.rest.blk 0 rfl) 3).trans rfl; have p4 : w7.cell? ⟨n6, 4, none⟩ = some (.string c.f2.f0.f2) := (blk_cell (h7.rest.blk 0 rfl) 4).trans rfl; have p5 : w7.cell? ⟨n6, 5, none⟩ = some (.int .i64 c.f2.f1) := (blk_cell (h7.rest.blk 0 rfl) 5).trans rfl; have pl := lt_of_some (h7.rest.blk 0 rfl); have HS7 := Aside0.mk h7; clear h7)
             | (go_at_call 8; refine (DASK.out _ _ _ HS7.out).mono ?_; rintro E w8 ⟨rfl, h8⟩; clear p0 p1 p2 p3 p4 p5 pl; have HS8 := Aside0.mk h8; clear h8 HS7))
           go_meet
           case rel => exact Aside0.mk ⟨s1, r1, HEND.out.1, HEND.out.2.1, HEND.out.2.2, HS8.out.mono (by omega)⟩
         · have hb0 : (c.f0 == 0) = false := beq_eq_false_iff_ne.2 h0
           by_cases h1 : c.f0 = 1
           · have hb1 : (c.f0 == 1) = true := beq_iff_eq.2 h1
             obtain ⟨hr1, hr2⟩ := rcancel_rr (hadd := haddT) HG.out.inv HRR.out c.f1
             have hl1 := rcancel_len r c.f1
             have hl2 := rcancel_cnt r c.f1
             have hg1 : Good (txnsOf l) (thgsOf l) (cancelS haddT s c.f1).1 := HG.out.step ⟨1, c.f1, c.f2.f0, c.f2.f1⟩ HXX.out HTD.out
             have CAN := Aside0.mk (fun W (h : LQ w NoF lp s (10000000 * i) rp r [blkC n6 (.cells #[.int .i64 c.f0, .int .i64 c.f1, .int .i64 c.f2.f0.f0, .string c.f2.f0.f1, .string c.f2.f0.f2, .int .i64 c.f2.f1] 36 (0, 0))] W) => h.cancel HG.out HXX.out (by have := HI.out; omega))
             have DCAN := Aside0.mk (fun W R2 (h : LQ w NoF lp (cancelS haddT s c.f1).1 (10000000 * i + 1000000) rp r R2 W) => h.dcancel c.f1 (by have := HLN.out; omega))
             obtain ⟨s1, hs1⟩ : ∃ s1, (cancelS haddT s c.f1).1 = s1 := ⟨_, rfl⟩
             obtain ⟨r1, hr1'⟩ : ∃ r1, (rcancel r c.f1).1 = r1 := ⟨_, rfl⟩
             obtain ⟨L, hL⟩ : ∃ L, (cancelS haddT s c.f1).2 = L := ⟨_, rfl⟩
             have hL2 := hr2.trans hL
             rw [hs1] at CAN DCAN hr1 hg1
             rw [hL] at CAN
             rw [hr1', hL2] at DCAN
             rw [hL2] at hl2
             rw [hr1'] at hr1 hl1
             have SI := Aside0.mk (fun W v u (hv : RowX intE W v L) (hu : RowX intE W u L) => sameI_true W v u hv hu (by have := HLN.out; omega))
             have HEND := Aside0.mk (show Good (txnsOf l) (thgsOf l) s1 ∧ RR s1 r1 ∧ r1.holds.length + r1.waits.length ≤ i + 1 from ⟨hg1, hr1, by have := HLE.out; unfold rsLen at hl1; omega⟩)
             unfold lpP at CAN
             clear h0 h1 hr1 hr2 hl1 hl2 hg1 hs1 hr1' hL hL2
             go_wp2
             clear p0 p1 p2 p3 p4 p5 pl
             refine start_ (n := 10) (S := fun w' => w'.cell? ⟨n6, 0, none⟩ = some (.int .i64 c.f0) ∧ w'.cell? ⟨n6, 1, none⟩ = some (.int .i64 c.f1)) (ds := []) #[false, false, false, false, false, false, false, false, false, false] (by kernel_rfl) rfl rfl ⟨(blk_cell (HSA.out.rest.blk 0 rfl) 0).trans rfl, (blk_cell (HSA.out.rest.blk 0 rfl) 1).trans rfl⟩ (fun hHeld => ?_)
             have HS101 := Aside0.mk (HSA.out.drew)
             clear HSA
             generalize W6.drew = wd at HS101 hHeld  ⊢
             refine pu_ 0 67 (bs_ 10 1) ?_; refine pu_ 1 68 (bs_ 10 3) ?_; refine pu_ 4 71 (bs_ 10 19) ?_; refine pu_ 5 72 (bs_ 10 51) ?_; refine ta_ 2 69 (bs_ 10 55) hHeld ?_; refine ta_ 6 73 (bs_ 10 119) hHeld ?_
             refine one_ (i := 3) (N := (some 70)) (bs_ 10 127) rfl rfl (by kernel_rfl) (by decide) (fun K_ hK => ?_)
             refine goes_ Tryz.func10 (by kernel_rfl) rfl #[.pointer (some ⟨lp, 0, none⟩), .int .i64 c.f1] (by rfl) rfl rfl (by (try simp only [List.map_toArray, List.map_cons, List.map_nil]); first | done | rfl) ?_
             refine (CAN.out _ HS101.out).mono ?_
             rintro E w2 ⟨v1, rfl, hq_⟩
             have HS102 := Aside0.mk (hq_.perm (R' := [blkC n6 (.cells #[.int .i64 c.f0, .int .i64 c.f1, .int .i64 c.f2.f0.f0, .string c.f2.f0.f1, .string c.f2.f0.f2, .int .i64 c.f2.f1] 36 (0, 0)), rowIC v1 L]) (List.perm_append_comm (l₁ := [_])))
             clear HS101
             clear hq_
             refine ⟨_, rfl, ?_⟩
             clear hHeld
             refine hK.out _ _ ⟨(blk_cell (HS102.out.rest.blk 0 rfl) 0).trans rfl, (blk_cell (HS102.out.rest.blk 0 rfl) 1).trans rfl⟩ (fun hHeld => ?_)
             clear hK K_
             refine norm_ (a' := ?_) ?_ ?_
             rotate_left
             · show Act.put _ (some 70) _ = _
               simp only [Act.put, List.setIfInBounds_toArray, List.set_cons_zero, List.set_cons_succ, i64_w, i32_w]
               rfl
             refine one_ (i := 7) (N := (some 74)) (bs_ 10 255) rfl rfl (by kernel_rfl) (by decide) (fun K_ hK => ?_)
             refine goes_ Tryz.func11 (by kernel_rfl) rfl #[.pointer (some ⟨rp, 0, none⟩), .int .i64 c.f1] (by rfl) rfl rfl (by (try simp only [List.map_toArray, List.map_cons, List.map_nil]); first | done | rfl) ?_
             refine (DCAN.out _ _ HS102.out).mono ?_
             rintro E w3 ⟨A2, n2, c2, rfl, hq_⟩
             have HS103 := Aside0.mk (hq_.perm (R' := [blkC n6 (.cells #[.int .i64 c.f0, .int .i64 c.f1, .int .i64 c.f2.f0.f0, .string c.f2.f0.f1, .string c.f2.f0.f2, .int .i64 c.f2.f1] 36 (0, 0)), rowIC v1 L, rowIC (.slice A2 n2 c2) L]) (List.perm_append_comm (l₁ := [_])))
             clear HS102
             clear hq_
             refine ⟨_, rfl, ?_⟩
             clear hHeld
             refine hK.out _ _ ⟨(blk_cell (HS103.out.rest.blk 0 rfl) 0).trans rfl, (blk_cell (HS103.out.rest.blk 0 rfl) 1).trans rfl⟩ (fun hHeld => ?_)
             clear hK K_
             refine norm_ (a' := ?_) ?_ ?_
             rotate_left
             · show Act.put _ (some 74) _ = _
               simp only [Act.put, List.setIfInBounds_toArray, List.set_cons_zero, List.set_cons_succ, i64_w, i32_w]
               rfl
             refine one_ (i := 8) (N := (some 75)) (bs_ 10 511) rfl rfl (by kernel_rfl) (by decide) (fun K_ hK => ?_)
             refine goes_ Tryz.func9 (by kernel_rfl) rfl #[v1, .slice A2 n2 c2] (by rfl) rfl rfl (by (try simp only [List.map_toArray, List.map_cons, List.map_nil]); first | done | rfl) ?_
             refine (SI.out _ _ _ (HS103.out.rest.rowX 1 rfl) (HS103.out.rest.rowX 2 rfl)).mono ?_
             rintro E w4 ⟨rfl, hb⟩
             have HS104 := Aside0.mk (HS103.out.below hb)
             clear HS103
             clear hb
             refine ⟨_, rfl, ?_⟩
             clear hHeld
             refine hK.out _ _ ⟨(blk_cell (HS104.out.rest.blk 0 rfl) 0).trans rfl, (blk_cell (HS104.out.rest.blk 0 rfl) 1).trans rfl⟩ (fun hHeld => ?_)
             clear hK K_
             refine norm_ (a' := ?_) ?_ ?_
             rotate_left
             · show Act.put _ (some 75) _ = _
               simp only [Act.put, List.setIfInBounds_toArray, List.set_cons_zero, List.set_cons_succ, i64_w, i32_w]
               rfl
             refine pu_ 9 76 (bs_ 10 1023) ?_
             refine done_ (by kernel_rfl) ?_
             clear hHeld
             go_wp2
             go_meet
             case rel => exact Aside0.mk ⟨s1, r1, HEND.out.1, HEND.out.2.1, HEND.out.2.2, (LQ.drop1 (LQ.drop1 (HS104.out.perm (R' := [_, _, blkC n6 (.cells #[.int .i64 c.f0, .int .i64 c.f1, .int .i64 c.f2.f0.f0, .string c.f2.f0.f1, .string c.f2.f0.f2, .int .i64 c.f2.f1] 36 (0, 0))]) (perm_ix _ [1, 2, 0] 3 rfl (by decide))))).mono (by omega)⟩
           · have hb1 : (c.f0 == 1) = false := beq_eq_false_iff_ne.2 h1
             by_cases h2 : c.f0 = 2
             · have hb2 : (c.f0 == 2) = true := beq_iff_eq.2 h2
               obtain ⟨hr1, hr2⟩ := rrelease_rr (hadd := haddT) mem_haddT HG.out.inv HRR.out c.f1
               have hall := rall_rr HG.out.inv HRR.out HG.out.so c.f1
               rw [← hall] at hr1 hr2
               have hl1 := rrelease_len r c.f1 (rall r c.f1)
               have hl2 := rrelease_cnt r c.f1 (rall r c.f1)
               have hg1 := HG.out.release c.f1
               have REL := Aside0.mk (fun W (h : LQ w NoF lp s (10000000 * i) rp r [blkC n6 (.cells #[.int .i64 c.f0, .int .i64 c.f1, .int .i64 c.f2.f0.f0, .string c.f2.f0.f1, .string c.f2.f0.f2, .int .i64 c.f2.f1] 36 (0, 0))] W) => h.release HG.out HXX.out (by have := HI.out; omega))
               have DREL := Aside0.mk (fun W R2 (h : LQ w NoF lp (releaseS haddT s c.f1).1 (10000000 * i + 1000000) rp r R2 W) => h.drelease c.f1 (by have := HLN.out; omega) (small_rr HG.out HRR.out HSMD.out))
               obtain ⟨s1, hs1⟩ : ∃ s1, (releaseS haddT s c.f1).1 = s1 := ⟨_, rfl⟩
               obtain ⟨r1, hr1'⟩ : ∃ r1, (rrelease r c.f1 (rall r c.f1)).1 = r1 := ⟨_, rfl⟩
               obtain ⟨L, hL⟩ : ∃ L, (releaseS haddT s c.f1).2 = L := ⟨_, rfl⟩
               have hL2 := hr2.trans hL
               rw [hs1] at REL DREL hr1 hg1
               rw [hL] at REL
               rw [hr1', hL2] at DREL
               rw [hL2] at hl2
               rw [hr1'] at hr1 hl1
               have SI := Aside0.mk (fun W v u (hv : RowX intE W v L) (hu : RowX intE W u L) => sameI_true W v u hv hu (by have := HLN.out; omega))
               have HEND := Aside0.mk (show Good (txnsOf l) (thgsOf l) s1 ∧ RR s1 r1 ∧ r1.holds.length + r1.waits.length ≤ i + 1 from ⟨hg1, hr1, by have := HLE.out; unfold rsLen at hl1; omega⟩)
               unfold lpP at REL
               clear h0 h1 h2 hr1 hr2 hl1 hl2 hg1 hs1 hr1' hL hL2 hall
               go_wp2
               clear p0 p1 p2 p3 p4 p5 pl
               refine start_ (n := 10) (S := fun w' => w'.cell? ⟨n6, 0, none⟩ = some (.int .i64 c.f0) ∧ w'.cell? ⟨n6, 1, none⟩ = some (.int .i64 c.f1)) (ds := []) #[false, false, false, false, false, false, false, false, false, false] (by kernel_rfl) rfl rfl ⟨(blk_cell (HSA.out.rest.blk 0 rfl) 0).trans rfl, (blk_cell (HSA.out.rest.blk 0 rfl) 1).trans rfl⟩ (fun hHeld => ?_)
               have HS121 := Aside0.mk (HSA.out.drew)
               clear HSA
               generalize W6.drew = wd at HS121 hHeld  ⊢
               refine pu_ 0 79 (bs_ 10 1) ?_; refine pu_ 1 80 (bs_ 10 3) ?_; refine pu_ 4 83 (bs_ 10 19) ?_; refine pu_ 5 84 (bs_ 10 51) ?_; refine ta_ 2 81 (bs_ 10 55) hHeld ?_; refine ta_ 6 85 (bs_ 10 119) hHeld ?_
               refine one_ (i := 3) (N := (some 82)) (bs_ 10 127) rfl rfl (by kernel_rfl) (by decide) (fun K_ hK => ?_)
               refine goes_ Tryz.func12 (by kernel_rfl) rfl #[.pointer (some ⟨lp, 0, none⟩), .int .i64 c.f1] (by rfl) rfl rfl (by (try simp only [List.map_toArray, List.map_cons, List.map_nil]); first | done | rfl) ?_
               refine (REL.out _ HS121.out).mono ?_
               rintro E w2 ⟨v1, rfl, hq_⟩
               have HS122 := Aside0.mk (hq_.perm (R' := [blkC n6 (.cells #[.int .i64 c.f0, .int .i64 c.f1, .int .i64 c.f2.f0.f0, .string c.f2.f0.f1, .string c.f2.f0.f2, .int .i64 c.f2.f1] 36 (0, 0)), rowIC v1 L]) (List.perm_append_comm (l₁ := [_])))
               clear HS121
               clear hq_
               refine ⟨_, rfl, ?_⟩
               clear hHeld
               refine hK.out _ _ ⟨(blk_cell (HS122.out.rest.blk 0 rfl) 0).trans rfl, (blk_cell (HS122.out.rest.blk 0 rfl) 1).trans rfl⟩ (fun hHeld => ?_)
               clear hK K_
               refine norm_ (a' := ?_) ?_ ?_
               rotate_left
               · show Act.put _ (some 82) _ = _
                 simp only [Act.put, List.setIfInBounds_toArray, List.set_cons_zero, List.set_cons_succ, i64_w, i32_w]
                 rfl
               refine one_ (i := 7) (N := (some 86)) (bs_ 10 255) rfl rfl (by kernel_rfl) (by decide) (fun K_ hK => ?_)
               refine goes_ Tryz.func13 (by kernel_rfl) rfl #[.pointer (some ⟨rp, 0, none⟩), .int .i64 c.f1] (by rfl) rfl rfl (by (try simp only [List.map_toArray, List.map_cons, List.map_nil]); first | done | rfl) ?_
               refine (DREL.out _ _ HS122.out).mono ?_
               rintro E w3 ⟨A2, n2, c2, rfl, hq_⟩
               have HS123 := Aside0.mk (hq_.perm (R' := [blkC n6 (.cells #[.int .i64 c.f0, .int .i64 c.f1, .int .i64 c.f2.f0.f0, .string c.f2.f0.f1, .string c.f2.f0.f2, .int .i64 c.f2.f1] 36 (0, 0)), rowIC v1 L, rowIC (.slice A2 n2 c2) L]) (List.perm_append_comm (l₁ := [_])))
               clear HS122
               clear hq_
               refine ⟨_, rfl, ?_⟩
               clear hHeld
               refine hK.out _ _ ⟨(blk_cell (HS123.out.rest.blk 0 rfl) 0).trans rfl, (blk_cell (HS123.out.rest.blk 0 rfl) 1).trans rfl⟩ (fun hHeld => ?_)
               clear hK K_
               refine norm_ (a' := ?_) ?_ ?_
               rotate_left
               · show Act.put _ (some 86) _ = _
                 simp only [Act.put, List.setIfInBounds_toArray, List.set_cons_zero, List.set_cons_succ, i64_w, i32_w]
                 rfl
               refine one_ (i := 8) (N := (some 87)) (bs_ 10 511) rfl rfl (by kernel_rfl) (by decide) (fun K_ hK => ?_)
               refine goes_ Tryz.func9 (by kernel_rfl) rfl #[v1, .slice A2 n2 c2] (by rfl) rfl rfl (by (try simp only [List.map_toArray, List.map_cons, List.map_nil]); first | done | rfl) ?_
               refine (SI.out _ _ _ (HS123.out.rest.rowX 1 rfl) (HS123.out.rest.rowX 2 rfl)).mono ?_
               rintro E w4 ⟨rfl, hb⟩
               have HS124 := Aside0.mk (HS123.out.below hb)
               clear HS123
               clear hb
               refine ⟨_, rfl, ?_⟩
               clear hHeld
               refine hK.out _ _ ⟨(blk_cell (HS124.out.rest.blk 0 rfl) 0).trans rfl, (blk_cell (HS124.out.rest.blk 0 rfl) 1).trans rfl⟩ (fun hHeld => ?_)
               clear hK K_
               refine norm_ (a' := ?_) ?_ ?_
               rotate_left
               · show Act.put _ (some 87) _ = _
                 simp only [Act.put, List.setIfInBounds_toArray, List.set_cons_zero, List.set_cons_succ, i64_w, i32_w]
                 rfl
               refine pu_ 9 88 (bs_ 10 1023) ?_
               refine done_ (by kernel_rfl) ?_
               clear hHeld
               go_wp2
               go_meet
               case rel => exact Aside0.mk ⟨s1, r1, HEND.out.1, HEND.out.2.1, HEND.out.2.2, (LQ.drop1 (LQ.drop1 (HS124.out.perm (R' := [_, _, blkC n6 (.cells #[.int .i64 c.f0, .int .i64 c.f1, .int .i64 c.f2.f0.f0, .string c.f2.f0.f1, .string c.f2.f0.f2, .int .i64 c.f2.f1] 36 (0, 0))]) (perm_ix _ [1, 2, 0] 3 rfl (by decide))))).mono (by omega)⟩
             · have hb2 : (c.f0 == 2) = false := beq_eq_false_iff_ne.2 h2
               clear h0 h1 h2
               go_wp2
               go_meet
               case rel => exact Aside0.mk ⟨s, r, HG.out, HRR.out, by have := HLE.out; omega, HSA.out.mono (by omega)⟩
       case rest =>
         clear HSA HG HRR HLN HLE HI p0 p1 p2 p3 p4 p5 pl hW6 hn6
         obtain ⟨s, r, hg, hrr, hlen, hq⟩ := hcut.out
         clear hcut
         have hlen9 : r.holds.length + r.waits.length < 80000 := by omega
         obtain ⟨z0, z1, z2, z3, hz⟩ := waitV_agg s c.f1
         obtain ⟨bw, hbw⟩ : ∃ b, (s.waits c.f1).isSome = b := ⟨_, rfl⟩
         obtain ⟨e1, e2⟩ := rwaitV_eq hg.inv hrr c.f1
         have hwait := hq.waiting hg HXX.out (by omega)
         rw [hz, hbw] at hwait
         have WAIT := Aside0.mk hwait
         have DWAIT := Aside0.mk (fun W k' R2 (h : LQ w NoF lp s k' rp r R2 W) => h.dwaiting c.f1 (by omega))
         rw [e1, e2, hz, hbw] at DWAIT
         obtain ⟨LT, hLT⟩ : ∃ L, s.held c.f1 = L := ⟨_, rfl⟩
         have THI := Aside0.mk (fun W k' R2 (h : LQ w NoF lp s k' rp r R2 W) => h.things hg HWX.out)
         have DTHI := Aside0.mk (fun W k' R2 (h : LQ w NoF lp s k' rp r R2 W) => h.dthings c.f1 (by omega) (small_rr hg hrr HSMD.out))
         rw [rthings_rr hg.inv hrr hg.so] at DTHI
         rw [hLT] at THI DTHI
         obtain ⟨nt, hnt⟩ : ∃ n, LT.length = n := ⟨_, rfl⟩
         rw [hnt] at DTHI
         have HNT := Aside0.mk hnt
         have HNTL := Aside0.mk (show nt < 100000 by rw [← hnt, ← hLT, ← rthings_rr hg.inv hrr hg.so]; have := rthings_len (r := r) (x := c.f1); omega)
         have HG := Aside0.mk (show Good (txnsOf l) (thgsOf l) s ∧ RR s r ∧ r.holds.length + r.waits.length ≤ i + 1 from ⟨hg, hrr, hlen⟩)
         unfold lpP at WAIT
         unfold lpP at THI
         have p0 : wc.cell? ⟨n6, 0, none⟩ = some (.int .i64 c.f0) := (blk_cell (hq.rest.blk 0 rfl) 0).trans rfl; have p1 : wc.cell? ⟨n6, 1, none⟩ = some (.int .i64 c.f1) := (blk_cell (hq.rest.blk 0 rfl) 1).trans rfl; have p2 : wc.cell? ⟨n6, 2, none⟩ = some (.int .i64 c.f2.f0.f0) := (blk_cell (hq.rest.blk 0 rfl) 2).trans rfl; have p3 : wc.cell? ⟨n6, 3, none⟩ = some (.string c.f2.f0.f1) := (blk_cell (hq.rest.blk 0 rfl) 3).trans rfl; have p4 : wc.cell? ⟨n6, 4, none⟩ = some (.string c.f2.f0.f2) := (blk_cell (hq.rest.blk 0 rfl) 4).trans rfl; have p5 : wc.cell? ⟨n6, 5, none⟩ = some (.int .i64 c.f2.f1) := (blk_cell (hq.rest.blk 0 rfl) 5).trans rfl; have pl := lt_of_some (hq.rest.blk 0 rfl)
         clear hg hrr hlen hlen9 hq hz hbw e1 e2 hwait hLT hnt
         have G5 := Aside0.mk trivial
         go_wp2_with (first
           | (clear G5; go_at_call 14; refine WAIT.out.mono ?_; rintro E w7 ⟨rfl, h7⟩; have h8 := h7.alloc #[.int .i64 z0, .string z1, .string z2, .int .i64 z3] 34 rfl; clear p0 p1 p2 p3 p4 p5 pl; have p0 : (w7.alloc (.cells #[.int .i64 z0, .string z1, .string z2, .int .i64 z3] 34)).cell? ⟨n6, 0, none⟩ = some (.int .i64 c.f0) := (blk_cell (h8.rest.blk 1 rfl) 0).trans rfl; have p1 : (w7.alloc (.cells #[.int .i64 z0, .string z1, .string z2, .int .i64 z3] 34)).cell? ⟨n6, 1, none⟩ = some (.int .i64 c.f1) := (blk_cell (h8.rest.blk 1 rfl) 1).trans rfl; have p2 : (w7.alloc (.cells #[.int .i64 z0, .string z1, .string z2, .int .i64 z3] 34)).cell? ⟨n6, 2, none⟩ = some (.int .i64 c.f2.f0.f0) := (blk_cell (h8.rest.blk 1 rfl) 2).trans rfl; have p3 : (w7.alloc (.cells #[.int .i64 z0, .string z1, .string z2, .int .i64 z3] 34)).cell? ⟨n6, 3, none⟩ = some (.string c.f2.f0.f1) := (blk_cell (h8.rest.blk 1 rfl) 3).trans rfl; have p4 : (w7.alloc (.cells #[.int .i64 z0, .string z1, .string z2, .int .i64 z3] 34)).cell? ⟨n6, 4, none⟩ = some (.string c.f2.f0.f2) := (blk_cell (h8.rest.blk 1 rfl) 4).trans rfl; have p5 : (w7.alloc (.cells #[.int .i64 z0, .string z1, .string z2, .int .i64 z3] 34)).cell? ⟨n6, 5, none⟩ = some (.int .i64 c.f2.f1) := (blk_cell (h8.rest.blk 1 rfl) 5).trans rfl; have pl := lt_of_some (h8.rest.blk 1 rfl); have HS7 := Aside0.mk h8; clear h7 h8)
           | (go_at_call 15; refine (DWAIT.out _ _ _ HS7.out).mono ?_; rintro E w8 ⟨rfl, h8⟩; have h9 := h8.alloc #[.int .i64 z0, .string z1, .string z2, .int .i64 z3] 34 rfl; clear p0 p1 p2 p3 p4 p5 pl; have HSE := Aside0.mk h9; clear h8 h9 HS7))
         obtain ⟨n13, hn13⟩ : ∃ n, w8.heap.size = n := ⟨_, rfl⟩
         obtain ⟨n11, hn11⟩ : ∃ n, w7.heap.size = n := ⟨_, rfl⟩
         rw [hn13, hn11] at HSE ⊢
         obtain ⟨W7, hW7⟩ : ∃ W, w8.alloc (.cells #[.int .i64 z0, .string z1, .string z2, .int .i64 z3] 34) = W := ⟨_, rfl⟩
         rw [hW7] at HSE ⊢
         clear hn13 hn11 hW7
         refine reg25 HG.out.1 HG.out.2.1 (by have := HG.out.2.2; omega) HXX.out HWT.out (10000000 * i + 2000000 + 1000000) (by omega) (fun _ _ d _ _ h => by cases d <;> exact h) HSE.out ?_
         intro v103 v104 v105 v106 v107 v108 v109 v110 v111 v112 v113 v114 v115 v116 v117 v118 v119 v120 v121 v122 v123 v124 v125 v126 v127 v128 v129 v130 v131 v132 v133 v134 v135 v136 v137 v138 v139 v140 v141 v142 v143 v144 v145 v146 v147 v148 v149 v150 v151 v152 x8 hf
         have HSF := Aside0.mk hf
         clear hf HSE
         have p0 : x8.cell? ⟨n6, 0, none⟩ = some (.int .i64 c.f0) := (blk_cell (HSF.out.rest.blk 0 rfl) 0).trans rfl; have p1 : x8.cell? ⟨n6, 1, none⟩ = some (.int .i64 c.f1) := (blk_cell (HSF.out.rest.blk 0 rfl) 1).trans rfl; have p2 : x8.cell? ⟨n6, 2, none⟩ = some (.int .i64 c.f2.f0.f0) := (blk_cell (HSF.out.rest.blk 0 rfl) 2).trans rfl; have p3 : x8.cell? ⟨n6, 3, none⟩ = some (.string c.f2.f0.f1) := (blk_cell (HSF.out.rest.blk 0 rfl) 3).trans rfl; have p4 : x8.cell? ⟨n6, 4, none⟩ = some (.string c.f2.f0.f2) := (blk_cell (HSF.out.rest.blk 0 rfl) 4).trans rfl; have p5 : x8.cell? ⟨n6, 5, none⟩ = some (.int .i64 c.f2.f1) := (blk_cell (HSF.out.rest.blk 0 rfl) 5).trans rfl; have pl := lt_of_some (HSF.out.rest.blk 0 rfl)
         have G6 := Aside0.mk trivial
         go_wp2_with (first
           | (clear G6; go_at_call 23; refine (THI.out _ _ _ HSF.out).mono ?_; rintro E w9 ⟨v, rfl, h9⟩; obtain ⟨A1, c1, rfl⟩ := (h9.rest.rowX 0 rfl).form; rw [HNT.out] at h9 ⊢; clear p0 p1 p2 p3 p4 p5 pl; have p0 : w9.cell? ⟨n6, 0, none⟩ = some (.int .i64 c.f0) := (blk_cell (h9.rest.blk 1 rfl) 0).trans rfl; have p1 : w9.cell? ⟨n6, 1, none⟩ = some (.int .i64 c.f1) := (blk_cell (h9.rest.blk 1 rfl) 1).trans rfl; have p2 : w9.cell? ⟨n6, 2, none⟩ = some (.int .i64 c.f2.f0.f0) := (blk_cell (h9.rest.blk 1 rfl) 2).trans rfl; have p3 : w9.cell? ⟨n6, 3, none⟩ = some (.string c.f2.f0.f1) := (blk_cell (h9.rest.blk 1 rfl) 3).trans rfl; have p4 : w9.cell? ⟨n6, 4, none⟩ = some (.string c.f2.f0.f2) := (blk_cell (h9.rest.blk 1 rfl) 4).trans rfl; have p5 : w9.cell? ⟨n6, 5, none⟩ = some (.int .i64 c.f2.f1) := (blk_cell (h9.rest.blk 1 rfl) 5).trans rfl; have pl := lt_of_some (h9.rest.blk 1 rfl); have HSG := Aside0.mk h9; clear h9 HSF)
           | (go_at_call 24; refine (DTHI.out _ _ _ HSG.out).mono ?_; rintro E w10 ⟨A2, c2, rfl, h10⟩; clear p0 p1 p2 p3 p4 p5 pl; have HSH := Aside0.mk h10; clear h10 HSG))
         go_loopg [17] nt (fun gq2 v17 wx => ∃ k : Nat, v17 = .int .i64 k ∧ k + gq2 = nt ∧ Aside0 (LQ w NoF lp s (10000000 * i + 2000000 + 1000000 + 1000000) rp r [rowTC (.slice A2 nt c2) LT, rowTC (.slice A1 nt c1) LT, blkC n6 (.cells #[.int .i64 c.f0, .int .i64 c.f1, .int .i64 c.f2.f0.f0, .string c.f2.f0.f1, .string c.f2.f0.f2, .int .i64 c.f2.f1] 36 (0, 0))] wx))
         case atStart => exact ⟨0, rfl, by omega, HSH⟩
         case round =>
           clear HSH
           obtain ⟨k, rfl, hk, HST⟩ := hrel
           cases gk with
           | zero =>
             obtain rfl : k = nt := by omega
             have hkn : ¬ (k : Int) < (k : Int) := by omega
             go_wp2
             go_roundg gq
             case measure => omega
             case rel => exact ⟨i + 1, by go_num, by omega, Aside0.mk ⟨s, r, HG.out.1, HG.out.2.1, HG.out.2.2, (LQ.drop1 (LQ.drop1 (LQ.drop1 HST.out))).mono (by omega)⟩⟩
           | succ gq2 =>
             have hkn : (k : Int) < (nt : Int) := by omega
             have hk0 : (0 : Int) ≤ (k : Int) := by omega
             have hk9 : (k : Int) ≤ 1000000 := by have := HNTL.out; omega
             obtain ⟨y, hy⟩ : ∃ y, LT[k]? = some y := ⟨_, List.getElem?_eq_getElem (by rw [HNT.out]; omega)⟩
             obtain ⟨g2, c2', hv2, _⟩ := row_slice (n := LT.length) (HST.out.rest.rowX 0 rfl) (by rw [HNT.out]; omega)
             obtain ⟨rfl, rfl⟩ : A2 = some ⟨g2, 0, none⟩ ∧ c2 = c2' := by
               injection hv2 with e1 e2 e3
               exact ⟨e1, e3⟩
             obtain ⟨g1, c1', hv1, _⟩ := row_slice (n := LT.length) (HST.out.rest.rowX 1 rfl) (by rw [HNT.out]; omega)
             obtain ⟨rfl, rfl⟩ : A1 = some ⟨g1, 0, none⟩ ∧ c1 = c1' := by
               injection hv1 with e1 e2 e3
               exact ⟨e1, e3⟩
             have HO := Aside0.mk hy
             have hyy := eqD_self ⟨y.f0, y.f1, y.f2⟩
             clear hv1 hv2 hy
             go_wp2
             refine start_ (n := 9) (S := fun w' => w'.cell? ⟨g1, k * 3, none⟩ = some (.int .i64 y.f0) ∧ w'.cell? ⟨g1, k * 3 + 1, none⟩ = some (.string y.f1) ∧ w'.cell? ⟨g1, k * 3 + 2, none⟩ = some (.string y.f2) ∧ w'.cell? ⟨g2, k * 3, none⟩ = some (.int .i64 y.f0) ∧ w'.cell? ⟨g2, k * 3 + 1, none⟩ = some (.string y.f1) ∧ w'.cell? ⟨g2, k * 3 + 2, none⟩ = some (.string y.f2)) (ds := []) #[false, false, false, false, false, false, false, false, false] (by kernel_rfl) rfl rfl ⟨((HST.out.rest.rowX 1 rfl).thg HO.out).1, ((HST.out.rest.rowX 1 rfl).thg HO.out).2.1, ((HST.out.rest.rowX 1 rfl).thg HO.out).2.2, ((HST.out.rest.rowX 0 rfl).thg HO.out).1, ((HST.out.rest.rowX 0 rfl).thg HO.out).2.1, ((HST.out.rest.rowX 0 rfl).thg HO.out).2.2⟩ (fun hHeld => ?_)
             have HS301 := Aside0.mk (HST.out.drew)
             clear HST
             generalize wr.drew = wd at HS301 hHeld  ⊢
             refine pu_ 0 173 (bs_ 9 1) ?_; refine pu_ 1 174 (bs_ 9 3) ?_; refine pu_ 2 175 (bs_ 9 7) ?_; refine pu_ 4 177 (bs_ 9 23) ?_; refine pu_ 5 178 (bs_ 9 55) ?_; refine pu_ 6 179 (bs_ 9 119) ?_; refine ta_ 3 176 (bs_ 9 127) hHeld ?_; refine ta_ 7 180 (bs_ 9 255) hHeld ?_; refine pu_ 8 181 (bs_ 9 511) ?_
             refine done_ (by kernel_rfl) ?_
             clear hHeld
             go_wp2
             go_roundg gq2
             case measure => omega
             case rel => exact ⟨k + 1, by go_num, by omega, HS301⟩
end Go.Proofs.Kb
end
