/- Packed by shake.py: YtjaddmflopahiaaE2 YtjaddmflopahiaaE3 YtjaddmflopahiaaE4 YtjaddmflopahiaaE5 YtjaddmflopahiaaE6 YtjaddmflopahiaaE12 YtjaddmflopahiaaQe27 YtjaddmflopahiaaQe29 YtjaddmflopahiaaE14 YtjaddmflopahiaaP1 YtjaddmflopahiaaP2 YtjaddmflopahiaaP3 YtjaddmflopahiaaP4 YtjaddmflopahiaaP6 YtjaddmflopahiaaP7 YtjaddmflopahiaaP8 YtjaddmflopahiaaP9 -/
import Derived.Lib.Strings
import Derived.Test.YtjaddmflopahiaaV5
section
namespace Go.Proofs.Bt
open Go Go.RowKit Go.Proofs.Ytjaddmflopahiaa.Q Go.Proofs.YtjaddmflopahiaaW.PrintWords Go.Proofs.YtjaddmflopahiaaW.PrintLast Go.Proofs.YtjaddmflopahiaaW.PrintMore
set_option linter.unusedVariables false
set_option linter.unusedSimpArgs false
set_option maxRecDepth 100000
attribute [local go_sem] Oper.semAt_some
def boxE (e : S29) : Obj := .cells #[.string e.f0, .int .i64 e.f1.f0, .int .i64 e.f1.f1] 29
set_option maxHeartbeats 4000000 in
theorem walk_succ (l : Nat) (Bs : List Nat) (N : Nat) (J Jx : List S29 → World → Prop) (hJ : Abide J) (e : S29) (h : Nat)
    (IH : ∀ (m : MT h) (n : Nat) (pre : List S29) (W : World), Ok W h m → (∀ a ∈ fp h m, ¬ Own Bs W a) → Good Bs W → Fit e h (abs h m) → J pre W → pre.length + (bfrom h (abs h m) e).length ≤ N →
      CallsIn Fence.wide n Try.prog 53 #[.pointer (some ⟨ptr h m, 0, none⟩), entryV e, .func (.yield l) #[] #[]] W (WalkPost Bs J Jx pre (bfrom h (abs h m) e) W))
    (m : MT (h + 1)) (n : Nat) (pre : List S29) (W : World) (hok : Ok W (h + 1) m) (hfp : ∀ a ∈ fp (h + 1) m, ¬ Own Bs W a) (hG : Good Bs W) (hf : Fit e (h + 1) (abs (h + 1) m)) (h0 : J pre W) (hN : pre.length + (bfrom (h + 1) (abs (h + 1) m) e).length ≤ N) :
    CallsIn Fence.wide n Try.prog 53 #[.pointer (some ⟨ptr (h + 1) m, 0, none⟩), entryV e, .func (.yield l) #[] #[]] W (WalkPost Bs J Jx pre (bfrom (h + 1) (abs (h + 1) m) e) W) := by
  have mixed : Try.prog.follows Departure.mixedOrders = true := by kernel_rfl
  have hu29 := Try.underlying29
  obtain ⟨p, K, C, ks, kids⟩ := m
  have hok' : Ok W (h + 1) (⟨p, K, C, ks, kids⟩ : Inner (MT h)) := hok
  obtain ⟨hNd, hR, hC, hk0, hkids⟩ := hok
  change NodeAt W p K C at hNd
  change RowE W K ks at hR
  change Row W 59 1 C kids.length (kids.map (kidPtr h)) at hC
  change 0 < kids.length at hk0
  change ∀ k ∈ kids, Ok W h k at hkids
  obtain ⟨f1, f2, f3, f4⟩ := hf
  change ks.length ≤ 4 at f1
  change Mono ks e at f2
  change (kids.map (abs h)).length = ks.length + 1 at f3
  change ∀ k ∈ kids.map (abs h), Fit e h k at f4
  rw [List.length_map] at f3
  obtain ⟨xs, hxs⟩ : ∃ xs, bfrom (h + 1) (abs (h + 1) (⟨p, K, C, ks, kids⟩ : Inner (MT h))) e = xs := ⟨_, rfl⟩
  have hxs2 : xs = ((kids.drop (kidIx ks e)).map (abs h)).flatMap (fun k => bfrom h k e) := by
    rw [← hxs, List.map_drop]
    rfl
  obtain ⟨i, hi⟩ : ∃ i, kidIx ks e = i := ⟨_, rfl⟩
  have hil : i ≤ ks.length := hi ▸ kidIx_le ks e
  rw [hi] at hxs2
  obtain ⟨gc, cC, rfl, hcC⟩ := rowP_form (show Row W 59 1 C (ptrs h kids).length (ptrs h kids) from by rw [ptrs_len]; exact hC) (by rw [ptrs_len]; exact hk0)
  rw [ptrs_len] at *
  obtain ⟨n1, hn1⟩ : ∃ n, kids.length = n := ⟨_, rfl⟩
  rw [hn1] at hNd hC hcC f3 hk0
  have HK1 := Aside0.mk hn1
  have hin : i < n1 := by omega
  have hic : ¬ cC = i := by omega
  have hin2 : (i : Int) < (n1 : Int) := by omega
  have hii0 : (0 : Int) ≤ (i : Int) := by omega
  have hii1 : (i : Int) ≤ (n1 : Int) := by omega
  have hii2 : i ≤ n1 := by omega
  have hn5 : n1 ≤ 5 := by omega
  obtain ⟨W0, hW0⟩ : ∃ W0, W.alloc (.cells #[.string e.f0, .int .i64 e.f1.f0, .int .i64 e.f1.f1] 29) = W0 := ⟨_, rfl⟩
  obtain ⟨n0, hn0⟩ : ∃ n, W.heap.size = n := ⟨_, rfl⟩
  have hb0 : Below W.heap.size W W0 := by rw [← hW0]; exact (Below.refl _ W).alloc (Nat.le_refl _) _
  have hX : W0.heap[n0]? = some (boxE e) := by rw [← hW0, ← hn0]; exact heap_alloc_new W _
  have kr0 := KpR.below hG hb0
  have hown0 : ¬ Own Bs W0 n0 := fun ho => (kr0.own n0 ho).elim (fun h1 => by have := hG n0 h1; omega) (fun h1 => by
    have h2 : Own Bs W n0 := (own_eq (fun b hb => hb0.cell (p := ⟨b, 0, none⟩) (hG b (.inl hb))) n0).1 ho
    have := hG n0 h2
    omega)
  obtain ⟨R, hRR⟩ : ∃ R, WalkPost Bs J Jx pre xs W = R := ⟨_, rfl⟩
  rw [hxs, hRR]
  have HR := Aside0.mk hRR
  have HXS := Aside0.mk hxs2
  have HNd := Aside0.mk (kr0.node hNd (hfp _ List.mem_cons_self))
  have HOK := Aside0.mk (kr0.ok hok' hfp)
  have HFP := Aside0.mk (show ∀ a ∈ fp (h + 1) (⟨p, K, .slice (some ⟨gc, 0, none⟩) n1 cC, ks, kids⟩ : Inner (MT h)), ¬ Own Bs W0 a from fun a ha => kr0.apart (hok'.lt a (by rw [hn1]; exact ha)) (hfp a (by rw [hn1]; exact ha)))
  have HKR := Aside0.mk kr0
  have HO0 := Aside0.mk hown0
  have HX := Aside0.mk hX
  have HJ := Aside0.mk hJ
  have HF4 := Aside0.mk f4
  have H0 := Aside0.mk (hJ _ _ _ h0 hb0)
  have HNN := Aside0.mk (show pre.length + xs.length ≤ N from hxs ▸ hN)
  have HIH := Aside0.mk IH
  rw [hn1] at HOK
  have HKID := Aside0.mk (kid_calls W0.drew p K _ ks e (blk_drew HNd.out) ((show RowE W0.drew K ks from Row.move (HOK.out.2.1 : RowE W0 K ks) (fun _ _ => rfl))) (by omega) f2)
  rw [hi] at HKID
  clear hNd hR hC hkids hok' hfp hG f1 f2 f3 f4 hN IH hJ h0 hxs hxs2 hi hn1 kr0 hown0 hRR hb0 hX
  unfold entryV
  show CallsIn Fence.wide n Try.prog 53 #[.pointer (some ⟨p, 0, none⟩), .agg #[.string e.f0, .int .i64 e.f1.f0, .int .i64 e.f1.f1], .func (.yield l) #[] #[]] W R
  have HLF := Aside0.mk (fun n => callsIn_wide (n := n).2 (leaf_no W0 p K (some ⟨gc, 0, none⟩) n1 cC HNd.out (by omega)))
  refine callsIn_of_wp Try.func53 rfl trivial ?_ rfl
  simp only [Try.ntmps53, List.size_toArray, List.length_cons, List.length_nil, Nat.reduceAdd, Nat.reduceSub, Array.replicate_succ, Array.replicate_zero, List.push_toArray, List.append_toArray, List.nil_append, List.cons_append]
  gi_wp2_with (first
    | ((try refine ⟨trivial, fun h => (by cases h), ?_⟩); gi_at_call 30; refine (HLF.out _).mono ?_; rintro E W0 ⟨rfl, rfl⟩))
  refine wpIn_wide.2 ?_
  refine start_ (n := 10) (S := fun w' => w'.cell? ⟨p, 1, none⟩ = some (.slice (some ⟨gc, 0, none⟩) n1 cC) ∧ w'.cell? ⟨n0, 0, none⟩ = some (.string e.f0) ∧ w'.cell? ⟨n0, 1, none⟩ = some (.int .i64 e.f1.f0) ∧ w'.cell? ⟨n0, 2, none⟩ = some (.int .i64 e.f1.f1)) (ds := []) #[false, false, false, false, false, false, false, false, false, false] (by kernel_rfl) rfl rfl ⟨HNd.out.c1, (blk_cell HX.out 0).trans rfl, (blk_cell HX.out 1).trans rfl, (blk_cell HX.out 2).trans rfl⟩ (fun hHeld => ?_)
  refine pure_ (i := 0) (N := (some 37)) (v := ?_) (a' := ?_) #[true, false, false, false, false, false, false, false, false, false] rfl rfl (by kernel_rfl) (fun _ _ _ h => h) (Or.inl ⟨by rfl, ?_⟩) ?_ ?_
  rotate_left
  · intro w'
    go_simp
    with_reducible rfl
  rotate_left
  · simp only [Act.put, List.setIfInBounds_toArray, List.set_cons_zero, List.set_cons_succ, i64_w, i32_w]
    rfl
  refine pure_ (i := 1) (N := (some 38)) (v := ?_) (a' := ?_) #[true, true, false, false, false, false, false, false, false, false] rfl rfl (by kernel_rfl) (fun _ _ _ h => h) (Or.inl ⟨by rfl, ?_⟩) ?_ ?_
  rotate_left
  · intro w'
    go_simp
    with_reducible rfl
  rotate_left
  · simp only [Act.put, List.setIfInBounds_toArray, List.set_cons_zero, List.set_cons_succ, i64_w, i32_w]
    rfl
  refine pure_ (i := 2) (N := (some 39)) (v := ?_) (a' := ?_) #[true, true, true, false, false, false, false, false, false, false] rfl rfl (by kernel_rfl) (fun _ _ _ h => h) (Or.inl ⟨by rfl, ?_⟩) ?_ ?_
  rotate_left
  · intro w'
    go_simp
    with_reducible rfl
  rotate_left
  · simp only [Act.put, List.setIfInBounds_toArray, List.set_cons_zero, List.set_cons_succ, i64_w, i32_w]
    rfl
  refine pure_ (i := 4) (N := (some 41)) (v := ?_) (a' := ?_) #[true, true, true, false, true, false, false, false, false, false] rfl rfl (by kernel_rfl) (fun _ _ _ h => h) (Or.inl ⟨by rfl, ?_⟩) ?_ ?_
  rotate_left
  · intro w'
    go_simp
    with_reducible rfl
  rotate_left
  · simp only [Act.put, List.setIfInBounds_toArray, List.set_cons_zero, List.set_cons_succ, i64_w, i32_w]
    rfl
  refine pure_ (i := 9) (N := (some 46)) (v := ?_) (a' := ?_) #[true, true, true, false, true, false, false, false, false, true] rfl rfl (by kernel_rfl) (fun _ _ _ h => h) (Or.inl ⟨by rfl, ?_⟩) ?_ ?_
  rotate_left
  · intro w'
    go_simp
    with_reducible rfl
  rotate_left
  · simp only [Act.put, List.setIfInBounds_toArray, List.set_cons_zero, List.set_cons_succ, i64_w, i32_w]
    rfl
  refine take_ (i := 3) (N := (some 40)) (v := ?_) (a' := ?_) #[true, true, true, true, true, false, false, false, false, true] rfl rfl (by kernel_rfl) (fun _ _ _ h => h) (Or.inl ⟨by rfl, ?_⟩) hHeld ?_ ?_
  rotate_left
  · rintro w' ⟨s0, s1, s2, s3⟩
    go_simp
    with_reducible rfl
  rotate_left
  · simp only [Act.put, List.setIfInBounds_toArray, List.set_cons_zero, List.set_cons_succ, i64_w, i32_w]
    rfl
  refine take_ (i := 5) (N := (some 42)) (v := ?_) (a' := ?_) #[true, true, true, true, true, true, false, false, false, true] rfl rfl (by kernel_rfl) (fun _ _ _ h => h) (Or.inl ⟨by rfl, ?_⟩) hHeld ?_ ?_
  rotate_left
  · rintro w' ⟨s0, s1, s2, s3⟩
    go_simp
    with_reducible rfl
  rotate_left
  · simp only [Act.put, List.setIfInBounds_toArray, List.set_cons_zero, List.set_cons_succ, i64_w, i32_w]
    rfl
  refine one_ (i := 6) (N := (some 43)) #[true, true, true, true, true, true, true, false, false, true] rfl rfl (by kernel_rfl) (by decide) (fun K_ hK => ?_)
  refine goes_ Try.func43 (by kernel_rfl) rfl #[.pointer (some ⟨p, 0, none⟩), .agg #[.string e.f0, .int .i64 e.f1.f0, .int .i64 e.f1.f1]] (by rfl) rfl rfl (by (try simp only [List.map_toArray, List.map_cons, List.map_nil]); first | done | rfl) ?_
  refine HKID.out.mono ?_
  rintro E w2 ⟨rfl, hb⟩
  have HB2 := Aside0.mk (show Below W0.heap.size W0 w2 from (⟨rfl, rfl, rfl, Nat.le_refl _, fun _ _ => rfl⟩ : Below W0.heap.size W0 W0.drew).trans hb)
  refine ⟨_, rfl, ?_⟩
  clear hHeld hb
  refine hK.out _ _ ⟨(blk_below HNd.out HB2.out |> fun h => (show NodeAt w2 p K _ from h).c1), (blk_cell (blk_below HX.out HB2.out) 0).trans rfl, (blk_cell (blk_below HX.out HB2.out) 1).trans rfl, (blk_cell (blk_below HX.out HB2.out) 2).trans rfl⟩ (fun hHeld => ?_)
  clear hK K_
  refine norm_ (a' := ?_) ?_ ?_
  rotate_left
  · show Act.put _ (some 43) _ = _
    simp only [Act.put, List.setIfInBounds_toArray, List.set_cons_zero, List.set_cons_succ, i64_w, i32_w]
    rfl
  refine pure_ (i := 7) (N := (some 44)) (v := ?_) (a' := ?_) #[true, true, true, true, true, true, true, true, false, true] rfl rfl (by kernel_rfl) (fun _ _ _ h => h) (Or.inl ⟨by rfl, ?_⟩) ?_ ?_
  rotate_left
  · intro w'
    go_simp
    with_reducible rfl
  rotate_left
  · simp only [Act.put, List.setIfInBounds_toArray, List.set_cons_zero, List.set_cons_succ, i64_w, i32_w]
    rfl
  refine pure_ (i := 8) (N := (some 45)) (v := ?_) (a' := ?_) #[true, true, true, true, true, true, true, true, true, true] rfl rfl (by kernel_rfl) (fun _ _ _ h => h) (Or.inl ⟨by rfl, ?_⟩) ?_ ?_
  rotate_left
  · intro w'
    go_simp
    with_reducible rfl
  rotate_left
  · simp only [Act.put, List.setIfInBounds_toArray, List.set_cons_zero, List.set_cons_succ, i64_w, i32_w]
    rfl
  refine done_ (by kernel_rfl) ?_
  have HKR2 := Aside0.mk (HKR.out.trans (KpR.below HKR.out.good HB2.out))
  have HX2 := Aside0.mk (blk_below HX.out HB2.out)
  have H2 := Aside0.mk (HJ.out _ _ _ H0.out HB2.out)
  have krx := KpR.below HKR.out.good HB2.out
  have HO2 := Aside0.mk (krx.apart (lt_of_some HX.out) HO0.out)
  have HOK2 := Aside0.mk (krx.ok HOK.out HFP.out)
  have HFP2 := Aside0.mk (fun a ha => krx.apart (HOK.out.lt a ha) (HFP.out a ha))
  clear HKR HX H0 HO0 HOK HFP HB2 hHeld HKID HNd krx
  gi_wp2
  gi_loopw [46] (fun v wr => ∃ j : Nat, v = .int .i64 j ∧ j ≤ n1 - i ∧ Aside0 (J (pre ++ ((((kids.drop i).take j).map (abs h)).flatMap (fun k => bfrom h k e))) wr ∧ KpR Bs w2 wr)) (fun v _ => (n1 - i) - (intOf v).toNat)
  case atStart => exact ⟨0, rfl, by omega, Aside0.mk ⟨by simpa using H2.out, KpR.refl HKR2.out.good⟩⟩
  case round =>
    obtain ⟨j, rfl, hj, HI⟩ := hrel
    by_cases hjn : j < n1 - i
    · have hlen : i + j < kids.length := by rw [HK1.out]; omega
      obtain ⟨k, hk⟩ : ∃ k, kids[i + j]? = some k := ⟨_, List.getElem?_eq_getElem hlen⟩
      have HKK := Aside0.mk hk
      have hokr := HI.out.2.ok HOK2.out HFP2.out
      have hrow : Row wr 59 1 (.slice (some ⟨gc, 0, none⟩) n1 cC) kids.length (kids.map (kidPtr h)) := hokr.2.2.1
      have k0 := hrow.cell (by rw [HK1.out]) (i + j) (.pointer (some ⟨ptr h k, 0, none⟩)) (by rw [List.getElem?_map, hk]; rfl)
      have hkm : k ∈ kids := List.mem_of_getElem? hk
      have HOKK := Aside0.mk (show Ok wr h k from hokr.2.2.2.2 k hkm)
      have hbx : wr.heap[n0]? = some (boxE e) := HI.out.2.frame n0 _ HX2.out rfl HO2.out
      have a0 : wr.cell? ⟨n0, 0, none⟩ = some (.string e.f0) := (blk_cell hbx 0).trans rfl
      have a1 : wr.cell? ⟨n0, 1, none⟩ = some (.int .i64 e.f1.f0) := (blk_cell hbx 1).trans rfl
      have a2 : wr.cell? ⟨n0, 2, none⟩ = some (.int .i64 e.f1.f1) := (blk_cell hbx 2).trans rfl
      have HFPK := Aside0.mk (show ∀ a ∈ fp h k, ¬ Own Bs wr a from fun a ha => by
        have hm : a ∈ fp (h + 1) (⟨p, K, .slice (some ⟨gc, 0, none⟩) n1 cC, ks, kids⟩ : Inner (MT h)) := List.mem_cons_of_mem _ (List.mem_append_right _ (List.mem_append_right _ (List.mem_flatMap.2 ⟨k, hkm, ha⟩)))
        exact HI.out.2.apart (HOK2.out.lt a hm) (HFP2.out a hm))
      have htk : (kids.drop i).take (j + 1) = (kids.drop i).take j ++ [k] := by
        rw [List.take_add_one, List.getElem?_drop, hk]
        rfl
      have HTK := Aside0.mk htk
      have hpre : (((kids.drop i).take (j + 1)).map (abs h)).flatMap (fun k => bfrom h k e) <+: xs := by
        rw [HXS.out]
        refine ⟨(((kids.drop i).drop (j + 1)).map (abs h)).flatMap (fun k => bfrom h k e), ?_⟩
        rw [← List.flatMap_append, ← List.map_append, List.take_append_drop]
      have HPRE := Aside0.mk hpre
      have hfl : (((kids.drop i).take (j + 1)).map (abs h)).flatMap (fun k => bfrom h k e) = (((kids.drop i).take j).map (abs h)).flatMap (fun k => bfrom h k e) ++ bfrom h (abs h k) e := by
        rw [htk, List.map_append, List.flatMap_append]
        simp
      have HFL := Aside0.mk hfl
      have hlenp : (pre ++ (((kids.drop i).take j).map (abs h)).flatMap (fun k => bfrom h k e)).length + (bfrom h (abs h k) e).length ≤ N := by
        have h1 := hpre.length_le
        have h2 := HNN.out
        rw [hfl, List.length_append] at h1
        rw [List.length_append]
        omega
      have HCALL := Aside0.mk (fun n => HIH.out k n _ wr HOKK.out HFPK.out HI.out.2.good (HF4.out (abs h k) (List.mem_map_of_mem hkm)) HI.out.1 hlenp)
      have HKI := Aside0.mk HI.out.2
      clear hokr hrow hkm hbx htk hpre hfl hlenp hk HI hlen
      unfold entryV at HCALL
      have hj1 : (j : Int) < (n1 : Int) - (i : Int) := by omega
      gi_wp2_with (first
        | ((try refine ⟨trivial, fun h => (by cases h), ?_⟩); gi_at_call 53; refine (HCALL.out _).mono ?_; clear k0 a0 a1 a2; rintro E W3 (⟨rfl, hJ3, hk3⟩ | ⟨rfl, q, hq, hJ3⟩)))
      · have HJ3 := Aside0.mk hJ3
        have HK3 := Aside0.mk hk3
        clear hJ3 hk3
        go_roundw
        case rel => exact ⟨j + 1, by go_num, by omega, Aside0.mk ⟨by rw [HFL.out, ← List.append_assoc]; exact HJ3.out, HKI.out.trans HK3.out⟩⟩
        case measure => simp [intOf]; omega
      · have HQ := Aside0.mk hq
        have HJ3 := Aside0.mk hJ3
        clear hq hJ3
        first | (rw [← HR.out]) | (go_ret; rw [← HR.out])
        refine .inr ⟨rfl, (((kids.drop i).take j).map (abs h)).flatMap (fun k => bfrom h k e) ++ q, ?_, by rw [← List.append_assoc]; exact HJ3.out⟩
        obtain ⟨r, hr⟩ := HQ.out
        obtain ⟨r2, hr2⟩ := HPRE.out
        refine ⟨r ++ r2, ?_⟩
        rw [← hr2, HFL.out, ← hr]
        simp
    · have hjn2 : ¬ (j : Int) < (n1 : Int) - (i : Int) := by omega
      have HT := Aside0.mk (show (kids.drop i).take j = kids.drop i by rw [List.take_of_length_le]; rw [List.length_drop, HK1.out]; omega)
      gi_wp2
      first | (rw [← HR.out]) | (go_ret; rw [← HR.out])
      refine .inl ⟨rfl, ?_, HKR2.out.trans HI.out.2⟩
      have := HI.out.1
      rw [HT.out, ← HXS.out] at this
      exact this
theorem walk_inn (l : Nat) (Bs : List Nat) (N : Nat) (J Jx : List S29 → World → Prop) (hJ : Abide J) (hY : ∀ m pre x W, J pre W → pre.length < N → YieldAt Fence.wide m Try.prog l #[entryV x] W (YP Bs J Jx pre x W)) (e : S29) :
    ∀ (h : Nat) (m : MT h) (n : Nat) (pre : List S29) (W : World), Ok W h m → (∀ a ∈ fp h m, ¬ Own Bs W a) → Good Bs W → Fit e h (abs h m) → J pre W → pre.length + (bfrom h (abs h m) e).length ≤ N →
      CallsIn Fence.wide n Try.prog 53 #[.pointer (some ⟨ptr h m, 0, none⟩), entryV e, .func (.yield l) #[] #[]] W (WalkPost Bs J Jx pre (bfrom h (abs h m) e) W)
  | 0, m, n, pre, W, h1, h2, h3, h4, h5, h6 => walk_leaf l Bs N J Jx hJ hY e m n pre W h1 h2 h3 h4 h5 h6
  | h + 1, m, n, pre, W, h1, h2, h3, h4, h5, h6 => walk_succ l Bs N J Jx hJ e h (walk_inn l Bs N J Jx hJ hY e h) m n pre W h1 h2 h3 h4 h5 h6
end Go.Proofs.Bt
end
section
namespace Go.Proofs.Bt
open Go Go.RowKit Go.Proofs.Ytjaddmflopahiaa.Q Go.Proofs.YtjaddmflopahiaaW.PrintWords Go.Proofs.YtjaddmflopahiaaW.PrintLast Go.Proofs.YtjaddmflopahiaaW.PrintMore
set_option linter.unusedVariables false
set_option linter.unusedSimpArgs false
set_option maxRecDepth 100000
attribute [local go_sem] Oper.semAt_some
theorem from_calls (w : World) (p : Nat) (e : S29) : Calls Try.prog 32 #[.pointer (some ⟨p, 0, none⟩), entryV e] w fun E w' => E = .returned (.func (.func 52) #[] #[.pointer (some ⟨w.heap.size, 0, none⟩), .pointer (some ⟨w.heap.size + 1, 0, none⟩)]) ∧ w' = (w.alloc (.cells #[.pointer (some ⟨p, 0, none⟩)] 59)).alloc (boxE e) := by
  have hu29 := Try.underlying29
  unfold entryV boxE
  go_enter Try.func32, Try.ntmps32
  go_wp2
  go_ret
  exact ⟨rfl, rfl⟩
def lowS (s : ByteArray) : S29 := ⟨s, ⟨-9223372036854775808, -9223372036854775808⟩⟩
theorem lowest_calls (w : World) (s : ByteArray) : Calls Try.prog 33 #[.string s] w fun E w' => E = .returned (entryV (lowS s)) ∧ Below w.heap.size w w' := by
  have hu29 := Try.underlying29
  go_enter Try.func33, Try.ntmps33
  go_wp2
  exact bodyPost_ret (v := entryV (lowS s)) (by simp [results, Try.results33, go_sem]; rfl) rfl ⟨rfl, (Below.refl _ _).alloc (Nat.le_refl _) _⟩
set_option maxHeartbeats 2000000 in
theorem closure_in (n l : Nat) (Bs : List Nat) (b1 b2 h : Nat) (m : MT h) (e : S29) (J Jx : List S29 → World → Prop) (hJ : Abide J)
    (hY : ∀ pre x W, J pre W → pre.length < (bfrom h (abs h m) e).length → YieldAt Fence.wide (n - 1) Try.prog l #[entryV x] W (YP Bs J Jx pre x W))
    (W : World) (hb1 : W.cell? ⟨b1, 0, none⟩ = some (.pointer (some ⟨ptr h m, 0, none⟩))) (hb2 : W.heap[b2]? = some (boxE e)) (hok : Ok W h m) (hfp : ∀ a ∈ fp h m, ¬ Own Bs W a) (hG : Good Bs W) (hf : Fit e h (abs h m)) (h0 : J [] W) :
    CallsIn Fence.wide n Try.prog 52 #[.func (.yield l) #[] #[], .pointer (some ⟨b1, 0, none⟩), .pointer (some ⟨b2, 0, none⟩)] W fun E W' => (∃ v, E = .returned v) ∧ ((∃ ys, ys = bfrom h (abs h m) e ∧ J ys W') ∨ (∃ pre, pre <+: bfrom h (abs h m) e ∧ Jx pre W')) := by
  have a0 : W.cell? ⟨b2, 0, none⟩ = some (.string e.f0) := (blk_cell hb2 0).trans rfl
  have a1 : W.cell? ⟨b2, 1, none⟩ = some (.int .i64 e.f1.f0) := (blk_cell hb2 1).trans rfl
  have a2 : W.cell? ⟨b2, 2, none⟩ = some (.int .i64 e.f1.f1) := (blk_cell hb2 2).trans rfl
  have HW := Aside0.mk (fun n => walk_inn l Bs _ J Jx hJ (fun k pre x W hj hl => YieldAt.any k (hY pre x W hj hl)) e h m n [] W hok hfp hG hf h0 (by simp))
  unfold entryV at HW
  have hu29 := Try.underlying29
  clear hb2 hok hfp hG hf h0 hY hJ
  refine callsIn_of_wp Try.func52 rfl trivial ?_ rfl
  simp only [Try.ntmps52, List.size_toArray, List.length_cons, List.length_nil, Nat.reduceAdd, Nat.reduceSub, Array.replicate_succ, Array.replicate_zero, List.push_toArray, List.append_toArray, List.nil_append, List.cons_append]
  gi_wp2_with (first
    | ((try refine ⟨trivial, fun h => (by cases h), ?_⟩); gi_at_call 53; refine (HW.out _).mono ?_; clear a0 a1 a2 hb1; rintro E W3 (⟨rfl, hJ3, hk3⟩ | ⟨rfl, q, hq, hJ3⟩)))
  · go_end0
    exact ⟨⟨_, rfl⟩, .inl ⟨_, rfl, by simpa using hJ3⟩⟩
  · go_end0
    exact ⟨⟨_, rfl⟩, .inr ⟨q, hq, by simpa using hJ3⟩⟩
theorem from_stops (n : Nat) (Bs : List Nat) (b1 b2 h : Nat) (m : MT h) (e : S29) (w : World) (hb1 : w.heap[b1]? = some (.cells #[.pointer (some ⟨ptr h m, 0, none⟩)] 59 (0, 0))) (hb2 : w.heap[b2]? = some (boxE e)) (hok : Ok w h m) (hfp : ∀ a ∈ fp h m, ¬ Own Bs w a) (hG : Good Bs w) (hf : Fit e h (abs h m)) :
    SeqStopsK Fence.wide n Try.prog 52 #[.pointer (some ⟨b1, 0, none⟩), .pointer (some ⟨b2, 0, none⟩)] (fun x : S29 => #[entryV x]) (Kp Bs) (fun ys => ys = bfrom h (abs h m) e) (fun pre => pre <+: bfrom h (abs h m) e) (bfrom h (abs h m) e).length w := by
  intro l J Jx W hW hJ hJx hY h0
  have kr := KpR.below hG hW
  refine closure_in n l Bs b1 b2 h m e J Jx (abide_of hJ) hY W ?_ ((hW.block b2 (lt_of_some hb2)).trans hb2) (hok.below hW) (fun a ha => kr.apart (hok.lt a ha) (hfp a ha)) kr.good hf h0
  exact (blk_cell ((hW.block b1 (lt_of_some hb1)).trans hb1) 0).trans rfl
end Go.Proofs.Bt
end
section
namespace Go.Proofs.Bt
open Go Go.RowKit Go.Proofs.Ytjaddmflopahiaa.Q Go.Proofs.YtjaddmflopahiaaW.PrintWords Go.Proofs.YtjaddmflopahiaaW.PrintLast Go.Proofs.YtjaddmflopahiaaW.PrintMore
set_option linter.unusedVariables false
set_option linter.unusedSimpArgs false
set_option maxRecDepth 100000
attribute [local go_sem] Oper.semAt_some
theorem wpListIn_append_run {F : Fence} {n : Nat} {P : Program} {w : World} {ops : Array Oper} {rest : List Oper} {o : Oper} {a : Act} {Q : Exit → Act → World → Prop} (hg : o.guard = none) (s x : Operand) (t u : TypeId)
    (hop : o.op = Op.call { callee := Callee.builtin Builtin.append, args := #[s, x], argTypes := #[t, u] }) (v y : Value) (hs : a.eval s = v) (hx : a.eval x = y) {v' : Value} {w' : World} (hr : (Builtin.append_ #[t, u] o.type #[v, y]).run P w = .ok v' w')
    (h : wpListIn F n P ops Q rest (a.put o.dst v') w') : wpListIn F n P ops Q (o :: rest) a w := by
  refine wpListIn_plain hg fun K hK' => ?_
  unfold Oper.wpIn
  refine ⟨?_, ?_⟩
  · simp [Oper.about, hop, resolve, Target.leads, Sem.run_pure]
  · rw [Oper.semAt_plain F _ _ (by rw [hop]; intro c hc'; cases hc')]
    simp [execOp, hop, resolve, invoke, builtin, hs, hx, hr, Result.andThen]
    exact hK' _ _ h
def boxC (b : Nat) (t : TypeId) (v : Value) : Chunk := ⟨fun w => Boxed w b t v, [b], fun h x hx => by simp at hx; subst hx; exact h.lt, fun h hm => (hm b (by simp)).trans h⟩
def CellsC (c : Chunk) : Prop := ∀ w, c.H w → ∀ b ∈ c.bs, ∃ o, w.heap[b]? = some o ∧ o.isCells = true
theorem boxC_cells (b : Nat) (t : TypeId) (v : Value) : CellsC (boxC b t v) := fun w h x hx => by
  simp [boxC] at hx
  subst hx
  exact ⟨_, h, rfl⟩
theorem row_cellsC {w : World} {e : TypeId} {sz n : Nat} {v : Value} {xs : List Value} (h : Row w e sz v n xs) (b : Nat) (hb : b ∈ bl v) : ∃ o, w.heap[b]? = some o ∧ o.isCells = true := by
  rcases h.2.2 with ⟨rfl, _⟩ | ⟨g, cap, cur, rfl, hg, _⟩
  · simp [bl, Value.ownBlock] at hb
  · rw [bl_slice] at hb
    simp at hb
    subst hb
    exact ⟨_, hg, rfl⟩
theorem rowEC_cells (v : Value) (ks : List S29) : CellsC (rowEC v ks) := fun w h b hb => row_cellsC h b hb
section
variable {w0 W W' : World} {F : Nat → Prop} {cs : List Chunk}
theorem Keep.row {w0 W W' : World} {F : Nat → Prop} (h : Keep w0 W F) {row : Option Nat} (hg : W.grownBy W' row) (hr : ∀ r, row = some r → w0.heap.size ≤ r) : Keep w0 W' F := h.grown hg fun b hb => .inr (hr b hb)
theorem St.turned (s : St w0 F W cs) {row : Option Nat} (hg : W.grownBy W' row) (hr : ∀ r, row = some r → w0.heap.size ≤ r ∧ ∃ o : Obj, W.heap[r]? = some o ∧ o.isCells = false) (hc : ∀ c ∈ cs, CellsC c) : St w0 F W' cs := by
  refine ⟨s.keep.row hg fun r e => (hr r e).1, fun c hcs => c.mv (s.h c hcs) fun b hb => hg.block b (c.lt (s.h c hcs) b hb) fun e => ?_, s.nd, s.own⟩
  obtain ⟨o, ho, hcc⟩ := hc c hcs W (s.h c hcs) b hb
  obtain ⟨_, o2, ho2, hcc2⟩ := hr b e.symm
  rw [ho] at ho2
  cases ho2
  rw [hcc] at hcc2
  cases hcc2
theorem St.box (s : St w0 F W cs) (i : Nat) {b : Nat} {t : TypeId} {v : Value} (hi : cs[i]? = some (boxC b t v)) : Boxed W b t v := s.get i hi
theorem St.putB (s : St w0 F W cs) (i : Nat) {b : Nat} {t : TypeId} {v : Value} (hi : cs[i]? = some (boxC b t v)) (v' : Value) : St w0 F (W.setCell ⟨b, 0, none⟩ v') (cs.set i (boxC b t v')) :=
  s.upd i hi (boxC b t v') (keep_set W b 0 v' _ (by simp [boxC])) ((s.box i hi).set v') (nd_one b) (fun x hx => .inl hx)
end
theorem keepsFrom_of {W W' : World} {F : Nat → Prop} (h : Keep W W' F) (hc : ∀ k o, F k → W.heap[k]? = some o → o.isCells = true) (B : Nat) : KeepsFrom B W W' :=
  ⟨h.size, fun k o _ hk ho => (h.block k (lt_of_some hk) (fun hf => by rw [hc k o hf hk] at ho; cases ho)).trans hk⟩
theorem KpR.of_keep {Bs : List Nat} {W W' : World} (hk : Keep W W' (Own Bs W)) (hg : Good Bs W') (ho : ∀ k, Own Bs W' k → Own Bs W k ∨ W.heap.size ≤ k) : KpR Bs W W' :=
  ⟨hk.size, hg, fun k o h1 _ h3 => (hk.block k (lt_of_some h1) h3).trans h1, ho⟩
theorem own_one {B : Nat} {W : World} {t : TypeId} {v : Value} (h : Boxed W B t v) (k : Nat) : Own [B] W k ↔ k = B ∨ v.ownBlock = some k := by
  unfold Own
  constructor
  · rintro (h1 | ⟨b, hb, u, hu, ho⟩)
    · exact .inl (by simpa using h1)
    · simp at hb
      subst hb
      rw [h.cell] at hu
      cases hu
      exact .inr ho
  · rintro (h1 | h1)
    · exact .inl (by simp [h1])
    · exact .inr ⟨B, by simp, v, h.cell, h1⟩
theorem Kp.b1 {Bs : List Nat} {W0 : World} (hB : ∀ b ∈ Bs, b < W0.heap.size) (W : World) (l : Nat) (o o' : Obj) (hl : W0.heap.size ≤ l) (h : W.heap[l]? = some o) (hc : o.isCells = false) : Kp Bs W (W.putObj l o') := by
  intro g
  have hlt := lt_of_some h
  have hoth : ∀ k, k ≠ l → (W.putObj l o').heap[k]? = W.heap[k]? := fun k hk => World.putObj_heap_other hk
  have hsz : (W.putObj l o').heap.size = W.heap.size := by simp [World.putObj]
  have he := own_eq (Bs := Bs) (W := W) (W' := W.putObj l o') (fun b hbs => World.cell?_of_block (a := ⟨b, 0, none⟩) (hoth b (by have := hB b hbs; omega)))
  refine ⟨by omega, fun k hk => by rw [hsz]; exact g k ((he k).1 hk), fun k o2 hk h2 _ => ?_, fun k hk => .inl ((he k).1 hk)⟩
  rw [hoth k (fun e => by rw [e, h] at hk; cases hk; rw [hc] at h2; cases h2)]
  exact hk
end Go.Proofs.Bt
end
section
namespace Go.Proofs.Bt
open Go Go.RowKit Go.Proofs.Ytjaddmflopahiaa.Q Go.Proofs.YtjaddmflopahiaaW.PrintWords Go.Proofs.YtjaddmflopahiaaW.PrintLast Go.Proofs.YtjaddmflopahiaaW.PrintMore
set_option linter.unusedVariables false
set_option linter.unusedSimpArgs false
set_option maxRecDepth 100000
attribute [local go_sem] Oper.semAt_some
def keyLt (a b : ByteArray) : Bool := Op.bytesLess a.toList b.toList
def rng (hiK : ByteArray) (most : Int) : List S29 → Nat → List S29
  | [], _ => []
  | x :: xs, n => if (n : Int) < most ∧ keyLt x.f0 hiK = true then x :: rng hiK most xs (n + 1) else []
def RFine (hiK : ByteArray) (most : Int) (pre : List S29) : Prop := ∀ (j : Nat) (x : S29), pre[j]? = some x → (j : Int) < most ∧ keyLt x.f0 hiK = true
theorem rng_all (hiK : ByteArray) (most : Int) : ∀ (xs : List S29) (n : Nat), (∀ j x, xs[j]? = some x → ((n + j : Nat) : Int) < most ∧ keyLt x.f0 hiK = true) → rng hiK most xs n = xs
  | [], n, h => rfl
  | x :: xs, n, h => by
    unfold rng
    rw [if_pos (by have := h 0 x rfl; simpa using this), rng_all hiK most xs (n + 1) (fun j y hj => by have := h (j + 1) y hj; rw [show n + 1 + j = n + (j + 1) by omega]; exact this)]
theorem rng_stop (hiK : ByteArray) (most : Int) : ∀ (pre : List S29) (x : S29) (r : List S29) (n : Nat), (∀ j y, pre[j]? = some y → ((n + j : Nat) : Int) < most ∧ keyLt y.f0 hiK = true) → ¬ (((n + pre.length : Nat) : Int) < most ∧ keyLt x.f0 hiK = true) → rng hiK most (pre ++ x :: r) n = pre
  | [], x, r, n, h, hx => by
    show rng hiK most (x :: r) n = []
    unfold rng
    rw [if_neg (by simpa using hx)]
  | y :: pre, x, r, n, h, hx => by
    show rng hiK most (y :: (pre ++ x :: r)) n = y :: pre
    unfold rng
    rw [if_pos (by have := h 0 y rfl; simpa using this), rng_stop hiK most pre x r (n + 1) (fun j z hj => by have := h (j + 1) z hj; rw [show n + 1 + j = n + (j + 1) by omega]; exact this) (by rw [List.length_cons] at hx; rw [show n + 1 + pre.length = n + (pre.length + 1) by omega]; exact hx)]
def NoF : Nat → Prop := fun _ => False
theorem keep_below {w w' : World} (h : Keep w w' NoF) : Below w.heap.size w w' := ⟨h.os, h.tape, h.output, h.size, fun k hk => h.block k hk (fun h => h)⟩
theorem St.none (w : World) (F : Nat → Prop) : St w F w [] := ⟨Keep.of_below (Below.refl _ _) _, fun c hc => (by cases hc), fun a => by simp [fpc], fun b hb => by simp [fpc] at hb⟩
theorem St.boxed {w0 w : World} {F : Nat → Prop} {cs : List Chunk} (s : St w0 F w cs) (t : TypeId) (v : Value) {n : Nat} (hn : w.heap.size = n) : St w0 F (w.alloc (.cells #[v] t)) (cs ++ [boxC n t v]) := s.alloc #[v] t hn
def NormQ (K : Act → World → Prop) : Exit → Act → World → Prop
  | .normal, a, w => K a w
  | _, _, _ => False
theorem NormQ.of {Q : Exit → Act → World → Prop} {a : Act} {w : World} (h : Q .normal a w) : NormQ (fun a w => Q .normal a w) .normal a w := h
theorem wp_norm {P : Program} {c : Code} {Q : Exit → Act → World → Prop} {a : Act} {w : World} (h : c.wp P (NormQ (fun a w => Q .normal a w)) a w) : c.wp P Q a w := wp_mono h fun e a w hh => by
  cases e with
  | normal => exact hh
  | _ => exact hh.elim
def RangePost (w : World) (xs : List S29) (E : Ending) (w' : World) : Prop := ∃ v, E = .returned v ∧ St w NoF w' [rowEC v xs]
set_option maxHeartbeats 4000000 in
theorem range_calls (w : World) (tp h : Nat) (m : MT h) (cnt : Int) (frm hiK : ByteArray) (most : Int) (hT : TreeAt w tp (ptr h m) cnt) (hok : Ok w h m) (hf : Fit (lowS frm) h (abs h m)) (hlen : (bfrom h (abs h m) (lowS frm)).length < 90000) :
    Calls Try.prog 19 #[.pointer (some ⟨tp, 0, none⟩), .string frm, .string hiK, .int .i64 most] w (RangePost w (rng hiK most (bfrom h (abs h m) (lowS frm)) 0)) := by
  have mixed : Try.prog.follows Departure.mixedOrders = true := by kernel_rfl
  have hu29 := Try.underlying29
  have hu64 := Try.underlying64
  obtain ⟨R, hR⟩ : ∃ R, RangePost w (rng hiK most (bfrom h (abs h m) (lowS frm)) 0) = R := ⟨_, rfl⟩
  rw [hR]
  have HR := Aside0.mk hR
  obtain ⟨n0, hn0⟩ : ∃ n, w.heap.size = n := ⟨_, rfl⟩
  have s1 := (St.none w NoF).boxed 9 (.string hiK) hn0
  have s2 := s1.boxed 3 (.int .i64 most) (n := n0 + 1) (by simp [hn0])
  have s3 := s2.boxed 22 (.slice none 0 0) (n := n0 + 2) (by simp [hn0])
  obtain ⟨W3, hW3⟩ : ∃ W, ((w.alloc (.cells #[.string hiK] 9)).alloc (.cells #[.int .i64 most] 3)).alloc (.cells #[.slice none 0 0] 22) = W := ⟨_, rfl⟩
  rw [hW3] at s3
  have HS := Aside0.mk (show St w NoF W3 [boxC n0 9 (.string hiK), boxC (n0 + 1) 3 (.int .i64 most), boxC (n0 + 2) 22 (.slice none 0 0)] from s3)
  have HTA := Aside0.mk hT
  have HOK := Aside0.mk hok
  have HFT := Aside0.mk hf
  have HLN := Aside0.mk hlen
  have HN0 := Aside0.mk hn0
  have HT3 := Aside0.mk (show TreeAt W3 _ _ _ from blk_below hT (keep_below HS.out.keep))
  have hs3 : W3.heap.size = n0 + 3 := by rw [← hW3]; simp [hn0]
  clear hR s1 s2 s3 hT hok hf hlen
  refine (callsIn_wide (n := 5)).1 ?_
  refine callsIn_of_wp_marks Try.func19 rfl trivial ?_ rfl
  simp only [Try.ntmps19, List.size_toArray, List.length_cons, List.length_nil, Nat.reduceAdd, Nat.reduceSub, Array.replicate_succ, Array.replicate_zero, List.push_toArray, List.append_toArray, List.nil_append, List.cons_append]
  gi_wp2
  refine wpIn_wide.2 (wp_norm ?_)
  refine start_ (n := 7) (S := fun w' => w'.cell? ⟨tp, 0, none⟩ = some (.pointer (some ⟨ptr h m, 0, none⟩))) (ds := []) #[false, false, false, false, false, false, false] (by kernel_rfl) rfl rfl HT3.out.c0 (fun hHeld => ?_)
  refine pure_ (i := 0) (N := (some 11)) (v := ?_) (a' := ?_) #[true, false, false, false, false, false, false] rfl rfl (by kernel_rfl) (fun _ _ _ h => h) (Or.inl ⟨by rfl, ?_⟩) ?_ ?_
  rotate_left
  · intro w'
    go_simp
    with_reducible rfl
  rotate_left
  · simp only [Act.put, List.setIfInBounds_toArray, List.set_cons_zero, List.set_cons_succ, i64_w, i32_w]
    rfl
  refine pure_ (i := 1) (N := (some 12)) (v := ?_) (a' := ?_) #[true, true, false, false, false, false, false] rfl rfl (by kernel_rfl) (fun _ _ _ h => h) (Or.inl ⟨by rfl, ?_⟩) ?_ ?_
  rotate_left
  · intro w'
    go_simp
    with_reducible rfl
  rotate_left
  · simp only [Act.put, List.setIfInBounds_toArray, List.set_cons_zero, List.set_cons_succ, i64_w, i32_w]
    rfl
  refine pure_ (i := 2) (N := (some 13)) (v := ?_) (a' := ?_) #[true, true, true, false, false, false, false] rfl rfl (by kernel_rfl) (fun _ _ _ h => h) (Or.inl ⟨by rfl, ?_⟩) ?_ ?_
  rotate_left
  · intro w'
    go_simp
    with_reducible rfl
  rotate_left
  · simp only [Act.put, List.setIfInBounds_toArray, List.set_cons_zero, List.set_cons_succ, i64_w, i32_w]
    rfl
  refine pure_ (i := 4) (N := (some 15)) (v := ?_) (a' := ?_) #[true, true, true, false, true, false, false] rfl rfl (by kernel_rfl) (fun _ _ _ h => h) (Or.inl ⟨by rfl, ?_⟩) ?_ ?_
  rotate_left
  · intro w'
    go_simp
    with_reducible rfl
  rotate_left
  · simp only [Act.put, List.setIfInBounds_toArray, List.set_cons_zero, List.set_cons_succ, i64_w, i32_w]
    rfl
  refine take_ (i := 3) (N := (some 14)) (v := ?_) (a' := ?_) #[true, true, true, true, true, false, false] rfl rfl (by kernel_rfl) (fun _ _ _ h => h) (Or.inl ⟨by rfl, ?_⟩) hHeld ?_ ?_
  rotate_left
  · rintro w' s0
    go_simp
    with_reducible rfl
  rotate_left
  · simp only [Act.put, List.setIfInBounds_toArray, List.set_cons_zero, List.set_cons_succ, i64_w, i32_w]
    rfl
  refine one_ (i := 5) (N := (some 16)) #[true, true, true, true, true, true, false] rfl rfl (by kernel_rfl) (by decide) (fun K_ hK => ?_)
  refine goes_ Try.func33 (by kernel_rfl) rfl #[.string frm] (by rfl) rfl rfl (by (try simp only [List.map_toArray, List.map_cons, List.map_nil]); first | done | rfl) ?_
  refine (lowest_calls _ frm).mono ?_
  rintro E w2 ⟨rfl, hb⟩
  have HB2 := Aside0.mk (show Below W3.heap.size W3 w2 from (⟨rfl, rfl, rfl, Nat.le_refl _, fun _ _ => rfl⟩ : Below W3.heap.size W3 W3.drew).trans hb)
  refine ⟨_, rfl, ?_⟩
  clear hHeld hb
  refine hK.out _ _ (show TreeAt w2 _ _ _ from blk_below HT3.out HB2.out).c0 (fun hHeld => ?_)
  clear hK K_
  unfold entryV
  refine norm_ (a' := ?_) ?_ ?_
  rotate_left
  · show Act.put _ (some 16) _ = _
    simp only [Act.put, List.setIfInBounds_toArray, List.set_cons_zero, List.set_cons_succ, i64_w, i32_w]
    rfl
  refine one_ (i := 6) (N := (some 17)) #[true, true, true, true, true, true, true] rfl rfl (by kernel_rfl) (by decide) (fun K_ hK => ?_)
  refine goes_ Try.func32 (by kernel_rfl) rfl #[.pointer (some ⟨ptr h m, 0, none⟩), entryV (lowS frm)] (by rfl) rfl rfl (by (try simp only [List.map_toArray, List.map_cons, List.map_nil]); first | done | rfl) ?_
  refine (from_calls _ _ _).mono ?_
  rintro E W4 ⟨rfl, hw4⟩
  have hb4 : Below w2.heap.size w2 W4 := by rw [hw4]; exact ((Below.refl _ w2).alloc (Nat.le_refl _) _).alloc (by simp) _
  have HX1 := Aside0.mk (show W4.heap[w2.heap.size]? = some (.cells #[.pointer (some ⟨ptr h m, 0, none⟩)] 59 (0, 0)) by rw [hw4]; exact blk_alloc (blk_new w2 _) _)
  have HX2 := Aside0.mk (show W4.heap[w2.heap.size + 1]? = some (boxE (lowS frm)) by rw [hw4]; have := blk_new (w2.alloc (.cells #[.pointer (some ⟨ptr h m, 0, none⟩)] 59)) (boxE (lowS frm)); rwa [World.size_alloc] at this)
  have HB4 := Aside0.mk (HB2.out.trans (hb4.mono HB2.out.size))
  have HS4 := Aside0.mk (HS.out.below HB4.out)
  have hs4 : n0 + 3 ≤ w2.heap.size := by have := HB2.out.size; omega
  have hs5 := hb4.size
  refine ⟨_, rfl, ?_⟩
  clear hHeld hb4 hw4
  refine hK.out _ _ (show TreeAt W4 _ _ _ from blk_below HT3.out HB4.out).c0 (fun hHeld => ?_)
  clear hK K_
  refine norm_ (a' := ?_) ?_ ?_
  rotate_left
  · show Act.put _ (some 17) _ = _
    simp only [Act.put, List.setIfInBounds_toArray, List.set_cons_zero, List.set_cons_succ, i64_w, i32_w]
    rfl
  refine done_ (by kernel_rfl) ?_
  clear hHeld HT3 HS hW3
  refine NormQ.of ?_
  gi_wp2
  have hno : ∀ v, NodeAt W4 0 v v → True := fun _ _ => trivial
  have hbx : Boxed W4 (n0 + 2) 22 (.slice none 0 0) := HS4.out.box 2 rfl
  have hg4 : Good [n0 + 2] W4 := fun k hk => by
    rcases (own_one hbx k).1 hk with rfl | hk
    · exact hbx.lt
    · simp [Value.ownBlock] at hk
  have hOK4 : Ok W4 h m := HOK.out.below (keep_below HS4.out.keep)
  have hfp4 : ∀ a ∈ fp h m, ¬ Own [n0 + 2] W4 a := fun a ha ho => by
    have h1 := HOK.out.lt a ha
    rw [HN0.out] at h1
    rcases (own_one hbx a).1 ho with h2 | h2
    · omega
    · simp [Value.ownBlock] at h2
  obtain ⟨X1, hX1⟩ : ∃ n, w2.heap.size = n := ⟨_, rfl⟩
  rw [hX1] at HX1 HX2 hs4 hs5 ⊢
  refine wpIn_rangeFunc_ownH (n := 5) (F := Fence.wide) (w := W4) rfl (by decide) (gf := 52) (lb := #[.pointer (some ⟨X1, 0, none⟩), .pointer (some ⟨X1 + 1, 0, none⟩)]) rfl trivial (enters_of Try.func52 (by kernel_rfl) rfl)
    (from_stops 4 [n0 + 2] X1 (X1 + 1) h m (lowS frm) W4 HX1.out HX2.out hOK4 hfp4 hg4 HFT.out) Kp.t (fun W l o o' hl h hc _ => Kp.b1 (W0 := W4) (by intro b hb; simp at hb; omega) W l o o' hl h hc) (Below.refl _ _) (fun _ => rfl)
    (fun pre W => ∃ v, St w NoF W [boxC n0 9 (.string hiK), boxC (n0 + 1) 3 (.int .i64 most), boxC (n0 + 2) 22 v, rowEC v pre] ∧ RFine hiK most pre)
    (fun c pre W => c = .exit 0 ∧ ∃ v pre' x, pre = pre' ++ [x] ∧ St w NoF W [boxC n0 9 (.string hiK), boxC (n0 + 1) 3 (.int .i64 most), boxC (n0 + 2) 22 v, rowEC v pre'] ∧ RFine hiK most pre' ∧ ¬ ((pre'.length : Int) < most ∧ keyLt x.f0 hiK = true))
    ?hI ?hIx ?h0
    (fun x a' W => ∃ Bx, n0 + 2 < Bx ∧ W.heap[Bx]? = some (boxE x) ∧ ¬ Own [n0 + 2] W Bx ∧ a' = { tmps := #[.pointer (some ⟨tp, 0, none⟩), .string frm, .string hiK, .int .i64 most, undef, undef, .pointer (some ⟨n0, 0, none⟩), .pointer (some ⟨n0 + 1, 0, none⟩), .slice none 0 0, .pointer (some ⟨n0 + 1 + 1, 0, none⟩), .pointer (some ⟨Bx, 0, none⟩), .pointer (some ⟨tp, 0, none⟩), .pointer (some ⟨tp, 0, none⟩), .pointer (some ⟨tp, 0, none⟩), .pointer (some ⟨ptr h m, 0, none⟩), .string frm, entryV (lowS frm), .func (.func 52) #[] #[.pointer (some ⟨X1, 0, none⟩), .pointer (some ⟨X1 + 1, 0, none⟩)], entryV x, undef, undef, undef, undef, undef, undef, undef, undef, undef, undef, undef, undef, undef, undef, undef], defers := [] })
    ?hAx ?assign ?body ?done ?stop
  case hI =>
    rintro s X Y row ⟨v, hs, hfn⟩ hg hr
    exact ⟨v, hs.turned hg (fun r e => ⟨by have := (hr r e).1; omega, (hr r e).2⟩) (by
      intro c hc
      simp at hc
      rcases hc with rfl | rfl | rfl | rfl
      · exact boxC_cells _ _ _
      · exact boxC_cells _ _ _
      · exact boxC_cells _ _ _
      · exact rowEC_cells _ _), hfn⟩
  case hIx =>
    rintro c s X Y row ⟨hc, v, pre', x, hp, hs, hfn⟩ hg hr
    exact ⟨hc, v, pre', x, hp, hs.turned hg (fun r e => ⟨by have := (hr r e).1; omega, (hr r e).2⟩) (by
      intro c hc
      simp at hc
      rcases hc with rfl | rfl | rfl | rfl
      · exact boxC_cells _ _ _
      · exact boxC_cells _ _ _
      · exact boxC_cells _ _ _
      · exact rowEC_cells _ _), hfn⟩
  case h0 =>
    refine ⟨.slice none 0 0, ?_, fun j x hj => by simp at hj⟩
    exact (HS4.out.fresh (Below.refl _ _) (rowEC (.slice none 0 0) []) (Row.nil _ _ _) (by intro x; simp [rowEC, bl, Value.ownBlock]) (by intro x hx; simp [rowEC, bl, Value.ownBlock] at hx)).perm (perm_ix _ [1, 2, 3, 0] 4 rfl (by decide))
  case hAx =>
    rintro x a' _ X Y row ⟨Bx, h1, h2, h3, h4⟩ hg hr
    have hne : ∀ b o, X.heap[b]? = some o → o.isCells = true → some b ≠ row := fun b o hb ho e => by
      obtain ⟨_, o2, ho2, hc2⟩ := hr b e.symm
      rw [hb] at ho2
      cases ho2
      rw [ho] at hc2
      cases hc2
    refine ⟨Bx, h1, (hg.block Bx (lt_of_some h2) (hne Bx _ h2 rfl)).trans h2, ?_, h4⟩
    intro ho
    have hcell : Y.cell? ⟨n0 + 2, 0, none⟩ = X.cell? ⟨n0 + 2, 0, none⟩ := World.cell?_of_block (a := ⟨n0 + 2, 0, none⟩) (hg.block (n0 + 2) (by have := lt_of_some h2; omega) (fun e => by have := (hr _ e.symm).1; omega))
    exact h3 ((own_eq (fun b hb => by simp at hb; subst hb; exact hcell) Bx).1 ho)
  case assign =>
    rintro l pre x W K ⟨v, hs, hfn⟩ hK
    have HS1 := Aside0.mk hs
    have HF1 := Aside0.mk hfn
    have HK := Aside0.mk hK
    clear hs hfn hK
    unfold entryV
    gi_wp2
    have hba : Below W.heap.size W (W.alloc (.cells #[.string x.f0, .int .i64 x.f1.f0, .int .i64 x.f1.f1] 29)) := (Below.refl _ W).alloc (Nat.le_refl _) _
    have hs2 := HS1.out.below hba
    refine HK.out _ _ ((KeepsOthers.alloc _ _).from _) (fun g => KpR.below g hba) ⟨v, hs2, HF1.out⟩ ⟨W.heap.size, (HS1.out.box 2 rfl).lt, heap_alloc_new W _, fun ho => ?_, rfl⟩
    rcases (own_one (hs2.box 2 rfl) _).1 ho with h1 | h1
    · have := (HS1.out.box 2 rfl).lt
      omega
    · have := Row.lt (HS1.out.rowE 3 rfl) _ h1
      omega
  case body =>
    rintro l pre x a' W hl hrr ⟨v, hs, hfn⟩ ⟨Bx, hBx, hX, hno, rfl⟩ hlt
    obtain ⟨A, c, rfl⟩ := (hs.rowE 3 rfl).slice
    have HS1 := Aside0.mk hs
    have HF1 := Aside0.mk hfn
    have HXB := Aside0.mk hX
    have HNO := Aside0.mk hno
    have c0 := (hs.box 0 rfl).cell
    have c1 := (hs.box 1 rfl).cell
    have c2 := (hs.box 2 rfl).cell
    have f2 := (hs.box 2 rfl).frozen
    have x0 : W.cell? ⟨Bx, 0, none⟩ = some (.string x.f0) := (blk_cell hX 0).trans rfl
    have x1 : W.cell? ⟨Bx, 1, none⟩ = some (.int .i64 x.f1.f0) := (blk_cell hX 1).trans rfl
    have x2 : W.cell? ⟨Bx, 2, none⟩ = some (.int .i64 x.f1.f1) := (blk_cell hX 2).trans rfl
    obtain ⟨L, hL⟩ : ∃ L, pre.length = L := ⟨_, rfl⟩
    rw [hL] at c2
    have HL := Aside0.mk hL
    have HLT := Aside0.mk (show L < _ from hL ▸ hlt)
    clear hs hfn hX hno hrr hL hlt
    unfold entryV
    by_cases hm : (L : Int) < most
    · cases hkk : keyLt x.f0 hiK
      · have hk2 : Op.bytesLess x.f0.toList hiK.toList = false := hkk
        have HKK := Aside0.mk hkk
        have hm2 : decide (most ≤ (L : Int)) = false := by simp; omega
        clear hkk
        gi_wp2
        exact ⟨KeepsFrom.refl _ _, rfl, _, pre, x, rfl, HS1.out, HF1.out, fun hh => by rw [HKK.out] at hh; exact absurd hh.2 (by simp)⟩
      · have hk2 : Op.bytesLess x.f0.toList hiK.toList = true := hkk
        have HKK := Aside0.mk hkk
        have hm2 : decide (most ≤ (L : Int)) = false := by simp; omega
        have HSa := Aside0.mk (HS1.out.alloc #[.string x.f0, .int .i64 x.f1.f0, .int .i64 x.f1.f1] 29 rfl)
        have hLb : L < 100000 := by
          have := HLN.out
          have := HLT.out
          omega
        clear hkk
        gi_wp2_with (gi_at_builtin; obtain ⟨g', c', w3, hrun, hrow, hgrow, hown⟩ := appendE _ _ pre x W.heap.size 22 (HSa.out.rowE 3 rfl) (HSa.out.blk 4 rfl) (by rw [HL.out]; omega); rw [HL.out] at hrun hrow hgrow hown; have HSb := Aside0.mk (HSa.out.setE 3 rfl (by rw [HL.out]; exact hgrow) hrow (by rw [HL.out]; exact hown)); have HG := Aside0.mk hgrow; have HO := Aside0.mk hown; refine wpListIn_append_run rfl (.tmp 29) (.tmp 31) 22 22 rfl (.slice A L c) (.slice (some ⟨W.heap.size, 0, none⟩) 1 1) rfl rfl hrun ?_; clear hrun hrow hgrow hown c0 c1 c2 f2 x0 x1 x2; have c2 := (HSb.out.box 2 rfl).cell; have f2 := (HSb.out.box 2 rfl).frozen)
        have hst := HSb.out.putB 2 rfl (.slice (some ⟨g', 0, none⟩) (L + 1) c')
        have hbx1 := HS1.out.box 2 rfl
        rw [HL.out] at hbx1
        have hrw1 : RowE W (.slice A L c) pre := by have := HS1.out.rowE 3 rfl; rw [HL.out] at this; exact this
        have hkeep : Keep W (w3.setCell ⟨n0 + 2, 0, none⟩ (.slice (some ⟨g', 0, none⟩) (L + 1) c')) (Own [n0 + 2] W) :=
          (((Keep.of_below (Below.refl _ W) _).below ((Below.refl _ W).alloc (Nat.le_refl _) (.cells #[.string x.f0, .int .i64 x.f1.f0, .int .i64 x.f1.f1] 29))).grown HG.out (fun b hb => .inl ((own_one hbx1 b).2 (.inr hb)))).cell (p := ⟨n0 + 2, 0, none⟩) (.inl ((own_one hbx1 _).2 (.inl rfl))) _
        have hown : ∀ k, Own [n0 + 2] (w3.setCell ⟨n0 + 2, 0, none⟩ (.slice (some ⟨g', 0, none⟩) (L + 1) c')) k → Own [n0 + 2] W k ∨ W.heap.size ≤ k := fun k hk => by
          rcases (own_one (hst.box 2 rfl) k).1 hk with h1 | h1
          · exact .inl ((own_one hbx1 k).2 (.inl h1))
          · rcases HO.out with h2 | ⟨k2, h2, h3⟩
            · exact .inl ((own_one hbx1 k).2 (.inr (h2 ▸ h1)))
            · rw [h1] at h2
              simp at h2 h3
              exact .inr (by omega)
        have hgood : Good [n0 + 2] (w3.setCell ⟨n0 + 2, 0, none⟩ (.slice (some ⟨g', 0, none⟩) (L + 1) c')) := fun k hk => by
          rcases (own_one (hst.box 2 rfl) k).1 hk with h1 | h1
          · rw [h1]
            exact (hst.box 2 rfl).lt
          · exact Row.lt (hst.rowE 3 rfl) k h1
        refine ⟨keepsFrom_of hkeep (fun k o ho hko => ?_) _, fun _ => KpR.of_keep hkeep hgood hown, _, hst.left, ?_⟩
        · rcases (own_one hbx1 k).1 ho with h1 | h1
          · rw [h1, show W.heap[n0 + 2]? = _ from hbx1] at hko
            cases hko
            rfl
          · obtain ⟨o2, h2, h3⟩ := row_cellsC hrw1 k (bl_mem.2 h1)
            rw [hko] at h2
            cases h2
            exact h3
        · intro j y hj
          rcases Nat.lt_or_ge j pre.length with hjl | hjl
          · rw [List.getElem?_append_left hjl] at hj
            exact HF1.out j y hj
          · rw [List.getElem?_append_right hjl] at hj
            have hj0 : j = pre.length := by
              rcases Nat.eq_or_lt_of_le hjl with h1 | h1
              · exact h1.symm
              · rw [List.getElem?_eq_none (by simp; omega)] at hj
                cases hj
            subst hj0
            simp at hj
            subst hj
            exact ⟨by rw [HL.out]; exact hm, HKK.out⟩
    · have hm2 : decide (most ≤ (L : Int)) = true := by simp; omega
      gi_wp2
      exact ⟨KeepsFrom.refl _ _, rfl, _, pre, x, rfl, HS1.out, HF1.out, fun hh => by rw [HL.out] at hh; omega⟩
  case done =>
    rintro D ys W hD rfl ⟨v, hs, hfn⟩ hK
    have hfin : rng hiK most (bfrom h (abs h m) (lowS frm)) 0 = bfrom h (abs h m) (lowS frm) := rng_all _ _ _ 0 (fun j x hj => by rw [Nat.zero_add]; exact hfn j x hj)
    have HFIN := Aside0.mk hfin
    have HS1 := Aside0.mk hs
    have c2 := (hs.box 2 rfl).cell
    clear hfin hs hfn
    gi_wp2
    refine ⟨by simp, .inl ⟨_, _, rfl, run_takeDeferred hK, ?_⟩⟩
    refine ⟨_, results_tmp rfl _ _ _, ?_⟩
    rw [← HR.out, HFIN.out]
    have hst : St w NoF (W.putObj D (.deferred none)) _ := HS1.out.turned (grownBy_putObj' W D _) (fun r e => by cases e; exact ⟨by omega, _, hK, rfl⟩) (by
      intro c hc
      simp at hc
      rcases hc with rfl | rfl | rfl | rfl
      · exact boxC_cells _ _ _
      · exact boxC_cells _ _ _
      · exact boxC_cells _ _ _
      · exact rowEC_cells _ _)
    exact ⟨v, rfl, St.drop (A := [boxC n0 9 (.string hiK), boxC (n0 + 1) 3 (.int .i64 most), boxC (n0 + 2) 22 v]) hst⟩
  case stop =>
    rintro D c pre W hD hpre ⟨rfl, v, pre', x, rfl, hs, hfn, hstop⟩ hK
    obtain ⟨r, hr⟩ := hpre
    have hfin : rng hiK most (bfrom h (abs h m) (lowS frm)) 0 = pre' := by
      rw [← hr, List.append_assoc]
      exact rng_stop _ _ pre' x r 0 (fun j y hj => by rw [Nat.zero_add]; exact hfn j y hj) (by rw [Nat.zero_add]; exact hstop)
    have HFIN := Aside0.mk hfin
    have HS1 := Aside0.mk hs
    have c2 := (hs.box 2 rfl).cell
    clear hfin hs hfn hr hstop
    gi_wp2
    refine ⟨by simp, .inl ⟨_, _, rfl, run_takeDeferred hK, ?_⟩⟩
    refine ⟨_, results_tmp rfl _ _ _, ?_⟩
    rw [← HR.out, HFIN.out]
    have hst : St w NoF (W.putObj D (.deferred none)) _ := HS1.out.turned (grownBy_putObj' W D _) (fun r e => by cases e; exact ⟨by omega, _, hK, rfl⟩) (by
      intro c hc
      simp at hc
      rcases hc with rfl | rfl | rfl | rfl
      · exact boxC_cells _ _ _
      · exact boxC_cells _ _ _
      · exact boxC_cells _ _ _
      · exact rowEC_cells _ _)
    exact ⟨v, rfl, St.drop (A := [boxC n0 9 (.string hiK), boxC (n0 + 1) 3 (.int .i64 most), boxC (n0 + 2) 22 v]) hst⟩
end Go.Proofs.Bt
end
section
namespace Go.Proofs.Bt
open Go Go.RowKit Go.Proofs.Ytjaddmflopahiaa.Q Go.Proofs.YtjaddmflopahiaaW.PrintWords Go.Proofs.YtjaddmflopahiaaW.PrintLast Go.Proofs.YtjaddmflopahiaaW.PrintMore
set_option linter.unusedVariables false
set_option linter.unusedSimpArgs false
set_option maxRecDepth 100000
attribute [local go_sem] Oper.semAt_some
set_option maxHeartbeats 4000000 in
theorem appendSeq_calls (w : World) (X1 h : Nat) (m : MT h) (e : S29) (hX1 : w.heap[X1]? = some (.cells #[.pointer (some ⟨ptr h m, 0, none⟩)] 59 (0, 0))) (hX2 : w.heap[X1 + 1]? = some (boxE e)) (hok : Ok w h m) (hf : Fit e h (abs h m)) (hlen : (bfrom h (abs h m) e).length < 90000) :
    Calls Try.prog 51 #[.slice none 0 0, .func (.func 52) #[] #[.pointer (some ⟨X1, 0, none⟩), .pointer (some ⟨X1 + 1, 0, none⟩)]] w (RangePost w (bfrom h (abs h m) e)) := by
  have hu29 := Try.underlying29
  obtain ⟨R, hR⟩ : ∃ R, RangePost w (bfrom h (abs h m) e) = R := ⟨_, rfl⟩
  rw [hR]
  have HR := Aside0.mk hR
  obtain ⟨n0, hn0⟩ : ∃ n, w.heap.size = n := ⟨_, rfl⟩
  have s1 := (St.none w NoF).boxed 22 (.slice none 0 0) hn0
  obtain ⟨W4, hW4⟩ : ∃ W, w.alloc (.cells #[.slice none 0 0] 22) = W := ⟨_, rfl⟩
  rw [hW4] at s1
  have HS4 := Aside0.mk (show St w NoF W4 [boxC n0 22 (.slice none 0 0)] from s1)
  have HOK := Aside0.mk hok
  have HFT := Aside0.mk hf
  have HLN := Aside0.mk hlen
  have HN0 := Aside0.mk hn0
  have HX1 := Aside0.mk (blk_below hX1 (keep_below HS4.out.keep))
  have HX2 := Aside0.mk (blk_below hX2 (keep_below HS4.out.keep))
  have hs4 : W4.heap.size = n0 + 1 := by rw [← hW4]; simp [hn0]
  clear hR s1 hok hf hlen hX1 hX2
  refine (callsIn_wide (n := 5)).1 ?_
  refine callsIn_of_wp_marks Try.func51 rfl trivial ?_ rfl
  simp only [Try.ntmps51, List.size_toArray, List.length_cons, List.length_nil, Nat.reduceAdd, Nat.reduceSub, Array.replicate_succ, Array.replicate_zero, List.push_toArray, List.append_toArray, List.nil_append, List.cons_append]
  gi_wp2
  have hbx : Boxed W4 n0 22 (.slice none 0 0) := HS4.out.box 0 rfl
  have hg4 : Good [n0] W4 := fun k hk => by
    rcases (own_one hbx k).1 hk with rfl | hk
    · exact hbx.lt
    · simp [Value.ownBlock] at hk
  have hOK4 : Ok W4 h m := HOK.out.below (keep_below HS4.out.keep)
  have hfp4 : ∀ a ∈ fp h m, ¬ Own [n0] W4 a := fun a ha ho => by
    have h1 := HOK.out.lt a ha
    rw [HN0.out] at h1
    rcases (own_one hbx a).1 ho with h2 | h2
    · omega
    · simp [Value.ownBlock] at h2
  clear hW4 hn0
  refine wpIn_rangeFunc_ownH (n := 5) (F := Fence.wide) (w := W4) rfl (by decide) (gf := 52) (lb := #[.pointer (some ⟨X1, 0, none⟩), .pointer (some ⟨X1 + 1, 0, none⟩)]) rfl trivial (enters_of Try.func52 (by kernel_rfl) rfl)
    (from_stops 4 [n0] X1 (X1 + 1) h m e W4 HX1.out HX2.out hOK4 hfp4 hg4 HFT.out) Kp.t (fun W l o o' hl h hc _ => Kp.b1 (W0 := W4) (by intro b hb; simp at hb; omega) W l o o' hl h hc) (Below.refl _ _) (fun _ => rfl)
    (fun pre W => ∃ v, St w NoF W [boxC n0 22 v, rowEC v pre])
    (fun _ _ _ => False)
    ?hI (fun _ _ _ _ _ hs _ _ => hs) ?h0
    (fun x a' W => ∃ Bx, n0 < Bx ∧ W.heap[Bx]? = some (boxE x) ∧ ¬ Own [n0] W Bx ∧ a' = { tmps := #[.slice none 0 0, .func (.func 52) #[] #[.pointer (some ⟨X1, 0, none⟩), .pointer (some ⟨X1 + 1, 0, none⟩)], .pointer (some ⟨n0, 0, none⟩), undef, .slice none 0 0, .pointer (some ⟨Bx, 0, none⟩), .func (.func 52) #[] #[.pointer (some ⟨X1, 0, none⟩), .pointer (some ⟨X1 + 1, 0, none⟩)], entryV x, undef, undef, undef, undef, undef], defers := [] })
    ?hAx ?assign ?body ?done ?stop
  case hI =>
    rintro s X Y row ⟨v, hs⟩ hg hr
    exact ⟨v, hs.turned hg (fun r e => ⟨by have := (hr r e).1; have := HN0.out; omega, (hr r e).2⟩) (by
      intro c hc
      simp at hc
      rcases hc with rfl | rfl
      · exact boxC_cells _ _ _
      · exact rowEC_cells _ _)⟩
  case h0 =>
    refine ⟨.slice none 0 0, ?_⟩
    exact (HS4.out.fresh (Below.refl _ _) (rowEC (.slice none 0 0) []) (Row.nil _ _ _) (by intro x; simp [rowEC, bl, Value.ownBlock]) (by intro x hx; simp [rowEC, bl, Value.ownBlock] at hx)).perm (List.Perm.swap _ _ _)
  case hAx =>
    rintro x a' _ X Y row ⟨Bx, h1, h2, h3, h4⟩ hg hr
    have hne : ∀ b o, X.heap[b]? = some o → o.isCells = true → some b ≠ row := fun b o hb ho e => by
      obtain ⟨_, o2, ho2, hc2⟩ := hr b e.symm
      rw [hb] at ho2
      cases ho2
      rw [ho] at hc2
      cases hc2
    refine ⟨Bx, h1, (hg.block Bx (lt_of_some h2) (hne Bx _ h2 rfl)).trans h2, ?_, h4⟩
    intro ho
    have hcell : Y.cell? ⟨n0, 0, none⟩ = X.cell? ⟨n0, 0, none⟩ := World.cell?_of_block (a := ⟨n0, 0, none⟩) (hg.block n0 (by have := lt_of_some h2; omega) (fun e => by have := (hr _ e.symm).1; omega))
    exact h3 ((own_eq (fun b hb => by simp at hb; subst hb; exact hcell) Bx).1 ho)
  case assign =>
    rintro l pre x W K ⟨v, hs⟩ hK
    have HS1 := Aside0.mk hs
    have HK := Aside0.mk hK
    clear hs hK
    unfold entryV
    gi_wp2
    have hba : Below W.heap.size W (W.alloc (.cells #[.string x.f0, .int .i64 x.f1.f0, .int .i64 x.f1.f1] 29)) := (Below.refl _ W).alloc (Nat.le_refl _) _
    have hs2 := HS1.out.below hba
    refine HK.out _ _ ((KeepsOthers.alloc _ _).from _) (fun g => KpR.below g hba) ⟨v, hs2⟩ ⟨W.heap.size, (HS1.out.box 0 rfl).lt, heap_alloc_new W _, fun ho => ?_, rfl⟩
    rcases (own_one (hs2.box 0 rfl) _).1 ho with h1 | h1
    · have := (HS1.out.box 0 rfl).lt
      omega
    · have := Row.lt (HS1.out.rowE 1 rfl) _ h1
      omega
  case body =>
    rintro l pre x a' W hl hrr ⟨v, hs⟩ ⟨Bx, hBx, hX, hno, rfl⟩ hlt
    obtain ⟨A, c, rfl⟩ := (hs.rowE 1 rfl).slice
    have HS1 := Aside0.mk hs
    have HXB := Aside0.mk hX
    have c2 := (hs.box 0 rfl).cell
    have f2 := (hs.box 0 rfl).frozen
    have x0 : W.cell? ⟨Bx, 0, none⟩ = some (.string x.f0) := (blk_cell hX 0).trans rfl
    have x1 : W.cell? ⟨Bx, 1, none⟩ = some (.int .i64 x.f1.f0) := (blk_cell hX 1).trans rfl
    have x2 : W.cell? ⟨Bx, 2, none⟩ = some (.int .i64 x.f1.f1) := (blk_cell hX 2).trans rfl
    obtain ⟨L, hL⟩ : ∃ L, pre.length = L := ⟨_, rfl⟩
    rw [hL] at c2
    have HL := Aside0.mk hL
    have HLT := Aside0.mk (show L < _ from hL ▸ hlt)
    have HSa := Aside0.mk (HS1.out.alloc #[.string x.f0, .int .i64 x.f1.f0, .int .i64 x.f1.f1] 29 rfl)
    have hLb : L < 100000 := by
      have := HLN.out
      have := HLT.out
      omega
    clear hs hX hno hrr hL hlt
    unfold entryV
    gi_wp2_with (gi_at_builtin; obtain ⟨g', c', w3, hrun, hrow, hgrow, hown⟩ := appendE _ _ pre x W.heap.size 22 (HSa.out.rowE 1 rfl) (HSa.out.blk 2 rfl) (by rw [HL.out]; omega); rw [HL.out] at hrun hrow hgrow hown; have HSb := Aside0.mk (HSa.out.setE 1 rfl (by rw [HL.out]; exact hgrow) hrow (by rw [HL.out]; exact hown)); have HG := Aside0.mk hgrow; have HO := Aside0.mk hown; refine wpListIn_append_run rfl (.tmp 8) (.tmp 10) 22 22 rfl (.slice A L c) (.slice (some ⟨W.heap.size, 0, none⟩) 1 1) rfl rfl hrun ?_; clear hrun hrow hgrow hown c2 f2 x0 x1 x2; have c2 := (HSb.out.box 0 rfl).cell; have f2 := (HSb.out.box 0 rfl).frozen)
    have hst := HSb.out.putB 0 rfl (.slice (some ⟨g', 0, none⟩) (L + 1) c')
    have hbx1 := HS1.out.box 0 rfl
    rw [HL.out] at hbx1
    have hrw1 : RowE W (.slice A L c) pre := by have := HS1.out.rowE 1 rfl; rw [HL.out] at this; exact this
    have hkeep : Keep W (w3.setCell ⟨n0, 0, none⟩ (.slice (some ⟨g', 0, none⟩) (L + 1) c')) (Own [n0] W) :=
      (((Keep.of_below (Below.refl _ W) _).below ((Below.refl _ W).alloc (Nat.le_refl _) (.cells #[.string x.f0, .int .i64 x.f1.f0, .int .i64 x.f1.f1] 29))).grown HG.out (fun b hb => .inl ((own_one hbx1 b).2 (.inr hb)))).cell (p := ⟨n0, 0, none⟩) (.inl ((own_one hbx1 _).2 (.inl rfl))) _
    have hown : ∀ k, Own [n0] (w3.setCell ⟨n0, 0, none⟩ (.slice (some ⟨g', 0, none⟩) (L + 1) c')) k → Own [n0] W k ∨ W.heap.size ≤ k := fun k hk => by
      rcases (own_one (hst.box 0 rfl) k).1 hk with h1 | h1
      · exact .inl ((own_one hbx1 k).2 (.inl h1))
      · rcases HO.out with h2 | ⟨k2, h2, h3⟩
        · exact .inl ((own_one hbx1 k).2 (.inr (h2 ▸ h1)))
        · rw [h1] at h2
          simp at h2 h3
          exact .inr (by omega)
    have hgood : Good [n0] (w3.setCell ⟨n0, 0, none⟩ (.slice (some ⟨g', 0, none⟩) (L + 1) c')) := fun k hk => by
      rcases (own_one (hst.box 0 rfl) k).1 hk with h1 | h1
      · rw [h1]
        exact (hst.box 0 rfl).lt
      · exact Row.lt (hst.rowE 1 rfl) k h1
    refine ⟨keepsFrom_of hkeep (fun k o ho hko => ?_) _, fun _ => KpR.of_keep hkeep hgood hown, _, hst.left⟩
    rcases (own_one hbx1 k).1 ho with h1 | h1
    · rw [h1, show W.heap[n0]? = _ from hbx1] at hko
      cases hko
      rfl
    · obtain ⟨o2, h2, h3⟩ := row_cellsC hrw1 k (bl_mem.2 h1)
      rw [hko] at h2
      cases h2
      exact h3
  case done =>
    rintro D ys W hD rfl ⟨v, hs⟩ hK
    have HS1 := Aside0.mk hs
    have c2 := (hs.box 0 rfl).cell
    clear hs
    gi_wp2
    refine ⟨by simp, .inl ⟨_, _, rfl, run_takeDeferred hK, ?_⟩⟩
    refine ⟨_, results_tmp rfl _ _ _, ?_⟩
    rw [← HR.out]
    have hst : St w NoF (W.putObj D (.deferred none)) _ := HS1.out.turned (grownBy_putObj' W D _) (fun r e => by cases e; exact ⟨by have := HN0.out; omega, _, hK, rfl⟩) (by
      intro c hc
      simp at hc
      rcases hc with rfl | rfl
      · exact boxC_cells _ _ _
      · exact rowEC_cells _ _)
    exact ⟨v, rfl, St.drop (A := [boxC n0 22 v]) hst⟩
  case stop =>
    rintro D c pre W _ _ hh _
    exact hh.elim
theorem collect_calls (w : World) (X1 h : Nat) (m : MT h) (e : S29) (hX1 : w.heap[X1]? = some (.cells #[.pointer (some ⟨ptr h m, 0, none⟩)] 59 (0, 0))) (hX2 : w.heap[X1 + 1]? = some (boxE e)) (hok : Ok w h m) (hf : Fit e h (abs h m)) (hlen : (bfrom h (abs h m) e).length < 90000) :
    Calls Try.prog 31 #[.func (.func 52) #[] #[.pointer (some ⟨X1, 0, none⟩), .pointer (some ⟨X1 + 1, 0, none⟩)]] w (RangePost w (bfrom h (abs h m) e)) := by
  have HA := Aside0.mk (appendSeq_calls w X1 h m e hX1 hX2 hok hf hlen)
  obtain ⟨R, hR⟩ : ∃ R, RangePost w (bfrom h (abs h m) e) = R := ⟨_, rfl⟩
  rw [hR]
  have HR := Aside0.mk hR
  clear hX1 hX2 hok hf hlen hR
  go_enter Try.func31, Try.ntmps31
  go_wp2_with (go_at_call 51; refine HA.out.mono ?_; rintro E w' ⟨v, rfl, hs⟩)
  first | (rw [← HR.out]) | (go_ret; rw [← HR.out])
  exact ⟨v, rfl, hs⟩
set_option maxHeartbeats 4000000 in
theorem all_calls (w : World) (tp h : Nat) (m : MT h) (cnt : Int) (hT : TreeAt w tp (ptr h m) cnt) (hok : Ok w h m) (hf : Fit (lowS ⟨#[]⟩) h (abs h m)) (hlen : (bfrom h (abs h m) (lowS ⟨#[]⟩)).length < 90000) :
    Calls Try.prog 18 #[.pointer (some ⟨tp, 0, none⟩)] w (RangePost w (bfrom h (abs h m) (lowS ⟨#[]⟩))) := by
  have mixed : Try.prog.follows Departure.mixedOrders = true := by kernel_rfl
  have hu64 := Try.underlying64
  obtain ⟨R, hR⟩ : ∃ R, RangePost w (bfrom h (abs h m) (lowS ⟨#[]⟩)) = R := ⟨_, rfl⟩
  rw [hR]
  have HR := Aside0.mk hR
  have HT3 := Aside0.mk hT
  have HOK := Aside0.mk hok
  have HFT := Aside0.mk hf
  have HLN := Aside0.mk hlen
  clear hR hT hok hf hlen
  go_enter Try.func18, Try.ntmps18
  go_wp2
  refine start_ (n := 8) (S := fun w' => w'.cell? ⟨tp, 0, none⟩ = some (.pointer (some ⟨ptr h m, 0, none⟩))) (ds := []) #[false, false, false, false, false, false, false, false] (by kernel_rfl) rfl rfl HT3.out.c0 (fun hHeld => ?_)
  refine pure_ (i := 0) (N := (some 3)) (v := ?_) (a' := ?_) #[true, false, false, false, false, false, false, false] rfl rfl (by kernel_rfl) (fun _ _ _ h => h) (Or.inl ⟨by rfl, ?_⟩) ?_ ?_
  rotate_left
  · intro w'
    go_simp
    with_reducible rfl
  rotate_left
  · simp only [Act.put, List.setIfInBounds_toArray, List.set_cons_zero, List.set_cons_succ, i64_w, i32_w]
    rfl
  refine pure_ (i := 1) (N := (some 4)) (v := ?_) (a' := ?_) #[true, true, false, false, false, false, false, false] rfl rfl (by kernel_rfl) (fun _ _ _ h => h) (Or.inl ⟨by rfl, ?_⟩) ?_ ?_
  rotate_left
  · intro w'
    go_simp
    with_reducible rfl
  rotate_left
  · simp only [Act.put, List.setIfInBounds_toArray, List.set_cons_zero, List.set_cons_succ, i64_w, i32_w]
    rfl
  refine pure_ (i := 2) (N := (some 5)) (v := ?_) (a' := ?_) #[true, true, true, false, false, false, false, false] rfl rfl (by kernel_rfl) (fun _ _ _ h => h) (Or.inl ⟨by rfl, ?_⟩) ?_ ?_
  rotate_left
  · intro w'
    go_simp
    with_reducible rfl
  rotate_left
  · simp only [Act.put, List.setIfInBounds_toArray, List.set_cons_zero, List.set_cons_succ, i64_w, i32_w]
    rfl
  refine take_ (i := 3) (N := (some 6)) (v := ?_) (a' := ?_) #[true, true, true, true, false, false, false, false] rfl rfl (by kernel_rfl) (fun _ _ _ h => h) (Or.inl ⟨by rfl, ?_⟩) hHeld ?_ ?_
  rotate_left
  · rintro w' s0
    go_simp
    with_reducible rfl
  rotate_left
  · simp only [Act.put, List.setIfInBounds_toArray, List.set_cons_zero, List.set_cons_succ, i64_w, i32_w]
    rfl
  refine one_ (i := 4) (N := (some 7)) #[true, true, true, true, true, false, false, false] rfl rfl (by kernel_rfl) (by decide) (fun K_ hK => ?_)
  refine goes_ Try.func33 (by kernel_rfl) rfl #[.string ⟨#[]⟩] (by rfl) rfl rfl (by (try simp only [List.map_toArray, List.map_cons, List.map_nil]); first | done | rfl) ?_
  refine (lowest_calls _ ⟨#[]⟩).mono ?_
  rintro E w2 ⟨rfl, hb⟩
  have HB2 := Aside0.mk (show Below w.heap.size w w2 from (⟨rfl, rfl, rfl, Nat.le_refl _, fun _ _ => rfl⟩ : Below w.heap.size w w.drew).trans hb)
  refine ⟨_, rfl, ?_⟩
  clear hHeld hb
  refine hK.out _ _ (show TreeAt w2 _ _ _ from blk_below HT3.out HB2.out).c0 (fun hHeld => ?_)
  clear hK K_
  unfold entryV
  refine norm_ (a' := ?_) ?_ ?_
  rotate_left
  · show Act.put _ (some 7) _ = _
    simp only [Act.put, List.setIfInBounds_toArray, List.set_cons_zero, List.set_cons_succ, i64_w, i32_w]
    rfl
  refine one_ (i := 5) (N := (some 8)) #[true, true, true, true, true, true, false, false] rfl rfl (by kernel_rfl) (by decide) (fun K_ hK => ?_)
  refine goes_ Try.func32 (by kernel_rfl) rfl #[.pointer (some ⟨ptr h m, 0, none⟩), entryV (lowS ⟨#[]⟩)] (by rfl) rfl rfl (by (try simp only [List.map_toArray, List.map_cons, List.map_nil]); first | done | rfl) ?_
  refine (from_calls _ _ _).mono ?_
  rintro E W4 ⟨rfl, hw4⟩
  have hb4 : Below w2.heap.size w2 W4 := by rw [hw4]; exact ((Below.refl _ w2).alloc (Nat.le_refl _) _).alloc (by simp) _
  have HX1 := Aside0.mk (show W4.heap[w2.heap.size]? = some (.cells #[.pointer (some ⟨ptr h m, 0, none⟩)] 59 (0, 0)) by rw [hw4]; exact blk_alloc (blk_new w2 _) _)
  have HX2 := Aside0.mk (show W4.heap[w2.heap.size + 1]? = some (boxE (lowS ⟨#[]⟩)) by rw [hw4]; have := blk_new (w2.alloc (.cells #[.pointer (some ⟨ptr h m, 0, none⟩)] 59)) (boxE (lowS ⟨#[]⟩)); rwa [World.size_alloc] at this)
  have HB4 := Aside0.mk (HB2.out.trans (hb4.mono HB2.out.size))
  refine ⟨_, rfl, ?_⟩
  clear hHeld hb4 hw4
  refine hK.out _ _ (show TreeAt W4 _ _ _ from blk_below HT3.out HB4.out).c0 (fun hHeld => ?_)
  clear hK K_
  refine norm_ (a' := ?_) ?_ ?_
  rotate_left
  · show Act.put _ (some 8) _ = _
    simp only [Act.put, List.setIfInBounds_toArray, List.set_cons_zero, List.set_cons_succ, i64_w, i32_w]
    rfl
  refine one_ (i := 6) (N := (some 9)) #[true, true, true, true, true, true, true, false] rfl rfl (by kernel_rfl) (by decide) (fun K_ hK => ?_)
  refine goes_ Try.func31 (by kernel_rfl) rfl #[.func (.func 52) #[] #[.pointer (some ⟨w2.heap.size, 0, none⟩), .pointer (some ⟨w2.heap.size + 1, 0, none⟩)]] (by rfl) rfl rfl (by (try simp only [List.map_toArray, List.map_cons, List.map_nil]); first | done | rfl) ?_
  refine (collect_calls W4 w2.heap.size h m (lowS ⟨#[]⟩) HX1.out HX2.out (HOK.out.below HB4.out) HFT.out HLN.out).mono ?_
  rintro E W5 ⟨v, rfl, hs⟩
  have HS5 := Aside0.mk hs
  have HB5 := Aside0.mk (HB4.out.trans ((keep_below hs.keep).mono HB4.out.size))
  refine ⟨_, rfl, ?_⟩
  clear hHeld hs
  refine hK.out _ _ (show TreeAt W5 _ _ _ from blk_below HT3.out HB5.out).c0 (fun hHeld => ?_)
  clear hK K_
  refine norm_ (a' := ?_) ?_ ?_
  rotate_left
  · show Act.put _ (some 9) _ = _
    simp only [Act.put, List.setIfInBounds_toArray, List.set_cons_zero, List.set_cons_succ, i64_w, i32_w]
    rfl
  refine pure_ (i := 7) (N := (some 2)) (v := ?_) (a' := ?_) #[true, true, true, true, true, true, true, true] rfl rfl (by kernel_rfl) (fun _ _ _ h => h) (Or.inl ⟨by rfl, ?_⟩) ?_ ?_
  rotate_left
  · intro w'
    go_simp
    with_reducible rfl
  rotate_left
  · simp only [Act.put, List.setIfInBounds_toArray, List.set_cons_zero, List.set_cons_succ, i64_w, i32_w]
    rfl
  refine done_ (by kernel_rfl) ?_
  go_wp2
  first | (rw [← HR.out]) | (go_ret; rw [← HR.out])
  refine ⟨v, rfl, ?_⟩
  have hs := HS5.out
  exact ⟨Keep.of_below HB5.out _, hs.h, hs.nd, fun b hb => (hs.own b hb).imp id (fun h1 => Nat.le_trans HB4.out.size h1)⟩
end Go.Proofs.Bt
end
section
namespace Go.Proofs.Bt
open Go Go.RowKit Go.Proofs.Ytjaddmflopahiaa.Q Go.Proofs.YtjaddmflopahiaaW.PrintWords Go.Proofs.YtjaddmflopahiaaW.PrintLast Go.Proofs.YtjaddmflopahiaaW.PrintMore
set_option linter.unusedVariables false
set_option linter.unusedSimpArgs false
set_option maxRecDepth 100000
attribute [local go_sem] Oper.semAt_some
abbrev S27 := Go.Proofs.Ytjaddmflopahiaa.Q.S27
def encR (x : S27) : List Value := [.int .i64 x.f0, .int .i64 x.f1]
def encRs (l : List S27) : List Value := l.flatMap encR
def RowR (w : World) (v : Value) (l : List S27) : Prop := Row w 27 2 v l.length (encRs l)
section
variable {w0 w w' : World} {F : Nat → Prop} {cs : List Chunk}
end
theorem RowR.slice {w : World} {v : Value} {l : List S27} (h : RowR w v l) : ∃ A c, v = .slice A l.length c := by
  rcases h.2.2 with ⟨rfl, h0⟩ | ⟨g, cap, cur, rfl, _⟩
  · exact ⟨none, 0, by rw [h0]⟩
  · exact ⟨_, _, rfl⟩
end Go.Proofs.Bt
end
section
namespace Go.Proofs.Ytjaddmflopahiaa.Q
open Go.RowKit Go.Proofs.YtjaddmflopahiaaW.PrintWords Go.Proofs.YtjaddmflopahiaaW.PrintLast Go.Proofs.YtjaddmflopahiaaW.PrintMore
attribute [local go_sem] max2_int min2_int max_two min_two max_three min_three max_four min_four
set_option linter.unusedVariables false
set_option linter.unusedSimpArgs false
theorem eqA27 (d : Nat) (w : World) (x0 y0 : Int) (x1 y1 : Int) :
    (Op.equalIn (d + 2) 27 (.agg #[.int .i64 x0, .int .i64 x1]) (.agg #[.int .i64 y0, .int .i64 y1])).run Try.prog w = .ok (x0 == y0 && (x1 == y1)) w := by
  refine eqA_of Try.underlying27 (by kernel_rfl) ?_
  refine eqf_cons (by rfl) (by go_simp; rfl) (by go_simp; rfl) (by go_simp) ?_
  exact eqf_last (by rfl) (by go_simp; rfl) (by go_simp; rfl) (by go_simp)
end Go.Proofs.Ytjaddmflopahiaa.Q
end
section
namespace Go.Proofs.Ytjaddmflopahiaa.Q
open Go.RowKit Go.Proofs.YtjaddmflopahiaaW.PrintWords Go.Proofs.YtjaddmflopahiaaW.PrintLast Go.Proofs.YtjaddmflopahiaaW.PrintMore
attribute [local go_sem] max2_int min2_int max_two min_two max_three min_three max_four min_four
set_option linter.unusedVariables false
set_option linter.unusedSimpArgs false
theorem eqA29 (d : Nat) (w : World) (x0 y0 : ByteArray) (x1 y1 : Int) (x2 y2 : Int) :
    (Op.equalIn (d + 3) 29 (.agg #[.string x0, .int .i64 x1, .int .i64 x2]) (.agg #[.string y0, .int .i64 y1, .int .i64 y2])).run Try.prog w = .ok (x0.toList == y0.toList && ((x1 == y1 && (x2 == y2)))) w := by
  refine eqA_of Try.underlying29 (by kernel_rfl) ?_
  refine eqf_cons (by rfl) (by go_simp; rfl) (by go_simp; rfl) (by go_simp) ?_
  exact eqf_last (by rfl) (by go_simp) (by go_simp) (eqA27 (d + 0) w _ _ _ _)
end Go.Proofs.Ytjaddmflopahiaa.Q
end
section
namespace Go.Proofs.Bt
open Go Go.RowKit Go.Proofs.Ytjaddmflopahiaa.Q Go.Proofs.YtjaddmflopahiaaW.PrintWords Go.Proofs.YtjaddmflopahiaaW.PrintLast Go.Proofs.YtjaddmflopahiaaW.PrintMore
set_option linter.unusedVariables false
set_option linter.unusedSimpArgs false
set_option maxRecDepth 100000
attribute [local go_sem] Oper.semAt_some eqA29
end Go.Proofs.Bt
end
section
namespace Go.Proofs.Bt
open Go Go.RowKit Go.Proofs.Ytjaddmflopahiaa.Q
set_option linter.unusedVariables false
set_option linter.unusedSimpArgs false
theorem bl_irr : ∀ x : List UInt8, Op.bytesLess x x = false
  | [] => rfl
  | a :: x => by
    simp [Op.bytesLess, bl_irr x]
theorem bl_trans : ∀ x y z : List UInt8, Op.bytesLess x y = true → Op.bytesLess y z = true → Op.bytesLess x z = true
  | [], [], z, h, _ => by simp [Op.bytesLess] at h
  | [], b :: y, [], _, h => by simp [Op.bytesLess] at h
  | [], b :: y, c :: z, _, _ => rfl
  | a :: x, [], z, h, _ => by simp [Op.bytesLess] at h
  | a :: x, b :: y, [], _, h => by simp [Op.bytesLess] at h
  | a :: x, b :: y, c :: z, h1, h2 => by
    simp only [Op.bytesLess, Bool.or_eq_true, decide_eq_true_eq, Bool.and_eq_true, beq_iff_eq] at h1 h2 ⊢
    rcases h1 with h1 | ⟨rfl, h1⟩
    · rcases h2 with h2 | ⟨rfl, h2⟩
      · exact .inl (UInt8.lt_trans h1 h2)
      · exact .inl h1
    · rcases h2 with h2 | ⟨rfl, h2⟩
      · exact .inl h2
      · exact .inr ⟨rfl, bl_trans x y z h1 h2⟩
theorem bl_tri : ∀ x y : List UInt8, Op.bytesLess x y = true ∨ x = y ∨ Op.bytesLess y x = true
  | [], [] => .inr (.inl rfl)
  | [], b :: y => .inl rfl
  | a :: x, [] => .inr (.inr rfl)
  | a :: x, b :: y => by
    simp only [Op.bytesLess, Bool.or_eq_true, decide_eq_true_eq, Bool.and_eq_true, beq_iff_eq, List.cons.injEq]
    by_cases h : a = b
    · subst h
      rcases bl_tri x y with h | h | h
      · exact .inl (.inr ⟨rfl, h⟩)
      · exact .inr (.inl ⟨rfl, h⟩)
      · exact .inr (.inr (.inr ⟨rfl, h⟩))
    · rcases Nat.lt_or_ge a.toNat b.toNat with h1 | h1
      · exact .inl (.inl (UInt8.lt_iff_toNat_lt.2 h1))
      · refine .inr (.inr (.inl (UInt8.lt_iff_toNat_lt.2 (Nat.lt_of_le_of_ne h1 fun e => h (UInt8.toNat_inj.1 e.symm)))))
theorem toList_inj {a b : ByteArray} (h : a.toList = b.toList) : a = b := by
  rw [Lib.toList_data, Lib.toList_data] at h
  exact ByteArray.ext (Array.toList_inj.1 h)
theorem cmpB_cases (a b : ByteArray) : (cmpB a b = -1 ∧ Op.bytesLess a.toList b.toList = true) ∨ (cmpB a b = 0 ∧ a = b) ∨ (cmpB a b = 1 ∧ Op.bytesLess b.toList a.toList = true) := by
  unfold cmpB
  rcases bl_tri a.toList b.toList with h | h | h
  · exact .inl ⟨by rw [if_pos h], h⟩
  · have := toList_inj h
    subst this
    exact .inr (.inl ⟨by rw [if_neg (by simp [bl_irr]), if_pos (by simp)], rfl⟩)
  · have h1 : ¬ Op.bytesLess a.toList b.toList = true := fun h2 => by
      have := bl_trans _ _ _ h h2
      rw [bl_irr] at this
      cases this
    have h2 : ¬ (a.toList == b.toList) = true := fun h2 => by
      rw [beq_iff_eq] at h2
      rw [h2, bl_irr] at h
      cases h
    exact .inr (.inr ⟨by rw [if_neg h1, if_neg h2], h⟩)
theorem cmpI_cases (a b : Int) : (cmpI a b = -1 ∧ a < b) ∨ (cmpI a b = 0 ∧ a = b) ∨ (cmpI a b = 1 ∧ b < a) := by
  unfold cmpI
  by_cases h : a < b
  · exact .inl ⟨if_pos h, h⟩
  · by_cases h2 : a > b
    · exact .inr (.inr ⟨by rw [if_neg h, if_pos h2], h2⟩)
    · exact .inr (.inl ⟨by rw [if_neg h, if_neg h2], by omega⟩)
def ltE (a b : S29) : Prop := ord a b < 0
theorem ltE_iff (a b : S29) : ltE a b ↔ Op.bytesLess a.f0.toList b.f0.toList = true ∨ (a.f0 = b.f0 ∧ (a.f1.f0 < b.f1.f0 ∨ (a.f1.f0 = b.f1.f0 ∧ a.f1.f1 < b.f1.f1))) := by
  unfold ltE ord
  rcases cmpB_cases a.f0 b.f0 with ⟨h1, h2⟩ | ⟨h1, h2⟩ | ⟨h1, h2⟩
  · rw [h1]
    simp [h2]
  · rw [h1, if_pos rfl]
    have h3 : ¬ Op.bytesLess a.f0.toList b.f0.toList = true := by rw [h2, bl_irr]; simp
    rcases cmpI_cases a.f1.f0 b.f1.f0 with ⟨g1, g2⟩ | ⟨g1, g2⟩ | ⟨g1, g2⟩ <;> rw [g1] <;> rcases cmpI_cases a.f1.f1 b.f1.f1 with ⟨k1, k2⟩ | ⟨k1, k2⟩ | ⟨k1, k2⟩ <;> rw [k1] <;> simp [h2, h3] <;> first | done | (constructor <;> intro h <;> first | omega | (simp at h; try omega)) | omega | (intro h; omega) | exact ⟨bl_irr _, by omega, fun _ => by omega⟩
  · rw [h1]
    have h3 : ¬ Op.bytesLess a.f0.toList b.f0.toList = true := fun h => by
      have := bl_trans _ _ _ h h2
      rw [bl_irr] at this
      cases this
    constructor
    · intro h
      rw [if_neg (by decide)] at h
      omega
    · rintro (h | ⟨h, _⟩)
      · exact absurd h h3
      · rw [h, bl_irr] at h2
        cases h2
theorem ltE_trans {a b c : S29} (h1 : ltE a b) (h2 : ltE b c) : ltE a c := by
  rw [ltE_iff] at h1 h2 ⊢
  rcases h1 with h1 | ⟨h1, h1'⟩
  · rcases h2 with h2 | ⟨h2, _⟩
    · exact .inl (bl_trans _ _ _ h1 h2)
    · exact .inl (h2 ▸ h1)
  · rcases h2 with h2 | ⟨h2, h2'⟩
    · exact .inl (h1 ▸ h2)
    · exact .inr ⟨h1.trans h2, by omega⟩
theorem ltE_irr (a : S29) : ¬ ltE a a := by
  rw [ltE_iff]
  rintro (h | ⟨_, h⟩)
  · rw [bl_irr] at h
    cases h
  · omega
theorem ord_zero (a b : S29) : ord a b = 0 ↔ a = b := by
  constructor
  · intro h
    obtain ⟨a0, a1, a2⟩ := a
    obtain ⟨b0, b1, b2⟩ := b
    unfold ord at h
    rcases cmpB_cases a0 b0 with ⟨h1, h2⟩ | ⟨h1, h2⟩ | ⟨h1, h2⟩
    · simp [h1] at h
    · simp only [h1, if_true] at h
      subst h2
      rcases cmpI_cases a1 b1 with ⟨g1, g2⟩ | ⟨g1, g2⟩ | ⟨g1, g2⟩
      · simp [g1] at h
      · simp only [g1, if_true] at h
        rcases cmpI_cases a2 b2 with ⟨k1, k2⟩ | ⟨k1, k2⟩ | ⟨k1, k2⟩
        · omega
        · rw [g2, k2]
        · omega
      · simp [g1] at h
    · simp [h1] at h
  · rintro rfl
    unfold ord
    rcases cmpB_cases a.f0 a.f0 with ⟨h1, h2⟩ | ⟨h1, h2⟩ | ⟨h1, h2⟩
    · rw [bl_irr] at h2; cases h2
    · simp [h1, cmpI]
    · rw [bl_irr] at h2; cases h2
end Go.Proofs.Bt
end
section
namespace Go.Proofs.Bt
open Go Go.RowKit Go.Proofs.Ytjaddmflopahiaa.Q
set_option linter.unusedVariables false
set_option linter.unusedSimpArgs false
def Sorted (ks : List S29) : Prop := ks.Pairwise ltE
theorem Sorted.mono {ks : List S29} (h : Sorted ks) (e : S29) : Mono ks e := by
  intro a b hb ha hab hlt
  rcases Nat.lt_or_ge a b with hab2 | hab2
  · exact ltE_trans (List.pairwise_iff_getElem.1 h a b ha hb hab2) hlt
  · have : a = b := by omega
    subst this
    exact hlt
end Go.Proofs.Bt
end
section
namespace Go.Proofs.Bt
open Go Go.RowKit Go.Proofs.Ytjaddmflopahiaa.Q
set_option linter.unusedVariables false
set_option linter.unusedSimpArgs false
instance (a b : S29) : Decidable (ltE a b) := inferInstanceAs (Decidable (ord a b < 0))
theorem low_cons (x : S29) (ks : List S29) (e : S29) : low (x :: ks) e = if ltE x e then low ks e + 1 else 0 := by
  unfold low
  rw [List.takeWhile_cons]
  by_cases h : ltE x e
  · rw [if_pos (show decide (ord x e < 0) = true from decide_eq_true h), if_pos h, List.length_cons]
  · rw [if_neg (show ¬ decide (ord x e < 0) = true from fun hd => h (of_decide_eq_true hd)), if_neg h]
    rfl
theorem ltE_asymm {a b : S29} (h : ltE a b) : ¬ ltE b a := fun h2 => ltE_irr a (ltE_trans h h2)
theorem ltE_tri (a b : S29) : ltE a b ∨ a = b ∨ ltE b a := by
  rw [ltE_iff, ltE_iff]
  obtain ⟨a0, a1, a2⟩ := a
  obtain ⟨b0, b1, b2⟩ := b
  rcases bl_tri a0.toList b0.toList with h | h | h
  · exact .inl (.inl h)
  · have := toList_inj h
    subst this
    rcases Int.lt_trichotomy a1 b1 with h1 | h1 | h1
    · exact .inl (.inr ⟨rfl, .inl h1⟩)
    · subst h1
      rcases Int.lt_trichotomy a2 b2 with h2 | h2 | h2
      · exact .inl (.inr ⟨rfl, .inr ⟨rfl, h2⟩⟩)
      · subst h2
        exact .inr (.inl rfl)
      · exact .inr (.inr (.inr ⟨rfl, .inr ⟨rfl, h2⟩⟩))
    · exact .inr (.inr (.inr ⟨rfl, .inl h1⟩))
  · exact .inr (.inr (.inl h))
theorem low_parts : ∀ (ks : List S29) (e : S29), Sorted ks → (∀ x ∈ ks.take (low ks e), ltE x e) ∧ (∀ x ∈ ks.drop (low ks e), ¬ ltE x e)
  | [], e, _ => by simp [low]
  | y :: ks, e, hs => by
    obtain ⟨h1, h2⟩ := List.pairwise_cons.1 hs
    rw [low_cons]
    by_cases hy : ltE y e
    · rw [if_pos hy]
      obtain ⟨g1, g2⟩ := low_parts ks e h2
      refine ⟨fun x hx => ?_, fun x hx => g2 x (by simpa using hx)⟩
      rw [List.take_succ_cons] at hx
      rcases List.mem_cons.1 hx with rfl | hx
      · exact hy
      · exact g1 x hx
    · rw [if_neg hy]
      refine ⟨by simp, fun x hx hlt => ?_⟩
      rw [List.drop_zero] at hx
      rcases List.mem_cons.1 hx with rfl | hx
      · exact hy hlt
      · exact hy (ltE_trans (h1 x hx) hlt)
theorem found_mem (ks : List S29) (e : S29) (hs : Sorted ks) : found ks e = true ↔ e ∈ ks := by
  obtain ⟨h1, h2⟩ := low_parts ks e hs
  unfold found
  constructor
  · intro h
    by_cases hl : low ks e < ks.length
    · rw [dif_pos hl, decide_eq_true_eq, ord_zero] at h
      exact h ▸ List.getElem_mem hl
    · rw [dif_neg hl] at h
      cases h
  · intro h
    rw [← List.take_append_drop (low ks e) ks] at h
    rcases List.mem_append.1 h with h | h
    · exact absurd (h1 e h) (ltE_irr e)
    · by_cases hl : low ks e < ks.length
      · rw [dif_pos hl, decide_eq_true_eq, ord_zero]
        rw [List.drop_eq_getElem_cons hl] at h h2
        rcases List.mem_cons.1 h with h | h
        · exact h.symm
        · rcases ltE_tri ks[low ks e] e with g | g | g
          · exact absurd g (h2 _ List.mem_cons_self)
          · exact g
          · have hs2 : Sorted (ks.drop (low ks e)) := hs.sublist (List.drop_sublist _ _)
            rw [List.drop_eq_getElem_cons hl] at hs2
            exact absurd ((List.pairwise_cons.1 hs2).1 e h) (ltE_asymm g)
      · rw [List.drop_eq_nil_iff.2 (by omega)] at h
        cases h
theorem ins_sorted (ks : List S29) (e : S29) (hs : Sorted ks) (hf : found ks e = false) : Sorted (insAt ks (low ks e) e) := by
  obtain ⟨h1, h2⟩ := low_parts ks e hs
  have hne : e ∉ ks := fun h => by
    rw [(found_mem ks e hs).2 h] at hf
    cases hf
  unfold insAt
  have hs' : Sorted (ks.take (low ks e) ++ ks.drop (low ks e)) := by rw [List.take_append_drop]; exact hs
  obtain ⟨p1, p2, p3⟩ := List.pairwise_append.1 hs'
  have hgt : ∀ x ∈ ks.drop (low ks e), ltE e x := fun x hx => by
    rcases ltE_tri e x with g | g | g
    · exact g
    · exact absurd (g ▸ List.mem_of_mem_drop hx) hne
    · exact absurd g (h2 x hx)
  refine List.pairwise_append.2 ⟨p1, List.pairwise_cons.2 ⟨hgt, p2⟩, fun x hx y hy => ?_⟩
  rcases List.mem_cons.1 hy with rfl | hy
  · exact h1 x hx
  · exact p3 x hx y hy
theorem mem_insAt {α : Type} (l : List α) (i : Nat) (x y : α) : y ∈ insAt l i x ↔ y = x ∨ y ∈ l := by
  unfold insAt
  rw [List.mem_append, List.mem_cons]
  constructor
  · rintro (h | h | h)
    · exact .inr (List.mem_of_mem_take h)
    · exact .inl h
    · exact .inr (List.mem_of_mem_drop h)
  · rintro (h | h)
    · exact .inr (.inl h)
    · rw [← List.take_append_drop i l] at h
      rcases List.mem_append.1 h with h | h
      · exact .inl h
      · exact .inr (.inr h)
end Go.Proofs.Bt
end
section
namespace Go.Proofs.Bt
open Go Go.RowKit Go.Proofs.Ytjaddmflopahiaa.Q
set_option linter.unusedVariables false
set_option linter.unusedSimpArgs false
def leE (a b : S29) : Prop := a = b ∨ ltE a b
theorem kid_parts (ks : List S29) (e : S29) (hs : Sorted ks) : (∀ x ∈ ks.take (kidIx ks e), leE x e) ∧ (∀ x ∈ ks.drop (kidIx ks e), ltE e x) := by
  obtain ⟨h1, h2⟩ := low_parts ks e hs
  unfold kidIx
  by_cases hf : found ks e = true
  · rw [if_pos hf]
    have hl := found_lt hf
    have he : ks[low ks e] = e := by
      unfold found at hf
      rw [dif_pos hl, decide_eq_true_eq, ord_zero] at hf
      exact hf
    constructor
    · intro x hx
      rw [List.take_succ_eq_append_getElem hl] at hx
      rcases List.mem_append.1 hx with hx | hx
      · exact .inr (h1 x hx)
      · simp at hx
        exact .inl (hx.trans he)
    · intro x hx
      have hs2 : Sorted (ks.drop (low ks e)) := hs.sublist (List.drop_sublist _ _)
      rw [List.drop_eq_getElem_cons hl, he] at hs2
      exact (List.pairwise_cons.1 hs2).1 x hx
  · rw [if_neg hf, Nat.add_zero]
    refine ⟨fun x hx => .inr (h1 x hx), fun x hx => ?_⟩
    rcases ltE_tri e x with g | g | g
    · exact g
    · exact absurd ((found_mem ks e hs).2 (g ▸ List.mem_of_mem_drop hx)) hf
    · exact absurd g (h2 x hx)
end Go.Proofs.Bt
end
section
namespace Go.Proofs.Bt
open Go Go.RowKit Go.Proofs.Ytjaddmflopahiaa.Q
set_option linter.unusedVariables false
set_option linter.unusedSimpArgs false
abbrev It := S29 × Bool
def ltI (a b : It) : Prop := ltE a.1 b.1 ∨ (a.1 = b.1 ∧ a.2 = false ∧ b.2 = true)
theorem ltI_trans {a b c : It} (h : ltI a b) (k : ltI b c) : ltI a c := by
  rcases h with h | ⟨h1, h2, h3⟩ <;> rcases k with k | ⟨k1, k2, k3⟩
  · exact .inl (ltE_trans h k)
  · exact .inl (by rw [← k1]; exact h)
  · exact .inl (by rw [h1]; exact k)
  · rw [h3] at k2
    cases k2
theorem ltI_irr (a : It) : ¬ ltI a a := by
  rintro (h | ⟨h1, h2, h3⟩)
  · exact ltE_irr _ h
  · rw [h2] at h3
    cases h3
abbrev Srt (l : List It) : Prop := l.Pairwise ltI
def lpre (ks : List S29) (A : List (List It)) : List It := (A.zip ks).flatMap fun p => p.1 ++ [(p.2, false)]
def lpost (ks : List S29) (B : List (List It)) : List It := (ks.zip B).flatMap fun p => (p.1, false) :: p.2
def il (ks : List S29) : List (List It) → List It
  | [] => []
  | f :: fs => f ++ lpost ks fs
theorem lpost_cons (k : S29) (ks : List S29) (b : List It) (B : List (List It)) : lpost (k :: ks) (b :: B) = (k, false) :: (b ++ lpost ks B) := by simp [lpost]
theorem lpost_nil (ks : List S29) : lpost ks [] = [] := by simp [lpost]
theorem lpre_cons (k : S29) (ks : List S29) (a : List It) (A : List (List It)) : lpre (k :: ks) (a :: A) = a ++ (k, false) :: lpre ks A := by simp [lpre]
theorem lpre_snoc : ∀ (ks : List S29) (k : S29) (A : List (List It)) (a : List It), A.length = ks.length → lpre (ks ++ [k]) (A ++ [a]) = lpre ks A ++ (a ++ [(k, false)])
  | [], k, [], a, h => by simp [lpre]
  | x :: ks, k, b :: A, a, h => by
    show lpre (x :: (ks ++ [k])) (b :: (A ++ [a])) = _
    rw [lpre_cons, lpre_cons, lpre_snoc ks k A a (by simpa using h)]
    simp
  | [], k, b :: A, a, h => by simp at h
  | x :: ks, k, [], a, h => by simp at h
theorem il_cut : ∀ (ks : List S29) (A : List (List It)) (f : List It) (B : List (List It)), A.length ≤ ks.length → il ks (A ++ f :: B) = lpre (ks.take A.length) A ++ (f ++ lpost (ks.drop A.length) B)
  | ks, [], f, B, h => by simp [il, lpre]
  | k :: ks, a :: A, f, B, h => by
    have ih := il_cut ks A f B (by simpa using h)
    show a ++ lpost (k :: ks) (A ++ f :: B) = _
    have e : lpost (k :: ks) (A ++ f :: B) = (k, false) :: il ks (A ++ f :: B) := by
      cases A with
      | nil => simp [il, lpost]
      | cons x A => simp [il, lpost]
    rw [e, ih]
    simp only [List.length_cons, List.take_succ_cons, List.drop_succ_cons, lpre_cons]
    simp
  | [], a :: A, f, B, h => by simp at h
theorem il_pair (ks : List S29) (A : List (List It)) (f g : List It) (B : List (List It)) (z : S29) (hz : ks[A.length]? = some z) : il ks (A ++ f :: g :: B) = lpre (ks.take A.length) A ++ (f ++ (z, false) :: g) ++ lpost (ks.drop (A.length + 1)) B := by
  obtain ⟨hi, rfl⟩ := List.getElem?_eq_some_iff.1 hz
  rw [il_cut ks A f (g :: B) (by omega), List.drop_eq_getElem_cons hi, lpost_cons]
  simp
def flat : (h : Nat) → BT h → List It
  | 0, ks => List.map (fun x : S29 => ((x, true) : It)) ks
  | h + 1, t => il t.1 (t.2.map (flat h))
theorem flat_cut (h : Nat) (ks : List S29) (A : List (BT h)) (k : BT h) (B : List (BT h)) (hl : A.length ≤ ks.length) : flat (h + 1) (ks, A ++ k :: B) = lpre (ks.take A.length) (A.map (flat h)) ++ (flat h k ++ lpost (ks.drop A.length) (B.map (flat h))) := by
  show il ks ((A ++ k :: B).map (flat h)) = _
  rw [List.map_append, List.map_cons, il_cut _ _ _ _ (by rw [List.length_map]; exact hl), List.length_map]
theorem flat_pair (h : Nat) (ks : List S29) (A : List (BT h)) (k l : BT h) (B : List (BT h)) (z : S29) (hz : ks[A.length]? = some z) : flat (h + 1) (ks, A ++ k :: l :: B) = lpre (ks.take A.length) (A.map (flat h)) ++ (flat h k ++ (z, false) :: flat h l) ++ lpost (ks.drop (A.length + 1)) (B.map (flat h)) := by
  show il ks ((A ++ k :: l :: B).map (flat h)) = _
  rw [List.map_append, List.map_cons, List.map_cons, il_pair _ _ _ _ _ z (by rw [List.length_map]; exact hz), List.length_map]
structure Sam (F F' : List It) : Prop where
  srt : Srt F'
  lo : ∀ x, (∀ y ∈ F, ltI x y) → ∀ y ∈ F', ltI x y
  hi : ∀ x, (∀ y ∈ F, ltI y x) → ∀ y ∈ F', ltI y x
  mem : ∀ z, (z, true) ∈ F' ↔ (z, true) ∈ F
structure Insd (e : S29) (F F' : List It) : Prop where
  srt : Srt F'
  lo : ∀ x, (∀ y ∈ F, ltI x y) → ltI x (e, true) → ∀ y ∈ F', ltI x y
  hi : ∀ x, (∀ y ∈ F, ltI y x) → ltI (e, true) x → ∀ y ∈ F', ltI y x
  mem : ∀ z, (z, true) ∈ F' ↔ z = e ∨ (z, true) ∈ F
structure Deld (e : S29) (F F' : List It) : Prop where
  srt : Srt F'
  lo : ∀ x, (∀ y ∈ F, ltI x y) → ∀ y ∈ F', ltI x y
  hi : ∀ x, (∀ y ∈ F, ltI y x) → ∀ y ∈ F', ltI y x
  mem : ∀ z, (z, true) ∈ F' ↔ z ≠ e ∧ (z, true) ∈ F
theorem Sam.refl {F : List It} (h : Srt F) : Sam F F := ⟨h, fun _ h => h, fun _ h => h, fun _ => Iff.rfl⟩
theorem Insd.then {e : S29} {F G H : List It} (h : Insd e F G) (k : Sam G H) : Insd e F H := ⟨k.srt, fun x hx he => k.lo x (h.lo x hx he), fun x hx he => k.hi x (h.hi x hx he), fun z => (k.mem z).trans (h.mem z)⟩
theorem Deld.then {e : S29} {F G H : List It} (h : Deld e F G) (k : Sam G H) : Deld e F H := ⟨k.srt, fun x hx => k.lo x (h.lo x hx), fun x hx => k.hi x (h.hi x hx), fun z => (k.mem z).trans (h.mem z)⟩
theorem srt_mid {X F Y : List It} : Srt (X ++ (F ++ Y)) ↔ Srt X ∧ Srt F ∧ Srt Y ∧ (∀ x ∈ X, ∀ y ∈ F, ltI x y) ∧ (∀ x ∈ X, ∀ y ∈ Y, ltI x y) ∧ (∀ x ∈ F, ∀ y ∈ Y, ltI x y) := by
  unfold Srt
  rw [List.pairwise_append, List.pairwise_append]
  constructor
  · rintro ⟨h1, ⟨h2, h3, h4⟩, h5⟩
    exact ⟨h1, h2, h3, fun x hx y hy => h5 x hx y (List.mem_append_left _ hy), fun x hx y hy => h5 x hx y (List.mem_append_right _ hy), h4⟩
  · rintro ⟨h1, h2, h3, h4, h5, h6⟩
    exact ⟨h1, ⟨h2, h3, h6⟩, fun x hx y hy => (List.mem_append.1 hy).elim (h4 x hx y) (h5 x hx y)⟩
theorem Sam.ctx {X F G Y : List It} (hs : Srt (X ++ (F ++ Y))) (k : Sam F G) : Sam (X ++ (F ++ Y)) (X ++ (G ++ Y)) := by
  obtain ⟨h1, h2, h3, h4, h5, h6⟩ := srt_mid.1 hs
  refine ⟨srt_mid.2 ⟨h1, k.srt, h3, fun x hx => k.lo x (h4 x hx), h5, fun x hx y hy => k.hi y (fun z hz => h6 z hz y hy) x hx⟩, fun x hx y hy => ?_, fun x hx y hy => ?_, fun z => ?_⟩
  · simp only [List.mem_append] at hx hy
    rcases hy with hy | hy | hy
    · exact hx y (.inl hy)
    · exact k.lo x (fun z hz => hx z (.inr (.inl hz))) y hy
    · exact hx y (.inr (.inr hy))
  · simp only [List.mem_append] at hx hy
    rcases hy with hy | hy | hy
    · exact hx y (.inl hy)
    · exact k.hi x (fun z hz => hx z (.inr (.inl hz))) y hy
    · exact hx y (.inr (.inr hy))
  · simp only [List.mem_append, k.mem]
theorem Insd.ctx {e : S29} {X F G Y : List It} (hs : Srt (X ++ (F ++ Y))) (hX : ∀ x ∈ X, ltI x (e, true)) (hY : ∀ y ∈ Y, ltI (e, true) y) (k : Insd e F G) : Insd e (X ++ (F ++ Y)) (X ++ (G ++ Y)) := by
  obtain ⟨h1, h2, h3, h4, h5, h6⟩ := srt_mid.1 hs
  refine ⟨srt_mid.2 ⟨h1, k.srt, h3, fun x hx => k.lo x (h4 x hx) (hX x hx), h5, fun x hx y hy => k.hi y (fun z hz => h6 z hz y hy) (hY y hy) x hx⟩, fun x hx he y hy => ?_, fun x hx he y hy => ?_, fun z => ?_⟩
  · simp only [List.mem_append] at hx hy
    rcases hy with hy | hy | hy
    · exact hx y (.inl hy)
    · exact k.lo x (fun z hz => hx z (.inr (.inl hz))) he y hy
    · exact hx y (.inr (.inr hy))
  · simp only [List.mem_append] at hx hy
    rcases hy with hy | hy | hy
    · exact hx y (.inl hy)
    · exact k.hi x (fun z hz => hx z (.inr (.inl hz))) he y hy
    · exact hx y (.inr (.inr hy))
  · simp only [List.mem_append, k.mem]
    constructor
    · rintro (h | (h | h) | h)
      · exact .inr (.inl h)
      · exact .inl h
      · exact .inr (.inr (.inl h))
      · exact .inr (.inr (.inr h))
    · rintro (h | h | h | h)
      · exact .inr (.inl (.inl h))
      · exact .inl h
      · exact .inr (.inl (.inr h))
      · exact .inr (.inr h)
theorem Deld.ctx {e : S29} {X F G Y : List It} (hs : Srt (X ++ (F ++ Y))) (hX : ∀ x ∈ X, ltI x (e, true)) (hY : ∀ y ∈ Y, ltI (e, true) y) (k : Deld e F G) : Deld e (X ++ (F ++ Y)) (X ++ (G ++ Y)) := by
  obtain ⟨h1, h2, h3, h4, h5, h6⟩ := srt_mid.1 hs
  refine ⟨srt_mid.2 ⟨h1, k.srt, h3, fun x hx => k.lo x (h4 x hx), h5, fun x hx y hy => k.hi y (fun z hz => h6 z hz y hy) x hx⟩, fun x hx y hy => ?_, fun x hx y hy => ?_, fun z => ?_⟩
  · simp only [List.mem_append] at hx hy
    rcases hy with hy | hy | hy
    · exact hx y (.inl hy)
    · exact k.lo x (fun z hz => hx z (.inr (.inl hz))) y hy
    · exact hx y (.inr (.inr hy))
  · simp only [List.mem_append] at hx hy
    rcases hy with hy | hy | hy
    · exact hx y (.inl hy)
    · exact k.hi x (fun z hz => hx z (.inr (.inl hz))) y hy
    · exact hx y (.inr (.inr hy))
  · simp only [List.mem_append, k.mem]
    constructor
    · rintro (h | ⟨h0, h⟩ | h)
      · exact ⟨fun e0 => by have := hX _ h; rw [e0] at this; exact ltI_irr _ this, .inl h⟩
      · exact ⟨h0, .inr (.inl h)⟩
      · exact ⟨fun e0 => by have := hY _ h; rw [e0] at this; exact ltI_irr _ this, .inr (.inr h)⟩
    · rintro ⟨h0, h | h | h⟩
      · exact .inl h
      · exact .inr (.inl ⟨h0, h⟩)
      · exact .inr (.inr h)
theorem pre_lt {e : S29} : ∀ (ks : List S29) (A : List (List It)), A.length = ks.length → Srt (lpre ks A) → (∀ x ∈ ks, leE x e) → ∀ x ∈ lpre ks A, ltI x (e, true) := by
  intro ks A hl hs hk x hx
  rcases List.eq_nil_or_concat ks with rfl | ⟨ks', k, hks⟩
  · have : A = [] := List.eq_nil_of_length_eq_zero (by simpa using hl)
    subst this
    simp [lpre] at hx
  · have hks : ks = ks' ++ [k] := by simpa using hks
    subst hks
    obtain ⟨A', a, rfl⟩ : ∃ A' a, A = A' ++ [a] := by
      rcases List.eq_nil_or_concat A with rfl | ⟨A', a, hA⟩
      · simp at hl
      · exact ⟨A', a, by simpa using hA⟩
    rw [lpre_snoc ks' k A' a (by simpa using hl)] at hs hx
    have hlast : ltI (k, false) (e, true) := by
      rcases hk k (by simp) with h | h
      · exact .inr ⟨h, rfl, rfl⟩
      · exact .inl h
    rw [← List.append_assoc] at hs hx
    rcases List.mem_append.1 hx with hx | hx
    · exact ltI_trans ((List.pairwise_append.1 hs).2.2 x hx (k, false) (by simp)) hlast
    · simp at hx
      subst hx
      exact hlast
theorem post_gt {e : S29} (ks : List S29) (B : List (List It)) (hs : Srt (lpost ks B)) (hk : ∀ x ∈ ks, ltE e x) : ∀ y ∈ lpost ks B, ltI (e, true) y := by
  intro y hy
  cases ks with
  | nil => simp [lpost] at hy
  | cons k ks =>
    cases B with
    | nil => simp [lpost] at hy
    | cons b B =>
      rw [lpost_cons] at hs hy
      have h0 : ltI (e, true) (k, false) := .inl (hk k (by simp))
      rcases List.mem_cons.1 hy with rfl | hy
      · exact h0
      · exact ltI_trans h0 ((List.pairwise_cons.1 hs).1 y hy)
theorem keys_sub : ∀ (ks : List S29) (fs : List (List It)), fs.length = ks.length + 1 → (ks.map (fun x : S29 => ((x, false) : It))).Sublist (il ks fs)
  | [], fs, h => by simp
  | k :: ks, [], h => by simp at h
  | k :: ks, [f], h => by simp at h
  | k :: ks, f :: g :: fs, h => by
    have ih := keys_sub ks (g :: fs) (by simpa using h)
    show ((k, false) :: ks.map _).Sublist (f ++ lpost (k :: ks) (g :: fs))
    rw [lpost_cons]
    exact (List.Sublist.cons_cons (k, false) ih).trans (List.sublist_append_right _ _)
theorem srt_keys {ks : List S29} {b : Bool} (h : Srt (ks.map (fun x : S29 => ((x, b) : It)))) : Sorted ks := by
  unfold Sorted
  rw [Srt, List.pairwise_map] at h
  refine h.imp fun {x y} hxy => ?_
  rcases hxy with hxy | ⟨_, h1, h2⟩
  · exact hxy
  · have h1 : b = false := h1
    have h2 : b = true := h2
    rw [h1] at h2
    cases h2
theorem srt_of_keys {ks : List S29} {b : Bool} (h : Sorted ks) : Srt (ks.map (fun x : S29 => ((x, b) : It))) := by
  rw [Srt, List.pairwise_map]
  exact h.imp fun {x y} hxy => .inl hxy
end Go.Proofs.Bt
end
section
namespace Go.Proofs.Bt
open Go Go.RowKit Go.Proofs.Ytjaddmflopahiaa.Q
set_option linter.unusedVariables false
set_option linter.unusedSimpArgs false
def Shape : (h : Nat) → (n : Nat) → BT h → Prop
  | 0, n, ks => n ≤ List.length (α := S29) ks ∧ List.length (α := S29) ks ≤ 4
  | h + 1, n, t => n ≤ t.1.length ∧ t.1.length ≤ 4 ∧ t.2.length = t.1.length + 1 ∧ ∀ k ∈ t.2, Shape h 2 k
theorem Shape.mono : ∀ {h n m : Nat} {t : BT h}, Shape h n t → m ≤ n → Shape h m t
  | 0, n, m, t, hs, hm => ⟨Nat.le_trans hm hs.1, hs.2⟩
  | h + 1, n, m, t, hs, hm => ⟨Nat.le_trans hm hs.1, hs.2⟩
theorem Shape.ge : ∀ {h n : Nat} {t : BT h}, Shape h n t → n ≤ blen h t
  | 0, _, _, hs => hs.1
  | _ + 1, _, _, hs => hs.1
theorem Shape.le : ∀ {h n : Nat} {t : BT h}, Shape h n t → blen h t ≤ 4
  | 0, _, _, hs => hs.2
  | _ + 1, _, _, hs => hs.2.1
theorem srt_kid {h : Nat} {ks : List S29} {ts : List (BT h)} (hl : ts.length = ks.length + 1) (hs : Srt (flat (h + 1) (ks, ts))) : ∀ k ∈ ts, Srt (flat h k) := by
  intro k hk
  obtain ⟨i, hi, rfl⟩ := List.mem_iff_getElem.1 hk
  obtain ⟨A, k, B, rfl, hA⟩ := cut_at ts i hi
  have hkk : (A ++ k :: B)[i] = k := by
    rw [List.getElem_append_right (by omega)]
    simp [hA]
  rw [hkk]
  rw [List.length_append, List.length_cons] at hl
  rw [flat_cut h ks A k B (by omega)] at hs
  exact (srt_mid.1 hs).2.1
theorem srt_seps {h : Nat} {ks : List S29} {ts : List (BT h)} (hl : ts.length = ks.length + 1) (hs : Srt (flat (h + 1) (ks, ts))) : Sorted ks :=
  srt_keys (b := false) (List.Pairwise.sublist (keys_sub ks (ts.map (flat h)) (by rw [List.length_map]; exact hl)) hs)
theorem fit_of : ∀ (h n : Nat) (t : BT h) (e : S29), Shape h n t → Srt (flat h t) → Fit e h t
  | 0, n, t, e, hs, hr => ⟨hs.2, (srt_keys hr).mono e⟩
  | h + 1, n, t, e, hs, hr => by
    obtain ⟨h1, h2, h3, h4⟩ := hs
    exact ⟨h2, (srt_seps h3 hr).mono e, h3, fun k hk => fit_of h 2 k e (h4 k hk) (srt_kid h3 hr k hk)⟩
theorem cutfit_of : ∀ (h n : Nat) (t : BT h) (e : S29), Shape h n t → (h = 0 ∨ 1 ≤ n) → Srt (flat h t) → CutFit e h t
  | 0, n, t, e, hs, _, hr => ⟨by have := hs.2; omega, (srt_keys hr).mono e⟩
  | h + 1, n, t, e, hs, hn, hr => by
    obtain ⟨h1, h2, h3, h4⟩ := hs
    exact ⟨by omega, by omega, (srt_seps h3 hr).mono e, h3, fun k hk => ⟨cutfit_of h 2 k e (h4 k hk) (.inr (by decide)) (srt_kid h3 hr k hk), (h4 k hk).ge⟩⟩
theorem at_kid {h : Nat} {ks : List S29} {ts : List (BT h)} (e : S29) (hl : ts.length = ks.length + 1) (hs : Srt (flat (h + 1) (ks, ts))) :
    ∃ A k B, ts = A ++ k :: B ∧ A.length = kidIx ks e ∧ A.length + B.length = ks.length ∧ (∀ x ∈ lpre (ks.take A.length) (A.map (flat h)), ltI x (e, true)) ∧ (∀ y ∈ lpost (ks.drop A.length) (B.map (flat h)), ltI (e, true) y) := by
  have hi := kidIx_le ks e
  obtain ⟨A, k, B, rfl, hA⟩ := cut_at ts (kidIx ks e) (by omega)
  rw [List.length_append, List.length_cons] at hl
  obtain ⟨p1, p2⟩ := kid_parts ks e (srt_seps (by rw [List.length_append, List.length_cons]; omega) hs)
  rw [flat_cut h ks A k B (by omega)] at hs
  obtain ⟨h1, h2, h3, h4, h5, h6⟩ := srt_mid.1 hs
  refine ⟨A, k, B, rfl, hA, by omega, pre_lt _ _ (by rw [List.length_map, List.length_take]; omega) h1 (by rw [hA]; exact p1), post_gt _ _ h3 (by rw [hA]; exact p2)⟩
theorem del_sep {X Y : List It} {z : S29} (hs : Srt (X ++ (z, false) :: Y)) : Sam (X ++ (z, false) :: Y) (X ++ Y) := by
  have hsub : (X ++ Y).Sublist (X ++ (z, false) :: Y) := List.Sublist.append_left (List.sublist_cons_self _ _) X
  refine ⟨List.Pairwise.sublist hsub hs, fun x hx y hy => hx y (hsub.subset hy), fun x hx y hy => hx y (hsub.subset hy), fun u => ?_⟩
  simp
theorem ins_sep {X Y : List It} {c : S29} (hX : X ≠ []) (ht : ∀ x ∈ X, x.2 = true) (hs : Srt (X ++ (c, true) :: Y)) : Sam (X ++ (c, true) :: Y) (X ++ (c, false) :: (c, true) :: Y) := by
  obtain ⟨h1, h2, h3⟩ := List.pairwise_append.1 hs
  obtain ⟨h4, h5⟩ := List.pairwise_cons.1 h2
  have hXc : ∀ x ∈ X, ltI x (c, false) := fun x hx => by
    rcases h3 x hx (c, true) (by simp) with h | ⟨_, h6, _⟩
    · exact .inl h
    · rw [ht x hx] at h6
      cases h6
  have hcc : ltI (c, false) (c, true) := .inr ⟨rfl, rfl, rfl⟩
  refine ⟨?_, fun x hx y hy => ?_, fun x hx y hy => ?_, fun u => ?_⟩
  · refine List.pairwise_append.2 ⟨h1, List.pairwise_cons.2 ⟨fun y hy => ?_, h2⟩, fun x hx y hy => ?_⟩
    · rcases List.mem_cons.1 hy with rfl | hy
      · exact hcc
      · exact ltI_trans hcc (h4 y hy)
    · rcases List.mem_cons.1 hy with rfl | hy
      · exact hXc x hx
      · exact h3 x hx y hy
  · rcases List.mem_append.1 hy with hy | hy
    · exact hx y (List.mem_append_left _ hy)
    · rcases List.mem_cons.1 hy with rfl | hy
      · obtain ⟨x0, hx0⟩ := List.exists_mem_of_ne_nil X hX
        exact ltI_trans (hx x0 (List.mem_append_left _ hx0)) (hXc x0 hx0)
      · exact hx y (List.mem_append_right _ hy)
  · rcases List.mem_append.1 hy with hy | hy
    · exact hx y (List.mem_append_left _ hy)
    · rcases List.mem_cons.1 hy with rfl | hy
      · exact ltI_trans hcc (hx (c, true) (by simp))
      · exact hx y (List.mem_append_right _ hy)
  · simp
theorem il_cons (k : S29) (ks : List S29) (f g : List It) (fs : List (List It)) : il (k :: ks) (f :: g :: fs) = f ++ (k, false) :: il ks (g :: fs) := by
  show f ++ lpost (k :: ks) (g :: fs) = _
  rw [lpost_cons]
  rfl
theorem il_app : ∀ (k1 : List S29) (z : S29) (k2 : List S29) (f1 f2 : List (List It)), f1.length = k1.length + 1 → f2 ≠ [] → il (k1 ++ z :: k2) (f1 ++ f2) = il k1 f1 ++ (z, false) :: il k2 f2
  | [], z, k2, [f], g :: f2, _, _ => by
    show il (z :: k2) (f :: g :: f2) = _
    rw [il_cons]
    simp [il, lpost]
  | k :: k1, z, k2, f :: g :: f1, f2, h, h2 => by
    have ih := il_app k1 z k2 (g :: f1) f2 (by simpa using h) h2
    show il (k :: (k1 ++ z :: k2)) (f :: g :: (f1 ++ f2)) = _
    rw [il_cons, il_cons]
    have ih' : il (k1 ++ z :: k2) (g :: (f1 ++ f2)) = il k1 (g :: f1) ++ (z, false) :: il k2 f2 := ih
    rw [ih']
    simp
  | [], z, k2, f1, [], _, h2 => absurd rfl h2
  | [], z, k2, [], f2, h, _ => by simp at h
  | [], z, k2, f :: g :: f1, f2, h, _ => by simp at h
  | k :: k1, z, k2, [], f2, h, _ => by simp at h
  | k :: k1, z, k2, [f], f2, h, _ => by simp at h
theorem flat_app (h : Nat) (k1 : List S29) (z : S29) (k2 : List S29) (t1 t2 : List (BT h)) (h1 : t1.length = k1.length + 1) (h2 : t2 ≠ []) : flat (h + 1) (k1 ++ z :: k2, t1 ++ t2) = flat (h + 1) (k1, t1) ++ (z, false) :: flat (h + 1) (k2, t2) := by
  show il (k1 ++ z :: k2) ((t1 ++ t2).map (flat h)) = il k1 (t1.map (flat h)) ++ (z, false) :: il k2 (t2.map (flat h))
  rw [List.map_append, il_app k1 z k2 _ _ (by rw [List.length_map]; exact h1) (by simpa using h2)]
def ents (l : List S29) : List It := l.map (fun x : S29 => ((x, true) : It))
theorem ents_app (a b : List S29) : ents (a ++ b) = ents a ++ ents b := by simp [ents]
theorem ents_true {l : List S29} : ∀ x ∈ ents l, x.2 = true := by
  intro x hx
  obtain ⟨y, _, rfl⟩ := List.mem_map.1 hx
  rfl
theorem split_sam : ∀ (h : Nat) (t : BT h), blen h t = 5 → (h = 0 ∨ bkids h t = 6) → Srt (flat h t) → Sam (flat h t) (flat h (bsplit h t).2.1 ++ ((bsplit h t).1, false) :: flat h (bsplit h t).2.2)
  | 0, t, h5, _, hs => by
    have h5 : List.length (α := S29) t = 5 := h5
    obtain ⟨a, b, c, r, ht⟩ : ∃ a b c r, t = (a :: b :: c :: r : List S29) := by
      match t, h5 with
      | a :: b :: c :: r, _ => exact ⟨a, b, c, r, rfl⟩
    subst ht
    exact ins_sep (X := [(a, true), (b, true)]) (Y := ents r) (by simp) (by simp) hs
  | h + 1, t, h5, h6, hs => by
    obtain ⟨ks, ts⟩ := t
    have h5 : ks.length = 5 := h5
    have h6 : ts.length = 6 := h6.resolve_left (by omega)
    have e1 : ks = ks.take 2 ++ ks.getD 2 z29 :: ks.drop 3 := by
      have h2 : 2 < ks.length := by omega
      conv => lhs; rw [← List.take_append_drop 2 ks, List.drop_eq_getElem_cons h2]
      rw [List.getD_eq_getElem?_getD, List.getElem?_eq_getElem h2]
      rfl
    have e2 : ts = ts.take 3 ++ ts.drop 3 := (List.take_append_drop 3 ts).symm
    have hf : flat (h + 1) (ks, ts) = flat (h + 1) (ks.take 2, ts.take 3) ++ (ks.getD 2 z29, false) :: flat (h + 1) (ks.drop 3, ts.drop 3) := by
      conv => lhs; rw [e1, e2]
      exact flat_app h _ _ _ _ _ (by rw [List.length_take, List.length_take]; omega) (by intro e; have := congrArg List.length e; rw [List.length_drop] at this; simp at this; omega)
    show Sam (flat (h + 1) (ks, ts)) (flat (h + 1) (ks.take 2, ts.take 3) ++ (ks.getD 2 z29, false) :: flat (h + 1) (ks.drop 3, ts.drop 3))
    rw [← hf]
    exact Sam.refl hs
theorem leaf_ins (ks : List S29) (e : S29) (hs : Sorted ks) : Insd e (ents ks) (ents (if found ks e = true then ks else insAt ks (low ks e) e)) ∧ (found ks e = true ↔ e ∈ ks) := by
  have hfm := found_mem ks e hs
  refine ⟨?_, hfm⟩
  by_cases hf : found ks e = true
  · rw [if_pos hf]
    exact ⟨srt_of_keys hs, fun x hx _ => hx, fun x hx _ => hx, fun z => ⟨.inr, fun hz => hz.elim (fun hz => by rw [hz]; exact List.mem_map_of_mem (hfm.1 hf)) id⟩⟩
  · rw [if_neg hf]
    have hs2 : Sorted (insAt ks (low ks e) e) := ins_sorted ks e hs (by simpa using hf)
    have hm : ∀ y, y ∈ ents (insAt ks (low ks e) e) ↔ y = (e, true) ∨ y ∈ ents ks := fun y => by
      simp only [ents, List.mem_map, mem_insAt]
      constructor
      · rintro ⟨z, (rfl | hz), rfl⟩
        · exact .inl rfl
        · exact .inr ⟨z, hz, rfl⟩
      · rintro (rfl | ⟨z, hz, rfl⟩)
        · exact ⟨e, .inl rfl, rfl⟩
        · exact ⟨z, .inr hz, rfl⟩
    refine ⟨srt_of_keys hs2, fun x hx he y hy => ?_, fun x hx he y hy => ?_, fun z => ?_⟩
    · rcases (hm y).1 hy with rfl | hy
      · exact he
      · exact hx y hy
    · rcases (hm y).1 hy with rfl | hy
      · exact he
      · exact hx y hy
    · rw [hm]
      simp
theorem insAt_take {α : Type} (l : List α) (i : Nat) (x : α) (h : i ≤ l.length) : (insAt l i x).take i = l.take i := by
  unfold insAt
  rw [List.take_append_of_le_length (by rw [List.length_take]; omega), List.take_take, Nat.min_self]
theorem insAt_drop {α : Type} (l : List α) (i : Nat) (x : α) (h : i ≤ l.length) : (insAt l i x).drop (i + 1) = l.drop i := by
  unfold insAt
  have hl : (l.take i).length = i := by rw [List.length_take]; omega
  rw [List.drop_append, List.drop_eq_nil_iff.2 (by omega), hl]
  simp
theorem insAt_at {α : Type} (l : List α) (i : Nat) (x : α) (h : i ≤ l.length) : (insAt l i x)[i]? = some x := by
  unfold insAt
  have hl : (l.take i).length = i := by rw [List.length_take]; omega
  rw [List.getElem?_append_right (by omega), hl]
  simp
structure InsGood (h n : Nat) (t : BT h) (e : S29) : Prop where
  ge : n ≤ blen h (ins h t e).1
  le : blen h (ins h t e).1 ≤ 5
  kids : h = 0 ∨ bkids h (ins h t e).1 = blen h (ins h t e).1 + 1
  good : Insd e (flat h t) (flat h (ins h t e).1)
  fresh : (ins h t e).2 = true ↔ (e, true) ∉ flat h t
def KidsOk : (h : Nat) → BT h → Prop
  | 0, _ => True
  | h + 1, t => ∀ k ∈ t.2, Shape h 2 k
theorem shape_of {h n : Nat} {t : BT h} (h1 : n ≤ blen h t) (h2 : blen h t ≤ 4) (h3 : h = 0 ∨ bkids h t = blen h t + 1) (h4 : KidsOk h t) : Shape h n t := by
  cases h with
  | zero => exact ⟨h1, h2⟩
  | succ h => exact ⟨h1, h2, h3.resolve_left (by omega), h4⟩
theorem kidsOk_of {h n : Nat} {t : BT h} (hs : Shape h n t) : KidsOk h t := by
  cases h with
  | zero => trivial
  | succ h => exact hs.2.2.2
theorem five_parts (l : List S29) (h5 : l.length = 5) : (2 ≤ (l.take 2).length ∧ (l.take 2).length ≤ 4) ∧ (2 ≤ (l.drop 2).length ∧ (l.drop 2).length ≤ 4) := by
  rw [List.length_take, List.length_drop]
  omega
theorem leaf_len (l : List S29) (n : Nat) (e : S29) (h : n ≤ l.length) : n ≤ (if found l e = true then l else insAt l (low l e) e).length := by
  split
  · exact h
  · rw [insAt_len _ _ _ (low_le l e)]
    omega
theorem ents_mem (l : List S29) (e : S29) : (e, true) ∈ ents l ↔ e ∈ l := by simp [ents]
theorem leaf_fresh (l : List S29) (e : S29) (hs : Sorted l) : (!(found l e)) = true ↔ (e, true) ∉ ents l := by
  rw [ents_mem, ← found_mem l e hs]
  simp
theorem split_shape : ∀ (h : Nat) (t : BT h), blen h t = 5 → (h = 0 ∨ bkids h t = 6) → KidsOk h t → Shape h 2 (bsplit h t).2.1 ∧ Shape h 2 (bsplit h t).2.2
  | 0, t, h5, _, _ => five_parts t h5
  | h + 1, t, h5, h6, hk => by
    obtain ⟨ks, ts⟩ := t
    have h5 : ks.length = 5 := h5
    have h6 : ts.length = 6 := h6.resolve_left (by omega)
    have hk : ∀ k ∈ ts, Shape h 2 k := hk
    refine ⟨⟨?_, ?_, ?_, fun k hkk => hk k (List.mem_of_mem_take hkk)⟩, ⟨?_, ?_, ?_, fun k hkk => hk k (List.mem_of_mem_drop hkk)⟩⟩
    · show 2 ≤ (ks.take 2).length; rw [List.length_take]; omega
    · show (ks.take 2).length ≤ 4; rw [List.length_take]; omega
    · show (ts.take 3).length = (ks.take 2).length + 1; rw [List.length_take, List.length_take]; omega
    · show 2 ≤ (ks.drop 3).length; rw [List.length_drop]; omega
    · show (ks.drop 3).length ≤ 4; rw [List.length_drop]; omega
    · show (ts.drop 3).length = (ks.drop 3).length + 1; rw [List.length_drop, List.length_drop]; omega
theorem ins_good : ∀ (h n : Nat) (t : BT h) (e : S29), Shape h n t → Srt (flat h t) → InsGood h n t e ∧ KidsOk h (ins h t e).1
  | 0, n, t, e, hs, hr => by
    obtain ⟨q1, q2⟩ := leaf_ins t e (srt_keys hr)
    exact ⟨⟨leaf_len t n e hs.1, len0 t e hs.2, .inl rfl, q1, leaf_fresh t e (srt_keys hr)⟩, trivial⟩
  | h + 1, n, t, e, hs, hr => by
    obtain ⟨ks, ts⟩ := t
    obtain ⟨h1, h2, h3, h4⟩ := hs
    change n ≤ ks.length at h1
    change ks.length ≤ 4 at h2
    change ts.length = ks.length + 1 at h3
    change ∀ k ∈ ts, Shape h 2 k at h4
    obtain ⟨A, k, B, rfl, hA, hAB, hX, hY⟩ := at_kid e h3 hr
    have hrk := srt_kid h3 hr k (by simp)
    obtain ⟨ih, ihk⟩ := ins_good h 2 k e (h4 k (by simp)) hrk
    have hx : ins (h + 1) (ks, A ++ k :: B) e = _ := ins_at h ks A k B e hA
    have hfl : flat (h + 1) (ks, A ++ k :: B) = _ := flat_cut h ks A k B (by omega)
    have hr2 := hr
    rw [hfl] at hr2
    have hgood := Insd.ctx hr2 hX hY ih.good
    have hfresh : (ins h k e).2 = true ↔ (e, true) ∉ flat (h + 1) (ks, A ++ k :: B) := by
      rw [ih.fresh, hfl]
      simp only [List.mem_append, not_or]
      exact ⟨fun hh => ⟨fun h0 => ltI_irr _ (hX _ h0), hh, fun h0 => ltI_irr _ (hY _ h0)⟩, fun hh => hh.2.1⟩
    by_cases h5 : 4 < (bkeys h (ins h k e).1).length
    · rw [if_pos h5] at hx
      have hle := ih.le
      have h55 : blen h (ins h k e).1 = 5 := by unfold blen at hle ⊢; omega
      have h6 : h = 0 ∨ bkids h (ins h k e).1 = 6 := ih.kids.imp id (fun h7 => by rw [h7, h55])
      obtain ⟨s1, s2⟩ := split_shape h _ h55 h6 ihk
      have hsp := split_sam h _ h55 h6 ih.good.srt
      have hil : kidIx ks e ≤ ks.length := kidIx_le ks e
      have hf2 : flat (h + 1) (ins (h + 1) (ks, A ++ k :: B) e).1 = lpre (ks.take A.length) (A.map (flat h)) ++ ((flat h (bsplit h (ins h k e).1).2.1 ++ ((bsplit h (ins h k e).1).1, false) :: flat h (bsplit h (ins h k e).1).2.2) ++ lpost (ks.drop A.length) (B.map (flat h))) := by
        rw [hx]
        show flat (h + 1) (insAt ks (kidIx ks e) _, A ++ _ :: _ :: B) = _
        rw [flat_pair h _ A _ _ B (bsplit h (ins h k e).1).1 (by rw [hA, insAt_at _ _ _ hil]), hA, insAt_take _ _ _ hil, insAt_drop _ _ _ hil, List.append_assoc]
      refine ⟨⟨?_, ?_, .inr ?_, ?_, ?_⟩, ?_⟩
      · rw [hx]
        show n ≤ (insAt ks (kidIx ks e) _).length
        rw [insAt_len _ _ _ hil]; omega
      · rw [hx]
        show (insAt ks (kidIx ks e) _).length ≤ 5
        rw [insAt_len _ _ _ hil]; omega
      · rw [hx]
        show (A ++ _ :: _ :: B).length = (insAt ks (kidIx ks e) _).length + 1
        rw [insAt_len _ _ _ hil, List.length_append, List.length_cons, List.length_cons]; omega
      · rw [hf2, hfl]
        have hmid := hgood.srt
        exact hgood.then (Sam.ctx hmid hsp)
      · rw [hx]
        exact hfresh
      · rw [hx]
        intro k' hk'
        simp only [List.mem_append, List.mem_cons] at hk'
        rcases hk' with hk' | rfl | rfl | hk'
        · exact h4 k' (by simp [hk'])
        · exact s1
        · exact s2
        · exact h4 k' (by simp [hk'])
    · rw [if_neg h5] at hx
      have hf2 : flat (h + 1) (ins (h + 1) (ks, A ++ k :: B) e).1 = lpre (ks.take A.length) (A.map (flat h)) ++ (flat h (ins h k e).1 ++ lpost (ks.drop A.length) (B.map (flat h))) := by
        rw [hx]
        exact flat_cut h ks A _ B (by omega)
      refine ⟨⟨?_, ?_, .inr ?_, ?_, ?_⟩, ?_⟩
      · rw [hx]; exact h1
      · rw [hx]; exact (show ks.length ≤ 5 by omega)
      · rw [hx]
        show (A ++ _ :: B).length = ks.length + 1
        rw [List.length_append, List.length_cons]; omega
      · rw [hf2, hfl]
        exact hgood
      · rw [hx]
        exact hfresh
      · rw [hx]
        intro k' hk'
        simp only [List.mem_append, List.mem_cons] at hk'
        rcases hk' with hk' | rfl | hk'
        · exact h4 k' (by simp [hk'])
        · exact shape_of ih.ge (by unfold blen; omega) ih.kids ihk
        · exact h4 k' (by simp [hk'])
end Go.Proofs.Bt
end
section
namespace Go.Proofs.Bt
open Go Go.RowKit Go.Proofs.Ytjaddmflopahiaa.Q
set_option linter.unusedVariables false
set_option linter.unusedSimpArgs false
structure TInv (h : Nat) (t : BT h) : Prop where
  shape : Shape h (if h = 0 then 0 else 1) t
  srt : Srt (flat h t)
theorem leaf_same (l : List S29) (e : S29) (h : (!(found l e)) = false) : (if found l e = true then l else insAt l (low l e) e) = l := by
  have hf : found l e = true := by simpa using h
  rw [if_pos hf]
theorem ins_same : ∀ (h n : Nat) (t : BT h) (e : S29), Shape h n t → Srt (flat h t) → (ins h t e).2 = false → (ins h t e).1 = t
  | 0, n, t, e, hs, hr, hf => leaf_same t e hf
  | h + 1, n, t, e, hs, hr, hf => by
    obtain ⟨ks, ts⟩ := t
    obtain ⟨h1, h2, h3, h4⟩ := hs
    change ts.length = ks.length + 1 at h3
    change ∀ k ∈ ts, Shape h 2 k at h4
    obtain ⟨A, k, B, rfl, hA, hAB, hX, hY⟩ := at_kid e h3 hr
    have hx : ins (h + 1) (ks, A ++ k :: B) e = _ := ins_at h ks A k B e hA
    have hk : (ins h k e).2 = false := by
      rw [hx] at hf
      split at hf <;> exact hf
    have ih := ins_same h 2 k e (h4 k (by simp)) (srt_kid h3 hr k (by simp)) hk
    have hle := (h4 k (by simp)).le
    rw [hx, ih, if_neg (by unfold blen at hle; omega)]
theorem one_keys (h : Nat) (x : S29) (l r : BT h) : flat (h + 1) ([x], [l, r]) = flat h l ++ (x, false) :: flat h r := by
  show il [x] [flat h l, flat h r] = _
  rw [il_cons]
  simp [il, lpost]
theorem tins_good (h : Nat) (t : BT h) (e : S29) (hi : TInv h t) : TInv (tins h t e).1.1 (tins h t e).1.2 ∧ Insd e (flat h t) (flat (tins h t e).1.1 (tins h t e).1.2) ∧ ((tins h t e).2 = true ↔ (e, true) ∉ flat h t) := by
  obtain ⟨g, gk⟩ := ins_good h _ t e hi.shape hi.srt
  by_cases hc : (ins h t e).2 = true ∧ 4 < (bkeys h (ins h t e).1).length
  · have ht : tins h t e = (⟨h + 1, ([(bsplit h (ins h t e).1).1], [(bsplit h (ins h t e).1).2.1, (bsplit h (ins h t e).1).2.2])⟩, (ins h t e).2) := by
      unfold tins
      rw [if_pos hc]
    have hle := g.le
    have h55 : blen h (ins h t e).1 = 5 := by have := hc.2; unfold blen at hle ⊢; omega
    have h6 : h = 0 ∨ bkids h (ins h t e).1 = 6 := g.kids.imp id (fun h7 => by rw [h7, h55])
    obtain ⟨s1, s2⟩ := split_shape h _ h55 h6 gk
    have hsp := split_sam h _ h55 h6 g.good.srt
    have hfl := one_keys h (bsplit h (ins h t e).1).1 (bsplit h (ins h t e).1).2.1 (bsplit h (ins h t e).1).2.2
    rw [ht]
    refine ⟨⟨⟨?_, ?_, rfl, ?_⟩, ?_⟩, ?_, g.fresh⟩
    · simp
    · simp
    · intro k hk
      simp at hk
      rcases hk with rfl | rfl
      · exact s1
      · exact s2
    · rw [hfl]
      exact hsp.srt
    · rw [hfl]
      exact g.good.then hsp
  · have ht : tins h t e = (⟨h, (ins h t e).1⟩, (ins h t e).2) := by
      unfold tins
      rw [if_neg hc]
    rw [ht]
    refine ⟨⟨shape_of g.ge ?_ g.kids gk, g.good.srt⟩, g.good, g.fresh⟩
    cases hf : (ins h t e).2 with
    | true =>
      have : ¬ 4 < (bkeys h (ins h t e).1).length := fun h4 => hc ⟨hf, h4⟩
      show (bkeys h (ins h t e).1).length ≤ 4
      omega
    | false =>
      rw [ins_same h _ t e hi.shape hi.srt hf]
      exact hi.shape.le
theorem leaf_del (l : List S29) (e : S29) (hs : Sorted l) : Deld e (ents l) (ents (if found l e = true then delAt l (low l e) else l)) := by
  have hfm := found_mem l e hs
  by_cases hf : found l e = true
  · rw [if_pos hf]
    have hl := found_lt hf
    have he : l[low l e] = e := by
      unfold found at hf
      rw [dif_pos hl, decide_eq_true_eq, ord_zero] at hf
      exact hf
    have hsub : (delAt l (low l e)).Sublist l := by
      unfold delAt
      conv => rhs; rw [← List.take_append_drop (low l e) l]
      exact List.Sublist.append_left (List.drop_sublist_drop_left l (Nat.le_succ _)) _
    have hmem : ∀ z, z ∈ delAt l (low l e) ↔ z ≠ e ∧ z ∈ l := fun z => by
      have hl2 : l = l.take (low l e) ++ e :: l.drop (low l e + 1) := by
        conv => lhs; rw [← List.take_append_drop (low l e) l, List.drop_eq_getElem_cons hl, he]
      have hp : (l.take (low l e) ++ e :: l.drop (low l e + 1)).Pairwise ltE := by rw [← hl2]; exact hs
      obtain ⟨p1, p2, p3⟩ := List.pairwise_append.1 hp
      obtain ⟨p4, p5⟩ := List.pairwise_cons.1 p2
      constructor
      · intro hz
        refine ⟨fun e0 => ?_, hsub.subset hz⟩
        subst e0
        unfold delAt at hz
        rcases List.mem_append.1 hz with hz | hz
        · exact ltE_irr _ (p3 z hz z (by simp))
        · exact ltE_irr _ (p4 z hz)
      · rintro ⟨h0, hz⟩
        rw [hl2] at hz
        unfold delAt
        rcases List.mem_append.1 hz with hz | hz
        · exact List.mem_append_left _ hz
        · rcases List.mem_cons.1 hz with hz | hz
          · exact absurd hz h0
          · exact List.mem_append_right _ hz
    have hsubE : ∀ y, y ∈ ents (delAt l (low l e)) → y ∈ ents l := fun y hy => by
      obtain ⟨z, hz, rfl⟩ := List.mem_map.1 hy
      exact List.mem_map_of_mem (hsub.subset hz)
    refine ⟨srt_of_keys (hs.sublist hsub), fun x hx y hy => hx y (hsubE y hy), fun x hx y hy => hx y (hsubE y hy), fun z => ?_⟩
    rw [ents_mem, ents_mem]
    exact hmem z
  · rw [if_neg hf]
    refine ⟨srt_of_keys hs, fun x hx => hx, fun x hx => hx, fun z => ?_⟩
    rw [ents_mem]
    exact ⟨fun hz => ⟨fun e0 => hf (hfm.2 (e0 ▸ hz)), hz⟩, fun hz => hz.2⟩
theorem getLast_ne {α : Type} {l : List α} (h : 0 < l.length) : l ≠ [] := by rintro rfl; simp at h
theorem snoc_cases {α : Type} (l : List α) (h : 0 < l.length) : ∃ l' x, l = l' ++ [x] := ⟨l.dropLast, l.getLast (getLast_ne h), (List.dropLast_concat_getLast (getLast_ne h)).symm⟩
theorem cons_cases' {α : Type} (l : List α) (h : 0 < l.length) : ∃ x l', l = x :: l' := by
  match l, h with
  | x :: l', _ => exact ⟨x, l', rfl⟩
theorem bleft_leaf_sam (a b : List S29) (z : S29) (ha : 2 < a.length) (hs : Srt (ents a ++ (z, false) :: ents b)) : Sam (ents a ++ (z, false) :: ents b) (ents a.dropLast ++ (a.getLastD z29, false) :: ents (a.getLastD z29 :: b)) := by
  obtain ⟨a', x, rfl⟩ := snoc_cases a (by omega)
  have e1 : (a' ++ [x]).dropLast = a' := by simp
  have e2 : (a' ++ [x]).getLastD z29 = x := by simp
  rw [e1, e2]
  have h1 := del_sep hs
  have hx : ents (a' ++ [x]) ++ ents b = ents a' ++ (x, true) :: ents b := by simp [ents]
  rw [hx] at h1
  have h2 := ins_sep (X := ents a') (c := x) (Y := ents b) (by
    have : 0 < a'.length := by rw [List.length_append] at ha; simp at ha; omega
    intro e
    rw [ents, List.map_eq_nil_iff] at e
    rw [e] at this
    simp at this) ents_true h1.srt
  exact ⟨h2.srt, fun u hu => h2.lo u (h1.lo u hu), fun u hu => h2.hi u (h1.hi u hu), fun u => (h2.mem u).trans (h1.mem u)⟩
theorem bright_leaf_sam (a b : List S29) (z : S29) (hb : 2 < b.length) (hs : Srt (ents a ++ (z, false) :: ents b)) : Sam (ents a ++ (z, false) :: ents b) (ents (a ++ [b.getD 0 z29]) ++ (b.getD 1 z29, false) :: ents b.tail) := by
  obtain ⟨x, b1, rfl⟩ := cons_cases' b (by omega)
  obtain ⟨y, b2, rfl⟩ := cons_cases' b1 (by rw [List.length_cons] at hb; omega)
  show Sam _ (ents (a ++ [x]) ++ (y, false) :: ents (y :: b2))
  have h1 := del_sep hs
  have hx : ents a ++ ents (x :: y :: b2) = ents (a ++ [x]) ++ (y, true) :: ents b2 := by simp [ents]
  rw [hx] at h1
  have h2 := ins_sep (X := ents (a ++ [x])) (c := y) (Y := ents b2) (by simp [ents]) ents_true h1.srt
  exact ⟨h2.srt, fun u hu => h2.lo u (h1.lo u hu), fun u hu => h2.hi u (h1.hi u hu), fun u => (h2.mem u).trans (h1.mem u)⟩
theorem bleft_sam : ∀ (h : Nat) (a b : BT h) (z : S29), 2 < blen h a → (h = 0 ∨ bkids h a = blen h a + 1) → (h = 0 ∨ bkids h b = blen h b + 1) → Srt (flat h a ++ (z, false) :: flat h b) →
    Sam (flat h a ++ (z, false) :: flat h b) (flat h (bleft h a b z).2.1 ++ ((bleft h a b z).1, false) :: flat h (bleft h a b z).2.2)
  | 0, a, b, z, ha, _, _, hs => bleft_leaf_sam a b z ha hs
  | h + 1, a, b, z, ha, ha2, hb2, hs => by
    obtain ⟨ka, la⟩ := a
    obtain ⟨kb, lb⟩ := b
    have ha : 2 < ka.length := ha
    have ha2 : la.length = ka.length + 1 := ha2.resolve_left (by omega)
    have hb2 : lb.length = kb.length + 1 := hb2.resolve_left (by omega)
    obtain ⟨ka, x, rfl⟩ := snoc_cases ka (by omega)
    obtain ⟨la, q, rfl⟩ := snoc_cases la (by omega)
    rw [List.length_append, List.length_append] at ha2
    simp at ha2
    have hlb : lb ≠ [] := getLast_ne (by omega)
    have e1 : (bleft (h + 1) (ka ++ [x], la ++ [q]) (kb, lb) z) = (x, (ka, la), (z :: kb, q :: lb)) := by
      show (List.getLastD (ka ++ [x]) z29, (List.dropLast (ka ++ [x]), List.dropLast (la ++ [q])), (z :: kb, (la ++ [q]).getLast?.toList ++ lb)) = _
      simp
    rw [e1]
    have f1 : flat (h + 1) (ka ++ [x], la ++ [q]) = flat (h + 1) (ka, la) ++ (x, false) :: flat h q := by
      rw [flat_app h ka x [] la [q] (by omega) (by simp)]
      simp [flat, il, lpost]
    have f2 : flat (h + 1) (z :: kb, q :: lb) = flat h q ++ (z, false) :: flat (h + 1) (kb, lb) := by
      have := flat_app h [] z kb [q] lb rfl hlb
      rw [show ([] : List S29) ++ z :: kb = z :: kb from rfl, show [q] ++ lb = q :: lb from rfl] at this
      rw [this]
      simp [flat, il, lpost]
    show Sam (flat (h + 1) (ka ++ [x], la ++ [q]) ++ (z, false) :: flat (h + 1) (kb, lb)) (flat (h + 1) (ka, la) ++ (x, false) :: flat (h + 1) (z :: kb, q :: lb))
    have e : flat (h + 1) (ka ++ [x], la ++ [q]) ++ (z, false) :: flat (h + 1) (kb, lb) = flat (h + 1) (ka, la) ++ (x, false) :: flat (h + 1) (z :: kb, q :: lb) := by
      rw [f1, f2]
      simp
    rw [← e]
    exact Sam.refl hs
theorem bright_sam : ∀ (h : Nat) (a b : BT h) (z : S29), 2 < blen h b → (h = 0 ∨ bkids h a = blen h a + 1) → (h = 0 ∨ bkids h b = blen h b + 1) → Srt (flat h a ++ (z, false) :: flat h b) →
    Sam (flat h a ++ (z, false) :: flat h b) (flat h (bright h a b z).2.1 ++ ((bright h a b z).1, false) :: flat h (bright h a b z).2.2)
  | 0, a, b, z, hb, _, _, hs => bright_leaf_sam a b z hb hs
  | h + 1, a, b, z, hb, ha2, hb2, hs => by
    obtain ⟨ka, la⟩ := a
    obtain ⟨kb, lb⟩ := b
    have hb : 2 < kb.length := hb
    have ha2 : la.length = ka.length + 1 := ha2.resolve_left (by omega)
    have hb2 : lb.length = kb.length + 1 := hb2.resolve_left (by omega)
    obtain ⟨x, kb, rfl⟩ := cons_cases' kb (by omega)
    obtain ⟨q, lb, rfl⟩ := cons_cases' lb (by omega)
    rw [List.length_cons, List.length_cons] at hb2
    have hlb : lb ≠ [] := getLast_ne (by omega)
    have e1 : (bright (h + 1) (ka, la) (x :: kb, q :: lb) z) = (x, (ka ++ [z], la ++ [q]), (kb, lb)) := rfl
    rw [e1]
    have f1 : flat (h + 1) (ka ++ [z], la ++ [q]) = flat (h + 1) (ka, la) ++ (z, false) :: flat h q := by
      rw [flat_app h ka z [] la [q] (by omega) (by simp)]
      simp [flat, il, lpost]
    have f2 : flat (h + 1) (x :: kb, q :: lb) = flat h q ++ (x, false) :: flat (h + 1) (kb, lb) := by
      have := flat_app h [] x kb [q] lb rfl hlb
      rw [show ([] : List S29) ++ x :: kb = x :: kb from rfl, show [q] ++ lb = q :: lb from rfl] at this
      rw [this]
      simp [flat, il, lpost]
    show Sam (flat (h + 1) (ka, la) ++ (z, false) :: flat (h + 1) (x :: kb, q :: lb)) (flat (h + 1) (ka ++ [z], la ++ [q]) ++ (x, false) :: flat (h + 1) (kb, lb))
    have e : flat (h + 1) (ka, la) ++ (z, false) :: flat (h + 1) (x :: kb, q :: lb) = flat (h + 1) (ka ++ [z], la ++ [q]) ++ (x, false) :: flat (h + 1) (kb, lb) := by
      rw [f1, f2]
      simp
    rw [← e]
    exact Sam.refl hs
theorem bjoin_sam : ∀ (h : Nat) (a b : BT h) (z : S29), (h = 0 ∨ bkids h a = blen h a + 1) → (h = 0 ∨ bkids h b = blen h b + 1) → Srt (flat h a ++ (z, false) :: flat h b) →
    Sam (flat h a ++ (z, false) :: flat h b) (flat h (bjoin h a b z))
  | 0, a, b, z, _, _, hs => by
    have h1 := del_sep hs
    have : flat 0 (bjoin 0 a b z) = flat 0 a ++ flat 0 b := ents_app a b
    rw [this]
    exact h1
  | h + 1, a, b, z, ha2, hb2, hs => by
    obtain ⟨ka, la⟩ := a
    obtain ⟨kb, lb⟩ := b
    have ha2 : la.length = ka.length + 1 := ha2.resolve_left (by omega)
    have hb2 : lb.length = kb.length + 1 := hb2.resolve_left (by omega)
    have e : flat (h + 1) (bjoin (h + 1) (ka, la) (kb, lb) z) = flat (h + 1) (ka, la) ++ (z, false) :: flat (h + 1) (kb, lb) := by
      show flat (h + 1) (ka ++ [z] ++ kb, la ++ lb) = _
      rw [show ka ++ [z] ++ kb = ka ++ z :: kb by simp]
      exact flat_app h ka z kb la lb ha2 (getLast_ne (by omega))
    rw [e]
    exact Sam.refl hs
end Go.Proofs.Bt
end
section
namespace Go.Proofs.Bt
open Go Go.RowKit Go.Proofs.Ytjaddmflopahiaa.Q
set_option linter.unusedVariables false
set_option linter.unusedSimpArgs false
theorem bleft_len (a b : List S29) (ha : 2 < a.length) (ha4 : a.length ≤ 4) (hb : b.length = 1) : (2 ≤ a.dropLast.length ∧ a.dropLast.length ≤ 4) ∧ (2 ≤ (a.getLastD z29 :: b).length ∧ (a.getLastD z29 :: b).length ≤ 4) := by
  rw [List.length_dropLast, List.length_cons]
  omega
theorem bright_len (a b : List S29) (ha : a.length = 1) (hb : 2 < b.length) (hb4 : b.length ≤ 4) : (2 ≤ (a ++ [b.getD 0 z29]).length ∧ (a ++ [b.getD 0 z29]).length ≤ 4) ∧ (2 ≤ b.tail.length ∧ b.tail.length ≤ 4) := by
  rw [List.length_tail, List.length_append, List.length_singleton]
  omega
theorem bleft_shape : ∀ (h : Nat) (a b : BT h) (z : S29), 2 < blen h a → blen h a ≤ 4 → (h = 0 ∨ bkids h a = blen h a + 1) → KidsOk h a → blen h b = 1 → (h = 0 ∨ bkids h b = blen h b + 1) → KidsOk h b → Shape h 2 (bleft h a b z).2.1 ∧ Shape h 2 (bleft h a b z).2.2
  | 0, a, b, z, h1, h2, _, _, h3, _, _ => bleft_len a b h1 h2 h3
  | h + 1, a, b, z, h1, h2, h3, h4, h5, h6, h7 => by
    obtain ⟨ka, la⟩ := a
    obtain ⟨kb, lb⟩ := b
    have h1 : 2 < ka.length := h1
    have h2 : ka.length ≤ 4 := h2
    have h3 : la.length = ka.length + 1 := h3.resolve_left (by omega)
    have h4 : ∀ k ∈ la, Shape h 2 k := h4
    have h5 : kb.length = 1 := h5
    have h6 : lb.length = kb.length + 1 := h6.resolve_left (by omega)
    have h7 : ∀ k ∈ lb, Shape h 2 k := h7
    obtain ⟨la, q, rfl⟩ := snoc_cases la (by omega)
    have e1 : (bleft (h + 1) (ka, la ++ [q]) (kb, lb) z) = (ka.getLastD z29, (ka.dropLast, la), (z :: kb, q :: lb)) := by
      show (ka.getLastD z29, (ka.dropLast, List.dropLast (la ++ [q])), (z :: kb, (la ++ [q]).getLast?.toList ++ lb)) = _
      simp
    rw [e1]
    rw [List.length_append, List.length_singleton] at h3
    refine ⟨⟨?_, ?_, ?_, fun k hk => h4 k (List.mem_append_left _ hk)⟩, ⟨?_, ?_, ?_, fun k hk => ?_⟩⟩
    · show 2 ≤ ka.dropLast.length; rw [List.length_dropLast]; omega
    · show ka.dropLast.length ≤ 4; rw [List.length_dropLast]; omega
    · show la.length = ka.dropLast.length + 1; rw [List.length_dropLast]; omega
    · show 2 ≤ (z :: kb).length; rw [List.length_cons]; omega
    · show (z :: kb).length ≤ 4; rw [List.length_cons]; omega
    · show (q :: lb).length = (z :: kb).length + 1; rw [List.length_cons, List.length_cons]; omega
    · rcases List.mem_cons.1 hk with rfl | hk
      · exact h4 _ (by simp)
      · exact h7 k hk
theorem bright_shape : ∀ (h : Nat) (a b : BT h) (z : S29), blen h a = 1 → (h = 0 ∨ bkids h a = blen h a + 1) → KidsOk h a → 2 < blen h b → blen h b ≤ 4 → (h = 0 ∨ bkids h b = blen h b + 1) → KidsOk h b → Shape h 2 (bright h a b z).2.1 ∧ Shape h 2 (bright h a b z).2.2
  | 0, a, b, z, h1, _, _, h2, h3, _, _ => bright_len a b h1 h2 h3
  | h + 1, a, b, z, h5, h6, h7, h1, h2, h3, h4 => by
    obtain ⟨ka, la⟩ := a
    obtain ⟨kb, lb⟩ := b
    have h1 : 2 < kb.length := h1
    have h2 : kb.length ≤ 4 := h2
    have h3 : lb.length = kb.length + 1 := h3.resolve_left (by omega)
    have h4 : ∀ k ∈ lb, Shape h 2 k := h4
    have h5 : ka.length = 1 := h5
    have h6 : la.length = ka.length + 1 := h6.resolve_left (by omega)
    have h7 : ∀ k ∈ la, Shape h 2 k := h7
    obtain ⟨q, lb, rfl⟩ := cons_cases' lb (by omega)
    have e1 : (bright (h + 1) (ka, la) (kb, q :: lb) z) = (kb.getD 0 z29, (ka ++ [z], la ++ [q]), (kb.tail, lb)) := rfl
    rw [e1]
    rw [List.length_cons] at h3
    refine ⟨⟨?_, ?_, ?_, fun k hk => ?_⟩, ⟨?_, ?_, ?_, fun k hk => h4 k (List.mem_cons_of_mem _ hk)⟩⟩
    · show 2 ≤ (ka ++ [z]).length; rw [List.length_append, List.length_singleton]; omega
    · show (ka ++ [z]).length ≤ 4; rw [List.length_append, List.length_singleton]; omega
    · show (la ++ [q]).length = (ka ++ [z]).length + 1; rw [List.length_append, List.length_append, List.length_singleton, List.length_singleton]; omega
    · rcases List.mem_append.1 hk with hk | hk
      · exact h7 k hk
      · simp at hk
        subst hk
        exact h4 _ (by simp)
    · show 2 ≤ kb.tail.length; rw [List.length_tail]; omega
    · show kb.tail.length ≤ 4; rw [List.length_tail]; omega
    · show lb.length = kb.tail.length + 1; rw [List.length_tail]; omega
theorem bjoin_shape : ∀ (h : Nat) (a b : BT h) (z : S29), blen h a + blen h b = 3 → (h = 0 ∨ bkids h a = blen h a + 1) → KidsOk h a → (h = 0 ∨ bkids h b = blen h b + 1) → KidsOk h b → Shape h 2 (bjoin h a b z)
  | 0, a, b, z, h1, _, _, _, _ => by
    have h1 : List.length (α := S29) a + List.length (α := S29) b = 3 := h1
    have e : blen 0 (bjoin 0 a b z) = List.length (α := S29) a + List.length (α := S29) b := List.length_append
    exact ⟨by show 2 ≤ blen 0 (bjoin 0 a b z); rw [e]; omega, by show blen 0 (bjoin 0 a b z) ≤ 4; rw [e]; omega⟩
  | h + 1, a, b, z, h1, h2, h3, h4, h5 => by
    obtain ⟨ka, la⟩ := a
    obtain ⟨kb, lb⟩ := b
    have h1 : ka.length + kb.length = 3 := h1
    have h2 : la.length = ka.length + 1 := h2.resolve_left (by omega)
    have h3 : ∀ k ∈ la, Shape h 2 k := h3
    have h4 : lb.length = kb.length + 1 := h4.resolve_left (by omega)
    have h5 : ∀ k ∈ lb, Shape h 2 k := h5
    refine ⟨?_, ?_, ?_, fun k hk => (List.mem_append.1 hk).elim (h3 k) (h5 k)⟩
    · show 2 ≤ (ka ++ [z] ++ kb).length; simp; omega
    · show (ka ++ [z] ++ kb).length ≤ 4; simp; omega
    · show (la ++ lb).length = (ka ++ [z] ++ kb).length + 1; simp; omega
theorem delAt_take {α : Type} (l : List α) (i : Nat) (h : i ≤ l.length) : (delAt l i).take i = l.take i := by
  unfold delAt
  rw [List.take_append_of_le_length (by rw [List.length_take]; omega), List.take_take, Nat.min_self]
theorem delAt_drop {α : Type} (l : List α) (i : Nat) (h : i ≤ l.length) : (delAt l i).drop i = l.drop (i + 1) := by
  unfold delAt
  have hl : (l.take i).length = i := by rw [List.length_take]; omega
  rw [List.drop_append, List.drop_eq_nil_iff.2 (by omega), hl]
  simp
theorem set_at {α : Type} (l : List α) (i : Nat) (x : α) (h : i < l.length) : (l.set i x)[i]? = some x := by
  rw [List.getElem?_set_self h]
theorem set_take {α : Type} (l : List α) (i : Nat) (x : α) : (l.set i x).take i = l.take i := by
  rw [List.take_set_of_le (Nat.le_refl i)]
theorem set_drop {α : Type} (l : List α) (i : Nat) (x : α) : (l.set i x).drop (i + 1) = l.drop (i + 1) := by
  rw [List.drop_set_of_lt (Nat.lt_succ_self i)]
theorem getD_some {ks : List S29} {i : Nat} (hi : i < ks.length) : ks[i]? = some (ks.getD i z29) := by
  rw [List.getD_eq_getElem?_getD, List.getElem?_eq_getElem hi]
  rfl
theorem pair_moved {h : Nat} {ks : List S29} {X : List (BT h)} {l c : BT h} {Y : List (BT h)} {r : S29} {l' c' : BT h} (hi : X.length < ks.length) (hs : Srt (flat (h + 1) (ks, X ++ l :: c :: Y)))
    (k : Srt (flat h l ++ (ks.getD X.length z29, false) :: flat h c) → Sam (flat h l ++ (ks.getD X.length z29, false) :: flat h c) (flat h l' ++ (r, false) :: flat h c')) :
    Sam (flat (h + 1) (ks, X ++ l :: c :: Y)) (flat (h + 1) (ks.set X.length r, X ++ l' :: c' :: Y)) := by
  have e1 := (flat_pair h ks X l c Y _ (getD_some hi)).trans (List.append_assoc _ _ _)
  have e2 := flat_pair h (ks.set X.length r) X l' c' Y r (set_at _ _ _ hi)
  rw [set_take, set_drop] at e2
  have e2 := e2.trans (List.append_assoc _ _ _)
  rw [e1] at hs
  rw [e1, e2]
  exact Sam.ctx hs (k (srt_mid.1 hs).2.1)
theorem pair_joined {h : Nat} {ks : List S29} {X : List (BT h)} {l c : BT h} {Y : List (BT h)} {j : BT h} (hi : X.length < ks.length) (hs : Srt (flat (h + 1) (ks, X ++ l :: c :: Y)))
    (k : Srt (flat h l ++ (ks.getD X.length z29, false) :: flat h c) → Sam (flat h l ++ (ks.getD X.length z29, false) :: flat h c) (flat h j)) :
    Sam (flat (h + 1) (ks, X ++ l :: c :: Y)) (flat (h + 1) (delAt ks X.length, X ++ j :: Y)) := by
  have e1 := (flat_pair h ks X l c Y _ (getD_some hi)).trans (List.append_assoc _ _ _)
  have e2 := flat_cut h (delAt ks X.length) X j Y (by rw [delAt_len _ _ hi]; omega)
  rw [delAt_take _ _ (by omega), delAt_drop _ _ (by omega)] at e2
  rw [e1] at hs
  rw [e1, e2]
  exact Sam.ctx hs (k (srt_mid.1 hs).2.1)
theorem Shape.kids {h n : Nat} {t : BT h} (hs : Shape h n t) : h = 0 ∨ bkids h t = blen h t + 1 := by
  cases h with
  | zero => exact .inl rfl
  | succ h => exact .inr hs.2.2.1
theorem bmend_good (h : Nat) (ks : List S29) (A : List (BT h)) (c : BT h) (B : List (BT h)) (hl : A.length + B.length = ks.length) (h1 : 1 ≤ ks.length) (hA : ∀ k ∈ A, Shape h 2 k) (hB : ∀ k ∈ B, Shape h 2 k) (hc1 : 1 ≤ blen h c) (hc4 : blen h c ≤ 4) (hck : h = 0 ∨ bkids h c = blen h c + 1) (hcc : KidsOk h c)
    (hs : Srt (flat (h + 1) (ks, A ++ c :: B))) : Sam (flat (h + 1) (ks, A ++ c :: B)) (flat (h + 1) (bmend h ks A c B)) ∧ ∀ k ∈ (bmend h ks A c B).2, Shape h 2 k := by
  unfold bmend
  by_cases hc : 2 ≤ blen h c
  · rw [if_pos hc]
    refine ⟨Sam.refl hs, fun k hk => ?_⟩
    simp only [List.mem_append, List.mem_cons] at hk
    rcases hk with hk | rfl | hk
    · exact hA k hk
    · exact shape_of hc hc4 hck hcc
    · exact hB k hk
  · rw [if_neg hc]
    have hce : blen h c = 1 := by omega
    rcases List.eq_nil_or_concat A with rfl | ⟨X, l, hAl⟩
    · simp only [List.getLast?_nil]
      obtain ⟨r, B', rfl⟩ := cons_cases' B (by simp at hl; omega)
      have hsr := hB r (by simp)
      have hB' : ∀ k ∈ B', Shape h 2 k := fun k hk => hB k (by simp [hk])
      by_cases hr : 2 < blen h r
      · simp only [if_pos hr]
        obtain ⟨s1, s2⟩ := bright_shape h c r (ks.getD 0 z29) hce hck hcc hr hsr.le hsr.kids (kidsOk_of hsr)
        refine ⟨pair_moved (X := []) (by simp; omega) hs (bright_sam h c r _ hr hck hsr.kids), fun k hk => ?_⟩
        simp only [List.mem_cons] at hk
        rcases hk with rfl | rfl | hk
        · exact s1
        · exact s2
        · exact hB' k hk
      · simp only [if_neg hr]
        have s1 := bjoin_shape h c r (ks.getD 0 z29) (by have := hsr.ge; omega) hck hcc hsr.kids (kidsOk_of hsr)
        refine ⟨pair_joined (X := []) (by simp; omega) hs (bjoin_sam h c r _ hck hsr.kids), fun k hk => ?_⟩
        simp only [List.mem_cons] at hk
        rcases hk with rfl | hk
        · exact s1
        · exact hB' k hk
    · have hAl : A = X ++ [l] := by simpa using hAl
      subst hAl
      have hgl : (X ++ [l]).getLast? = some l := by simp
      have hdl : (X ++ [l]).dropLast = X := by simp
      have hll : (X ++ [l]).length = X.length + 1 := by simp
      have hXl : X ++ [l] ++ c :: B = X ++ l :: c :: B := by simp
      have e0 : X.length + 1 - 1 = X.length := by omega
      have hsl := hA l (by simp)
      have hX : ∀ k ∈ X, Shape h 2 k := fun k hk => hA k (by simp [hk])
      simp only [hgl, hll, hdl, e0]
      rw [hll] at hl
      by_cases hl2 : 2 < blen h l
      · simp only [if_pos hl2]
        obtain ⟨s1, s2⟩ := bleft_shape h l c (ks.getD X.length z29) hl2 hsl.le hsl.kids (kidsOk_of hsl) hce hck hcc
        rw [hXl] at hs ⊢
        refine ⟨pair_moved (by omega) hs (bleft_sam h l c _ hl2 hsl.kids hck), fun k hk => ?_⟩
        simp only [List.mem_append, List.mem_cons] at hk
        rcases hk with hk | rfl | rfl | hk
        · exact hX k hk
        · exact s1
        · exact s2
        · exact hB k hk
      · simp only [if_neg hl2]
        have sj := bjoin_shape h l c (ks.getD X.length z29) (by have := hsl.ge; omega) hsl.kids (kidsOk_of hsl) hck hcc
        cases B with
        | nil =>
          simp only
          rw [hXl] at hs ⊢
          refine ⟨pair_joined (by omega) hs (bjoin_sam h l c _ hsl.kids hck), fun k hk => ?_⟩
          simp only [List.mem_append, List.mem_cons, List.not_mem_nil, or_false] at hk
          rcases hk with hk | rfl
          · exact hX k hk
          · exact sj
        | cons r B' =>
          rw [List.length_cons] at hl
          have hsr := hB r (by simp)
          have hB' : ∀ k ∈ B', Shape h 2 k := fun k hk => hB k (by simp [hk])
          by_cases hr : 2 < blen h r
          · simp only [if_pos hr]
            obtain ⟨s1, s2⟩ := bright_shape h c r (ks.getD (X.length + 1) z29) hce hck hcc hr hsr.le hsr.kids (kidsOk_of hsr)
            refine ⟨?_, fun k hk => ?_⟩
            · have hpm := pair_moved (X := X ++ [l]) (l := c) (c := r) (Y := B') (r := (bright h c r (ks.getD (X.length + 1) z29)).1) (l' := (bright h c r (ks.getD (X.length + 1) z29)).2.1) (c' := (bright h c r (ks.getD (X.length + 1) z29)).2.2) (by rw [hll]; omega) hs
                (by rw [hll]; exact bright_sam h c r _ hr hck hsr.kids)
              rw [hll] at hpm
              exact hpm
            · simp only [List.mem_append, List.mem_cons, List.not_mem_nil, or_false] at hk
              rcases hk with (hk | rfl) | rfl | rfl | hk
              · exact hX k hk
              · exact hsl
              · exact s1
              · exact s2
              · exact hB' k hk
          · simp only [if_neg hr]
            rw [hXl] at hs ⊢
            refine ⟨pair_joined (by omega) hs (bjoin_sam h l c _ hsl.kids hck), fun k hk => ?_⟩
            simp only [List.mem_append, List.mem_cons] at hk
            rcases hk with hk | rfl | rfl | hk
            · exact hX k hk
            · exact sj
            · exact hsr
            · exact hB' k hk
theorem leaf_found (l : List S29) (e : S29) (hs : Sorted l) : found l e = true ↔ (e, true) ∈ ents l := by
  rw [ents_mem, ← found_mem l e hs]
theorem bcut_good : ∀ (h n : Nat) (t : BT h) (e : S29), Shape h n t → (h = 0 ∨ 1 ≤ n) → Srt (flat h t) → Deld e (flat h t) (flat h (bcut h t e).1) ∧ KidsOk h (bcut h t e).1 ∧ ((bcut h t e).2 = true ↔ (e, true) ∈ flat h t)
  | 0, n, t, e, hs, _, hr => by
    exact ⟨leaf_del t e (srt_keys hr), trivial, leaf_found t e (srt_keys hr)⟩
  | h + 1, n, t, e, hs, hn, hr => by
    have hcf := cutfit_of (h + 1) n t e hs hn hr
    obtain ⟨ks, ts⟩ := t
    obtain ⟨h1, h2, h3, h4⟩ := hs
    change n ≤ ks.length at h1
    change ks.length ≤ 4 at h2
    change ts.length = ks.length + 1 at h3
    change ∀ k ∈ ts, Shape h 2 k at h4
    obtain ⟨A, k, B, rfl, hA, hAB, hX, hY⟩ := at_kid e h3 hr
    have hrk := srt_kid h3 hr k (by simp)
    have hsk := h4 k (by simp)
    obtain ⟨g1, g2, g3⟩ := bcut_good h 2 k e hsk (.inr (by decide)) hrk
    have hx : bcut (h + 1) (ks, A ++ k :: B) e = _ := bcut_at h ks A k B e hA
    have hfl : flat (h + 1) (ks, A ++ k :: B) = _ := flat_cut h ks A k B (by omega)
    have hr2 := hr
    rw [hfl] at hr2
    have hdel := Deld.ctx hr2 hX hY g1
    have hfl2 : flat (h + 1) (ks, A ++ (bcut h k e).1 :: B) = _ := flat_cut h ks A (bcut h k e).1 B (by omega)
    have hbs := bcut_shape h k e (cutfit_of h 2 k e hsk (.inr (by decide)) hrk)
    have hm := bmend_good h ks A (bcut h k e).1 B hAB (by omega) (fun x hxm => h4 x (by simp [hxm])) (fun x hxm => h4 x (by simp [hxm])) (by have := hsk.ge; omega) (by have := hsk.le; omega) hbs.2.2 g2 (by rw [hfl2]; exact hdel.srt)
    rw [hx]
    refine ⟨?_, hm.2, ?_⟩
    · rw [hfl]
      exact hdel.then (by rw [← hfl2]; exact hm.1)
    · rw [hfl]
      simp only [List.mem_append, g3]
      exact ⟨fun hh => .inr (.inl hh), fun hh => hh.elim (fun h0 => absurd (hX _ h0) (ltI_irr _)) (fun hh => hh.elim id (fun h0 => absurd (hY _ h0) (ltI_irr _)))⟩
theorem leaf_cut_same (l : List S29) (e : S29) (h : found l e = false) : (if found l e = true then delAt l (low l e) else l) = l := by
  rw [if_neg (by rw [h]; simp)]
theorem bcut_same : ∀ (h n : Nat) (t : BT h) (e : S29), Shape h n t → Srt (flat h t) → (bcut h t e).2 = false → (bcut h t e).1 = t
  | 0, n, t, e, hs, hr, hf => leaf_cut_same t e hf
  | h + 1, n, t, e, hs, hr, hf => by
    obtain ⟨ks, ts⟩ := t
    obtain ⟨h1, h2, h3, h4⟩ := hs
    change ts.length = ks.length + 1 at h3
    change ∀ k ∈ ts, Shape h 2 k at h4
    obtain ⟨A, k, B, rfl, hA, hAB, hX, hY⟩ := at_kid e h3 hr
    have hx : bcut (h + 1) (ks, A ++ k :: B) e = _ := bcut_at h ks A k B e hA
    have hk : (bcut h k e).2 = false := by rw [hx] at hf; exact hf
    have ih := bcut_same h 2 k e (h4 k (by simp)) (srt_kid h3 hr k (by simp)) hk
    rw [hx, ih]
    show bmend h ks A k B = _
    unfold bmend
    rw [if_pos (h4 k (by simp)).ge]
theorem tcut_good (h : Nat) (t : BT h) (e : S29) (hi : TInv h t) : TInv (tcut h t e).1.1 (tcut h t e).1.2 ∧ Deld e (flat h t) (flat (tcut h t e).1.1 (tcut h t e).1.2) ∧ ((tcut h t e).2 = true ↔ (e, true) ∈ flat h t) := by
  obtain ⟨hs, hr⟩ := hi
  have hn : h = 0 ∨ 1 ≤ (if h = 0 then 0 else 1) := by cases h <;> simp
  obtain ⟨g1, g2, g3⟩ := bcut_good h _ t e hs hn hr
  have hbs := bcut_shape h t e (cutfit_of h _ t e hs hn hr)
  have hle := hs.le
  cases hb : (bcut h t e).2 with
  | false =>
    have hsame := bcut_same h _ t e hs hr hb
    have ht : tcut h t e = (⟨h, t⟩, false) := by
      unfold tcut
      rw [if_neg (by rw [hb]; simp), hsame]
    have hne : (e, true) ∉ flat h t := fun h0 => by have := g3.2 h0; rw [hb] at this; cases this
    rw [hsame] at g1
    rw [ht]
    exact ⟨⟨hs, hr⟩, g1, by simp [hne]⟩
  | true =>
    have hin : (e, true) ∈ flat h t := g3.1 hb
    cases h with
    | zero =>
      have ht : tcut 0 t e = (⟨0, (bcut 0 t e).1⟩, true) := by
        unfold tcut
        rw [if_pos hb]
      rw [ht]
      exact ⟨⟨shape_of (t := (bcut 0 t e).1) (Nat.zero_le _) (by omega) hbs.2.2 g2, g1.srt⟩, g1, by simp [hin]⟩
    | succ h =>
      obtain ⟨r, hx⟩ : ∃ r, (bcut (h + 1) t e).1 = r := ⟨_, rfl⟩
      obtain ⟨ks, ts⟩ := r
      rw [hx] at g1 g2 hbs
      have hk : ts.length = ks.length + 1 := hbs.2.2.resolve_left (by omega)
      cases ks with
      | nil =>
        obtain ⟨k, ts', rfl⟩ := cons_cases' ts (by rw [hk]; simp)
        have hts : ts' = [] := List.eq_nil_of_length_eq_zero (by simpa using hk)
        subst hts
        have ht : tcut (h + 1) t e = (⟨h, k⟩, true) := by
          unfold tcut
          rw [if_pos hb]
          simp only [hx]
        have hfk : flat (h + 1) ([], [k]) = flat h k := by simp [flat, il, lpost]
        rw [hfk] at g1
        have hsk : Shape h 2 k := g2 k (by simp)
        rw [ht]
        exact ⟨⟨hsk.mono (by split <;> omega), g1.srt⟩, g1, by simp [hin]⟩
      | cons x ks =>
        have ht : tcut (h + 1) t e = (⟨h + 1, (x :: ks, ts)⟩, true) := by
          unfold tcut
          rw [if_pos hb]
          simp only [hx]
        have hl4 : (x :: ks).length ≤ 4 := by have := hbs.2.1; exact Nat.le_trans this hle
        rw [ht]
        refine ⟨⟨⟨?_, hl4, hk, g2⟩, g1.srt⟩, g1, by simp [hin]⟩
        simp
end Go.Proofs.Bt
end
