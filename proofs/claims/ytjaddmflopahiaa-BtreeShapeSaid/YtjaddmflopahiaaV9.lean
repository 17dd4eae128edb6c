/- Packed by shake.py: YtjaddmflopahiaaH3 -/
import Derived.Test.YtjaddmflopahiaaV8
section
namespace Go.Proofs.Bt
open Go Go.RowKit Go.Proofs.Ytjaddmflopahiaa.Q Go.Proofs.YtjaddmflopahiaaW.PrintWords Go.Proofs.YtjaddmflopahiaaW.PrintLast Go.Proofs.YtjaddmflopahiaaW.PrintMore
set_option linter.unusedVariables false
set_option linter.unusedSimpArgs false
set_option maxRecDepth 100000
set_option maxHeartbeats 2000000 in
theorem shape_kid (W : World) (l : List Pg) (pv : Value) (a : Nat) (d : Nat) (pg : Pg) (lo hi : List S29) (lv hv : Value) (rs : List (List S29)) (dq : Int) (loF hiF : Nat → List S29)
    (hpgs : PgsAt W pv l) (hp : l[a]? = some pg) (hl : l.length < 100000) (hd : d ≤ 40) (ha : a ≠ 0) (hne : lo = [] → hi ≠ []) (hlv : Edge W lv lo) (hhv : Edge W hv hi)
    (hn4 : pg.ks.length ≤ 4) (hn2 : 2 ≤ pg.ks.length)
    (hsz : ∀ x ∈ pg.ks, x.f0.size < 1000000) (hszl : ∀ x ∈ lo, x.f0.size < 1000000) (hszh : ∀ x ∈ hi, x.f0.size < 1000000)
    (hsrt : Sorted pg.ks) (hlo : ∀ x ∈ pg.ks, ∀ y ∈ lo, ¬ ord x y < 0) (hhi : ∀ x ∈ pg.ks, ∀ y ∈ hi, ord x y < 0)
    (hleaf : pg.leaf = true → pg.kids = [] ∧ rs = [pg.ks] ∧ dq = (d : Int))
    (hin : pg.leaf = false → pg.kids.length = pg.ks.length + 1 ∧ rs.length = pg.ks.length + 1 ∧ 1 ≤ pg.ks.length ∧ (∀ k ∈ pg.kids, (a : Int) < k) ∧ rs.flatten.length < 90000 ∧ loF 0 = lo ∧ (∀ i z, pg.ks[i]? = some z → loF (i + 1) = [z] ∧ hiF i = [z]) ∧ hiF pg.ks.length = hi ∧
      ∀ (i : Nat) (W' : World) (lv' hv' : Value) (kd : Int) (r : List S29), pg.kids[i]? = some kd → rs[i]? = some r → Below W.heap.size W W' → Edge W' lv' (loF i) → Edge W' hv' (hiF i) →
        Calls Try.prog 16 #[pv, .int .i64 kd, .int .i64 ((d : Int) + 1), lv', hv'] W' (ShapePost W' r dq)) :
    Calls Try.prog 16 #[pv, .int .i64 (a : Int), .int .i64 (d : Int), lv, hv] W (ShapePost W rs.flatten dq) := by
  have mixed : Try.prog.follows Departure.mixedOrders = true := by kernel_rfl
  have hu29 := Try.underlying29
  have hu35 := Try.underlying35
  obtain ⟨R, hR⟩ : ∃ R, ShapePost W rs.flatten dq = R := ⟨_, rfl⟩
  have HR := Aside0.mk hR
  rw [hR]
  obtain ⟨gp, cp, rfl, p0, p1, p2⟩ := hpgs.cells hp
  have hal := (List.getElem?_eq_some_iff.1 hp).1
  obtain ⟨n0, hn0⟩ : ∃ n0, l.length = n0 := ⟨_, rfl⟩
  rw [hn0] at hl hal hpgs hin
  rw [hn0]
  have hok := hpgs.2 pg (List.mem_of_getElem? hp)
  obtain ⟨lf, K, C, ks, kids⟩ := pg
  simp only at *
  have hdum2 : True := trivial
  obtain ⟨AK, cK, rfl⟩ : ∃ A c, K = .slice A ks.length c := RowE.slice hok.1
  obtain ⟨AC, cC, rfl⟩ : ∃ A c, C = .slice A kids.length c := by
    rcases hok.2.2.2 with ⟨h1, h0⟩ | ⟨g, c, cur, h1, _⟩
    · change C = _ at h1
      change kids.length = 0 at h0
      subst h1
      exact ⟨_, _, by rw [h0]⟩
    · change C = .slice (some ⟨g, 0, none⟩) kids.length c at h1
      exact ⟨_, _, h1⟩
  obtain ⟨n, hn⟩ : ∃ n, ks.length = n := ⟨_, rfl⟩
  obtain ⟨m, hm⟩ : ∃ m, kids.length = m := ⟨_, rfl⟩
  rw [hn] at p1 hn4 hn2
  rw [hm] at p2
  obtain ⟨xb, hxb⟩ : ∃ b, W.heap.size = b := ⟨_, rfl⟩
  have hsx : St W NoF (W.alloc (.cells #[.bool lf, .slice AK n cK, .slice AC m cC] 35)) [blkC xb (.cells #[.bool lf, .slice AK n cK, .slice AC m cC] 35 (0, 0))] := (St.none W NoF).alloc _ 35 hxb
  have HSX := Aside0.mk hsx
  obtain ⟨wa, hwa⟩ : ∃ wa, W.alloc (.cells #[.bool lf, .slice AK n cK, .slice AC m cC] 35) = wa := ⟨_, rfl⟩
  rw [hwa] at HSX
  have b0 : wa.cell? ⟨xb, 0, none⟩ = some (.bool lf) := (blk_cell (HSX.out.blk 0 rfl) 0).trans rfl
  have b1 : wa.cell? ⟨xb, 1, none⟩ = some (.slice AK n cK) := (blk_cell (HSX.out.blk 0 rfl) 1).trans rfl
  have b2 : wa.cell? ⟨xb, 2, none⟩ = some (.slice AC m cC) := (blk_cell (HSX.out.blk 0 rfl) 2).trans rfl
  obtain ⟨ho1, ho2⟩ := hok
  change RowE W (.slice AK ks.length cK) ks at ho1
  change RowI W (.slice AC kids.length cC) kids at ho2
  rw [hn] at ho1
  rw [hm] at ho2
  have HOK := Aside0.mk (And.intro ho1 ho2)
  have HN := Aside0.mk hn
  have HM := Aside0.mk hm
  have HPG := Aside0.mk hpgs
  have HSZ := Aside0.mk hsz
  have HSRT := Aside0.mk hsrt
  have HN0 := Aside0.mk hn0
  have HNE := Aside0.mk hne
  clear hne
  have HSZL := Aside0.mk hszl
  have HSZH := Aside0.mk hszh
  have HLO := Aside0.mk hlo
  have HHI := Aside0.mk hhi
  have HLV := Aside0.mk hlv
  have HHV := Aside0.mk hhv
  clear hszl hszh hlo hhi hlv hhv
  have HLFA := Aside0.mk hleaf
  have HIN := Aside0.mk hin
  clear hleaf hin
  clear hR hpgs ho1 ho2 hn hm hsx hsz hsrt hp hn0
  have ha2 : (a : Int) < (n0 : Int) := by omega
  have ha0 : (0 : Int) ≤ (a : Int) := by omega
  have ha1 : decide ((a : Int) < 0) = false := by first | (simp; done) | (simp; omega)
  have ha3 : decide ((n0 : Int) ≤ (a : Int)) = false := by first | (simp; done) | (simp; omega)
  have ha4 : ((a : Int) == 0) = false := by first | (simp; done) | (simp; omega)
  have ha5 : ((a : Int) != 0) = true := by simp; omega
  have ha6 : ¬ (a : Int) = 0 := by omega
  have hd1 : decide ((40 : Int) < (d : Int)) = false := by first | (simp; done) | (simp; omega)
  have hn1 : decide ((4 : Int) < (n : Int)) = false := by first | (simp; done) | (simp; omega)
  have hn2' : decide ((n : Int) < 2) = false := by first | (simp; done) | (simp; omega)
  have hdum : True := trivial
  go_enter Try.func16, Try.ntmps16
  go_wp2
  go_loopg [15] n (fun gq v15 wx => ∃ i : Nat, v15 = .int .i64 i ∧ i + gq = n ∧ Aside0 (St W NoF wx [blkC xb (.cells #[.bool lf, .slice AK n cK, .slice AC m cC] 35 (0, 0))]))
  case atStart => exact ⟨0, rfl, by omega, HSX⟩
  case round =>
    clear HSX b0 b1 b2
    obtain ⟨i, rfl, hi, HS⟩ := hrel
    cases gk with
    | succ gq =>
      have hin : i < n := by omega
      obtain ⟨g, c', hv, hnc⟩ := row_slice HOK.out.1 (by rw [HN.out]; omega)
      obtain ⟨rfl, -, rfl⟩ : AK = some ⟨g, 0, none⟩ ∧ True ∧ cK = c' := by
        injection hv with e1 e2 e3
        exact ⟨e1, trivial, e3⟩
      have HKC := Aside0.mk (show ∀ W' : World, Below W.heap.size W W' → ∀ i z, ks[i]? = some z → W'.cell? ⟨g, i * 3, none⟩ = some (.string z.f0) ∧ W'.cell? ⟨g, i * 3 + 1, none⟩ = some (.int .i64 z.f1.f0) ∧ W'.cell? ⟨g, i * 3 + 2, none⟩ = some (.int .i64 z.f1.f1) from fun W' hb i z hz => by
        obtain ⟨hi, rfl⟩ := List.getElem?_eq_some_iff.1 hz
        exact RowE.cells (Row.below HOK.out.1 hb) i hi)
      obtain ⟨z, hz⟩ : ∃ z, ks[i]? = some z := ⟨_, List.getElem?_eq_getElem (by rw [HN.out]; exact hin)⟩
      have HZ := Aside0.mk hz
      have HS1 := Aside0.mk (HS.out.below (⟨rfl, rfl, rfl, Nat.le_refl _, fun _ _ => rfl⟩ : Below wr.heap.size wr wr.drew))
      rcases HLV.out with ⟨rfl, rfl⟩ | ⟨gl, ol, cl, xl, rfl, rfl, ql0, ql1, ql2⟩ <;> rcases HHV.out with ⟨rfl, rfl⟩ | ⟨gh, oh, ch, xh, rfl, rfl, qh0, qh1, qh2⟩
      · exact absurd rfl (HNE.out rfl)
      · have HQh := Aside0.mk (show ∀ W' : World, Below W.heap.size W W' → W'.cell? ⟨gh, oh, none⟩ = some (.string xh.f0) ∧ W'.cell? ⟨gh, oh + 1, none⟩ = some (.int .i64 xh.f1.f0) ∧ W'.cell? ⟨gh, oh + 2, none⟩ = some (.int .i64 xh.f1.f1) from fun W' hb => ⟨pw_cell_below hb qh0, pw_cell_below hb qh1, pw_cell_below hb qh2⟩)
        clear qh0 qh1 qh2
        obtain ⟨o3, ho3⟩ : ∃ o, ord z xh = o := ⟨_, rfl⟩
        have HO3 := Aside0.mk ho3
        have hq3 : decide (0 ≤ o3) = false := decide_eq_false (by have := HHI.out z (List.mem_of_getElem? hz) xh (by simp); rw [ho3] at this; omega)
        clear ho3
        clear hz hv hnc
        cases i with
        | zero =>
          have hb3 : (0 : Int) < (n : Int) := by omega
          go_wp2
          clear HS
          refine start_ (n := 51) (S := fun w' => w'.cell? ⟨xb, 1, none⟩ = some (.slice (some ⟨g, 0, none⟩) n cK) ∧ w'.cell? ⟨g, 0 * 3, none⟩ = some (.string z.f0) ∧ w'.cell? ⟨g, 0 * 3 + 1, none⟩ = some (.int .i64 z.f1.f0) ∧ w'.cell? ⟨g, 0 * 3 + 2, none⟩ = some (.int .i64 z.f1.f1) ∧ w'.cell? ⟨gh, oh, none⟩ = some (.string xh.f0) ∧ w'.cell? ⟨gh, oh + 1, none⟩ = some (.int .i64 xh.f1.f0) ∧ w'.cell? ⟨gh, oh + 2, none⟩ = some (.int .i64 xh.f1.f1)) (ds := []) #[false, false, false, false, false, false, false, false, false, false, false, false, false, false, false, false, false, false, false, false, false, false, false, false, false, false, false, false, false, false, false, false, false, false, false, false, false, false, false, false, false, false, false, false, false, false, false, false, false, false, false] (by kernel_rfl) rfl rfl (⟨(blk_cell (HS1.out.blk 0 rfl) 1).trans rfl, (HKC.out _ (keep_below HS1.out.keep) 0 z HZ.out).1, (HKC.out _ (keep_below HS1.out.keep) 0 z HZ.out).2.1, (HKC.out _ (keep_below HS1.out.keep) 0 z HZ.out).2.2, (HQh.out _ (keep_below HS1.out.keep)).1, (HQh.out _ (keep_below HS1.out.keep)).2.1, (HQh.out _ (keep_below HS1.out.keep)).2.2⟩) (fun hHeld => ?_)
          refine pure_ (i := 0) (N := (some 71)) (v := ?_) (a' := ?_) (bs_ 51 1) rfl rfl (by kernel_rfl) (fun _ _ _ h => h) (Or.inl ⟨by rfl, ?_⟩) ?_ ?_
          rotate_left
          · intro w'
            go_simp
            with_reducible rfl
          rotate_left
          · simp only [Act.put, List.setIfInBounds_toArray, List.set_cons_zero, List.set_cons_succ, i64_w, i32_w]
            rfl
          refine pure_ (i := 1) (N := (some 72)) (v := ?_) (a' := ?_) (bs_ 51 3) rfl rfl (by kernel_rfl) (fun _ _ _ h => h) (Or.inl ⟨by rfl, ?_⟩) ?_ ?_
          rotate_left
          · intro w'
            go_simp
            with_reducible rfl
          rotate_left
          · simp only [Act.put, List.setIfInBounds_toArray, List.set_cons_zero, List.set_cons_succ, i64_w, i32_w]
            rfl
          refine pure_ (i := 2) (N := (some 73)) (v := ?_) (a' := ?_) (bs_ 51 7) rfl rfl (by kernel_rfl) (fun _ _ _ h => h) (Or.inl ⟨by rfl, ?_⟩) ?_ ?_
          rotate_left
          · intro w'
            go_simp
            with_reducible rfl
          rotate_left
          · simp only [Act.put, List.setIfInBounds_toArray, List.set_cons_zero, List.set_cons_succ, i64_w, i32_w]
            rfl
          refine pure_ (i := 3) (N := (some 74)) (v := undef) (a' := ?_) (bs_ 51 15) rfl rfl (by kernel_rfl) (fun _ _ _ h => h) (Or.inr ⟨by rfl, rfl⟩) ?_ ?_
          rotate_left
          · simp only [Act.put, List.setIfInBounds_toArray, List.set_cons_zero, List.set_cons_succ, i64_w, i32_w]
            rfl
          refine pure_ (i := 5) (N := (some 76)) (v := undef) (a' := ?_) (bs_ 51 47) rfl rfl (by kernel_rfl) (fun _ _ _ h => h) (Or.inr ⟨by rfl, rfl⟩) ?_ ?_
          rotate_left
          · simp only [Act.put, List.setIfInBounds_toArray, List.set_cons_zero, List.set_cons_succ, i64_w, i32_w]
            rfl
          refine pure_ (i := 6) (N := (some 77)) (v := undef) (a' := ?_) (bs_ 51 111) rfl rfl (by kernel_rfl) (fun _ _ _ h => h) (Or.inr ⟨by rfl, rfl⟩) ?_ ?_
          rotate_left
          · simp only [Act.put, List.setIfInBounds_toArray, List.set_cons_zero, List.set_cons_succ, i64_w, i32_w]
            rfl
          refine pure_ (i := 9) (N := (some 80)) (v := undef) (a' := ?_) (bs_ 51 623) rfl rfl (by kernel_rfl) (fun _ _ _ h => h) (Or.inr ⟨by rfl, rfl⟩) ?_ ?_
          rotate_left
          · simp only [Act.put, List.setIfInBounds_toArray, List.set_cons_zero, List.set_cons_succ, i64_w, i32_w]
            rfl
          refine pure_ (i := 11) (N := (some 82)) (v := undef) (a' := ?_) (bs_ 51 2671) rfl rfl (by kernel_rfl) (fun _ _ _ h => h) (Or.inr ⟨by rfl, rfl⟩) ?_ ?_
          rotate_left
          · simp only [Act.put, List.setIfInBounds_toArray, List.set_cons_zero, List.set_cons_succ, i64_w, i32_w]
            rfl
          refine pure_ (i := 4) (N := (some 75)) (v := undef) (a' := ?_) (bs_ 51 2687) rfl rfl (by kernel_rfl) (fun _ _ _ h => h) (Or.inr ⟨by rfl, rfl⟩) ?_ ?_
          rotate_left
          · simp only [Act.put, List.setIfInBounds_toArray, List.set_cons_zero, List.set_cons_succ, i64_w, i32_w]
            rfl
          refine pure_ (i := 7) (N := (some 78)) (v := undef) (a' := ?_) (bs_ 51 2815) rfl rfl (by kernel_rfl) (fun _ _ _ h => h) (Or.inr ⟨by rfl, rfl⟩) ?_ ?_
          rotate_left
          · simp only [Act.put, List.setIfInBounds_toArray, List.set_cons_zero, List.set_cons_succ, i64_w, i32_w]
            rfl
          refine pure_ (i := 8) (N := (some 79)) (v := undef) (a' := ?_) (bs_ 51 3071) rfl rfl (by kernel_rfl) (fun _ _ _ h => h) (Or.inr ⟨by rfl, rfl⟩) ?_ ?_
          rotate_left
          · simp only [Act.put, List.setIfInBounds_toArray, List.set_cons_zero, List.set_cons_succ, i64_w, i32_w]
            rfl
          refine pure_ (i := 10) (N := (some 81)) (v := undef) (a' := ?_) (bs_ 51 4095) rfl rfl (by kernel_rfl) (fun _ _ _ h => h) (Or.inr ⟨by rfl, rfl⟩) ?_ ?_
          rotate_left
          · simp only [Act.put, List.setIfInBounds_toArray, List.set_cons_zero, List.set_cons_succ, i64_w, i32_w]
            rfl
          refine pure_ (i := 12) (N := (some 83)) (v := undef) (a' := ?_) (bs_ 51 8191) rfl rfl (by kernel_rfl) (fun _ _ _ h => h) (Or.inr ⟨by rfl, rfl⟩) ?_ ?_
          rotate_left
          · simp only [Act.put, List.setIfInBounds_toArray, List.set_cons_zero, List.set_cons_succ, i64_w, i32_w]
            rfl
          refine pure_ (i := 13) (N := (some 84)) (v := undef) (a' := ?_) (bs_ 51 16383) rfl rfl (by kernel_rfl) (fun _ _ _ h => h) (Or.inr ⟨by rfl, rfl⟩) ?_ ?_
          rotate_left
          · simp only [Act.put, List.setIfInBounds_toArray, List.set_cons_zero, List.set_cons_succ, i64_w, i32_w]
            rfl
          refine one_ (i := 14) (N := (some 85)) (bs_ 51 32767) rfl rfl (by kernel_rfl) (by decide) (fun K_ hK => ?_)
          refine no_ (by rfl) ?_
          refine hK.out _ _ hHeld (fun hHeld => ?_)
          clear hK K_
          refine norm_ (a' := ?_) ?_ ?_
          rotate_left
          · show Act.put _ (some 85) _ = _
            simp only [Act.put, List.setIfInBounds_toArray, List.set_cons_zero, List.set_cons_succ, i64_w, i32_w]
            rfl
          refine pure_ (i := 15) (N := (some 86)) (v := undef) (a' := ?_) (bs_ 51 65535) rfl rfl (by kernel_rfl) (fun _ _ _ h => h) (Or.inr ⟨by rfl, rfl⟩) ?_ ?_
          rotate_left
          · simp only [Act.put, List.setIfInBounds_toArray, List.set_cons_zero, List.set_cons_succ, i64_w, i32_w]
            rfl
          refine pure_ (i := 16) (N := (some 87)) (v := ?_) (a' := ?_) (bs_ 51 131071) rfl rfl (by kernel_rfl) (fun _ _ _ h => h) (Or.inl ⟨by rfl, ?_⟩) ?_ ?_
          rotate_left
          · intro w'
            go_simp
            with_reducible rfl
          rotate_left
          · simp only [Act.put, List.setIfInBounds_toArray, List.set_cons_zero, List.set_cons_succ, i64_w, i32_w]
            rfl
          refine pure_ (i := 17) (N := (some 88)) (v := ?_) (a' := ?_) (bs_ 51 262143) rfl rfl (by kernel_rfl) (fun _ _ _ h => h) (Or.inl ⟨by rfl, ?_⟩) ?_ ?_
          rotate_left
          · intro w'
            go_simp
            with_reducible rfl
          rotate_left
          · simp only [Act.put, List.setIfInBounds_toArray, List.set_cons_zero, List.set_cons_succ, i64_w, i32_w]
            rfl
          refine pure_ (i := 18) (N := (some 89)) (v := ?_) (a' := ?_) (bs_ 51 524287) rfl rfl (by kernel_rfl) (fun _ _ _ h => h) (Or.inl ⟨by rfl, ?_⟩) ?_ ?_
          rotate_left
          · intro w'
            go_simp
            with_reducible rfl
          rotate_left
          · simp only [Act.put, List.setIfInBounds_toArray, List.set_cons_zero, List.set_cons_succ, i64_w, i32_w]
            rfl
          refine pure_ (i := 19) (N := (some 90)) (v := ?_) (a' := ?_) (bs_ 51 1048575) rfl rfl (by kernel_rfl) (fun _ _ _ h => h) (Or.inl ⟨by rfl, ?_⟩) ?_ ?_
          rotate_left
          · intro w'
            go_simp
            with_reducible rfl
          rotate_left
          · simp only [Act.put, List.setIfInBounds_toArray, List.set_cons_zero, List.set_cons_succ, i64_w, i32_w]
            rfl
          refine pure_ (i := 20) (N := (some 91)) (v := ?_) (a' := ?_) (bs_ 51 2097151) rfl rfl (by kernel_rfl) (fun _ _ _ h => h) (Or.inl ⟨by rfl, ?_⟩) ?_ ?_
          rotate_left
          · intro w'
            go_simp
            with_reducible rfl
          rotate_left
          · simp only [Act.put, List.setIfInBounds_toArray, List.set_cons_zero, List.set_cons_succ, i64_w, i32_w]
            rfl
          refine pure_ (i := 21) (N := (some 92)) (v := ?_) (a' := ?_) (bs_ 51 4194303) rfl rfl (by kernel_rfl) (fun _ _ _ h => h) (Or.inl ⟨by rfl, ?_⟩) ?_ ?_
          rotate_left
          · intro w'
            go_simp
            with_reducible rfl
          rotate_left
          · simp only [Act.put, List.setIfInBounds_toArray, List.set_cons_zero, List.set_cons_succ, i64_w, i32_w]
            rfl
          refine pure_ (i := 22) (N := (some 93)) (v := undef) (a' := ?_) (bs_ 51 8388607) rfl rfl (by kernel_rfl) (fun _ _ _ h => h) (Or.inr ⟨by rfl, rfl⟩) ?_ ?_
          rotate_left
          · simp only [Act.put, List.setIfInBounds_toArray, List.set_cons_zero, List.set_cons_succ, i64_w, i32_w]
            rfl
          refine pure_ (i := 24) (N := (some 95)) (v := undef) (a' := ?_) (bs_ 51 25165823) rfl rfl (by kernel_rfl) (fun _ _ _ h => h) (Or.inr ⟨by rfl, rfl⟩) ?_ ?_
          rotate_left
          · simp only [Act.put, List.setIfInBounds_toArray, List.set_cons_zero, List.set_cons_succ, i64_w, i32_w]
            rfl
          refine pure_ (i := 27) (N := (some 98)) (v := undef) (a' := ?_) (bs_ 51 159383551) rfl rfl (by kernel_rfl) (fun _ _ _ h => h) (Or.inr ⟨by rfl, rfl⟩) ?_ ?_
          rotate_left
          · simp only [Act.put, List.setIfInBounds_toArray, List.set_cons_zero, List.set_cons_succ, i64_w, i32_w]
            rfl
          refine pure_ (i := 28) (N := (some 99)) (v := undef) (a' := ?_) (bs_ 51 427819007) rfl rfl (by kernel_rfl) (fun _ _ _ h => h) (Or.inr ⟨by rfl, rfl⟩) ?_ ?_
          rotate_left
          · simp only [Act.put, List.setIfInBounds_toArray, List.set_cons_zero, List.set_cons_succ, i64_w, i32_w]
            rfl
          refine pure_ (i := 23) (N := (some 94)) (v := undef) (a' := ?_) (bs_ 51 436207615) rfl rfl (by kernel_rfl) (fun _ _ _ h => h) (Or.inr ⟨by rfl, rfl⟩) ?_ ?_
          rotate_left
          · simp only [Act.put, List.setIfInBounds_toArray, List.set_cons_zero, List.set_cons_succ, i64_w, i32_w]
            rfl
          refine pure_ (i := 25) (N := (some 96)) (v := undef) (a' := ?_) (bs_ 51 469762047) rfl rfl (by kernel_rfl) (fun _ _ _ h => h) (Or.inr ⟨by rfl, rfl⟩) ?_ ?_
          rotate_left
          · simp only [Act.put, List.setIfInBounds_toArray, List.set_cons_zero, List.set_cons_succ, i64_w, i32_w]
            rfl
          refine pure_ (i := 26) (N := (some 97)) (v := undef) (a' := ?_) (bs_ 51 536870911) rfl rfl (by kernel_rfl) (fun _ _ _ h => h) (Or.inr ⟨by rfl, rfl⟩) ?_ ?_
          rotate_left
          · simp only [Act.put, List.setIfInBounds_toArray, List.set_cons_zero, List.set_cons_succ, i64_w, i32_w]
            rfl
          refine pure_ (i := 29) (N := (some 100)) (v := undef) (a' := ?_) (bs_ 51 1073741823) rfl rfl (by kernel_rfl) (fun _ _ _ h => h) (Or.inr ⟨by rfl, rfl⟩) ?_ ?_
          rotate_left
          · simp only [Act.put, List.setIfInBounds_toArray, List.set_cons_zero, List.set_cons_succ, i64_w, i32_w]
            rfl
          refine one_ (i := 30) (N := (some 101)) (bs_ 51 2147483647) rfl rfl (by kernel_rfl) (by decide) (fun K_ hK => ?_)
          refine no_ (by rfl) ?_
          refine hK.out _ _ hHeld (fun hHeld => ?_)
          clear hK K_
          refine norm_ (a' := ?_) ?_ ?_
          rotate_left
          · show Act.put _ (some 101) _ = _
            simp only [Act.put, List.setIfInBounds_toArray, List.set_cons_zero, List.set_cons_succ, i64_w, i32_w]
            rfl
          refine pure_ (i := 31) (N := (some 102)) (v := undef) (a' := ?_) (bs_ 51 4294967295) rfl rfl (by kernel_rfl) (fun _ _ _ h => h) (Or.inr ⟨by rfl, rfl⟩) ?_ ?_
          rotate_left
          · simp only [Act.put, List.setIfInBounds_toArray, List.set_cons_zero, List.set_cons_succ, i64_w, i32_w]
            rfl
          refine pure_ (i := 32) (N := (some 103)) (v := ?_) (a' := ?_) (bs_ 51 8589934591) rfl rfl (by kernel_rfl) (fun _ _ _ h => h) (Or.inl ⟨by rfl, ?_⟩) ?_ ?_
          rotate_left
          · intro w'
            go_simp
            with_reducible rfl
          rotate_left
          · simp only [Act.put, List.setIfInBounds_toArray, List.set_cons_zero, List.set_cons_succ, i64_w, i32_w]
            rfl
          refine pure_ (i := 33) (N := (some 104)) (v := ?_) (a' := ?_) (bs_ 51 17179869183) rfl rfl (by kernel_rfl) (fun _ _ _ h => h) (Or.inl ⟨by rfl, ?_⟩) ?_ ?_
          rotate_left
          · intro w'
            go_simp
            with_reducible rfl
          rotate_left
          · simp only [Act.put, List.setIfInBounds_toArray, List.set_cons_zero, List.set_cons_succ, i64_w, i32_w]
            rfl
          refine pure_ (i := 34) (N := (some 105)) (v := ?_) (a' := ?_) (bs_ 51 34359738367) rfl rfl (by kernel_rfl) (fun _ _ _ h => h) (Or.inl ⟨by rfl, ?_⟩) ?_ ?_
          rotate_left
          · intro w'
            go_simp
            with_reducible rfl
          rotate_left
          · simp only [Act.put, List.setIfInBounds_toArray, List.set_cons_zero, List.set_cons_succ, i64_w, i32_w]
            rfl
          refine pure_ (i := 35) (N := (some 106)) (v := ?_) (a' := ?_) (bs_ 51 68719476735) rfl rfl (by kernel_rfl) (fun _ _ _ h => h) (Or.inl ⟨by rfl, ?_⟩) ?_ ?_
          rotate_left
          · intro w'
            go_simp
            with_reducible rfl
          rotate_left
          · simp only [Act.put, List.setIfInBounds_toArray, List.set_cons_zero, List.set_cons_succ, i64_w, i32_w]
            rfl
          refine pure_ (i := 36) (N := (some 107)) (v := ?_) (a' := ?_) (bs_ 51 137438953471) rfl rfl (by kernel_rfl) (fun _ _ _ h => h) (Or.inl ⟨by rfl, ?_⟩) ?_ ?_
          rotate_left
          · intro w'
            go_simp
            with_reducible rfl
          rotate_left
          · simp only [Act.put, List.setIfInBounds_toArray, List.set_cons_zero, List.set_cons_succ, i64_w, i32_w]
            rfl
          refine pure_ (i := 37) (N := (some 108)) (v := ?_) (a' := ?_) (bs_ 51 274877906943) rfl rfl (by kernel_rfl) (fun _ _ _ h => h) (Or.inl ⟨by rfl, ?_⟩) ?_ ?_
          rotate_left
          · intro w'
            go_simp
            with_reducible rfl
          rotate_left
          · simp only [Act.put, List.setIfInBounds_toArray, List.set_cons_zero, List.set_cons_succ, i64_w, i32_w]
            rfl
          refine pure_ (i := 38) (N := (some 109)) (v := ?_) (a' := ?_) (bs_ 51 549755813887) rfl rfl (by kernel_rfl) (fun _ _ _ h => h) (Or.inl ⟨by rfl, ?_⟩) ?_ ?_
          rotate_left
          · intro w'
            go_simp
            with_reducible rfl
          rotate_left
          · simp only [Act.put, List.setIfInBounds_toArray, List.set_cons_zero, List.set_cons_succ, i64_w, i32_w]
            rfl
          refine pure_ (i := 39) (N := (some 110)) (v := ?_) (a' := ?_) (bs_ 51 1099511627775) rfl rfl (by kernel_rfl) (fun _ _ _ h => h) (Or.inl ⟨by rfl, ?_⟩) ?_ ?_
          rotate_left
          · intro w'
            go_simp
            with_reducible rfl
          rotate_left
          · simp only [Act.put, List.setIfInBounds_toArray, List.set_cons_zero, List.set_cons_succ, i64_w, i32_w]
            rfl
          refine pure_ (i := 41) (N := (some 112)) (v := ?_) (a' := ?_) (bs_ 51 3298534883327) rfl rfl (by kernel_rfl) (fun _ _ _ h => h) (Or.inl ⟨by rfl, ?_⟩) ?_ ?_
          rotate_left
          · intro w'
            go_simp
            with_reducible rfl
          rotate_left
          · simp only [Act.put, List.setIfInBounds_toArray, List.set_cons_zero, List.set_cons_succ, i64_w, i32_w]
            rfl
          refine pure_ (i := 44) (N := (some 115)) (v := ?_) (a' := ?_) (bs_ 51 20890720927743) rfl rfl (by kernel_rfl) (fun _ _ _ h => h) (Or.inl ⟨by rfl, ?_⟩) ?_ ?_
          rotate_left
          · intro w'
            go_simp
            with_reducible rfl
          rotate_left
          · simp only [Act.put, List.setIfInBounds_toArray, List.set_cons_zero, List.set_cons_succ, i64_w, i32_w]
            rfl
          refine pure_ (i := 45) (N := (some 116)) (v := ?_) (a' := ?_) (bs_ 51 56075093016575) rfl rfl (by kernel_rfl) (fun _ _ _ h => h) (Or.inl ⟨by rfl, ?_⟩) ?_ ?_
          rotate_left
          · intro w'
            go_simp
            with_reducible rfl
          rotate_left
          · simp only [Act.put, List.setIfInBounds_toArray, List.set_cons_zero, List.set_cons_succ, i64_w, i32_w]
            rfl
          refine take_ (i := 40) (N := (some 111)) (v := ?_) (a' := ?_) (bs_ 51 57174604644351) rfl rfl (by kernel_rfl) (fun _ _ _ h => h) (Or.inl ⟨by rfl, ?_⟩) hHeld ?_ ?_
          rotate_left
          · rintro w' ⟨s0, s1, s2, s3, s4, s5, s6⟩
            go_simp
            with_reducible rfl
          rotate_left
          · simp only [Act.put, List.setIfInBounds_toArray, List.set_cons_zero, List.set_cons_succ, i64_w, i32_w]
            rfl
          refine pure_ (i := 42) (N := (some 113)) (v := ?_) (a' := ?_) (bs_ 51 61572651155455) rfl rfl (by kernel_rfl) (fun _ _ _ h => h) (Or.inl ⟨by rfl, ?_⟩) ?_ ?_
          rotate_left
          · intro w'
            go_simp
            with_reducible rfl
          rotate_left
          · simp only [Act.put, List.setIfInBounds_toArray, List.set_cons_zero, List.set_cons_succ, i64_w, i32_w]
            rfl
          refine take_ (i := 43) (N := (some 114)) (v := ?_) (a' := ?_) (bs_ 51 70368744177663) rfl rfl (by kernel_rfl) (fun _ _ _ h => h) (Or.inl ⟨by rfl, ?_⟩) hHeld ?_ ?_
          rotate_left
          · rintro w' ⟨s0, s1, s2, s3, s4, s5, s6⟩
            go_simp
            with_reducible rfl
          rotate_left
          · simp only [Act.put, List.setIfInBounds_toArray, List.set_cons_zero, List.set_cons_succ, i64_w, i32_w]
            rfl
          refine take_ (i := 46) (N := (some 117)) (v := ?_) (a' := ?_) (bs_ 51 140737488355327) rfl rfl (by kernel_rfl) (fun _ _ _ h => h) (Or.inl ⟨by rfl, ?_⟩) hHeld ?_ ?_
          rotate_left
          · rintro w' ⟨s0, s1, s2, s3, s4, s5, s6⟩
            go_simp
            with_reducible rfl
          rotate_left
          · simp only [Act.put, List.setIfInBounds_toArray, List.set_cons_zero, List.set_cons_succ, i64_w, i32_w]
            rfl
          refine one_ (i := 47) (N := (some 118)) (bs_ 51 281474976710655) rfl rfl (by kernel_rfl) (by decide) (fun K_ hK => ?_)
          refine goes_ Try.func21 (by kernel_rfl) rfl #[entryV z, entryV xh] (by rfl) rfl rfl (by (try simp only [List.map_toArray, List.map_cons, List.map_nil]); first | done | rfl) ?_
          refine (reforder_calls _ z xh (HSZ.out _ (List.mem_of_getElem? HZ.out)) (HSZH.out _ (by simp))).mono ?_
          rw [HO3.out]
          rintro E w6 ⟨rfl, hb_⟩
          have HS1_1 := Aside0.mk (HS1.out.below hb_)
          clear hb_
          refine ⟨_, rfl, ?_⟩
          clear hHeld
          refine hK.out _ _ (⟨(blk_cell (HS1_1.out.blk 0 rfl) 1).trans rfl, (HKC.out _ (keep_below HS1_1.out.keep) 0 z HZ.out).1, (HKC.out _ (keep_below HS1_1.out.keep) 0 z HZ.out).2.1, (HKC.out _ (keep_below HS1_1.out.keep) 0 z HZ.out).2.2, (HQh.out _ (keep_below HS1_1.out.keep)).1, (HQh.out _ (keep_below HS1_1.out.keep)).2.1, (HQh.out _ (keep_below HS1_1.out.keep)).2.2⟩) (fun hHeld => ?_)
          clear hK K_
          refine norm_ (a' := ?_) ?_ ?_
          rotate_left
          · show Act.put _ (some 118) _ = _
            simp only [Act.put, List.setIfInBounds_toArray, List.set_cons_zero, List.set_cons_succ, i64_w, i32_w]
            rfl
          refine pure_ (i := 48) (N := (some 119)) (v := ?_) (a' := ?_) (bs_ 51 562949953421311) rfl rfl (by kernel_rfl) (fun _ _ _ h => h) (Or.inl ⟨by rfl, ?_⟩) ?_ ?_
          rotate_left
          · intro w'
            go_simp
            with_reducible rfl
          rotate_left
          · simp only [Act.put, List.setIfInBounds_toArray, List.set_cons_zero, List.set_cons_succ, i64_w, i32_w]
            rfl
          refine pure_ (i := 49) (N := (some 120)) (v := ?_) (a' := ?_) (bs_ 51 1125899906842623) rfl rfl (by kernel_rfl) (fun _ _ _ h => h) (Or.inl ⟨by rfl, ?_⟩) ?_ ?_
          rotate_left
          · intro w'
            go_simp
            with_reducible rfl
          rotate_left
          · simp only [Act.put, List.setIfInBounds_toArray, List.set_cons_zero, List.set_cons_succ, i64_w, i32_w]
            rfl
          refine pure_ (i := 50) (N := (some 121)) (v := ?_) (a' := ?_) (bs_ 51 2251799813685247) rfl rfl (by kernel_rfl) (fun _ _ _ h => h) (Or.inl ⟨by rfl, ?_⟩) ?_ ?_
          rotate_left
          · intro w'
            go_simp
            with_reducible rfl
          rotate_left
          · simp only [Act.put, List.setIfInBounds_toArray, List.set_cons_zero, List.set_cons_succ, i64_w, i32_w]
            rfl
          refine done_ (by kernel_rfl) ?_
          clear hHeld HKC HZ HSRT HSZ HOK HSZL HSZH HLO HHI
          go_wp2
          go_roundg gq
          case measure => omega
          case rel => exact ⟨1, by go_num, by omega, HS1_1⟩
        | succ i0 =>
          have him1 : ((i0 + 1 : Nat) : Int) - 1 = (i0 : Int) := by omega
          have hb0 : (0 : Int) ≤ (i0 : Int) := by omega
          have hb1 : (i0 : Int) < (n : Int) := by omega
          have hb2 : (0 : Int) ≤ ((i0 + 1 : Nat) : Int) := by omega
          have hb3 : ((i0 + 1 : Nat) : Int) < (n : Int) := by omega
          have hb4 : (0 : Int) ≤ (i0 : Int) + 1 := by omega
          have hb5 : (i0 : Int) + 1 < (n : Int) := by omega
          have hb6 : (0 : Int) < (i0 : Int) + 1 := by omega
          have hw0 : wrap64 (i0 : Int) = (i0 : Int) := IntWalk.wrap64_in _ (by omega)
          obtain ⟨zp, hzp⟩ : ∃ z, ks[i0]? = some z := ⟨_, List.getElem?_eq_getElem (by rw [HN.out]; omega)⟩
          have HZP := Aside0.mk hzp
          obtain ⟨o1, ho1⟩ : ∃ o, ord zp z = o := ⟨_, rfl⟩
          have HO1 := Aside0.mk ho1
          have hq1 : decide (0 ≤ o1) = false := decide_eq_false (by
            obtain ⟨p1, p2⟩ := List.getElem?_eq_some_iff.1 hzp
            obtain ⟨p3, p4⟩ := List.getElem?_eq_some_iff.1 HZ.out
            have : ord ks[i0] ks[i0 + 1] < 0 := List.pairwise_iff_getElem.1 HSRT.out i0 (i0 + 1) p1 p3 (by omega)
            rw [p2, p4, ho1] at this
            omega)
          clear hzp ho1
          go_wp2
          clear HS
          refine start_ (n := 51) (S := fun w' => w'.cell? ⟨xb, 1, none⟩ = some (.slice (some ⟨g, 0, none⟩) n cK) ∧ w'.cell? ⟨g, (i0 + 1) * 3, none⟩ = some (.string z.f0) ∧ w'.cell? ⟨g, (i0 + 1) * 3 + 1, none⟩ = some (.int .i64 z.f1.f0) ∧ w'.cell? ⟨g, (i0 + 1) * 3 + 2, none⟩ = some (.int .i64 z.f1.f1) ∧ w'.cell? ⟨g, i0 * 3, none⟩ = some (.string zp.f0) ∧ w'.cell? ⟨g, i0 * 3 + 1, none⟩ = some (.int .i64 zp.f1.f0) ∧ w'.cell? ⟨g, i0 * 3 + 2, none⟩ = some (.int .i64 zp.f1.f1) ∧ w'.cell? ⟨gh, oh, none⟩ = some (.string xh.f0) ∧ w'.cell? ⟨gh, oh + 1, none⟩ = some (.int .i64 xh.f1.f0) ∧ w'.cell? ⟨gh, oh + 2, none⟩ = some (.int .i64 xh.f1.f1)) (ds := []) #[false, false, false, false, false, false, false, false, false, false, false, false, false, false, false, false, false, false, false, false, false, false, false, false, false, false, false, false, false, false, false, false, false, false, false, false, false, false, false, false, false, false, false, false, false, false, false, false, false, false, false] (by kernel_rfl) rfl rfl (⟨(blk_cell (HS1.out.blk 0 rfl) 1).trans rfl, (HKC.out _ (keep_below HS1.out.keep) (i0 + 1) z HZ.out).1, (HKC.out _ (keep_below HS1.out.keep) (i0 + 1) z HZ.out).2.1, (HKC.out _ (keep_below HS1.out.keep) (i0 + 1) z HZ.out).2.2, (HKC.out _ (keep_below HS1.out.keep) i0 zp HZP.out).1, (HKC.out _ (keep_below HS1.out.keep) i0 zp HZP.out).2.1, (HKC.out _ (keep_below HS1.out.keep) i0 zp HZP.out).2.2, (HQh.out _ (keep_below HS1.out.keep)).1, (HQh.out _ (keep_below HS1.out.keep)).2.1, (HQh.out _ (keep_below HS1.out.keep)).2.2⟩) (fun hHeld => ?_)
          refine pure_ (i := 0) (N := (some 71)) (v := ?_) (a' := ?_) (bs_ 51 1) rfl rfl (by kernel_rfl) (fun _ _ _ h => h) (Or.inl ⟨by rfl, ?_⟩) ?_ ?_
          rotate_left
          · intro w'
            go_simp
            with_reducible rfl
          rotate_left
          · simp only [Act.put, List.setIfInBounds_toArray, List.set_cons_zero, List.set_cons_succ, i64_w, i32_w]
            rfl
          refine pure_ (i := 1) (N := (some 72)) (v := ?_) (a' := ?_) (bs_ 51 3) rfl rfl (by kernel_rfl) (fun _ _ _ h => h) (Or.inl ⟨by rfl, ?_⟩) ?_ ?_
          rotate_left
          · intro w'
            go_simp
            with_reducible rfl
          rotate_left
          · simp only [Act.put, List.setIfInBounds_toArray, List.set_cons_zero, List.set_cons_succ, i64_w, i32_w]
            rfl
          refine pure_ (i := 2) (N := (some 73)) (v := ?_) (a' := ?_) (bs_ 51 7) rfl rfl (by kernel_rfl) (fun _ _ _ h => h) (Or.inl ⟨by rfl, ?_⟩) ?_ ?_
          rotate_left
          · intro w'
            go_simp
            with_reducible rfl
          rotate_left
          · simp only [Act.put, List.setIfInBounds_toArray, List.set_cons_zero, List.set_cons_succ, i64_w, i32_w]
            rfl
          refine pure_ (i := 3) (N := (some 74)) (v := ?_) (a' := ?_) (bs_ 51 15) rfl rfl (by kernel_rfl) (fun _ _ _ h => h) (Or.inl ⟨by rfl, ?_⟩) ?_ ?_
          rotate_left
          · intro w'
            go_simp
            with_reducible rfl
          rotate_left
          · simp only [Act.put, List.setIfInBounds_toArray, List.set_cons_zero, List.set_cons_succ, i64_w, i32_w]
            rfl
          refine pure_ (i := 5) (N := (some 76)) (v := ?_) (a' := ?_) (bs_ 51 47) rfl rfl (by kernel_rfl) (fun _ _ _ h => h) (Or.inl ⟨by rfl, ?_⟩) ?_ ?_
          rotate_left
          · intro w'
            go_simp
            with_reducible rfl
          rotate_left
          · simp only [Act.put, List.setIfInBounds_toArray, List.set_cons_zero, List.set_cons_succ, i64_w, i32_w]
            rfl
          refine pure_ (i := 6) (N := (some 77)) (v := ?_) (a' := ?_) (bs_ 51 111) rfl rfl (by kernel_rfl) (fun _ _ _ h => h) (Or.inl ⟨by rfl, ?_⟩) ?_ ?_
          rotate_left
          · intro w'
            go_simp
            with_reducible rfl
          rotate_left
          · simp only [Act.put, List.setIfInBounds_toArray, List.set_cons_zero, List.set_cons_succ, i64_w, i32_w]
            rfl
          refine pure_ (i := 9) (N := (some 80)) (v := ?_) (a' := ?_) (bs_ 51 623) rfl rfl (by kernel_rfl) (fun _ _ _ h => h) (Or.inl ⟨by rfl, ?_⟩) ?_ ?_
          rotate_left
          · intro w'
            go_simp
            with_reducible rfl
          rotate_left
          · simp only [Act.put, List.setIfInBounds_toArray, List.set_cons_zero, List.set_cons_succ, i64_w, i32_w]
            rfl
          refine pure_ (i := 11) (N := (some 82)) (v := ?_) (a' := ?_) (bs_ 51 2671) rfl rfl (by kernel_rfl) (fun _ _ _ h => h) (Or.inl ⟨by rfl, ?_⟩) ?_ ?_
          rotate_left
          · intro w'
            go_simp
            with_reducible rfl
          rotate_left
          · simp only [Act.put, List.setIfInBounds_toArray, List.set_cons_zero, List.set_cons_succ, i64_w, i32_w]
            rfl
          refine take_ (i := 4) (N := (some 75)) (v := ?_) (a' := ?_) (bs_ 51 2687) rfl rfl (by kernel_rfl) (fun _ _ _ h => h) (Or.inl ⟨by rfl, ?_⟩) hHeld ?_ ?_
          rotate_left
          · rintro w' ⟨s0, s1, s2, s3, s4, s5, s6, s7, s8, s9⟩
            go_simp
            with_reducible rfl
          rotate_left
          · simp only [Act.put, List.setIfInBounds_toArray, List.set_cons_zero, List.set_cons_succ, i64_w, i32_w]
            rfl
          refine pure_ (i := 7) (N := (some 78)) (v := ?_) (a' := ?_) (bs_ 51 2815) rfl rfl (by kernel_rfl) (fun _ _ _ h => h) (Or.inl ⟨by rfl, ?_⟩) ?_ ?_
          rotate_left
          · intro w'
            go_simp
            with_reducible rfl
          rotate_left
          · simp only [Act.put, List.setIfInBounds_toArray, List.set_cons_zero, List.set_cons_succ, i64_w, i32_w]
            rfl
          refine take_ (i := 8) (N := (some 79)) (v := ?_) (a' := ?_) (bs_ 51 3071) rfl rfl (by kernel_rfl) (fun _ _ _ h => h) (Or.inl ⟨by rfl, ?_⟩) hHeld ?_ ?_
          rotate_left
          · rintro w' ⟨s0, s1, s2, s3, s4, s5, s6, s7, s8, s9⟩
            go_simp
            with_reducible rfl
          rotate_left
          · simp only [Act.put, List.setIfInBounds_toArray, List.set_cons_zero, List.set_cons_succ, i64_w, i32_w]
            rfl
          refine take_ (i := 10) (N := (some 81)) (v := ?_) (a' := ?_) (bs_ 51 4095) rfl rfl (by kernel_rfl) (fun _ _ _ h => h) (Or.inl ⟨by rfl, ?_⟩) hHeld ?_ ?_
          rotate_left
          · rintro w' ⟨s0, s1, s2, s3, s4, s5, s6, s7, s8, s9⟩
            go_simp
            with_reducible rfl
          rotate_left
          · simp only [Act.put, List.setIfInBounds_toArray, List.set_cons_zero, List.set_cons_succ, i64_w, i32_w]
            rfl
          refine pure_ (i := 12) (N := (some 83)) (v := ?_) (a' := ?_) (bs_ 51 8191) rfl rfl (by kernel_rfl) (fun _ _ _ h => h) (Or.inl ⟨by rfl, ?_⟩) ?_ ?_
          rotate_left
          · intro w'
            go_simp
            with_reducible rfl
          rotate_left
          · simp only [Act.put, List.setIfInBounds_toArray, List.set_cons_zero, List.set_cons_succ, i64_w, i32_w]
            rfl
          refine take_ (i := 13) (N := (some 84)) (v := ?_) (a' := ?_) (bs_ 51 16383) rfl rfl (by kernel_rfl) (fun _ _ _ h => h) (Or.inl ⟨by rfl, ?_⟩) hHeld ?_ ?_
          rotate_left
          · rintro w' ⟨s0, s1, s2, s3, s4, s5, s6, s7, s8, s9⟩
            go_simp
            with_reducible rfl
          rotate_left
          · simp only [Act.put, List.setIfInBounds_toArray, List.set_cons_zero, List.set_cons_succ, i64_w, i32_w]
            rfl
          refine one_ (i := 14) (N := (some 85)) (bs_ 51 32767) rfl rfl (by kernel_rfl) (by decide) (fun K_ hK => ?_)
          refine goes_ Try.func21 (by kernel_rfl) rfl #[entryV zp, entryV z] (by rfl) rfl rfl (by (try simp only [List.map_toArray, List.map_cons, List.map_nil]); first | done | rfl) ?_
          refine (reforder_calls _ zp z (HSZ.out _ (List.mem_of_getElem? HZP.out)) (HSZ.out _ (List.mem_of_getElem? HZ.out))).mono ?_
          rw [HO1.out]
          rintro E w6 ⟨rfl, hb_⟩
          have HS1_1 := Aside0.mk (HS1.out.below hb_)
          clear hb_
          refine ⟨_, rfl, ?_⟩
          clear hHeld
          refine hK.out _ _ (⟨(blk_cell (HS1_1.out.blk 0 rfl) 1).trans rfl, (HKC.out _ (keep_below HS1_1.out.keep) (i0 + 1) z HZ.out).1, (HKC.out _ (keep_below HS1_1.out.keep) (i0 + 1) z HZ.out).2.1, (HKC.out _ (keep_below HS1_1.out.keep) (i0 + 1) z HZ.out).2.2, (HKC.out _ (keep_below HS1_1.out.keep) i0 zp HZP.out).1, (HKC.out _ (keep_below HS1_1.out.keep) i0 zp HZP.out).2.1, (HKC.out _ (keep_below HS1_1.out.keep) i0 zp HZP.out).2.2, (HQh.out _ (keep_below HS1_1.out.keep)).1, (HQh.out _ (keep_below HS1_1.out.keep)).2.1, (HQh.out _ (keep_below HS1_1.out.keep)).2.2⟩) (fun hHeld => ?_)
          clear hK K_
          refine norm_ (a' := ?_) ?_ ?_
          rotate_left
          · show Act.put _ (some 85) _ = _
            simp only [Act.put, List.setIfInBounds_toArray, List.set_cons_zero, List.set_cons_succ, i64_w, i32_w]
            rfl
          refine pure_ (i := 15) (N := (some 86)) (v := ?_) (a' := ?_) (bs_ 51 65535) rfl rfl (by kernel_rfl) (fun _ _ _ h => h) (Or.inl ⟨by rfl, ?_⟩) ?_ ?_
          rotate_left
          · intro w'
            go_simp
            with_reducible rfl
          rotate_left
          · simp only [Act.put, List.setIfInBounds_toArray, List.set_cons_zero, List.set_cons_succ, i64_w, i32_w]
            rfl
          refine pure_ (i := 16) (N := (some 87)) (v := ?_) (a' := ?_) (bs_ 51 131071) rfl rfl (by kernel_rfl) (fun _ _ _ h => h) (Or.inl ⟨by rfl, ?_⟩) ?_ ?_
          rotate_left
          · intro w'
            go_simp
            with_reducible rfl
          rotate_left
          · simp only [Act.put, List.setIfInBounds_toArray, List.set_cons_zero, List.set_cons_succ, i64_w, i32_w]
            rfl
          refine pure_ (i := 17) (N := (some 88)) (v := ?_) (a' := ?_) (bs_ 51 262143) rfl rfl (by kernel_rfl) (fun _ _ _ h => h) (Or.inl ⟨by rfl, ?_⟩) ?_ ?_
          rotate_left
          · intro w'
            go_simp
            with_reducible rfl
          rotate_left
          · simp only [Act.put, List.setIfInBounds_toArray, List.set_cons_zero, List.set_cons_succ, i64_w, i32_w]
            rfl
          refine pure_ (i := 18) (N := (some 89)) (v := ?_) (a' := ?_) (bs_ 51 524287) rfl rfl (by kernel_rfl) (fun _ _ _ h => h) (Or.inl ⟨by rfl, ?_⟩) ?_ ?_
          rotate_left
          · intro w'
            go_simp
            with_reducible rfl
          rotate_left
          · simp only [Act.put, List.setIfInBounds_toArray, List.set_cons_zero, List.set_cons_succ, i64_w, i32_w]
            rfl
          refine pure_ (i := 19) (N := (some 90)) (v := ?_) (a' := ?_) (bs_ 51 1048575) rfl rfl (by kernel_rfl) (fun _ _ _ h => h) (Or.inl ⟨by rfl, ?_⟩) ?_ ?_
          rotate_left
          · intro w'
            go_simp
            with_reducible rfl
          rotate_left
          · simp only [Act.put, List.setIfInBounds_toArray, List.set_cons_zero, List.set_cons_succ, i64_w, i32_w]
            rfl
          refine pure_ (i := 20) (N := (some 91)) (v := ?_) (a' := ?_) (bs_ 51 2097151) rfl rfl (by kernel_rfl) (fun _ _ _ h => h) (Or.inl ⟨by rfl, ?_⟩) ?_ ?_
          rotate_left
          · intro w'
            go_simp
            with_reducible rfl
          rotate_left
          · simp only [Act.put, List.setIfInBounds_toArray, List.set_cons_zero, List.set_cons_succ, i64_w, i32_w]
            rfl
          refine pure_ (i := 21) (N := (some 92)) (v := ?_) (a' := ?_) (bs_ 51 4194303) rfl rfl (by kernel_rfl) (fun _ _ _ h => h) (Or.inl ⟨by rfl, ?_⟩) ?_ ?_
          rotate_left
          · intro w'
            go_simp
            with_reducible rfl
          rotate_left
          · simp only [Act.put, List.setIfInBounds_toArray, List.set_cons_zero, List.set_cons_succ, i64_w, i32_w]
            rfl
          refine pure_ (i := 22) (N := (some 93)) (v := undef) (a' := ?_) (bs_ 51 8388607) rfl rfl (by kernel_rfl) (fun _ _ _ h => h) (Or.inr ⟨by rfl, rfl⟩) ?_ ?_
          rotate_left
          · simp only [Act.put, List.setIfInBounds_toArray, List.set_cons_zero, List.set_cons_succ, i64_w, i32_w]
            rfl
          refine pure_ (i := 24) (N := (some 95)) (v := undef) (a' := ?_) (bs_ 51 25165823) rfl rfl (by kernel_rfl) (fun _ _ _ h => h) (Or.inr ⟨by rfl, rfl⟩) ?_ ?_
          rotate_left
          · simp only [Act.put, List.setIfInBounds_toArray, List.set_cons_zero, List.set_cons_succ, i64_w, i32_w]
            rfl
          refine pure_ (i := 27) (N := (some 98)) (v := undef) (a' := ?_) (bs_ 51 159383551) rfl rfl (by kernel_rfl) (fun _ _ _ h => h) (Or.inr ⟨by rfl, rfl⟩) ?_ ?_
          rotate_left
          · simp only [Act.put, List.setIfInBounds_toArray, List.set_cons_zero, List.set_cons_succ, i64_w, i32_w]
            rfl
          refine pure_ (i := 28) (N := (some 99)) (v := undef) (a' := ?_) (bs_ 51 427819007) rfl rfl (by kernel_rfl) (fun _ _ _ h => h) (Or.inr ⟨by rfl, rfl⟩) ?_ ?_
          rotate_left
          · simp only [Act.put, List.setIfInBounds_toArray, List.set_cons_zero, List.set_cons_succ, i64_w, i32_w]
            rfl
          refine pure_ (i := 23) (N := (some 94)) (v := undef) (a' := ?_) (bs_ 51 436207615) rfl rfl (by kernel_rfl) (fun _ _ _ h => h) (Or.inr ⟨by rfl, rfl⟩) ?_ ?_
          rotate_left
          · simp only [Act.put, List.setIfInBounds_toArray, List.set_cons_zero, List.set_cons_succ, i64_w, i32_w]
            rfl
          refine pure_ (i := 25) (N := (some 96)) (v := undef) (a' := ?_) (bs_ 51 469762047) rfl rfl (by kernel_rfl) (fun _ _ _ h => h) (Or.inr ⟨by rfl, rfl⟩) ?_ ?_
          rotate_left
          · simp only [Act.put, List.setIfInBounds_toArray, List.set_cons_zero, List.set_cons_succ, i64_w, i32_w]
            rfl
          refine pure_ (i := 26) (N := (some 97)) (v := undef) (a' := ?_) (bs_ 51 536870911) rfl rfl (by kernel_rfl) (fun _ _ _ h => h) (Or.inr ⟨by rfl, rfl⟩) ?_ ?_
          rotate_left
          · simp only [Act.put, List.setIfInBounds_toArray, List.set_cons_zero, List.set_cons_succ, i64_w, i32_w]
            rfl
          refine pure_ (i := 29) (N := (some 100)) (v := undef) (a' := ?_) (bs_ 51 1073741823) rfl rfl (by kernel_rfl) (fun _ _ _ h => h) (Or.inr ⟨by rfl, rfl⟩) ?_ ?_
          rotate_left
          · simp only [Act.put, List.setIfInBounds_toArray, List.set_cons_zero, List.set_cons_succ, i64_w, i32_w]
            rfl
          refine one_ (i := 30) (N := (some 101)) (bs_ 51 2147483647) rfl rfl (by kernel_rfl) (by decide) (fun K_ hK => ?_)
          refine no_ (by rfl) ?_
          refine hK.out _ _ hHeld (fun hHeld => ?_)
          clear hK K_
          refine norm_ (a' := ?_) ?_ ?_
          rotate_left
          · show Act.put _ (some 101) _ = _
            simp only [Act.put, List.setIfInBounds_toArray, List.set_cons_zero, List.set_cons_succ, i64_w, i32_w]
            rfl
          refine pure_ (i := 31) (N := (some 102)) (v := undef) (a' := ?_) (bs_ 51 4294967295) rfl rfl (by kernel_rfl) (fun _ _ _ h => h) (Or.inr ⟨by rfl, rfl⟩) ?_ ?_
          rotate_left
          · simp only [Act.put, List.setIfInBounds_toArray, List.set_cons_zero, List.set_cons_succ, i64_w, i32_w]
            rfl
          refine pure_ (i := 32) (N := (some 103)) (v := ?_) (a' := ?_) (bs_ 51 8589934591) rfl rfl (by kernel_rfl) (fun _ _ _ h => h) (Or.inl ⟨by rfl, ?_⟩) ?_ ?_
          rotate_left
          · intro w'
            go_simp
            with_reducible rfl
          rotate_left
          · simp only [Act.put, List.setIfInBounds_toArray, List.set_cons_zero, List.set_cons_succ, i64_w, i32_w]
            rfl
          refine pure_ (i := 33) (N := (some 104)) (v := ?_) (a' := ?_) (bs_ 51 17179869183) rfl rfl (by kernel_rfl) (fun _ _ _ h => h) (Or.inl ⟨by rfl, ?_⟩) ?_ ?_
          rotate_left
          · intro w'
            go_simp
            with_reducible rfl
          rotate_left
          · simp only [Act.put, List.setIfInBounds_toArray, List.set_cons_zero, List.set_cons_succ, i64_w, i32_w]
            rfl
          refine pure_ (i := 34) (N := (some 105)) (v := ?_) (a' := ?_) (bs_ 51 34359738367) rfl rfl (by kernel_rfl) (fun _ _ _ h => h) (Or.inl ⟨by rfl, ?_⟩) ?_ ?_
          rotate_left
          · intro w'
            go_simp
            with_reducible rfl
          rotate_left
          · simp only [Act.put, List.setIfInBounds_toArray, List.set_cons_zero, List.set_cons_succ, i64_w, i32_w]
            rfl
          refine pure_ (i := 35) (N := (some 106)) (v := ?_) (a' := ?_) (bs_ 51 68719476735) rfl rfl (by kernel_rfl) (fun _ _ _ h => h) (Or.inl ⟨by rfl, ?_⟩) ?_ ?_
          rotate_left
          · intro w'
            go_simp
            with_reducible rfl
          rotate_left
          · simp only [Act.put, List.setIfInBounds_toArray, List.set_cons_zero, List.set_cons_succ, i64_w, i32_w]
            rfl
          refine pure_ (i := 36) (N := (some 107)) (v := ?_) (a' := ?_) (bs_ 51 137438953471) rfl rfl (by kernel_rfl) (fun _ _ _ h => h) (Or.inl ⟨by rfl, ?_⟩) ?_ ?_
          rotate_left
          · intro w'
            go_simp
            with_reducible rfl
          rotate_left
          · simp only [Act.put, List.setIfInBounds_toArray, List.set_cons_zero, List.set_cons_succ, i64_w, i32_w]
            rfl
          refine pure_ (i := 37) (N := (some 108)) (v := ?_) (a' := ?_) (bs_ 51 274877906943) rfl rfl (by kernel_rfl) (fun _ _ _ h => h) (Or.inl ⟨by rfl, ?_⟩) ?_ ?_
          rotate_left
          · intro w'
            go_simp
            with_reducible rfl
          rotate_left
          · simp only [Act.put, List.setIfInBounds_toArray, List.set_cons_zero, List.set_cons_succ, i64_w, i32_w]
            rfl
          refine pure_ (i := 38) (N := (some 109)) (v := ?_) (a' := ?_) (bs_ 51 549755813887) rfl rfl (by kernel_rfl) (fun _ _ _ h => h) (Or.inl ⟨by rfl, ?_⟩) ?_ ?_
          rotate_left
          · intro w'
            go_simp
            with_reducible rfl
          rotate_left
          · simp only [Act.put, List.setIfInBounds_toArray, List.set_cons_zero, List.set_cons_succ, i64_w, i32_w]
            rfl
          refine pure_ (i := 39) (N := (some 110)) (v := ?_) (a' := ?_) (bs_ 51 1099511627775) rfl rfl (by kernel_rfl) (fun _ _ _ h => h) (Or.inl ⟨by rfl, ?_⟩) ?_ ?_
          rotate_left
          · intro w'
            go_simp
            with_reducible rfl
          rotate_left
          · simp only [Act.put, List.setIfInBounds_toArray, List.set_cons_zero, List.set_cons_succ, i64_w, i32_w]
            rfl
          refine pure_ (i := 41) (N := (some 112)) (v := ?_) (a' := ?_) (bs_ 51 3298534883327) rfl rfl (by kernel_rfl) (fun _ _ _ h => h) (Or.inl ⟨by rfl, ?_⟩) ?_ ?_
          rotate_left
          · intro w'
            go_simp
            with_reducible rfl
          rotate_left
          · simp only [Act.put, List.setIfInBounds_toArray, List.set_cons_zero, List.set_cons_succ, i64_w, i32_w]
            rfl
          refine pure_ (i := 44) (N := (some 115)) (v := ?_) (a' := ?_) (bs_ 51 20890720927743) rfl rfl (by kernel_rfl) (fun _ _ _ h => h) (Or.inl ⟨by rfl, ?_⟩) ?_ ?_
          rotate_left
          · intro w'
            go_simp
            with_reducible rfl
          rotate_left
          · simp only [Act.put, List.setIfInBounds_toArray, List.set_cons_zero, List.set_cons_succ, i64_w, i32_w]
            rfl
          refine pure_ (i := 45) (N := (some 116)) (v := ?_) (a' := ?_) (bs_ 51 56075093016575) rfl rfl (by kernel_rfl) (fun _ _ _ h => h) (Or.inl ⟨by rfl, ?_⟩) ?_ ?_
          rotate_left
          · intro w'
            go_simp
            with_reducible rfl
          rotate_left
          · simp only [Act.put, List.setIfInBounds_toArray, List.set_cons_zero, List.set_cons_succ, i64_w, i32_w]
            rfl
          refine take_ (i := 40) (N := (some 111)) (v := ?_) (a' := ?_) (bs_ 51 57174604644351) rfl rfl (by kernel_rfl) (fun _ _ _ h => h) (Or.inl ⟨by rfl, ?_⟩) hHeld ?_ ?_
          rotate_left
          · rintro w' ⟨s0, s1, s2, s3, s4, s5, s6, s7, s8, s9⟩
            go_simp
            with_reducible rfl
          rotate_left
          · simp only [Act.put, List.setIfInBounds_toArray, List.set_cons_zero, List.set_cons_succ, i64_w, i32_w]
            rfl
          refine pure_ (i := 42) (N := (some 113)) (v := ?_) (a' := ?_) (bs_ 51 61572651155455) rfl rfl (by kernel_rfl) (fun _ _ _ h => h) (Or.inl ⟨by rfl, ?_⟩) ?_ ?_
          rotate_left
          · intro w'
            go_simp
            with_reducible rfl
          rotate_left
          · simp only [Act.put, List.setIfInBounds_toArray, List.set_cons_zero, List.set_cons_succ, i64_w, i32_w]
            rfl
          refine take_ (i := 43) (N := (some 114)) (v := ?_) (a' := ?_) (bs_ 51 70368744177663) rfl rfl (by kernel_rfl) (fun _ _ _ h => h) (Or.inl ⟨by rfl, ?_⟩) hHeld ?_ ?_
          rotate_left
          · rintro w' ⟨s0, s1, s2, s3, s4, s5, s6, s7, s8, s9⟩
            go_simp
            with_reducible rfl
          rotate_left
          · simp only [Act.put, List.setIfInBounds_toArray, List.set_cons_zero, List.set_cons_succ, i64_w, i32_w]
            rfl
          refine take_ (i := 46) (N := (some 117)) (v := ?_) (a' := ?_) (bs_ 51 140737488355327) rfl rfl (by kernel_rfl) (fun _ _ _ h => h) (Or.inl ⟨by rfl, ?_⟩) hHeld ?_ ?_
          rotate_left
          · rintro w' ⟨s0, s1, s2, s3, s4, s5, s6, s7, s8, s9⟩
            go_simp
            with_reducible rfl
          rotate_left
          · simp only [Act.put, List.setIfInBounds_toArray, List.set_cons_zero, List.set_cons_succ, i64_w, i32_w]
            rfl
          refine one_ (i := 47) (N := (some 118)) (bs_ 51 281474976710655) rfl rfl (by kernel_rfl) (by decide) (fun K_ hK => ?_)
          refine goes_ Try.func21 (by kernel_rfl) rfl #[entryV z, entryV xh] (by rfl) rfl rfl (by (try simp only [List.map_toArray, List.map_cons, List.map_nil]); first | done | rfl) ?_
          refine (reforder_calls _ z xh (HSZ.out _ (List.mem_of_getElem? HZ.out)) (HSZH.out _ (by simp))).mono ?_
          rw [HO3.out]
          rintro E w7 ⟨rfl, hb_⟩
          have HS1_2 := Aside0.mk (HS1_1.out.below hb_)
          clear hb_
          refine ⟨_, rfl, ?_⟩
          clear hHeld
          refine hK.out _ _ (⟨(blk_cell (HS1_2.out.blk 0 rfl) 1).trans rfl, (HKC.out _ (keep_below HS1_2.out.keep) (i0 + 1) z HZ.out).1, (HKC.out _ (keep_below HS1_2.out.keep) (i0 + 1) z HZ.out).2.1, (HKC.out _ (keep_below HS1_2.out.keep) (i0 + 1) z HZ.out).2.2, (HKC.out _ (keep_below HS1_2.out.keep) i0 zp HZP.out).1, (HKC.out _ (keep_below HS1_2.out.keep) i0 zp HZP.out).2.1, (HKC.out _ (keep_below HS1_2.out.keep) i0 zp HZP.out).2.2, (HQh.out _ (keep_below HS1_2.out.keep)).1, (HQh.out _ (keep_below HS1_2.out.keep)).2.1, (HQh.out _ (keep_below HS1_2.out.keep)).2.2⟩) (fun hHeld => ?_)
          clear hK K_
          refine norm_ (a' := ?_) ?_ ?_
          rotate_left
          · show Act.put _ (some 118) _ = _
            simp only [Act.put, List.setIfInBounds_toArray, List.set_cons_zero, List.set_cons_succ, i64_w, i32_w]
            rfl
          refine pure_ (i := 48) (N := (some 119)) (v := ?_) (a' := ?_) (bs_ 51 562949953421311) rfl rfl (by kernel_rfl) (fun _ _ _ h => h) (Or.inl ⟨by rfl, ?_⟩) ?_ ?_
          rotate_left
          · intro w'
            go_simp
            with_reducible rfl
          rotate_left
          · simp only [Act.put, List.setIfInBounds_toArray, List.set_cons_zero, List.set_cons_succ, i64_w, i32_w]
            rfl
          refine pure_ (i := 49) (N := (some 120)) (v := ?_) (a' := ?_) (bs_ 51 1125899906842623) rfl rfl (by kernel_rfl) (fun _ _ _ h => h) (Or.inl ⟨by rfl, ?_⟩) ?_ ?_
          rotate_left
          · intro w'
            go_simp
            with_reducible rfl
          rotate_left
          · simp only [Act.put, List.setIfInBounds_toArray, List.set_cons_zero, List.set_cons_succ, i64_w, i32_w]
            rfl
          refine pure_ (i := 50) (N := (some 121)) (v := ?_) (a' := ?_) (bs_ 51 2251799813685247) rfl rfl (by kernel_rfl) (fun _ _ _ h => h) (Or.inl ⟨by rfl, ?_⟩) ?_ ?_
          rotate_left
          · intro w'
            go_simp
            with_reducible rfl
          rotate_left
          · simp only [Act.put, List.setIfInBounds_toArray, List.set_cons_zero, List.set_cons_succ, i64_w, i32_w]
            rfl
          refine done_ (by kernel_rfl) ?_
          clear hHeld HKC HZ HSRT HSZ HOK HSZL HSZH HLO HHI
          clear him1 hb0 hb1 hb2 hb4 hb5 hb6 hw0 HZP
          go_wp2
          go_roundg gq
          case measure => omega
          case rel => exact ⟨i0 + 1 + 1, by go_num, by omega, HS1_2⟩
      · have HQl := Aside0.mk (show ∀ W' : World, Below W.heap.size W W' → W'.cell? ⟨gl, ol, none⟩ = some (.string xl.f0) ∧ W'.cell? ⟨gl, ol + 1, none⟩ = some (.int .i64 xl.f1.f0) ∧ W'.cell? ⟨gl, ol + 2, none⟩ = some (.int .i64 xl.f1.f1) from fun W' hb => ⟨pw_cell_below hb ql0, pw_cell_below hb ql1, pw_cell_below hb ql2⟩)
        clear ql0 ql1 ql2
        obtain ⟨o2, ho2⟩ : ∃ o, ord z xl = o := ⟨_, rfl⟩
        have HO2 := Aside0.mk ho2
        have hq2 : decide (o2 < 0) = false := decide_eq_false (by have := HLO.out z (List.mem_of_getElem? hz) xl (by simp); rw [ho2] at this; omega)
        clear ho2
        clear hz hv hnc
        cases i with
        | zero =>
          have hb3 : (0 : Int) < (n : Int) := by omega
          go_wp2
          clear HS
          refine start_ (n := 51) (S := fun w' => w'.cell? ⟨xb, 1, none⟩ = some (.slice (some ⟨g, 0, none⟩) n cK) ∧ w'.cell? ⟨g, 0 * 3, none⟩ = some (.string z.f0) ∧ w'.cell? ⟨g, 0 * 3 + 1, none⟩ = some (.int .i64 z.f1.f0) ∧ w'.cell? ⟨g, 0 * 3 + 2, none⟩ = some (.int .i64 z.f1.f1) ∧ w'.cell? ⟨gl, ol, none⟩ = some (.string xl.f0) ∧ w'.cell? ⟨gl, ol + 1, none⟩ = some (.int .i64 xl.f1.f0) ∧ w'.cell? ⟨gl, ol + 2, none⟩ = some (.int .i64 xl.f1.f1)) (ds := []) #[false, false, false, false, false, false, false, false, false, false, false, false, false, false, false, false, false, false, false, false, false, false, false, false, false, false, false, false, false, false, false, false, false, false, false, false, false, false, false, false, false, false, false, false, false, false, false, false, false, false, false] (by kernel_rfl) rfl rfl (⟨(blk_cell (HS1.out.blk 0 rfl) 1).trans rfl, (HKC.out _ (keep_below HS1.out.keep) 0 z HZ.out).1, (HKC.out _ (keep_below HS1.out.keep) 0 z HZ.out).2.1, (HKC.out _ (keep_below HS1.out.keep) 0 z HZ.out).2.2, (HQl.out _ (keep_below HS1.out.keep)).1, (HQl.out _ (keep_below HS1.out.keep)).2.1, (HQl.out _ (keep_below HS1.out.keep)).2.2⟩) (fun hHeld => ?_)
          refine pure_ (i := 0) (N := (some 71)) (v := ?_) (a' := ?_) (bs_ 51 1) rfl rfl (by kernel_rfl) (fun _ _ _ h => h) (Or.inl ⟨by rfl, ?_⟩) ?_ ?_
          rotate_left
          · intro w'
            go_simp
            with_reducible rfl
          rotate_left
          · simp only [Act.put, List.setIfInBounds_toArray, List.set_cons_zero, List.set_cons_succ, i64_w, i32_w]
            rfl
          refine pure_ (i := 1) (N := (some 72)) (v := ?_) (a' := ?_) (bs_ 51 3) rfl rfl (by kernel_rfl) (fun _ _ _ h => h) (Or.inl ⟨by rfl, ?_⟩) ?_ ?_
          rotate_left
          · intro w'
            go_simp
            with_reducible rfl
          rotate_left
          · simp only [Act.put, List.setIfInBounds_toArray, List.set_cons_zero, List.set_cons_succ, i64_w, i32_w]
            rfl
          refine pure_ (i := 2) (N := (some 73)) (v := ?_) (a' := ?_) (bs_ 51 7) rfl rfl (by kernel_rfl) (fun _ _ _ h => h) (Or.inl ⟨by rfl, ?_⟩) ?_ ?_
          rotate_left
          · intro w'
            go_simp
            with_reducible rfl
          rotate_left
          · simp only [Act.put, List.setIfInBounds_toArray, List.set_cons_zero, List.set_cons_succ, i64_w, i32_w]
            rfl
          refine pure_ (i := 3) (N := (some 74)) (v := undef) (a' := ?_) (bs_ 51 15) rfl rfl (by kernel_rfl) (fun _ _ _ h => h) (Or.inr ⟨by rfl, rfl⟩) ?_ ?_
          rotate_left
          · simp only [Act.put, List.setIfInBounds_toArray, List.set_cons_zero, List.set_cons_succ, i64_w, i32_w]
            rfl
          refine pure_ (i := 5) (N := (some 76)) (v := undef) (a' := ?_) (bs_ 51 47) rfl rfl (by kernel_rfl) (fun _ _ _ h => h) (Or.inr ⟨by rfl, rfl⟩) ?_ ?_
          rotate_left
          · simp only [Act.put, List.setIfInBounds_toArray, List.set_cons_zero, List.set_cons_succ, i64_w, i32_w]
            rfl
          refine pure_ (i := 6) (N := (some 77)) (v := undef) (a' := ?_) (bs_ 51 111) rfl rfl (by kernel_rfl) (fun _ _ _ h => h) (Or.inr ⟨by rfl, rfl⟩) ?_ ?_
          rotate_left
          · simp only [Act.put, List.setIfInBounds_toArray, List.set_cons_zero, List.set_cons_succ, i64_w, i32_w]
            rfl
          refine pure_ (i := 9) (N := (some 80)) (v := undef) (a' := ?_) (bs_ 51 623) rfl rfl (by kernel_rfl) (fun _ _ _ h => h) (Or.inr ⟨by rfl, rfl⟩) ?_ ?_
          rotate_left
          · simp only [Act.put, List.setIfInBounds_toArray, List.set_cons_zero, List.set_cons_succ, i64_w, i32_w]
            rfl
          refine pure_ (i := 11) (N := (some 82)) (v := undef) (a' := ?_) (bs_ 51 2671) rfl rfl (by kernel_rfl) (fun _ _ _ h => h) (Or.inr ⟨by rfl, rfl⟩) ?_ ?_
          rotate_left
          · simp only [Act.put, List.setIfInBounds_toArray, List.set_cons_zero, List.set_cons_succ, i64_w, i32_w]
            rfl
          refine pure_ (i := 4) (N := (some 75)) (v := undef) (a' := ?_) (bs_ 51 2687) rfl rfl (by kernel_rfl) (fun _ _ _ h => h) (Or.inr ⟨by rfl, rfl⟩) ?_ ?_
          rotate_left
          · simp only [Act.put, List.setIfInBounds_toArray, List.set_cons_zero, List.set_cons_succ, i64_w, i32_w]
            rfl
          refine pure_ (i := 7) (N := (some 78)) (v := undef) (a' := ?_) (bs_ 51 2815) rfl rfl (by kernel_rfl) (fun _ _ _ h => h) (Or.inr ⟨by rfl, rfl⟩) ?_ ?_
          rotate_left
          · simp only [Act.put, List.setIfInBounds_toArray, List.set_cons_zero, List.set_cons_succ, i64_w, i32_w]
            rfl
          refine pure_ (i := 8) (N := (some 79)) (v := undef) (a' := ?_) (bs_ 51 3071) rfl rfl (by kernel_rfl) (fun _ _ _ h => h) (Or.inr ⟨by rfl, rfl⟩) ?_ ?_
          rotate_left
          · simp only [Act.put, List.setIfInBounds_toArray, List.set_cons_zero, List.set_cons_succ, i64_w, i32_w]
            rfl
          refine pure_ (i := 10) (N := (some 81)) (v := undef) (a' := ?_) (bs_ 51 4095) rfl rfl (by kernel_rfl) (fun _ _ _ h => h) (Or.inr ⟨by rfl, rfl⟩) ?_ ?_
          rotate_left
          · simp only [Act.put, List.setIfInBounds_toArray, List.set_cons_zero, List.set_cons_succ, i64_w, i32_w]
            rfl
          refine pure_ (i := 12) (N := (some 83)) (v := undef) (a' := ?_) (bs_ 51 8191) rfl rfl (by kernel_rfl) (fun _ _ _ h => h) (Or.inr ⟨by rfl, rfl⟩) ?_ ?_
          rotate_left
          · simp only [Act.put, List.setIfInBounds_toArray, List.set_cons_zero, List.set_cons_succ, i64_w, i32_w]
            rfl
          refine pure_ (i := 13) (N := (some 84)) (v := undef) (a' := ?_) (bs_ 51 16383) rfl rfl (by kernel_rfl) (fun _ _ _ h => h) (Or.inr ⟨by rfl, rfl⟩) ?_ ?_
          rotate_left
          · simp only [Act.put, List.setIfInBounds_toArray, List.set_cons_zero, List.set_cons_succ, i64_w, i32_w]
            rfl
          refine one_ (i := 14) (N := (some 85)) (bs_ 51 32767) rfl rfl (by kernel_rfl) (by decide) (fun K_ hK => ?_)
          refine no_ (by rfl) ?_
          refine hK.out _ _ hHeld (fun hHeld => ?_)
          clear hK K_
          refine norm_ (a' := ?_) ?_ ?_
          rotate_left
          · show Act.put _ (some 85) _ = _
            simp only [Act.put, List.setIfInBounds_toArray, List.set_cons_zero, List.set_cons_succ, i64_w, i32_w]
            rfl
          refine pure_ (i := 15) (N := (some 86)) (v := undef) (a' := ?_) (bs_ 51 65535) rfl rfl (by kernel_rfl) (fun _ _ _ h => h) (Or.inr ⟨by rfl, rfl⟩) ?_ ?_
          rotate_left
          · simp only [Act.put, List.setIfInBounds_toArray, List.set_cons_zero, List.set_cons_succ, i64_w, i32_w]
            rfl
          refine pure_ (i := 16) (N := (some 87)) (v := ?_) (a' := ?_) (bs_ 51 131071) rfl rfl (by kernel_rfl) (fun _ _ _ h => h) (Or.inl ⟨by rfl, ?_⟩) ?_ ?_
          rotate_left
          · intro w'
            go_simp
            with_reducible rfl
          rotate_left
          · simp only [Act.put, List.setIfInBounds_toArray, List.set_cons_zero, List.set_cons_succ, i64_w, i32_w]
            rfl
          refine pure_ (i := 17) (N := (some 88)) (v := ?_) (a' := ?_) (bs_ 51 262143) rfl rfl (by kernel_rfl) (fun _ _ _ h => h) (Or.inl ⟨by rfl, ?_⟩) ?_ ?_
          rotate_left
          · intro w'
            go_simp
            with_reducible rfl
          rotate_left
          · simp only [Act.put, List.setIfInBounds_toArray, List.set_cons_zero, List.set_cons_succ, i64_w, i32_w]
            rfl
          refine pure_ (i := 18) (N := (some 89)) (v := ?_) (a' := ?_) (bs_ 51 524287) rfl rfl (by kernel_rfl) (fun _ _ _ h => h) (Or.inl ⟨by rfl, ?_⟩) ?_ ?_
          rotate_left
          · intro w'
            go_simp
            with_reducible rfl
          rotate_left
          · simp only [Act.put, List.setIfInBounds_toArray, List.set_cons_zero, List.set_cons_succ, i64_w, i32_w]
            rfl
          refine pure_ (i := 19) (N := (some 90)) (v := ?_) (a' := ?_) (bs_ 51 1048575) rfl rfl (by kernel_rfl) (fun _ _ _ h => h) (Or.inl ⟨by rfl, ?_⟩) ?_ ?_
          rotate_left
          · intro w'
            go_simp
            with_reducible rfl
          rotate_left
          · simp only [Act.put, List.setIfInBounds_toArray, List.set_cons_zero, List.set_cons_succ, i64_w, i32_w]
            rfl
          refine pure_ (i := 20) (N := (some 91)) (v := ?_) (a' := ?_) (bs_ 51 2097151) rfl rfl (by kernel_rfl) (fun _ _ _ h => h) (Or.inl ⟨by rfl, ?_⟩) ?_ ?_
          rotate_left
          · intro w'
            go_simp
            with_reducible rfl
          rotate_left
          · simp only [Act.put, List.setIfInBounds_toArray, List.set_cons_zero, List.set_cons_succ, i64_w, i32_w]
            rfl
          refine pure_ (i := 21) (N := (some 92)) (v := ?_) (a' := ?_) (bs_ 51 4194303) rfl rfl (by kernel_rfl) (fun _ _ _ h => h) (Or.inl ⟨by rfl, ?_⟩) ?_ ?_
          rotate_left
          · intro w'
            go_simp
            with_reducible rfl
          rotate_left
          · simp only [Act.put, List.setIfInBounds_toArray, List.set_cons_zero, List.set_cons_succ, i64_w, i32_w]
            rfl
          refine pure_ (i := 22) (N := (some 93)) (v := ?_) (a' := ?_) (bs_ 51 8388607) rfl rfl (by kernel_rfl) (fun _ _ _ h => h) (Or.inl ⟨by rfl, ?_⟩) ?_ ?_
          rotate_left
          · intro w'
            go_simp
            with_reducible rfl
          rotate_left
          · simp only [Act.put, List.setIfInBounds_toArray, List.set_cons_zero, List.set_cons_succ, i64_w, i32_w]
            rfl
          refine pure_ (i := 24) (N := (some 95)) (v := ?_) (a' := ?_) (bs_ 51 25165823) rfl rfl (by kernel_rfl) (fun _ _ _ h => h) (Or.inl ⟨by rfl, ?_⟩) ?_ ?_
          rotate_left
          · intro w'
            go_simp
            with_reducible rfl
          rotate_left
          · simp only [Act.put, List.setIfInBounds_toArray, List.set_cons_zero, List.set_cons_succ, i64_w, i32_w]
            rfl
          refine pure_ (i := 27) (N := (some 98)) (v := ?_) (a' := ?_) (bs_ 51 159383551) rfl rfl (by kernel_rfl) (fun _ _ _ h => h) (Or.inl ⟨by rfl, ?_⟩) ?_ ?_
          rotate_left
          · intro w'
            go_simp
            with_reducible rfl
          rotate_left
          · simp only [Act.put, List.setIfInBounds_toArray, List.set_cons_zero, List.set_cons_succ, i64_w, i32_w]
            rfl
          refine pure_ (i := 28) (N := (some 99)) (v := ?_) (a' := ?_) (bs_ 51 427819007) rfl rfl (by kernel_rfl) (fun _ _ _ h => h) (Or.inl ⟨by rfl, ?_⟩) ?_ ?_
          rotate_left
          · intro w'
            go_simp
            with_reducible rfl
          rotate_left
          · simp only [Act.put, List.setIfInBounds_toArray, List.set_cons_zero, List.set_cons_succ, i64_w, i32_w]
            rfl
          refine take_ (i := 23) (N := (some 94)) (v := ?_) (a' := ?_) (bs_ 51 436207615) rfl rfl (by kernel_rfl) (fun _ _ _ h => h) (Or.inl ⟨by rfl, ?_⟩) hHeld ?_ ?_
          rotate_left
          · rintro w' ⟨s0, s1, s2, s3, s4, s5, s6⟩
            go_simp
            with_reducible rfl
          rotate_left
          · simp only [Act.put, List.setIfInBounds_toArray, List.set_cons_zero, List.set_cons_succ, i64_w, i32_w]
            rfl
          refine pure_ (i := 25) (N := (some 96)) (v := ?_) (a' := ?_) (bs_ 51 469762047) rfl rfl (by kernel_rfl) (fun _ _ _ h => h) (Or.inl ⟨by rfl, ?_⟩) ?_ ?_
          rotate_left
          · intro w'
            go_simp
            with_reducible rfl
          rotate_left
          · simp only [Act.put, List.setIfInBounds_toArray, List.set_cons_zero, List.set_cons_succ, i64_w, i32_w]
            rfl
          refine take_ (i := 26) (N := (some 97)) (v := ?_) (a' := ?_) (bs_ 51 536870911) rfl rfl (by kernel_rfl) (fun _ _ _ h => h) (Or.inl ⟨by rfl, ?_⟩) hHeld ?_ ?_
          rotate_left
          · rintro w' ⟨s0, s1, s2, s3, s4, s5, s6⟩
            go_simp
            with_reducible rfl
          rotate_left
          · simp only [Act.put, List.setIfInBounds_toArray, List.set_cons_zero, List.set_cons_succ, i64_w, i32_w]
            rfl
          refine take_ (i := 29) (N := (some 100)) (v := ?_) (a' := ?_) (bs_ 51 1073741823) rfl rfl (by kernel_rfl) (fun _ _ _ h => h) (Or.inl ⟨by rfl, ?_⟩) hHeld ?_ ?_
          rotate_left
          · rintro w' ⟨s0, s1, s2, s3, s4, s5, s6⟩
            go_simp
            with_reducible rfl
          rotate_left
          · simp only [Act.put, List.setIfInBounds_toArray, List.set_cons_zero, List.set_cons_succ, i64_w, i32_w]
            rfl
          refine one_ (i := 30) (N := (some 101)) (bs_ 51 2147483647) rfl rfl (by kernel_rfl) (by decide) (fun K_ hK => ?_)
          refine goes_ Try.func21 (by kernel_rfl) rfl #[entryV z, entryV xl] (by rfl) rfl rfl (by (try simp only [List.map_toArray, List.map_cons, List.map_nil]); first | done | rfl) ?_
          refine (reforder_calls _ z xl (HSZ.out _ (List.mem_of_getElem? HZ.out)) (HSZL.out _ (by simp))).mono ?_
          rw [HO2.out]
          rintro E w6 ⟨rfl, hb_⟩
          have HS1_1 := Aside0.mk (HS1.out.below hb_)
          clear hb_
          refine ⟨_, rfl, ?_⟩
          clear hHeld
          refine hK.out _ _ (⟨(blk_cell (HS1_1.out.blk 0 rfl) 1).trans rfl, (HKC.out _ (keep_below HS1_1.out.keep) 0 z HZ.out).1, (HKC.out _ (keep_below HS1_1.out.keep) 0 z HZ.out).2.1, (HKC.out _ (keep_below HS1_1.out.keep) 0 z HZ.out).2.2, (HQl.out _ (keep_below HS1_1.out.keep)).1, (HQl.out _ (keep_below HS1_1.out.keep)).2.1, (HQl.out _ (keep_below HS1_1.out.keep)).2.2⟩) (fun hHeld => ?_)
          clear hK K_
          refine norm_ (a' := ?_) ?_ ?_
          rotate_left
          · show Act.put _ (some 101) _ = _
            simp only [Act.put, List.setIfInBounds_toArray, List.set_cons_zero, List.set_cons_succ, i64_w, i32_w]
            rfl
          refine pure_ (i := 31) (N := (some 102)) (v := ?_) (a' := ?_) (bs_ 51 4294967295) rfl rfl (by kernel_rfl) (fun _ _ _ h => h) (Or.inl ⟨by rfl, ?_⟩) ?_ ?_
          rotate_left
          · intro w'
            go_simp
            with_reducible rfl
          rotate_left
          · simp only [Act.put, List.setIfInBounds_toArray, List.set_cons_zero, List.set_cons_succ, i64_w, i32_w]
            rfl
          refine pure_ (i := 32) (N := (some 103)) (v := ?_) (a' := ?_) (bs_ 51 8589934591) rfl rfl (by kernel_rfl) (fun _ _ _ h => h) (Or.inl ⟨by rfl, ?_⟩) ?_ ?_
          rotate_left
          · intro w'
            go_simp
            with_reducible rfl
          rotate_left
          · simp only [Act.put, List.setIfInBounds_toArray, List.set_cons_zero, List.set_cons_succ, i64_w, i32_w]
            rfl
          refine pure_ (i := 33) (N := (some 104)) (v := ?_) (a' := ?_) (bs_ 51 17179869183) rfl rfl (by kernel_rfl) (fun _ _ _ h => h) (Or.inl ⟨by rfl, ?_⟩) ?_ ?_
          rotate_left
          · intro w'
            go_simp
            with_reducible rfl
          rotate_left
          · simp only [Act.put, List.setIfInBounds_toArray, List.set_cons_zero, List.set_cons_succ, i64_w, i32_w]
            rfl
          refine pure_ (i := 34) (N := (some 105)) (v := ?_) (a' := ?_) (bs_ 51 34359738367) rfl rfl (by kernel_rfl) (fun _ _ _ h => h) (Or.inl ⟨by rfl, ?_⟩) ?_ ?_
          rotate_left
          · intro w'
            go_simp
            with_reducible rfl
          rotate_left
          · simp only [Act.put, List.setIfInBounds_toArray, List.set_cons_zero, List.set_cons_succ, i64_w, i32_w]
            rfl
          refine pure_ (i := 35) (N := (some 106)) (v := ?_) (a' := ?_) (bs_ 51 68719476735) rfl rfl (by kernel_rfl) (fun _ _ _ h => h) (Or.inl ⟨by rfl, ?_⟩) ?_ ?_
          rotate_left
          · intro w'
            go_simp
            with_reducible rfl
          rotate_left
          · simp only [Act.put, List.setIfInBounds_toArray, List.set_cons_zero, List.set_cons_succ, i64_w, i32_w]
            rfl
          refine pure_ (i := 36) (N := (some 107)) (v := ?_) (a' := ?_) (bs_ 51 137438953471) rfl rfl (by kernel_rfl) (fun _ _ _ h => h) (Or.inl ⟨by rfl, ?_⟩) ?_ ?_
          rotate_left
          · intro w'
            go_simp
            with_reducible rfl
          rotate_left
          · simp only [Act.put, List.setIfInBounds_toArray, List.set_cons_zero, List.set_cons_succ, i64_w, i32_w]
            rfl
          refine pure_ (i := 37) (N := (some 108)) (v := ?_) (a' := ?_) (bs_ 51 274877906943) rfl rfl (by kernel_rfl) (fun _ _ _ h => h) (Or.inl ⟨by rfl, ?_⟩) ?_ ?_
          rotate_left
          · intro w'
            go_simp
            with_reducible rfl
          rotate_left
          · simp only [Act.put, List.setIfInBounds_toArray, List.set_cons_zero, List.set_cons_succ, i64_w, i32_w]
            rfl
          refine pure_ (i := 38) (N := (some 109)) (v := ?_) (a' := ?_) (bs_ 51 549755813887) rfl rfl (by kernel_rfl) (fun _ _ _ h => h) (Or.inl ⟨by rfl, ?_⟩) ?_ ?_
          rotate_left
          · intro w'
            go_simp
            with_reducible rfl
          rotate_left
          · simp only [Act.put, List.setIfInBounds_toArray, List.set_cons_zero, List.set_cons_succ, i64_w, i32_w]
            rfl
          refine pure_ (i := 39) (N := (some 110)) (v := undef) (a' := ?_) (bs_ 51 1099511627775) rfl rfl (by kernel_rfl) (fun _ _ _ h => h) (Or.inr ⟨by rfl, rfl⟩) ?_ ?_
          rotate_left
          · simp only [Act.put, List.setIfInBounds_toArray, List.set_cons_zero, List.set_cons_succ, i64_w, i32_w]
            rfl
          refine pure_ (i := 41) (N := (some 112)) (v := undef) (a' := ?_) (bs_ 51 3298534883327) rfl rfl (by kernel_rfl) (fun _ _ _ h => h) (Or.inr ⟨by rfl, rfl⟩) ?_ ?_
          rotate_left
          · simp only [Act.put, List.setIfInBounds_toArray, List.set_cons_zero, List.set_cons_succ, i64_w, i32_w]
            rfl
          refine pure_ (i := 44) (N := (some 115)) (v := undef) (a' := ?_) (bs_ 51 20890720927743) rfl rfl (by kernel_rfl) (fun _ _ _ h => h) (Or.inr ⟨by rfl, rfl⟩) ?_ ?_
          rotate_left
          · simp only [Act.put, List.setIfInBounds_toArray, List.set_cons_zero, List.set_cons_succ, i64_w, i32_w]
            rfl
          refine pure_ (i := 45) (N := (some 116)) (v := undef) (a' := ?_) (bs_ 51 56075093016575) rfl rfl (by kernel_rfl) (fun _ _ _ h => h) (Or.inr ⟨by rfl, rfl⟩) ?_ ?_
          rotate_left
          · simp only [Act.put, List.setIfInBounds_toArray, List.set_cons_zero, List.set_cons_succ, i64_w, i32_w]
            rfl
          refine pure_ (i := 40) (N := (some 111)) (v := undef) (a' := ?_) (bs_ 51 57174604644351) rfl rfl (by kernel_rfl) (fun _ _ _ h => h) (Or.inr ⟨by rfl, rfl⟩) ?_ ?_
          rotate_left
          · simp only [Act.put, List.setIfInBounds_toArray, List.set_cons_zero, List.set_cons_succ, i64_w, i32_w]
            rfl
          refine pure_ (i := 42) (N := (some 113)) (v := undef) (a' := ?_) (bs_ 51 61572651155455) rfl rfl (by kernel_rfl) (fun _ _ _ h => h) (Or.inr ⟨by rfl, rfl⟩) ?_ ?_
          rotate_left
          · simp only [Act.put, List.setIfInBounds_toArray, List.set_cons_zero, List.set_cons_succ, i64_w, i32_w]
            rfl
          refine pure_ (i := 43) (N := (some 114)) (v := undef) (a' := ?_) (bs_ 51 70368744177663) rfl rfl (by kernel_rfl) (fun _ _ _ h => h) (Or.inr ⟨by rfl, rfl⟩) ?_ ?_
          rotate_left
          · simp only [Act.put, List.setIfInBounds_toArray, List.set_cons_zero, List.set_cons_succ, i64_w, i32_w]
            rfl
          refine pure_ (i := 46) (N := (some 117)) (v := undef) (a' := ?_) (bs_ 51 140737488355327) rfl rfl (by kernel_rfl) (fun _ _ _ h => h) (Or.inr ⟨by rfl, rfl⟩) ?_ ?_
          rotate_left
          · simp only [Act.put, List.setIfInBounds_toArray, List.set_cons_zero, List.set_cons_succ, i64_w, i32_w]
            rfl
          refine one_ (i := 47) (N := (some 118)) (bs_ 51 281474976710655) rfl rfl (by kernel_rfl) (by decide) (fun K_ hK => ?_)
          refine no_ (by rfl) ?_
          refine hK.out _ _ hHeld (fun hHeld => ?_)
          clear hK K_
          refine norm_ (a' := ?_) ?_ ?_
          rotate_left
          · show Act.put _ (some 118) _ = _
            simp only [Act.put, List.setIfInBounds_toArray, List.set_cons_zero, List.set_cons_succ, i64_w, i32_w]
            rfl
          refine pure_ (i := 48) (N := (some 119)) (v := undef) (a' := ?_) (bs_ 51 562949953421311) rfl rfl (by kernel_rfl) (fun _ _ _ h => h) (Or.inr ⟨by rfl, rfl⟩) ?_ ?_
          rotate_left
          · simp only [Act.put, List.setIfInBounds_toArray, List.set_cons_zero, List.set_cons_succ, i64_w, i32_w]
            rfl
          refine pure_ (i := 49) (N := (some 120)) (v := ?_) (a' := ?_) (bs_ 51 1125899906842623) rfl rfl (by kernel_rfl) (fun _ _ _ h => h) (Or.inl ⟨by rfl, ?_⟩) ?_ ?_
          rotate_left
          · intro w'
            go_simp
            with_reducible rfl
          rotate_left
          · simp only [Act.put, List.setIfInBounds_toArray, List.set_cons_zero, List.set_cons_succ, i64_w, i32_w]
            rfl
          refine pure_ (i := 50) (N := (some 121)) (v := ?_) (a' := ?_) (bs_ 51 2251799813685247) rfl rfl (by kernel_rfl) (fun _ _ _ h => h) (Or.inl ⟨by rfl, ?_⟩) ?_ ?_
          rotate_left
          · intro w'
            go_simp
            with_reducible rfl
          rotate_left
          · simp only [Act.put, List.setIfInBounds_toArray, List.set_cons_zero, List.set_cons_succ, i64_w, i32_w]
            rfl
          refine done_ (by kernel_rfl) ?_
          clear hHeld HKC HZ HSRT HSZ HOK HSZL HSZH HLO HHI
          go_wp2
          go_roundg gq
          case measure => omega
          case rel => exact ⟨1, by go_num, by omega, HS1_1⟩
        | succ i0 =>
          have him1 : ((i0 + 1 : Nat) : Int) - 1 = (i0 : Int) := by omega
          have hb0 : (0 : Int) ≤ (i0 : Int) := by omega
          have hb1 : (i0 : Int) < (n : Int) := by omega
          have hb2 : (0 : Int) ≤ ((i0 + 1 : Nat) : Int) := by omega
          have hb3 : ((i0 + 1 : Nat) : Int) < (n : Int) := by omega
          have hb4 : (0 : Int) ≤ (i0 : Int) + 1 := by omega
          have hb5 : (i0 : Int) + 1 < (n : Int) := by omega
          have hb6 : (0 : Int) < (i0 : Int) + 1 := by omega
          have hw0 : wrap64 (i0 : Int) = (i0 : Int) := IntWalk.wrap64_in _ (by omega)
          obtain ⟨zp, hzp⟩ : ∃ z, ks[i0]? = some z := ⟨_, List.getElem?_eq_getElem (by rw [HN.out]; omega)⟩
          have HZP := Aside0.mk hzp
          obtain ⟨o1, ho1⟩ : ∃ o, ord zp z = o := ⟨_, rfl⟩
          have HO1 := Aside0.mk ho1
          have hq1 : decide (0 ≤ o1) = false := decide_eq_false (by
            obtain ⟨p1, p2⟩ := List.getElem?_eq_some_iff.1 hzp
            obtain ⟨p3, p4⟩ := List.getElem?_eq_some_iff.1 HZ.out
            have : ord ks[i0] ks[i0 + 1] < 0 := List.pairwise_iff_getElem.1 HSRT.out i0 (i0 + 1) p1 p3 (by omega)
            rw [p2, p4, ho1] at this
            omega)
          clear hzp ho1
          go_wp2
          clear HS
          refine start_ (n := 51) (S := fun w' => w'.cell? ⟨xb, 1, none⟩ = some (.slice (some ⟨g, 0, none⟩) n cK) ∧ w'.cell? ⟨g, (i0 + 1) * 3, none⟩ = some (.string z.f0) ∧ w'.cell? ⟨g, (i0 + 1) * 3 + 1, none⟩ = some (.int .i64 z.f1.f0) ∧ w'.cell? ⟨g, (i0 + 1) * 3 + 2, none⟩ = some (.int .i64 z.f1.f1) ∧ w'.cell? ⟨g, i0 * 3, none⟩ = some (.string zp.f0) ∧ w'.cell? ⟨g, i0 * 3 + 1, none⟩ = some (.int .i64 zp.f1.f0) ∧ w'.cell? ⟨g, i0 * 3 + 2, none⟩ = some (.int .i64 zp.f1.f1) ∧ w'.cell? ⟨gl, ol, none⟩ = some (.string xl.f0) ∧ w'.cell? ⟨gl, ol + 1, none⟩ = some (.int .i64 xl.f1.f0) ∧ w'.cell? ⟨gl, ol + 2, none⟩ = some (.int .i64 xl.f1.f1)) (ds := []) #[false, false, false, false, false, false, false, false, false, false, false, false, false, false, false, false, false, false, false, false, false, false, false, false, false, false, false, false, false, false, false, false, false, false, false, false, false, false, false, false, false, false, false, false, false, false, false, false, false, false, false] (by kernel_rfl) rfl rfl (⟨(blk_cell (HS1.out.blk 0 rfl) 1).trans rfl, (HKC.out _ (keep_below HS1.out.keep) (i0 + 1) z HZ.out).1, (HKC.out _ (keep_below HS1.out.keep) (i0 + 1) z HZ.out).2.1, (HKC.out _ (keep_below HS1.out.keep) (i0 + 1) z HZ.out).2.2, (HKC.out _ (keep_below HS1.out.keep) i0 zp HZP.out).1, (HKC.out _ (keep_below HS1.out.keep) i0 zp HZP.out).2.1, (HKC.out _ (keep_below HS1.out.keep) i0 zp HZP.out).2.2, (HQl.out _ (keep_below HS1.out.keep)).1, (HQl.out _ (keep_below HS1.out.keep)).2.1, (HQl.out _ (keep_below HS1.out.keep)).2.2⟩) (fun hHeld => ?_)
          refine pure_ (i := 0) (N := (some 71)) (v := ?_) (a' := ?_) (bs_ 51 1) rfl rfl (by kernel_rfl) (fun _ _ _ h => h) (Or.inl ⟨by rfl, ?_⟩) ?_ ?_
          rotate_left
          · intro w'
            go_simp
            with_reducible rfl
          rotate_left
          · simp only [Act.put, List.setIfInBounds_toArray, List.set_cons_zero, List.set_cons_succ, i64_w, i32_w]
            rfl
          refine pure_ (i := 1) (N := (some 72)) (v := ?_) (a' := ?_) (bs_ 51 3) rfl rfl (by kernel_rfl) (fun _ _ _ h => h) (Or.inl ⟨by rfl, ?_⟩) ?_ ?_
          rotate_left
          · intro w'
            go_simp
            with_reducible rfl
          rotate_left
          · simp only [Act.put, List.setIfInBounds_toArray, List.set_cons_zero, List.set_cons_succ, i64_w, i32_w]
            rfl
          refine pure_ (i := 2) (N := (some 73)) (v := ?_) (a' := ?_) (bs_ 51 7) rfl rfl (by kernel_rfl) (fun _ _ _ h => h) (Or.inl ⟨by rfl, ?_⟩) ?_ ?_
          rotate_left
          · intro w'
            go_simp
            with_reducible rfl
          rotate_left
          · simp only [Act.put, List.setIfInBounds_toArray, List.set_cons_zero, List.set_cons_succ, i64_w, i32_w]
            rfl
          refine pure_ (i := 3) (N := (some 74)) (v := ?_) (a' := ?_) (bs_ 51 15) rfl rfl (by kernel_rfl) (fun _ _ _ h => h) (Or.inl ⟨by rfl, ?_⟩) ?_ ?_
          rotate_left
          · intro w'
            go_simp
            with_reducible rfl
          rotate_left
          · simp only [Act.put, List.setIfInBounds_toArray, List.set_cons_zero, List.set_cons_succ, i64_w, i32_w]
            rfl
          refine pure_ (i := 5) (N := (some 76)) (v := ?_) (a' := ?_) (bs_ 51 47) rfl rfl (by kernel_rfl) (fun _ _ _ h => h) (Or.inl ⟨by rfl, ?_⟩) ?_ ?_
          rotate_left
          · intro w'
            go_simp
            with_reducible rfl
          rotate_left
          · simp only [Act.put, List.setIfInBounds_toArray, List.set_cons_zero, List.set_cons_succ, i64_w, i32_w]
            rfl
          refine pure_ (i := 6) (N := (some 77)) (v := ?_) (a' := ?_) (bs_ 51 111) rfl rfl (by kernel_rfl) (fun _ _ _ h => h) (Or.inl ⟨by rfl, ?_⟩) ?_ ?_
          rotate_left
          · intro w'
            go_simp
            with_reducible rfl
          rotate_left
          · simp only [Act.put, List.setIfInBounds_toArray, List.set_cons_zero, List.set_cons_succ, i64_w, i32_w]
            rfl
          refine pure_ (i := 9) (N := (some 80)) (v := ?_) (a' := ?_) (bs_ 51 623) rfl rfl (by kernel_rfl) (fun _ _ _ h => h) (Or.inl ⟨by rfl, ?_⟩) ?_ ?_
          rotate_left
          · intro w'
            go_simp
            with_reducible rfl
          rotate_left
          · simp only [Act.put, List.setIfInBounds_toArray, List.set_cons_zero, List.set_cons_succ, i64_w, i32_w]
            rfl
          refine pure_ (i := 11) (N := (some 82)) (v := ?_) (a' := ?_) (bs_ 51 2671) rfl rfl (by kernel_rfl) (fun _ _ _ h => h) (Or.inl ⟨by rfl, ?_⟩) ?_ ?_
          rotate_left
          · intro w'
            go_simp
            with_reducible rfl
          rotate_left
          · simp only [Act.put, List.setIfInBounds_toArray, List.set_cons_zero, List.set_cons_succ, i64_w, i32_w]
            rfl
          refine take_ (i := 4) (N := (some 75)) (v := ?_) (a' := ?_) (bs_ 51 2687) rfl rfl (by kernel_rfl) (fun _ _ _ h => h) (Or.inl ⟨by rfl, ?_⟩) hHeld ?_ ?_
          rotate_left
          · rintro w' ⟨s0, s1, s2, s3, s4, s5, s6, s7, s8, s9⟩
            go_simp
            with_reducible rfl
          rotate_left
          · simp only [Act.put, List.setIfInBounds_toArray, List.set_cons_zero, List.set_cons_succ, i64_w, i32_w]
            rfl
          refine pure_ (i := 7) (N := (some 78)) (v := ?_) (a' := ?_) (bs_ 51 2815) rfl rfl (by kernel_rfl) (fun _ _ _ h => h) (Or.inl ⟨by rfl, ?_⟩) ?_ ?_
          rotate_left
          · intro w'
            go_simp
            with_reducible rfl
          rotate_left
          · simp only [Act.put, List.setIfInBounds_toArray, List.set_cons_zero, List.set_cons_succ, i64_w, i32_w]
            rfl
          refine take_ (i := 8) (N := (some 79)) (v := ?_) (a' := ?_) (bs_ 51 3071) rfl rfl (by kernel_rfl) (fun _ _ _ h => h) (Or.inl ⟨by rfl, ?_⟩) hHeld ?_ ?_
          rotate_left
          · rintro w' ⟨s0, s1, s2, s3, s4, s5, s6, s7, s8, s9⟩
            go_simp
            with_reducible rfl
          rotate_left
          · simp only [Act.put, List.setIfInBounds_toArray, List.set_cons_zero, List.set_cons_succ, i64_w, i32_w]
            rfl
          refine take_ (i := 10) (N := (some 81)) (v := ?_) (a' := ?_) (bs_ 51 4095) rfl rfl (by kernel_rfl) (fun _ _ _ h => h) (Or.inl ⟨by rfl, ?_⟩) hHeld ?_ ?_
          rotate_left
          · rintro w' ⟨s0, s1, s2, s3, s4, s5, s6, s7, s8, s9⟩
            go_simp
            with_reducible rfl
          rotate_left
          · simp only [Act.put, List.setIfInBounds_toArray, List.set_cons_zero, List.set_cons_succ, i64_w, i32_w]
            rfl
          refine pure_ (i := 12) (N := (some 83)) (v := ?_) (a' := ?_) (bs_ 51 8191) rfl rfl (by kernel_rfl) (fun _ _ _ h => h) (Or.inl ⟨by rfl, ?_⟩) ?_ ?_
          rotate_left
          · intro w'
            go_simp
            with_reducible rfl
          rotate_left
          · simp only [Act.put, List.setIfInBounds_toArray, List.set_cons_zero, List.set_cons_succ, i64_w, i32_w]
            rfl
          refine take_ (i := 13) (N := (some 84)) (v := ?_) (a' := ?_) (bs_ 51 16383) rfl rfl (by kernel_rfl) (fun _ _ _ h => h) (Or.inl ⟨by rfl, ?_⟩) hHeld ?_ ?_
          rotate_left
          · rintro w' ⟨s0, s1, s2, s3, s4, s5, s6, s7, s8, s9⟩
            go_simp
            with_reducible rfl
          rotate_left
          · simp only [Act.put, List.setIfInBounds_toArray, List.set_cons_zero, List.set_cons_succ, i64_w, i32_w]
            rfl
          refine one_ (i := 14) (N := (some 85)) (bs_ 51 32767) rfl rfl (by kernel_rfl) (by decide) (fun K_ hK => ?_)
          refine goes_ Try.func21 (by kernel_rfl) rfl #[entryV zp, entryV z] (by rfl) rfl rfl (by (try simp only [List.map_toArray, List.map_cons, List.map_nil]); first | done | rfl) ?_
          refine (reforder_calls _ zp z (HSZ.out _ (List.mem_of_getElem? HZP.out)) (HSZ.out _ (List.mem_of_getElem? HZ.out))).mono ?_
          rw [HO1.out]
          rintro E w6 ⟨rfl, hb_⟩
          have HS1_1 := Aside0.mk (HS1.out.below hb_)
          clear hb_
          refine ⟨_, rfl, ?_⟩
          clear hHeld
          refine hK.out _ _ (⟨(blk_cell (HS1_1.out.blk 0 rfl) 1).trans rfl, (HKC.out _ (keep_below HS1_1.out.keep) (i0 + 1) z HZ.out).1, (HKC.out _ (keep_below HS1_1.out.keep) (i0 + 1) z HZ.out).2.1, (HKC.out _ (keep_below HS1_1.out.keep) (i0 + 1) z HZ.out).2.2, (HKC.out _ (keep_below HS1_1.out.keep) i0 zp HZP.out).1, (HKC.out _ (keep_below HS1_1.out.keep) i0 zp HZP.out).2.1, (HKC.out _ (keep_below HS1_1.out.keep) i0 zp HZP.out).2.2, (HQl.out _ (keep_below HS1_1.out.keep)).1, (HQl.out _ (keep_below HS1_1.out.keep)).2.1, (HQl.out _ (keep_below HS1_1.out.keep)).2.2⟩) (fun hHeld => ?_)
          clear hK K_
          refine norm_ (a' := ?_) ?_ ?_
          rotate_left
          · show Act.put _ (some 85) _ = _
            simp only [Act.put, List.setIfInBounds_toArray, List.set_cons_zero, List.set_cons_succ, i64_w, i32_w]
            rfl
          refine pure_ (i := 15) (N := (some 86)) (v := ?_) (a' := ?_) (bs_ 51 65535) rfl rfl (by kernel_rfl) (fun _ _ _ h => h) (Or.inl ⟨by rfl, ?_⟩) ?_ ?_
          rotate_left
          · intro w'
            go_simp
            with_reducible rfl
          rotate_left
          · simp only [Act.put, List.setIfInBounds_toArray, List.set_cons_zero, List.set_cons_succ, i64_w, i32_w]
            rfl
          refine pure_ (i := 16) (N := (some 87)) (v := ?_) (a' := ?_) (bs_ 51 131071) rfl rfl (by kernel_rfl) (fun _ _ _ h => h) (Or.inl ⟨by rfl, ?_⟩) ?_ ?_
          rotate_left
          · intro w'
            go_simp
            with_reducible rfl
          rotate_left
          · simp only [Act.put, List.setIfInBounds_toArray, List.set_cons_zero, List.set_cons_succ, i64_w, i32_w]
            rfl
          refine pure_ (i := 17) (N := (some 88)) (v := ?_) (a' := ?_) (bs_ 51 262143) rfl rfl (by kernel_rfl) (fun _ _ _ h => h) (Or.inl ⟨by rfl, ?_⟩) ?_ ?_
          rotate_left
          · intro w'
            go_simp
            with_reducible rfl
          rotate_left
          · simp only [Act.put, List.setIfInBounds_toArray, List.set_cons_zero, List.set_cons_succ, i64_w, i32_w]
            rfl
          refine pure_ (i := 18) (N := (some 89)) (v := ?_) (a' := ?_) (bs_ 51 524287) rfl rfl (by kernel_rfl) (fun _ _ _ h => h) (Or.inl ⟨by rfl, ?_⟩) ?_ ?_
          rotate_left
          · intro w'
            go_simp
            with_reducible rfl
          rotate_left
          · simp only [Act.put, List.setIfInBounds_toArray, List.set_cons_zero, List.set_cons_succ, i64_w, i32_w]
            rfl
          refine pure_ (i := 19) (N := (some 90)) (v := ?_) (a' := ?_) (bs_ 51 1048575) rfl rfl (by kernel_rfl) (fun _ _ _ h => h) (Or.inl ⟨by rfl, ?_⟩) ?_ ?_
          rotate_left
          · intro w'
            go_simp
            with_reducible rfl
          rotate_left
          · simp only [Act.put, List.setIfInBounds_toArray, List.set_cons_zero, List.set_cons_succ, i64_w, i32_w]
            rfl
          refine pure_ (i := 20) (N := (some 91)) (v := ?_) (a' := ?_) (bs_ 51 2097151) rfl rfl (by kernel_rfl) (fun _ _ _ h => h) (Or.inl ⟨by rfl, ?_⟩) ?_ ?_
          rotate_left
          · intro w'
            go_simp
            with_reducible rfl
          rotate_left
          · simp only [Act.put, List.setIfInBounds_toArray, List.set_cons_zero, List.set_cons_succ, i64_w, i32_w]
            rfl
          refine pure_ (i := 21) (N := (some 92)) (v := ?_) (a' := ?_) (bs_ 51 4194303) rfl rfl (by kernel_rfl) (fun _ _ _ h => h) (Or.inl ⟨by rfl, ?_⟩) ?_ ?_
          rotate_left
          · intro w'
            go_simp
            with_reducible rfl
          rotate_left
          · simp only [Act.put, List.setIfInBounds_toArray, List.set_cons_zero, List.set_cons_succ, i64_w, i32_w]
            rfl
          refine pure_ (i := 22) (N := (some 93)) (v := ?_) (a' := ?_) (bs_ 51 8388607) rfl rfl (by kernel_rfl) (fun _ _ _ h => h) (Or.inl ⟨by rfl, ?_⟩) ?_ ?_
          rotate_left
          · intro w'
            go_simp
            with_reducible rfl
          rotate_left
          · simp only [Act.put, List.setIfInBounds_toArray, List.set_cons_zero, List.set_cons_succ, i64_w, i32_w]
            rfl
          refine pure_ (i := 24) (N := (some 95)) (v := ?_) (a' := ?_) (bs_ 51 25165823) rfl rfl (by kernel_rfl) (fun _ _ _ h => h) (Or.inl ⟨by rfl, ?_⟩) ?_ ?_
          rotate_left
          · intro w'
            go_simp
            with_reducible rfl
          rotate_left
          · simp only [Act.put, List.setIfInBounds_toArray, List.set_cons_zero, List.set_cons_succ, i64_w, i32_w]
            rfl
          refine pure_ (i := 27) (N := (some 98)) (v := ?_) (a' := ?_) (bs_ 51 159383551) rfl rfl (by kernel_rfl) (fun _ _ _ h => h) (Or.inl ⟨by rfl, ?_⟩) ?_ ?_
          rotate_left
          · intro w'
            go_simp
            with_reducible rfl
          rotate_left
          · simp only [Act.put, List.setIfInBounds_toArray, List.set_cons_zero, List.set_cons_succ, i64_w, i32_w]
            rfl
          refine pure_ (i := 28) (N := (some 99)) (v := ?_) (a' := ?_) (bs_ 51 427819007) rfl rfl (by kernel_rfl) (fun _ _ _ h => h) (Or.inl ⟨by rfl, ?_⟩) ?_ ?_
          rotate_left
          · intro w'
            go_simp
            with_reducible rfl
          rotate_left
          · simp only [Act.put, List.setIfInBounds_toArray, List.set_cons_zero, List.set_cons_succ, i64_w, i32_w]
            rfl
          refine take_ (i := 23) (N := (some 94)) (v := ?_) (a' := ?_) (bs_ 51 436207615) rfl rfl (by kernel_rfl) (fun _ _ _ h => h) (Or.inl ⟨by rfl, ?_⟩) hHeld ?_ ?_
          rotate_left
          · rintro w' ⟨s0, s1, s2, s3, s4, s5, s6, s7, s8, s9⟩
            go_simp
            with_reducible rfl
          rotate_left
          · simp only [Act.put, List.setIfInBounds_toArray, List.set_cons_zero, List.set_cons_succ, i64_w, i32_w]
            rfl
          refine pure_ (i := 25) (N := (some 96)) (v := ?_) (a' := ?_) (bs_ 51 469762047) rfl rfl (by kernel_rfl) (fun _ _ _ h => h) (Or.inl ⟨by rfl, ?_⟩) ?_ ?_
          rotate_left
          · intro w'
            go_simp
            with_reducible rfl
          rotate_left
          · simp only [Act.put, List.setIfInBounds_toArray, List.set_cons_zero, List.set_cons_succ, i64_w, i32_w]
            rfl
          refine take_ (i := 26) (N := (some 97)) (v := ?_) (a' := ?_) (bs_ 51 536870911) rfl rfl (by kernel_rfl) (fun _ _ _ h => h) (Or.inl ⟨by rfl, ?_⟩) hHeld ?_ ?_
          rotate_left
          · rintro w' ⟨s0, s1, s2, s3, s4, s5, s6, s7, s8, s9⟩
            go_simp
            with_reducible rfl
          rotate_left
          · simp only [Act.put, List.setIfInBounds_toArray, List.set_cons_zero, List.set_cons_succ, i64_w, i32_w]
            rfl
          refine take_ (i := 29) (N := (some 100)) (v := ?_) (a' := ?_) (bs_ 51 1073741823) rfl rfl (by kernel_rfl) (fun _ _ _ h => h) (Or.inl ⟨by rfl, ?_⟩) hHeld ?_ ?_
          rotate_left
          · rintro w' ⟨s0, s1, s2, s3, s4, s5, s6, s7, s8, s9⟩
            go_simp
            with_reducible rfl
          rotate_left
          · simp only [Act.put, List.setIfInBounds_toArray, List.set_cons_zero, List.set_cons_succ, i64_w, i32_w]
            rfl
          refine one_ (i := 30) (N := (some 101)) (bs_ 51 2147483647) rfl rfl (by kernel_rfl) (by decide) (fun K_ hK => ?_)
          refine goes_ Try.func21 (by kernel_rfl) rfl #[entryV z, entryV xl] (by rfl) rfl rfl (by (try simp only [List.map_toArray, List.map_cons, List.map_nil]); first | done | rfl) ?_
          refine (reforder_calls _ z xl (HSZ.out _ (List.mem_of_getElem? HZ.out)) (HSZL.out _ (by simp))).mono ?_
          rw [HO2.out]
          rintro E w7 ⟨rfl, hb_⟩
          have HS1_2 := Aside0.mk (HS1_1.out.below hb_)
          clear hb_
          refine ⟨_, rfl, ?_⟩
          clear hHeld
          refine hK.out _ _ (⟨(blk_cell (HS1_2.out.blk 0 rfl) 1).trans rfl, (HKC.out _ (keep_below HS1_2.out.keep) (i0 + 1) z HZ.out).1, (HKC.out _ (keep_below HS1_2.out.keep) (i0 + 1) z HZ.out).2.1, (HKC.out _ (keep_below HS1_2.out.keep) (i0 + 1) z HZ.out).2.2, (HKC.out _ (keep_below HS1_2.out.keep) i0 zp HZP.out).1, (HKC.out _ (keep_below HS1_2.out.keep) i0 zp HZP.out).2.1, (HKC.out _ (keep_below HS1_2.out.keep) i0 zp HZP.out).2.2, (HQl.out _ (keep_below HS1_2.out.keep)).1, (HQl.out _ (keep_below HS1_2.out.keep)).2.1, (HQl.out _ (keep_below HS1_2.out.keep)).2.2⟩) (fun hHeld => ?_)
          clear hK K_
          refine norm_ (a' := ?_) ?_ ?_
          rotate_left
          · show Act.put _ (some 101) _ = _
            simp only [Act.put, List.setIfInBounds_toArray, List.set_cons_zero, List.set_cons_succ, i64_w, i32_w]
            rfl
          refine pure_ (i := 31) (N := (some 102)) (v := ?_) (a' := ?_) (bs_ 51 4294967295) rfl rfl (by kernel_rfl) (fun _ _ _ h => h) (Or.inl ⟨by rfl, ?_⟩) ?_ ?_
          rotate_left
          · intro w'
            go_simp
            with_reducible rfl
          rotate_left
          · simp only [Act.put, List.setIfInBounds_toArray, List.set_cons_zero, List.set_cons_succ, i64_w, i32_w]
            rfl
          refine pure_ (i := 32) (N := (some 103)) (v := ?_) (a' := ?_) (bs_ 51 8589934591) rfl rfl (by kernel_rfl) (fun _ _ _ h => h) (Or.inl ⟨by rfl, ?_⟩) ?_ ?_
          rotate_left
          · intro w'
            go_simp
            with_reducible rfl
          rotate_left
          · simp only [Act.put, List.setIfInBounds_toArray, List.set_cons_zero, List.set_cons_succ, i64_w, i32_w]
            rfl
          refine pure_ (i := 33) (N := (some 104)) (v := ?_) (a' := ?_) (bs_ 51 17179869183) rfl rfl (by kernel_rfl) (fun _ _ _ h => h) (Or.inl ⟨by rfl, ?_⟩) ?_ ?_
          rotate_left
          · intro w'
            go_simp
            with_reducible rfl
          rotate_left
          · simp only [Act.put, List.setIfInBounds_toArray, List.set_cons_zero, List.set_cons_succ, i64_w, i32_w]
            rfl
          refine pure_ (i := 34) (N := (some 105)) (v := ?_) (a' := ?_) (bs_ 51 34359738367) rfl rfl (by kernel_rfl) (fun _ _ _ h => h) (Or.inl ⟨by rfl, ?_⟩) ?_ ?_
          rotate_left
          · intro w'
            go_simp
            with_reducible rfl
          rotate_left
          · simp only [Act.put, List.setIfInBounds_toArray, List.set_cons_zero, List.set_cons_succ, i64_w, i32_w]
            rfl
          refine pure_ (i := 35) (N := (some 106)) (v := ?_) (a' := ?_) (bs_ 51 68719476735) rfl rfl (by kernel_rfl) (fun _ _ _ h => h) (Or.inl ⟨by rfl, ?_⟩) ?_ ?_
          rotate_left
          · intro w'
            go_simp
            with_reducible rfl
          rotate_left
          · simp only [Act.put, List.setIfInBounds_toArray, List.set_cons_zero, List.set_cons_succ, i64_w, i32_w]
            rfl
          refine pure_ (i := 36) (N := (some 107)) (v := ?_) (a' := ?_) (bs_ 51 137438953471) rfl rfl (by kernel_rfl) (fun _ _ _ h => h) (Or.inl ⟨by rfl, ?_⟩) ?_ ?_
          rotate_left
          · intro w'
            go_simp
            with_reducible rfl
          rotate_left
          · simp only [Act.put, List.setIfInBounds_toArray, List.set_cons_zero, List.set_cons_succ, i64_w, i32_w]
            rfl
          refine pure_ (i := 37) (N := (some 108)) (v := ?_) (a' := ?_) (bs_ 51 274877906943) rfl rfl (by kernel_rfl) (fun _ _ _ h => h) (Or.inl ⟨by rfl, ?_⟩) ?_ ?_
          rotate_left
          · intro w'
            go_simp
            with_reducible rfl
          rotate_left
          · simp only [Act.put, List.setIfInBounds_toArray, List.set_cons_zero, List.set_cons_succ, i64_w, i32_w]
            rfl
          refine pure_ (i := 38) (N := (some 109)) (v := ?_) (a' := ?_) (bs_ 51 549755813887) rfl rfl (by kernel_rfl) (fun _ _ _ h => h) (Or.inl ⟨by rfl, ?_⟩) ?_ ?_
          rotate_left
          · intro w'
            go_simp
            with_reducible rfl
          rotate_left
          · simp only [Act.put, List.setIfInBounds_toArray, List.set_cons_zero, List.set_cons_succ, i64_w, i32_w]
            rfl
          refine pure_ (i := 39) (N := (some 110)) (v := undef) (a' := ?_) (bs_ 51 1099511627775) rfl rfl (by kernel_rfl) (fun _ _ _ h => h) (Or.inr ⟨by rfl, rfl⟩) ?_ ?_
          rotate_left
          · simp only [Act.put, List.setIfInBounds_toArray, List.set_cons_zero, List.set_cons_succ, i64_w, i32_w]
            rfl
          refine pure_ (i := 41) (N := (some 112)) (v := undef) (a' := ?_) (bs_ 51 3298534883327) rfl rfl (by kernel_rfl) (fun _ _ _ h => h) (Or.inr ⟨by rfl, rfl⟩) ?_ ?_
          rotate_left
          · simp only [Act.put, List.setIfInBounds_toArray, List.set_cons_zero, List.set_cons_succ, i64_w, i32_w]
            rfl
          refine pure_ (i := 44) (N := (some 115)) (v := undef) (a' := ?_) (bs_ 51 20890720927743) rfl rfl (by kernel_rfl) (fun _ _ _ h => h) (Or.inr ⟨by rfl, rfl⟩) ?_ ?_
          rotate_left
          · simp only [Act.put, List.setIfInBounds_toArray, List.set_cons_zero, List.set_cons_succ, i64_w, i32_w]
            rfl
          refine pure_ (i := 45) (N := (some 116)) (v := undef) (a' := ?_) (bs_ 51 56075093016575) rfl rfl (by kernel_rfl) (fun _ _ _ h => h) (Or.inr ⟨by rfl, rfl⟩) ?_ ?_
          rotate_left
          · simp only [Act.put, List.setIfInBounds_toArray, List.set_cons_zero, List.set_cons_succ, i64_w, i32_w]
            rfl
          refine pure_ (i := 40) (N := (some 111)) (v := undef) (a' := ?_) (bs_ 51 57174604644351) rfl rfl (by kernel_rfl) (fun _ _ _ h => h) (Or.inr ⟨by rfl, rfl⟩) ?_ ?_
          rotate_left
          · simp only [Act.put, List.setIfInBounds_toArray, List.set_cons_zero, List.set_cons_succ, i64_w, i32_w]
            rfl
          refine pure_ (i := 42) (N := (some 113)) (v := undef) (a' := ?_) (bs_ 51 61572651155455) rfl rfl (by kernel_rfl) (fun _ _ _ h => h) (Or.inr ⟨by rfl, rfl⟩) ?_ ?_
          rotate_left
          · simp only [Act.put, List.setIfInBounds_toArray, List.set_cons_zero, List.set_cons_succ, i64_w, i32_w]
            rfl
          refine pure_ (i := 43) (N := (some 114)) (v := undef) (a' := ?_) (bs_ 51 70368744177663) rfl rfl (by kernel_rfl) (fun _ _ _ h => h) (Or.inr ⟨by rfl, rfl⟩) ?_ ?_
          rotate_left
          · simp only [Act.put, List.setIfInBounds_toArray, List.set_cons_zero, List.set_cons_succ, i64_w, i32_w]
            rfl
          refine pure_ (i := 46) (N := (some 117)) (v := undef) (a' := ?_) (bs_ 51 140737488355327) rfl rfl (by kernel_rfl) (fun _ _ _ h => h) (Or.inr ⟨by rfl, rfl⟩) ?_ ?_
          rotate_left
          · simp only [Act.put, List.setIfInBounds_toArray, List.set_cons_zero, List.set_cons_succ, i64_w, i32_w]
            rfl
          refine one_ (i := 47) (N := (some 118)) (bs_ 51 281474976710655) rfl rfl (by kernel_rfl) (by decide) (fun K_ hK => ?_)
          refine no_ (by rfl) ?_
          refine hK.out _ _ hHeld (fun hHeld => ?_)
          clear hK K_
          refine norm_ (a' := ?_) ?_ ?_
          rotate_left
          · show Act.put _ (some 118) _ = _
            simp only [Act.put, List.setIfInBounds_toArray, List.set_cons_zero, List.set_cons_succ, i64_w, i32_w]
            rfl
          refine pure_ (i := 48) (N := (some 119)) (v := undef) (a' := ?_) (bs_ 51 562949953421311) rfl rfl (by kernel_rfl) (fun _ _ _ h => h) (Or.inr ⟨by rfl, rfl⟩) ?_ ?_
          rotate_left
          · simp only [Act.put, List.setIfInBounds_toArray, List.set_cons_zero, List.set_cons_succ, i64_w, i32_w]
            rfl
          refine pure_ (i := 49) (N := (some 120)) (v := ?_) (a' := ?_) (bs_ 51 1125899906842623) rfl rfl (by kernel_rfl) (fun _ _ _ h => h) (Or.inl ⟨by rfl, ?_⟩) ?_ ?_
          rotate_left
          · intro w'
            go_simp
            with_reducible rfl
          rotate_left
          · simp only [Act.put, List.setIfInBounds_toArray, List.set_cons_zero, List.set_cons_succ, i64_w, i32_w]
            rfl
          refine pure_ (i := 50) (N := (some 121)) (v := ?_) (a' := ?_) (bs_ 51 2251799813685247) rfl rfl (by kernel_rfl) (fun _ _ _ h => h) (Or.inl ⟨by rfl, ?_⟩) ?_ ?_
          rotate_left
          · intro w'
            go_simp
            with_reducible rfl
          rotate_left
          · simp only [Act.put, List.setIfInBounds_toArray, List.set_cons_zero, List.set_cons_succ, i64_w, i32_w]
            rfl
          refine done_ (by kernel_rfl) ?_
          clear hHeld HKC HZ HSRT HSZ HOK HSZL HSZH HLO HHI
          clear him1 hb0 hb1 hb2 hb4 hb5 hb6 hw0 HZP
          go_wp2
          go_roundg gq
          case measure => omega
          case rel => exact ⟨i0 + 1 + 1, by go_num, by omega, HS1_2⟩
      · have HQl := Aside0.mk (show ∀ W' : World, Below W.heap.size W W' → W'.cell? ⟨gl, ol, none⟩ = some (.string xl.f0) ∧ W'.cell? ⟨gl, ol + 1, none⟩ = some (.int .i64 xl.f1.f0) ∧ W'.cell? ⟨gl, ol + 2, none⟩ = some (.int .i64 xl.f1.f1) from fun W' hb => ⟨pw_cell_below hb ql0, pw_cell_below hb ql1, pw_cell_below hb ql2⟩)
        clear ql0 ql1 ql2
        have HQh := Aside0.mk (show ∀ W' : World, Below W.heap.size W W' → W'.cell? ⟨gh, oh, none⟩ = some (.string xh.f0) ∧ W'.cell? ⟨gh, oh + 1, none⟩ = some (.int .i64 xh.f1.f0) ∧ W'.cell? ⟨gh, oh + 2, none⟩ = some (.int .i64 xh.f1.f1) from fun W' hb => ⟨pw_cell_below hb qh0, pw_cell_below hb qh1, pw_cell_below hb qh2⟩)
        clear qh0 qh1 qh2
        obtain ⟨o2, ho2⟩ : ∃ o, ord z xl = o := ⟨_, rfl⟩
        have HO2 := Aside0.mk ho2
        have hq2 : decide (o2 < 0) = false := decide_eq_false (by have := HLO.out z (List.mem_of_getElem? hz) xl (by simp); rw [ho2] at this; omega)
        clear ho2
        obtain ⟨o3, ho3⟩ : ∃ o, ord z xh = o := ⟨_, rfl⟩
        have HO3 := Aside0.mk ho3
        have hq3 : decide (0 ≤ o3) = false := decide_eq_false (by have := HHI.out z (List.mem_of_getElem? hz) xh (by simp); rw [ho3] at this; omega)
        clear ho3
        clear hz hv hnc
        cases i with
        | zero =>
          have hb3 : (0 : Int) < (n : Int) := by omega
          go_wp2
          clear HS
          refine start_ (n := 51) (S := fun w' => w'.cell? ⟨xb, 1, none⟩ = some (.slice (some ⟨g, 0, none⟩) n cK) ∧ w'.cell? ⟨g, 0 * 3, none⟩ = some (.string z.f0) ∧ w'.cell? ⟨g, 0 * 3 + 1, none⟩ = some (.int .i64 z.f1.f0) ∧ w'.cell? ⟨g, 0 * 3 + 2, none⟩ = some (.int .i64 z.f1.f1) ∧ w'.cell? ⟨gl, ol, none⟩ = some (.string xl.f0) ∧ w'.cell? ⟨gl, ol + 1, none⟩ = some (.int .i64 xl.f1.f0) ∧ w'.cell? ⟨gl, ol + 2, none⟩ = some (.int .i64 xl.f1.f1) ∧ w'.cell? ⟨gh, oh, none⟩ = some (.string xh.f0) ∧ w'.cell? ⟨gh, oh + 1, none⟩ = some (.int .i64 xh.f1.f0) ∧ w'.cell? ⟨gh, oh + 2, none⟩ = some (.int .i64 xh.f1.f1)) (ds := []) #[false, false, false, false, false, false, false, false, false, false, false, false, false, false, false, false, false, false, false, false, false, false, false, false, false, false, false, false, false, false, false, false, false, false, false, false, false, false, false, false, false, false, false, false, false, false, false, false, false, false, false] (by kernel_rfl) rfl rfl (⟨(blk_cell (HS1.out.blk 0 rfl) 1).trans rfl, (HKC.out _ (keep_below HS1.out.keep) 0 z HZ.out).1, (HKC.out _ (keep_below HS1.out.keep) 0 z HZ.out).2.1, (HKC.out _ (keep_below HS1.out.keep) 0 z HZ.out).2.2, (HQl.out _ (keep_below HS1.out.keep)).1, (HQl.out _ (keep_below HS1.out.keep)).2.1, (HQl.out _ (keep_below HS1.out.keep)).2.2, (HQh.out _ (keep_below HS1.out.keep)).1, (HQh.out _ (keep_below HS1.out.keep)).2.1, (HQh.out _ (keep_below HS1.out.keep)).2.2⟩) (fun hHeld => ?_)
          refine pure_ (i := 0) (N := (some 71)) (v := ?_) (a' := ?_) (bs_ 51 1) rfl rfl (by kernel_rfl) (fun _ _ _ h => h) (Or.inl ⟨by rfl, ?_⟩) ?_ ?_
          rotate_left
          · intro w'
            go_simp
            with_reducible rfl
          rotate_left
          · simp only [Act.put, List.setIfInBounds_toArray, List.set_cons_zero, List.set_cons_succ, i64_w, i32_w]
            rfl
          refine pure_ (i := 1) (N := (some 72)) (v := ?_) (a' := ?_) (bs_ 51 3) rfl rfl (by kernel_rfl) (fun _ _ _ h => h) (Or.inl ⟨by rfl, ?_⟩) ?_ ?_
          rotate_left
          · intro w'
            go_simp
            with_reducible rfl
          rotate_left
          · simp only [Act.put, List.setIfInBounds_toArray, List.set_cons_zero, List.set_cons_succ, i64_w, i32_w]
            rfl
          refine pure_ (i := 2) (N := (some 73)) (v := ?_) (a' := ?_) (bs_ 51 7) rfl rfl (by kernel_rfl) (fun _ _ _ h => h) (Or.inl ⟨by rfl, ?_⟩) ?_ ?_
          rotate_left
          · intro w'
            go_simp
            with_reducible rfl
          rotate_left
          · simp only [Act.put, List.setIfInBounds_toArray, List.set_cons_zero, List.set_cons_succ, i64_w, i32_w]
            rfl
          refine pure_ (i := 3) (N := (some 74)) (v := undef) (a' := ?_) (bs_ 51 15) rfl rfl (by kernel_rfl) (fun _ _ _ h => h) (Or.inr ⟨by rfl, rfl⟩) ?_ ?_
          rotate_left
          · simp only [Act.put, List.setIfInBounds_toArray, List.set_cons_zero, List.set_cons_succ, i64_w, i32_w]
            rfl
          refine pure_ (i := 5) (N := (some 76)) (v := undef) (a' := ?_) (bs_ 51 47) rfl rfl (by kernel_rfl) (fun _ _ _ h => h) (Or.inr ⟨by rfl, rfl⟩) ?_ ?_
          rotate_left
          · simp only [Act.put, List.setIfInBounds_toArray, List.set_cons_zero, List.set_cons_succ, i64_w, i32_w]
            rfl
          refine pure_ (i := 6) (N := (some 77)) (v := undef) (a' := ?_) (bs_ 51 111) rfl rfl (by kernel_rfl) (fun _ _ _ h => h) (Or.inr ⟨by rfl, rfl⟩) ?_ ?_
          rotate_left
          · simp only [Act.put, List.setIfInBounds_toArray, List.set_cons_zero, List.set_cons_succ, i64_w, i32_w]
            rfl
          refine pure_ (i := 9) (N := (some 80)) (v := undef) (a' := ?_) (bs_ 51 623) rfl rfl (by kernel_rfl) (fun _ _ _ h => h) (Or.inr ⟨by rfl, rfl⟩) ?_ ?_
          rotate_left
          · simp only [Act.put, List.setIfInBounds_toArray, List.set_cons_zero, List.set_cons_succ, i64_w, i32_w]
            rfl
          refine pure_ (i := 11) (N := (some 82)) (v := undef) (a' := ?_) (bs_ 51 2671) rfl rfl (by kernel_rfl) (fun _ _ _ h => h) (Or.inr ⟨by rfl, rfl⟩) ?_ ?_
          rotate_left
          · simp only [Act.put, List.setIfInBounds_toArray, List.set_cons_zero, List.set_cons_succ, i64_w, i32_w]
            rfl
          refine pure_ (i := 4) (N := (some 75)) (v := undef) (a' := ?_) (bs_ 51 2687) rfl rfl (by kernel_rfl) (fun _ _ _ h => h) (Or.inr ⟨by rfl, rfl⟩) ?_ ?_
          rotate_left
          · simp only [Act.put, List.setIfInBounds_toArray, List.set_cons_zero, List.set_cons_succ, i64_w, i32_w]
            rfl
          refine pure_ (i := 7) (N := (some 78)) (v := undef) (a' := ?_) (bs_ 51 2815) rfl rfl (by kernel_rfl) (fun _ _ _ h => h) (Or.inr ⟨by rfl, rfl⟩) ?_ ?_
          rotate_left
          · simp only [Act.put, List.setIfInBounds_toArray, List.set_cons_zero, List.set_cons_succ, i64_w, i32_w]
            rfl
          refine pure_ (i := 8) (N := (some 79)) (v := undef) (a' := ?_) (bs_ 51 3071) rfl rfl (by kernel_rfl) (fun _ _ _ h => h) (Or.inr ⟨by rfl, rfl⟩) ?_ ?_
          rotate_left
          · simp only [Act.put, List.setIfInBounds_toArray, List.set_cons_zero, List.set_cons_succ, i64_w, i32_w]
            rfl
          refine pure_ (i := 10) (N := (some 81)) (v := undef) (a' := ?_) (bs_ 51 4095) rfl rfl (by kernel_rfl) (fun _ _ _ h => h) (Or.inr ⟨by rfl, rfl⟩) ?_ ?_
          rotate_left
          · simp only [Act.put, List.setIfInBounds_toArray, List.set_cons_zero, List.set_cons_succ, i64_w, i32_w]
            rfl
          refine pure_ (i := 12) (N := (some 83)) (v := undef) (a' := ?_) (bs_ 51 8191) rfl rfl (by kernel_rfl) (fun _ _ _ h => h) (Or.inr ⟨by rfl, rfl⟩) ?_ ?_
          rotate_left
          · simp only [Act.put, List.setIfInBounds_toArray, List.set_cons_zero, List.set_cons_succ, i64_w, i32_w]
            rfl
          refine pure_ (i := 13) (N := (some 84)) (v := undef) (a' := ?_) (bs_ 51 16383) rfl rfl (by kernel_rfl) (fun _ _ _ h => h) (Or.inr ⟨by rfl, rfl⟩) ?_ ?_
          rotate_left
          · simp only [Act.put, List.setIfInBounds_toArray, List.set_cons_zero, List.set_cons_succ, i64_w, i32_w]
            rfl
          refine one_ (i := 14) (N := (some 85)) (bs_ 51 32767) rfl rfl (by kernel_rfl) (by decide) (fun K_ hK => ?_)
          refine no_ (by rfl) ?_
          refine hK.out _ _ hHeld (fun hHeld => ?_)
          clear hK K_
          refine norm_ (a' := ?_) ?_ ?_
          rotate_left
          · show Act.put _ (some 85) _ = _
            simp only [Act.put, List.setIfInBounds_toArray, List.set_cons_zero, List.set_cons_succ, i64_w, i32_w]
            rfl
          refine pure_ (i := 15) (N := (some 86)) (v := undef) (a' := ?_) (bs_ 51 65535) rfl rfl (by kernel_rfl) (fun _ _ _ h => h) (Or.inr ⟨by rfl, rfl⟩) ?_ ?_
          rotate_left
          · simp only [Act.put, List.setIfInBounds_toArray, List.set_cons_zero, List.set_cons_succ, i64_w, i32_w]
            rfl
          refine pure_ (i := 16) (N := (some 87)) (v := ?_) (a' := ?_) (bs_ 51 131071) rfl rfl (by kernel_rfl) (fun _ _ _ h => h) (Or.inl ⟨by rfl, ?_⟩) ?_ ?_
          rotate_left
          · intro w'
            go_simp
            with_reducible rfl
          rotate_left
          · simp only [Act.put, List.setIfInBounds_toArray, List.set_cons_zero, List.set_cons_succ, i64_w, i32_w]
            rfl
          refine pure_ (i := 17) (N := (some 88)) (v := ?_) (a' := ?_) (bs_ 51 262143) rfl rfl (by kernel_rfl) (fun _ _ _ h => h) (Or.inl ⟨by rfl, ?_⟩) ?_ ?_
          rotate_left
          · intro w'
            go_simp
            with_reducible rfl
          rotate_left
          · simp only [Act.put, List.setIfInBounds_toArray, List.set_cons_zero, List.set_cons_succ, i64_w, i32_w]
            rfl
          refine pure_ (i := 18) (N := (some 89)) (v := ?_) (a' := ?_) (bs_ 51 524287) rfl rfl (by kernel_rfl) (fun _ _ _ h => h) (Or.inl ⟨by rfl, ?_⟩) ?_ ?_
          rotate_left
          · intro w'
            go_simp
            with_reducible rfl
          rotate_left
          · simp only [Act.put, List.setIfInBounds_toArray, List.set_cons_zero, List.set_cons_succ, i64_w, i32_w]
            rfl
          refine pure_ (i := 19) (N := (some 90)) (v := ?_) (a' := ?_) (bs_ 51 1048575) rfl rfl (by kernel_rfl) (fun _ _ _ h => h) (Or.inl ⟨by rfl, ?_⟩) ?_ ?_
          rotate_left
          · intro w'
            go_simp
            with_reducible rfl
          rotate_left
          · simp only [Act.put, List.setIfInBounds_toArray, List.set_cons_zero, List.set_cons_succ, i64_w, i32_w]
            rfl
          refine pure_ (i := 20) (N := (some 91)) (v := ?_) (a' := ?_) (bs_ 51 2097151) rfl rfl (by kernel_rfl) (fun _ _ _ h => h) (Or.inl ⟨by rfl, ?_⟩) ?_ ?_
          rotate_left
          · intro w'
            go_simp
            with_reducible rfl
          rotate_left
          · simp only [Act.put, List.setIfInBounds_toArray, List.set_cons_zero, List.set_cons_succ, i64_w, i32_w]
            rfl
          refine pure_ (i := 21) (N := (some 92)) (v := ?_) (a' := ?_) (bs_ 51 4194303) rfl rfl (by kernel_rfl) (fun _ _ _ h => h) (Or.inl ⟨by rfl, ?_⟩) ?_ ?_
          rotate_left
          · intro w'
            go_simp
            with_reducible rfl
          rotate_left
          · simp only [Act.put, List.setIfInBounds_toArray, List.set_cons_zero, List.set_cons_succ, i64_w, i32_w]
            rfl
          refine pure_ (i := 22) (N := (some 93)) (v := ?_) (a' := ?_) (bs_ 51 8388607) rfl rfl (by kernel_rfl) (fun _ _ _ h => h) (Or.inl ⟨by rfl, ?_⟩) ?_ ?_
          rotate_left
          · intro w'
            go_simp
            with_reducible rfl
          rotate_left
          · simp only [Act.put, List.setIfInBounds_toArray, List.set_cons_zero, List.set_cons_succ, i64_w, i32_w]
            rfl
          refine pure_ (i := 24) (N := (some 95)) (v := ?_) (a' := ?_) (bs_ 51 25165823) rfl rfl (by kernel_rfl) (fun _ _ _ h => h) (Or.inl ⟨by rfl, ?_⟩) ?_ ?_
          rotate_left
          · intro w'
            go_simp
            with_reducible rfl
          rotate_left
          · simp only [Act.put, List.setIfInBounds_toArray, List.set_cons_zero, List.set_cons_succ, i64_w, i32_w]
            rfl
          refine pure_ (i := 27) (N := (some 98)) (v := ?_) (a' := ?_) (bs_ 51 159383551) rfl rfl (by kernel_rfl) (fun _ _ _ h => h) (Or.inl ⟨by rfl, ?_⟩) ?_ ?_
          rotate_left
          · intro w'
            go_simp
            with_reducible rfl
          rotate_left
          · simp only [Act.put, List.setIfInBounds_toArray, List.set_cons_zero, List.set_cons_succ, i64_w, i32_w]
            rfl
          refine pure_ (i := 28) (N := (some 99)) (v := ?_) (a' := ?_) (bs_ 51 427819007) rfl rfl (by kernel_rfl) (fun _ _ _ h => h) (Or.inl ⟨by rfl, ?_⟩) ?_ ?_
          rotate_left
          · intro w'
            go_simp
            with_reducible rfl
          rotate_left
          · simp only [Act.put, List.setIfInBounds_toArray, List.set_cons_zero, List.set_cons_succ, i64_w, i32_w]
            rfl
          refine take_ (i := 23) (N := (some 94)) (v := ?_) (a' := ?_) (bs_ 51 436207615) rfl rfl (by kernel_rfl) (fun _ _ _ h => h) (Or.inl ⟨by rfl, ?_⟩) hHeld ?_ ?_
          rotate_left
          · rintro w' ⟨s0, s1, s2, s3, s4, s5, s6, s7, s8, s9⟩
            go_simp
            with_reducible rfl
          rotate_left
          · simp only [Act.put, List.setIfInBounds_toArray, List.set_cons_zero, List.set_cons_succ, i64_w, i32_w]
            rfl
          refine pure_ (i := 25) (N := (some 96)) (v := ?_) (a' := ?_) (bs_ 51 469762047) rfl rfl (by kernel_rfl) (fun _ _ _ h => h) (Or.inl ⟨by rfl, ?_⟩) ?_ ?_
          rotate_left
          · intro w'
            go_simp
            with_reducible rfl
          rotate_left
          · simp only [Act.put, List.setIfInBounds_toArray, List.set_cons_zero, List.set_cons_succ, i64_w, i32_w]
            rfl
          refine take_ (i := 26) (N := (some 97)) (v := ?_) (a' := ?_) (bs_ 51 536870911) rfl rfl (by kernel_rfl) (fun _ _ _ h => h) (Or.inl ⟨by rfl, ?_⟩) hHeld ?_ ?_
          rotate_left
          · rintro w' ⟨s0, s1, s2, s3, s4, s5, s6, s7, s8, s9⟩
            go_simp
            with_reducible rfl
          rotate_left
          · simp only [Act.put, List.setIfInBounds_toArray, List.set_cons_zero, List.set_cons_succ, i64_w, i32_w]
            rfl
          refine take_ (i := 29) (N := (some 100)) (v := ?_) (a' := ?_) (bs_ 51 1073741823) rfl rfl (by kernel_rfl) (fun _ _ _ h => h) (Or.inl ⟨by rfl, ?_⟩) hHeld ?_ ?_
          rotate_left
          · rintro w' ⟨s0, s1, s2, s3, s4, s5, s6, s7, s8, s9⟩
            go_simp
            with_reducible rfl
          rotate_left
          · simp only [Act.put, List.setIfInBounds_toArray, List.set_cons_zero, List.set_cons_succ, i64_w, i32_w]
            rfl
          refine one_ (i := 30) (N := (some 101)) (bs_ 51 2147483647) rfl rfl (by kernel_rfl) (by decide) (fun K_ hK => ?_)
          refine goes_ Try.func21 (by kernel_rfl) rfl #[entryV z, entryV xl] (by rfl) rfl rfl (by (try simp only [List.map_toArray, List.map_cons, List.map_nil]); first | done | rfl) ?_
          refine (reforder_calls _ z xl (HSZ.out _ (List.mem_of_getElem? HZ.out)) (HSZL.out _ (by simp))).mono ?_
          rw [HO2.out]
          rintro E w6 ⟨rfl, hb_⟩
          have HS1_1 := Aside0.mk (HS1.out.below hb_)
          clear hb_
          refine ⟨_, rfl, ?_⟩
          clear hHeld
          refine hK.out _ _ (⟨(blk_cell (HS1_1.out.blk 0 rfl) 1).trans rfl, (HKC.out _ (keep_below HS1_1.out.keep) 0 z HZ.out).1, (HKC.out _ (keep_below HS1_1.out.keep) 0 z HZ.out).2.1, (HKC.out _ (keep_below HS1_1.out.keep) 0 z HZ.out).2.2, (HQl.out _ (keep_below HS1_1.out.keep)).1, (HQl.out _ (keep_below HS1_1.out.keep)).2.1, (HQl.out _ (keep_below HS1_1.out.keep)).2.2, (HQh.out _ (keep_below HS1_1.out.keep)).1, (HQh.out _ (keep_below HS1_1.out.keep)).2.1, (HQh.out _ (keep_below HS1_1.out.keep)).2.2⟩) (fun hHeld => ?_)
          clear hK K_
          refine norm_ (a' := ?_) ?_ ?_
          rotate_left
          · show Act.put _ (some 101) _ = _
            simp only [Act.put, List.setIfInBounds_toArray, List.set_cons_zero, List.set_cons_succ, i64_w, i32_w]
            rfl
          refine pure_ (i := 31) (N := (some 102)) (v := ?_) (a' := ?_) (bs_ 51 4294967295) rfl rfl (by kernel_rfl) (fun _ _ _ h => h) (Or.inl ⟨by rfl, ?_⟩) ?_ ?_
          rotate_left
          · intro w'
            go_simp
            with_reducible rfl
          rotate_left
          · simp only [Act.put, List.setIfInBounds_toArray, List.set_cons_zero, List.set_cons_succ, i64_w, i32_w]
            rfl
          refine pure_ (i := 32) (N := (some 103)) (v := ?_) (a' := ?_) (bs_ 51 8589934591) rfl rfl (by kernel_rfl) (fun _ _ _ h => h) (Or.inl ⟨by rfl, ?_⟩) ?_ ?_
          rotate_left
          · intro w'
            go_simp
            with_reducible rfl
          rotate_left
          · simp only [Act.put, List.setIfInBounds_toArray, List.set_cons_zero, List.set_cons_succ, i64_w, i32_w]
            rfl
          refine pure_ (i := 33) (N := (some 104)) (v := ?_) (a' := ?_) (bs_ 51 17179869183) rfl rfl (by kernel_rfl) (fun _ _ _ h => h) (Or.inl ⟨by rfl, ?_⟩) ?_ ?_
          rotate_left
          · intro w'
            go_simp
            with_reducible rfl
          rotate_left
          · simp only [Act.put, List.setIfInBounds_toArray, List.set_cons_zero, List.set_cons_succ, i64_w, i32_w]
            rfl
          refine pure_ (i := 34) (N := (some 105)) (v := ?_) (a' := ?_) (bs_ 51 34359738367) rfl rfl (by kernel_rfl) (fun _ _ _ h => h) (Or.inl ⟨by rfl, ?_⟩) ?_ ?_
          rotate_left
          · intro w'
            go_simp
            with_reducible rfl
          rotate_left
          · simp only [Act.put, List.setIfInBounds_toArray, List.set_cons_zero, List.set_cons_succ, i64_w, i32_w]
            rfl
          refine pure_ (i := 35) (N := (some 106)) (v := ?_) (a' := ?_) (bs_ 51 68719476735) rfl rfl (by kernel_rfl) (fun _ _ _ h => h) (Or.inl ⟨by rfl, ?_⟩) ?_ ?_
          rotate_left
          · intro w'
            go_simp
            with_reducible rfl
          rotate_left
          · simp only [Act.put, List.setIfInBounds_toArray, List.set_cons_zero, List.set_cons_succ, i64_w, i32_w]
            rfl
          refine pure_ (i := 36) (N := (some 107)) (v := ?_) (a' := ?_) (bs_ 51 137438953471) rfl rfl (by kernel_rfl) (fun _ _ _ h => h) (Or.inl ⟨by rfl, ?_⟩) ?_ ?_
          rotate_left
          · intro w'
            go_simp
            with_reducible rfl
          rotate_left
          · simp only [Act.put, List.setIfInBounds_toArray, List.set_cons_zero, List.set_cons_succ, i64_w, i32_w]
            rfl
          refine pure_ (i := 37) (N := (some 108)) (v := ?_) (a' := ?_) (bs_ 51 274877906943) rfl rfl (by kernel_rfl) (fun _ _ _ h => h) (Or.inl ⟨by rfl, ?_⟩) ?_ ?_
          rotate_left
          · intro w'
            go_simp
            with_reducible rfl
          rotate_left
          · simp only [Act.put, List.setIfInBounds_toArray, List.set_cons_zero, List.set_cons_succ, i64_w, i32_w]
            rfl
          refine pure_ (i := 38) (N := (some 109)) (v := ?_) (a' := ?_) (bs_ 51 549755813887) rfl rfl (by kernel_rfl) (fun _ _ _ h => h) (Or.inl ⟨by rfl, ?_⟩) ?_ ?_
          rotate_left
          · intro w'
            go_simp
            with_reducible rfl
          rotate_left
          · simp only [Act.put, List.setIfInBounds_toArray, List.set_cons_zero, List.set_cons_succ, i64_w, i32_w]
            rfl
          refine pure_ (i := 39) (N := (some 110)) (v := ?_) (a' := ?_) (bs_ 51 1099511627775) rfl rfl (by kernel_rfl) (fun _ _ _ h => h) (Or.inl ⟨by rfl, ?_⟩) ?_ ?_
          rotate_left
          · intro w'
            go_simp
            with_reducible rfl
          rotate_left
          · simp only [Act.put, List.setIfInBounds_toArray, List.set_cons_zero, List.set_cons_succ, i64_w, i32_w]
            rfl
          refine pure_ (i := 41) (N := (some 112)) (v := ?_) (a' := ?_) (bs_ 51 3298534883327) rfl rfl (by kernel_rfl) (fun _ _ _ h => h) (Or.inl ⟨by rfl, ?_⟩) ?_ ?_
          rotate_left
          · intro w'
            go_simp
            with_reducible rfl
          rotate_left
          · simp only [Act.put, List.setIfInBounds_toArray, List.set_cons_zero, List.set_cons_succ, i64_w, i32_w]
            rfl
          refine pure_ (i := 44) (N := (some 115)) (v := ?_) (a' := ?_) (bs_ 51 20890720927743) rfl rfl (by kernel_rfl) (fun _ _ _ h => h) (Or.inl ⟨by rfl, ?_⟩) ?_ ?_
          rotate_left
          · intro w'
            go_simp
            with_reducible rfl
          rotate_left
          · simp only [Act.put, List.setIfInBounds_toArray, List.set_cons_zero, List.set_cons_succ, i64_w, i32_w]
            rfl
          refine pure_ (i := 45) (N := (some 116)) (v := ?_) (a' := ?_) (bs_ 51 56075093016575) rfl rfl (by kernel_rfl) (fun _ _ _ h => h) (Or.inl ⟨by rfl, ?_⟩) ?_ ?_
          rotate_left
          · intro w'
            go_simp
            with_reducible rfl
          rotate_left
          · simp only [Act.put, List.setIfInBounds_toArray, List.set_cons_zero, List.set_cons_succ, i64_w, i32_w]
            rfl
          refine take_ (i := 40) (N := (some 111)) (v := ?_) (a' := ?_) (bs_ 51 57174604644351) rfl rfl (by kernel_rfl) (fun _ _ _ h => h) (Or.inl ⟨by rfl, ?_⟩) hHeld ?_ ?_
          rotate_left
          · rintro w' ⟨s0, s1, s2, s3, s4, s5, s6, s7, s8, s9⟩
            go_simp
            with_reducible rfl
          rotate_left
          · simp only [Act.put, List.setIfInBounds_toArray, List.set_cons_zero, List.set_cons_succ, i64_w, i32_w]
            rfl
          refine pure_ (i := 42) (N := (some 113)) (v := ?_) (a' := ?_) (bs_ 51 61572651155455) rfl rfl (by kernel_rfl) (fun _ _ _ h => h) (Or.inl ⟨by rfl, ?_⟩) ?_ ?_
          rotate_left
          · intro w'
            go_simp
            with_reducible rfl
          rotate_left
          · simp only [Act.put, List.setIfInBounds_toArray, List.set_cons_zero, List.set_cons_succ, i64_w, i32_w]
            rfl
          refine take_ (i := 43) (N := (some 114)) (v := ?_) (a' := ?_) (bs_ 51 70368744177663) rfl rfl (by kernel_rfl) (fun _ _ _ h => h) (Or.inl ⟨by rfl, ?_⟩) hHeld ?_ ?_
          rotate_left
          · rintro w' ⟨s0, s1, s2, s3, s4, s5, s6, s7, s8, s9⟩
            go_simp
            with_reducible rfl
          rotate_left
          · simp only [Act.put, List.setIfInBounds_toArray, List.set_cons_zero, List.set_cons_succ, i64_w, i32_w]
            rfl
          refine take_ (i := 46) (N := (some 117)) (v := ?_) (a' := ?_) (bs_ 51 140737488355327) rfl rfl (by kernel_rfl) (fun _ _ _ h => h) (Or.inl ⟨by rfl, ?_⟩) hHeld ?_ ?_
          rotate_left
          · rintro w' ⟨s0, s1, s2, s3, s4, s5, s6, s7, s8, s9⟩
            go_simp
            with_reducible rfl
          rotate_left
          · simp only [Act.put, List.setIfInBounds_toArray, List.set_cons_zero, List.set_cons_succ, i64_w, i32_w]
            rfl
          refine one_ (i := 47) (N := (some 118)) (bs_ 51 281474976710655) rfl rfl (by kernel_rfl) (by decide) (fun K_ hK => ?_)
          refine goes_ Try.func21 (by kernel_rfl) rfl #[entryV z, entryV xh] (by rfl) rfl rfl (by (try simp only [List.map_toArray, List.map_cons, List.map_nil]); first | done | rfl) ?_
          refine (reforder_calls _ z xh (HSZ.out _ (List.mem_of_getElem? HZ.out)) (HSZH.out _ (by simp))).mono ?_
          rw [HO3.out]
          rintro E w7 ⟨rfl, hb_⟩
          have HS1_2 := Aside0.mk (HS1_1.out.below hb_)
          clear hb_
          refine ⟨_, rfl, ?_⟩
          clear hHeld
          refine hK.out _ _ (⟨(blk_cell (HS1_2.out.blk 0 rfl) 1).trans rfl, (HKC.out _ (keep_below HS1_2.out.keep) 0 z HZ.out).1, (HKC.out _ (keep_below HS1_2.out.keep) 0 z HZ.out).2.1, (HKC.out _ (keep_below HS1_2.out.keep) 0 z HZ.out).2.2, (HQl.out _ (keep_below HS1_2.out.keep)).1, (HQl.out _ (keep_below HS1_2.out.keep)).2.1, (HQl.out _ (keep_below HS1_2.out.keep)).2.2, (HQh.out _ (keep_below HS1_2.out.keep)).1, (HQh.out _ (keep_below HS1_2.out.keep)).2.1, (HQh.out _ (keep_below HS1_2.out.keep)).2.2⟩) (fun hHeld => ?_)
          clear hK K_
          refine norm_ (a' := ?_) ?_ ?_
          rotate_left
          · show Act.put _ (some 118) _ = _
            simp only [Act.put, List.setIfInBounds_toArray, List.set_cons_zero, List.set_cons_succ, i64_w, i32_w]
            rfl
          refine pure_ (i := 48) (N := (some 119)) (v := ?_) (a' := ?_) (bs_ 51 562949953421311) rfl rfl (by kernel_rfl) (fun _ _ _ h => h) (Or.inl ⟨by rfl, ?_⟩) ?_ ?_
          rotate_left
          · intro w'
            go_simp
            with_reducible rfl
          rotate_left
          · simp only [Act.put, List.setIfInBounds_toArray, List.set_cons_zero, List.set_cons_succ, i64_w, i32_w]
            rfl
          refine pure_ (i := 49) (N := (some 120)) (v := ?_) (a' := ?_) (bs_ 51 1125899906842623) rfl rfl (by kernel_rfl) (fun _ _ _ h => h) (Or.inl ⟨by rfl, ?_⟩) ?_ ?_
          rotate_left
          · intro w'
            go_simp
            with_reducible rfl
          rotate_left
          · simp only [Act.put, List.setIfInBounds_toArray, List.set_cons_zero, List.set_cons_succ, i64_w, i32_w]
            rfl
          refine pure_ (i := 50) (N := (some 121)) (v := ?_) (a' := ?_) (bs_ 51 2251799813685247) rfl rfl (by kernel_rfl) (fun _ _ _ h => h) (Or.inl ⟨by rfl, ?_⟩) ?_ ?_
          rotate_left
          · intro w'
            go_simp
            with_reducible rfl
          rotate_left
          · simp only [Act.put, List.setIfInBounds_toArray, List.set_cons_zero, List.set_cons_succ, i64_w, i32_w]
            rfl
          refine done_ (by kernel_rfl) ?_
          clear hHeld HKC HZ HSRT HSZ HOK HSZL HSZH HLO HHI
          go_wp2
          go_roundg gq
          case measure => omega
          case rel => exact ⟨1, by go_num, by omega, HS1_2⟩
        | succ i0 =>
          have him1 : ((i0 + 1 : Nat) : Int) - 1 = (i0 : Int) := by omega
          have hb0 : (0 : Int) ≤ (i0 : Int) := by omega
          have hb1 : (i0 : Int) < (n : Int) := by omega
          have hb2 : (0 : Int) ≤ ((i0 + 1 : Nat) : Int) := by omega
          have hb3 : ((i0 + 1 : Nat) : Int) < (n : Int) := by omega
          have hb4 : (0 : Int) ≤ (i0 : Int) + 1 := by omega
          have hb5 : (i0 : Int) + 1 < (n : Int) := by omega
          have hb6 : (0 : Int) < (i0 : Int) + 1 := by omega
          have hw0 : wrap64 (i0 : Int) = (i0 : Int) := IntWalk.wrap64_in _ (by omega)
          obtain ⟨zp, hzp⟩ : ∃ z, ks[i0]? = some z := ⟨_, List.getElem?_eq_getElem (by rw [HN.out]; omega)⟩
          have HZP := Aside0.mk hzp
          obtain ⟨o1, ho1⟩ : ∃ o, ord zp z = o := ⟨_, rfl⟩
          have HO1 := Aside0.mk ho1
          have hq1 : decide (0 ≤ o1) = false := decide_eq_false (by
            obtain ⟨p1, p2⟩ := List.getElem?_eq_some_iff.1 hzp
            obtain ⟨p3, p4⟩ := List.getElem?_eq_some_iff.1 HZ.out
            have : ord ks[i0] ks[i0 + 1] < 0 := List.pairwise_iff_getElem.1 HSRT.out i0 (i0 + 1) p1 p3 (by omega)
            rw [p2, p4, ho1] at this
            omega)
          clear hzp ho1
          go_wp2
          clear HS
          refine start_ (n := 51) (S := fun w' => w'.cell? ⟨xb, 1, none⟩ = some (.slice (some ⟨g, 0, none⟩) n cK) ∧ w'.cell? ⟨g, (i0 + 1) * 3, none⟩ = some (.string z.f0) ∧ w'.cell? ⟨g, (i0 + 1) * 3 + 1, none⟩ = some (.int .i64 z.f1.f0) ∧ w'.cell? ⟨g, (i0 + 1) * 3 + 2, none⟩ = some (.int .i64 z.f1.f1) ∧ w'.cell? ⟨g, i0 * 3, none⟩ = some (.string zp.f0) ∧ w'.cell? ⟨g, i0 * 3 + 1, none⟩ = some (.int .i64 zp.f1.f0) ∧ w'.cell? ⟨g, i0 * 3 + 2, none⟩ = some (.int .i64 zp.f1.f1) ∧ w'.cell? ⟨gl, ol, none⟩ = some (.string xl.f0) ∧ w'.cell? ⟨gl, ol + 1, none⟩ = some (.int .i64 xl.f1.f0) ∧ w'.cell? ⟨gl, ol + 2, none⟩ = some (.int .i64 xl.f1.f1) ∧ w'.cell? ⟨gh, oh, none⟩ = some (.string xh.f0) ∧ w'.cell? ⟨gh, oh + 1, none⟩ = some (.int .i64 xh.f1.f0) ∧ w'.cell? ⟨gh, oh + 2, none⟩ = some (.int .i64 xh.f1.f1)) (ds := []) #[false, false, false, false, false, false, false, false, false, false, false, false, false, false, false, false, false, false, false, false, false, false, false, false, false, false, false, false, false, false, false, false, false, false, false, false, false, false, false, false, false, false, false, false, false, false, false, false, false, false, false] (by kernel_rfl) rfl rfl (⟨(blk_cell (HS1.out.blk 0 rfl) 1).trans rfl, (HKC.out _ (keep_below HS1.out.keep) (i0 + 1) z HZ.out).1, (HKC.out _ (keep_below HS1.out.keep) (i0 + 1) z HZ.out).2.1, (HKC.out _ (keep_below HS1.out.keep) (i0 + 1) z HZ.out).2.2, (HKC.out _ (keep_below HS1.out.keep) i0 zp HZP.out).1, (HKC.out _ (keep_below HS1.out.keep) i0 zp HZP.out).2.1, (HKC.out _ (keep_below HS1.out.keep) i0 zp HZP.out).2.2, (HQl.out _ (keep_below HS1.out.keep)).1, (HQl.out _ (keep_below HS1.out.keep)).2.1, (HQl.out _ (keep_below HS1.out.keep)).2.2, (HQh.out _ (keep_below HS1.out.keep)).1, (HQh.out _ (keep_below HS1.out.keep)).2.1, (HQh.out _ (keep_below HS1.out.keep)).2.2⟩) (fun hHeld => ?_)
          refine pure_ (i := 0) (N := (some 71)) (v := ?_) (a' := ?_) (bs_ 51 1) rfl rfl (by kernel_rfl) (fun _ _ _ h => h) (Or.inl ⟨by rfl, ?_⟩) ?_ ?_
          rotate_left
          · intro w'
            go_simp
            with_reducible rfl
          rotate_left
          · simp only [Act.put, List.setIfInBounds_toArray, List.set_cons_zero, List.set_cons_succ, i64_w, i32_w]
            rfl
          refine pure_ (i := 1) (N := (some 72)) (v := ?_) (a' := ?_) (bs_ 51 3) rfl rfl (by kernel_rfl) (fun _ _ _ h => h) (Or.inl ⟨by rfl, ?_⟩) ?_ ?_
          rotate_left
          · intro w'
            go_simp
            with_reducible rfl
          rotate_left
          · simp only [Act.put, List.setIfInBounds_toArray, List.set_cons_zero, List.set_cons_succ, i64_w, i32_w]
            rfl
          refine pure_ (i := 2) (N := (some 73)) (v := ?_) (a' := ?_) (bs_ 51 7) rfl rfl (by kernel_rfl) (fun _ _ _ h => h) (Or.inl ⟨by rfl, ?_⟩) ?_ ?_
          rotate_left
          · intro w'
            go_simp
            with_reducible rfl
          rotate_left
          · simp only [Act.put, List.setIfInBounds_toArray, List.set_cons_zero, List.set_cons_succ, i64_w, i32_w]
            rfl
          refine pure_ (i := 3) (N := (some 74)) (v := ?_) (a' := ?_) (bs_ 51 15) rfl rfl (by kernel_rfl) (fun _ _ _ h => h) (Or.inl ⟨by rfl, ?_⟩) ?_ ?_
          rotate_left
          · intro w'
            go_simp
            with_reducible rfl
          rotate_left
          · simp only [Act.put, List.setIfInBounds_toArray, List.set_cons_zero, List.set_cons_succ, i64_w, i32_w]
            rfl
          refine pure_ (i := 5) (N := (some 76)) (v := ?_) (a' := ?_) (bs_ 51 47) rfl rfl (by kernel_rfl) (fun _ _ _ h => h) (Or.inl ⟨by rfl, ?_⟩) ?_ ?_
          rotate_left
          · intro w'
            go_simp
            with_reducible rfl
          rotate_left
          · simp only [Act.put, List.setIfInBounds_toArray, List.set_cons_zero, List.set_cons_succ, i64_w, i32_w]
            rfl
          refine pure_ (i := 6) (N := (some 77)) (v := ?_) (a' := ?_) (bs_ 51 111) rfl rfl (by kernel_rfl) (fun _ _ _ h => h) (Or.inl ⟨by rfl, ?_⟩) ?_ ?_
          rotate_left
          · intro w'
            go_simp
            with_reducible rfl
          rotate_left
          · simp only [Act.put, List.setIfInBounds_toArray, List.set_cons_zero, List.set_cons_succ, i64_w, i32_w]
            rfl
          refine pure_ (i := 9) (N := (some 80)) (v := ?_) (a' := ?_) (bs_ 51 623) rfl rfl (by kernel_rfl) (fun _ _ _ h => h) (Or.inl ⟨by rfl, ?_⟩) ?_ ?_
          rotate_left
          · intro w'
            go_simp
            with_reducible rfl
          rotate_left
          · simp only [Act.put, List.setIfInBounds_toArray, List.set_cons_zero, List.set_cons_succ, i64_w, i32_w]
            rfl
          refine pure_ (i := 11) (N := (some 82)) (v := ?_) (a' := ?_) (bs_ 51 2671) rfl rfl (by kernel_rfl) (fun _ _ _ h => h) (Or.inl ⟨by rfl, ?_⟩) ?_ ?_
          rotate_left
          · intro w'
            go_simp
            with_reducible rfl
          rotate_left
          · simp only [Act.put, List.setIfInBounds_toArray, List.set_cons_zero, List.set_cons_succ, i64_w, i32_w]
            rfl
          refine take_ (i := 4) (N := (some 75)) (v := ?_) (a' := ?_) (bs_ 51 2687) rfl rfl (by kernel_rfl) (fun _ _ _ h => h) (Or.inl ⟨by rfl, ?_⟩) hHeld ?_ ?_
          rotate_left
          · rintro w' ⟨s0, s1, s2, s3, s4, s5, s6, s7, s8, s9, s10, s11, s12⟩
            go_simp
            with_reducible rfl
          rotate_left
          · simp only [Act.put, List.setIfInBounds_toArray, List.set_cons_zero, List.set_cons_succ, i64_w, i32_w]
            rfl
          refine pure_ (i := 7) (N := (some 78)) (v := ?_) (a' := ?_) (bs_ 51 2815) rfl rfl (by kernel_rfl) (fun _ _ _ h => h) (Or.inl ⟨by rfl, ?_⟩) ?_ ?_
          rotate_left
          · intro w'
            go_simp
            with_reducible rfl
          rotate_left
          · simp only [Act.put, List.setIfInBounds_toArray, List.set_cons_zero, List.set_cons_succ, i64_w, i32_w]
            rfl
          refine take_ (i := 8) (N := (some 79)) (v := ?_) (a' := ?_) (bs_ 51 3071) rfl rfl (by kernel_rfl) (fun _ _ _ h => h) (Or.inl ⟨by rfl, ?_⟩) hHeld ?_ ?_
          rotate_left
          · rintro w' ⟨s0, s1, s2, s3, s4, s5, s6, s7, s8, s9, s10, s11, s12⟩
            go_simp
            with_reducible rfl
          rotate_left
          · simp only [Act.put, List.setIfInBounds_toArray, List.set_cons_zero, List.set_cons_succ, i64_w, i32_w]
            rfl
          refine take_ (i := 10) (N := (some 81)) (v := ?_) (a' := ?_) (bs_ 51 4095) rfl rfl (by kernel_rfl) (fun _ _ _ h => h) (Or.inl ⟨by rfl, ?_⟩) hHeld ?_ ?_
          rotate_left
          · rintro w' ⟨s0, s1, s2, s3, s4, s5, s6, s7, s8, s9, s10, s11, s12⟩
            go_simp
            with_reducible rfl
          rotate_left
          · simp only [Act.put, List.setIfInBounds_toArray, List.set_cons_zero, List.set_cons_succ, i64_w, i32_w]
            rfl
          refine pure_ (i := 12) (N := (some 83)) (v := ?_) (a' := ?_) (bs_ 51 8191) rfl rfl (by kernel_rfl) (fun _ _ _ h => h) (Or.inl ⟨by rfl, ?_⟩) ?_ ?_
          rotate_left
          · intro w'
            go_simp
            with_reducible rfl
          rotate_left
          · simp only [Act.put, List.setIfInBounds_toArray, List.set_cons_zero, List.set_cons_succ, i64_w, i32_w]
            rfl
          refine take_ (i := 13) (N := (some 84)) (v := ?_) (a' := ?_) (bs_ 51 16383) rfl rfl (by kernel_rfl) (fun _ _ _ h => h) (Or.inl ⟨by rfl, ?_⟩) hHeld ?_ ?_
          rotate_left
          · rintro w' ⟨s0, s1, s2, s3, s4, s5, s6, s7, s8, s9, s10, s11, s12⟩
            go_simp
            with_reducible rfl
          rotate_left
          · simp only [Act.put, List.setIfInBounds_toArray, List.set_cons_zero, List.set_cons_succ, i64_w, i32_w]
            rfl
          refine one_ (i := 14) (N := (some 85)) (bs_ 51 32767) rfl rfl (by kernel_rfl) (by decide) (fun K_ hK => ?_)
          refine goes_ Try.func21 (by kernel_rfl) rfl #[entryV zp, entryV z] (by rfl) rfl rfl (by (try simp only [List.map_toArray, List.map_cons, List.map_nil]); first | done | rfl) ?_
          refine (reforder_calls _ zp z (HSZ.out _ (List.mem_of_getElem? HZP.out)) (HSZ.out _ (List.mem_of_getElem? HZ.out))).mono ?_
          rw [HO1.out]
          rintro E w6 ⟨rfl, hb_⟩
          have HS1_1 := Aside0.mk (HS1.out.below hb_)
          clear hb_
          refine ⟨_, rfl, ?_⟩
          clear hHeld
          refine hK.out _ _ (⟨(blk_cell (HS1_1.out.blk 0 rfl) 1).trans rfl, (HKC.out _ (keep_below HS1_1.out.keep) (i0 + 1) z HZ.out).1, (HKC.out _ (keep_below HS1_1.out.keep) (i0 + 1) z HZ.out).2.1, (HKC.out _ (keep_below HS1_1.out.keep) (i0 + 1) z HZ.out).2.2, (HKC.out _ (keep_below HS1_1.out.keep) i0 zp HZP.out).1, (HKC.out _ (keep_below HS1_1.out.keep) i0 zp HZP.out).2.1, (HKC.out _ (keep_below HS1_1.out.keep) i0 zp HZP.out).2.2, (HQl.out _ (keep_below HS1_1.out.keep)).1, (HQl.out _ (keep_below HS1_1.out.keep)).2.1, (HQl.out _ (keep_below HS1_1.out.keep)).2.2, (HQh.out _ (keep_below HS1_1.out.keep)).1, (HQh.out _ (keep_below HS1_1.out.keep)).2.1, (HQh.out _ (keep_below HS1_1.out.keep)).2.2⟩) (fun hHeld => ?_)
          clear hK K_
          refine norm_ (a' := ?_) ?_ ?_
          rotate_left
          · show Act.put _ (some 85) _ = _
            simp only [Act.put, List.setIfInBounds_toArray, List.set_cons_zero, List.set_cons_succ, i64_w, i32_w]
            rfl
          refine pure_ (i := 15) (N := (some 86)) (v := ?_) (a' := ?_) (bs_ 51 65535) rfl rfl (by kernel_rfl) (fun _ _ _ h => h) (Or.inl ⟨by rfl, ?_⟩) ?_ ?_
          rotate_left
          · intro w'
            go_simp
            with_reducible rfl
          rotate_left
          · simp only [Act.put, List.setIfInBounds_toArray, List.set_cons_zero, List.set_cons_succ, i64_w, i32_w]
            rfl
          refine pure_ (i := 16) (N := (some 87)) (v := ?_) (a' := ?_) (bs_ 51 131071) rfl rfl (by kernel_rfl) (fun _ _ _ h => h) (Or.inl ⟨by rfl, ?_⟩) ?_ ?_
          rotate_left
          · intro w'
            go_simp
            with_reducible rfl
          rotate_left
          · simp only [Act.put, List.setIfInBounds_toArray, List.set_cons_zero, List.set_cons_succ, i64_w, i32_w]
            rfl
          refine pure_ (i := 17) (N := (some 88)) (v := ?_) (a' := ?_) (bs_ 51 262143) rfl rfl (by kernel_rfl) (fun _ _ _ h => h) (Or.inl ⟨by rfl, ?_⟩) ?_ ?_
          rotate_left
          · intro w'
            go_simp
            with_reducible rfl
          rotate_left
          · simp only [Act.put, List.setIfInBounds_toArray, List.set_cons_zero, List.set_cons_succ, i64_w, i32_w]
            rfl
          refine pure_ (i := 18) (N := (some 89)) (v := ?_) (a' := ?_) (bs_ 51 524287) rfl rfl (by kernel_rfl) (fun _ _ _ h => h) (Or.inl ⟨by rfl, ?_⟩) ?_ ?_
          rotate_left
          · intro w'
            go_simp
            with_reducible rfl
          rotate_left
          · simp only [Act.put, List.setIfInBounds_toArray, List.set_cons_zero, List.set_cons_succ, i64_w, i32_w]
            rfl
          refine pure_ (i := 19) (N := (some 90)) (v := ?_) (a' := ?_) (bs_ 51 1048575) rfl rfl (by kernel_rfl) (fun _ _ _ h => h) (Or.inl ⟨by rfl, ?_⟩) ?_ ?_
          rotate_left
          · intro w'
            go_simp
            with_reducible rfl
          rotate_left
          · simp only [Act.put, List.setIfInBounds_toArray, List.set_cons_zero, List.set_cons_succ, i64_w, i32_w]
            rfl
          refine pure_ (i := 20) (N := (some 91)) (v := ?_) (a' := ?_) (bs_ 51 2097151) rfl rfl (by kernel_rfl) (fun _ _ _ h => h) (Or.inl ⟨by rfl, ?_⟩) ?_ ?_
          rotate_left
          · intro w'
            go_simp
            with_reducible rfl
          rotate_left
          · simp only [Act.put, List.setIfInBounds_toArray, List.set_cons_zero, List.set_cons_succ, i64_w, i32_w]
            rfl
          refine pure_ (i := 21) (N := (some 92)) (v := ?_) (a' := ?_) (bs_ 51 4194303) rfl rfl (by kernel_rfl) (fun _ _ _ h => h) (Or.inl ⟨by rfl, ?_⟩) ?_ ?_
          rotate_left
          · intro w'
            go_simp
            with_reducible rfl
          rotate_left
          · simp only [Act.put, List.setIfInBounds_toArray, List.set_cons_zero, List.set_cons_succ, i64_w, i32_w]
            rfl
          refine pure_ (i := 22) (N := (some 93)) (v := ?_) (a' := ?_) (bs_ 51 8388607) rfl rfl (by kernel_rfl) (fun _ _ _ h => h) (Or.inl ⟨by rfl, ?_⟩) ?_ ?_
          rotate_left
          · intro w'
            go_simp
            with_reducible rfl
          rotate_left
          · simp only [Act.put, List.setIfInBounds_toArray, List.set_cons_zero, List.set_cons_succ, i64_w, i32_w]
            rfl
          refine pure_ (i := 24) (N := (some 95)) (v := ?_) (a' := ?_) (bs_ 51 25165823) rfl rfl (by kernel_rfl) (fun _ _ _ h => h) (Or.inl ⟨by rfl, ?_⟩) ?_ ?_
          rotate_left
          · intro w'
            go_simp
            with_reducible rfl
          rotate_left
          · simp only [Act.put, List.setIfInBounds_toArray, List.set_cons_zero, List.set_cons_succ, i64_w, i32_w]
            rfl
          refine pure_ (i := 27) (N := (some 98)) (v := ?_) (a' := ?_) (bs_ 51 159383551) rfl rfl (by kernel_rfl) (fun _ _ _ h => h) (Or.inl ⟨by rfl, ?_⟩) ?_ ?_
          rotate_left
          · intro w'
            go_simp
            with_reducible rfl
          rotate_left
          · simp only [Act.put, List.setIfInBounds_toArray, List.set_cons_zero, List.set_cons_succ, i64_w, i32_w]
            rfl
          refine pure_ (i := 28) (N := (some 99)) (v := ?_) (a' := ?_) (bs_ 51 427819007) rfl rfl (by kernel_rfl) (fun _ _ _ h => h) (Or.inl ⟨by rfl, ?_⟩) ?_ ?_
          rotate_left
          · intro w'
            go_simp
            with_reducible rfl
          rotate_left
          · simp only [Act.put, List.setIfInBounds_toArray, List.set_cons_zero, List.set_cons_succ, i64_w, i32_w]
            rfl
          refine take_ (i := 23) (N := (some 94)) (v := ?_) (a' := ?_) (bs_ 51 436207615) rfl rfl (by kernel_rfl) (fun _ _ _ h => h) (Or.inl ⟨by rfl, ?_⟩) hHeld ?_ ?_
          rotate_left
          · rintro w' ⟨s0, s1, s2, s3, s4, s5, s6, s7, s8, s9, s10, s11, s12⟩
            go_simp
            with_reducible rfl
          rotate_left
          · simp only [Act.put, List.setIfInBounds_toArray, List.set_cons_zero, List.set_cons_succ, i64_w, i32_w]
            rfl
          refine pure_ (i := 25) (N := (some 96)) (v := ?_) (a' := ?_) (bs_ 51 469762047) rfl rfl (by kernel_rfl) (fun _ _ _ h => h) (Or.inl ⟨by rfl, ?_⟩) ?_ ?_
          rotate_left
          · intro w'
            go_simp
            with_reducible rfl
          rotate_left
          · simp only [Act.put, List.setIfInBounds_toArray, List.set_cons_zero, List.set_cons_succ, i64_w, i32_w]
            rfl
          refine take_ (i := 26) (N := (some 97)) (v := ?_) (a' := ?_) (bs_ 51 536870911) rfl rfl (by kernel_rfl) (fun _ _ _ h => h) (Or.inl ⟨by rfl, ?_⟩) hHeld ?_ ?_
          rotate_left
          · rintro w' ⟨s0, s1, s2, s3, s4, s5, s6, s7, s8, s9, s10, s11, s12⟩
            go_simp
            with_reducible rfl
          rotate_left
          · simp only [Act.put, List.setIfInBounds_toArray, List.set_cons_zero, List.set_cons_succ, i64_w, i32_w]
            rfl
          refine take_ (i := 29) (N := (some 100)) (v := ?_) (a' := ?_) (bs_ 51 1073741823) rfl rfl (by kernel_rfl) (fun _ _ _ h => h) (Or.inl ⟨by rfl, ?_⟩) hHeld ?_ ?_
          rotate_left
          · rintro w' ⟨s0, s1, s2, s3, s4, s5, s6, s7, s8, s9, s10, s11, s12⟩
            go_simp
            with_reducible rfl
          rotate_left
          · simp only [Act.put, List.setIfInBounds_toArray, List.set_cons_zero, List.set_cons_succ, i64_w, i32_w]
            rfl
          refine one_ (i := 30) (N := (some 101)) (bs_ 51 2147483647) rfl rfl (by kernel_rfl) (by decide) (fun K_ hK => ?_)
          refine goes_ Try.func21 (by kernel_rfl) rfl #[entryV z, entryV xl] (by rfl) rfl rfl (by (try simp only [List.map_toArray, List.map_cons, List.map_nil]); first | done | rfl) ?_
          refine (reforder_calls _ z xl (HSZ.out _ (List.mem_of_getElem? HZ.out)) (HSZL.out _ (by simp))).mono ?_
          rw [HO2.out]
          rintro E w7 ⟨rfl, hb_⟩
          have HS1_2 := Aside0.mk (HS1_1.out.below hb_)
          clear hb_
          refine ⟨_, rfl, ?_⟩
          clear hHeld
          refine hK.out _ _ (⟨(blk_cell (HS1_2.out.blk 0 rfl) 1).trans rfl, (HKC.out _ (keep_below HS1_2.out.keep) (i0 + 1) z HZ.out).1, (HKC.out _ (keep_below HS1_2.out.keep) (i0 + 1) z HZ.out).2.1, (HKC.out _ (keep_below HS1_2.out.keep) (i0 + 1) z HZ.out).2.2, (HKC.out _ (keep_below HS1_2.out.keep) i0 zp HZP.out).1, (HKC.out _ (keep_below HS1_2.out.keep) i0 zp HZP.out).2.1, (HKC.out _ (keep_below HS1_2.out.keep) i0 zp HZP.out).2.2, (HQl.out _ (keep_below HS1_2.out.keep)).1, (HQl.out _ (keep_below HS1_2.out.keep)).2.1, (HQl.out _ (keep_below HS1_2.out.keep)).2.2, (HQh.out _ (keep_below HS1_2.out.keep)).1, (HQh.out _ (keep_below HS1_2.out.keep)).2.1, (HQh.out _ (keep_below HS1_2.out.keep)).2.2⟩) (fun hHeld => ?_)
          clear hK K_
          refine norm_ (a' := ?_) ?_ ?_
          rotate_left
          · show Act.put _ (some 101) _ = _
            simp only [Act.put, List.setIfInBounds_toArray, List.set_cons_zero, List.set_cons_succ, i64_w, i32_w]
            rfl
          refine pure_ (i := 31) (N := (some 102)) (v := ?_) (a' := ?_) (bs_ 51 4294967295) rfl rfl (by kernel_rfl) (fun _ _ _ h => h) (Or.inl ⟨by rfl, ?_⟩) ?_ ?_
          rotate_left
          · intro w'
            go_simp
            with_reducible rfl
          rotate_left
          · simp only [Act.put, List.setIfInBounds_toArray, List.set_cons_zero, List.set_cons_succ, i64_w, i32_w]
            rfl
          refine pure_ (i := 32) (N := (some 103)) (v := ?_) (a' := ?_) (bs_ 51 8589934591) rfl rfl (by kernel_rfl) (fun _ _ _ h => h) (Or.inl ⟨by rfl, ?_⟩) ?_ ?_
          rotate_left
          · intro w'
            go_simp
            with_reducible rfl
          rotate_left
          · simp only [Act.put, List.setIfInBounds_toArray, List.set_cons_zero, List.set_cons_succ, i64_w, i32_w]
            rfl
          refine pure_ (i := 33) (N := (some 104)) (v := ?_) (a' := ?_) (bs_ 51 17179869183) rfl rfl (by kernel_rfl) (fun _ _ _ h => h) (Or.inl ⟨by rfl, ?_⟩) ?_ ?_
          rotate_left
          · intro w'
            go_simp
            with_reducible rfl
          rotate_left
          · simp only [Act.put, List.setIfInBounds_toArray, List.set_cons_zero, List.set_cons_succ, i64_w, i32_w]
            rfl
          refine pure_ (i := 34) (N := (some 105)) (v := ?_) (a' := ?_) (bs_ 51 34359738367) rfl rfl (by kernel_rfl) (fun _ _ _ h => h) (Or.inl ⟨by rfl, ?_⟩) ?_ ?_
          rotate_left
          · intro w'
            go_simp
            with_reducible rfl
          rotate_left
          · simp only [Act.put, List.setIfInBounds_toArray, List.set_cons_zero, List.set_cons_succ, i64_w, i32_w]
            rfl
          refine pure_ (i := 35) (N := (some 106)) (v := ?_) (a' := ?_) (bs_ 51 68719476735) rfl rfl (by kernel_rfl) (fun _ _ _ h => h) (Or.inl ⟨by rfl, ?_⟩) ?_ ?_
          rotate_left
          · intro w'
            go_simp
            with_reducible rfl
          rotate_left
          · simp only [Act.put, List.setIfInBounds_toArray, List.set_cons_zero, List.set_cons_succ, i64_w, i32_w]
            rfl
          refine pure_ (i := 36) (N := (some 107)) (v := ?_) (a' := ?_) (bs_ 51 137438953471) rfl rfl (by kernel_rfl) (fun _ _ _ h => h) (Or.inl ⟨by rfl, ?_⟩) ?_ ?_
          rotate_left
          · intro w'
            go_simp
            with_reducible rfl
          rotate_left
          · simp only [Act.put, List.setIfInBounds_toArray, List.set_cons_zero, List.set_cons_succ, i64_w, i32_w]
            rfl
          refine pure_ (i := 37) (N := (some 108)) (v := ?_) (a' := ?_) (bs_ 51 274877906943) rfl rfl (by kernel_rfl) (fun _ _ _ h => h) (Or.inl ⟨by rfl, ?_⟩) ?_ ?_
          rotate_left
          · intro w'
            go_simp
            with_reducible rfl
          rotate_left
          · simp only [Act.put, List.setIfInBounds_toArray, List.set_cons_zero, List.set_cons_succ, i64_w, i32_w]
            rfl
          refine pure_ (i := 38) (N := (some 109)) (v := ?_) (a' := ?_) (bs_ 51 549755813887) rfl rfl (by kernel_rfl) (fun _ _ _ h => h) (Or.inl ⟨by rfl, ?_⟩) ?_ ?_
          rotate_left
          · intro w'
            go_simp
            with_reducible rfl
          rotate_left
          · simp only [Act.put, List.setIfInBounds_toArray, List.set_cons_zero, List.set_cons_succ, i64_w, i32_w]
            rfl
          refine pure_ (i := 39) (N := (some 110)) (v := ?_) (a' := ?_) (bs_ 51 1099511627775) rfl rfl (by kernel_rfl) (fun _ _ _ h => h) (Or.inl ⟨by rfl, ?_⟩) ?_ ?_
          rotate_left
          · intro w'
            go_simp
            with_reducible rfl
          rotate_left
          · simp only [Act.put, List.setIfInBounds_toArray, List.set_cons_zero, List.set_cons_succ, i64_w, i32_w]
            rfl
          refine pure_ (i := 41) (N := (some 112)) (v := ?_) (a' := ?_) (bs_ 51 3298534883327) rfl rfl (by kernel_rfl) (fun _ _ _ h => h) (Or.inl ⟨by rfl, ?_⟩) ?_ ?_
          rotate_left
          · intro w'
            go_simp
            with_reducible rfl
          rotate_left
          · simp only [Act.put, List.setIfInBounds_toArray, List.set_cons_zero, List.set_cons_succ, i64_w, i32_w]
            rfl
          refine pure_ (i := 44) (N := (some 115)) (v := ?_) (a' := ?_) (bs_ 51 20890720927743) rfl rfl (by kernel_rfl) (fun _ _ _ h => h) (Or.inl ⟨by rfl, ?_⟩) ?_ ?_
          rotate_left
          · intro w'
            go_simp
            with_reducible rfl
          rotate_left
          · simp only [Act.put, List.setIfInBounds_toArray, List.set_cons_zero, List.set_cons_succ, i64_w, i32_w]
            rfl
          refine pure_ (i := 45) (N := (some 116)) (v := ?_) (a' := ?_) (bs_ 51 56075093016575) rfl rfl (by kernel_rfl) (fun _ _ _ h => h) (Or.inl ⟨by rfl, ?_⟩) ?_ ?_
          rotate_left
          · intro w'
            go_simp
            with_reducible rfl
          rotate_left
          · simp only [Act.put, List.setIfInBounds_toArray, List.set_cons_zero, List.set_cons_succ, i64_w, i32_w]
            rfl
          refine take_ (i := 40) (N := (some 111)) (v := ?_) (a' := ?_) (bs_ 51 57174604644351) rfl rfl (by kernel_rfl) (fun _ _ _ h => h) (Or.inl ⟨by rfl, ?_⟩) hHeld ?_ ?_
          rotate_left
          · rintro w' ⟨s0, s1, s2, s3, s4, s5, s6, s7, s8, s9, s10, s11, s12⟩
            go_simp
            with_reducible rfl
          rotate_left
          · simp only [Act.put, List.setIfInBounds_toArray, List.set_cons_zero, List.set_cons_succ, i64_w, i32_w]
            rfl
          refine pure_ (i := 42) (N := (some 113)) (v := ?_) (a' := ?_) (bs_ 51 61572651155455) rfl rfl (by kernel_rfl) (fun _ _ _ h => h) (Or.inl ⟨by rfl, ?_⟩) ?_ ?_
          rotate_left
          · intro w'
            go_simp
            with_reducible rfl
          rotate_left
          · simp only [Act.put, List.setIfInBounds_toArray, List.set_cons_zero, List.set_cons_succ, i64_w, i32_w]
            rfl
          refine take_ (i := 43) (N := (some 114)) (v := ?_) (a' := ?_) (bs_ 51 70368744177663) rfl rfl (by kernel_rfl) (fun _ _ _ h => h) (Or.inl ⟨by rfl, ?_⟩) hHeld ?_ ?_
          rotate_left
          · rintro w' ⟨s0, s1, s2, s3, s4, s5, s6, s7, s8, s9, s10, s11, s12⟩
            go_simp
            with_reducible rfl
          rotate_left
          · simp only [Act.put, List.setIfInBounds_toArray, List.set_cons_zero, List.set_cons_succ, i64_w, i32_w]
            rfl
          refine take_ (i := 46) (N := (some 117)) (v := ?_) (a' := ?_) (bs_ 51 140737488355327) rfl rfl (by kernel_rfl) (fun _ _ _ h => h) (Or.inl ⟨by rfl, ?_⟩) hHeld ?_ ?_
          rotate_left
          · rintro w' ⟨s0, s1, s2, s3, s4, s5, s6, s7, s8, s9, s10, s11, s12⟩
            go_simp
            with_reducible rfl
          rotate_left
          · simp only [Act.put, List.setIfInBounds_toArray, List.set_cons_zero, List.set_cons_succ, i64_w, i32_w]
            rfl
          refine one_ (i := 47) (N := (some 118)) (bs_ 51 281474976710655) rfl rfl (by kernel_rfl) (by decide) (fun K_ hK => ?_)
          refine goes_ Try.func21 (by kernel_rfl) rfl #[entryV z, entryV xh] (by rfl) rfl rfl (by (try simp only [List.map_toArray, List.map_cons, List.map_nil]); first | done | rfl) ?_
          refine (reforder_calls _ z xh (HSZ.out _ (List.mem_of_getElem? HZ.out)) (HSZH.out _ (by simp))).mono ?_
          rw [HO3.out]
          rintro E w8 ⟨rfl, hb_⟩
          have HS1_3 := Aside0.mk (HS1_2.out.below hb_)
          clear hb_
          refine ⟨_, rfl, ?_⟩
          clear hHeld
          refine hK.out _ _ (⟨(blk_cell (HS1_3.out.blk 0 rfl) 1).trans rfl, (HKC.out _ (keep_below HS1_3.out.keep) (i0 + 1) z HZ.out).1, (HKC.out _ (keep_below HS1_3.out.keep) (i0 + 1) z HZ.out).2.1, (HKC.out _ (keep_below HS1_3.out.keep) (i0 + 1) z HZ.out).2.2, (HKC.out _ (keep_below HS1_3.out.keep) i0 zp HZP.out).1, (HKC.out _ (keep_below HS1_3.out.keep) i0 zp HZP.out).2.1, (HKC.out _ (keep_below HS1_3.out.keep) i0 zp HZP.out).2.2, (HQl.out _ (keep_below HS1_3.out.keep)).1, (HQl.out _ (keep_below HS1_3.out.keep)).2.1, (HQl.out _ (keep_below HS1_3.out.keep)).2.2, (HQh.out _ (keep_below HS1_3.out.keep)).1, (HQh.out _ (keep_below HS1_3.out.keep)).2.1, (HQh.out _ (keep_below HS1_3.out.keep)).2.2⟩) (fun hHeld => ?_)
          clear hK K_
          refine norm_ (a' := ?_) ?_ ?_
          rotate_left
          · show Act.put _ (some 118) _ = _
            simp only [Act.put, List.setIfInBounds_toArray, List.set_cons_zero, List.set_cons_succ, i64_w, i32_w]
            rfl
          refine pure_ (i := 48) (N := (some 119)) (v := ?_) (a' := ?_) (bs_ 51 562949953421311) rfl rfl (by kernel_rfl) (fun _ _ _ h => h) (Or.inl ⟨by rfl, ?_⟩) ?_ ?_
          rotate_left
          · intro w'
            go_simp
            with_reducible rfl
          rotate_left
          · simp only [Act.put, List.setIfInBounds_toArray, List.set_cons_zero, List.set_cons_succ, i64_w, i32_w]
            rfl
          refine pure_ (i := 49) (N := (some 120)) (v := ?_) (a' := ?_) (bs_ 51 1125899906842623) rfl rfl (by kernel_rfl) (fun _ _ _ h => h) (Or.inl ⟨by rfl, ?_⟩) ?_ ?_
          rotate_left
          · intro w'
            go_simp
            with_reducible rfl
          rotate_left
          · simp only [Act.put, List.setIfInBounds_toArray, List.set_cons_zero, List.set_cons_succ, i64_w, i32_w]
            rfl
          refine pure_ (i := 50) (N := (some 121)) (v := ?_) (a' := ?_) (bs_ 51 2251799813685247) rfl rfl (by kernel_rfl) (fun _ _ _ h => h) (Or.inl ⟨by rfl, ?_⟩) ?_ ?_
          rotate_left
          · intro w'
            go_simp
            with_reducible rfl
          rotate_left
          · simp only [Act.put, List.setIfInBounds_toArray, List.set_cons_zero, List.set_cons_succ, i64_w, i32_w]
            rfl
          refine done_ (by kernel_rfl) ?_
          clear hHeld HKC HZ HSRT HSZ HOK HSZL HSZH HLO HHI
          clear him1 hb0 hb1 hb2 hb4 hb5 hb6 hw0 HZP
          go_wp2
          go_roundg gq
          case measure => omega
          case rel => exact ⟨i0 + 1 + 1, by go_num, by omega, HS1_3⟩
    | zero =>
      obtain rfl : i = n := by omega
      cases lf with
      | true =>
        obtain ⟨k0, k1, k2⟩ := HLFA.out (by first | trivial | rfl)
        obtain rfl : m = 0 := by rw [← HM.out, k0]; rfl
        have HS1 := Aside0.mk (HS.out.below (⟨rfl, rfl, rfl, Nat.le_refl _, fun _ _ => rfl⟩ : Below wr.heap.size wr wr.drew))
        have b0 : wr.cell? ⟨xb, 0, none⟩ = some (.bool true) := (blk_cell (HS.out.blk 0 rfl) 0).trans rfl
        have HK1 := Aside0.mk k1
        have HK2 := Aside0.mk k2
        clear k0 k1 k2
        go_wp2
        clear b0 HS
        refine start_ (n := 10) (S := fun w' => w'.cell? ⟨xb, 1, none⟩ = some (.slice AK i cK) ∧ w'.cell? ⟨xb, 2, none⟩ = some (.slice AC 0 cC)) (ds := []) #[false, false, false, false, false, false, false, false, false, false] (by kernel_rfl) rfl rfl ⟨(blk_cell (HS1.out.blk 0 rfl) 1).trans rfl, (blk_cell (HS1.out.blk 0 rfl) 2).trans rfl⟩ (fun hHeld => ?_)
        refine pure_ (i := 0) (N := (some 124)) (v := ?_) (a' := ?_) (bs_ 10 1) rfl rfl (by kernel_rfl) (fun _ _ _ h => h) (Or.inl ⟨by rfl, ?_⟩) ?_ ?_
        rotate_left
        · intro w'
          go_simp
          with_reducible rfl
        rotate_left
        · simp only [Act.put, List.setIfInBounds_toArray, List.set_cons_zero, List.set_cons_succ, i64_w, i32_w]
          rfl
        refine pure_ (i := 2) (N := (some 126)) (v := ?_) (a' := ?_) (bs_ 10 5) rfl rfl (by kernel_rfl) (fun _ _ _ h => h) (Or.inl ⟨by rfl, ?_⟩) ?_ ?_
        rotate_left
        · intro w'
          go_simp
          with_reducible rfl
        rotate_left
        · simp only [Act.put, List.setIfInBounds_toArray, List.set_cons_zero, List.set_cons_succ, i64_w, i32_w]
          rfl
        refine pure_ (i := 3) (N := (some 127)) (v := ?_) (a' := ?_) (bs_ 10 13) rfl rfl (by kernel_rfl) (fun _ _ _ h => h) (Or.inl ⟨by rfl, ?_⟩) ?_ ?_
        rotate_left
        · intro w'
          go_simp
          with_reducible rfl
        rotate_left
        · simp only [Act.put, List.setIfInBounds_toArray, List.set_cons_zero, List.set_cons_succ, i64_w, i32_w]
          rfl
        refine take_ (i := 1) (N := (some 125)) (v := ?_) (a' := ?_) (bs_ 10 15) rfl rfl (by kernel_rfl) (fun _ _ _ h => h) (Or.inl ⟨by rfl, ?_⟩) hHeld ?_ ?_
        rotate_left
        · rintro w' ⟨s0, s1⟩
          go_simp
          with_reducible rfl
        rotate_left
        · simp only [Act.put, List.setIfInBounds_toArray, List.set_cons_zero, List.set_cons_succ, i64_w, i32_w]
          rfl
        refine pure_ (i := 7) (N := (some 10)) (v := ?_) (a' := ?_) (bs_ 10 143) rfl rfl (by kernel_rfl) (fun _ _ _ h => h) (Or.inl ⟨by rfl, ?_⟩) ?_ ?_
        rotate_left
        · intro w'
          go_simp
          with_reducible rfl
        rotate_left
        · simp only [Act.put, List.setIfInBounds_toArray, List.set_cons_zero, List.set_cons_succ, i64_w, i32_w]
          rfl
        refine pure_ (i := 8) (N := (some 11)) (v := ?_) (a' := ?_) (bs_ 10 399) rfl rfl (by kernel_rfl) (fun _ _ _ h => h) (Or.inl ⟨by rfl, ?_⟩) ?_ ?_
        rotate_left
        · intro w'
          go_simp
          with_reducible rfl
        rotate_left
        · simp only [Act.put, List.setIfInBounds_toArray, List.set_cons_zero, List.set_cons_succ, i64_w, i32_w]
          rfl
        refine take_ (i := 4) (N := (some 128)) (v := ?_) (a' := ?_) (bs_ 10 415) rfl rfl (by kernel_rfl) (fun _ _ _ h => h) (Or.inl ⟨by rfl, ?_⟩) hHeld ?_ ?_
        rotate_left
        · rintro w' ⟨s0, s1⟩
          go_simp
          with_reducible rfl
        rotate_left
        · simp only [Act.put, List.setIfInBounds_toArray, List.set_cons_zero, List.set_cons_succ, i64_w, i32_w]
          rfl
        refine pure_ (i := 5) (N := (some 129)) (v := ?_) (a' := ?_) (bs_ 10 447) rfl rfl (by kernel_rfl) (fun _ _ _ h => h) (Or.inl ⟨by rfl, ?_⟩) ?_ ?_
        rotate_left
        · intro w'
          go_simp
          with_reducible rfl
        rotate_left
        · simp only [Act.put, List.setIfInBounds_toArray, List.set_cons_zero, List.set_cons_succ, i64_w, i32_w]
          rfl
        refine pure_ (i := 6) (N := (some 130)) (v := ?_) (a' := ?_) (bs_ 10 511) rfl rfl (by kernel_rfl) (fun _ _ _ h => h) (Or.inl ⟨by rfl, ?_⟩) ?_ ?_
        rotate_left
        · intro w'
          go_simp
          with_reducible rfl
        rotate_left
        · simp only [Act.put, List.setIfInBounds_toArray, List.set_cons_zero, List.set_cons_succ, i64_w, i32_w]
          rfl
        refine pure_ (i := 9) (N := (some 12)) (v := ?_) (a' := ?_) (bs_ 10 1023) rfl rfl (by kernel_rfl) (fun _ _ _ h => h) (Or.inl ⟨by rfl, ?_⟩) ?_ ?_
        rotate_left
        · intro w'
          go_simp
          with_reducible rfl
        rotate_left
        · simp only [Act.put, List.setIfInBounds_toArray, List.set_cons_zero, List.set_cons_succ, i64_w, i32_w]
          rfl
        refine done_ (by kernel_rfl) ?_
        go_wp2
        go_ret3
        rw [← HR.out]
        exact ⟨.slice AK i cK, by rw [HK2.out]; rfl, by rw [HK1.out, List.flatten_singleton]; exact Row.below HOK.out.1 (keep_below HS1.out.keep), keep_below HS1.out.keep⟩
      | false =>
        obtain ⟨k0, k1, k2, k3, k4, k5, k6, k7, k8⟩ := HIN.out (by first | trivial | rfl)
        rw [HN.out] at k0 k1 k2 k7
        rw [HM.out] at k0
        subst k0
        have HK1 := Aside0.mk k1
        have HK3 := Aside0.mk k3
        have HK4 := Aside0.mk k4
        have HL0 := Aside0.mk k5
        have HLH := Aside0.mk k6
        have HHN := Aside0.mk k7
        have HREC := Aside0.mk k8
        obtain ⟨g, c', hv, hnc⟩ := row_slice HOK.out.1 (by rw [HN.out]; omega)
        obtain ⟨rfl, -, rfl⟩ : AK = some ⟨g, 0, none⟩ ∧ True ∧ cK = c' := by
          injection hv with e1 e2 e3
          exact ⟨e1, trivial, e3⟩
        obtain ⟨gc, cc', hvc, -⟩ := row_slice HOK.out.2 (by rw [HM.out]; omega)
        obtain ⟨rfl, -, rfl⟩ : AC = some ⟨gc, 0, none⟩ ∧ True ∧ cC = cc' := by
          injection hvc with e1 e2 e3
          exact ⟨e1, trivial, e3⟩
        rw [HN.out] at hnc
        clear k1 k3 k4 k5 k6 k7 k8 hv hvc
        have HS2 := Aside0.mk (st_row0 HS.out)
        have b0 : wr.cell? ⟨xb, 0, none⟩ = some (.bool false) := (blk_cell (HS.out.blk 0 rfl) 0).trans rfl
        have b2 : wr.cell? ⟨xb, 2, none⟩ = some (.slice (some ⟨gc, 0, none⟩) (i + 1) cC) := (blk_cell (HS.out.blk 0 rfl) 2).trans rfl
        have hii : ((i : Int) + 1 != (i : Int) + 1) = false := by simp
        clear HS
        go_wp2
        clear b0 b2 hii
        go_loopg [16, 17, 18] (i + 1) (fun gq v16 v17 v18 wx => ∃ (j : Nat) (va : Value) (acc : List S29) (dv : Int), va = v16 ∧ v17 = .int .i64 dv ∧ v18 = .int .i64 j ∧ j + gq = i + 1 ∧ Aside0 (acc = (rs.take j).flatten) ∧ Aside0 (0 < j → dv = dq) ∧ Aside0 (St W NoF wx [rowEC va acc, blkC xb (.cells #[.bool false, .slice (some ⟨g, 0, none⟩) i cK, .slice (some ⟨gc, 0, none⟩) (i + 1) cC] 35 (0, 0))]))
        case atStart => exact ⟨0, _, [], 0, rfl, rfl, rfl, by omega, Aside0.mk rfl, Aside0.mk fun h => absurd h (Nat.lt_irrefl _), HS2⟩
        case round =>
          clear HS2
          obtain ⟨j, va, acc, dv, rfl, rfl, rfl, hj, HACC, HDV, HS⟩ := hrel
          cases gk with
          | succ gq2 =>
            have hji : j ≤ i := by omega
            have hji2 : (j : Int) ≤ (i : Int) := by omega
            obtain ⟨kd, hkd⟩ : ∃ k, kids[j]? = some k := ⟨_, List.getElem?_eq_getElem (by rw [HM.out]; omega)⟩
            obtain ⟨r, hr⟩ : ∃ r, rs[j]? = some r := ⟨_, List.getElem?_eq_getElem (by rw [HK1.out]; omega)⟩
            have HBW := Aside0.mk (keep_below HS.out.keep)
            have b1 : wr.cell? ⟨xb, 1, none⟩ = some (.slice (some ⟨g, 0, none⟩) i cK) := (blk_cell (HS.out.blk 1 rfl) 1).trans rfl
            have b2 : wr.cell? ⟨xb, 2, none⟩ = some (.slice (some ⟨gc, 0, none⟩) (i + 1) cC) := (blk_cell (HS.out.blk 1 rfl) 2).trans rfl
            have hkd2 : decide (kd ≤ (a : Int)) = false := decide_eq_false (by have := HK3.out kd (List.mem_of_getElem? hkd); omega)
            have e0 : wr.cell? ⟨gc, j, none⟩ = some (.int .i64 kd) := (Row.below HOK.out.2 HBW.out).cell (by rw [HM.out]) j _ (by show (encIs kids)[j]? = _; unfold encIs; rw [List.getElem?_map, hkd]; rfl)
            have hpre : (rs.take (j + 1)).flatten = acc ++ r := by rw [List.take_add_one, hr, List.flatten_append, HACC.out]; simp
            have HACC2 := Aside0.mk hpre.symm
            have HBD2 := Aside0.mk (show acc.length + r.length < 100000 by
              have h1 : (rs.take (j + 1)).flatten.length ≤ rs.flatten.length := by
                conv => rhs; rw [← List.take_append_drop (j + 1) rs, List.flatten_append, List.length_append]
                omega
              have := HK4.out
              rw [hpre, List.length_append] at h1
              omega)
            have hl0 := HL0.out
            have hlh := HLH.out
            have hhn := HHN.out
            have hrec := HREC.out
            clear hpre
            rcases Nat.eq_zero_or_pos j with rfl | hj0
            · have hi0 : (0 : Int) < (i : Int) := by omega
              have hi1 : (0 : Int) < (i : Int) + 1 := by omega
              have hi2 : (1 : Int) ≤ (cK : Int) := by omega
              obtain ⟨z, hz⟩ : ∃ z, ks[0]? = some z := ⟨_, List.getElem?_eq_getElem (by rw [HN.out]; omega)⟩
              have HCALL := Aside0.mk (show ∀ lv' hv', Edge wr lv' (loF 0) → Edge wr hv' (hiF 0) → Calls Try.prog 16 #[.slice (some ⟨gp, 0, none⟩) n0 cp, .int .i64 kd, .int .i64 ((d : Int) + 1), lv', hv'] wr (ShapePost wr r dq) from fun lv' hv' e1 e2 => hrec 0 wr lv' hv' kd r hkd hr HBW.out e1 e2)
              have HEL : Edge wr lv (loF 0) := by rw [hl0]; exact HLV.out.below HBW.out
              have HEH : ∀ c', Edge wr (.slice (some ⟨g, 0 * 3, none⟩) 1 c') (hiF 0) := fun c' => by rw [(hlh 0 z hz).2]; exact Edge.part (Row.below HOK.out.1 HBW.out) hz
              have HEL := Aside0.mk HEL
              have HEH := Aside0.mk HEH
              clear hz hkd hr hrec hl0 hlh hhn
              have hG1 : True := trivial
              go_wp2_with (first
                | (clear hG1; go_at_call 16; refine (HCALL.out _ _ HEL.out (HEH.out _)).mono ?_; clear HCALL HEL HEH b1 b2 e0; rintro E w2 ⟨vq, rfl, hrow, hbq⟩; have HROW := Aside0.mk hrow; have HS2 := Aside0.mk (HS.out.below hbq); clear hrow hbq HS)
                | (at_builtin; obtain ⟨v', w3, hrun, hrow2, hg2, hown⟩ := appendPart _ va vq acc r 22 (HS2.out.rowE 0 rfl) (part_of_row HROW.out) HBD2.out; have HS3 := Aside0.mk (HS2.out.setE 0 rfl hg2 hrow2 hown); refine wpList_append_run rfl (.tmp 196) (.tmp 197) 22 22 rfl va vq rfl rfl hrun ?_; clear hrun hrow2 hg2 hown))
              go_roundg gq2
              case measure => omega
              case rel => exact ⟨0 + 1, v', acc ++ r, dq, rfl, rfl, by go_num, by omega, HACC2, Aside0.mk fun _ => rfl, HS3⟩
            · obtain ⟨j0, rfl⟩ : ∃ j0, j = j0 + 1 := ⟨j - 1, by omega⟩
              have him1 : ((j0 + 1 : Nat) : Int) - 1 = (j0 : Int) := by omega
              have hb0 : (0 : Int) ≤ (j0 : Int) := by omega
              have hb4 : (0 : Int) ≤ (j0 : Int) + 1 := by omega
              have hb6 : (0 : Int) < (j0 : Int) + 1 := by omega
              have hb7 : (j0 : Int) ≤ (j0 : Int) + 1 := by omega
              have hb8 : (j0 : Int) + 1 ≤ (cK : Int) := by omega
              have hb9 : (j0 : Int) + 1 < (i : Int) + 1 := by omega
              have hb10 : (j0 : Int) + 1 ≤ (i : Int) := by omega
              have hw0 : wrap64 (j0 : Int) = (j0 : Int) := IntWalk.wrap64_in _ (by omega)
              rcases Nat.lt_or_ge (j0 + 1) i with hlt | hge
              · have hc1 : (j0 : Int) + 1 < (i : Int) := by omega
                have hc2 : (j0 : Int) + 1 + 1 ≤ (cK : Int) := by omega
                have hc3 : (0 : Int) ≤ (j0 : Int) + 1 + 1 := by omega
                have hc4 : (j0 : Int) + 1 ≤ (j0 : Int) + 1 + 1 := by omega
                obtain ⟨z, hz⟩ : ∃ z, ks[(j0 + 1)]? = some z := ⟨_, List.getElem?_eq_getElem (by rw [HN.out]; omega)⟩
                obtain ⟨zp, hzp⟩ : ∃ z, ks[j0]? = some z := ⟨_, List.getElem?_eq_getElem (by rw [HN.out]; omega)⟩
                obtain rfl : dq = dv := (HDV.out (by omega)).symm
                have HCALL := Aside0.mk (show ∀ lv' hv', Edge wr lv' (loF (j0 + 1)) → Edge wr hv' (hiF (j0 + 1)) → Calls Try.prog 16 #[.slice (some ⟨gp, 0, none⟩) n0 cp, .int .i64 kd, .int .i64 ((d : Int) + 1), lv', hv'] wr (ShapePost wr r dq) from fun lv' hv' e1 e2 => hrec (j0 + 1) wr lv' hv' kd r hkd hr HBW.out e1 e2)
                have HEL : ∀ c', Edge wr (.slice (some ⟨g, j0 * 3, none⟩) 1 c') (loF (j0 + 1)) := fun c' => by rw [(hlh j0 zp hzp).1]; exact Edge.part (Row.below HOK.out.1 HBW.out) hzp
                have HEH : ∀ c', Edge wr (.slice (some ⟨g, (j0 + 1) * 3, none⟩) 1 c') (hiF (j0 + 1)) := fun c' => by rw [(hlh (j0 + 1) z hz).2]; exact Edge.part (Row.below HOK.out.1 HBW.out) hz
                have HEL := Aside0.mk HEL
                have HEH := Aside0.mk HEH
                clear hz hzp hkd hr hrec hl0 hlh hhn
                have hG1 : True := trivial
                go_wp2_with (first
                  | (clear hG1; go_at_call 16; refine (HCALL.out _ _ (HEL.out _) (HEH.out _)).mono ?_; clear HCALL HEL HEH b1 b2 e0; rintro E w2 ⟨vq, rfl, hrow, hbq⟩; have HROW := Aside0.mk hrow; have HS2 := Aside0.mk (HS.out.below hbq); clear hrow hbq HS)
                  | (at_builtin; obtain ⟨v', w3, hrun, hrow2, hg2, hown⟩ := appendPart _ va vq acc r 22 (HS2.out.rowE 0 rfl) (part_of_row HROW.out) HBD2.out; have HS3 := Aside0.mk (HS2.out.setE 0 rfl hg2 hrow2 hown); refine wpList_append_run rfl (.tmp 196) (.tmp 197) 22 22 rfl va vq rfl rfl hrun ?_; clear hrun hrow2 hg2 hown))
                go_roundg gq2
                case measure => omega
                case rel => exact ⟨(j0 + 1) + 1, v', acc ++ r, dq, rfl, rfl, by go_num, by omega, HACC2, Aside0.mk fun _ => rfl, HS3⟩
              · have hc1 : decide ((j0 : Int) + 1 < (i : Int)) = false := decide_eq_false (by omega)
                obtain ⟨zp, hzp⟩ : ∃ z, ks[j0]? = some z := ⟨_, List.getElem?_eq_getElem (by rw [HN.out]; omega)⟩
                obtain rfl : dq = dv := (HDV.out (by omega)).symm
                have HCALL := Aside0.mk (show ∀ lv' hv', Edge wr lv' (loF (j0 + 1)) → Edge wr hv' (hiF (j0 + 1)) → Calls Try.prog 16 #[.slice (some ⟨gp, 0, none⟩) n0 cp, .int .i64 kd, .int .i64 ((d : Int) + 1), lv', hv'] wr (ShapePost wr r dq) from fun lv' hv' e1 e2 => hrec (j0 + 1) wr lv' hv' kd r hkd hr HBW.out e1 e2)
                have HEL : ∀ c', Edge wr (.slice (some ⟨g, j0 * 3, none⟩) 1 c') (loF (j0 + 1)) := fun c' => by rw [(hlh j0 zp hzp).1]; exact Edge.part (Row.below HOK.out.1 HBW.out) hzp
                have HEH : Edge wr hv (hiF (j0 + 1)) := by rw [show j0 + 1 = i by omega, hhn]; exact HHV.out.below HBW.out
                have HEL := Aside0.mk HEL
                have HEH := Aside0.mk HEH
                clear hzp hkd hr hrec hl0 hlh hhn
                have hG1 : True := trivial
                go_wp2_with (first
                  | (clear hG1; go_at_call 16; refine (HCALL.out _ _ (HEL.out _) HEH.out).mono ?_; clear HCALL HEL HEH b1 b2 e0; rintro E w2 ⟨vq, rfl, hrow, hbq⟩; have HROW := Aside0.mk hrow; have HS2 := Aside0.mk (HS.out.below hbq); clear hrow hbq HS)
                  | (at_builtin; obtain ⟨v', w3, hrun, hrow2, hg2, hown⟩ := appendPart _ va vq acc r 22 (HS2.out.rowE 0 rfl) (part_of_row HROW.out) HBD2.out; have HS3 := Aside0.mk (HS2.out.setE 0 rfl hg2 hrow2 hown); refine wpList_append_run rfl (.tmp 196) (.tmp 197) 22 22 rfl va vq rfl rfl hrun ?_; clear hrun hrow2 hg2 hown))
                go_roundg gq2
                case measure => omega
                case rel => exact ⟨(j0 + 1) + 1, v', acc ++ r, dq, rfl, rfl, by go_num, by omega, HACC2, Aside0.mk fun _ => rfl, HS3⟩
          | zero =>
            obtain rfl : j = i + 1 := by omega
            obtain rfl : dq = dv := (HDV.out (by omega)).symm
            have hje : decide (((i + 1 : Nat) : Int) ≤ (i : Int)) = false := decide_eq_false (by omega)
            have hje2 : decide ((i : Int) + 1 ≤ (i : Int)) = false := decide_eq_false (by omega)
            go_wp2
            go_ret3
            rw [← HR.out]
            refine ⟨_, rfl, ?_, keep_below HS.out.keep⟩
            have := HS.out.rowE 0 rfl
            rw [HACC.out, List.take_of_length_le (by rw [HK1.out]; exact Nat.le_refl _)] at this
            exact this
end Go.Proofs.Bt
end
