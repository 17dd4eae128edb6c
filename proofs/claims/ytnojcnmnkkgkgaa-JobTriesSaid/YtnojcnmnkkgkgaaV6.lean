/- Packed by shake.py: YtnojcnmnkkgkgaaJL3 YtnojcnmnkkgkgaaR YtnojcnmnkkgkgaaJR1 -/
import Derived.Deep.Slices
import Derived.ChangeArms
import Derived.DataReads
import Derived.Test.YtnojcnmnkkgkgaaV5
set_option linter.unusedSectionVars false
section
namespace Go.Proofs.Kb
open Go Go.RowKit Go.Proofs.Ytnojcnmnkkgkgaa.Q Go.Proofs.YtnojcnmnkkgkgaaW.PrintWords Go.Proofs.YtnojcnmnkkgkgaaW.PrintLast Go.Proofs.YtnojcnmnkkgkgaaW.PrintMore
set_option linter.unusedVariables false
set_option linter.unusedSimpArgs false
set_option maxRecDepth 100000
theorem box11 {W : World} {n0 : Nat} {x : SV} (hb : W.heap[n0]? = some (.cells #[.int .i64 x.f0, .string x.f1, .string x.f2, .string x.f3, .int .i64 x.f4, .bool x.f5, .slice x.f6.A x.f6.n x.f6.c, .slice x.f7.A x.f7.n x.f7.c, .slice x.f8.A x.f8.n x.f8.c, .slice x.f9.A x.f9.n x.f9.c, .slice x.f10.A x.f10.n x.f10.c] 28 (0, 0))) : W.cell? ⟨n0, 0, none⟩ = some (.int .i64 x.f0) ∧ W.cell? ⟨n0, 1, none⟩ = some (.string x.f1) ∧ W.cell? ⟨n0, 2, none⟩ = some (.string x.f2) ∧ W.cell? ⟨n0, 3, none⟩ = some (.string x.f3) ∧ W.cell? ⟨n0, 4, none⟩ = some (.int .i64 x.f4) ∧ W.cell? ⟨n0, 5, none⟩ = some (.bool x.f5) ∧ W.cell? ⟨n0, 6, none⟩ = some (.slice x.f6.A x.f6.n x.f6.c) ∧ W.cell? ⟨n0, 7, none⟩ = some (.slice x.f7.A x.f7.n x.f7.c) ∧ W.cell? ⟨n0, 8, none⟩ = some (.slice x.f8.A x.f8.n x.f8.c) ∧ W.cell? ⟨n0, 9, none⟩ = some (.slice x.f9.A x.f9.n x.f9.c) ∧ W.cell? ⟨n0, 10, none⟩ = some (.slice x.f10.A x.f10.n x.f10.c) :=
  ⟨(blk_cell hb 0).trans rfl, (blk_cell hb 1).trans rfl, (blk_cell hb 2).trans rfl, (blk_cell hb 3).trans rfl, (blk_cell hb 4).trans rfl, (blk_cell hb 5).trans rfl, (blk_cell hb 6).trans rfl, (blk_cell hb 7).trans rfl, (blk_cell hb 8).trans rfl, (blk_cell hb 9).trans rfl, (blk_cell hb 10).trans rfl⟩
theorem tryS_pre : ∀ (l : List S97) (s : ByteArray), ∃ z, l.foldl (fun s x => s ++ wantS x) s = s ++ z
  | [], s => ⟨ByteArray.empty, by rw [ByteArray.append_empty]; rfl⟩
  | x :: l, s => by
    obtain ⟨z, h⟩ := tryS_pre l (s ++ wantS x)
    exact ⟨wantS x ++ z, by rw [List.foldl_cons, h, ByteArray.append_assoc]⟩
theorem tryS_try (l : List S97) : 3 ≤ (tryS l).size ∧ (tryS l).extract 0 3 = (⟨#[116, 114, 121]⟩ : ByteArray) := by
  obtain ⟨z, h⟩ := tryS_pre l (⟨#[116, 114, 121]⟩ : ByteArray)
  unfold tryS
  rw [h]
  refine ⟨by rw [ByteArray.size_append]; exact Nat.le_add_right 3 _, ?_⟩
  rw [ByteArray.extract_append_eq_left]
  rfl
noncomputable def trT (x : SV) : ByteArray := tryS (planW x.f1 4)
def trS (tr : Int) (txt : List ByteArray) : JS := ⟨1, [], tr, 0, [], txt, 0⟩
def trE (txt : List ByteArray) : JS := ⟨6, [], 0, 34, [], txt, 0⟩
theorem trE_e (txt : List ByteArray) : StepE (trE txt) = .returned (.tuple #[.int .i64 34, .bool true]) := by kernel_rfl
theorem trS_e (tr : Int) (txt : List ByteArray) : StepE (trS tr txt) = .returned (.tuple #[.int .i64 0, .bool false]) := by kernel_rfl
theorem tr_step (x : SV) (tr : Int) (txt : List ByteArray) : (trS tr txt).step x = if tr = 1 then trE (txt ++ [trT x]) else trS (tr - 1) (txt ++ [trT x]) := by
  have e : (trS tr txt).step x = (trS tr (txt ++ [trT x])).failed 6 := by kernel_rfl
  rw [e]
  unfold JS.failed
  rfl
theorem tr_end (x : SV) (txt : List ByteArray) : (trE txt).step x = trE txt := by kernel_rfl
theorem tr_steps (x : SV) (m : Nat) : ∀ i, i < m → (trS m []).steps x i = trS ((m : Int) - i) (List.replicate i (trT x))
  | 0, _ => by
    rw [show (m : Int) - ((0 : Nat) : Int) = m by omega]
    rfl
  | i + 1, h => by
    show ((trS m []).steps x i).step x = _
    rw [tr_steps x m i (by omega), tr_step, if_neg (by omega), ← List.replicate_succ', show (m : Int) - i - 1 = m - ((i + 1 : Nat) : Int) by omega]
theorem tr_last (x : SV) (m : Nat) (h : 0 < m) : (trS m []).steps x m = trE (List.replicate m (trT x)) := by
  obtain ⟨i, rfl⟩ : ∃ i, m = i + 1 := ⟨m - 1, by omega⟩
  show ((trS _ []).steps x i).step x = _
  rw [tr_steps x (i + 1) i (by omega), tr_step, if_pos (by omega), ← List.replicate_succ']
set_option maxHeartbeats 16000000 in
theorem tries_row (w : World) (x : SV) (l6 : List S60) (l7 : List S62) (l8 : List S64) (l9 : List S66) (l10 : List ByteArray) (tries : Int) (hx : CK w x l6 l7 l8 l9 l10) (hti : (Lit.int .i64 tries).wf = true) :
    Calls Try.prog 4 #[.agg #[.int .i64 x.f0, .string x.f1, .string x.f2, .string x.f3, .int .i64 x.f4, .bool x.f5, .slice x.f6.A x.f6.n x.f6.c, .slice x.f7.A x.f7.n x.f7.c, .slice x.f8.A x.f8.n x.f8.c, .slice x.f9.A x.f9.n x.f9.c, .slice x.f10.A x.f10.n x.f10.c], .int .i64 tries] w fun E w' => E = .returned (.bool true) ∧ Below w.heap.size w w' := by
  obtain ⟨Q, hQ⟩ : ∃ Q, (fun E w' => E = Ending.returned (.bool true) ∧ Below w.heap.size w w') = Q := ⟨_, rfl⟩
  have HQ := Aside0.mk hQ
  rw [hQ]
  clear hQ
  have hu28 := Try.underlying28
  have hu36 := Try.underlying36
  have hu34 := Try.underlying34
  have hu32 := Try.underlying32
  have hu26 := Try.underlying26
  have hz26 := Try.sizeOf9
  obtain ⟨n0, hn0⟩ : ∃ n, w.heap.size = n := ⟨_, rfl⟩
  have h1 := (St.nil0 w NoF).alloc #[.int .i64 x.f0, .string x.f1, .string x.f2, .string x.f3, .int .i64 x.f4, .bool x.f5, .slice x.f6.A x.f6.n x.f6.c, .slice x.f7.A x.f7.n x.f7.c, .slice x.f8.A x.f8.n x.f8.c, .slice x.f9.A x.f9.n x.f9.c, .slice x.f10.A x.f10.n x.f10.c] 28 hn0
  obtain ⟨W1, hW1⟩ : ∃ W, w.alloc (.cells #[.int .i64 x.f0, .string x.f1, .string x.f2, .string x.f3, .int .i64 x.f4, .bool x.f5, .slice x.f6.A x.f6.n x.f6.c, .slice x.f7.A x.f7.n x.f7.c, .slice x.f8.A x.f8.n x.f8.c, .slice x.f9.A x.f9.n x.f9.c, .slice x.f10.A x.f10.n x.f10.c] 28) = W := ⟨_, rfl⟩
  rw [hW1] at h1
  have HS0 := Aside0.mk (show St w NoF W1 [blkC n0 (.cells #[.int .i64 x.f0, .string x.f1, .string x.f2, .string x.f3, .int .i64 x.f4, .bool x.f5, .slice x.f6.A x.f6.n x.f6.c, .slice x.f7.A x.f7.n x.f7.c, .slice x.f8.A x.f8.n x.f8.c, .slice x.f9.A x.f9.n x.f9.c, .slice x.f10.A x.f10.n x.f10.c] 28 (0, 0))] from h1)
  obtain ⟨b, hb, hsm⟩ : ∃ b, (∃ k, interlocklaw15_GreatStmt.f k x.f0 x.f1 x.f2 x.f3 x.f4 x.f5 l6 l7 l8 l9 l10 = some b) ∧ (b = false → Small x.f1 x.f2 x.f3 l6 l7 l8 l9 l10) := by
    obtain ⟨k, r, h, h2⟩ := gstmt_some x.f0 x.f1 x.f2 x.f3 x.f4 x.f5 l6 l7 l8 l9 l10
    exact ⟨r, ⟨k, h⟩, h2⟩
  have A8 := Aside0.mk (fun W (h : St w NoF W [blkC n0 (.cells #[.int .i64 x.f0, .string x.f1, .string x.f2, .string x.f3, .int .i64 x.f4, .bool x.f5, .slice x.f6.A x.f6.n x.f6.c, .slice x.f7.A x.f7.n x.f7.c, .slice x.f8.A x.f8.n x.f8.c, .slice x.f9.A x.f9.n x.f9.c, .slice x.f10.A x.f10.n x.f10.c] 28 (0, 0))]) => gstmt_calls b hb (hx.below (keep_below h.keep)))
  have A9 := Aside0.mk (fun W (h : St w NoF W [blkC n0 (.cells #[.int .i64 x.f0, .string x.f1, .string x.f2, .string x.f3, .int .i64 x.f4, .bool x.f5, .slice x.f6.A x.f6.n x.f6.c, .slice x.f7.A x.f7.n x.f7.c, .slice x.f8.A x.f8.n x.f8.c, .slice x.f9.A x.f9.n x.f9.c, .slice x.f10.A x.f10.n x.f10.c] 28 (0, 0))]) (hs : Small x.f1 x.f2 x.f3 l6 l7 l8 l9 l10) => new_calls W x tries l6 l7 l8 l9 l10 (hx.below (keep_below h.keep)).sr hs.sn)
  clear h1 hx hb
  cases b with
  | true =>
    clear hsm A9
    go_enter Try.func4, Try.ntmps4
    go_wp2_with (first | (go_at_call 7; refine (alive_calls _).mono ?_; rintro E w1 ⟨rfl, hb⟩; have h := HS0.out.below hb; obtain ⟨p0, p1, p2, p3, p4, p5, p6, p7, p8, p9, p10⟩ := box11 (h.blk 0 rfl); have HS1 := Aside0.mk h; clear h hb HS0) | (go_at_call 8; refine (A8.out _ HS1.out).mono ?_; rintro E w2 ⟨rfl, hb⟩; have h := HS1.out.below hb; clear p0 p1 p2 p3 p4 p5 p6 p7 p8 p9 p10; obtain ⟨p0, p1, p2, p3, p4, p5, p6, p7, p8, p9, p10⟩ := box11 (h.blk 0 rfl); have HS2 := Aside0.mk h; clear h hb HS1 A8))
    rw [← HQ.out]
    exact ⟨rfl, keep_below HS2.out.keep⟩
  | false =>
    have HM := Aside0.mk (hsm rfl)
    clear hsm
    by_cases h100 : tries > 100
    · clear A9
      go_enter Try.func4, Try.ntmps4
      go_wp2_with (first | (go_at_call 7; refine (alive_calls _).mono ?_; rintro E w1 ⟨rfl, hb⟩; have h := HS0.out.below hb; obtain ⟨p0, p1, p2, p3, p4, p5, p6, p7, p8, p9, p10⟩ := box11 (h.blk 0 rfl); have HS1 := Aside0.mk h; clear h hb HS0) | (go_at_call 8; refine (A8.out _ HS1.out).mono ?_; rintro E w2 ⟨rfl, hb⟩; have h := HS1.out.below hb; clear p0 p1 p2 p3 p4 p5 p6 p7 p8 p9 p10; obtain ⟨p0, p1, p2, p3, p4, p5, p6, p7, p8, p9, p10⟩ := box11 (h.blk 0 rfl); have HS2 := Aside0.mk h; clear h hb HS1 A8))
      rw [← HQ.out]
      exact ⟨rfl, keep_below HS2.out.keep⟩
    · by_cases h1m : 1 ≤ tries
      · obtain ⟨m, rfl⟩ : ∃ m : Nat, tries = m := ⟨tries.toNat, by omega⟩
        have hm1 : 1 ≤ m := by omega
        have hm2 : m ≤ 100 := by omega
        have hmx : maxT (m : Int) = m := by
          unfold maxT
          rw [if_neg (by omega)]
        have hmax : max (m : Int) 1 = (m : Int) := by omega
        unfold New9 at A9
        rw [hmx] at A9
        clear hmx hti
        go_enter Try.func4, Try.ntmps4
        go_wp2_with (first | (go_at_call 7; refine (alive_calls _).mono ?_; rintro E w1 ⟨rfl, hb⟩; have h := HS0.out.below hb; obtain ⟨p0, p1, p2, p3, p4, p5, p6, p7, p8, p9, p10⟩ := box11 (h.blk 0 rfl); have HS1 := Aside0.mk h; clear h hb HS0) | (go_at_call 8; refine (A8.out _ HS1.out).mono ?_; rintro E w2 ⟨rfl, hb⟩; have h := HS1.out.below hb; clear p0 p1 p2 p3 p4 p5 p6 p7 p8 p9 p10; obtain ⟨p0, p1, p2, p3, p4, p5, p6, p7, p8, p9, p10⟩ := box11 (h.blk 0 rfl); have HS2 := Aside0.mk h; clear h hb HS1 A8) | (go_at_call 9; refine (A9.out _ HS2.out HM.out).mono ?_; rintro E w3 ⟨jp, y, hy, rfl, h⟩; obtain ⟨R, hR⟩ : ∃ R, srC y l6 l7 l8 l9 l10 = R := ⟨_, rfl⟩; rw [hR] at h; have h2 := (St.base h (keep_below HS2.out.keep)).fresh (Below.refl _ _) (ansC (.slice none 0 0) []) (Or.inl ⟨rfl, rfl⟩) (nd_bl (.slice none 0 0)) (fun b hb => (by simp [ansC, ab] at hb)); obtain ⟨tp, htp⟩ : ∃ n, w3.heap.size = n := ⟨_, rfl⟩; have h3 := JT.start h2 htp; have HS4 := Aside0.mk (show JT w NoF jp tp y (trS m []) R _ from h3); have HG := Aside0.mk (show Beg (trS m []) y from ⟨rfl, rfl, ⟨(show (1 : Int) ≤ (m : Int) by omega), (show (m : Int) ≤ 9223372036854775807 by omega)⟩, (by rw [hy.2.1]; have := HM.out.s1; omega), (by rw [hy.2.2.1]; have := HM.out.s2; omega), fun a ha => (by cases ha), fun a ha => (by cases ha), Nat.zero_le _⟩); obtain ⟨W4, hW4⟩ : ∃ W, w3.alloc (.cells #[.slice none 0 0, .slice none 0 0, .int .i64 0] 36) = W := ⟨_, rfl⟩; rw [hW4] at HS4; clear h h2 h3 hy hR HS2 A9 HM p0 p1 p2 p3 p4 p5 p6 p7 p8 p9 p10))
        go_loopg [7] m (fun gq v7 wx => ∃ i : Nat, v7 = .int .i64 ((i : Int) + 1) ∧ i + gq = m ∧ Aside0 (JT w NoF jp tp y ((trS m []).steps y i) R wx))
        case atStart => exact ⟨0, rfl, by omega, HS4⟩
        case round =>
          clear HS4
          obtain ⟨i, rfl, hi, HS⟩ := hrel
          cases gk with
          | zero =>
            obtain rfl : i = m := by omega
            have hin : ¬ ((i : Int) + 1 ≤ (i : Int)) := by omega
            have hl := tr_last y i (by omega)
            have h := HS.out
            rw [hl] at h
            obtain ⟨T, hT⟩ : ∃ T, trT y = T := ⟨_, rfl⟩
            obtain ⟨hT3, hTx⟩ : 3 ≤ T.size ∧ T.extract 0 3 = (⟨#[116, 114, 121]⟩ : ByteArray) := by rw [← hT]; exact tryS_try _
            rw [hT] at h
            have hok := steps_ok HG.out i (by omega)
            rw [hl, hT] at hok
            have HOK := Aside0.mk hok
            have HS5 := Aside0.mk h
            clear h HS hl hT hok
            go_wp2
            go_loopg [10] i (fun gq v10 wx => ∃ k : Nat, v10 = .int .i64 k ∧ k + gq = i ∧ Aside0 (JT w NoF jp tp y (trE (List.replicate i T)) R wx))
            case atStart => exact ⟨0, rfl, by omega, HS5⟩
            case round =>
              clear HS5
              obtain ⟨k, rfl, hk, HS⟩ := hrel
              obtain ⟨A, c, q1, q2, q3, hr⟩ := HS.out.asked
              rw [show (trE (List.replicate i T)).txt.length = i from List.length_replicate] at q1 hr
              cases gk with
              | zero =>
                obtain rfl : k = i := by omega
                have hkk : ¬ ((k : Int) < (k : Int)) := by omega
                have A10 := Aside0.mk (step_calls HS.out HOK.out)
                rw [tr_end, show StepE (trE (List.replicate k T)) = .returned (.tuple #[.int .i64 34, .bool true]) by kernel_rfl] at A10
                clear hr HS
                go_wp2_with (first
                  | (go_at_call 10; refine A10.out.mono ?_; rintro E w5 ⟨rfl, h⟩; have HT := Aside0.mk h; have A11 := Aside0.mk (phase_calls h); clear h A10 q1 q2 q3)
                  | (go_at_call 11; refine A11.out.mono ?_; rintro E w6 ⟨rfl, rfl⟩; clear A11))
                rw [← HQ.out]
                exact ⟨rfl, keep_below HT.out.rest.keep⟩
              | succ gq =>
                have hkk : (k : Int) < (i : Int) := by omega
                have hk0 : (0 : Int) ≤ (k : Int) := by omega
                have hk9 : (k : Int) ≤ 1000000 := by omega
                obtain ⟨g, c', hv, hle⟩ := row_slice (n := i) (by rw [show (trE (List.replicate i T)).txt = List.replicate i T from rfl] at hr; exact (show Row wr 9 1 (.slice A i c) i _ by have h := hr; unfold RowX at h; rw [List.length_replicate] at h; exact h)) (by omega)
                obtain ⟨rfl, rfl⟩ : A = some ⟨g, 0, none⟩ ∧ c = c' := by
                  injection hv with e1 e2 e3
                  exact ⟨e1, e3⟩
                have d0 : wr.cell? ⟨g, k, none⟩ = some (.string T) := by
                  have h := hr.cell (i := k) (x := T) (by show (List.replicate i T)[k]? = _; rw [List.getElem?_replicate, if_pos (by omega)]) 0 (by decide) _ rfl
                  rwa [show k * txtE.sz + 0 = k from Nat.mul_one k] at h
                have hg := World.block_lt_of_cell? _ _ d0
                clear hr hv hle
                go_wp2
                go_roundg gq
                case measure => omega
                case rel => exact ⟨k + 1, by go_num, by omega, HS⟩
          | succ gq =>
            have him : i < m := by omega
            have hi0 : (0 : Int) ≤ (i : Int) := by omega
            have hi9 : (i : Int) ≤ 1000000 := by omega
            have hin : (i : Int) + 1 ≤ (m : Int) := by omega
            have A10 := Aside0.mk (step_calls HS.out (steps_ok HG.out i (by omega)))
            rw [show ((trS m []).steps y i).step y = (trS m []).steps y (i + 1) from rfl] at A10
            clear HS
            by_cases hlast : i + 1 = m
            · have hii : (i : Int) + 1 = (m : Int) := by omega
              have e1 : StepE ((trS m []).steps y (i + 1)) = .returned (.tuple #[.int .i64 34, .bool true]) := by
                rw [hlast, tr_last y m (by omega)]
                exact trE_e _
              rw [e1] at A10
              clear e1 hii
              have hii : (i : Int) + 1 = (m : Int) := (by omega)
              have HGQ := Aside0.mk (show i + 1 + gq = m by omega)
              clear hlast hi him hin
              go_wp2_with (go_at_call 10; refine A10.out.mono ?_; rintro E w3 ⟨rfl, h⟩; have HS2 := Aside0.mk h; clear h A10)
              go_roundg gq
              case measure => have := HGQ.out; omega
              case rel => exact ⟨i + 1, by go_num, HGQ.out, HS2⟩
            · have hii : ¬ ((i : Int) + 1 = (m : Int)) := by omega
              have e1 : StepE ((trS m []).steps y (i + 1)) = .returned (.tuple #[.int .i64 0, .bool false]) := by
                rw [tr_steps y m (i + 1) (by omega)]
                exact trS_e _ _
              rw [e1] at A10
              clear e1
              go_wp2_with (go_at_call 10; refine A10.out.mono ?_; rintro E w3 ⟨rfl, h⟩; have HS2 := Aside0.mk h; clear h A10)
              go_roundg gq
              case measure => omega
              case rel => exact ⟨i + 1, by go_num, by omega, HS2⟩
      · obtain ⟨m, hm⟩ : ∃ m : Nat, m = 1 := ⟨1, rfl⟩
        have hm1 : 1 ≤ m := by omega
        have hm2 : m ≤ 100 := by omega
        have hmx : maxT tries = m := by
          unfold maxT
          rw [if_pos (by omega), hm]
          rfl
        have hmax : max tries 1 = 1 := by omega
        unfold New9 at A9
        rw [hmx] at A9
        clear hmx hti
        go_enter Try.func4, Try.ntmps4
        go_wp2_with (first | (go_at_call 7; refine (alive_calls _).mono ?_; rintro E w1 ⟨rfl, hb⟩; have h := HS0.out.below hb; obtain ⟨p0, p1, p2, p3, p4, p5, p6, p7, p8, p9, p10⟩ := box11 (h.blk 0 rfl); have HS1 := Aside0.mk h; clear h hb HS0) | (go_at_call 8; refine (A8.out _ HS1.out).mono ?_; rintro E w2 ⟨rfl, hb⟩; have h := HS1.out.below hb; clear p0 p1 p2 p3 p4 p5 p6 p7 p8 p9 p10; obtain ⟨p0, p1, p2, p3, p4, p5, p6, p7, p8, p9, p10⟩ := box11 (h.blk 0 rfl); have HS2 := Aside0.mk h; clear h hb HS1 A8) | (go_at_call 9; refine (A9.out _ HS2.out HM.out).mono ?_; rintro E w3 ⟨jp, y, hy, rfl, h⟩; obtain ⟨R, hR⟩ : ∃ R, srC y l6 l7 l8 l9 l10 = R := ⟨_, rfl⟩; rw [hR] at h; have h2 := (St.base h (keep_below HS2.out.keep)).fresh (Below.refl _ _) (ansC (.slice none 0 0) []) (Or.inl ⟨rfl, rfl⟩) (nd_bl (.slice none 0 0)) (fun b hb => (by simp [ansC, ab] at hb)); obtain ⟨tp, htp⟩ : ∃ n, w3.heap.size = n := ⟨_, rfl⟩; have h3 := JT.start h2 htp; have HS4 := Aside0.mk (show JT w NoF jp tp y (trS m []) R _ from h3); have HG := Aside0.mk (show Beg (trS m []) y from ⟨rfl, rfl, ⟨(show (1 : Int) ≤ (m : Int) by omega), (show (m : Int) ≤ 9223372036854775807 by omega)⟩, (by rw [hy.2.1]; have := HM.out.s1; omega), (by rw [hy.2.2.1]; have := HM.out.s2; omega), fun a ha => (by cases ha), fun a ha => (by cases ha), Nat.zero_le _⟩); obtain ⟨W4, hW4⟩ : ∃ W, w3.alloc (.cells #[.slice none 0 0, .slice none 0 0, .int .i64 0] 36) = W := ⟨_, rfl⟩; rw [hW4] at HS4; clear h h2 h3 hy hR HS2 A9 HM p0 p1 p2 p3 p4 p5 p6 p7 p8 p9 p10))
        go_loopg [7] m (fun gq v7 wx => ∃ i : Nat, v7 = .int .i64 ((i : Int) + 1) ∧ i + gq = m ∧ Aside0 (JT w NoF jp tp y ((trS m []).steps y i) R wx))
        case atStart => exact ⟨0, rfl, by omega, HS4⟩
        case round =>
          clear HS4
          obtain ⟨i, rfl, hi, HS⟩ := hrel
          cases gk with
          | zero =>
            obtain rfl : i = m := by omega
            have hin : ¬ ((i : Int) + 1 ≤ 1) := by omega
            have hl := tr_last y i (by omega)
            have h := HS.out
            rw [hl] at h
            obtain ⟨T, hT⟩ : ∃ T, trT y = T := ⟨_, rfl⟩
            obtain ⟨hT3, hTx⟩ : 3 ≤ T.size ∧ T.extract 0 3 = (⟨#[116, 114, 121]⟩ : ByteArray) := by rw [← hT]; exact tryS_try _
            rw [hT] at h
            have hok := steps_ok HG.out i (by omega)
            rw [hl, hT] at hok
            have HOK := Aside0.mk hok
            have HS5 := Aside0.mk h
            clear h HS hl hT hok
            go_wp2
            go_loopg [10] i (fun gq v10 wx => ∃ k : Nat, v10 = .int .i64 k ∧ k + gq = i ∧ Aside0 (JT w NoF jp tp y (trE (List.replicate i T)) R wx))
            case atStart => exact ⟨0, rfl, by omega, HS5⟩
            case round =>
              clear HS5
              obtain ⟨k, rfl, hk, HS⟩ := hrel
              obtain ⟨A, c, q1, q2, q3, hr⟩ := HS.out.asked
              rw [show (trE (List.replicate i T)).txt.length = i from List.length_replicate] at q1 hr
              cases gk with
              | zero =>
                obtain rfl : k = i := by omega
                have hkk : ¬ ((k : Int) < (k : Int)) := by omega
                have A10 := Aside0.mk (step_calls HS.out HOK.out)
                rw [tr_end, show StepE (trE (List.replicate k T)) = .returned (.tuple #[.int .i64 34, .bool true]) by kernel_rfl] at A10
                clear hr HS
                go_wp2_with (first
                  | (go_at_call 10; refine A10.out.mono ?_; rintro E w5 ⟨rfl, h⟩; have HT := Aside0.mk h; have A11 := Aside0.mk (phase_calls h); clear h A10 q1 q2 q3)
                  | (go_at_call 11; refine A11.out.mono ?_; rintro E w6 ⟨rfl, rfl⟩; clear A11))
                rw [← HQ.out]
                exact ⟨rfl, keep_below HT.out.rest.keep⟩
              | succ gq =>
                have hkk : (k : Int) < (i : Int) := by omega
                have hk0 : (0 : Int) ≤ (k : Int) := by omega
                have hk9 : (k : Int) ≤ 1000000 := by omega
                obtain ⟨g, c', hv, hle⟩ := row_slice (n := i) (by rw [show (trE (List.replicate i T)).txt = List.replicate i T from rfl] at hr; exact (show Row wr 9 1 (.slice A i c) i _ by have h := hr; unfold RowX at h; rw [List.length_replicate] at h; exact h)) (by omega)
                obtain ⟨rfl, rfl⟩ : A = some ⟨g, 0, none⟩ ∧ c = c' := by
                  injection hv with e1 e2 e3
                  exact ⟨e1, e3⟩
                have d0 : wr.cell? ⟨g, k, none⟩ = some (.string T) := by
                  have h := hr.cell (i := k) (x := T) (by show (List.replicate i T)[k]? = _; rw [List.getElem?_replicate, if_pos (by omega)]) 0 (by decide) _ rfl
                  rwa [show k * txtE.sz + 0 = k from Nat.mul_one k] at h
                have hg := World.block_lt_of_cell? _ _ d0
                clear hr hv hle
                go_wp2
                go_roundg gq
                case measure => omega
                case rel => exact ⟨k + 1, by go_num, by omega, HS⟩
          | succ gq =>
            have him : i < m := by omega
            have hi0 : (0 : Int) ≤ (i : Int) := by omega
            have hi9 : (i : Int) ≤ 1000000 := by omega
            have hin : (i : Int) + 1 ≤ 1 := by omega
            have A10 := Aside0.mk (step_calls HS.out (steps_ok HG.out i (by omega)))
            rw [show ((trS m []).steps y i).step y = (trS m []).steps y (i + 1) from rfl] at A10
            clear HS
            by_cases hlast : i + 1 = m
            · have hii : (i : Int) + 1 = 1 := by omega
              have e1 : StepE ((trS m []).steps y (i + 1)) = .returned (.tuple #[.int .i64 34, .bool true]) := by
                rw [hlast, tr_last y m (by omega)]
                exact trE_e _
              rw [e1] at A10
              clear e1 hii
              obtain rfl : i = 0 := by omega
              have HGQ := Aside0.mk (show 0 + 1 + gq = m by omega)
              clear hlast hi him hin hm1 hm2
              go_wp2_with (go_at_call 10; refine A10.out.mono ?_; rintro E w3 ⟨rfl, h⟩; have HS2 := Aside0.mk h; clear h A10)
              go_roundg gq
              case measure => have := HGQ.out; omega
              case rel => exact ⟨0 + 1, by go_num, HGQ.out, HS2⟩
            · exact absurd (show i + 1 = m by omega) hlast
end Go.Proofs.Kb
end
section
namespace Go.Proofs.Ytnojcnmnkkgkgaa.Q
open Go.RowKit Go.Proofs.YtnojcnmnkkgkgaaW.PrintWords Go.Proofs.YtnojcnmnkkgkgaaW.PrintLast Go.Proofs.YtnojcnmnkkgkgaaW.PrintMore
attribute [local go_sem] max2_int min2_int max_two min_two max_three min_three max_four min_four
set_option linter.unusedVariables false
set_option linter.unusedSimpArgs false
set_option maxRecDepth 100000
def Rd {α : Type} (P : Program) (d : Kd α) (t : TypeId) (wf : α → Prop) : Prop :=
  ∀ {H : Type} (enc : TypeId × Value → H) (w : World) (base : Nat) (spare : Nat → Bool) (held : Bool) (fuel : Nat) (cs : List Value) (x : DataW H × List MemPlace),
    DataW.trod enc P w base spare held fuel t cs = some x → ∃ a, d.K w a cs ∧ wf a
theorem Rd.int {P : Program} {t : TypeId} {k : IntKind} (ht : P.underlying t = some (.int k)) : Rd P (Kd.int k) t (fun n => (Lit.int k n).wf = true) := by
  intro H enc w base spare held fuel cs x h
  obtain ⟨n, rfl, _, hw⟩ := DataW.trod_int ht h
  exact ⟨n, rfl, hw⟩
theorem Rd.bool {P : Program} {t : TypeId} (ht : P.underlying t = some .bool) : Rd P Kd.bool t (fun _ => True) := by
  intro H enc w base spare held fuel cs x h
  obtain ⟨n, rfl, _⟩ := DataW.trod_bool ht h
  exact ⟨n, rfl, trivial⟩
theorem Rd.string {P : Program} {t : TypeId} (ht : P.underlying t = some .string) : Rd P Kd.string t (fun s => s.size ≤ maxLen) := by
  intro H enc w base spare held fuel cs x h
  obtain ⟨n, rfl, _, hs⟩ := DataW.trod_string ht h
  exact ⟨n, rfl, hs⟩
theorem Rd.slice {α : Type} {P : Program} {d : Kd α} {t e : TypeId} {wf : α → Prop} (ht : P.underlying t = some (.slice e)) (hc : P.cellsOf e = d.sz) (hd : Rd P d e wf) :
    Rd P (Kd.slice e d) t (fun l => l.length ≤ maxLen ∧ ∀ a ∈ l, wf a) := by
  intro H enc w base spare held fuel cs x h
  rcases Go.Deep.open_slice ht h with ⟨rfl, _⟩ | ⟨a, len, cap, m, n, D, Pl, rfl, _, hl, hm, hmm, _, hi⟩
  · exact ⟨[], ⟨none, 0, rfl, Nat.le_refl _, rfl, Nat.zero_le _, fun h => absurd h (Nat.lt_irrefl _)⟩, Nat.zero_le _, fun _ h => by cases h⟩
  · have hlm : len ≤ m := by rw [hmm]; split <;> omega
    have hex : ∀ i, i < len → ∃ v, wf v ∧ ∃ c, c.length = d.sz ∧ d.K w v c ∧ ∀ j u, c[j]? = some u → w.cell? (a.add (i * d.sz + j)) = some u := by
      intro i hilt
      obtain ⟨cs', hcs, ht'⟩ := hi i (by omega)
      obtain ⟨v, hK, hw⟩ := hd enc w base spare held n cs' _ ht'
      rw [hc] at hcs
      obtain ⟨_, hlen, hat⟩ := World.cells?_some hcs
      refine ⟨v, hw, cs', hlen, hK, fun j u hj => ?_⟩
      have hjl : j < d.sz := by rw [← hlen]; exact (List.getElem?_eq_some_iff.1 hj).1
      have := hat j hjl
      rw [Go.Deep.add_add] at this
      rw [this, hj]
    have hex' : ∀ i : Fin len, ∃ v, wf v ∧ ∃ c, c.length = d.sz ∧ d.K w v c ∧ ∀ j u, c[j]? = some u → w.cell? (a.add (i.val * d.sz + j)) = some u := fun i => hex i.val i.isLt
    have hch : ∃ g : Fin len → α, ∀ i : Fin len, wf (g i) ∧ ∃ c, c.length = d.sz ∧ d.K w (g i) c ∧ ∀ j u, c[j]? = some u → w.cell? (a.add (i.val * d.sz + j)) = some u := ⟨fun i => Classical.choose (hex' i), fun i => Classical.choose_spec (hex' i)⟩
    obtain ⟨g, hg⟩ := hch
    have hlen : (List.ofFn g).length = len := List.length_ofFn
    refine ⟨List.ofFn g, ⟨some a, cap, by rw [hlen], by rw [hlen]; exact hl, rfl, by rw [hlen]; simp only [maxLen] at hm; omega, fun _ => ⟨a, rfl, fun j p hp => ?_⟩⟩, by rw [hlen]; omega, fun v hv => ?_⟩
    · obtain ⟨hj, he⟩ := List.getElem?_eq_some_iff.1 hp
      rw [List.getElem_ofFn] at he
      subst he
      exact (hg ⟨j, by omega⟩).2
    · obtain ⟨i, rfl⟩ := List.mem_ofFn.1 hv
      exact (hg i).1
theorem some_of_len {α : Type} {xs : List α} {n j : Nat} (h : xs.length = n) (hj : j < n) : ∃ y, xs[j]? = some y := ⟨_, List.getElem?_eq_getElem (by omega)⟩
def wf60 (v : S60) : Prop := (fun n => (Lit.int .i64 n).wf = true) v.f0 ∧ (fun n => (Lit.int .i64 n).wf = true) v.f1 ∧ (fun s => s.size ≤ maxLen) v.f2
theorem rd60 : Rd Try.prog k60 60 wf60 := by
  intro H enc w base spare held fuel cs x h
  obtain ⟨xs, n, _, _, hlen, hl, hf⟩ := DataW.trod_struct Try.underlying60 h
  rw [show Try.prog.cellsOf 60 = 3 by kernel_rfl] at hlen
  obtain ⟨c0, c1, c2, rfl⟩ : ∃ c0 c1 c2, cs = [c0, c1, c2] := by
    match cs, hlen with
    | [c0, c1, c2], _ => exact ⟨c0, c1, c2, rfl⟩
  obtain ⟨y0, hy0⟩ := some_of_len hl (j := 0) (by decide)
  have g0 : DataW.trod enc Try.prog w base spare held n 3 ((([c0, c1, c2] : List Value).drop 0).take (Try.prog.cellsOf 3)) = some y0 := (hf 0 _ rfl).trans hy0
  rw [show Try.prog.cellsOf 3 = 1 by kernel_rfl] at g0
  obtain ⟨a0, K0, w0⟩ := (Rd.int Try.underlying3) enc w base spare held n _ _ g0
  obtain ⟨y1, hy1⟩ := some_of_len hl (j := 1) (by decide)
  have g1 : DataW.trod enc Try.prog w base spare held n 3 ((([c0, c1, c2] : List Value).drop 1).take (Try.prog.cellsOf 3)) = some y1 := (hf 1 _ rfl).trans hy1
  rw [show Try.prog.cellsOf 3 = 1 by kernel_rfl] at g1
  obtain ⟨a1, K1, w1⟩ := (Rd.int Try.underlying3) enc w base spare held n _ _ g1
  obtain ⟨y2, hy2⟩ := some_of_len hl (j := 2) (by decide)
  have g2 : DataW.trod enc Try.prog w base spare held n 9 ((([c0, c1, c2] : List Value).drop 2).take (Try.prog.cellsOf 9)) = some y2 := (hf 2 _ rfl).trans hy2
  rw [show Try.prog.cellsOf 9 = 1 by kernel_rfl] at g2
  obtain ⟨a2, K2, w2⟩ := (Rd.string Try.underlying9) enc w base spare held n _ _ g2
  exact ⟨⟨a0, a1, a2⟩, ⟨[c0], [c1, c2], rfl, K0, ⟨[c1], [c2], rfl, K1, K2⟩⟩, ⟨w0, w1, w2⟩⟩
def wf62 (v : S62) : Prop := (fun s => s.size ≤ maxLen) v.f0 ∧ wf60 v.f1
theorem rd62 : Rd Try.prog k62 62 wf62 := by
  intro H enc w base spare held fuel cs x h
  obtain ⟨xs, n, _, _, hlen, hl, hf⟩ := DataW.trod_struct Try.underlying62 h
  rw [show Try.prog.cellsOf 62 = 4 by kernel_rfl] at hlen
  obtain ⟨c0, c1, c2, c3, rfl⟩ : ∃ c0 c1 c2 c3, cs = [c0, c1, c2, c3] := by
    match cs, hlen with
    | [c0, c1, c2, c3], _ => exact ⟨c0, c1, c2, c3, rfl⟩
  obtain ⟨y0, hy0⟩ := some_of_len hl (j := 0) (by decide)
  have g0 : DataW.trod enc Try.prog w base spare held n 9 ((([c0, c1, c2, c3] : List Value).drop 0).take (Try.prog.cellsOf 9)) = some y0 := (hf 0 _ rfl).trans hy0
  rw [show Try.prog.cellsOf 9 = 1 by kernel_rfl] at g0
  obtain ⟨a0, K0, w0⟩ := (Rd.string Try.underlying9) enc w base spare held n _ _ g0
  obtain ⟨y1, hy1⟩ := some_of_len hl (j := 1) (by decide)
  have g1 : DataW.trod enc Try.prog w base spare held n 60 ((([c0, c1, c2, c3] : List Value).drop 1).take (Try.prog.cellsOf 60)) = some y1 := (hf 1 _ rfl).trans hy1
  rw [show Try.prog.cellsOf 60 = 3 by kernel_rfl] at g1
  obtain ⟨a1, K1, w1⟩ := rd60 enc w base spare held n _ _ g1
  exact ⟨⟨a0, a1⟩, ⟨[c0], [c1, c2, c3], rfl, K0, K1⟩, ⟨w0, w1⟩⟩
def wf64 (v : S64) : Prop := (fun s => s.size ≤ maxLen) v.f0 ∧ (fun n => (Lit.int .i64 n).wf = true) v.f1 ∧ wf60 v.f2
theorem rd64 : Rd Try.prog k64 64 wf64 := by
  intro H enc w base spare held fuel cs x h
  obtain ⟨xs, n, _, _, hlen, hl, hf⟩ := DataW.trod_struct Try.underlying64 h
  rw [show Try.prog.cellsOf 64 = 5 by kernel_rfl] at hlen
  obtain ⟨c0, c1, c2, c3, c4, rfl⟩ : ∃ c0 c1 c2 c3 c4, cs = [c0, c1, c2, c3, c4] := by
    match cs, hlen with
    | [c0, c1, c2, c3, c4], _ => exact ⟨c0, c1, c2, c3, c4, rfl⟩
  obtain ⟨y0, hy0⟩ := some_of_len hl (j := 0) (by decide)
  have g0 : DataW.trod enc Try.prog w base spare held n 9 ((([c0, c1, c2, c3, c4] : List Value).drop 0).take (Try.prog.cellsOf 9)) = some y0 := (hf 0 _ rfl).trans hy0
  rw [show Try.prog.cellsOf 9 = 1 by kernel_rfl] at g0
  obtain ⟨a0, K0, w0⟩ := (Rd.string Try.underlying9) enc w base spare held n _ _ g0
  obtain ⟨y1, hy1⟩ := some_of_len hl (j := 1) (by decide)
  have g1 : DataW.trod enc Try.prog w base spare held n 3 ((([c0, c1, c2, c3, c4] : List Value).drop 1).take (Try.prog.cellsOf 3)) = some y1 := (hf 1 _ rfl).trans hy1
  rw [show Try.prog.cellsOf 3 = 1 by kernel_rfl] at g1
  obtain ⟨a1, K1, w1⟩ := (Rd.int Try.underlying3) enc w base spare held n _ _ g1
  obtain ⟨y2, hy2⟩ := some_of_len hl (j := 2) (by decide)
  have g2 : DataW.trod enc Try.prog w base spare held n 60 ((([c0, c1, c2, c3, c4] : List Value).drop 2).take (Try.prog.cellsOf 60)) = some y2 := (hf 2 _ rfl).trans hy2
  rw [show Try.prog.cellsOf 60 = 3 by kernel_rfl] at g2
  obtain ⟨a2, K2, w2⟩ := rd60 enc w base spare held n _ _ g2
  exact ⟨⟨a0, a1, a2⟩, ⟨[c0], [c1, c2, c3, c4], rfl, K0, ⟨[c1], [c2, c3, c4], rfl, K1, K2⟩⟩, ⟨w0, w1, w2⟩⟩
def wf66 (v : S66) : Prop := (fun s => s.size ≤ maxLen) v.f0 ∧ (fun n => (Lit.int .i64 n).wf = true) v.f1 ∧ (fun _ => True) v.f2
theorem rd66 : Rd Try.prog k66 66 wf66 := by
  intro H enc w base spare held fuel cs x h
  obtain ⟨xs, n, _, _, hlen, hl, hf⟩ := DataW.trod_struct Try.underlying66 h
  rw [show Try.prog.cellsOf 66 = 3 by kernel_rfl] at hlen
  obtain ⟨c0, c1, c2, rfl⟩ : ∃ c0 c1 c2, cs = [c0, c1, c2] := by
    match cs, hlen with
    | [c0, c1, c2], _ => exact ⟨c0, c1, c2, rfl⟩
  obtain ⟨y0, hy0⟩ := some_of_len hl (j := 0) (by decide)
  have g0 : DataW.trod enc Try.prog w base spare held n 9 ((([c0, c1, c2] : List Value).drop 0).take (Try.prog.cellsOf 9)) = some y0 := (hf 0 _ rfl).trans hy0
  rw [show Try.prog.cellsOf 9 = 1 by kernel_rfl] at g0
  obtain ⟨a0, K0, w0⟩ := (Rd.string Try.underlying9) enc w base spare held n _ _ g0
  obtain ⟨y1, hy1⟩ := some_of_len hl (j := 1) (by decide)
  have g1 : DataW.trod enc Try.prog w base spare held n 3 ((([c0, c1, c2] : List Value).drop 1).take (Try.prog.cellsOf 3)) = some y1 := (hf 1 _ rfl).trans hy1
  rw [show Try.prog.cellsOf 3 = 1 by kernel_rfl] at g1
  obtain ⟨a1, K1, w1⟩ := (Rd.int Try.underlying3) enc w base spare held n _ _ g1
  obtain ⟨y2, hy2⟩ := some_of_len hl (j := 2) (by decide)
  have g2 : DataW.trod enc Try.prog w base spare held n 4 ((([c0, c1, c2] : List Value).drop 2).take (Try.prog.cellsOf 4)) = some y2 := (hf 2 _ rfl).trans hy2
  rw [show Try.prog.cellsOf 4 = 1 by kernel_rfl] at g2
  obtain ⟨a2, K2, w2⟩ := (Rd.bool Try.underlying4) enc w base spare held n _ _ g2
  exact ⟨⟨a0, a1, a2⟩, ⟨[c0], [c1, c2], rfl, K0, ⟨[c1], [c2], rfl, K1, K2⟩⟩, ⟨w0, w1, w2⟩⟩
end Go.Proofs.Ytnojcnmnkkgkgaa.Q
end
section
namespace Go.Proofs.Kb
open Go Go.RowKit Go.Proofs.Ytnojcnmnkkgkgaa.Q Go.Proofs.YtnojcnmnkkgkgaaW.PrintWords Go.Proofs.YtnojcnmnkkgkgaaW.PrintLast Go.Proofs.YtnojcnmnkkgkgaaW.PrintMore
set_option linter.unusedVariables false
set_option linter.unusedSimpArgs false
set_option maxRecDepth 100000
theorem rd28 {H : Type} (enc : TypeId × Value → H) (w : World) (base : Nat) (spare : Nat → Bool) (held : Bool) (fuel : Nat) (cs : List Value) (x : DataW H × List MemPlace)
    (h : DataW.trod enc Try.prog w base spare held fuel 28 cs = some x) : ∃ (y : SV) (l6 : List S60) (l7 : List S62) (l8 : List S64) (l9 : List S66) (l10 : List ByteArray), cs = [.int .i64 y.f0, .string y.f1, .string y.f2, .string y.f3, .int .i64 y.f4, .bool y.f5, .slice y.f6.A y.f6.n y.f6.c, .slice y.f7.A y.f7.n y.f7.c, .slice y.f8.A y.f8.n y.f8.c, .slice y.f9.A y.f9.n y.f9.c, .slice y.f10.A y.f10.n y.f10.c] ∧ CK w y l6 l7 l8 l9 l10 := by
  obtain ⟨xs, n, _, _, hlen, hl, hf⟩ := DataW.trod_struct Try.underlying28 h
  rw [show Try.prog.cellsOf 28 = 11 by kernel_rfl] at hlen
  obtain ⟨c0, c1, c2, c3, c4, c5, c6, c7, c8, c9, c10, rfl⟩ : ∃ c0 c1 c2 c3 c4 c5 c6 c7 c8 c9 c10, cs = [c0, c1, c2, c3, c4, c5, c6, c7, c8, c9, c10] := by
    match cs, hlen with
    | [c0, c1, c2, c3, c4, c5, c6, c7, c8, c9, c10], _ => exact ⟨c0, c1, c2, c3, c4, c5, c6, c7, c8, c9, c10, rfl⟩
  obtain ⟨y0, hy0⟩ := some_of_len hl (j := 0) (by decide)
  have g0 : DataW.trod enc Try.prog w base spare held n 3 ((([c0, c1, c2, c3, c4, c5, c6, c7, c8, c9, c10] : List Value).drop 0).take (Try.prog.cellsOf 3)) = some y0 := (hf 0 _ rfl).trans hy0
  rw [show Try.prog.cellsOf 3 = 1 by kernel_rfl] at g0
  obtain ⟨a0, K0, w0⟩ := (Rd.int Try.underlying3) enc w base spare held n _ _ g0
  obtain ⟨y1, hy1⟩ := some_of_len hl (j := 1) (by decide)
  have g1 : DataW.trod enc Try.prog w base spare held n 9 ((([c0, c1, c2, c3, c4, c5, c6, c7, c8, c9, c10] : List Value).drop 1).take (Try.prog.cellsOf 9)) = some y1 := (hf 1 _ rfl).trans hy1
  rw [show Try.prog.cellsOf 9 = 1 by kernel_rfl] at g1
  obtain ⟨a1, K1, w1⟩ := (Rd.string Try.underlying9) enc w base spare held n _ _ g1
  obtain ⟨y2, hy2⟩ := some_of_len hl (j := 2) (by decide)
  have g2 : DataW.trod enc Try.prog w base spare held n 9 ((([c0, c1, c2, c3, c4, c5, c6, c7, c8, c9, c10] : List Value).drop 2).take (Try.prog.cellsOf 9)) = some y2 := (hf 2 _ rfl).trans hy2
  rw [show Try.prog.cellsOf 9 = 1 by kernel_rfl] at g2
  obtain ⟨a2, K2, w2⟩ := (Rd.string Try.underlying9) enc w base spare held n _ _ g2
  obtain ⟨y3, hy3⟩ := some_of_len hl (j := 3) (by decide)
  have g3 : DataW.trod enc Try.prog w base spare held n 9 ((([c0, c1, c2, c3, c4, c5, c6, c7, c8, c9, c10] : List Value).drop 3).take (Try.prog.cellsOf 9)) = some y3 := (hf 3 _ rfl).trans hy3
  rw [show Try.prog.cellsOf 9 = 1 by kernel_rfl] at g3
  obtain ⟨a3, K3, w3⟩ := (Rd.string Try.underlying9) enc w base spare held n _ _ g3
  obtain ⟨y4, hy4⟩ := some_of_len hl (j := 4) (by decide)
  have g4 : DataW.trod enc Try.prog w base spare held n 3 ((([c0, c1, c2, c3, c4, c5, c6, c7, c8, c9, c10] : List Value).drop 4).take (Try.prog.cellsOf 3)) = some y4 := (hf 4 _ rfl).trans hy4
  rw [show Try.prog.cellsOf 3 = 1 by kernel_rfl] at g4
  obtain ⟨a4, K4, w4⟩ := (Rd.int Try.underlying3) enc w base spare held n _ _ g4
  obtain ⟨y5, hy5⟩ := some_of_len hl (j := 5) (by decide)
  have g5 : DataW.trod enc Try.prog w base spare held n 4 ((([c0, c1, c2, c3, c4, c5, c6, c7, c8, c9, c10] : List Value).drop 5).take (Try.prog.cellsOf 4)) = some y5 := (hf 5 _ rfl).trans hy5
  rw [show Try.prog.cellsOf 4 = 1 by kernel_rfl] at g5
  obtain ⟨a5, K5, w5⟩ := (Rd.bool Try.underlying4) enc w base spare held n _ _ g5
  obtain ⟨y6, hy6⟩ := some_of_len hl (j := 6) (by decide)
  have g6 : DataW.trod enc Try.prog w base spare held n 22 ((([c0, c1, c2, c3, c4, c5, c6, c7, c8, c9, c10] : List Value).drop 6).take (Try.prog.cellsOf 22)) = some y6 := (hf 6 _ rfl).trans hy6
  rw [show Try.prog.cellsOf 22 = 1 by kernel_rfl] at g6
  obtain ⟨a6, K6, w6⟩ := (Rd.slice Try.underlying22 (by kernel_rfl) rd60) enc w base spare held n _ _ g6
  obtain ⟨y7, hy7⟩ := some_of_len hl (j := 7) (by decide)
  have g7 : DataW.trod enc Try.prog w base spare held n 23 ((([c0, c1, c2, c3, c4, c5, c6, c7, c8, c9, c10] : List Value).drop 7).take (Try.prog.cellsOf 23)) = some y7 := (hf 7 _ rfl).trans hy7
  rw [show Try.prog.cellsOf 23 = 1 by kernel_rfl] at g7
  obtain ⟨a7, K7, w7⟩ := (Rd.slice Try.underlying23 (by kernel_rfl) rd62) enc w base spare held n _ _ g7
  obtain ⟨y8, hy8⟩ := some_of_len hl (j := 8) (by decide)
  have g8 : DataW.trod enc Try.prog w base spare held n 24 ((([c0, c1, c2, c3, c4, c5, c6, c7, c8, c9, c10] : List Value).drop 8).take (Try.prog.cellsOf 24)) = some y8 := (hf 8 _ rfl).trans hy8
  rw [show Try.prog.cellsOf 24 = 1 by kernel_rfl] at g8
  obtain ⟨a8, K8, w8⟩ := (Rd.slice Try.underlying24 (by kernel_rfl) rd64) enc w base spare held n _ _ g8
  obtain ⟨y9, hy9⟩ := some_of_len hl (j := 9) (by decide)
  have g9 : DataW.trod enc Try.prog w base spare held n 25 ((([c0, c1, c2, c3, c4, c5, c6, c7, c8, c9, c10] : List Value).drop 9).take (Try.prog.cellsOf 25)) = some y9 := (hf 9 _ rfl).trans hy9
  rw [show Try.prog.cellsOf 25 = 1 by kernel_rfl] at g9
  obtain ⟨a9, K9, w9⟩ := (Rd.slice Try.underlying25 (by kernel_rfl) rd66) enc w base spare held n _ _ g9
  obtain ⟨y10, hy10⟩ := some_of_len hl (j := 10) (by decide)
  have g10 : DataW.trod enc Try.prog w base spare held n 26 ((([c0, c1, c2, c3, c4, c5, c6, c7, c8, c9, c10] : List Value).drop 10).take (Try.prog.cellsOf 26)) = some y10 := (hf 10 _ rfl).trans hy10
  rw [show Try.prog.cellsOf 26 = 1 by kernel_rfl] at g10
  obtain ⟨a10, K10, w10⟩ := (Rd.slice Try.underlying26 (by kernel_rfl) (Rd.string Try.underlying9)) enc w base spare held n _ _ g10
  obtain ⟨A6, k6, e6, q6, hC6⟩ := K6
  obtain ⟨A7, k7, e7, q7, hC7⟩ := K7
  obtain ⟨A8, k8, e8, q8, hC8⟩ := K8
  obtain ⟨A9, k9, e9, q9, hC9⟩ := K9
  obtain ⟨A10, k10, e10, q10, hC10⟩ := K10
  refine ⟨⟨a0, a1, a2, a3, a4, a5, ⟨A6, a6.length, k6⟩, ⟨A7, a7.length, k7⟩, ⟨A8, a8.length, k8⟩, ⟨A9, a9.length, k9⟩, ⟨A10, a10.length, k10⟩⟩, a6, a7, a8, a9, a10, ?_, ⟨⟨rfl, q6, hC6⟩, ⟨rfl, q7, hC7⟩, ⟨rfl, q8, hC8⟩, ⟨rfl, q9, hC9⟩, ⟨rfl, q10, hC10⟩⟩⟩
  have f0 : c0 = .int .i64 a0 := by injection (show [c0] = [_] from K0)
  have f1 : c1 = .string a1 := by injection (show [c1] = [_] from K1)
  have f2 : c2 = .string a2 := by injection (show [c2] = [_] from K2)
  have f3 : c3 = .string a3 := by injection (show [c3] = [_] from K3)
  have f4 : c4 = .int .i64 a4 := by injection (show [c4] = [_] from K4)
  have f5 : c5 = .bool a5 := by injection (show [c5] = [_] from K5)
  have f6 : c6 = .slice A6 a6.length k6 := by injection (show [c6] = [_] from e6)
  have f7 : c7 = .slice A7 a7.length k7 := by injection (show [c7] = [_] from e7)
  have f8 : c8 = .slice A8 a8.length k8 := by injection (show [c8] = [_] from e8)
  have f9 : c9 = .slice A9 a9.length k9 := by injection (show [c9] = [_] from e9)
  have f10 : c10 = .slice A10 a10.length k10 := by injection (show [c10] = [_] from e10)
  rw [f0, f1, f2, f3, f4, f5, f6, f7, f8, f9, f10]
end Go.Proofs.Kb
end
