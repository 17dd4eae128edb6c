/- Packed by shake.py: YtjaddmflopahiaaE15 YtjaddmflopahiaaE16 YtjaddmflopahiaaE17 YtjaddmflopahiaaE18 YtjaddmflopahiaaE19 YtjaddmflopahiaaE8 YtjaddmflopahiaaE9 YtjaddmflopahiaaQ17 YtjaddmflopahiaaE10 YtjaddmflopahiaaE20 YtjaddmflopahiaaE21 YtjaddmflopahiaaE11 YtjaddmflopahiaaE22 YtjaddmflopahiaaE23 YtjaddmflopahiaaP12 YtjaddmflopahiaaE13 YtjaddmflopahiaaE24 YtjaddmflopahiaaP14 YtjaddmflopahiaaQ38 YtjaddmflopahiaaE25 YtjaddmflopahiaaP15 YtjaddmflopahiaaQ14 YtjaddmflopahiaaP16 YtjaddmflopahiaaE26 YtjaddmflopahiaaG1 YtjaddmflopahiaaG2 YtjaddmflopahiaaG3 -/
import Derived.Maps.RangeWalk
import Derived.Maps.OwnSet
import Derived.DeepKeys4
import Derived.Test.YtjaddmflopahiaaV6
section
namespace Go.Proofs.Bt
open Go Go.RowKit Go.Proofs.Ytjaddmflopahiaa.Q Go.Proofs.YtjaddmflopahiaaW.PrintWords Go.Proofs.YtjaddmflopahiaaW.PrintLast Go.Proofs.YtjaddmflopahiaaW.PrintMore
set_option linter.unusedVariables false
set_option linter.unusedSimpArgs false
set_option maxRecDepth 100000
structure PF (W : World) (rp : Nat) (v : Value) (ks : List S29) (bx : Nat) (e : S29) : Prop where
  cell : W.heap[rp]? = some (.cells #[v] 57 (0, 0))
  row : RowE W v ks
  box : W.heap[bx]? = some (boxE e)
theorem PF.below {W W' : World} {rp bx : Nat} {v : Value} {ks : List S29} {e : S29} (h : PF W rp v ks bx e) (hb : Below W.heap.size W W') : PF W' rp v ks bx e :=
  ⟨(hb.block rp (lt_of_some h.cell)).trans h.cell, Row.below h.row hb, (hb.block bx (lt_of_some h.box)).trans h.box⟩
theorem PF.cells {W : World} {rp g n c bx i : Nat} {ks : List S29} {e x : S29} (h : PF W rp (.slice (some ⟨g, 0, none⟩) n c) ks bx e) (hx : ks[i]? = some x) :
    W.cell? ⟨rp, 0, none⟩ = some (.slice (some ⟨g, 0, none⟩) n c) ∧ W.cell? ⟨g, i * 3, none⟩ = some (.string x.f0) ∧ W.cell? ⟨g, i * 3 + 1, none⟩ = some (.int .i64 x.f1.f0) ∧ W.cell? ⟨g, i * 3 + 2, none⟩ = some (.int .i64 x.f1.f1) ∧
      W.cell? ⟨bx, 0, none⟩ = some (.string e.f0) ∧ W.cell? ⟨bx, 1, none⟩ = some (.int .i64 e.f1.f0) ∧ W.cell? ⟨bx, 2, none⟩ = some (.int .i64 e.f1.f1) := by
  obtain ⟨hi, rfl⟩ := List.getElem?_eq_some_iff.1 hx
  obtain ⟨d0, d1, d2⟩ := RowE.cells h.row i hi
  exact ⟨(blk_cell h.cell 0).trans rfl, d0, d1, d2, (blk_cell h.box 0).trans rfl, (blk_cell h.box 1).trans rfl, (blk_cell h.box 2).trans rfl⟩
end Go.Proofs.Bt
end
section
namespace Go.Proofs.Bt
open Go Go.RowKit Go.Proofs.Ytjaddmflopahiaa.Q Go.Proofs.YtjaddmflopahiaaW.PrintWords Go.Proofs.YtjaddmflopahiaaW.PrintLast Go.Proofs.YtjaddmflopahiaaW.PrintMore
set_option linter.unusedVariables false
set_option linter.unusedSimpArgs false
set_option maxRecDepth 100000
def PartE (w : World) (u : Value) (ls : List S29) : Prop := (u = .slice none 0 0 ∧ ls = []) ∨ ∃ a c, u = .slice (some a) ls.length c ∧ ∀ j x, (encEs ls)[j]? = some x → w.cell? (a.add j) = some x
theorem PartE.below {w w' : World} {u : Value} {ls : List S29} (h : PartE w u ls) (hb : Below w.heap.size w w') : PartE w' u ls :=
  h.imp id fun ⟨a, c, h1, h2⟩ => ⟨a, c, h1, fun j x hx => pw_cell_below hb (h2 j x hx)⟩
end Go.Proofs.Bt
end
section
namespace Go.Proofs.Bt
open Go Go.RowKit Go.Proofs.Ytjaddmflopahiaa.Q Go.Proofs.YtjaddmflopahiaaW.PrintWords Go.Proofs.YtjaddmflopahiaaW.PrintLast Go.Proofs.YtjaddmflopahiaaW.PrintMore
set_option linter.unusedVariables false
set_option linter.unusedSimpArgs false
set_option maxRecDepth 100000
def refC (rp : Nat) (v : Value) (ks : List S29) : List Chunk := [boxC rp 57 v, rowEC v ks]
end Go.Proofs.Bt
end
section
namespace Go.Proofs.Bt
open Go Go.RowKit Go.Proofs.Ytjaddmflopahiaa.Q Go.Proofs.YtjaddmflopahiaaW.PrintWords Go.Proofs.YtjaddmflopahiaaW.PrintLast Go.Proofs.YtjaddmflopahiaaW.PrintMore
set_option linter.unusedVariables false
set_option linter.unusedSimpArgs false
set_option maxRecDepth 100000
end Go.Proofs.Bt
end
section
namespace Go.Proofs.Bt
open Go Go.RowKit Go.Proofs.Ytjaddmflopahiaa.Q Go.Proofs.YtjaddmflopahiaaW.PrintWords Go.Proofs.YtjaddmflopahiaaW.PrintLast Go.Proofs.YtjaddmflopahiaaW.PrintMore
set_option linter.unusedVariables false
set_option linter.unusedSimpArgs false
set_option maxRecDepth 100000
end Go.Proofs.Bt
end
section
namespace Go.Proofs.Bt
open Go Go.RowKit Go.Proofs.Ytjaddmflopahiaa.Q Go.Proofs.YtjaddmflopahiaaW.PrintWords Go.Proofs.YtjaddmflopahiaaW.PrintLast Go.Proofs.YtjaddmflopahiaaW.PrintMore
set_option linter.unusedVariables false
set_option linter.unusedSimpArgs false
set_option maxRecDepth 100000
def ea (b : UInt8) : S29 := ⟨⟨#[b]⟩, ⟨0, 0⟩⟩
def TA : Nat → ST
  | 0 => ⟨0, ([] : List S29)⟩
  | 1 => ⟨0, ([ea 97] : List S29)⟩
  | 2 => ⟨0, ([ea 97, ea 98] : List S29)⟩
  | 3 => ⟨0, ([ea 97, ea 98, ea 99] : List S29)⟩
  | 4 => ⟨0, ([ea 97, ea 98, ea 99, ea 100] : List S29)⟩
  | _ => ⟨1, (([ea 99], [[ea 97, ea 98], [ea 99, ea 100, ea 101]]) : List S29 × List (List S29))⟩
theorem ta0 : tinsS (TA 0) (ea 97) = (TA 1, true) := by kernel_rfl
theorem ta1 : tinsS (TA 1) (ea 98) = (TA 2, true) := by kernel_rfl
theorem ta2 : tinsS (TA 2) (ea 99) = (TA 3, true) := by kernel_rfl
theorem ta3 : tinsS (TA 3) (ea 100) = (TA 4, true) := by kernel_rfl
theorem ta4 : tinsS (TA 4) (ea 101) = (TA 5, true) := by kernel_rfl
theorem ta5 : tinsS (TA 5) (ea 97) = (TA 5, false) := by kernel_rfl
theorem tad : (tcutS (TA 5) (ea 97)).2 = true := by kernel_rfl
theorem tap : pagesOf (TA 5) = [(false, [ea 99], [1, 2]), (true, [ea 97, ea 98], []), (true, [ea 99, ea 100, ea 101], [])] := by kernel_rfl
theorem tar : rng ⟨#[100]⟩ 9 (fromS (TA 5) (lowS ⟨#[98]⟩)) 0 = [ea 98, ea 99] := by kernel_rfl
theorem tfl : (fromS (TA 5) (lowS ⟨#[98]⟩)).length < 90000 := by decide +kernel
theorem tinv0 : TInvS (TA 0) := ⟨⟨Nat.le_refl _, by decide⟩, List.Pairwise.nil⟩
theorem tinv_step {T T' : ST} {e : S29} {b : Bool} (hi : TInvS T) (h : tinsS T e = (T', b)) : TInvS T' := by
  have := (tins_good T.1 T.2 e hi).1
  have e1 : (tins T.1 T.2 e).1 = T' := by
    have := congrArg Prod.fst h
    exact this
  rw [e1] at this
  exact this
theorem tinv1 : TInvS (TA 1) := tinv_step tinv0 ta0
theorem tinv2 : TInvS (TA 2) := tinv_step tinv1 ta1
theorem tinv3 : TInvS (TA 3) := tinv_step tinv2 ta2
theorem tinv4 : TInvS (TA 4) := tinv_step tinv3 ta3
theorem tinv5 : TInvS (TA 5) := tinv_step tinv4 ta4
theorem insert_ta (W w0 : World) (F : Nat → Prop) (tp : Nat) (T T' : ST) (cnt : Int) (R : List Chunk) (e : S29) (b : Bool) (s : TS w0 F W tp T cnt R) (hi : TInvS T) (h : tinsS T e = (T', b)) (hc0 : 0 ≤ cnt) (hc1 : cnt < 1000000) :
    Calls Try.prog 11 #[.pointer (some ⟨tp, 0, none⟩), entryV e] W fun E w' => E = .returned (.bool b) ∧ TS w0 F w' tp T' (if b = true then cnt + 1 else cnt) R := by
  have := insert_ts W w0 F tp T cnt R e s hi hc0 hc1
  rw [h] at this
  exact this
theorem pages_row {v : Value} {l : List Pg} {w0 w : World} {F : Nat → Prop} {R : List Chunk} (s : St w0 F w (pagesC v l :: R)) : RowPg w v l ∧ ∀ p ∈ l, PgOk w p := s.h (pagesC v l) (by simp)
theorem three_pages {l : List Pg} {a b c : PgA} (h : l.map Pg.a = [a, b, c]) : ∃ p q r, l = [p, q, r] ∧ p.a = a ∧ q.a = b ∧ r.a = c := by
  match l, h with
  | [p, q, r], h =>
    simp at h
    exact ⟨p, q, r, rfl, h.1, h.2.1, h.2.2⟩
set_option maxHeartbeats 4000000 in
theorem alive_calls (w : World) : Calls Try.prog 9 #[] w fun E w' => E = .returned (.bool true) ∧ Below w.heap.size w w' := by
  obtain ⟨R, hR⟩ : ∃ R, (fun E w' => E = Ending.returned (.bool true) ∧ Below w.heap.size w w') = R := ⟨_, rfl⟩
  have HR := Aside0.mk hR
  rw [hR]
  clear hR
  have HN := Aside0.mk (new_ts w w NoF [] (St.none w NoF))
  go_enter Try.func9, Try.ntmps9
  go_wp2_with (go_at_call 10; refine HN.out.mono ?_; rintro E w1 ⟨tp, rfl, hs⟩; have HS := Aside0.mk hs; clear hs)
  go_loopg [2] 5 (fun gq v2 wx => ∃ j : Nat, v2 = .int .i64 j ∧ j + gq = 5 ∧ Aside0 (TS w NoF wx tp (TA j) j []))
  case atStart => exact ⟨0, rfl, rfl, HS⟩
  case round =>
    clear HS
    obtain ⟨j, rfl, hj, HS⟩ := hrel
    cases gk with
    | zero =>
      obtain rfl : j = 5 := by omega
      have HP := Aside0.mk (pages_ts wr w NoF tp (TA 5) 5 [] HS.out tinv5 (by decide +kernel))
      go_wp2_with (first
        | (go_at_call 12; refine HP.out.mono ?_; clear HP; rintro E w2 ⟨g, n, c, l, rfl, hl, hs2⟩; rw [tap] at hl; obtain ⟨p, q, r, rfl, hp, hq, hr⟩ := three_pages hl; have HS2 := Aside0.mk hs2; have HPA := Aside0.mk hp; clear hs2 hl hp hq hr HS)
        | (go_at_call 19; refine (range_ts w2 w NoF tp (TA 5) 5 _ ⟨#[98]⟩ ⟨#[100]⟩ 9 HS2.out tinv5 tfl).mono ?_; rw [tar]; rintro E w3 ⟨v, rfl, hs3⟩; have HS3 := Aside0.mk hs3; clear hs3; obtain ⟨gv, cv, rfl, _⟩ := (HS3.out.rest.rowE 0 rfl).formS (by decide); obtain ⟨q0, y1, y2⟩ := (HS3.out.rest.rowE 0 rfl).cells 1 (by decide); have y0 : w3.cell? ⟨gv, 1 * 3, none⟩ = some (.string ⟨#[99]⟩) := q0; clear q0; have hpg := pages_row (HS3.out.rest.perm (List.Perm.swap _ _ _)); obtain ⟨Ak, ck, hk⟩ := (hpg.2 p (by simp)).1.slice; have hks : p.ks = [ea 99] := congrArg (fun x : PgA => x.2.1) HPA.out; have hlf : p.leaf = false := congrArg (fun x : PgA => x.1) HPA.out; rw [hks] at hk; have hn : n = 3 := (by rcases hpg.1.2.2 with ⟨h1, _⟩ | ⟨g', c', cur, h1, _⟩; (simp at h1); (simp at h1; exact h1.2.1)); have z0 := hpg.1.cell (by rw [hn]; rfl) 0 (.bool false) (by rw [← hlf]; rfl); have z1 := hpg.1.cell (by rw [hn]; rfl) 1 (.slice Ak [ea 99].length ck) (by rw [← hk]; rfl); subst hn; clear hpg hk hks hlf)
        | (go_at_call 13; refine (count_ts _ w NoF tp (TA 5) 5 _ HS3.out).mono ?_; rintro E w3 ⟨rfl, rfl⟩)
        | (go_at_call 11; refine (insert_ta _ w NoF tp _ _ _ _ (ea 97) false HS3.out tinv5 ta5 (by omega) (by omega)).mono ?_; clear y0 y1 y2 z0 z1; rintro E w4 ⟨rfl, hs4⟩; have HS4 := Aside0.mk hs4; clear hs4)
        | (go_at_call 15; refine (delete_ts _ w NoF tp _ _ _ (ea 97) HS4.out tinv5 (by simp) (by simp)).mono ?_; rw [tad]; rintro E w5 ⟨rfl, hs5⟩; have HS5 := Aside0.mk hs5; clear hs5))
      rw [← HR.out]
      exact ⟨rfl, keep_below HS5.out.keep⟩
    | succ g =>
      have hcase : j = 0 ∨ j = 1 ∨ j = 2 ∨ j = 3 ∨ j = 4 := by omega
      rcases hcase with rfl | rfl | rfl | rfl | rfl
      · have h0 : (⟨#[97, 98, 99, 100, 101]⟩ : ByteArray).extract 0 1 = ⟨#[97]⟩ := by kernel_rfl
        have HC := Aside0.mk (insert_ta wr w NoF tp _ _ _ [] (ea 97) true HS.out tinv0 ta0 (by omega) (by omega))
        go_wp2_with (go_at_call 11; refine HC.out.mono ?_; clear HC; rintro E w2 ⟨rfl, hs2⟩; have HS2 := Aside0.mk hs2; clear hs2)
        go_roundg g
        case measure => omega
        case rel => exact ⟨1, by go_num, by omega, HS2⟩
      · have h0 : (⟨#[97, 98, 99, 100, 101]⟩ : ByteArray).extract 1 2 = ⟨#[98]⟩ := by kernel_rfl
        have HC := Aside0.mk (insert_ta wr w NoF tp _ _ _ [] (ea 98) true HS.out tinv1 ta1 (by omega) (by omega))
        go_wp2_with (go_at_call 11; refine HC.out.mono ?_; clear HC; rintro E w2 ⟨rfl, hs2⟩; have HS2 := Aside0.mk hs2; clear hs2)
        go_roundg g
        case measure => omega
        case rel => exact ⟨2, by go_num, by omega, HS2⟩
      · have h0 : (⟨#[97, 98, 99, 100, 101]⟩ : ByteArray).extract 2 3 = ⟨#[99]⟩ := by kernel_rfl
        have HC := Aside0.mk (insert_ta wr w NoF tp _ _ _ [] (ea 99) true HS.out tinv2 ta2 (by omega) (by omega))
        go_wp2_with (go_at_call 11; refine HC.out.mono ?_; clear HC; rintro E w2 ⟨rfl, hs2⟩; have HS2 := Aside0.mk hs2; clear hs2)
        go_roundg g
        case measure => omega
        case rel => exact ⟨3, by go_num, by omega, HS2⟩
      · have h0 : (⟨#[97, 98, 99, 100, 101]⟩ : ByteArray).extract 3 4 = ⟨#[100]⟩ := by kernel_rfl
        have HC := Aside0.mk (insert_ta wr w NoF tp _ _ _ [] (ea 100) true HS.out tinv3 ta3 (by omega) (by omega))
        go_wp2_with (go_at_call 11; refine HC.out.mono ?_; clear HC; rintro E w2 ⟨rfl, hs2⟩; have HS2 := Aside0.mk hs2; clear hs2)
        go_roundg g
        case measure => omega
        case rel => exact ⟨4, by go_num, by omega, HS2⟩
      · have h0 : (⟨#[97, 98, 99, 100, 101]⟩ : ByteArray).extract 4 5 = ⟨#[101]⟩ := by kernel_rfl
        have HC := Aside0.mk (insert_ta wr w NoF tp _ _ _ [] (ea 101) true HS.out tinv4 ta4 (by omega) (by omega))
        go_wp2_with (go_at_call 11; refine HC.out.mono ?_; clear HC; rintro E w2 ⟨rfl, hs2⟩; have HS2 := Aside0.mk hs2; clear hs2)
        go_roundg g
        case measure => omega
        case rel => exact ⟨5, by go_num, by omega, HS2⟩
end Go.Proofs.Bt
end
section
namespace Go.Proofs.Bt
open Go Go.RowKit Go.Proofs.Ytjaddmflopahiaa.Q Go.Proofs.YtjaddmflopahiaaW.PrintWords Go.Proofs.YtjaddmflopahiaaW.PrintLast Go.Proofs.YtjaddmflopahiaaW.PrintMore
set_option linter.unusedVariables false
set_option linter.unusedSimpArgs false
set_option maxRecDepth 100000
theorem below_C {w w' : World} {A : Option Addr} {n : Nat} {xs : List S29} (h : Kd.C k29 w A n xs) (hb : Below w.heap.size w w') : Kd.C k29 w' A n xs := Kd.C_below h hb
end Go.Proofs.Bt
end
section
namespace Go.Proofs.Ytjaddmflopahiaa.Q
open Go.RowKit Go.Proofs.YtjaddmflopahiaaW.PrintWords Go.Proofs.YtjaddmflopahiaaW.PrintLast Go.Proofs.YtjaddmflopahiaaW.PrintMore
attribute [local go_sem] max2_int min2_int max_two min_two max_three min_three max_four min_four
set_option linter.unusedVariables false
set_option linter.unusedSimpArgs false
attribute [local go_sem high] eqA29
def interlockref08_Same.l0 : Nat → List (S29) → List (S29) → Int → Option (Bool)
  | 0, _, _, _ => none
  | k + 1, x0, x1, x5 => if x5 < (x0.length : Int) then (if 0 ≤ x5 then (if x5 < (x1.length : Int) then (if (!((((rd_T29 x0 x5).f0).toList) == (((rd_T29 x1 x5).f0).toList)) || ((!(((rd_T29 x0 x5).f1.f0) == ((rd_T29 x1 x5).f1.f0)) || (!(((rd_T29 x0 x5).f1.f1) == ((rd_T29 x1 x5).f1.f1)))))) = true then (some false) else (interlockref08_Same.l0 k x0 x1 (wrap64 (x5 + 1)))) else (none)) else (none)) else (some true)
def interlockref08_Same.f (k : Nat) (l0 : List (S29)) (l1 : List (S29)) : Option (Bool) := if (l0.length : Int) = (l1.length : Int) then (interlockref08_Same.l0 k l0 l1 0) else (some false)
theorem interlockref08_Same.mono_l : ∀ k, (∀ y0 y1 y2, LeO (interlockref08_Same.l0 k y0 y1 y2) (interlockref08_Same.l0 (k + 1) y0 y1 y2))
  | 0 => fun _ _ _ r h => by simp [interlockref08_Same.l0] at h
  | k + 1 => by
    have ih0 := interlockref08_Same.mono_l k
    · intro y0 y1 y2
      unfold interlockref08_Same.l0
      repeat' first
      | (with_reducible exact ih0 _ _ _)
      | (with_reducible exact LeO.refl _)
      | (with_reducible exact LeO.none _)
      | (with_reducible refine LeO.ite ?_ ?_)
      | (with_reducible refine LeO.bind ?_ (fun _ => ?_))
      | exact ih0 _ _ _
      | exact LeO.none _
      | refine LeO.ite ?_ ?_
      | refine LeO.bind ?_ (fun _ => ?_)
theorem interlockref08_Same.mono : ∀ a0 a1 k, LeO (interlockref08_Same.f k a0 a1) (interlockref08_Same.f (k + 1) a0 a1) := by
  intro a0 a1 k
  have ih0 := interlockref08_Same.mono_l k
  unfold interlockref08_Same.f
  repeat' first
      | (with_reducible exact ih0 _ _ _)
      | (with_reducible exact LeO.refl _)
      | (with_reducible exact LeO.none _)
      | (with_reducible refine LeO.ite ?_ ?_)
      | (with_reducible refine LeO.bind ?_ (fun _ => ?_))
      | exact ih0 _ _ _
      | exact LeO.none _
      | refine LeO.ite ?_ ?_
      | refine LeO.bind ?_ (fun _ => ?_)
set_option maxHeartbeats 8000000 in
set_option maxRecDepth 100000 in
theorem interlockref08_Same.calls (k : Nat) (A0 : Option Addr) (c0 : Nat) (l0 : List (S29)) (A1 : Option Addr) (c1 : Nat) (l1 : List (S29)) (r : Bool) (w : World) (hr0 : Kd.C k29 w A0 l0.length l0) (hc0 : l0.length ≤ c0) (hr1 : Kd.C k29 w A1 l1.length l1) (hc1 : l1.length ≤ c1) (h : interlockref08_Same.f k l0 l1 = some r) :
    Calls Try.prog 17 #[.slice A0 l0.length c0, .slice A1 l1.length c1] w fun e w' => e = .returned (.bool r) ∧ Drawn0 w w' := by
  have hu29 := Try.underlying29
  have HR0 := Aside0.mk hr0
  have HC0 := Aside0.mk hc0
  clear hr0 hc0
  have HR1 := Aside0.mk hr1
  have HC1 := Aside0.mk hc1
  clear hr1 hc1
  have H : (if (l0.length : Int) = (l1.length : Int) then (interlockref08_Same.l0 k l0 l1 0) else (some false)) = some r := h
  clear h
  by_cases c3 : (l0.length : Int) = (l1.length : Int)
  · rw [if_pos c3] at H
    have c3b0 : ((l0.length : Int) == (l1.length : Int)) = true := beq_iff_eq.mpr c3
    have c3b1 : ((l0.length : Int) != (l1.length : Int)) = false := bne_eq_false_iff_eq.mpr c3
    have c3b2 : (l0.length == l1.length) = true := by first | simpa using c3 | (simp at c3 ⊢; omega)
    clear c3
    have H' := Aside0.mk H
    clear H
    go_enter Try.func17, Try.ntmps17
    go_wp2
    repeat (go_quiet (fail); try go_wp2)
    go_loopg [5] k (fun kq v5 w' => ∃ (x5_1 : Int), v5 = .int .i64 x5_1 ∧ Aside0 (interlockref08_Same.l0 kq l0 l1 x5_1 = some r) ∧ Aside0 (kq ≤ k) ∧ Drawn0 w w')
    case atStart => exact ⟨(0), (by first | rfl | (simp; done) | (simp [*]; done)), H', ⟨Nat.le_refl _⟩, by repeat (first | exact Drawn0.refl _ | apply Drawn0.step)⟩
    case round =>
      clear H'
      try clear c1
      try clear p2
      try clear c3
      try clear c3b0
      try clear c3b1
      try clear c3b2
      obtain ⟨x5_1, rfl, HA, HK1, ⟨m1, rfl⟩⟩ := hrel
      cases gk with
      | zero => exact absurd HA.out (by simp [interlockref08_Same.l0])
      | succ k1 =>
        have H := HA.out
        clear HA
        simp only [interlockref08_Same.l0] at H
        by_cases c4 : x5_1 < (l0.length : Int)
        · rw [if_pos c4] at H
          have c4b0 : decide (x5_1 < (l0.length : Int)) = true := decide_eq_true c4
          clear c4
          by_cases c5 : 0 ≤ x5_1
          · rw [if_pos c5] at H
            have c5b0 : decide (0 ≤ x5_1) = true := decide_eq_true c5
            clear c5
            by_cases c6 : x5_1 < (l1.length : Int)
            · rw [if_pos c6] at H
              have c6b0 : decide (x5_1 < (l1.length : Int)) = true := decide_eq_true c6
              clear c6
              by_cases c7 : (!((((rd_T29 l0 x5_1).f0).toList) == (((rd_T29 l1 x5_1).f0).toList)) || ((!(((rd_T29 l0 x5_1).f1.f0) == ((rd_T29 l1 x5_1).f1.f0)) || (!(((rd_T29 l0 x5_1).f1.f1) == ((rd_T29 l1 x5_1).f1.f1)))))) = true
              · rw [if_pos c7] at H
                have c7b0 : (!((((rd_T29 l0 x5_1).f0).toList) == (((rd_T29 l1 x5_1).f0).toList)) || ((!(((rd_T29 l0 x5_1).f1.f0) == ((rd_T29 l1 x5_1).f1.f0)) || (!(((rd_T29 l0 x5_1).f1.f1) == ((rd_T29 l1 x5_1).f1.f1)))))) = true := c7
                clear c7
                obtain rfl := Option.some.inj H
                have p138 : 0 ≤ (x5_1 : Int) := of_decide_eq_true (by first | (with_reducible assumption) | assumption)
                have q138 : x5_1 < (l0.length : Int) := of_decide_eq_true (by first | (with_reducible assumption) | assumption)
                obtain ⟨ad138, e138, hx138_0, hx138_1, hx138_2⟩ := at_T29 HR0.out x5_1 p138 q138
                cases e138
                replace p138 := eq_true p138
                replace q138 := eq_true q138
                have p139 : 0 ≤ (x5_1 : Int) := of_decide_eq_true (by first | (with_reducible assumption) | assumption)
                have q139 : x5_1 < (l1.length : Int) := of_decide_eq_true (by first | (with_reducible assumption) | assumption)
                obtain ⟨ad139, e139, hx139_0, hx139_1, hx139_2⟩ := at_T29 HR1.out x5_1 p139 q139
                cases e139
                replace p139 := eq_true p139
                replace q139 := eq_true q139
                go_wp2
                repeat (go_quiet (fail); try go_wp2)
                go_ret
                exact ⟨by first | rfl | (simp; done) | (simp [*]; done), by repeat (first | exact Drawn0.refl _ | apply Drawn0.step)⟩
              · rw [if_neg c7] at H
                have c7b0 : (!((((rd_T29 l0 x5_1).f0).toList) == (((rd_T29 l1 x5_1).f0).toList)) || ((!(((rd_T29 l0 x5_1).f1.f0) == ((rd_T29 l1 x5_1).f1.f0)) || (!(((rd_T29 l0 x5_1).f1.f1) == ((rd_T29 l1 x5_1).f1.f1)))))) = false := by simpa using c7
                clear c7
                have H' := Aside0.mk H
                clear H
                have p138 : 0 ≤ (x5_1 : Int) := of_decide_eq_true (by first | (with_reducible assumption) | assumption)
                have q138 : x5_1 < (l0.length : Int) := of_decide_eq_true (by first | (with_reducible assumption) | assumption)
                obtain ⟨ad138, e138, hx138_0, hx138_1, hx138_2⟩ := at_T29 HR0.out x5_1 p138 q138
                cases e138
                replace p138 := eq_true p138
                replace q138 := eq_true q138
                have p139 : 0 ≤ (x5_1 : Int) := of_decide_eq_true (by first | (with_reducible assumption) | assumption)
                have q139 : x5_1 < (l1.length : Int) := of_decide_eq_true (by first | (with_reducible assumption) | assumption)
                obtain ⟨ad139, e139, hx139_0, hx139_1, hx139_2⟩ := at_T29 HR1.out x5_1 p139 q139
                cases e139
                replace p139 := eq_true p139
                replace q139 := eq_true q139
                go_wp2
                repeat (go_quiet (fail); try go_wp2)
                go_roundg k1
                case measure => have := HK1.out; omega
                case rel => exact ⟨(wrap64 (x5_1 + 1)), (by first | rfl | (simp; done) | (simp [*]; done)), H', ⟨by have := HK1.out; omega⟩, by repeat (first | exact Drawn0.refl _ | apply Drawn0.step)⟩
            · rw [if_neg c6] at H
              exact absurd H (by simp)
          · rw [if_neg c5] at H
            exact absurd H (by simp)
        · rw [if_neg c4] at H
          have c4b0 : decide (x5_1 < (l0.length : Int)) = false := decide_eq_false c4
          clear c4
          obtain rfl := Option.some.inj H
          go_wp2
          repeat (go_quiet (fail); try go_wp2)
          go_ret
          exact ⟨by first | rfl | (simp; done) | (simp [*]; done), by repeat (first | exact Drawn0.refl _ | apply Drawn0.step)⟩
  · rw [if_neg c3] at H
    have c3b0 : ((l0.length : Int) == (l1.length : Int)) = false := beq_eq_false_iff_ne.mpr c3
    have c3b1 : ((l0.length : Int) != (l1.length : Int)) = true := bne_iff_ne.mpr c3
    have c3b2 : (l0.length == l1.length) = false := by first | simpa using c3 | (simp at c3 ⊢; omega)
    obtain rfl := Option.some.inj H
    go_enter Try.func17, Try.ntmps17
    go_wp2
    repeat (go_quiet (fail); try go_wp2)
    go_ret
    exact ⟨by first | rfl | (simp; done) | (simp [*]; done), by repeat (first | exact Drawn0.refl _ | apply Drawn0.step)⟩
end Go.Proofs.Ytjaddmflopahiaa.Q
end
section
namespace Go.Proofs.Bt
open Go Go.RowKit Go.Proofs.Ytjaddmflopahiaa.Q Go.Proofs.YtjaddmflopahiaaW.PrintWords Go.Proofs.YtjaddmflopahiaaW.PrintLast Go.Proofs.YtjaddmflopahiaaW.PrintMore
set_option linter.unusedVariables false
set_option linter.unusedSimpArgs false
set_option maxRecDepth 100000
theorem rowE_C {w : World} {v : Value} {ks : List S29} (h : RowE w v ks) (hn : ks.length < 100000) : ∃ A c, v = .slice A ks.length c ∧ ks.length ≤ c ∧ Kd.C k29 w A ks.length ks := by
  by_cases h0 : 0 < ks.length
  · obtain ⟨g, c, rfl, hc⟩ := row_slice h h0
    refine ⟨_, c, rfl, hc, rfl, by omega, fun _ => ⟨⟨g, 0, none⟩, rfl, fun j p hj => ⟨_, rfl, k29_mk w p, fun i u hu => ?_⟩⟩⟩
    obtain ⟨hjl, rfl⟩ := List.getElem?_eq_some_iff.1 hj
    obtain ⟨d0, d1, d2⟩ := RowE.cells h j hjl
    rw [Addr.add_lit, Nat.zero_add]
    match i, hu with
    | 0, hu => simp at hu; subst hu; exact d0
    | 1, hu => simp at hu; subst hu; exact d1
    | 2, hu => simp at hu; subst hu; exact d2
  · have hks : ks = [] := List.eq_nil_of_length_eq_zero (by omega)
    subst hks
    rcases h.2.2 with ⟨rfl, _⟩ | ⟨g, c, cur, rfl, _, hc, _⟩
    · exact ⟨none, 0, rfl, Nat.le_refl _, rfl, by simp, fun h => absurd h (by simp)⟩
    · exact ⟨_, c, rfl, hc, rfl, by simp, fun h => absurd h (by simp)⟩
theorem same_l0 (ks : List S29) (hn : ks.length < 100000) : ∀ (k i : Nat), i ≤ ks.length → ks.length < i + k → interlockref08_Same.l0 k ks ks (i : Int) = some true
  | 0, i, h1, h2 => by omega
  | k + 1, i, h1, h2 => by
    unfold interlockref08_Same.l0
    by_cases h : i < ks.length
    · rw [if_pos (by omega), if_pos (by omega), if_pos (by omega), if_neg (by simp), IntWalk.wrap64_in _ (by omega)]
      exact same_l0 ks hn k (i + 1) (by omega) (by omega)
    · rw [if_neg (by omega)]
theorem same_calls (W : World) (v u : Value) (ks : List S29) (hv : RowE W v ks) (hu : RowE W u ks) (hn : ks.length < 100000) : Calls Try.prog 17 #[v, u] W fun E w' => E = .returned (.bool true) ∧ Below W.heap.size W w' := by
  obtain ⟨A, c, rfl, hc, hC⟩ := rowE_C hv hn
  obtain ⟨A', c', rfl, hc', hC'⟩ := rowE_C hu hn
  refine (interlockref08_Same.calls (ks.length + 1) A c ks A' c' ks true W hC hc hC' hc' ?_).mono fun E w' h => ⟨h.1, h.2.below⟩
  unfold interlockref08_Same.f
  rw [if_pos rfl]
  exact same_l0 ks hn _ 0 (by omega) (by omega)
attribute [local go_sem] max_two max2_int
end Go.Proofs.Bt
end
section
namespace Go.Proofs.Bt
open Go Go.RowKit Go.Proofs.Ytjaddmflopahiaa.Q Go.Proofs.YtjaddmflopahiaaW.PrintWords Go.Proofs.YtjaddmflopahiaaW.PrintLast Go.Proofs.YtjaddmflopahiaaW.PrintMore
set_option linter.unusedVariables false
set_option linter.unusedSimpArgs false
set_option maxRecDepth 100000
end Go.Proofs.Bt
end
section
namespace Go.Proofs.Bt
open Go Go.RowKit Go.Proofs.Ytjaddmflopahiaa.Q Go.Proofs.YtjaddmflopahiaaW.PrintWords Go.Proofs.YtjaddmflopahiaaW.PrintLast Go.Proofs.YtjaddmflopahiaaW.PrintMore
set_option linter.unusedVariables false
set_option linter.unusedSimpArgs false
set_option maxRecDepth 100000
end Go.Proofs.Bt
end
section
namespace Go.Proofs.Bt
open Go Go.RowKit Go.Proofs.Ytjaddmflopahiaa.Q Go.Proofs.YtjaddmflopahiaaW.PrintWords Go.Proofs.YtjaddmflopahiaaW.PrintLast Go.Proofs.YtjaddmflopahiaaW.PrintMore
set_option linter.unusedVariables false
set_option linter.unusedSimpArgs false
set_option maxRecDepth 100000
attribute [local go_sem] Oper.semAt_some
end Go.Proofs.Bt
end
section
namespace Go.Proofs.Bt
open Go Go.RowKit Go.Proofs.Ytjaddmflopahiaa.Q Go.Proofs.YtjaddmflopahiaaW.PrintWords Go.Proofs.YtjaddmflopahiaaW.PrintLast Go.Proofs.YtjaddmflopahiaaW.PrintMore
set_option linter.unusedVariables false
set_option linter.unusedSimpArgs false
set_option maxRecDepth 100000
end Go.Proofs.Bt
end
section
namespace Go.Proofs.Bt
open Go Go.RowKit Go.Proofs.Ytjaddmflopahiaa.Q Go.Proofs.YtjaddmflopahiaaW.PrintWords Go.Proofs.YtjaddmflopahiaaW.PrintLast Go.Proofs.YtjaddmflopahiaaW.PrintMore
set_option linter.unusedVariables false
set_option linter.unusedSimpArgs false
set_option maxRecDepth 100000
theorem eqE (x e : S29) : (x.f0.toList == e.f0.toList && ((x.f1.f0 == e.f1.f0 && (x.f1.f1 == e.f1.f1)))) = true ↔ x = e := by
  rw [Bool.and_eq_true, Bool.and_eq_true, beq_iff_eq, beq_iff_eq, beq_iff_eq]
  obtain ⟨x0, x1, x2⟩ := x
  obtain ⟨e0, e1, e2⟩ := e
  constructor
  · rintro ⟨h0, h1, h2⟩
    have h0 : x0 = e0 := toList_inj h0
    change x1 = e1 at h1
    change x2 = e2 at h2
    rw [h0, h1, h2]
  · intro h
    cases h
    exact ⟨rfl, rfl, rfl⟩
theorem hasL_found (L : List S29) (e : S29) (hs : Sorted L) : hasL e (L.filter (geB e)) = found L e := by
  rw [← drop_low L e hs]
  unfold found
  by_cases hl : low L e < L.length
  · rw [dif_pos hl, List.drop_eq_getElem_cons hl]
    show (L[low L e].f0.toList == e.f0.toList && _) = _
    have h1 := eqE L[low L e] e
    have h2 := ord_zero L[low L e] e
    cases hb : (L[low L e].f0.toList == e.f0.toList && ((L[low L e].f1.f0 == e.f1.f0 && (L[low L e].f1.f1 == e.f1.f1))))
    · refine (decide_eq_false fun h => ?_).symm
      rw [h1.2 (h2.1 h)] at hb
      cases hb
    · exact (decide_eq_true (h2.2 (h1.1 hb))).symm
  · rw [dif_neg hl, List.drop_eq_nil_iff.2 (by omega)]
    rfl
theorem has_ts (W w0 : World) (F : Nat → Prop) (tp : Nat) (T : ST) (cnt : Int) (R : List Chunk) (e : S29) (s : TS w0 F W tp T cnt R) (hi : TInvS T) :
    Calls Try.prog 20 #[.pointer (some ⟨tp, 0, none⟩), entryV e] W fun E w' => E = .returned (.bool (found (entS T) e)) ∧ TS w0 F w' tp T cnt R := by
  have s0 := s
  have hfr : hasL e (fromS T e) = found (entS T) e := by rw [from_ent T e hi, hasL_found _ _ (entS_sorted hi)]
  rw [← hfr]
  obtain ⟨h, t⟩ := T
  obtain ⟨m, hm, sX⟩ := TS.open s
  subst hm
  have s' : St w0 F W (treeT tp h m cnt ++ R) := sX
  refine (has_calls W tp h m cnt e (s'.tat 0 rfl) (s'.tree 1 rfl) (fit_of h _ _ _ hi.shape hi.srt)).mono ?_
  rintro E w' ⟨he, hb⟩
  exact ⟨he, s0.below hb⟩
end Go.Proofs.Bt
end
section
namespace Go.Proofs.Bt
open Go Go.RowKit Go.Proofs.Ytjaddmflopahiaa.Q
set_option linter.unusedVariables false
set_option linter.unusedSimpArgs false
def kc (k : ByteArray) (L : List S29) : Nat := (L.filter fun x => x.f0.toList == k.toList).length
end Go.Proofs.Bt
end
section
namespace Go.Proofs.Bt
open Go Go.RowKit Go.Proofs.Ytjaddmflopahiaa.Q Go.Proofs.YtjaddmflopahiaaW.PrintWords Go.Proofs.YtjaddmflopahiaaW.PrintLast Go.Proofs.YtjaddmflopahiaaW.PrintMore
set_option linter.unusedVariables false
set_option linter.unusedSimpArgs false
set_option maxRecDepth 100000
end Go.Proofs.Bt
end
section
namespace Go.Proofs.Bt
open Go Go.RowKit Go.Proofs.Ytjaddmflopahiaa.Q Go.Proofs.YtjaddmflopahiaaW.PrintWords Go.Proofs.YtjaddmflopahiaaW.PrintLast Go.Proofs.YtjaddmflopahiaaW.PrintMore
set_option linter.unusedVariables false
set_option linter.unusedSimpArgs false
set_option maxRecDepth 100000
section
variable {w0 W W' : World} {F : Nat → Prop} {tp rp : Nat} {T : ST} {cnt : Int} {v v' : Value} {ks ks' : List S29} {R : List Chunk}
end
end Go.Proofs.Bt
end
section
namespace Go.Proofs.Bt
open Go Go.RowKit Go.Proofs.Ytjaddmflopahiaa.Q
set_option linter.unusedVariables false
set_option linter.unusedSimpArgs false
end Go.Proofs.Bt
end
section
namespace Go.Proofs.Ytjaddmflopahiaa.Q
open Go.RowKit Go.Proofs.YtjaddmflopahiaaW.PrintWords Go.Proofs.YtjaddmflopahiaaW.PrintLast Go.Proofs.YtjaddmflopahiaaW.PrintMore
attribute [local go_sem] max2_int min2_int max_two min_two max_three min_three max_four min_four
set_option linter.unusedVariables false
set_option linter.unusedSimpArgs false
attribute [local go_sem high] eqA27
def interlockref07_SameRids.l0 : Nat → List (S27) → List (S27) → Int → Option (Bool)
  | 0, _, _, _ => none
  | k + 1, x0, x1, x5 => if x5 < (x0.length : Int) then (if 0 ≤ x5 then (if x5 < (x1.length : Int) then (if (!(((rd_T27 x0 x5).f0) == ((rd_T27 x1 x5).f0)) || (!(((rd_T27 x0 x5).f1) == ((rd_T27 x1 x5).f1)))) = true then (some false) else (interlockref07_SameRids.l0 k x0 x1 (wrap64 (x5 + 1)))) else (none)) else (none)) else (some true)
def interlockref07_SameRids.f (k : Nat) (l0 : List (S27)) (l1 : List (S27)) : Option (Bool) := if (l0.length : Int) = (l1.length : Int) then (interlockref07_SameRids.l0 k l0 l1 0) else (some false)
theorem interlockref07_SameRids.mono_l : ∀ k, (∀ y0 y1 y2, LeO (interlockref07_SameRids.l0 k y0 y1 y2) (interlockref07_SameRids.l0 (k + 1) y0 y1 y2))
  | 0 => fun _ _ _ r h => by simp [interlockref07_SameRids.l0] at h
  | k + 1 => by
    have ih0 := interlockref07_SameRids.mono_l k
    · intro y0 y1 y2
      unfold interlockref07_SameRids.l0
      repeat' first
      | (with_reducible exact ih0 _ _ _)
      | (with_reducible exact LeO.refl _)
      | (with_reducible exact LeO.none _)
      | (with_reducible refine LeO.ite ?_ ?_)
      | (with_reducible refine LeO.bind ?_ (fun _ => ?_))
      | exact ih0 _ _ _
      | exact LeO.none _
      | refine LeO.ite ?_ ?_
      | refine LeO.bind ?_ (fun _ => ?_)
theorem interlockref07_SameRids.mono : ∀ a0 a1 k, LeO (interlockref07_SameRids.f k a0 a1) (interlockref07_SameRids.f (k + 1) a0 a1) := by
  intro a0 a1 k
  have ih0 := interlockref07_SameRids.mono_l k
  unfold interlockref07_SameRids.f
  repeat' first
      | (with_reducible exact ih0 _ _ _)
      | (with_reducible exact LeO.refl _)
      | (with_reducible exact LeO.none _)
      | (with_reducible refine LeO.ite ?_ ?_)
      | (with_reducible refine LeO.bind ?_ (fun _ => ?_))
      | exact ih0 _ _ _
      | exact LeO.none _
      | refine LeO.ite ?_ ?_
      | refine LeO.bind ?_ (fun _ => ?_)
set_option maxHeartbeats 8000000 in
set_option maxRecDepth 100000 in
theorem interlockref07_SameRids.calls (k : Nat) (A0 : Option Addr) (c0 : Nat) (l0 : List (S27)) (A1 : Option Addr) (c1 : Nat) (l1 : List (S27)) (r : Bool) (w : World) (hr0 : Kd.C k27 w A0 l0.length l0) (hc0 : l0.length ≤ c0) (hr1 : Kd.C k27 w A1 l1.length l1) (hc1 : l1.length ≤ c1) (h : interlockref07_SameRids.f k l0 l1 = some r) :
    Calls Try.prog 38 #[.slice A0 l0.length c0, .slice A1 l1.length c1] w fun e w' => e = .returned (.bool r) ∧ Drawn0 w w' := by
  have hu27 := Try.underlying27
  have HR0 := Aside0.mk hr0
  have HC0 := Aside0.mk hc0
  clear hr0 hc0
  have HR1 := Aside0.mk hr1
  have HC1 := Aside0.mk hc1
  clear hr1 hc1
  have H : (if (l0.length : Int) = (l1.length : Int) then (interlockref07_SameRids.l0 k l0 l1 0) else (some false)) = some r := h
  clear h
  by_cases c3 : (l0.length : Int) = (l1.length : Int)
  · rw [if_pos c3] at H
    have c3b0 : ((l0.length : Int) == (l1.length : Int)) = true := beq_iff_eq.mpr c3
    have c3b1 : ((l0.length : Int) != (l1.length : Int)) = false := bne_eq_false_iff_eq.mpr c3
    have c3b2 : (l0.length == l1.length) = true := by first | simpa using c3 | (simp at c3 ⊢; omega)
    clear c3
    have H' := Aside0.mk H
    clear H
    go_enter Try.func38, Try.ntmps38
    go_wp2
    repeat (go_quiet (fail); try go_wp2)
    go_loopg [5] k (fun kq v5 w' => ∃ (x5_1 : Int), v5 = .int .i64 x5_1 ∧ Aside0 (interlockref07_SameRids.l0 kq l0 l1 x5_1 = some r) ∧ Aside0 (kq ≤ k) ∧ Drawn0 w w')
    case atStart => exact ⟨(0), (by first | rfl | (simp; done) | (simp [*]; done)), H', ⟨Nat.le_refl _⟩, by repeat (first | exact Drawn0.refl _ | apply Drawn0.step)⟩
    case round =>
      clear H'
      try clear c1
      try clear p2
      try clear c3
      try clear c3b0
      try clear c3b1
      try clear c3b2
      obtain ⟨x5_1, rfl, HA, HK1, ⟨m1, rfl⟩⟩ := hrel
      cases gk with
      | zero => exact absurd HA.out (by simp [interlockref07_SameRids.l0])
      | succ k1 =>
        have H := HA.out
        clear HA
        simp only [interlockref07_SameRids.l0] at H
        by_cases c4 : x5_1 < (l0.length : Int)
        · rw [if_pos c4] at H
          have c4b0 : decide (x5_1 < (l0.length : Int)) = true := decide_eq_true c4
          clear c4
          by_cases c5 : 0 ≤ x5_1
          · rw [if_pos c5] at H
            have c5b0 : decide (0 ≤ x5_1) = true := decide_eq_true c5
            clear c5
            by_cases c6 : x5_1 < (l1.length : Int)
            · rw [if_pos c6] at H
              have c6b0 : decide (x5_1 < (l1.length : Int)) = true := decide_eq_true c6
              clear c6
              by_cases c7 : (!(((rd_T27 l0 x5_1).f0) == ((rd_T27 l1 x5_1).f0)) || (!(((rd_T27 l0 x5_1).f1) == ((rd_T27 l1 x5_1).f1)))) = true
              · rw [if_pos c7] at H
                have c7b0 : (!(((rd_T27 l0 x5_1).f0) == ((rd_T27 l1 x5_1).f0)) || (!(((rd_T27 l0 x5_1).f1) == ((rd_T27 l1 x5_1).f1)))) = true := c7
                clear c7
                obtain rfl := Option.some.inj H
                have p146 : 0 ≤ (x5_1 : Int) := of_decide_eq_true (by first | (with_reducible assumption) | assumption)
                have q146 : x5_1 < (l0.length : Int) := of_decide_eq_true (by first | (with_reducible assumption) | assumption)
                obtain ⟨ad146, e146, hx146_0, hx146_1⟩ := at_T27 HR0.out x5_1 p146 q146
                cases e146
                replace p146 := eq_true p146
                replace q146 := eq_true q146
                have p147 : 0 ≤ (x5_1 : Int) := of_decide_eq_true (by first | (with_reducible assumption) | assumption)
                have q147 : x5_1 < (l1.length : Int) := of_decide_eq_true (by first | (with_reducible assumption) | assumption)
                obtain ⟨ad147, e147, hx147_0, hx147_1⟩ := at_T27 HR1.out x5_1 p147 q147
                cases e147
                replace p147 := eq_true p147
                replace q147 := eq_true q147
                go_wp2
                repeat (go_quiet (fail); try go_wp2)
                go_ret
                exact ⟨by first | rfl | (simp; done) | (simp [*]; done), by repeat (first | exact Drawn0.refl _ | apply Drawn0.step)⟩
              · rw [if_neg c7] at H
                have c7b0 : (!(((rd_T27 l0 x5_1).f0) == ((rd_T27 l1 x5_1).f0)) || (!(((rd_T27 l0 x5_1).f1) == ((rd_T27 l1 x5_1).f1)))) = false := by simpa using c7
                clear c7
                have H' := Aside0.mk H
                clear H
                have p146 : 0 ≤ (x5_1 : Int) := of_decide_eq_true (by first | (with_reducible assumption) | assumption)
                have q146 : x5_1 < (l0.length : Int) := of_decide_eq_true (by first | (with_reducible assumption) | assumption)
                obtain ⟨ad146, e146, hx146_0, hx146_1⟩ := at_T27 HR0.out x5_1 p146 q146
                cases e146
                replace p146 := eq_true p146
                replace q146 := eq_true q146
                have p147 : 0 ≤ (x5_1 : Int) := of_decide_eq_true (by first | (with_reducible assumption) | assumption)
                have q147 : x5_1 < (l1.length : Int) := of_decide_eq_true (by first | (with_reducible assumption) | assumption)
                obtain ⟨ad147, e147, hx147_0, hx147_1⟩ := at_T27 HR1.out x5_1 p147 q147
                cases e147
                replace p147 := eq_true p147
                replace q147 := eq_true q147
                go_wp2
                repeat (go_quiet (fail); try go_wp2)
                go_roundg k1
                case measure => have := HK1.out; omega
                case rel => exact ⟨(wrap64 (x5_1 + 1)), (by first | rfl | (simp; done) | (simp [*]; done)), H', ⟨by have := HK1.out; omega⟩, by repeat (first | exact Drawn0.refl _ | apply Drawn0.step)⟩
            · rw [if_neg c6] at H
              exact absurd H (by simp)
          · rw [if_neg c5] at H
            exact absurd H (by simp)
        · rw [if_neg c4] at H
          have c4b0 : decide (x5_1 < (l0.length : Int)) = false := decide_eq_false c4
          clear c4
          obtain rfl := Option.some.inj H
          go_wp2
          repeat (go_quiet (fail); try go_wp2)
          go_ret
          exact ⟨by first | rfl | (simp; done) | (simp [*]; done), by repeat (first | exact Drawn0.refl _ | apply Drawn0.step)⟩
  · rw [if_neg c3] at H
    have c3b0 : ((l0.length : Int) == (l1.length : Int)) = false := beq_eq_false_iff_ne.mpr c3
    have c3b1 : ((l0.length : Int) != (l1.length : Int)) = true := bne_iff_ne.mpr c3
    have c3b2 : (l0.length == l1.length) = false := by first | simpa using c3 | (simp at c3 ⊢; omega)
    obtain rfl := Option.some.inj H
    go_enter Try.func38, Try.ntmps38
    go_wp2
    repeat (go_quiet (fail); try go_wp2)
    go_ret
    exact ⟨by first | rfl | (simp; done) | (simp [*]; done), by repeat (first | exact Drawn0.refl _ | apply Drawn0.step)⟩
end Go.Proofs.Ytjaddmflopahiaa.Q
end
section
namespace Go.Proofs.Bt
open Go Go.RowKit Go.Proofs.Ytjaddmflopahiaa.Q Go.Proofs.YtjaddmflopahiaaW.PrintWords Go.Proofs.YtjaddmflopahiaaW.PrintLast Go.Proofs.YtjaddmflopahiaaW.PrintMore
set_option linter.unusedVariables false
set_option linter.unusedSimpArgs false
set_option maxRecDepth 100000
end Go.Proofs.Bt
end
section
namespace Go.Proofs.Bt
open Go Go.RowKit Go.Proofs.Ytjaddmflopahiaa.Q
set_option linter.unusedVariables false
set_option linter.unusedSimpArgs false
theorem ins_agree {T : ST} (e : S29) (hi : TInvS T) : (tinsS T e).2 = !(found (entS T) e) := by
  obtain ⟨_, _, h3⟩ := tins_ent e hi
  have h4 := found_mem (entS T) e (entS_sorted hi)
  cases h5 : (tinsS T e).2 <;> cases h6 : found (entS T) e <;> rw [h5] at h3 <;> rw [h6] at h4 <;> simp_all
theorem cut_agree {T : ST} (e : S29) (hi : TInvS T) : (tcutS T e).2 = found (entS T) e := by
  obtain ⟨_, _, h3⟩ := tcut_ent e hi
  have h4 := found_mem (entS T) e (entS_sorted hi)
  cases h5 : (tcutS T e).2 <;> cases h6 : found (entS T) e <;> rw [h5] at h3 <;> rw [h6] at h4 <;> simp_all
theorem from_len {T : ST} (e : S29) (hi : TInvS T) : (fromS T e).length ≤ (entS T).length := by
  rw [from_ent T e hi]
  exact List.length_filter_le _ _
theorem sins_le (l : List S29) (e : S29) : (sins l e).length ≤ l.length + 1 := by
  unfold sins
  split
  · omega
  · rw [insAt_len _ _ _ (low_le l e)]
    omega
theorem sdel_le (l : List S29) (e : S29) : (sdel l e).length ≤ l.length := by
  unfold sdel
  split
  · rename_i h
    rw [delAt_len _ _ (found_lt h)]
    omega
  · omega
end Go.Proofs.Bt
end
section
namespace Go.Proofs.Ytjaddmflopahiaa.Q
open Go.RowKit Go.Proofs.YtjaddmflopahiaaW.PrintWords Go.Proofs.YtjaddmflopahiaaW.PrintLast Go.Proofs.YtjaddmflopahiaaW.PrintMore
attribute [local go_sem] max2_int min2_int max_two min_two max_three min_three max_four min_four
set_option linter.unusedVariables false
set_option linter.unusedSimpArgs false
def interlocklaw08_great.l0 : Nat → List (S41) → Int → Option (Bool)
  | 0, _, _ => none
  | k + 1, x0, x3 => if x3 < (x0.length : Int) then (if 0 ≤ x3 then (if (((rd_T41 x0 x3).f2.f0).size : Int) > 500 then (some true) else (if (((rd_T41 x0 x3).f3).size : Int) > 500 then (some true) else (interlocklaw08_great.l0 k x0 (wrap64 (x3 + 1))))) else (none)) else (some false)
def interlocklaw08_great.f (k : Nat) (l0 : List (S41)) : Option (Bool) := if (l0.length : Int) > 300 then (some true) else (interlocklaw08_great.l0 k l0 0)
theorem interlocklaw08_great.mono_l : ∀ k, (∀ y0 y1, LeO (interlocklaw08_great.l0 k y0 y1) (interlocklaw08_great.l0 (k + 1) y0 y1))
  | 0 => fun _ _ r h => by simp [interlocklaw08_great.l0] at h
  | k + 1 => by
    have ih0 := interlocklaw08_great.mono_l k
    · intro y0 y1
      unfold interlocklaw08_great.l0
      repeat' first
      | (with_reducible exact ih0 _ _)
      | (with_reducible exact LeO.refl _)
      | (with_reducible exact LeO.none _)
      | (with_reducible refine LeO.ite ?_ ?_)
      | (with_reducible refine LeO.bind ?_ (fun _ => ?_))
      | exact ih0 _ _
      | exact LeO.none _
      | refine LeO.ite ?_ ?_
      | refine LeO.bind ?_ (fun _ => ?_)
theorem interlocklaw08_great.mono : ∀ a0 k, LeO (interlocklaw08_great.f k a0) (interlocklaw08_great.f (k + 1) a0) := by
  intro a0 k
  have ih0 := interlocklaw08_great.mono_l k
  unfold interlocklaw08_great.f
  repeat' first
      | (with_reducible exact ih0 _ _)
      | (with_reducible exact LeO.refl _)
      | (with_reducible exact LeO.none _)
      | (with_reducible refine LeO.ite ?_ ?_)
      | (with_reducible refine LeO.bind ?_ (fun _ => ?_))
      | exact ih0 _ _
      | exact LeO.none _
      | refine LeO.ite ?_ ?_
      | refine LeO.bind ?_ (fun _ => ?_)
set_option maxHeartbeats 8000000 in
set_option maxRecDepth 100000 in
theorem interlocklaw08_great.calls (k : Nat) (A0 : Option Addr) (c0 : Nat) (l0 : List (S41)) (r : Bool) (w : World) (hr0 : Kd.C k41 w A0 l0.length l0) (hc0 : l0.length ≤ c0) (h : interlocklaw08_great.f k l0 = some r) :
    Calls Try.prog 14 #[.slice A0 l0.length c0] w fun e w' => e = .returned (.bool r) ∧ Drawn0 w w' := by
  have HR0 := Aside0.mk hr0
  have HC0 := Aside0.mk hc0
  clear hr0 hc0
  have H : (if (l0.length : Int) > 300 then (some true) else (interlocklaw08_great.l0 k l0 0)) = some r := h
  clear h
  by_cases c2 : (l0.length : Int) > 300
  · rw [if_pos c2] at H
    have c2b0 : decide (300 < (l0.length : Int)) = true := decide_eq_true c2
    have c2b1 : decide (300 < l0.length) = true := decide_eq_true (by omega)
    clear c2
    obtain rfl := Option.some.inj H
    go_enter Try.func14, Try.ntmps14
    go_wp2
    go_ret
    exact ⟨by first | rfl | (simp; done) | (simp [*]; done), by repeat (first | exact Drawn0.refl _ | apply Drawn0.step)⟩
  · rw [if_neg c2] at H
    have c2b0 : decide (300 < (l0.length : Int)) = false := decide_eq_false c2
    have c2b1 : decide (300 < l0.length) = false := decide_eq_false (by omega)
    clear c2
    have H' := Aside0.mk H
    clear H
    go_enter Try.func14, Try.ntmps14
    go_wp2
    go_loopg [3] k (fun kq v3 w' => ∃ (x3_1 : Int), v3 = .int .i64 x3_1 ∧ Aside0 (interlocklaw08_great.l0 kq l0 x3_1 = some r) ∧ Aside0 (kq ≤ k) ∧ Drawn0 w w')
    case atStart => exact ⟨(0), (by first | rfl | (simp; done) | (simp [*]; done)), H', ⟨Nat.le_refl _⟩, by repeat (first | exact Drawn0.refl _ | apply Drawn0.step)⟩
    case round =>
      clear H'
      try clear c1
      try clear c2
      try clear c2b0
      try clear c2b1
      try clear p2
      obtain ⟨x3_1, rfl, HA, HK1, ⟨m1, rfl⟩⟩ := hrel
      cases gk with
      | zero => exact absurd HA.out (by simp [interlocklaw08_great.l0])
      | succ k1 =>
        have H := HA.out
        clear HA
        simp only [interlocklaw08_great.l0] at H
        by_cases c3 : x3_1 < (l0.length : Int)
        · rw [if_pos c3] at H
          have c3b0 : decide (x3_1 < (l0.length : Int)) = true := decide_eq_true c3
          clear c3
          by_cases c4 : 0 ≤ x3_1
          · rw [if_pos c4] at H
            have c4b0 : decide (0 ≤ x3_1) = true := decide_eq_true c4
            clear c4
            by_cases c5 : (((rd_T41 l0 x3_1).f2.f0).size : Int) > 500
            · rw [if_pos c5] at H
              have c5b0 : decide (500 < (((rd_T41 l0 x3_1).f2.f0).size : Int)) = true := decide_eq_true c5
              have c5b1 : decide (500 < ((rd_T41 l0 x3_1).f2.f0).size) = true := decide_eq_true (by omega)
              clear c5
              obtain rfl := Option.some.inj H
              have p129 : 0 ≤ (x3_1 : Int) := of_decide_eq_true (by first | (with_reducible assumption) | assumption)
              have q129 : x3_1 < (l0.length : Int) := of_decide_eq_true (by first | (with_reducible assumption) | assumption)
              obtain ⟨ad129, e129, hx129_0, hx129_1, hx129_2, hx129_3, hx129_4, hx129_5⟩ := at_T41 HR0.out x3_1 p129 q129
              cases e129
              replace p129 := eq_true p129
              replace q129 := eq_true q129
              go_wp2
              go_ret
              exact ⟨by first | rfl | (simp; done) | (simp [*]; done), by repeat (first | exact Drawn0.refl _ | apply Drawn0.step)⟩
            · rw [if_neg c5] at H
              have c5b0 : decide (500 < (((rd_T41 l0 x3_1).f2.f0).size : Int)) = false := decide_eq_false c5
              have c5b1 : decide (500 < ((rd_T41 l0 x3_1).f2.f0).size) = false := decide_eq_false (by omega)
              clear c5
              by_cases c6 : (((rd_T41 l0 x3_1).f3).size : Int) > 500
              · rw [if_pos c6] at H
                have c6b0 : decide (500 < (((rd_T41 l0 x3_1).f3).size : Int)) = true := decide_eq_true c6
                have c6b1 : decide (500 < ((rd_T41 l0 x3_1).f3).size) = true := decide_eq_true (by omega)
                clear c6
                obtain rfl := Option.some.inj H
                have p129 : 0 ≤ (x3_1 : Int) := of_decide_eq_true (by first | (with_reducible assumption) | assumption)
                have q129 : x3_1 < (l0.length : Int) := of_decide_eq_true (by first | (with_reducible assumption) | assumption)
                obtain ⟨ad129, e129, hx129_0, hx129_1, hx129_2, hx129_3, hx129_4, hx129_5⟩ := at_T41 HR0.out x3_1 p129 q129
                cases e129
                replace p129 := eq_true p129
                replace q129 := eq_true q129
                have p130 : 0 ≤ (x3_1 : Int) := of_decide_eq_true (by first | (with_reducible assumption) | assumption)
                have q130 : x3_1 < (l0.length : Int) := of_decide_eq_true (by first | (with_reducible assumption) | assumption)
                obtain ⟨ad130, e130, hx130_0, hx130_1, hx130_2, hx130_3, hx130_4, hx130_5⟩ := at_T41 HR0.out x3_1 p130 q130
                obtain rfl : ad129 = ad130 := (by injection e130)
                replace p130 := eq_true p130
                replace q130 := eq_true q130
                go_wp2
                go_ret
                exact ⟨by first | rfl | (simp; done) | (simp [*]; done), by repeat (first | exact Drawn0.refl _ | apply Drawn0.step)⟩
              · rw [if_neg c6] at H
                have c6b0 : decide (500 < (((rd_T41 l0 x3_1).f3).size : Int)) = false := decide_eq_false c6
                have c6b1 : decide (500 < ((rd_T41 l0 x3_1).f3).size) = false := decide_eq_false (by omega)
                clear c6
                have H' := Aside0.mk H
                clear H
                have p129 : 0 ≤ (x3_1 : Int) := of_decide_eq_true (by first | (with_reducible assumption) | assumption)
                have q129 : x3_1 < (l0.length : Int) := of_decide_eq_true (by first | (with_reducible assumption) | assumption)
                obtain ⟨ad129, e129, hx129_0, hx129_1, hx129_2, hx129_3, hx129_4, hx129_5⟩ := at_T41 HR0.out x3_1 p129 q129
                cases e129
                replace p129 := eq_true p129
                replace q129 := eq_true q129
                have p130 : 0 ≤ (x3_1 : Int) := of_decide_eq_true (by first | (with_reducible assumption) | assumption)
                have q130 : x3_1 < (l0.length : Int) := of_decide_eq_true (by first | (with_reducible assumption) | assumption)
                obtain ⟨ad130, e130, hx130_0, hx130_1, hx130_2, hx130_3, hx130_4, hx130_5⟩ := at_T41 HR0.out x3_1 p130 q130
                obtain rfl : ad129 = ad130 := (by injection e130)
                replace p130 := eq_true p130
                replace q130 := eq_true q130
                go_wp2
                go_roundg k1
                case measure => have := HK1.out; omega
                case rel => exact ⟨(wrap64 (x3_1 + 1)), (by first | rfl | (simp; done) | (simp [*]; done)), H', ⟨by have := HK1.out; omega⟩, by repeat (first | exact Drawn0.refl _ | apply Drawn0.step)⟩
          · rw [if_neg c4] at H
            exact absurd H (by simp)
        · rw [if_neg c3] at H
          have c3b0 : decide (x3_1 < (l0.length : Int)) = false := decide_eq_false c3
          clear c3
          obtain rfl := Option.some.inj H
          go_wp2
          go_ret
          exact ⟨by first | rfl | (simp; done) | (simp [*]; done), by repeat (first | exact Drawn0.refl _ | apply Drawn0.step)⟩
end Go.Proofs.Ytjaddmflopahiaa.Q
end
section
namespace Go.Proofs.Bt
open Go Go.RowKit Go.Proofs.Ytjaddmflopahiaa.Q Go.Proofs.YtjaddmflopahiaaW.PrintWords
set_option linter.unusedVariables false
set_option linter.unusedSimpArgs false
abbrev S41 := Go.Proofs.Ytjaddmflopahiaa.Q.S41
end Go.Proofs.Bt
end
section
namespace Go.Proofs.Bt
open Go Go.RowKit Go.Proofs.Ytjaddmflopahiaa.Q Go.Proofs.YtjaddmflopahiaaW.PrintWords Go.Proofs.YtjaddmflopahiaaW.PrintLast Go.Proofs.YtjaddmflopahiaaW.PrintMore
set_option linter.unusedVariables false
set_option linter.unusedSimpArgs false
set_option maxRecDepth 100000
section
variable {w0 W W' : World} {F : Nat → Prop} {tp rp : Nat} {T : ST} {cnt : Int} {R R' : List Chunk} {v : Value} {ks : List S29} {c : Chunk}
theorem TS.perm (s : TS w0 F W tp T cnt R) (h : R.Perm R') : TS w0 F W tp T cnt R' := s.upd fun X hX => hX.perm (h.append_right X)
theorem TS.box (s : TS w0 F W tp T cnt (refC rp v ks ++ R)) (C : Array Value) (ty : TypeId) {n : Nat} (hn : W.heap.size = n) : TS w0 F (W.alloc (.cells C ty)) tp T cnt (refC rp v ks ++ (blkC n (.cells C ty (0, 0)) :: R)) :=
  TS.perm (R := blkC n (.cells C ty (0, 0)) :: (refC rp v ks ++ R)) (s.upd fun X hX => (hX.alloc C ty hn).perm (List.perm_append_singleton _ _)) (List.perm_middle (a := blkC n (.cells C ty (0, 0))) (l₁ := refC rp v ks) (l₂ := R)).symm
end
end Go.Proofs.Bt
end
section
namespace Go.Proofs.Bt
open Go Go.RowKit Go.Proofs.Ytjaddmflopahiaa.Q Go.Proofs.YtjaddmflopahiaaW.PrintWords
open Go.Maps (Keyed)
set_option linter.unusedVariables false
set_option linter.unusedSimpArgs false
set_option maxRecDepth 100000
theorem laid29 : laidOutB Try.prog = true := by kernel_rfl
theorem row29 : (29 : TypeId) < Try.prog.types.size := of_decide_eq_true (by kernel_rfl)
theorem wide29 : (match Try.prog.underlying 29 with | some (.array _ _) | some (.struct _) => true | _ => false) = true := by rw [Try.underlying29]
theorem law29 : Keyed Try.prog 29 := Keyed.of_law (deep_law_laid laid29 (m := 3) (by omega) row29 (by kernel_rfl) wide29)
theorem zero4 (w : World) : (zeroValue 4).run Try.prog w = .ok (.bool false) w := by kernel_rfl
theorem cells29 : Try.prog.cellsOf 29 = 3 := by kernel_rfl
theorem cells27 : Try.prog.cellsOf 27 = 2 := by kernel_rfl
theorem cells9 : Try.prog.cellsOf 9 = 1 := by kernel_rfl
theorem cells3 : Try.prog.cellsOf 3 = 1 := by kernel_rfl
theorem keyT29 : Try.prog.keyType 29 = true := by kernel_rfl
theorem formed29 {a b c : Value} : (Value.agg #[a, b, c]).formed Try.prog 29 = true := by simp [Value.formed, Try.underlying29, cells29]
theorem lits27 (d : Nat) (a b : Int) (ha : (Lit.int .i64 a).wf = true) (hb : (Lit.int .i64 b).wf = true) : Try.prog.keyLits (d + 2) 27 [.int .i64 a, .int .i64 b] = some [.int .i64 a, .int .i64 b] := by
  unfold Program.keyLits
  rw [Try.underlying27]
  simp [cells27, cells3, Program.keyLits, Try.underlying3, ha, hb]
theorem lits29 (d : Nat) (x : S29) (h : wf29 x) : Try.prog.keyLits (d + 3) 29 [.string x.f0, .int .i64 x.f1.f0, .int .i64 x.f1.f1] = some [.string x.f0.data.toList, .int .i64 x.f1.f0, .int .i64 x.f1.f1] := by
  obtain ⟨h0, h1, h2⟩ := h
  have e := lits27 d _ _ h1 h2
  unfold Program.keyLits
  rw [Try.underlying29]
  simp [cells29, cells27, cells9]
  rw [e]
  simp [Program.keyLits, Try.underlying9, show x.f0.size ≤ maxLen from h0]
theorem key29 (x : S29) (h : wf29 x) : ∃ l, keyOf Try.prog 29 (entryV x) = some l := by
  obtain ⟨d, hd⟩ : ∃ d, Try.prog.types.size + 1 = d + 3 := ⟨Try.prog.types.size - 2, by have h29 : (29 : Nat) < Try.prog.types.size := row29; omega⟩
  unfold keyOf entryV
  rw [Try.underlying29]
  simp only [keyT29, formed29, Bool.and_self, if_true, hd]
  refine ⟨.string (keyBytes [.string x.f0.data.toList, .int .i64 x.f1.f0, .int .i64 x.f1.f1]), ?_⟩
  have e : (Value.agg #[.string x.f0, .int .i64 x.f1.f0, .int .i64 x.f1.f1]).cells.toList = [.string x.f0, .int .i64 x.f1.f0, .int .i64 x.f1.f1] := rfl
  rw [e, lits29 d x h]
  rfl
theorem lits9_inv {d : Nat} {a : Value} {ls : List Lit} (h : Try.prog.keyLits (d + 1) 9 [a] = some ls) : ∃ s, a = .string s ∧ s.size ≤ maxLen := by
  unfold Program.keyLits at h
  rw [Try.underlying9] at h
  cases a <;> simp at h
  exact ⟨_, rfl, h.1⟩
theorem lits3_inv {d : Nat} {a : Value} {ls : List Lit} (h : Try.prog.keyLits (d + 1) 3 [a] = some ls) : ∃ n, a = .int .i64 n ∧ (Lit.int .i64 n).wf = true := by
  unfold Program.keyLits at h
  rw [Try.underlying3] at h
  cases a <;> simp at h
  obtain ⟨⟨rfl, h⟩, _⟩ := h
  exact ⟨_, rfl, h⟩
theorem lits27_inv {d : Nat} {a b : Value} {ls : List Lit} (h : Try.prog.keyLits (d + 2) 27 [a, b] = some ls) : ∃ n m, a = .int .i64 n ∧ b = .int .i64 m ∧ (Lit.int .i64 n).wf = true ∧ (Lit.int .i64 m).wf = true := by
  unfold Program.keyLits at h
  rw [Try.underlying27] at h
  simp [cells27, cells3] at h
  cases h1 : Try.prog.keyLits (d + 1) 3 [a] with
  | none => rw [h1] at h; simp at h
  | some l1 =>
    cases h2 : Try.prog.keyLits (d + 1) 3 [b] with
    | none => rw [h1, h2] at h; simp at h
    | some l2 =>
      obtain ⟨n, rfl, w1⟩ := lits3_inv h1
      obtain ⟨m, rfl, w2⟩ := lits3_inv h2
      exact ⟨n, m, rfl, rfl, w1, w2⟩
theorem lits29_inv (d : Nat) (cs : List Value) (ls : List Lit) (h : Try.prog.keyLits (d + 3) 29 cs = some ls) : ∃ x : S29, wf29 x ∧ cs = [.string x.f0, .int .i64 x.f1.f0, .int .i64 x.f1.f1] := by
  unfold Program.keyLits at h
  rw [Try.underlying29] at h
  simp [cells29, cells27, cells9] at h
  obtain ⟨hl, h⟩ := h
  obtain ⟨a, b, c, rfl⟩ : ∃ a b c, cs = [a, b, c] := by
    rcases cs with _ | ⟨a, _ | ⟨b, _ | ⟨c, _ | ⟨d, r⟩⟩⟩⟩ <;> simp at hl
    exact ⟨_, _, _, rfl⟩
  change (Try.prog.keyLits (d + 2) 9 [a]).bind (Option.map List.flatten ∘ fun x => ((Try.prog.keyLits (d + 2) 27 [b, c]).bind fun y => some [y]).bind fun z => some (x :: z)) = some ls at h
  cases h1 : Try.prog.keyLits (d + 2) 9 [a] with
  | none => rw [h1] at h; simp at h
  | some l1 =>
    cases h2 : Try.prog.keyLits (d + 2) 27 [b, c] with
    | none => rw [h1, h2] at h; simp at h
    | some l2 =>
      obtain ⟨s, rfl, hs⟩ := lits9_inv h1
      obtain ⟨n, m, rfl, rfl, w1, w2⟩ := lits27_inv h2
      exact ⟨⟨s, ⟨n, m⟩⟩, ⟨hs, w1, w2⟩, rfl⟩
theorem key29_inv (v : Value) (l : Lit) (h : keyOf Try.prog 29 v = some l) : ∃ x : S29, wf29 x ∧ v = entryV x := by
  obtain ⟨d, hd⟩ : ∃ d, Try.prog.types.size + 1 = d + 3 := ⟨Try.prog.types.size - 2, by have h29 : (29 : Nat) < Try.prog.types.size := row29; omega⟩
  unfold keyOf at h
  rw [Try.underlying29] at h
  simp only [keyT29, Bool.true_and, hd] at h
  split at h
  · rename_i hf
    rw [Option.map_eq_some_iff] at h
    obtain ⟨ls, h1, _⟩ := h
    obtain ⟨x, hx, e⟩ := lits29_inv d _ ls h1
    refine ⟨x, hx, ?_⟩
    cases v <;> simp [Value.formed, Try.underlying29] at hf
    rename_i cs
    have e2 : cs.toList = [.string x.f0, .int .i64 x.f1.f0, .int .i64 x.f1.f1] := e
    have e3 : cs = #[.string x.f0, .int .i64 x.f1.f0, .int .i64 x.f1.f1] := by rw [← Array.toList_inj, e2]
    rw [e3]
    rfl
  · cases h
noncomputable def kl (x : S29) : Lit := (keyOf Try.prog 29 (entryV x)).getD (.bool false)
theorem kl_key {x : S29} (h : wf29 x) : keyOf Try.prog 29 (entryV x) = some (kl x) := by
  obtain ⟨l, hl⟩ := key29 x h
  unfold kl
  rw [hl]
  rfl
theorem entryV_inj {x y : S29} (h : entryV x = entryV y) : x = y := by
  obtain ⟨x0, x1, x2⟩ := x
  obtain ⟨y0, y1, y2⟩ := y
  unfold entryV at h
  injection h with h
  have := congrArg Array.toList h
  simp at this
  obtain ⟨rfl, rfl, rfl⟩ := this
  rfl
theorem kl_inj {x y : S29} (hx : wf29 x) (hy : wf29 y) (h : kl x = kl y) : x = y := entryV_inj (law29.inj (kl_key hx) (h ▸ kl_key hy))
theorem elem4_inv {v : Value} {z : DataW Unit × List MemPlace} (h : plainElem Try.prog 4 v = some z) : ∃ c, v = .bool c ∧ z.1 = .lit (.bool c) := by
  unfold plainElem at h
  rw [Try.underlying4] at h
  cases v <;> simp at h
  subst h
  exact ⟨_, rfl, rfl⟩
def MapD (D : DataW Unit) (f : S29 → Bool) : Prop := ∀ x, wf29 x → D.atKey (kl x) (.lit (.bool false)) = .lit (.bool (f x)) ∧ (f x = true → Maps.has D (kl x) = true)
def MapF (w : World) (b n : Nat) (f : S29 → Bool) : Prop := ∃ D : DataW Unit, w.ownsMap Try.prog 29 (plainElem Try.prog 4) b n D ∧ MapD D f
theorem MapF.made (w : World) : MapF (w.alloc (.map #[] 0)) w.heap.size 0 fun _ => false :=
  ⟨.map [], World.ownsMap_made _ _ _ _, fun x hx => ⟨rfl, fun h => by cases h⟩⟩
theorem MapF.lookup {w : World} {b n : Nat} {f : S29 → Bool} (h : MapF w b n f) {x : S29} (hx : wf29 x) : (Instr.lookup 48 (.map (some b)) (entryV x) false).run Try.prog w = .ok (.bool (f x)) w := by
  obtain ⟨D, h1, h2⟩ := h
  obtain ⟨v, ps, hrun, hR⟩ := h1.lookup law29 Try.underlying48 (zero4 w) (plainElem_bool Try.underlying4 false) (kl_key hx)
  obtain ⟨c, rfl, hc⟩ := elem4_inv hR
  rw [(h2 x hx).1] at hc
  injection hc with hc
  injection hc with hc
  rw [hrun, hc]
theorem MapF.update {w : World} {b n : Nat} {f f' : S29 → Bool} (h : MapF w b n f) (hn : n < maxLen) {x : S29} (hx : wf29 x) (c : Bool) (h1 : f' x = c) (h2 : ∀ y, y ≠ x → f' y = f y) :
    ∃ w', (Instr.mapUpdate 48 (.map (some b)) (entryV x) (.bool c)).run Try.prog w = .ok () w' ∧ MapF w' b (n + 1) f' ∧ w.grownBy w' (some b) := by
  obtain ⟨D, g1, g2⟩ := h
  obtain ⟨w', hrun, hown, hg⟩ := g1.update law29 Try.underlying48 hn (kl_key hx) (plainElem_bool Try.underlying4 c)
  refine ⟨w', hrun, ⟨_, hown, fun y hy => ?_⟩, hg⟩
  by_cases he : y = x
  · subst he
    rw [Maps.atKey_put_same g1.isMap (law29.key (kl_key hx)), h1]
    exact ⟨rfl, fun _ => Maps.has_put_same g1.isMap (law29.key (kl_key hx)) _⟩
  · have hne : kl y ≠ kl x := fun e => he (kl_inj hy hx e)
    rw [Maps.atKey_put_other hne, Maps.has_put_other hne, h2 y he]
    exact g2 y hy
theorem MapF.move {w w' : World} {b n : Nat} {f : S29 → Bool} (h : MapF w b n f) (hm : w'.heap[b]? = w.heap[b]?) : MapF w' b n f := by
  obtain ⟨D, ⟨es, clock, h1, h2⟩, hd⟩ := h
  exact ⟨D, ⟨es, clock, hm.trans h1, h2⟩, hd⟩
theorem MapF.lt {w : World} {b n : Nat} {f : S29 → Bool} (h : MapF w b n f) : b < w.heap.size := by
  obtain ⟨D, h, _⟩ := h
  exact h.lt
def mapC (b n : Nat) (f : S29 → Bool) : Chunk := ⟨fun w => MapF w b n f, [b], fun h x hx => by simp at hx; subst hx; exact h.lt, fun h hm => h.move (hm b (by simp))⟩
end Go.Proofs.Bt
end
section
namespace Go.Proofs.Bt
open Go Go.RowKit Go.Proofs.Ytjaddmflopahiaa.Q Go.Proofs.YtjaddmflopahiaaW.PrintWords
open Go.Maps (Keyed)
set_option linter.unusedVariables false
set_option linter.unusedSimpArgs false
set_option maxRecDepth 100000
def RangeF (w : World) (b r n : Nat) (f : S29 → Bool) (vs : List S29) (cnt : Nat) : Prop :=
  ∃ (D : DataW Unit) (left : Lit → Bool), w.ranges Try.prog 29 (plainElem Try.prog 4) b r n D left cnt ∧ MapD D f ∧ (∀ x, wf29 x → f x = true → left (kl x) = true ∨ x ∈ vs) ∧ vs.Nodup ∧ ∀ x ∈ vs, wf29 x ∧ left (kl x) = false
theorem MapF.range {w : World} {b n : Nat} {f : S29 → Bool} (h : MapF w b n f) :
    ∃ w' cnt, (Instr.range 48 (.map (some b))).run Try.prog w = .ok (.pointer (some ⟨w.heap.size, 0, none⟩)) w' ∧ RangeF w' b w.heap.size n f [] cnt ∧ w.grownBy w' none ∧ w'.heap.size = w.heap.size + 1 := by
  obtain ⟨D, h1, h2⟩ := h
  obtain ⟨w', hrun, hr, hg, hs⟩ := h1.range law29 Try.underlying48
  exact ⟨w', _, hrun, ⟨D, _, hr, h2, fun x hx hf => .inl ((h2 x hx).2 hf), List.nodup_nil, fun x hx => by cases hx⟩, hg, hs⟩
theorem RangeF.next {w : World} {b r n cnt : Nat} {f : S29 → Bool} {vs : List S29} (h : RangeF w b r n f vs cnt) :
    ((∀ x, wf29 x → f x = true → x ∈ vs) ∧ (Instr.next (.pointer (some ⟨r, 0, none⟩)) false 0).run Try.prog w = .ok (.tuple #[.bool false]) w) ∨
    ∃ x w' cnt', wf29 x ∧ x ∉ vs ∧ (Instr.next (.pointer (some ⟨r, 0, none⟩)) false 0).run Try.prog w = .ok (.tuple #[.bool true, .agg #[.string x.f0, .int .i64 x.f1.f0, .int .i64 x.f1.f1], .bool (f x)]) w' ∧
      RangeF w' b r n f (x :: vs) cnt' ∧ cnt' < cnt ∧ w.grownBy w' (some r) ∧ w'.heap.size = w.heap.size ∧ (Instr.entry (.pointer (some ⟨r, 0, none⟩))).run Try.prog w' = .ok (.tuple #[.agg #[.string x.f0, .int .i64 x.f1.f0, .int .i64 x.f1.f1], .bool (f x)]) w' := by
  obtain ⟨D, left, hr, h2, h3, h4, h5⟩ := h
  rcases hr.next law29 0 with ⟨_, hl, hrun⟩ | ⟨key, v, l, y, w', cnt', hkey, hlk, hv, hat, hrun, hrg, hlt, hgr, hsz, hen⟩
  · refine .inl ⟨fun x hx hf => ?_, hrun⟩
    rcases h3 x hx hf with h | h
    · rw [hl] at h
      cases h
    · exact h
  · obtain ⟨x, hx, rfl⟩ := key29_inv key l hkey
    obtain ⟨c, rfl, hc⟩ := elem4_inv hv
    have hl : l = kl x := Option.some.inj (hkey.symm.trans (kl_key hx))
    subst hl
    have hfc : c = f x := by
      have e := (h2 x hx).1
      rw [hat, hc] at e
      injection e with e
      injection e
    subst hfc
    refine .inr ⟨x, w', cnt', hx, fun hm => ?_, hrun, ⟨D, _, hrg, h2, fun z hz hf => ?_, List.nodup_cons.2 ⟨fun hm => ?_, h4⟩, fun z hz => ?_⟩, hlt, hgr, hsz, hen⟩
    · rw [(h5 x hm).2] at hlk
      cases hlk
    · by_cases hzx : z = x
      · subst hzx
        exact .inr List.mem_cons_self
      · rcases h3 z hz hf with h | h
        · refine .inl ?_
          rw [h, Maps.sameKey_ne (fun e => hzx (kl_inj hz hx e))]
          rfl
        · exact .inr (List.mem_cons_of_mem _ h)
    · rw [(h5 x hm).2] at hlk
      cases hlk
    · rcases List.mem_cons.1 hz with rfl | hz
      · refine ⟨hx, ?_⟩
        rw [WideAt.sameKey_self (law29.key (kl_key hx))]
        simp
      · refine ⟨(h5 z hz).1, ?_⟩
        rw [(h5 z hz).2]
        rfl
theorem RangeF.move {w w' : World} {b r n cnt : Nat} {f : S29 → Bool} {vs : List S29} (h : RangeF w b r n f vs cnt) (hb : w'.heap[b]? = w.heap[b]?) (hr : w'.heap[r]? = w.heap[r]?) : RangeF w' b r n f vs cnt := by
  obtain ⟨D, left, ⟨es, clock, since, seen, c0, h1, h2, h3, h4, h5, h6⟩, hd⟩ := h
  exact ⟨D, left, ⟨es, clock, since, seen, c0, hb.trans h1, h2, h3, h4, hr.trans h5, h6⟩, hd⟩
theorem RangeF.lt {w : World} {b r n cnt : Nat} {f : S29 → Bool} {vs : List S29} (h : RangeF w b r n f vs cnt) : b < w.heap.size ∧ r < w.heap.size ∧ r ≠ b := by
  obtain ⟨D, left, h, _⟩ := h
  exact ⟨h.owns.lt, h.lt, h.ne⟩
theorem RangeF.nodup {w : World} {b r n cnt : Nat} {f : S29 → Bool} {vs : List S29} (h : RangeF w b r n f vs cnt) : vs.Nodup := by
  obtain ⟨D, left, _, _, _, h, _⟩ := h
  exact h
theorem nd_pair {a b : Nat} (h : b ≠ a) : ND [a, b] := (nd_app (a := [a]) (b := [b])).2 ⟨nd_one a, nd_one b, fun x hx hb => by simp at hx hb; omega⟩
def iterC (b r n : Nat) (f : S29 → Bool) (vs : List S29) (cnt : Nat) : Chunk :=
  ⟨fun w => RangeF w b r n f vs cnt, [b, r], fun h x hx => by
    simp at hx
    rcases hx with rfl | rfl
    · exact h.lt.1
    · exact h.lt.2.1, fun h hm => h.move (hm b (by simp)) (hm r (by simp))⟩
def TT (w0 : World) (F : Nat → Prop) (W : World) (tp : Nat) (T : ST) (cT : Int) (up : Nat) (U : ST) (cU : Int) (R : List Chunk) : Prop := ∃ mU : MT U.1, abs U.1 mU = U.2 ∧ TS w0 F W tp T cT (treeT up U.1 mU cU ++ R)
section
variable {w0 W W' : World} {F : Nat → Prop} {tp up : Nat} {T U : ST} {cT cU : Int} {R R' : List Chunk}
theorem TT.swap (h : TT w0 F W tp T cT up U cU R) : TT w0 F W up U cU tp T cT R := by
  obtain ⟨mU, h1, mT, h2, s⟩ := h
  refine ⟨mT, h2, mU, h1, s.perm ?_⟩
  rw [← List.append_assoc, ← List.append_assoc]
  exact List.perm_append_comm.append_right R
theorem TT.rest (h : TT w0 F W tp T cT up U cU R) : St w0 F W R := by
  obtain ⟨mU, h1, s⟩ := h
  exact St.drop (A := treeT up U.1 mU cU) s.rest
theorem TT.keep (h : TT w0 F W tp T cT up U cU R) : Keep w0 W F := h.rest.keep
theorem TT.below (h : TT w0 F W tp T cT up U cU R) (hb : Below W.heap.size W W') : TT w0 F W' tp T cT up U cU R := by
  obtain ⟨mU, h1, s⟩ := h
  exact ⟨mU, h1, s.below hb⟩
theorem TT.upd (h : TT w0 F W tp T cT up U cU R) (k : ∀ X, St w0 F W (R ++ X) → St w0 F W' (R' ++ X)) : TT w0 F W' tp T cT up U cU R' := by
  obtain ⟨mU, h1, s⟩ := h
  refine ⟨mU, h1, s.upd fun X hX => ?_⟩
  have e : ((treeT up U.1 mU cU ++ R) ++ X).Perm (R ++ (treeT up U.1 mU cU ++ X)) := by
    rw [← List.append_assoc]
    exact List.perm_append_comm.append_right X
  have e2 : (R' ++ (treeT up U.1 mU cU ++ X)).Perm ((treeT up U.1 mU cU ++ R') ++ X) := by
    rw [← List.append_assoc]
    exact List.perm_append_comm.append_right X
  exact (k _ (hX.perm e)).perm e2
theorem TT.perm (h : TT w0 F W tp T cT up U cU R) (hp : R.Perm R') : TT w0 F W tp T cT up U cU R' := h.upd fun X hX => hX.perm (hp.append_right X)
theorem TT.drop {A : List Chunk} (h : TT w0 F W tp T cT up U cU (A ++ R)) : TT w0 F W tp T cT up U cU R := h.upd fun X hX => St.drop (A := A) (by rw [← List.append_assoc]; exact hX)
theorem TT.fresh (h : TT w0 F W tp T cT up U cU R) (hb : Below W.heap.size W W') (c : Chunk) (hc : c.H W') (hnd : ND c.bs) (hs : ∀ b ∈ c.bs, W.heap.size ≤ b) : TT w0 F W' tp T cT up U cU (c :: R) :=
  h.upd fun X hX => hX.fresh hb c hc hnd hs
theorem TT.turn {c c' : Chunk} (h : TT w0 F W tp T cT up U cU (c :: R)) (hk : Keep W W' (fun b => b ∈ c.bs)) (hc : c'.H W') (hnd : ND c'.bs) (hs : ∀ b ∈ c'.bs, b ∈ c.bs ∨ W.heap.size ≤ b) : TT w0 F W' tp T cT up U cU (c' :: R) :=
  h.upd fun X hX => St.upd hX 0 rfl c' hk hc hnd hs
end
section
variable (W w0 : World) (F : Nat → Prop) (tp up : Nat) (T U : ST) (cT cU : Int) (R : List Chunk) (e : S29)
theorem tt_new (s : TS w0 F W tp T cT R) : Calls Try.prog 10 #[] W fun E w' => ∃ up, E = .returned (.pointer (some ⟨up, 0, none⟩)) ∧ TT w0 F w' tp T cT up ⟨0, ([] : List S29)⟩ 0 R := by
  obtain ⟨mT, h1, s⟩ := s
  refine (new_ts W w0 F _ s).mono ?_
  rintro E w' ⟨up, rfl, h⟩
  exact ⟨up, rfl, TT.swap ⟨mT, h1, h⟩⟩
theorem tt_insert (h : TT w0 F W tp T ((entS T).length : Int) up U cU R) (hi : TInvS T) (hl : (entS T).length < 1000000) :
    Calls Try.prog 11 #[.pointer (some ⟨tp, 0, none⟩), entryV e] W fun E w' => E = .returned (.bool (!(found (entS T) e))) ∧ TT w0 F w' tp (tinsS T e).1 ((entS (tinsS T e).1).length : Int) up U cU R := by
  obtain ⟨mU, h1, s⟩ := h
  have k := insert_ts W w0 F tp T _ _ e s hi (by omega) (by omega)
  rw [tins_count e hi rfl, ins_agree e hi] at k
  exact k.mono fun E w' ⟨a, b⟩ => ⟨a, mU, h1, b⟩
theorem tt_delete (h : TT w0 F W tp T ((entS T).length : Int) up U cU R) (hi : TInvS T) (hl : (entS T).length < 1000000) :
    Calls Try.prog 15 #[.pointer (some ⟨tp, 0, none⟩), entryV e] W fun E w' => E = .returned (.bool (found (entS T) e)) ∧ TT w0 F w' tp (tcutS T e).1 ((entS (tcutS T e).1).length : Int) up U cU R := by
  obtain ⟨mU, h1, s⟩ := h
  have k := delete_ts W w0 F tp T _ _ e s hi (by omega) (by omega)
  rw [tcut_count e hi rfl, cut_agree e hi] at k
  exact k.mono fun E w' ⟨a, b⟩ => ⟨a, mU, h1, b⟩
theorem tt_has (h : TT w0 F W tp T cT up U cU R) (hi : TInvS T) : Calls Try.prog 20 #[.pointer (some ⟨tp, 0, none⟩), entryV e] W fun E w' => E = .returned (.bool (found (entS T) e)) ∧ TT w0 F w' tp T cT up U cU R := by
  obtain ⟨mU, h1, s⟩ := h
  exact (has_ts W w0 F tp T _ _ e s hi).mono fun E w' ⟨a, b⟩ => ⟨a, mU, h1, b⟩
theorem tt_count (h : TT w0 F W tp T cT up U cU R) : Calls Try.prog 13 #[.pointer (some ⟨tp, 0, none⟩)] W fun E w' => E = .returned (.int .i64 cT) ∧ w' = W := by
  obtain ⟨mU, h1, s⟩ := h
  exact count_ts W w0 F tp T _ _ s
theorem tt_all (h : TT w0 F W tp T cT up U cU R) (hi : TInvS T) (hf : ∀ x ∈ entS T, Far x) (hl : (entS T).length < 90000) : Calls Try.prog 18 #[.pointer (some ⟨tp, 0, none⟩)] W fun E w' => ∃ v, E = .returned v ∧ TT w0 F w' tp T cT up U cU (rowEC v (entS T) :: R) := by
  obtain ⟨mU, h1, s⟩ := h
  have k := all_ts W w0 F tp T _ _ s hi (by have := from_len (T := T) (lowS ⟨#[]⟩) hi; omega)
  rw [all_ent T hi hf] at k
  exact k.mono fun E w' ⟨v, a, b⟩ => ⟨v, a, mU, h1, b.perm (List.perm_middle (a := rowEC v (entS T)) (l₁ := treeT up U.1 mU cU) (l₂ := R)).symm⟩
end
theorem ins_mem {T : ST} (e z : S29) (hi : TInvS T) : z ∈ entS (tinsS T e).1 ↔ z = e ∨ z ∈ entS T := by
  have h := (tins_good T.1 T.2 e hi).2.1.mem z
  rw [← mem_ent, ← mem_ent] at h
  exact h
theorem cut_mem {T : ST} (e z : S29) (hi : TInvS T) : z ∈ entS (tcutS T e).1 ↔ z ≠ e ∧ z ∈ entS T := by
  have h := (tcut_good T.1 T.2 e hi).2.1.mem z
  rw [← mem_ent, ← mem_ent] at h
  exact h
theorem found_iff {T : ST} (hi : TInvS T) (z : S29) : found (entS T) z = true ↔ z ∈ entS T := found_mem _ z (entS_sorted hi)
theorem bool_iff {a b : Bool} (h : a = true ↔ b = true) : a = b := by cases a <;> cases b <;> simp_all
theorem found_ins {T : ST} (e : S29) (hi : TInvS T) : found (entS (tinsS T e).1) e = true ∧ ∀ y, y ≠ e → found (entS (tinsS T e).1) y = found (entS T) y := by
  have hi2 := (tins_ent e hi).1
  refine ⟨(found_iff hi2 e).2 ((ins_mem e e hi).2 (.inl rfl)), fun y hy => bool_iff ?_⟩
  rw [found_iff hi2, found_iff hi, ins_mem e y hi]
  exact ⟨fun h => h.resolve_left hy, .inr⟩
theorem found_cut {T : ST} (e : S29) (hi : TInvS T) : found (entS (tcutS T e).1) e = false ∧ ∀ y, y ≠ e → found (entS (tcutS T e).1) y = found (entS T) y := by
  have hi2 := (tcut_ent e hi).1
  refine ⟨?_, fun y hy => bool_iff ?_⟩
  · rw [← Bool.not_eq_true, found_iff hi2, cut_mem e e hi]
    exact fun h => h.1 rfl
  · rw [found_iff hi2, found_iff hi, cut_mem e y hi]
    exact ⟨fun h => h.2, fun h => ⟨hy, h⟩⟩
theorem same_ents {T U : ST} (hT : TInvS T) (hU : TInvS U) (h : ∀ z, z ∈ entS T ↔ z ∈ entS U) : entS U = entS T := sorted_ext (entS_sorted hU) (entS_sorted hT) fun z => (h z).symm
end Go.Proofs.Bt
end
section
namespace Go.Proofs.Bt
open Go Go.RowKit Go.Proofs.Ytjaddmflopahiaa.Q Go.Proofs.YtjaddmflopahiaaW.PrintWords Go.Proofs.YtjaddmflopahiaaW.PrintLast Go.Proofs.YtjaddmflopahiaaW.PrintMore
set_option linter.unusedVariables false
set_option linter.unusedSimpArgs false
set_option maxRecDepth 100000
theorem at_int {w : World} {A : Option Addr} {n : Nat} {xs : List Int} (h : Kd.C (Kd.int .i64) w A n xs) (j : Nat) (c : Int) (hj : xs[j]? = some c) : ∃ ad, A = some ad ∧ w.cell? (ad.add j) = some (.int .i64 c) := by
  obtain ⟨hl, rfl⟩ := List.getElem?_eq_some_iff.1 hj
  have hn : n = xs.length := h.1.symm
  obtain ⟨ad, cs, e, _, hK, hc0⟩ := Kd.C_get h 0 (j : Int) (by omega) (by omega)
  refine ⟨ad, e, ?_⟩
  have hK2 : cs = [.int .i64 (xs.getD (j : Int).toNat 0)] := hK
  subst hK2
  have hc : w.cell? (ad.add ((j : Int).toNat * 1 + 0)) = some (.int .i64 (xs.getD (j : Int).toNat 0)) := hc0 0 _ rfl
  rw [Int.toNat_natCast, Nat.mul_one, Nat.add_zero, List.getD_eq_getElem?_getD, List.getElem?_eq_getElem hl] at hc
  exact hc
theorem and_1023 (c : Int) : ∃ q : Nat, q ≤ 1023 ∧ bits .and .i64 c 1023 = (q : Int) := by
  have h : (BitVec.ofInt 64 c &&& BitVec.ofInt 64 1023).toNat ≤ 1023 := by
    rw [BitVec.toNat_and]
    exact Nat.and_le_right
  obtain ⟨q, hq⟩ : ∃ q, (BitVec.ofInt 64 c &&& BitVec.ofInt 64 1023).toNat = q := ⟨_, rfl⟩
  rw [hq] at h
  have h2 : wrap64 (q : Int) = (q : Int) := IntWalk.wrap64_in _ (by omega)
  refine ⟨q, h, ?_⟩
  show IntKind.i64.wrap ((BitVec.ofInt 64 c &&& BitVec.ofInt 64 1023).toNat : Int) = _
  rw [hq, i64_w]
  exact h2
theorem cut_ix (c : Int) (j : Nat) (hj : 0 < j) : ∃ i : Nat, i < j ∧ (bits .and .i64 c 1023).tmod (j : Int) = (i : Int) := by
  obtain ⟨q, _, hq⟩ := and_1023 c
  refine ⟨q % j, Nat.mod_lt _ hj, ?_⟩
  rw [hq]
  rfl
theorem nodup_le {α : Type} : ∀ {l l' : List α}, l.Nodup → (∀ x ∈ l, x ∈ l') → l.length ≤ l'.length
  | [], l', _, _ => Nat.zero_le _
  | x :: r, l', hn, hs => by
    obtain ⟨hx, hn⟩ := List.nodup_cons.1 hn
    obtain ⟨A, B, rfl⟩ := List.append_of_mem (hs x List.mem_cons_self)
    have : r.length ≤ (A ++ B).length := nodup_le hn fun y hy => by
      have h1 := hs y (List.mem_cons_of_mem _ hy)
      rw [List.mem_append, List.mem_cons] at h1
      rw [List.mem_append]
      rcases h1 with h1 | rfl | h1
      · exact .inl h1
      · exact absurd hy hx
      · exact .inr h1
    simp only [List.length_append, List.length_cons] at this ⊢
    omega
theorem sorted_nodup {l : List S29} (h : Sorted l) : l.Nodup := List.Pairwise.imp (fun {a b} hab he => by subst he; exact ltE_irr _ hab) h
theorem keep_in {w w' : World} {b : Nat} {l : List Nat} (hb : b ∈ l) (hg : w.grownBy w' (some b)) : Keep w w' (fun x => x ∈ l) :=
  ⟨hg.os, hg.tape, hg.output, hg.size, fun k hk hf => hg.block k hk fun e => hf (by rw [Option.some.inj e]; exact hb)⟩
theorem filter_le {T : ST} {vs : List S29} (hT : TInvS T) (hn : vs.Nodup) : (vs.filter (found (entS T))).length ≤ (entS T).length :=
  nodup_le (hn.filter _) fun z hz => (found_iff hT z).1 (List.mem_filter.1 hz).2
theorem filter_whole2 {T : ST} {vs : List S29} (hT : TInvS T) (hn : vs.Nodup) (h : ∀ z ∈ entS T, z ∈ vs) : (vs.filter (found (entS T))).length = (entS T).length :=
  Nat.le_antisymm (filter_le hT hn) (nodup_le (sorted_nodup (entS_sorted hT)) fun z hz => List.mem_filter.2 ⟨h z hz, (found_iff hT z).2 hz⟩)
theorem keep_map {w w' : World} {b : Nat} (hg : w.grownBy w' (some b)) : Keep w w' (fun x => x ∈ [b]) :=
  ⟨hg.os, hg.tape, hg.output, hg.size, fun k hk hf => hg.block k hk fun e => hf (by simp [← Option.some.inj e])⟩
theorem wp_update {P : Program} {w w' : World} {ops : Array Oper} {rest : List Oper} {o : Oper} {a : Act} {Q : Exit → Act → World → Prop}
    (hg : o.guard = none) (m x v : Operand) (t : TypeId) (hop : o.op = Op.mapUpdate t m x v) (mv key val : Value) (hm : a.eval m = mv) (hx : a.eval x = key) (hv : a.eval v = val)
    (hrun : (Instr.mapUpdate t mv key val).run P w = .ok () w') (hK : wpList P ops Q rest (a.put o.dst undef) w') : wpList P ops Q (o :: rest) a w := by
  refine wpList_plain hg fun K' hK' => ?_
  unfold Oper.wp
  simp [execOp, hop, hm, hx, hv, hrun, Result.andThen]
  exact hK' _ _ hK
def FI (w : World) (l : List S29) (tp up mb j : Nat) (W : World) : Prop := ∃ T U, TInvS T ∧ TInvS U ∧ (∀ z ∈ entS T, z ∈ l ∧ z.f0.size ≤ 500) ∧ (∀ z, z ∈ entS T ↔ z ∈ l.take j) ∧ (∀ z, z ∈ entS U ↔ z ∈ l.drop (l.length - j)) ∧ (entS T).length ≤ j ∧ (entS U).length ≤ j ∧
  TT w NoF W tp T ((entS T).length : Int) up U ((entS U).length : Int) [mapC mb j (found (entS T))]
def CI (w : World) (l : List S29) (tp up mb n j : Nat) (W : World) : Prop := ∃ T U, TInvS T ∧ TInvS U ∧ entS U = entS T ∧ (∀ z ∈ entS T, z ∈ l ∧ z.f0.size ≤ 500) ∧ (entS T).length ≤ n ∧
  TT w NoF W tp T ((entS T).length : Int) up U ((entS U).length : Int) [mapC mb (n + j) (found (entS T))]
theorem CI.below {w W : World} {l : List S29} {tp up mb n j : Nat} (h : CI w l tp up mb n j W) : Below w.heap.size w W := by
  obtain ⟨T, U, _, _, _, _, _, h⟩ := h
  exact keep_below h.keep
theorem FI.below {w W : World} {l : List S29} {tp up mb j : Nat} (h : FI w l tp up mb j W) : Below w.heap.size w W := by
  obtain ⟨T, U, _, _, _, _, _, _, _, h⟩ := h
  exact keep_below h.keep
set_option maxHeartbeats 4000000 in
theorem btreeset_calls (w : World) (A0 : Option Addr) (c0 : Nat) (l : List S29) (A1 : Option Addr) (c1 : Nat) (cuts : List Int) (hC : Kd.C k29 w A0 l.length l) (hD : Kd.C (Kd.int .i64) w A1 cuts.length cuts) (hwf : ∀ x ∈ l, wf29 x) :
    Calls Try.prog 6 #[.slice A0 l.length c0, .slice A1 cuts.length c1] w fun E w' => E = .returned (.bool true) ∧ Below w.heap.size w w' := by
  have mixed : Try.prog.follows Departure.mixedOrders = true := by kernel_rfl
  have hu29 := Try.underlying29
  obtain ⟨R, hR⟩ : ∃ R, (fun E w' => E = Ending.returned (.bool true) ∧ Below w.heap.size w w') = R := ⟨_, rfl⟩
  have HR := Aside0.mk hR
  rw [hR]
  obtain ⟨n, hn⟩ : ∃ n, l.length = n := ⟨_, rfl⟩
  obtain ⟨m, hm⟩ : ∃ m, cuts.length = m := ⟨_, rfl⟩
  rw [hn] at hC
  rw [hm] at hD
  have HC := Aside0.mk hC
  have HD := Aside0.mk hD
  have HWF := Aside0.mk hwf
  have HN := Aside0.mk hn
  have HM := Aside0.mk hm
  have HA := Aside0.mk (alive_calls w)
  rw [hn, hm]
  clear hR hC hD hn hm hwf
  have hmm := @run_makeMap Try.prog
  by_cases hg : 300 < n ∨ 300 < m
  · have hg2 : (decide ((300 : Int) < (n : Int)) || decide ((300 : Int) < (m : Int))) = true := by
      rw [Bool.or_eq_true, decide_eq_true_eq, decide_eq_true_eq]
      omega
    go_enter Try.func6, Try.ntmps6
    go_wp2_with (go_at_call 9; refine HA.out.mono ?_; clear HA; rintro E w1 ⟨rfl, hb⟩; have HB1 := Aside0.mk hb; clear hb)
    all_goals (first | (rw [← HR.out]) | (go_ret; rw [← HR.out]))
    all_goals exact ⟨rfl, HB1.out⟩
  · have hg1 : decide ((300 : Int) < (n : Int)) = false := by simp; omega
    have hg2 : decide ((300 : Int) < (m : Int)) = false := by simp; omega
    have hn3 : n ≤ 300 := by omega
    have hm3 : m ≤ 300 := by omega
    clear hg
    go_enter Try.func6, Try.ntmps6
    go_wp2_with (first
      | (go_at_call 9; refine HA.out.mono ?_; clear HA; rintro E w1 ⟨rfl, hb⟩; have HB1 := Aside0.mk hb; clear hb)
      | (go_at_call 10; first
          | (refine (tt_new _ w NoF tp ⟨0, ([] : List S29)⟩ 0 [] HS.out).mono ?_; rintro E w3 ⟨up, rfl, hs3⟩; have HS3 := Aside0.mk hs3; clear HS hs3)
          | (refine (new_ts _ w NoF [] ⟨Keep.of_below HB1.out _, fun c hc => (by cases hc), fun a => (by simp [fpc]), fun b hb => (by simp [fpc] at hb)⟩).mono ?_; rintro E w2 ⟨tp, rfl, hs⟩; have HS := Aside0.mk hs; clear hs)))
    obtain ⟨mb, hmb⟩ : ∃ b, w3.heap.size = b := ⟨_, rfl⟩
    have HS0 := Aside0.mk (show FI w l tp up mb 0 (w3.alloc (.map #[] 0)) from ⟨⟨0, ([] : List S29)⟩, ⟨0, ([] : List S29)⟩, tinv0, tinv0, fun z hz => (by have e : entS ⟨0, ([] : List S29)⟩ = [] := rfl; rw [e] at hz; simp at hz),
      fun z => (by have e : entS ⟨0, ([] : List S29)⟩ = [] := rfl; rw [e]; simp), fun z => (by have e : entS ⟨0, ([] : List S29)⟩ = [] := rfl; rw [e]; simp), Nat.le_refl _, Nat.le_refl _,
      HS3.out.fresh ((Below.refl _ _).alloc (Nat.le_refl _) _) (mapC mb 0 (found (entS ⟨0, ([] : List S29)⟩))) (hmb ▸ MapF.made w3) (nd_one mb) (fun b hb => by simp [mapC] at hb; omega)⟩)
    clear HS3
    rw [hmb]
    clear HB1 hmm
    go_loopg [8] n (fun gq v8 wx => ∃ j : Nat, v8 = .int .i64 j ∧ j + gq = n ∧ Aside0 (FI w l tp up mb j wx))
    case atStart => exact ⟨0, rfl, by omega, HS0⟩
    case round =>
      clear HS0
      obtain ⟨j, rfl, hj, HS⟩ := hrel
      cases gk with
      | succ gq =>
        have hjn : j < n := by omega
        have hjn2 : (j : Int) < (n : Int) := by omega
        have hj0 : (0 : Int) ≤ (j : Int) := by omega
        obtain ⟨x, hx⟩ : ∃ x, l[j]? = some x := ⟨_, List.getElem?_eq_getElem (by rw [HN.out]; exact hjn)⟩
        have hrx : rd_T29 l (j : Int) = x := by simp [rd_T29, List.getD_eq_getElem?_getD, hx]
        have HX := Aside0.mk hx
        have HWX := Aside0.mk (HWF.out x (List.mem_of_getElem? hx))
        obtain ⟨ad, rfl, d0, d1, d2⟩ := at_T29 (below_C HC.out HS.out.below) (j : Int) hj0 hjn2
        rw [hrx, Int.toNat_natCast] at d0 d1 d2
        have HCEL := Aside0.mk (show ∀ W', Below w.heap.size w W' → W'.cell? (ad.add (j * 3)) = some (.string x.f0) ∧ W'.cell? ⟨(ad.add (j * 3)).block, (ad.add (j * 3)).off + 1, none⟩ = some (.int .i64 x.f1.f0) ∧ W'.cell? ⟨(ad.add (j * 3)).block, (ad.add (j * 3)).off + 2, none⟩ = some (.int .i64 x.f1.f1) from fun W' hb => by
          obtain ⟨ad', e, g0, g1, g2⟩ := at_T29 (below_C HC.out hb) (j : Int) hj0 hjn2
          cases e
          rw [hrx, Int.toNat_natCast] at g0 g1 g2
          exact ⟨g0, g1, g2⟩)
        clear hrx hx
        by_cases hsz : 500 < x.f0.size
        · have hs2 : decide ((500 : Int) < (x.f0.size : Int)) = true := by simp; omega
          go_wp2
          first | (rw [← HR.out]) | (go_ret; rw [← HR.out])
          exact ⟨rfl, HS.out.below⟩
        · have hs2 : decide ((500 : Int) < (x.f0.size : Int)) = false := by simp; omega
          go_wp2
          clear d0 d1 d2
          obtain ⟨T, U, hT, hU, h1, h2, h3, h4, h5, hs⟩ := HS.out
          have HT := Aside0.mk hT
          have HU := Aside0.mk hU
          have H1 := Aside0.mk h1
          have H2 := Aside0.mk h2
          have H3 := Aside0.mk h3
          have HS1 := Aside0.mk (hs.below (⟨rfl, rfl, rfl, Nat.le_refl _, fun _ _ => rfl⟩ : Below wr.heap.size wr wr.drew))
          clear hT hU h1 h2 h3 hs
          refine start_ (n := 13) (S := fun w' => w'.cell? (ad.add (j * 3)) = some (.string x.f0) ∧ w'.cell? ⟨(ad.add (j * 3)).block, (ad.add (j * 3)).off + 1, none⟩ = some (.int .i64 x.f1.f0) ∧ w'.cell? ⟨(ad.add (j * 3)).block, (ad.add (j * 3)).off + 2, none⟩ = some (.int .i64 x.f1.f1) ∧ MapF w' mb j (found (entS T))) (ds := []) #[false, false, false, false, false, false, false, false, false, false, false, false, false] (by kernel_rfl) rfl rfl (show _ from by obtain ⟨g0, g1, g2⟩ := HCEL.out _ (keep_below HS1.out.keep); exact ⟨g0, g1, g2, (HS1.out.rest.get 0 rfl : MapF _ mb j (found (entS T)))⟩) (fun hHeld => ?_)
          refine pure_ (i := 0) (N := (some 42)) (v := ?_) (a' := ?_) #[true, false, false, false, false, false, false, false, false, false, false, false, false] rfl rfl (by kernel_rfl) (fun _ _ _ h => h) (Or.inl ⟨by rfl, ?_⟩) ?_ ?_
          rotate_left
          · intro w'
            go_simp
            with_reducible rfl
          rotate_left
          · simp only [Act.put, List.setIfInBounds_toArray, List.set_cons_zero, List.set_cons_succ, i64_w, i32_w]
            rfl
          refine pure_ (i := 1) (N := (some 43)) (v := ?_) (a' := ?_) #[true, true, false, false, false, false, false, false, false, false, false, false, false] rfl rfl (by kernel_rfl) (fun _ _ _ h => h) (Or.inl ⟨by rfl, ?_⟩) ?_ ?_
          rotate_left
          · intro w'
            go_simp
            with_reducible rfl
          rotate_left
          · simp only [Act.put, List.setIfInBounds_toArray, List.set_cons_zero, List.set_cons_succ, i64_w, i32_w]
            rfl
          refine pure_ (i := 2) (N := (some 44)) (v := ?_) (a' := ?_) #[true, true, true, false, false, false, false, false, false, false, false, false, false] rfl rfl (by kernel_rfl) (fun _ _ _ h => h) (Or.inl ⟨by rfl, ?_⟩) ?_ ?_
          rotate_left
          · intro w'
            go_simp
            with_reducible rfl
          rotate_left
          · simp only [Act.put, List.setIfInBounds_toArray, List.set_cons_zero, List.set_cons_succ, i64_w, i32_w]
            rfl
          refine pure_ (i := 3) (N := (some 45)) (v := ?_) (a' := ?_) #[true, true, true, true, false, false, false, false, false, false, false, false, false] rfl rfl (by kernel_rfl) (fun _ _ _ h => h) (Or.inl ⟨by rfl, ?_⟩) ?_ ?_
          rotate_left
          · intro w'
            go_simp
            with_reducible rfl
          rotate_left
          · simp only [Act.put, List.setIfInBounds_toArray, List.set_cons_zero, List.set_cons_succ, i64_w, i32_w]
            rfl
          refine pure_ (i := 6) (N := (some 48)) (v := ?_) (a' := ?_) #[true, true, true, true, false, false, true, false, false, false, false, false, false] rfl rfl (by kernel_rfl) (fun _ _ _ h => h) (Or.inl ⟨by rfl, ?_⟩) ?_ ?_
          rotate_left
          · intro w'
            go_simp
            with_reducible rfl
          rotate_left
          · simp only [Act.put, List.setIfInBounds_toArray, List.set_cons_zero, List.set_cons_succ, i64_w, i32_w]
            rfl
          refine pure_ (i := 7) (N := (some 49)) (v := ?_) (a' := ?_) #[true, true, true, true, false, false, true, true, false, false, false, false, false] rfl rfl (by kernel_rfl) (fun _ _ _ h => h) (Or.inl ⟨by rfl, ?_⟩) ?_ ?_
          rotate_left
          · intro w'
            go_simp
            with_reducible rfl
          rotate_left
          · simp only [Act.put, List.setIfInBounds_toArray, List.set_cons_zero, List.set_cons_succ, i64_w, i32_w]
            rfl
          refine pure_ (i := 8) (N := (some 50)) (v := ?_) (a' := ?_) #[true, true, true, true, false, false, true, true, true, false, false, false, false] rfl rfl (by kernel_rfl) (fun _ _ _ h => h) (Or.inl ⟨by rfl, ?_⟩) ?_ ?_
          rotate_left
          · intro w'
            go_simp
            with_reducible rfl
          rotate_left
          · simp only [Act.put, List.setIfInBounds_toArray, List.set_cons_zero, List.set_cons_succ, i64_w, i32_w]
            rfl
          refine pure_ (i := 9) (N := (some 51)) (v := ?_) (a' := ?_) #[true, true, true, true, false, false, true, true, true, true, false, false, false] rfl rfl (by kernel_rfl) (fun _ _ _ h => h) (Or.inl ⟨by rfl, ?_⟩) ?_ ?_
          rotate_left
          · intro w'
            go_simp
            with_reducible rfl
          rotate_left
          · simp only [Act.put, List.setIfInBounds_toArray, List.set_cons_zero, List.set_cons_succ, i64_w, i32_w]
            rfl
          refine take_ (i := 4) (N := (some 46)) (v := ?_) (a' := ?_) #[true, true, true, true, true, false, true, true, true, true, false, false, false] rfl rfl (by kernel_rfl) (fun _ _ _ h => h) (Or.inl ⟨by rfl, ?_⟩) hHeld ?_ ?_
          rotate_left
          · rintro w' ⟨s0, s1, s2, s3⟩
            go_simp
            with_reducible rfl
          rotate_left
          · simp only [Act.put, List.setIfInBounds_toArray, List.set_cons_zero, List.set_cons_succ, i64_w, i32_w]
            rfl
          refine take_ (i := 10) (N := (some 52)) (v := ?_) (a' := ?_) #[true, true, true, true, true, false, true, true, true, true, true, false, false] rfl rfl (by kernel_rfl) (fun _ _ _ h => h) (Or.inl ⟨by rfl, ?_⟩) hHeld ?_ ?_
          rotate_left
          · rintro w' ⟨s0, s1, s2, s3⟩
            go_simp
            with_reducible rfl
          rotate_left
          · simp only [Act.put, List.setIfInBounds_toArray, List.set_cons_zero, List.set_cons_succ, i64_w, i32_w]
            rfl
          refine take_ (i := 11) (N := (some 53)) (v := ?_) (a' := ?_) #[true, true, true, true, true, false, true, true, true, true, true, true, false] rfl rfl (by kernel_rfl) (fun _ _ _ h => h) (Or.inl ⟨by rfl, ?_⟩) hHeld ?_ ?_
          rotate_left
          · rintro w' ⟨s0, s1, s2, s3⟩
            have hlk := s3.lookup HWX.out
            unfold entryV at hlk
            go_simp
            with_reducible rfl
          rotate_left
          · simp only [Act.put, List.setIfInBounds_toArray, List.set_cons_zero, List.set_cons_succ, i64_w, i32_w]
            rfl
          refine one_ (i := 5) (N := (some 47)) #[true, true, true, true, true, true, true, true, true, true, true, true, false] rfl rfl (by kernel_rfl) (by decide) (fun K_ hK => ?_)
          refine goes_ Try.func11 (by kernel_rfl) rfl #[.pointer (some ⟨tp, 0, none⟩), entryV x] (by rfl) rfl rfl (by (try simp only [List.map_toArray, List.map_cons, List.map_nil]); first | done | rfl) ?_
          refine (tt_insert _ w NoF tp up T U _ _ x HS1.out HT.out (by omega)).mono ?_
          rintro E w5 ⟨rfl, hs5⟩
          have HS5 := Aside0.mk hs5
          clear hs5
          refine ⟨_, rfl, ?_⟩
          clear hHeld
          refine hK.out _ _ ((show _ from by obtain ⟨g0, g1, g2⟩ := HCEL.out _ (keep_below HS5.out.keep); exact ⟨g0, g1, g2, (HS5.out.rest.get 0 rfl : MapF _ mb j (found (entS T)))⟩)) (fun hHeld => ?_)
          clear hK K_
          refine norm_ (a' := ?_) ?_ ?_
          rotate_left
          · show Act.put _ (some 47) _ = _
            simp only [Act.put, List.setIfInBounds_toArray, List.set_cons_zero, List.set_cons_succ, i64_w, i32_w]
            rfl
          refine pure_ (i := 12) (N := (some 54)) (v := ?_) (a' := ?_) #[true, true, true, true, true, true, true, true, true, true, true, true, true] rfl rfl (by kernel_rfl) (fun _ _ _ h => h) (Or.inl ⟨by rfl, ?_⟩) ?_ ?_
          rotate_left
          · intro w'
            go_simp
            with_reducible rfl
          rotate_left
          · simp only [Act.put, List.setIfInBounds_toArray, List.set_cons_zero, List.set_cons_succ, i64_w, i32_w]
            rfl
          refine done_ (by kernel_rfl) ?_
          obtain ⟨d0, d1, d2, -⟩ := hHeld
          obtain ⟨w6, hrun, hF6, hg6⟩ := (HS5.out.rest.get 0 rfl : MapF w5 mb j (found (entS T))).update (f' := found (entS (tinsS T x).1)) (by unfold maxLen; omega) HWX.out true (found_ins x HT.out).1 (found_ins x HT.out).2
          have HS6 := Aside0.mk (HS5.out.turn (c' := mapC mb (j + 1) (found (entS (tinsS T x).1))) (keep_map hg6) hF6 (nd_one mb) (fun b hb => .inl hb))
          have HT6 := Aside0.mk (tins_ent x HT.out)
          unfold entryV at hrun
          have hjj : (n : Int) - 1 - (j : Int) = ((n - 1 - j : Nat) : Int) := by omega
          obtain ⟨j', hj'⟩ : ∃ j', n - 1 - j = j' := ⟨_, rfl⟩
          rw [hj'] at hjj
          have hjn' : (j' : Int) < (n : Int) := by omega
          have hj0' : (0 : Int) ≤ (j' : Int) := by omega
          obtain ⟨y, hy⟩ : ∃ y, l[j']? = some y := ⟨_, List.getElem?_eq_getElem (by rw [HN.out]; omega)⟩
          have hry : rd_T29 l (j' : Int) = y := by simp [rd_T29, List.getD_eq_getElem?_getD, hy]
          have HY := Aside0.mk hy
          obtain ⟨ad', e, e0, e1, e2⟩ := at_T29 (below_C HC.out (keep_below HS6.out.keep)) (j' : Int) hj0' hjn'
          cases e
          rw [hry, Int.toNat_natCast] at e0 e1 e2
          clear hy hry hF6 hg6 hs2
          go_wp2_with (first
            | (at_mapUpdate; refine wp_update rfl _ _ _ 48 rfl _ _ _ rfl rfl rfl hrun ?_; clear hrun d0 d1 d2)
            | (go_at_call 11; refine (tt_insert _ w NoF up tp U (tinsS T x).1 _ _ y HS6.out.swap HU.out (by omega)).mono ?_; clear e0 e1 e2; rintro E w7 ⟨rfl, hs7⟩; have HS7 := Aside0.mk hs7.swap; clear hs7))
          go_roundg gq
          case measure => omega
          case rel =>
            refine ⟨j + 1, by go_num, by omega, Aside0.mk ⟨(tinsS T x).1, (tinsS U y).1, HT6.out.1, (tins_ent y HU.out).1, fun z hz => ?_, fun z => ?_, fun z => ?_, ?_, ?_, HS7.out⟩⟩
            · rcases (ins_mem x z HT.out).1 hz with rfl | hz
              · exact ⟨List.mem_of_getElem? HX.out, by omega⟩
              · exact H1.out z hz
            · rw [ins_mem x z HT.out, H2.out z, List.take_add_one, HX.out]
              simp [or_comm]
            · rw [ins_mem y z HU.out, H3.out z]
              have e1 : l.length - j = j' + 1 := by rw [HN.out]; omega
              have e2 : l.length - (j + 1) = j' := by rw [HN.out]; omega
              obtain ⟨q1, q2⟩ := List.getElem?_eq_some_iff.1 HY.out
              rw [e1, e2, List.drop_eq_getElem_cons q1, q2]
              simp
            · rw [HT6.out.2.1]
              have := sins_le (entS T) x
              omega
            · rw [(tins_ent y HU.out).2.1]
              have := sins_le (entS U) y
              omega
      | zero =>
        obtain rfl : j = n := by omega
        have hCI : CI w l tp up mb j 0 wr := by
          obtain ⟨T, U, hT, hU, h1, h2, h3, h4, h5, hs⟩ := HS.out
          refine ⟨T, U, hT, hU, same_ents hT hU fun z => ?_, h1, h4, hs⟩
          rw [h2, h3, HN.out, Nat.sub_self, List.drop_zero, List.take_of_length_le (by rw [HN.out]; omega)]
        have HS2 := Aside0.mk hCI
        clear HS hCI
        obtain ⟨k, hk⟩ : ∃ k, (if j = 0 then 0 else m) = k := ⟨_, rfl⟩
        have hkm : k ≤ m := by rw [← hk]; split <;> omega
        have hk0 : 0 < k → 0 < j := by rw [← hk]; split <;> omega
        have hkz : k < m → j = 0 := by rw [← hk]; split <;> omega
        clear hk
        go_wp2
        go_loopg [9] k (fun gq v9 wx => ∃ i : Nat, v9 = .int .i64 i ∧ i + gq = k ∧ Aside0 (CI w l tp up mb j i wx))
        case atStart => exact ⟨0, rfl, by omega, HS2⟩
        case round =>
          clear HS2
          obtain ⟨i, rfl, hi, HS⟩ := hrel
          cases gk with
          | succ gq =>
            have him : i < m := by omega
            have him2 : (i : Int) < (m : Int) := by omega
            have hi0 : (0 : Int) ≤ (i : Int) := by omega
            have hj0 : (0 : Int) < (j : Int) := by omega
            obtain ⟨c, hc⟩ : ∃ c, cuts[i]? = some c := ⟨_, List.getElem?_eq_getElem (by rw [HM.out]; exact him)⟩
            obtain ⟨ac, rfl, d0⟩ := at_int (Kd.C_below HD.out HS.out.below) i c hc
            obtain ⟨e, hej, hix⟩ := cut_ix c j (by omega)
            have hej2 : (e : Int) < (j : Int) := by omega
            have he0 : (0 : Int) ≤ (e : Int) := by omega
            obtain ⟨x, hx⟩ : ∃ x, l[e]? = some x := ⟨_, List.getElem?_eq_getElem (by rw [HN.out]; exact hej)⟩
            have hrx : rd_T29 l (e : Int) = x := by simp [rd_T29, List.getD_eq_getElem?_getD, hx]
            have HX := Aside0.mk hx
            have HWX := Aside0.mk (HWF.out x (List.mem_of_getElem? hx))
            obtain ⟨ad, rfl, d1, d2, d3⟩ := at_T29 (below_C HC.out HS.out.below) (e : Int) he0 hej2
            rw [hrx, Int.toNat_natCast] at d1 d2 d3
            clear hrx hx
            obtain ⟨eb, heb⟩ : ∃ b, wr.heap.size = b := ⟨_, rfl⟩
            obtain ⟨wa, hwa⟩ : ∃ wa, wr.alloc (.cells #[.string x.f0, .int .i64 x.f1.f0, .int .i64 x.f1.f1] 29) = wa := ⟨_, rfl⟩
            obtain ⟨T, U, hT, hU, h1, h2, h3, hs⟩ := HS.out
            have HT := Aside0.mk hT
            have HU := Aside0.mk hU
            have H1 := Aside0.mk h1
            have H2 := Aside0.mk h2
            have HSa := Aside0.mk (show TT w NoF wa tp T ((entS T).length : Int) up U ((entS U).length : Int) [blkC eb (boxE x), mapC mb (j + i) (found (entS T))] from
              hwa ▸ hs.fresh ((Below.refl _ _).alloc (Nat.le_refl _) _) (blkC eb (boxE x)) (heb ▸ heap_alloc_new wr _) (nd_one eb) (fun b hb => by simp [blkC] at hb; omega))
            clear hT hU h1 h2 hs
            go_wp2
            clear hwa d0 d1 d2 d3
            have HS1 := Aside0.mk (HSa.out.below (⟨rfl, rfl, rfl, Nat.le_refl _, fun _ _ => rfl⟩ : Below wa.heap.size wa wa.drew))
            clear HSa
            refine start_ (n := 16) (S := fun w' => w'.cell? ⟨eb, 0, none⟩ = some (.string x.f0) ∧ w'.cell? ⟨eb, 1, none⟩ = some (.int .i64 x.f1.f0) ∧ w'.cell? ⟨eb, 2, none⟩ = some (.int .i64 x.f1.f1) ∧ MapF w' mb (j + i) (found (entS T))) (ds := []) #[false, false, false, false, false, false, false, false, false, false, false, false, false, false, false, false] (by kernel_rfl) rfl rfl ⟨(blk_cell (HS1.out.rest.blk 0 rfl) 0).trans rfl, (blk_cell (HS1.out.rest.blk 0 rfl) 1).trans rfl, (blk_cell (HS1.out.rest.blk 0 rfl) 2).trans rfl, (HS1.out.rest.get 1 rfl : MapF _ mb (j + i) (found (entS T)))⟩ (fun hHeld => ?_)
            refine pure_ (i := 0) (N := (some 92)) (v := ?_) (a' := ?_) #[true, false, false, false, false, false, false, false, false, false, false, false, false, false, false, false] rfl rfl (by kernel_rfl) (fun _ _ _ h => h) (Or.inl ⟨by rfl, ?_⟩) ?_ ?_
            rotate_left
            · intro w'
              go_simp
              with_reducible rfl
            rotate_left
            · simp only [Act.put, List.setIfInBounds_toArray, List.set_cons_zero, List.set_cons_succ, i64_w, i32_w]
              rfl
            refine pure_ (i := 3) (N := (some 95)) (v := ?_) (a' := ?_) #[true, false, false, true, false, false, false, false, false, false, false, false, false, false, false, false] rfl rfl (by kernel_rfl) (fun _ _ _ h => h) (Or.inl ⟨by rfl, ?_⟩) ?_ ?_
            rotate_left
            · intro w'
              go_simp
              with_reducible rfl
            rotate_left
            · simp only [Act.put, List.setIfInBounds_toArray, List.set_cons_zero, List.set_cons_succ, i64_w, i32_w]
              rfl
            refine take_ (i := 1) (N := (some 93)) (v := ?_) (a' := ?_) #[true, true, false, true, false, false, false, false, false, false, false, false, false, false, false, false] rfl rfl (by kernel_rfl) (fun _ _ _ h => h) (Or.inl ⟨by rfl, ?_⟩) hHeld ?_ ?_
            rotate_left
            · rintro w' ⟨s0, s1, s2, s3⟩
              go_simp
              with_reducible rfl
            rotate_left
            · simp only [Act.put, List.setIfInBounds_toArray, List.set_cons_zero, List.set_cons_succ, i64_w, i32_w]
              rfl
            refine take_ (i := 4) (N := (some 96)) (v := ?_) (a' := ?_) #[true, true, false, true, true, false, false, false, false, false, false, false, false, false, false, false] rfl rfl (by kernel_rfl) (fun _ _ _ h => h) (Or.inl ⟨by rfl, ?_⟩) hHeld ?_ ?_
            rotate_left
            · rintro w' ⟨s0, s1, s2, s3⟩
              go_simp
              with_reducible rfl
            rotate_left
            · simp only [Act.put, List.setIfInBounds_toArray, List.set_cons_zero, List.set_cons_succ, i64_w, i32_w]
              rfl
            refine take_ (i := 5) (N := (some 97)) (v := ?_) (a' := ?_) #[true, true, false, true, true, true, false, false, false, false, false, false, false, false, false, false] rfl rfl (by kernel_rfl) (fun _ _ _ h => h) (Or.inl ⟨by rfl, ?_⟩) hHeld ?_ ?_
            rotate_left
            · rintro w' ⟨s0, s1, s2, s3⟩
              have hlk := s3.lookup HWX.out
              unfold entryV at hlk
              go_simp
              with_reducible rfl
            rotate_left
            · simp only [Act.put, List.setIfInBounds_toArray, List.set_cons_zero, List.set_cons_succ, i64_w, i32_w]
              rfl
            refine one_ (i := 2) (N := (some 94)) #[true, true, true, true, true, true, false, false, false, false, false, false, false, false, false, false] rfl rfl (by kernel_rfl) (by decide) (fun K_ hK => ?_)
            refine goes_ Try.func15 (by kernel_rfl) rfl #[.pointer (some ⟨tp, 0, none⟩), entryV x] (by rfl) rfl rfl (by (try simp only [List.map_toArray, List.map_cons, List.map_nil]); first | done | rfl) ?_
            refine (tt_delete _ w NoF tp up T U _ _ x HS1.out HT.out (by omega)).mono ?_
            rintro E w5 ⟨rfl, hs5⟩
            have HS5 := Aside0.mk hs5
            clear hs5
            refine ⟨_, rfl, ?_⟩
            clear hHeld
            refine hK.out _ _ (⟨(blk_cell (HS5.out.rest.blk 0 rfl) 0).trans rfl, (blk_cell (HS5.out.rest.blk 0 rfl) 1).trans rfl, (blk_cell (HS5.out.rest.blk 0 rfl) 2).trans rfl, (HS5.out.rest.get 1 rfl : MapF _ mb (j + i) (found (entS T)))⟩) (fun hHeld => ?_)
            clear hK K_
            refine norm_ (a' := ?_) ?_ ?_
            rotate_left
            · show Act.put _ (some 94) _ = _
              simp only [Act.put, List.setIfInBounds_toArray, List.set_cons_zero, List.set_cons_succ, i64_w, i32_w]
              rfl
            refine pure_ (i := 6) (N := (some 98)) (v := ?_) (a' := ?_) #[true, true, true, true, true, true, true, false, false, false, false, false, false, false, false, false] rfl rfl (by kernel_rfl) (fun _ _ _ h => h) (Or.inl ⟨by rfl, ?_⟩) ?_ ?_
            rotate_left
            · intro w'
              go_simp
              with_reducible rfl
            rotate_left
            · simp only [Act.put, List.setIfInBounds_toArray, List.set_cons_zero, List.set_cons_succ, i64_w, i32_w]
              rfl
            refine pure_ (i := 7) (N := (some 99)) (v := ?_) (a' := ?_) #[true, true, true, true, true, true, true, true, false, false, false, false, false, false, false, false] rfl rfl (by kernel_rfl) (fun _ _ _ h => h) (Or.inl ⟨by rfl, ?_⟩) ?_ ?_
            rotate_left
            · intro w'
              go_simp
              with_reducible rfl
            rotate_left
            · simp only [Act.put, List.setIfInBounds_toArray, List.set_cons_zero, List.set_cons_succ, i64_w, i32_w]
              rfl
            refine pure_ (i := 8) (N := (some 100)) (v := ?_) (a' := ?_) #[true, true, true, true, true, true, true, true, true, false, false, false, false, false, false, false] rfl rfl (by kernel_rfl) (fun _ _ _ h => h) (Or.inl ⟨by rfl, ?_⟩) ?_ ?_
            rotate_left
            · intro w'
              go_simp
              with_reducible rfl
            rotate_left
            · simp only [Act.put, List.setIfInBounds_toArray, List.set_cons_zero, List.set_cons_succ, i64_w, i32_w]
              rfl
            refine pure_ (i := 11) (N := (some 103)) (v := ?_) (a' := ?_) #[true, true, true, true, true, true, true, true, true, false, false, true, false, false, false, false] rfl rfl (by kernel_rfl) (fun _ _ _ h => h) (Or.inl ⟨by rfl, ?_⟩) ?_ ?_
            rotate_left
            · intro w'
              go_simp
              with_reducible rfl
            rotate_left
            · simp only [Act.put, List.setIfInBounds_toArray, List.set_cons_zero, List.set_cons_succ, i64_w, i32_w]
              rfl
            refine take_ (i := 9) (N := (some 101)) (v := ?_) (a' := ?_) #[true, true, true, true, true, true, true, true, true, true, false, true, false, false, false, false] rfl rfl (by kernel_rfl) (fun _ _ _ h => h) (Or.inl ⟨by rfl, ?_⟩) hHeld ?_ ?_
            rotate_left
            · rintro w' ⟨s0, s1, s2, s3⟩
              go_simp
              with_reducible rfl
            rotate_left
            · simp only [Act.put, List.setIfInBounds_toArray, List.set_cons_zero, List.set_cons_succ, i64_w, i32_w]
              rfl
            refine take_ (i := 12) (N := (some 104)) (v := ?_) (a' := ?_) #[true, true, true, true, true, true, true, true, true, true, false, true, true, false, false, false] rfl rfl (by kernel_rfl) (fun _ _ _ h => h) (Or.inl ⟨by rfl, ?_⟩) hHeld ?_ ?_
            rotate_left
            · rintro w' ⟨s0, s1, s2, s3⟩
              go_simp
              with_reducible rfl
            rotate_left
            · simp only [Act.put, List.setIfInBounds_toArray, List.set_cons_zero, List.set_cons_succ, i64_w, i32_w]
              rfl
            refine take_ (i := 13) (N := (some 105)) (v := ?_) (a' := ?_) #[true, true, true, true, true, true, true, true, true, true, false, true, true, true, false, false] rfl rfl (by kernel_rfl) (fun _ _ _ h => h) (Or.inl ⟨by rfl, ?_⟩) hHeld ?_ ?_
            rotate_left
            · rintro w' ⟨s0, s1, s2, s3⟩
              have hlk := s3.lookup HWX.out
              unfold entryV at hlk
              go_simp
              with_reducible rfl
            rotate_left
            · simp only [Act.put, List.setIfInBounds_toArray, List.set_cons_zero, List.set_cons_succ, i64_w, i32_w]
              rfl
            refine one_ (i := 10) (N := (some 102)) #[true, true, true, true, true, true, true, true, true, true, true, true, true, true, false, false] rfl rfl (by kernel_rfl) (by decide) (fun K_ hK => ?_)
            refine goes_ Try.func15 (by kernel_rfl) rfl #[.pointer (some ⟨up, 0, none⟩), entryV x] (by rfl) rfl rfl (by (try simp only [List.map_toArray, List.map_cons, List.map_nil]); first | done | rfl) ?_
            refine (tt_delete _ w NoF up tp U (tcutS T x).1 _ _ x HS5.out.swap HU.out (by rw [H1.out]; omega)).mono ?_
            rw [show found (entS U) x = found (entS T) x by rw [H1.out]]
            rintro E w6 ⟨rfl, hs6⟩
            have HS6 := Aside0.mk hs6.swap
            clear hs6
            refine ⟨_, rfl, ?_⟩
            clear hHeld
            refine hK.out _ _ (⟨(blk_cell (HS6.out.rest.blk 0 rfl) 0).trans rfl, (blk_cell (HS6.out.rest.blk 0 rfl) 1).trans rfl, (blk_cell (HS6.out.rest.blk 0 rfl) 2).trans rfl, (HS6.out.rest.get 1 rfl : MapF _ mb (j + i) (found (entS T)))⟩) (fun hHeld => ?_)
            clear hK K_
            refine norm_ (a' := ?_) ?_ ?_
            rotate_left
            · show Act.put _ (some 102) _ = _
              simp only [Act.put, List.setIfInBounds_toArray, List.set_cons_zero, List.set_cons_succ, i64_w, i32_w]
              rfl
            refine pure_ (i := 14) (N := (some 106)) (v := ?_) (a' := ?_) #[true, true, true, true, true, true, true, true, true, true, true, true, true, true, true, false] rfl rfl (by kernel_rfl) (fun _ _ _ h => h) (Or.inl ⟨by rfl, ?_⟩) ?_ ?_
            rotate_left
            · intro w'
              go_simp
              with_reducible rfl
            rotate_left
            · simp only [Act.put, List.setIfInBounds_toArray, List.set_cons_zero, List.set_cons_succ, i64_w, i32_w]
              rfl
            refine pure_ (i := 15) (N := (some 107)) (v := ?_) (a' := ?_) #[true, true, true, true, true, true, true, true, true, true, true, true, true, true, true, true] rfl rfl (by kernel_rfl) (fun _ _ _ h => h) (Or.inl ⟨by rfl, ?_⟩) ?_ ?_
            rotate_left
            · intro w'
              go_simp
              with_reducible rfl
            rotate_left
            · simp only [Act.put, List.setIfInBounds_toArray, List.set_cons_zero, List.set_cons_succ, i64_w, i32_w]
              rfl
            refine done_ (by kernel_rfl) ?_
            obtain ⟨d0, d1, d2, -⟩ := hHeld
            obtain ⟨w7, hrun, hF7, hg7⟩ := (HS6.out.rest.get 1 rfl : MapF w6 mb (j + i) (found (entS T))).update (f' := found (entS (tcutS T x).1)) (by unfold maxLen; omega) HWX.out false (found_cut x HT.out).1 (found_cut x HT.out).2
            have HS7 := Aside0.mk ((TT.drop (A := [blkC eb (boxE x)]) HS6.out).turn (c' := mapC mb (j + (i + 1)) (found (entS (tcutS T x).1))) (keep_map hg7) hF7 (nd_one mb) (fun b hb => .inl hb))
            have HT7 := Aside0.mk (tcut_ent x HT.out)
            unfold entryV at hrun
            clear hF7 hg7
            go_wp2_with (at_mapUpdate; refine wp_update rfl _ _ _ 48 rfl _ _ _ rfl rfl rfl hrun ?_; clear hrun d0 d1 d2)
            go_roundg gq
            case measure => omega
            case rel =>
              refine ⟨i + 1, by go_num, by omega, Aside0.mk ⟨(tcutS T x).1, (tcutS U x).1, HT7.out.1, (tcut_ent x HU.out).1, ?_, fun z hz => ?_, ?_, HS7.out⟩⟩
              · rw [(tcut_ent x HU.out).2.1, HT7.out.2.1, H1.out]
              · exact H2.out z ((cut_mem x z HT.out).1 hz).2
              · rw [HT7.out.2.1]
                have := sdel_le (entS T) x
                omega
          | zero =>
            obtain rfl : i = k := by omega
            obtain ⟨T, U, hT, hU, h1, h2, h3, hs⟩ := HS.out
            obtain ⟨w2, cnt, hrun, hR, hg, hz⟩ := (hs.rest.get 0 rfl : MapF wr mb (j + i) (found (entS T))).range
            obtain ⟨r, hr⟩ : ∃ r, wr.heap.size = r := ⟨_, rfl⟩
            have hs2 := hs.turn (c' := iterC mb wr.heap.size (j + i) (found (entS T)) [] cnt) (keep_in (b := mb) (by simp [mapC]) (hg.but _)) hR (nd_pair hR.lt.2.2) (fun b hb => by simp [iterC] at hb; rcases hb with rfl | rfl <;> simp [mapC])
            rw [hr] at hrun hs2
            have HT := Aside0.mk hT
            have HU := Aside0.mk hU
            have H1 := Aside0.mk h1
            have H2 := Aside0.mk h2
            have HS2 := Aside0.mk hs2
            clear hT hU h1 h2 hs hR hg hz hs2 HS
            rcases Nat.lt_or_ge i m with him | him
            · obtain rfl : j = 0 := hkz him
              have him2 : (i : Int) < (m : Int) := by omega
              clear hk0 hkz
              go_wp2
              clear hrun
              go_loopg [11] cnt (fun gq v11 wx => ∃ vs : List S29, v11 = .int .i64 ((vs.filter (found (entS T))).length : Int) ∧ Aside0 (TT w NoF wx tp T ((entS T).length : Int) up U ((entS U).length : Int) [iterC mb r (0 + i) (found (entS T)) vs gq]))
              case atStart => exact ⟨[], rfl, HS2⟩
              case round =>
                clear HS2
                obtain ⟨vs, rfl, HS⟩ := hrel
                have hle := filter_le HT.out (HS.out.rest.get 0 rfl : RangeF wr mb r (0 + i) (found (entS T)) vs gk).nodup
                obtain ⟨q, hq⟩ : ∃ q, (vs.filter (found (entS T))).length = q := ⟨_, rfl⟩
                have HQ := Aside0.mk hq
                rw [hq] at hle
                rw [hq]
                have hq3 : (q : Int) ≤ 1000 := by omega
                have hq0 : (0 : Int) ≤ (q : Int) := by omega
                clear hq
                rcases (HS.out.rest.get 0 rfl : RangeF wr mb r (0 + i) (found (entS T)) vs gk).next with ⟨hdone, hrun⟩ | ⟨x, w2, cnt', hx, hxv, hrun, hR, hlt, hg, hsz, hen⟩
                · have HVN := Aside0.mk (HS.out.rest.get 0 rfl : RangeF wr mb r (0 + i) (found (entS T)) vs gk).nodup
                  have HFR := Aside0.mk (show ∀ z ∈ entS T, Far z from fun z hz => far_of (HWF.out z (H2.out z hz).1))
                  have HSZ := Aside0.mk (show ∀ z ∈ entS T, z.f0.size < 1000000 from fun z hz => by have := (H2.out z hz).2; omega)
                  have HSO := Aside0.mk (entS_sorted HT.out)
                  have HFRU := Aside0.mk (show ∀ z ∈ entS U, Far z from by rw [H1.out]; exact HFR.out)
                  have hqm : q = (entS T).length := by
                    rw [← HQ.out]
                    exact filter_whole2 HT.out HVN.out fun z hz => hdone z (HWF.out z (H2.out z hz).1) ((found_iff HT.out z).2 hz)
                  have HLL := Aside0.mk (show (entS T).length < 90000 ∧ (entS U).length < 90000 from by rw [H1.out]; omega)
                  obtain ⟨L, hL⟩ : ∃ L, entS T = L := ⟨_, rfl⟩
                  have HEL := Aside0.mk hL
                  have HEU := Aside0.mk (H1.out.trans hL)
                  rw [hL] at hqm HSZ HSO
                  have HS4 := Aside0.mk (show TT w NoF wr tp T (q : Int) up U ((entS U).length : Int) [] from by have := TT.drop (A := [iterC mb r (0 + i) (found (entS T)) vs gk]) (R := []) HS.out; rw [hL, ← hqm] at this; exact this)
                  have HQL := Aside0.mk hqm
                  clear hdone hqm hL HS HVN HQ
                  go_wp2_with (go_at_call 18; refine (tt_all _ w NoF tp up T U _ _ _ HS4.out HT.out HFR.out HLL.out.1).mono ?_; rw [HEL.out]; rintro E w3 ⟨va, rfl, hs5⟩; obtain ⟨AL, cL, rfl, hcL, hCL⟩ := rowE_C (hs5.rest.rowE 0 rfl) (by rw [← HQL.out]; omega); rw [← HQL.out] at hs5; have HS5 := Aside0.mk hs5; rw [← HQL.out]; clear hs5 hCL hcL hrun)
                  obtain ⟨K, hK⟩ : ∃ K, q - 1 = K := ⟨_, rfl⟩
                  have HROW := Aside0.mk (show ∀ W' : World, RowE W' (.slice AL q cL) L → ∀ i0 : Nat, i0 < q → ∃ ad z, AL = some ad ∧ L[i0]? = some z ∧ W'.cell? (ad.add (i0 * 3)) = some (.string z.f0) ∧ W'.cell? ⟨(ad.add (i0 * 3)).block, (ad.add (i0 * 3)).off + 1, none⟩ = some (.int .i64 z.f1.f0) ∧ W'.cell? ⟨(ad.add (i0 * 3)).block, (ad.add (i0 * 3)).off + 2, none⟩ = some (.int .i64 z.f1.f1) from fun W' hr i0 hi0 => by
                    obtain ⟨AL', cL', eL, hcL, hCL⟩ := rowE_C hr (by rw [← HQL.out]; omega)
                    rw [← HQL.out] at eL hcL hCL
                    obtain ⟨rfl, rfl⟩ : AL = AL' ∧ cL = cL' := by
                      injection eL with e1 e2 e3
                      exact ⟨e1, e3⟩
                    obtain ⟨z, hz⟩ : ∃ z, L[i0]? = some z := ⟨_, List.getElem?_eq_getElem (by rw [← HQL.out]; exact hi0)⟩
                    have hrz : rd_T29 L (i0 : Int) = z := by simp [rd_T29, List.getD_eq_getElem?_getD, hz]
                    obtain ⟨ad, rfl, d0, d1, d2⟩ := at_T29 hCL (i0 : Int) (by omega) (by omega)
                    rw [hrz, Int.toNat_natCast] at d0 d1 d2
                    exact ⟨ad, z, rfl, hz, d0, d1, d2⟩)
                  go_loopg [15] K (fun gq v15 wx => ∃ i : Nat, v15 = .int .i64 i ∧ i + gq = 1 + K ∧ 1 ≤ i ∧ Aside0 (TT w NoF wx tp T (q : Int) up U ((entS U).length : Int) [rowEC (.slice AL q cL) L]))
                  case atStart => exact ⟨1, rfl, by omega, Nat.le_refl _, HS5⟩
                  case round =>
                    clear HS5 HS4
                    obtain ⟨i1, rfl, hi1, hi2, HS⟩ := hrel
                    cases gk with
                    | succ gq2 =>
                      obtain ⟨i0, rfl⟩ : ∃ i0, i1 = i0 + 1 := ⟨i1 - 1, by omega⟩
                      have hiq0 : i0 < q := by omega
                      have hiq1 : i0 + 1 < q := by omega
                      have him1 : ((i0 + 1 : Nat) : Int) - 1 = (i0 : Int) := by omega
                      have hb0 : (0 : Int) ≤ (i0 : Int) := by omega
                      have hb1 : (i0 : Int) < (q : Int) := by omega
                      have hb2 : (0 : Int) ≤ ((i0 + 1 : Nat) : Int) := by omega
                      have hb3 : ((i0 + 1 : Nat) : Int) < (q : Int) := by omega
                      have hb4 : (0 : Int) ≤ (i0 : Int) + 1 := by omega
                      have hb5 : (i0 : Int) + 1 < (q : Int) := by omega
                      have hw0 : wrap64 (i0 : Int) = (i0 : Int) := IntWalk.wrap64_in _ (by omega)
                      obtain ⟨ad, za, rfl, hza, -, -, -⟩ := HROW.out wr (HS.out.rest.rowE 0 rfl) i0 hiq0
                      obtain ⟨ad', zb, e, hzb, -, -, -⟩ := HROW.out wr (HS.out.rest.rowE 0 rfl) (i0 + 1) hiq1
                      cases e
                      have HZA := Aside0.mk hza
                      have HZB := Aside0.mk hzb
                      have HCEL := Aside0.mk (show ∀ W' : World, RowE W' (.slice (some ad) q cL) L → W'.cell? (ad.add (i0 * 3)) = some (.string za.f0) ∧ W'.cell? ⟨(ad.add (i0 * 3)).block, (ad.add (i0 * 3)).off + 1, none⟩ = some (.int .i64 za.f1.f0) ∧ W'.cell? ⟨(ad.add (i0 * 3)).block, (ad.add (i0 * 3)).off + 2, none⟩ = some (.int .i64 za.f1.f1) ∧ W'.cell? (ad.add ((i0 + 1) * 3)) = some (.string zb.f0) ∧ W'.cell? ⟨(ad.add ((i0 + 1) * 3)).block, (ad.add ((i0 + 1) * 3)).off + 1, none⟩ = some (.int .i64 zb.f1.f0) ∧ W'.cell? ⟨(ad.add ((i0 + 1) * 3)).block, (ad.add ((i0 + 1) * 3)).off + 2, none⟩ = some (.int .i64 zb.f1.f1) from fun W' hr => by
                        obtain ⟨ad', z, e, h1, h2, h3, h4⟩ := HROW.out W' hr i0 hiq0
                        cases e
                        cases (h1.symm.trans HZA.out)
                        obtain ⟨ad', z, e, k1, k2, k3, k4⟩ := HROW.out W' hr (i0 + 1) hiq1
                        cases e
                        cases (k1.symm.trans HZB.out)
                        exact ⟨h2, h3, h4, k2, k3, k4⟩)
                      obtain ⟨o, ho⟩ : ∃ o, ord za zb = o := ⟨_, rfl⟩
                      have HO := Aside0.mk ho
                      have hlt : o < 0 := by
                        rw [← ho]
                        obtain ⟨p1, p2⟩ := List.getElem?_eq_some_iff.1 hza
                        obtain ⟨p3, p4⟩ := List.getElem?_eq_some_iff.1 hzb
                        have := List.pairwise_iff_getElem.1 HSO.out i0 (i0 + 1) p1 p3 (by omega)
                        rw [p2, p4] at this
                        exact this
                      have hge : decide (0 ≤ o) = false := by simp; omega
                      clear hza hzb ho
                      go_wp2
                      have HS1 := Aside0.mk (HS.out.below (⟨rfl, rfl, rfl, Nat.le_refl _, fun _ _ => rfl⟩ : Below wr.heap.size wr wr.drew))
                      clear HS
                      refine start_ (n := 11) (S := fun w' => w'.cell? (ad.add (i0 * 3)) = some (.string za.f0) ∧ w'.cell? ⟨(ad.add (i0 * 3)).block, (ad.add (i0 * 3)).off + 1, none⟩ = some (.int .i64 za.f1.f0) ∧ w'.cell? ⟨(ad.add (i0 * 3)).block, (ad.add (i0 * 3)).off + 2, none⟩ = some (.int .i64 za.f1.f1) ∧ w'.cell? (ad.add ((i0 + 1) * 3)) = some (.string zb.f0) ∧ w'.cell? ⟨(ad.add ((i0 + 1) * 3)).block, (ad.add ((i0 + 1) * 3)).off + 1, none⟩ = some (.int .i64 zb.f1.f0) ∧ w'.cell? ⟨(ad.add ((i0 + 1) * 3)).block, (ad.add ((i0 + 1) * 3)).off + 2, none⟩ = some (.int .i64 zb.f1.f1)) (ds := []) #[false, false, false, false, false, false, false, false, false, false, false] (by kernel_rfl) rfl rfl (HCEL.out _ (HS1.out.rest.rowE 0 rfl)) (fun hHeld => ?_)
                      refine pure_ (i := 0) (N := (some 133)) (v := ?_) (a' := ?_) #[true, false, false, false, false, false, false, false, false, false, false] rfl rfl (by kernel_rfl) (fun _ _ _ h => h) (Or.inl ⟨by rfl, ?_⟩) ?_ ?_
                      rotate_left
                      · intro w'
                        go_simp
                        with_reducible rfl
                      rotate_left
                      · simp only [Act.put, List.setIfInBounds_toArray, List.set_cons_zero, List.set_cons_succ, i64_w, i32_w]
                        rfl
                      refine pure_ (i := 1) (N := (some 134)) (v := ?_) (a' := ?_) #[true, true, false, false, false, false, false, false, false, false, false] rfl rfl (by kernel_rfl) (fun _ _ _ h => h) (Or.inl ⟨by rfl, ?_⟩) ?_ ?_
                      rotate_left
                      · intro w'
                        go_simp
                        with_reducible rfl
                      rotate_left
                      · simp only [Act.put, List.setIfInBounds_toArray, List.set_cons_zero, List.set_cons_succ, i64_w, i32_w]
                        rfl
                      refine pure_ (i := 2) (N := (some 135)) (v := ?_) (a' := ?_) #[true, true, true, false, false, false, false, false, false, false, false] rfl rfl (by kernel_rfl) (fun _ _ _ h => h) (Or.inl ⟨by rfl, ?_⟩) ?_ ?_
                      rotate_left
                      · intro w'
                        go_simp
                        with_reducible rfl
                      rotate_left
                      · simp only [Act.put, List.setIfInBounds_toArray, List.set_cons_zero, List.set_cons_succ, i64_w, i32_w]
                        rfl
                      refine pure_ (i := 3) (N := (some 136)) (v := ?_) (a' := ?_) #[true, true, true, true, false, false, false, false, false, false, false] rfl rfl (by kernel_rfl) (fun _ _ _ h => h) (Or.inl ⟨by rfl, ?_⟩) ?_ ?_
                      rotate_left
                      · intro w'
                        go_simp
                        with_reducible rfl
                      rotate_left
                      · simp only [Act.put, List.setIfInBounds_toArray, List.set_cons_zero, List.set_cons_succ, i64_w, i32_w]
                        rfl
                      refine pure_ (i := 5) (N := (some 138)) (v := ?_) (a' := ?_) #[true, true, true, true, false, true, false, false, false, false, false] rfl rfl (by kernel_rfl) (fun _ _ _ h => h) (Or.inl ⟨by rfl, ?_⟩) ?_ ?_
                      rotate_left
                      · intro w'
                        go_simp
                        with_reducible rfl
                      rotate_left
                      · simp only [Act.put, List.setIfInBounds_toArray, List.set_cons_zero, List.set_cons_succ, i64_w, i32_w]
                        rfl
                      refine pure_ (i := 6) (N := (some 139)) (v := ?_) (a' := ?_) #[true, true, true, true, false, true, true, false, false, false, false] rfl rfl (by kernel_rfl) (fun _ _ _ h => h) (Or.inl ⟨by rfl, ?_⟩) ?_ ?_
                      rotate_left
                      · intro w'
                        go_simp
                        with_reducible rfl
                      rotate_left
                      · simp only [Act.put, List.setIfInBounds_toArray, List.set_cons_zero, List.set_cons_succ, i64_w, i32_w]
                        rfl
                      refine pure_ (i := 7) (N := (some 140)) (v := ?_) (a' := ?_) #[true, true, true, true, false, true, true, true, false, false, false] rfl rfl (by kernel_rfl) (fun _ _ _ h => h) (Or.inl ⟨by rfl, ?_⟩) ?_ ?_
                      rotate_left
                      · intro w'
                        go_simp
                        with_reducible rfl
                      rotate_left
                      · simp only [Act.put, List.setIfInBounds_toArray, List.set_cons_zero, List.set_cons_succ, i64_w, i32_w]
                        rfl
                      refine take_ (i := 4) (N := (some 137)) (v := ?_) (a' := ?_) #[true, true, true, true, true, true, true, true, false, false, false] rfl rfl (by kernel_rfl) (fun _ _ _ h => h) (Or.inl ⟨by rfl, ?_⟩) hHeld ?_ ?_
                      rotate_left
                      · rintro w' ⟨s0, s1, s2, s3, s4, s5⟩
                        go_simp
                        with_reducible rfl
                      rotate_left
                      · simp only [Act.put, List.setIfInBounds_toArray, List.set_cons_zero, List.set_cons_succ, i64_w, i32_w]
                        rfl
                      refine take_ (i := 8) (N := (some 141)) (v := ?_) (a' := ?_) #[true, true, true, true, true, true, true, true, true, false, false] rfl rfl (by kernel_rfl) (fun _ _ _ h => h) (Or.inl ⟨by rfl, ?_⟩) hHeld ?_ ?_
                      rotate_left
                      · rintro w' ⟨s0, s1, s2, s3, s4, s5⟩
                        go_simp
                        with_reducible rfl
                      rotate_left
                      · simp only [Act.put, List.setIfInBounds_toArray, List.set_cons_zero, List.set_cons_succ, i64_w, i32_w]
                        rfl
                      refine one_ (i := 9) (N := (some 142)) #[true, true, true, true, true, true, true, true, true, true, false] rfl rfl (by kernel_rfl) (by decide) (fun K_ hK => ?_)
                      refine goes_ Try.func21 (by kernel_rfl) rfl #[entryV za, entryV zb] (by rfl) rfl rfl (by (try simp only [List.map_toArray, List.map_cons, List.map_nil]); first | done | rfl) ?_
                      refine (reforder_calls _ za zb (HSZ.out _ (List.mem_of_getElem? HZA.out)) (HSZ.out _ (List.mem_of_getElem? HZB.out))).mono ?_
                      rw [HO.out]
                      rintro E w6 ⟨rfl, hb6⟩
                      have HS6 := Aside0.mk (HS1.out.below hb6)
                      clear hb6
                      refine ⟨_, rfl, ?_⟩
                      clear hHeld
                      refine hK.out _ _ (HCEL.out _ (HS6.out.rest.rowE 0 rfl)) (fun hHeld => ?_)
                      clear hK K_
                      refine norm_ (a' := ?_) ?_ ?_
                      rotate_left
                      · show Act.put _ (some 142) _ = _
                        simp only [Act.put, List.setIfInBounds_toArray, List.set_cons_zero, List.set_cons_succ, i64_w, i32_w]
                        rfl
                      refine pure_ (i := 10) (N := (some 143)) (v := ?_) (a' := ?_) #[true, true, true, true, true, true, true, true, true, true, true] rfl rfl (by kernel_rfl) (fun _ _ _ h => h) (Or.inl ⟨by rfl, ?_⟩) ?_ ?_
                      rotate_left
                      · intro w'
                        go_simp
                        with_reducible rfl
                      rotate_left
                      · simp only [Act.put, List.setIfInBounds_toArray, List.set_cons_zero, List.set_cons_succ, i64_w, i32_w]
                        rfl
                      refine done_ (by kernel_rfl) ?_
                      clear hHeld him1 hb0 hb1 hb2 hb4 hb5 hw0 HCEL HZA HZB HROW HFR HFRU HSZ HSO HO
                      go_wp2
                      go_roundg gq2
                      case measure => omega
                      case rel => exact ⟨i0 + 1 + 1, by go_num, by omega, by omega, HS6⟩
                    | zero =>
                      have hiq : decide ((i1 : Int) < (q : Int)) = false := by simp; omega
                      go_wp2_with (first
                        | (go_at_call 13; refine (tt_count _ w NoF tp up T U _ _ _ HS.out).mono ?_; rintro E w5 ⟨rfl, h5⟩; have HS5 := Aside0.mk (show TT w NoF w5 tp T (q : Int) up U ((entS U).length : Int) [rowEC (.slice AL q cL) L] from h5.symm ▸ HS.out); clear h5 HS)
                        | (go_at_call 18; refine (tt_all _ w NoF up tp U T _ _ _ HS5.out.swap HU.out HFRU.out HLL.out.2).mono ?_; rw [HEU.out]; rintro E w6 ⟨v2, rfl, hs6⟩; have HS6 := Aside0.mk hs6; clear hs6)
                        | (go_at_call 17; refine (same_calls _ _ v2 L (HS6.out.rest.rowE 1 rfl) (HS6.out.rest.rowE 0 rfl) (by rw [← HQL.out]; omega)).mono ?_; rintro E w7 ⟨rfl, hb7⟩; have HB7 := Aside0.mk (keep_below (HS6.out.below hb7).keep); clear hb7))
                      first | (rw [← HR.out]) | (go_ret; rw [← HR.out])
                      exact ⟨rfl, HB7.out⟩
                · have HS2 := Aside0.mk (HS.out.turn (c' := iterC mb r (0 + i) (found (entS T)) (x :: vs) cnt') (keep_in (b := r) (by simp [iterC]) hg) hR (nd_pair hR.lt.2.2) (fun b hb => by simp [iterC] at hb; rcases hb with rfl | rfl <;> simp [iterC]))
                  obtain ⟨eb, heb⟩ : ∃ b, w2.heap.size = b := ⟨_, rfl⟩
                  obtain ⟨wa, hwa⟩ : ∃ wa, w2.alloc (.cells #[.string x.f0, .int .i64 x.f1.f0, .int .i64 x.f1.f1] 29) = wa := ⟨_, rfl⟩
                  have HSa := Aside0.mk (show TT w NoF wa tp T ((entS T).length : Int) up U ((entS U).length : Int) [blkC eb (boxE x), iterC mb r (0 + i) (found (entS T)) (x :: vs) cnt'] from
                    hwa ▸ HS2.out.fresh ((Below.refl _ _).alloc (Nat.le_refl _) _) (blkC eb (boxE x)) (heb ▸ heap_alloc_new w2 _) (nd_one eb) (fun b hb => by simp [blkC] at hb; omega))
                  have g0 : wa.cell? ⟨eb, 0, none⟩ = some (.string x.f0) := (blk_cell (HSa.out.rest.blk 0 rfl) 0).trans rfl
                  have g1 : wa.cell? ⟨eb, 1, none⟩ = some (.int .i64 x.f1.f0) := (blk_cell (HSa.out.rest.blk 0 rfl) 1).trans rfl
                  have g2 : wa.cell? ⟨eb, 2, none⟩ = some (.int .i64 x.f1.f1) := (blk_cell (HSa.out.rest.blk 0 rfl) 2).trans rfl
                  clear HS2 hx hxv hR hg hsz HS
                  obtain ⟨b, hfx⟩ : ∃ b, found (entS T) x = b := ⟨_, rfl⟩
                  rw [hfx] at hrun hen
                  have HFX := Aside0.mk hfx
                  clear hfx
                  cases b
                  · go_wp2_with (go_at_call 20; refine (tt_has _ w NoF tp up T U _ _ _ x HSa.out HT.out).mono ?_; rw [HFX.out]; rintro E w5 ⟨rfl, hs5⟩; have HS5 := Aside0.mk hs5; clear hs5 g0 g1 g2 hwa hrun hen)
                    go_roundg cnt'
                    case measure => omega
                    case rel => exact ⟨x :: vs, by rw [List.filter_cons, HFX.out]; simp [HQ.out], Aside0.mk (TT.drop (A := [blkC eb (boxE x)]) HS5.out)⟩
                  · go_wp2_with (go_at_call 20; refine (tt_has _ w NoF tp up T U _ _ _ x HSa.out HT.out).mono ?_; rw [HFX.out]; rintro E w5 ⟨rfl, hs5⟩; have HS5 := Aside0.mk hs5; clear hs5 g0 g1 g2 hwa hrun hen)
                    go_roundg cnt'
                    case measure => omega
                    case rel => exact ⟨x :: vs, by rw [List.filter_cons, HFX.out]; simp [HQ.out], Aside0.mk (TT.drop (A := [blkC eb (boxE x)]) HS5.out)⟩
            · have him2 : decide ((i : Int) < (m : Int)) = false := by simp; omega
              clear hk0 hkz
              go_wp2
              clear hrun
              go_loopg [11] cnt (fun gq v11 wx => ∃ vs : List S29, v11 = .int .i64 ((vs.filter (found (entS T))).length : Int) ∧ Aside0 (TT w NoF wx tp T ((entS T).length : Int) up U ((entS U).length : Int) [iterC mb r (j + i) (found (entS T)) vs gq]))
              case atStart => exact ⟨[], rfl, HS2⟩
              case round =>
                clear HS2
                obtain ⟨vs, rfl, HS⟩ := hrel
                have hle := filter_le HT.out (HS.out.rest.get 0 rfl : RangeF wr mb r (j + i) (found (entS T)) vs gk).nodup
                obtain ⟨q, hq⟩ : ∃ q, (vs.filter (found (entS T))).length = q := ⟨_, rfl⟩
                have HQ := Aside0.mk hq
                rw [hq] at hle
                rw [hq]
                have hq3 : (q : Int) ≤ 1000 := by omega
                have hq0 : (0 : Int) ≤ (q : Int) := by omega
                clear hq
                rcases (HS.out.rest.get 0 rfl : RangeF wr mb r (j + i) (found (entS T)) vs gk).next with ⟨hdone, hrun⟩ | ⟨x, w2, cnt', hx, hxv, hrun, hR, hlt, hg, hsz, hen⟩
                · have HVN := Aside0.mk (HS.out.rest.get 0 rfl : RangeF wr mb r (j + i) (found (entS T)) vs gk).nodup
                  have HFR := Aside0.mk (show ∀ z ∈ entS T, Far z from fun z hz => far_of (HWF.out z (H2.out z hz).1))
                  have HSZ := Aside0.mk (show ∀ z ∈ entS T, z.f0.size < 1000000 from fun z hz => by have := (H2.out z hz).2; omega)
                  have HSO := Aside0.mk (entS_sorted HT.out)
                  have HFRU := Aside0.mk (show ∀ z ∈ entS U, Far z from by rw [H1.out]; exact HFR.out)
                  have hqm : q = (entS T).length := by
                    rw [← HQ.out]
                    exact filter_whole2 HT.out HVN.out fun z hz => hdone z (HWF.out z (H2.out z hz).1) ((found_iff HT.out z).2 hz)
                  have HLL := Aside0.mk (show (entS T).length < 90000 ∧ (entS U).length < 90000 from by rw [H1.out]; omega)
                  obtain ⟨L, hL⟩ : ∃ L, entS T = L := ⟨_, rfl⟩
                  have HEL := Aside0.mk hL
                  have HEU := Aside0.mk (H1.out.trans hL)
                  rw [hL] at hqm HSZ HSO
                  have HS4 := Aside0.mk (show TT w NoF wr tp T (q : Int) up U ((entS U).length : Int) [] from by have := TT.drop (A := [iterC mb r (j + i) (found (entS T)) vs gk]) (R := []) HS.out; rw [hL, ← hqm] at this; exact this)
                  have HQL := Aside0.mk hqm
                  clear hdone hqm hL HS HVN HQ
                  go_wp2_with (go_at_call 18; refine (tt_all _ w NoF tp up T U _ _ _ HS4.out HT.out HFR.out HLL.out.1).mono ?_; rw [HEL.out]; rintro E w3 ⟨va, rfl, hs5⟩; obtain ⟨AL, cL, rfl, hcL, hCL⟩ := rowE_C (hs5.rest.rowE 0 rfl) (by rw [← HQL.out]; omega); rw [← HQL.out] at hs5; have HS5 := Aside0.mk hs5; rw [← HQL.out]; clear hs5 hCL hcL hrun)
                  obtain ⟨K, hK⟩ : ∃ K, q - 1 = K := ⟨_, rfl⟩
                  have HROW := Aside0.mk (show ∀ W' : World, RowE W' (.slice AL q cL) L → ∀ i0 : Nat, i0 < q → ∃ ad z, AL = some ad ∧ L[i0]? = some z ∧ W'.cell? (ad.add (i0 * 3)) = some (.string z.f0) ∧ W'.cell? ⟨(ad.add (i0 * 3)).block, (ad.add (i0 * 3)).off + 1, none⟩ = some (.int .i64 z.f1.f0) ∧ W'.cell? ⟨(ad.add (i0 * 3)).block, (ad.add (i0 * 3)).off + 2, none⟩ = some (.int .i64 z.f1.f1) from fun W' hr i0 hi0 => by
                    obtain ⟨AL', cL', eL, hcL, hCL⟩ := rowE_C hr (by rw [← HQL.out]; omega)
                    rw [← HQL.out] at eL hcL hCL
                    obtain ⟨rfl, rfl⟩ : AL = AL' ∧ cL = cL' := by
                      injection eL with e1 e2 e3
                      exact ⟨e1, e3⟩
                    obtain ⟨z, hz⟩ : ∃ z, L[i0]? = some z := ⟨_, List.getElem?_eq_getElem (by rw [← HQL.out]; exact hi0)⟩
                    have hrz : rd_T29 L (i0 : Int) = z := by simp [rd_T29, List.getD_eq_getElem?_getD, hz]
                    obtain ⟨ad, rfl, d0, d1, d2⟩ := at_T29 hCL (i0 : Int) (by omega) (by omega)
                    rw [hrz, Int.toNat_natCast] at d0 d1 d2
                    exact ⟨ad, z, rfl, hz, d0, d1, d2⟩)
                  go_loopg [15] K (fun gq v15 wx => ∃ i : Nat, v15 = .int .i64 i ∧ i + gq = 1 + K ∧ 1 ≤ i ∧ Aside0 (TT w NoF wx tp T (q : Int) up U ((entS U).length : Int) [rowEC (.slice AL q cL) L]))
                  case atStart => exact ⟨1, rfl, by omega, Nat.le_refl _, HS5⟩
                  case round =>
                    clear HS5 HS4
                    obtain ⟨i1, rfl, hi1, hi2, HS⟩ := hrel
                    cases gk with
                    | succ gq2 =>
                      obtain ⟨i0, rfl⟩ : ∃ i0, i1 = i0 + 1 := ⟨i1 - 1, by omega⟩
                      have hiq0 : i0 < q := by omega
                      have hiq1 : i0 + 1 < q := by omega
                      have him1 : ((i0 + 1 : Nat) : Int) - 1 = (i0 : Int) := by omega
                      have hb0 : (0 : Int) ≤ (i0 : Int) := by omega
                      have hb1 : (i0 : Int) < (q : Int) := by omega
                      have hb2 : (0 : Int) ≤ ((i0 + 1 : Nat) : Int) := by omega
                      have hb3 : ((i0 + 1 : Nat) : Int) < (q : Int) := by omega
                      have hb4 : (0 : Int) ≤ (i0 : Int) + 1 := by omega
                      have hb5 : (i0 : Int) + 1 < (q : Int) := by omega
                      have hw0 : wrap64 (i0 : Int) = (i0 : Int) := IntWalk.wrap64_in _ (by omega)
                      obtain ⟨ad, za, rfl, hza, -, -, -⟩ := HROW.out wr (HS.out.rest.rowE 0 rfl) i0 hiq0
                      obtain ⟨ad', zb, e, hzb, -, -, -⟩ := HROW.out wr (HS.out.rest.rowE 0 rfl) (i0 + 1) hiq1
                      cases e
                      have HZA := Aside0.mk hza
                      have HZB := Aside0.mk hzb
                      have HCEL := Aside0.mk (show ∀ W' : World, RowE W' (.slice (some ad) q cL) L → W'.cell? (ad.add (i0 * 3)) = some (.string za.f0) ∧ W'.cell? ⟨(ad.add (i0 * 3)).block, (ad.add (i0 * 3)).off + 1, none⟩ = some (.int .i64 za.f1.f0) ∧ W'.cell? ⟨(ad.add (i0 * 3)).block, (ad.add (i0 * 3)).off + 2, none⟩ = some (.int .i64 za.f1.f1) ∧ W'.cell? (ad.add ((i0 + 1) * 3)) = some (.string zb.f0) ∧ W'.cell? ⟨(ad.add ((i0 + 1) * 3)).block, (ad.add ((i0 + 1) * 3)).off + 1, none⟩ = some (.int .i64 zb.f1.f0) ∧ W'.cell? ⟨(ad.add ((i0 + 1) * 3)).block, (ad.add ((i0 + 1) * 3)).off + 2, none⟩ = some (.int .i64 zb.f1.f1) from fun W' hr => by
                        obtain ⟨ad', z, e, h1, h2, h3, h4⟩ := HROW.out W' hr i0 hiq0
                        cases e
                        cases (h1.symm.trans HZA.out)
                        obtain ⟨ad', z, e, k1, k2, k3, k4⟩ := HROW.out W' hr (i0 + 1) hiq1
                        cases e
                        cases (k1.symm.trans HZB.out)
                        exact ⟨h2, h3, h4, k2, k3, k4⟩)
                      obtain ⟨o, ho⟩ : ∃ o, ord za zb = o := ⟨_, rfl⟩
                      have HO := Aside0.mk ho
                      have hlt : o < 0 := by
                        rw [← ho]
                        obtain ⟨p1, p2⟩ := List.getElem?_eq_some_iff.1 hza
                        obtain ⟨p3, p4⟩ := List.getElem?_eq_some_iff.1 hzb
                        have := List.pairwise_iff_getElem.1 HSO.out i0 (i0 + 1) p1 p3 (by omega)
                        rw [p2, p4] at this
                        exact this
                      have hge : decide (0 ≤ o) = false := by simp; omega
                      clear hza hzb ho
                      go_wp2
                      have HS1 := Aside0.mk (HS.out.below (⟨rfl, rfl, rfl, Nat.le_refl _, fun _ _ => rfl⟩ : Below wr.heap.size wr wr.drew))
                      clear HS
                      refine start_ (n := 11) (S := fun w' => w'.cell? (ad.add (i0 * 3)) = some (.string za.f0) ∧ w'.cell? ⟨(ad.add (i0 * 3)).block, (ad.add (i0 * 3)).off + 1, none⟩ = some (.int .i64 za.f1.f0) ∧ w'.cell? ⟨(ad.add (i0 * 3)).block, (ad.add (i0 * 3)).off + 2, none⟩ = some (.int .i64 za.f1.f1) ∧ w'.cell? (ad.add ((i0 + 1) * 3)) = some (.string zb.f0) ∧ w'.cell? ⟨(ad.add ((i0 + 1) * 3)).block, (ad.add ((i0 + 1) * 3)).off + 1, none⟩ = some (.int .i64 zb.f1.f0) ∧ w'.cell? ⟨(ad.add ((i0 + 1) * 3)).block, (ad.add ((i0 + 1) * 3)).off + 2, none⟩ = some (.int .i64 zb.f1.f1)) (ds := []) #[false, false, false, false, false, false, false, false, false, false, false] (by kernel_rfl) rfl rfl (HCEL.out _ (HS1.out.rest.rowE 0 rfl)) (fun hHeld => ?_)
                      refine pure_ (i := 0) (N := (some 133)) (v := ?_) (a' := ?_) #[true, false, false, false, false, false, false, false, false, false, false] rfl rfl (by kernel_rfl) (fun _ _ _ h => h) (Or.inl ⟨by rfl, ?_⟩) ?_ ?_
                      rotate_left
                      · intro w'
                        go_simp
                        with_reducible rfl
                      rotate_left
                      · simp only [Act.put, List.setIfInBounds_toArray, List.set_cons_zero, List.set_cons_succ, i64_w, i32_w]
                        rfl
                      refine pure_ (i := 1) (N := (some 134)) (v := ?_) (a' := ?_) #[true, true, false, false, false, false, false, false, false, false, false] rfl rfl (by kernel_rfl) (fun _ _ _ h => h) (Or.inl ⟨by rfl, ?_⟩) ?_ ?_
                      rotate_left
                      · intro w'
                        go_simp
                        with_reducible rfl
                      rotate_left
                      · simp only [Act.put, List.setIfInBounds_toArray, List.set_cons_zero, List.set_cons_succ, i64_w, i32_w]
                        rfl
                      refine pure_ (i := 2) (N := (some 135)) (v := ?_) (a' := ?_) #[true, true, true, false, false, false, false, false, false, false, false] rfl rfl (by kernel_rfl) (fun _ _ _ h => h) (Or.inl ⟨by rfl, ?_⟩) ?_ ?_
                      rotate_left
                      · intro w'
                        go_simp
                        with_reducible rfl
                      rotate_left
                      · simp only [Act.put, List.setIfInBounds_toArray, List.set_cons_zero, List.set_cons_succ, i64_w, i32_w]
                        rfl
                      refine pure_ (i := 3) (N := (some 136)) (v := ?_) (a' := ?_) #[true, true, true, true, false, false, false, false, false, false, false] rfl rfl (by kernel_rfl) (fun _ _ _ h => h) (Or.inl ⟨by rfl, ?_⟩) ?_ ?_
                      rotate_left
                      · intro w'
                        go_simp
                        with_reducible rfl
                      rotate_left
                      · simp only [Act.put, List.setIfInBounds_toArray, List.set_cons_zero, List.set_cons_succ, i64_w, i32_w]
                        rfl
                      refine pure_ (i := 5) (N := (some 138)) (v := ?_) (a' := ?_) #[true, true, true, true, false, true, false, false, false, false, false] rfl rfl (by kernel_rfl) (fun _ _ _ h => h) (Or.inl ⟨by rfl, ?_⟩) ?_ ?_
                      rotate_left
                      · intro w'
                        go_simp
                        with_reducible rfl
                      rotate_left
                      · simp only [Act.put, List.setIfInBounds_toArray, List.set_cons_zero, List.set_cons_succ, i64_w, i32_w]
                        rfl
                      refine pure_ (i := 6) (N := (some 139)) (v := ?_) (a' := ?_) #[true, true, true, true, false, true, true, false, false, false, false] rfl rfl (by kernel_rfl) (fun _ _ _ h => h) (Or.inl ⟨by rfl, ?_⟩) ?_ ?_
                      rotate_left
                      · intro w'
                        go_simp
                        with_reducible rfl
                      rotate_left
                      · simp only [Act.put, List.setIfInBounds_toArray, List.set_cons_zero, List.set_cons_succ, i64_w, i32_w]
                        rfl
                      refine pure_ (i := 7) (N := (some 140)) (v := ?_) (a' := ?_) #[true, true, true, true, false, true, true, true, false, false, false] rfl rfl (by kernel_rfl) (fun _ _ _ h => h) (Or.inl ⟨by rfl, ?_⟩) ?_ ?_
                      rotate_left
                      · intro w'
                        go_simp
                        with_reducible rfl
                      rotate_left
                      · simp only [Act.put, List.setIfInBounds_toArray, List.set_cons_zero, List.set_cons_succ, i64_w, i32_w]
                        rfl
                      refine take_ (i := 4) (N := (some 137)) (v := ?_) (a' := ?_) #[true, true, true, true, true, true, true, true, false, false, false] rfl rfl (by kernel_rfl) (fun _ _ _ h => h) (Or.inl ⟨by rfl, ?_⟩) hHeld ?_ ?_
                      rotate_left
                      · rintro w' ⟨s0, s1, s2, s3, s4, s5⟩
                        go_simp
                        with_reducible rfl
                      rotate_left
                      · simp only [Act.put, List.setIfInBounds_toArray, List.set_cons_zero, List.set_cons_succ, i64_w, i32_w]
                        rfl
                      refine take_ (i := 8) (N := (some 141)) (v := ?_) (a' := ?_) #[true, true, true, true, true, true, true, true, true, false, false] rfl rfl (by kernel_rfl) (fun _ _ _ h => h) (Or.inl ⟨by rfl, ?_⟩) hHeld ?_ ?_
                      rotate_left
                      · rintro w' ⟨s0, s1, s2, s3, s4, s5⟩
                        go_simp
                        with_reducible rfl
                      rotate_left
                      · simp only [Act.put, List.setIfInBounds_toArray, List.set_cons_zero, List.set_cons_succ, i64_w, i32_w]
                        rfl
                      refine one_ (i := 9) (N := (some 142)) #[true, true, true, true, true, true, true, true, true, true, false] rfl rfl (by kernel_rfl) (by decide) (fun K_ hK => ?_)
                      refine goes_ Try.func21 (by kernel_rfl) rfl #[entryV za, entryV zb] (by rfl) rfl rfl (by (try simp only [List.map_toArray, List.map_cons, List.map_nil]); first | done | rfl) ?_
                      refine (reforder_calls _ za zb (HSZ.out _ (List.mem_of_getElem? HZA.out)) (HSZ.out _ (List.mem_of_getElem? HZB.out))).mono ?_
                      rw [HO.out]
                      rintro E w6 ⟨rfl, hb6⟩
                      have HS6 := Aside0.mk (HS1.out.below hb6)
                      clear hb6
                      refine ⟨_, rfl, ?_⟩
                      clear hHeld
                      refine hK.out _ _ (HCEL.out _ (HS6.out.rest.rowE 0 rfl)) (fun hHeld => ?_)
                      clear hK K_
                      refine norm_ (a' := ?_) ?_ ?_
                      rotate_left
                      · show Act.put _ (some 142) _ = _
                        simp only [Act.put, List.setIfInBounds_toArray, List.set_cons_zero, List.set_cons_succ, i64_w, i32_w]
                        rfl
                      refine pure_ (i := 10) (N := (some 143)) (v := ?_) (a' := ?_) #[true, true, true, true, true, true, true, true, true, true, true] rfl rfl (by kernel_rfl) (fun _ _ _ h => h) (Or.inl ⟨by rfl, ?_⟩) ?_ ?_
                      rotate_left
                      · intro w'
                        go_simp
                        with_reducible rfl
                      rotate_left
                      · simp only [Act.put, List.setIfInBounds_toArray, List.set_cons_zero, List.set_cons_succ, i64_w, i32_w]
                        rfl
                      refine done_ (by kernel_rfl) ?_
                      clear hHeld him1 hb0 hb1 hb2 hb4 hb5 hw0 HCEL HZA HZB HROW HFR HFRU HSZ HSO HO
                      go_wp2
                      go_roundg gq2
                      case measure => omega
                      case rel => exact ⟨i0 + 1 + 1, by go_num, by omega, by omega, HS6⟩
                    | zero =>
                      have hiq : decide ((i1 : Int) < (q : Int)) = false := by simp; omega
                      go_wp2_with (first
                        | (go_at_call 13; refine (tt_count _ w NoF tp up T U _ _ _ HS.out).mono ?_; rintro E w5 ⟨rfl, h5⟩; have HS5 := Aside0.mk (show TT w NoF w5 tp T (q : Int) up U ((entS U).length : Int) [rowEC (.slice AL q cL) L] from h5.symm ▸ HS.out); clear h5 HS)
                        | (go_at_call 18; refine (tt_all _ w NoF up tp U T _ _ _ HS5.out.swap HU.out HFRU.out HLL.out.2).mono ?_; rw [HEU.out]; rintro E w6 ⟨v2, rfl, hs6⟩; have HS6 := Aside0.mk hs6; clear hs6)
                        | (go_at_call 17; refine (same_calls _ _ v2 L (HS6.out.rest.rowE 1 rfl) (HS6.out.rest.rowE 0 rfl) (by rw [← HQL.out]; omega)).mono ?_; rintro E w7 ⟨rfl, hb7⟩; have HB7 := Aside0.mk (keep_below (HS6.out.below hb7).keep); clear hb7))
                      first | (rw [← HR.out]) | (go_ret; rw [← HR.out])
                      exact ⟨rfl, HB7.out⟩
                · have HS2 := Aside0.mk (HS.out.turn (c' := iterC mb r (j + i) (found (entS T)) (x :: vs) cnt') (keep_in (b := r) (by simp [iterC]) hg) hR (nd_pair hR.lt.2.2) (fun b hb => by simp [iterC] at hb; rcases hb with rfl | rfl <;> simp [iterC]))
                  obtain ⟨eb, heb⟩ : ∃ b, w2.heap.size = b := ⟨_, rfl⟩
                  obtain ⟨wa, hwa⟩ : ∃ wa, w2.alloc (.cells #[.string x.f0, .int .i64 x.f1.f0, .int .i64 x.f1.f1] 29) = wa := ⟨_, rfl⟩
                  have HSa := Aside0.mk (show TT w NoF wa tp T ((entS T).length : Int) up U ((entS U).length : Int) [blkC eb (boxE x), iterC mb r (j + i) (found (entS T)) (x :: vs) cnt'] from
                    hwa ▸ HS2.out.fresh ((Below.refl _ _).alloc (Nat.le_refl _) _) (blkC eb (boxE x)) (heb ▸ heap_alloc_new w2 _) (nd_one eb) (fun b hb => by simp [blkC] at hb; omega))
                  have g0 : wa.cell? ⟨eb, 0, none⟩ = some (.string x.f0) := (blk_cell (HSa.out.rest.blk 0 rfl) 0).trans rfl
                  have g1 : wa.cell? ⟨eb, 1, none⟩ = some (.int .i64 x.f1.f0) := (blk_cell (HSa.out.rest.blk 0 rfl) 1).trans rfl
                  have g2 : wa.cell? ⟨eb, 2, none⟩ = some (.int .i64 x.f1.f1) := (blk_cell (HSa.out.rest.blk 0 rfl) 2).trans rfl
                  clear HS2 hx hxv hR hg hsz HS
                  obtain ⟨b, hfx⟩ : ∃ b, found (entS T) x = b := ⟨_, rfl⟩
                  rw [hfx] at hrun hen
                  have HFX := Aside0.mk hfx
                  clear hfx
                  cases b
                  · go_wp2_with (go_at_call 20; refine (tt_has _ w NoF tp up T U _ _ _ x HSa.out HT.out).mono ?_; rw [HFX.out]; rintro E w5 ⟨rfl, hs5⟩; have HS5 := Aside0.mk hs5; clear hs5 g0 g1 g2 hwa hrun hen)
                    go_roundg cnt'
                    case measure => omega
                    case rel => exact ⟨x :: vs, by rw [List.filter_cons, HFX.out]; simp [HQ.out], Aside0.mk (TT.drop (A := [blkC eb (boxE x)]) HS5.out)⟩
                  · go_wp2_with (go_at_call 20; refine (tt_has _ w NoF tp up T U _ _ _ x HSa.out HT.out).mono ?_; rw [HFX.out]; rintro E w5 ⟨rfl, hs5⟩; have HS5 := Aside0.mk hs5; clear hs5 g0 g1 g2 hwa hrun hen)
                    go_roundg cnt'
                    case measure => omega
                    case rel => exact ⟨x :: vs, by rw [List.filter_cons, HFX.out]; simp [HQ.out], Aside0.mk (TT.drop (A := [blkC eb (boxE x)]) HS5.out)⟩
theorem set_row (w : World) (A0 : Option Addr) (c0 : Nat) (l : List S29) (A1 : Option Addr) (c1 : Nat) (cuts : List Int) (hC : Kd.C k29 w A0 l.length l) (hcap : l.length ≤ c0)
    (hD : Kd.C (Kd.int .i64) w A1 cuts.length cuts) (hcap2 : cuts.length ≤ c1) (hwf : l.length ≤ maxLen ∧ ∀ a ∈ l, wf29 a) (hwf2 : cuts.length ≤ maxLen ∧ ∀ a ∈ cuts, (Lit.int .i64 a).wf = true) : Calls Try.prog 6 #[.slice A0 l.length c0, .slice A1 cuts.length c1] w fun E w' => E = .returned (.bool true) ∧ Below w.heap.size w w' :=
  btreeset_calls w A0 c0 l A1 c1 cuts hC hD hwf.2
end Go.Proofs.Bt
end
