/- Packed by shake.py: YtjaddmflopahiaaE10 YtjaddmflopahiaaE20 YtjaddmflopahiaaE21 YtjaddmflopahiaaE11 YtjaddmflopahiaaE22 YtjaddmflopahiaaE23 YtjaddmflopahiaaP12 YtjaddmflopahiaaE13 YtjaddmflopahiaaE24 YtjaddmflopahiaaP14 YtjaddmflopahiaaQ38 YtjaddmflopahiaaE25 YtjaddmflopahiaaP15 YtjaddmflopahiaaQ14 YtjaddmflopahiaaP16 YtjaddmflopahiaaE26 YtjaddmflopahiaaE27 -/
import Derived.Test.YtjaddmflopahiaaV6
section
namespace Go.Proofs.Bt
open Go Go.RowKit Go.Proofs.Ytjaddmflopahiaa.Q Go.Proofs.YtjaddmflopahiaaW.PrintWords Go.Proofs.YtjaddmflopahiaaW.PrintLast Go.Proofs.YtjaddmflopahiaaW.PrintMore
set_option linter.unusedVariables false
set_option linter.unusedSimpArgs false
set_option maxRecDepth 100000
theorem rowE_C {w : World} {v : Value} {ks : List S29} (h : RowE w v ks) (hn : ks.length < 100000) : ∃ A c, v = .slice A ks.length c ∧ ks.length ≤ c ∧ Kd.C k29 w A ks.length ks := by
  by_cases h0 : 0 < ks.length
  · obtain ⟨g, c, rfl, hc⟩ := row_slice h h0
    refine ⟨_, c, rfl, hc, rfl, by omega, fun _ => ⟨⟨g, 0, none⟩, rfl, fun j p hj => ⟨_, rfl, k29_mk w p, fun i u hu => ?_⟩⟩⟩
    obtain ⟨hjl, rfl⟩ := List.getElem?_eq_some_iff.1 hj
    obtain ⟨d0, d1, d2⟩ := RowE.cells h j hjl
    rw [Addr.add_lit, Nat.zero_add]
    match i, hu with
    | 0, hu => simp at hu; subst hu; exact d0
    | 1, hu => simp at hu; subst hu; exact d1
    | 2, hu => simp at hu; subst hu; exact d2
  · have hks : ks = [] := List.eq_nil_of_length_eq_zero (by omega)
    subst hks
    rcases h.2.2 with ⟨rfl, _⟩ | ⟨g, c, cur, rfl, _, hc, _⟩
    · exact ⟨none, 0, rfl, Nat.le_refl _, rfl, by simp, fun h => absurd h (by simp)⟩
    · exact ⟨_, c, rfl, hc, rfl, by simp, fun h => absurd h (by simp)⟩
theorem same_l0 (ks : List S29) (hn : ks.length < 100000) : ∀ (k i : Nat), i ≤ ks.length → ks.length < i + k → interlockref08_Same.l0 k ks ks (i : Int) = some true
  | 0, i, h1, h2 => by omega
  | k + 1, i, h1, h2 => by
    unfold interlockref08_Same.l0
    by_cases h : i < ks.length
    · rw [if_pos (by omega), if_pos (by omega), if_pos (by omega), if_neg (by simp), IntWalk.wrap64_in _ (by omega)]
      exact same_l0 ks hn k (i + 1) (by omega) (by omega)
    · rw [if_neg (by omega)]
theorem same_calls (W : World) (v u : Value) (ks : List S29) (hv : RowE W v ks) (hu : RowE W u ks) (hn : ks.length < 100000) : Calls Try.prog 17 #[v, u] W fun E w' => E = .returned (.bool true) ∧ Below W.heap.size W w' := by
  obtain ⟨A, c, rfl, hc, hC⟩ := rowE_C hv hn
  obtain ⟨A', c', rfl, hc', hC'⟩ := rowE_C hu hn
  refine (interlockref08_Same.calls (ks.length + 1) A c ks A' c' ks true W hC hc hC' hc' ?_).mono fun E w' h => ⟨h.1, h.2.below⟩
  unfold interlockref08_Same.f
  rw [if_pos rfl]
  exact same_l0 ks hn _ 0 (by omega) (by omega)
theorem wst_len (frm hiK : ByteArray) (most : Int) : ∀ (L acc : List S29), (L.foldl (wst frm hiK most) acc).length ≤ acc.length + L.length
  | [], acc => Nat.le_refl _
  | x :: L, acc => by
    have ih := wst_len frm hiK most L (wst frm hiK most acc x)
    have : (wst frm hiK most acc x).length ≤ acc.length + 1 := by
      unfold wst
      split <;> simp
    rw [List.foldl_cons, List.length_cons]
    omega
theorem foldl_step {α β : Type} (f : α → β → α) (a : α) (l : List β) (j : Nat) (x : β) (h : l[j]? = some x) : (l.take (j + 1)).foldl f a = f ((l.take j).foldl f a) x := by
  rw [List.take_add_one, h]
  simp
attribute [local go_sem] max_two max2_int
end Go.Proofs.Bt
end
section
namespace Go.Proofs.Bt
open Go Go.RowKit Go.Proofs.Ytjaddmflopahiaa.Q Go.Proofs.YtjaddmflopahiaaW.PrintWords Go.Proofs.YtjaddmflopahiaaW.PrintLast Go.Proofs.YtjaddmflopahiaaW.PrintMore
set_option linter.unusedVariables false
set_option linter.unusedSimpArgs false
set_option maxRecDepth 100000
def fst9 (key : ByteArray) (acc : List S27) (x : S29) : List S27 := if (x.f0.toList == key.toList) = true then acc ++ [x.f1] else acc
theorem fst9_len (key : ByteArray) : ∀ (L : List S29) (acc : List S27), (L.foldl (fst9 key) acc).length ≤ acc.length + L.length
  | [], acc => Nat.le_refl _
  | x :: L, acc => by
    have ih := fst9_len key L (fst9 key acc x)
    have : (fst9 key acc x).length ≤ acc.length + 1 := by
      unfold fst9
      split <;> simp
    rw [List.foldl_cons, List.length_cons]
    omega
theorem st_rowR0 {w0 W : World} {F : Nat → Prop} {cs : List Chunk} (s : St w0 F W cs) : St w0 F (W.alloc (.cells #[] 27)) (rowRC (.slice (some ⟨W.heap.size, 0, none⟩) 0 0) [] :: cs) := by
  refine s.fresh ((Below.refl _ W).alloc (Nat.le_refl _) _) (rowRC (.slice (some ⟨W.heap.size, 0, none⟩) 0 0) []) ?_ (nd_bl (.slice (some ⟨W.heap.size, 0, none⟩) 0 0)) (fun b hb => ?_)
  · exact ⟨by simp [encRs], by simp [encRs], .inr ⟨_, 0, #[], rfl, heap_alloc_new W _, Nat.le_refl _, by simp [maxLen], by simp, by simp [encRs]⟩⟩
  · have hb : b ∈ bl (.slice (some ⟨W.heap.size, 0, none⟩) 0 0) := hb
    have := bl_mem.1 hb
    simp [Value.ownBlock] at this
    omega
theorem ref_later {w W : World} {rp : Nat} {v : Value} {ks : List S29} (hb : w.heap[rp]? = some (.cells #[v] 57 (0, 0))) (hr : RowE w v ks) (k : Below w.heap.size w W) : W.heap[rp]? = some (.cells #[v] 57 (0, 0)) ∧ RowE W v ks :=
  ⟨(k.block rp (lt_of_some hb)).trans hb, Row.below hr k⟩
set_option maxHeartbeats 2000000 in
theorem reffind_calls (w : World) (rp : Nat) (v : Value) (ks : List S29) (key : ByteArray) (hb : w.heap[rp]? = some (.cells #[v] 57 (0, 0))) (hr : RowE w v ks) (hn : ks.length < 90000) :
    Calls Try.prog 39 #[.pointer (some ⟨rp, 0, none⟩), .string key] w (FndPost w (ks.foldl (fst9 key) [])) := by
  have hu29 := Try.underlying29
  have hu57 := Try.underlying57
  obtain ⟨R, hR⟩ : ∃ R, FndPost w (ks.foldl (fst9 key) []) = R := ⟨_, rfl⟩
  have HR := Aside0.mk hR
  rw [hR]
  obtain ⟨A, c, rfl⟩ := hr.slice
  obtain ⟨n, hnn⟩ : ∃ n, ks.length = n := ⟨_, rfl⟩
  have HN := Aside0.mk hnn
  rw [hnn] at hn hb hr
  have HB := Aside0.mk hb
  have HRW := Aside0.mk hr
  have HS := Aside0.mk (st_rowR0 (St.none w NoF))
  clear hR hnn hb hr
  go_enter Try.func39, Try.ntmps39
  go_wp2
  go_loopg [5, 6] n (fun gq v5 v6 wx => ∃ (i : Nat) (acc : List S27) (A' : Option Addr) (na c' : Nat), v6 = .int .i64 i ∧ v5 = .slice A' na c' ∧ i + gq = n ∧ Aside0 (acc.length = na) ∧ Aside0 (acc = (ks.take i).foldl (fst9 key) []) ∧ Aside0 (St w NoF wx [rowRC (.slice A' na c') acc]))
  case atStart => exact ⟨0, [], _, 0, _, rfl, rfl, by omega, Aside0.mk rfl, Aside0.mk rfl, HS⟩
  case round =>
    clear HS
    obtain ⟨i, acc, A', na, c', rfl, rfl, hi, HNA, HACC, HS⟩ := hrel
    obtain ⟨hb2, hr2⟩ := ref_later HB.out HRW.out (keep_below HS.out.keep)
    have c0 : wr.cell? ⟨rp, 0, none⟩ = some (.slice A n c) := (blk_cell hb2 0).trans rfl
    have hna : na ≤ i := by
      have h1 := HNA.out
      have h2 := fst9_len key (ks.take i) []
      rw [← HACC.out, List.length_take, HN.out] at h2
      simp at h2
      omega
    cases gk with
    | zero =>
      obtain rfl : i = n := by omega
      clear hb2 hr2
      go_wp2
      first | (rw [← HR.out]) | (go_ret; rw [← HR.out])
      refine ⟨.slice A' na c', rfl, ?_⟩
      have := HACC.out
      rw [List.take_of_length_le (by rw [HN.out]; exact Nat.le_refl _)] at this
      rw [← this]
      exact HS.out
    | succ gq =>
      have hin : i < n := by omega
      have hin2 : (i : Int) < (n : Int) := by omega
      have hi0 : (0 : Int) ≤ (i : Int) := by omega
      have hi9 : (i : Int) ≤ 1000000 := by omega
      obtain ⟨x, hx⟩ : ∃ x, ks[i]? = some x := ⟨_, List.getElem?_eq_getElem (by rw [HN.out]; exact hin)⟩
      obtain ⟨g, c2, hv, _⟩ := row_slice hr2 (by rw [HN.out]; omega)
      obtain ⟨rfl, rfl⟩ : A = some ⟨g, 0, none⟩ ∧ c = c2 := by
        injection hv with e1 e2 e3
        exact ⟨e1, e3⟩
      have hxi := List.getElem?_eq_some_iff.1 hx
      obtain ⟨hil, hxe⟩ := hxi
      obtain ⟨d0, d1, d2⟩ := RowE.cells hr2 i hil
      rw [hxe] at d0 d1 d2
      have HSTEP := Aside0.mk (show (ks.take (i + 1)).foldl (fst9 key) [] = fst9 key acc x by rw [HACC.out]; exact foldl_step _ _ _ _ _ hx)
      clear hx hv hb2 hr2 hil hxe
      cases hkk : (x.f0.toList == key.toList)
      · have HW := Aside0.mk (show fst9 key acc x = acc by unfold fst9; rw [if_neg (by rw [hkk]; simp)])
        go_wp2
        go_roundg gq
        case measure => omega
        case rel => exact ⟨i + 1, acc, A', na, c', by go_num, rfl, by omega, HNA, Aside0.mk (by rw [HSTEP.out, HW.out]), HS⟩
      · have HW := Aside0.mk (show fst9 key acc x = acc ++ [x.f1] by unfold fst9; rw [if_pos hkk])
        go_wp2_with (at_builtin; have hb3 := (Below.refl wr.heap.size wr).alloc (Nat.le_refl _) (.cells #[.int .i64 x.f1.f0, .int .i64 x.f1.f1] 27); obtain ⟨g', c3, w3, hrun, hrow, hgrow, hown⟩ := appendR _ (.slice A' na c') acc x.f1 wr.heap.size 53 ((HS.out.below hb3).rowR 0 rfl) (heap_alloc_new wr _) (by rw [HNA.out]; omega); rw [HNA.out] at hrun hrow hown; have HS3 := Aside0.mk (show St w NoF w3 [rowRC (.slice (some ⟨g', 0, none⟩) (na + 1) c3) (acc ++ [x.f1])] from (HS.out.below hb3).setR 0 rfl hgrow hrow hown); refine wpList_append_run rfl (.tmp 27) (.tmp 36) 53 53 rfl (.slice A' na c') (.slice (some ⟨wr.heap.size, 0, none⟩) 1 1) rfl rfl hrun ?_; clear hrun hrow hgrow hown hb3 d0 d1 d2 c0)
        go_roundg gq
        case measure => omega
        case rel => exact ⟨i + 1, acc ++ [x.f1], _, na + 1, c3, by go_num, rfl, by omega, Aside0.mk (by rw [List.length_append, HNA.out]; rfl), Aside0.mk (by rw [HSTEP.out, HW.out]), HS3⟩
end Go.Proofs.Bt
end
section
namespace Go.Proofs.Bt
open Go Go.RowKit Go.Proofs.Ytjaddmflopahiaa.Q Go.Proofs.YtjaddmflopahiaaW.PrintWords Go.Proofs.YtjaddmflopahiaaW.PrintLast Go.Proofs.YtjaddmflopahiaaW.PrintMore
set_option linter.unusedVariables false
set_option linter.unusedSimpArgs false
set_option maxRecDepth 100000
theorem cmpB_lt (a b : ByteArray) : cmpB a b < 0 ↔ keyLt a b = true := by
  unfold keyLt
  rcases cmpB_cases a b with ⟨h1, h2⟩ | ⟨h1, h2⟩ | ⟨h1, h2⟩
  · rw [h1, h2]; simp
  · rw [h1, h2, bl_irr]; simp
  · rw [h1]
    constructor
    · intro h; omega
    · intro h
      have := bl_trans _ _ _ h h2
      rw [bl_irr] at this
      cases this
theorem texts_calls (W : World) (a b : ByteArray) (ha : a.size < 1000000) (hb : b.size < 1000000) : Calls Try.prog 34 #[.string a, .string b] W fun E w' => E = .returned (.int .i64 (cmpB a b)) ∧ Below W.heap.size W w' :=
  (interlockref04_Texts.calls _ _ _ _ W (texts_f a b ha hb)).mono fun E w' h => ⟨h.1, h.2.below⟩
set_option maxHeartbeats 3000000 in
theorem refrange_calls (w : World) (rp : Nat) (v : Value) (ks : List S29) (frm hiK : ByteArray) (most : Int) (hb : w.heap[rp]? = some (.cells #[v] 57 (0, 0))) (hr : RowE w v ks) (hn : ks.length < 90000) (hks : ∀ x ∈ ks, x.f0.size < 1000000) (hfr : frm.size < 1000000) (hhi : hiK.size < 1000000) :
    Calls Try.prog 40 #[.pointer (some ⟨rp, 0, none⟩), .string frm, .string hiK, .int .i64 most] w (RangePost w (ks.foldl (wst frm hiK most) [])) := by
  have hu29 := Try.underlying29
  have hu57 := Try.underlying57
  obtain ⟨R, hR⟩ : ∃ R, RangePost w (ks.foldl (wst frm hiK most) []) = R := ⟨_, rfl⟩
  have HR := Aside0.mk hR
  rw [hR]
  obtain ⟨A, c, rfl⟩ := hr.slice
  obtain ⟨n, hnn⟩ : ∃ n, ks.length = n := ⟨_, rfl⟩
  have HN := Aside0.mk hnn
  rw [hnn] at hn hb hr
  have HB := Aside0.mk hb
  have HRW := Aside0.mk hr
  have HKS := Aside0.mk hks
  have HFR := Aside0.mk hfr
  have HHI := Aside0.mk hhi
  have HS := Aside0.mk (st_row0 (St.none w NoF))
  clear hR hnn hb hr hks hfr hhi
  go_enter Try.func40, Try.ntmps40
  go_wp2
  go_loopg [9, 10, 11] n (fun gq v9 v10 v11 wx => ∃ (i : Nat) (acc : List S29) (A' : Option Addr) (na c' : Nat), v10 = .int .i64 i ∧ v9 = .slice A' na c' ∧ i + gq = n ∧ Aside0 (acc.length = na) ∧ Aside0 (acc = (ks.take i).foldl (wst frm hiK most) []) ∧ Aside0 (St w NoF wx [rowEC (.slice A' na c') acc]))
  case atStart => exact ⟨0, [], _, 0, _, rfl, rfl, by omega, Aside0.mk rfl, Aside0.mk rfl, HS⟩
  case round =>
    clear HS
    obtain ⟨i, acc, A', na, c', rfl, rfl, hi, HNA, HACC, HS⟩ := hrel
    obtain ⟨hb2, hr2⟩ := ref_later HB.out HRW.out (keep_below HS.out.keep)
    have c0 : wr.cell? ⟨rp, 0, none⟩ = some (.slice A n c) := (blk_cell hb2 0).trans rfl
    have hna : na ≤ i := by
      have h1 := HNA.out
      have h2 := wst_len frm hiK most (ks.take i) []
      rw [← HACC.out, List.length_take, HN.out] at h2
      simp at h2
      omega
    have hfin : (n ≤ i ∨ ¬ (na : Int) < most) → RangePost w (ks.foldl (wst frm hiK most) []) (.returned (.slice A' na c')) wr := fun h => by
      refine ⟨.slice A' na c', rfl, ?_⟩
      have e : ks.foldl (wst frm hiK most) [] = acc := by
        rcases h with h | h
        · rw [HACC.out, List.take_of_length_le (by rw [HN.out]; exact h)]
        · conv => lhs; rw [← List.take_append_drop i ks, List.foldl_append, ← HACC.out]
          exact wst_stop _ _ _ _ _ fun y _ => .inr (by rw [HNA.out]; exact h)
      rw [e]
      exact HS.out
    have HFIN := Aside0.mk hfin
    clear hfin
    cases gk with
    | zero =>
      obtain rfl : i = n := by omega
      clear hb2 hr2
      go_wp2
      all_goals (first | (rw [← HR.out]) | (go_ret; rw [← HR.out]))
      all_goals exact HFIN.out (.inl (Nat.le_refl _))
    | succ gq =>
      have hin : i < n := by omega
      have hin2 : (i : Int) < (n : Int) := by omega
      have hi0 : (0 : Int) ≤ (i : Int) := by omega
      have hi9 : (i : Int) ≤ 1000000 := by omega
      by_cases hm : (na : Int) < most
      · have hm2 : decide ((na : Int) < most) = true := decide_eq_true hm
        obtain ⟨x, hx⟩ : ∃ x, ks[i]? = some x := ⟨_, List.getElem?_eq_getElem (by rw [HN.out]; exact hin)⟩
        have HXM := Aside0.mk (List.mem_of_getElem? hx)
        obtain ⟨g, c2, hv, _⟩ := row_slice hr2 (by rw [HN.out]; omega)
        obtain ⟨rfl, rfl⟩ : A = some ⟨g, 0, none⟩ ∧ c = c2 := by
          injection hv with e1 e2 e3
          exact ⟨e1, e3⟩
        obtain ⟨hil, hxe⟩ := List.getElem?_eq_some_iff.1 hx
        obtain ⟨d0, d1, d2⟩ := RowE.cells hr2 i hil
        rw [hxe] at d0 d1 d2
        have HX := Aside0.mk hx
        have HSTEP := Aside0.mk (show (ks.take (i + 1)).foldl (wst frm hiK most) [] = wst frm hiK most acc x by rw [HACC.out]; exact foldl_step _ _ _ _ _ hx)
        obtain ⟨o1, ho1⟩ : ∃ o, cmpB x.f0 frm = o := ⟨_, rfl⟩
        obtain ⟨o2, ho2⟩ : ∃ o, cmpB x.f0 hiK = o := ⟨_, rfl⟩
        have HO1 := Aside0.mk ho1
        have HO2 := Aside0.mk ho2
        have k1 := cmpB_lt x.f0 frm
        have k2 := cmpB_lt x.f0 hiK
        rw [ho1] at k1
        rw [ho2] at k2
        have HK1 := Aside0.mk k1
        have HK2 := Aside0.mk k2
        have G1 := Aside0.mk trivial
        have G2 := G1
        clear hx hv hb2 hr2 hil hxe ho1 ho2 k1 k2
        by_cases h1 : o1 < 0
        · have h1' : decide (0 ≤ o1) = false := by simp; omega
          have HW := Aside0.mk (show wst frm hiK most acc x = acc by unfold wst; rw [if_neg]; rintro ⟨g1, _⟩; rw [HK1.out.1 h1] at g1; cases g1)
          go_wp2_with (first
            | (clear G1; go_at_call 34; refine (texts_calls _ x.f0 frm (HKS.out x HXM.out) HFR.out).mono ?_; rintro E w3 ⟨rfl, hb3⟩; rw [HO1.out]; have HS3 := Aside0.mk (HS.out.below hb3); have HR3 := Aside0.mk (ref_later HB.out HRW.out (keep_below HS3.out.keep)); clear hb3)
            | (clear G2; go_at_call 34; refine (texts_calls _ x.f0 hiK (HKS.out x HXM.out) HHI.out).mono ?_; rintro E w4 ⟨rfl, hb4⟩; rw [HO2.out]; have HS4 := Aside0.mk (HS3.out.below hb4); clear hb4))
          go_roundg gq
          case measure => omega
          case rel => exact ⟨i + 1, acc, A', na, c', by go_num, rfl, by omega, HNA, Aside0.mk (by rw [HSTEP.out, HW.out]), HS3⟩
        · have h1' : decide (0 ≤ o1) = true := by simp; omega
          by_cases h2 : o2 < 0
          · have h2' : decide (o2 < 0) = true := decide_eq_true h2
            have HW := Aside0.mk (show wst frm hiK most acc x = acc ++ [x] by unfold wst; rw [if_pos]; exact ⟨by (cases h : keyLt x.f0 frm; rfl; exact absurd (HK1.out.2 h) h1), HK2.out.1 h2, by rw [HNA.out]; exact hm⟩)
            have G3 := Aside0.mk trivial
            go_wp2_with (first
              | (clear G1; go_at_call 34; refine (texts_calls _ x.f0 frm (HKS.out x HXM.out) HFR.out).mono ?_; rintro E w3 ⟨rfl, hb3⟩; rw [HO1.out]; have HS3 := Aside0.mk (HS.out.below hb3); have HR3 := Aside0.mk (ref_later HB.out HRW.out (keep_below HS3.out.keep)); clear hb3)
              | (clear G2; go_at_call 34; refine (texts_calls _ x.f0 hiK (HKS.out x HXM.out) HHI.out).mono ?_; rintro E w4 ⟨rfl, hb4⟩; rw [HO2.out]; have HS4 := Aside0.mk (HS3.out.below hb4); clear hb4; clear c0 d0 d1 d2; have hq := ref_later HB.out HRW.out (keep_below HS4.out.keep); have c0 : w4.cell? ⟨rp, 0, none⟩ = some (.slice (some ⟨g, 0, none⟩) n c) := (blk_cell hq.1 0).trans rfl; obtain ⟨hil4, hxe4⟩ := List.getElem?_eq_some_iff.1 HX.out; obtain ⟨d0, d1, d2⟩ := RowE.cells hq.2 i hil4; rw [hxe4] at d0 d1 d2; clear hq hil4 hxe4)
              | (clear G3; at_builtin; have hb5 := (Below.refl w4.heap.size w4).alloc (Nat.le_refl _) (.cells #[.string x.f0, .int .i64 x.f1.f0, .int .i64 x.f1.f1] 29); obtain ⟨g', c3, w5, hrun, hrow, hgrow, hown⟩ := appendE _ (.slice A' na c') acc x w4.heap.size 22 ((HS4.out.below hb5).rowE 0 rfl) (heap_alloc_new w4 _) (by rw [HNA.out]; omega); rw [HNA.out] at hrun hrow hown; have HS5 := Aside0.mk (show St w NoF w5 [rowEC (.slice (some ⟨g', 0, none⟩) (na + 1) c3) (acc ++ [x])] from (HS4.out.below hb5).setE 0 rfl hgrow hrow hown); refine wpList_append_run rfl (.tmp 46) (.tmp 54) 22 22 rfl (.slice A' na c') (.slice (some ⟨w4.heap.size, 0, none⟩) 1 1) rfl rfl hrun ?_; clear hrun hrow hgrow hown hb5 d0 d1 d2 c0))
            go_roundg gq
            case measure => omega
            case rel => exact ⟨i + 1, acc ++ [x], _, na + 1, c3, by go_num, rfl, by omega, Aside0.mk (by rw [List.length_append, HNA.out]; rfl), Aside0.mk (by rw [HSTEP.out, HW.out]), HS5⟩
          · have h2' : decide (o2 < 0) = false := by simp; omega
            have HW := Aside0.mk (show wst frm hiK most acc x = acc by unfold wst; rw [if_neg]; rintro ⟨_, g1, _⟩; exact h2 (HK2.out.2 g1))
            go_wp2_with (first
              | (clear G1; go_at_call 34; refine (texts_calls _ x.f0 frm (HKS.out x HXM.out) HFR.out).mono ?_; rintro E w3 ⟨rfl, hb3⟩; rw [HO1.out]; have HS3 := Aside0.mk (HS.out.below hb3); have HR3 := Aside0.mk (ref_later HB.out HRW.out (keep_below HS3.out.keep)); clear hb3)
              | (clear G2; go_at_call 34; refine (texts_calls _ x.f0 hiK (HKS.out x HXM.out) HHI.out).mono ?_; rintro E w4 ⟨rfl, hb4⟩; rw [HO2.out]; have HS4 := Aside0.mk (HS3.out.below hb4); clear hb4))
            go_roundg gq
            case measure => omega
            case rel => exact ⟨i + 1, acc, A', na, c', by go_num, rfl, by omega, HNA, Aside0.mk (by rw [HSTEP.out, HW.out]), HS4⟩
      · have hm2 : decide ((na : Int) < most) = false := decide_eq_false hm
        clear hb2 hr2
        go_wp2
        all_goals (first | (rw [← HR.out]) | (go_ret; rw [← HR.out]))
        all_goals exact HFIN.out (.inr hm)
end Go.Proofs.Bt
end
section
namespace Go.Proofs.Bt
open Go Go.RowKit Go.Proofs.Ytjaddmflopahiaa.Q Go.Proofs.YtjaddmflopahiaaW.PrintWords Go.Proofs.YtjaddmflopahiaaW.PrintLast Go.Proofs.YtjaddmflopahiaaW.PrintMore
set_option linter.unusedVariables false
set_option linter.unusedSimpArgs false
set_option maxRecDepth 100000
attribute [local go_sem] Oper.semAt_some
def twi : List S29 → Bool → ByteArray → ByteArray × Bool
  | [], _, _ => (⟨#[]⟩, false)
  | x :: xs, so, la => if so = true ∧ (x.f0.toList == la.toList) = true then (la, true) else twi xs true x.f0
def TWPost (w : World) (xs : List S29) (E : Ending) (w' : World) : Prop := E = .returned (.tuple #[.string (twi xs false ⟨#[]⟩).1, .bool (twi xs false ⟨#[]⟩).2]) ∧ Below w.heap.size w w'
theorem own_plain {Bs : List Nat} {W : World} (h : ∀ b ∈ Bs, ∃ t v, Boxed W b t v ∧ v.ownBlock = none) (k : Nat) : Own Bs W k ↔ k ∈ Bs := by
  unfold Own
  constructor
  · rintro (h1 | ⟨b, hb, u, hu, ho⟩)
    · exact h1
    · obtain ⟨t, v, hv, hn⟩ := h b hb
      rw [hv.cell] at hu
      cases hu
      rw [hn] at ho
      cases ho
  · exact .inl
def twB (n0 : Nat) (r : ByteArray) (f : Bool) (la : ByteArray) (so : Bool) : List Chunk := [boxC n0 9 (.string r), boxC (n0 + 1) 4 (.bool f), boxC (n0 + 2) 9 (.string la), boxC (n0 + 3) 4 (.bool so)]
theorem twB_cells {n0 : Nat} {r : ByteArray} {f : Bool} {la : ByteArray} {so : Bool} : ∀ c ∈ twB n0 r f la so, CellsC c := by
  intro c hc
  simp [twB] at hc
  rcases hc with rfl | rfl | rfl | rfl <;> exact boxC_cells _ _ _
theorem twB_own {w0 W : World} {F : Nat → Prop} {n0 : Nat} {r : ByteArray} {f : Bool} {la : ByteArray} {so : Bool} (s : St w0 F W (twB n0 r f la so)) (k : Nat) : Own [n0, n0 + 1, n0 + 2, n0 + 3] W k ↔ k ∈ [n0, n0 + 1, n0 + 2, n0 + 3] := own_plain (fun b hb => by
  simp at hb
  rcases hb with rfl | rfl | rfl | rfl
  · exact ⟨_, _, s.box 0 rfl, rfl⟩
  · exact ⟨_, _, s.box 1 rfl, rfl⟩
  · exact ⟨_, _, s.box 2 rfl, rfl⟩
  · exact ⟨_, _, s.box 3 rfl, rfl⟩) k
theorem twB_good {w0 W : World} {F : Nat → Prop} {n0 : Nat} {r : ByteArray} {f : Bool} {la : ByteArray} {so : Bool} (s : St w0 F W (twB n0 r f la so)) : Good [n0, n0 + 1, n0 + 2, n0 + 3] W := fun k hk => by
  have hk := (twB_own s k).1 hk
  simp at hk
  rcases hk with rfl | rfl | rfl | rfl
  · exact (s.box 0 rfl).lt
  · exact (s.box 1 rfl).lt
  · exact (s.box 2 rfl).lt
  · exact (s.box 3 rfl).lt
theorem twB_keeps {w0 W W' : World} {F : Nat → Prop} {n0 : Nat} {r : ByteArray} {f : Bool} {la : ByteArray} {so : Bool} {r' : ByteArray} {f' : Bool} {la' : ByteArray} {so' : Bool} (s : St w0 F W (twB n0 r f la so)) (s' : St w0 F W' (twB n0 r' f' la' so')) (hk : Keep W W' (fun b => b ∈ [n0, n0 + 1, n0 + 2, n0 + 3])) (B : Nat) :
    KeepsFrom B W W' ∧ KpR [n0, n0 + 1, n0 + 2, n0 + 3] W W' := by
  have hk2 : Keep W W' (Own [n0, n0 + 1, n0 + 2, n0 + 3] W) := ⟨hk.os, hk.tape, hk.output, hk.size, fun k h1 h2 => hk.block k h1 fun h3 => h2 ((twB_own s k).2 h3)⟩
  refine ⟨keepsFrom_of hk2 (fun k o ho hko => ?_) B, KpR.of_keep hk2 (twB_good s') fun k h => .inl ((twB_own s k).2 ((twB_own s' k).1 h))⟩
  have ho := (twB_own s k).1 ho
  simp at ho
  rcases ho with rfl | rfl | rfl | rfl
  · rw [show W.heap[k]? = _ from s.box 0 rfl] at hko; cases hko; rfl
  · rw [show W.heap[n0 + 1]? = _ from s.box 1 rfl] at hko; cases hko; rfl
  · rw [show W.heap[n0 + 2]? = _ from s.box 2 rfl] at hko; cases hko; rfl
  · rw [show W.heap[n0 + 3]? = _ from s.box 3 rfl] at hko; cases hko; rfl
theorem twi_no {x : S29} {r : List S29} {so : Bool} {la : ByteArray} (h : ¬ (so = true ∧ (x.f0.toList == la.toList) = true)) : twi (x :: r) so la = twi r true x.f0 := by
  show (if so = true ∧ (x.f0.toList == la.toList) = true then (la, true) else twi r true x.f0) = _
  rw [if_neg h]
theorem twB_results {W : World} {n0 : Nat} {r : ByteArray} {f : Bool} (h0 : Boxed W n0 9 (.string r)) (h1 : Boxed W (n0 + 1) 4 (.bool f)) (tmps : Array Value) (t2 : tmps.getD 2 undef = .pointer (some ⟨n0, 0, none⟩)) (t3 : tmps.getD 3 undef = .pointer (some ⟨n0 + 1, 0, none⟩)) :
    (results Try.f22 tmps).run Try.prog W = .ok (.tuple #[.string r, .bool f]) W := by
  have c0 := h0.cell
  have c1 := h1.cell
  have t2' : tmps[2]?.getD undef = .pointer (some ⟨n0, 0, none⟩) := by simpa using t2
  have t3' : tmps[3]?.getD undef = .pointer (some ⟨n0 + 1, 0, none⟩) := by simpa using t3
  simp [results, Try.results22, t2', t3', asAddr, loadVar, run_underlying Try.underlying9, run_underlying Try.underlying4, go_sem, c0, c1]
def TwI (w W : World) (n0 : Nat) (pre : List S29) : Prop := ∃ la so, St w NoF W (twB n0 ⟨#[]⟩ false la so) ∧ ∀ r, twi (pre ++ r) false ⟨#[]⟩ = twi r so la
def TwX (w W : World) (n0 : Nat) (pre : List S29) : Prop := ∃ la so, St w NoF W (twB n0 la true la so) ∧ ∀ r, twi (pre ++ r) false ⟨#[]⟩ = (la, true)
set_option maxHeartbeats 4000000 in
theorem twice_calls (w : World) (tp h : Nat) (m : MT h) (cnt : Int) (hT : TreeAt w tp (ptr h m) cnt) (hok : Ok w h m) (hf : Fit (lowS ⟨#[]⟩) h (abs h m)) (hlen : (bfrom h (abs h m) (lowS ⟨#[]⟩)).length < 90000) :
    Calls Try.prog 22 #[.pointer (some ⟨tp, 0, none⟩)] w (TWPost w (bfrom h (abs h m) (lowS ⟨#[]⟩))) := by
  have mixed : Try.prog.follows Departure.mixedOrders = true := by kernel_rfl
  have hu29 := Try.underlying29
  have hu64 := Try.underlying64
  obtain ⟨R, hR⟩ : ∃ R, TWPost w (bfrom h (abs h m) (lowS ⟨#[]⟩)) = R := ⟨_, rfl⟩
  rw [hR]
  have HR := Aside0.mk hR
  obtain ⟨n0, hn0⟩ : ∃ n, w.heap.size = n := ⟨_, rfl⟩
  have s1 := (St.none w NoF).boxed 9 (.string ⟨#[]⟩) hn0
  have s2 := s1.boxed 4 (.bool false) (n := n0 + 1) (by simp [hn0])
  have s3 := s2.boxed 9 (.string ⟨#[]⟩) (n := n0 + 2) (by simp [hn0])
  have s4 := s3.boxed 4 (.bool false) (n := n0 + 3) (by simp [hn0])
  obtain ⟨W2, hW2⟩ : ∃ W, (((w.alloc (.cells #[.string ⟨#[]⟩] 9)).alloc (.cells #[.bool false] 4)).alloc (.cells #[.string ⟨#[]⟩] 9)).alloc (.cells #[.bool false] 4) = W := ⟨_, rfl⟩
  rw [hW2] at s4
  have HS0 := Aside0.mk (show St w NoF W2 (twB n0 ⟨#[]⟩ false ⟨#[]⟩ false) from s4)
  have HTA := Aside0.mk hT
  have HOK := Aside0.mk hok
  have HFT := Aside0.mk hf
  have HLN := Aside0.mk hlen
  have HN0 := Aside0.mk hn0
  have c2 : W2.cell? ⟨n0 + 1 + 1, 0, none⟩ = some (.string ⟨#[]⟩) := (HS0.out.box 2 rfl).cell
  have c3 : W2.cell? ⟨n0 + 1 + 1 + 1, 0, none⟩ = some (.bool false) := (HS0.out.box 3 rfl).cell
  have f2 : W2.frozen? ⟨n0 + 1 + 1, 0, none⟩ = false := (HS0.out.box 2 rfl).frozen
  have f3 : W2.frozen? ⟨n0 + 1 + 1 + 1, 0, none⟩ = false := (HS0.out.box 3 rfl).frozen
  clear hR s1 s2 s3 s4 hT hok hf hlen
  refine (callsIn_wide (n := 5)).1 ?_
  refine callsIn_of_wp_marks Try.func22 rfl trivial ?_ rfl
  simp only [Try.ntmps22, List.size_toArray, List.length_cons, List.length_nil, Nat.reduceAdd, Nat.reduceSub, Array.replicate_succ, Array.replicate_zero, List.push_toArray, List.append_toArray, List.nil_append, List.cons_append]
  gi_wp2
  obtain ⟨W3, hW3⟩ : ∃ W, (W2.setCell ⟨n0 + 1 + 1, 0, none⟩ (.string ⟨#[]⟩)).setCell ⟨n0 + 1 + 1 + 1, 0, none⟩ (.bool false) = W := ⟨_, rfl⟩
  have HS := Aside0.mk (show St w NoF W3 (twB n0 ⟨#[]⟩ false ⟨#[]⟩ false) from hW3 ▸ ((HS0.out.putB 2 rfl (.string ⟨#[]⟩)).putB 3 rfl (.bool false)))
  have hs3 : n0 + 4 ≤ W3.heap.size := (HS.out.box 3 rfl).lt
  have HT3 := Aside0.mk (show TreeAt W3 _ _ _ from blk_below HTA.out (keep_below HS.out.keep))
  rw [hW3]
  clear HS0 hW2 hW3 c2 c3 f2 f3
  refine wpIn_wide.2 (wp_norm ?_)
  refine start_ (n := 6) (S := fun w' => w'.cell? ⟨tp, 0, none⟩ = some (.pointer (some ⟨ptr h m, 0, none⟩))) (ds := []) #[false, false, false, false, false, false] (by kernel_rfl) rfl rfl HT3.out.c0 (fun hHeld => ?_)
  refine pure_ (i := 0) (N := (some 7)) (v := ?_) (a' := ?_) #[true, false, false, false, false, false] rfl rfl (by kernel_rfl) (fun _ _ _ h => h) (Or.inl ⟨by rfl, ?_⟩) ?_ ?_
  rotate_left
  · intro w'
    go_simp
    with_reducible rfl
  rotate_left
  · simp only [Act.put, List.setIfInBounds_toArray, List.set_cons_zero, List.set_cons_succ, i64_w, i32_w]
    rfl
  refine pure_ (i := 1) (N := (some 8)) (v := ?_) (a' := ?_) #[true, true, false, false, false, false] rfl rfl (by kernel_rfl) (fun _ _ _ h => h) (Or.inl ⟨by rfl, ?_⟩) ?_ ?_
  rotate_left
  · intro w'
    go_simp
    with_reducible rfl
  rotate_left
  · simp only [Act.put, List.setIfInBounds_toArray, List.set_cons_zero, List.set_cons_succ, i64_w, i32_w]
    rfl
  refine pure_ (i := 2) (N := (some 9)) (v := ?_) (a' := ?_) #[true, true, true, false, false, false] rfl rfl (by kernel_rfl) (fun _ _ _ h => h) (Or.inl ⟨by rfl, ?_⟩) ?_ ?_
  rotate_left
  · intro w'
    go_simp
    with_reducible rfl
  rotate_left
  · simp only [Act.put, List.setIfInBounds_toArray, List.set_cons_zero, List.set_cons_succ, i64_w, i32_w]
    rfl
  refine take_ (i := 3) (N := (some 10)) (v := ?_) (a' := ?_) #[true, true, true, true, false, false] rfl rfl (by kernel_rfl) (fun _ _ _ h => h) (Or.inl ⟨by rfl, ?_⟩) hHeld ?_ ?_
  rotate_left
  · rintro w' s0
    go_simp
    with_reducible rfl
  rotate_left
  · simp only [Act.put, List.setIfInBounds_toArray, List.set_cons_zero, List.set_cons_succ, i64_w, i32_w]
    rfl
  refine one_ (i := 4) (N := (some 11)) #[true, true, true, true, true, false] rfl rfl (by kernel_rfl) (by decide) (fun K_ hK => ?_)
  refine goes_ Try.func33 (by kernel_rfl) rfl #[.string ⟨#[]⟩] (by rfl) rfl rfl (by (try simp only [List.map_toArray, List.map_cons, List.map_nil]); first | done | rfl) ?_
  refine (lowest_calls _ ⟨#[]⟩).mono ?_
  rintro E w2 ⟨rfl, hb⟩
  have HB2 := Aside0.mk (show Below W3.heap.size W3 w2 from (⟨rfl, rfl, rfl, Nat.le_refl _, fun _ _ => rfl⟩ : Below W3.heap.size W3 W3.drew).trans hb)
  refine ⟨_, rfl, ?_⟩
  clear hHeld hb
  refine hK.out _ _ (show TreeAt w2 _ _ _ from blk_below HT3.out HB2.out).c0 (fun hHeld => ?_)
  clear hK K_
  unfold entryV
  refine norm_ (a' := ?_) ?_ ?_
  rotate_left
  · show Act.put _ (some 11) _ = _
    simp only [Act.put, List.setIfInBounds_toArray, List.set_cons_zero, List.set_cons_succ, i64_w, i32_w]
    rfl
  refine one_ (i := 5) (N := (some 12)) #[true, true, true, true, true, true] rfl rfl (by kernel_rfl) (by decide) (fun K_ hK => ?_)
  refine goes_ Try.func32 (by kernel_rfl) rfl #[.pointer (some ⟨ptr h m, 0, none⟩), entryV (lowS ⟨#[]⟩)] (by rfl) rfl rfl (by (try simp only [List.map_toArray, List.map_cons, List.map_nil]); first | done | rfl) ?_
  refine (from_calls _ _ _).mono ?_
  rintro E W4 ⟨rfl, hw4⟩
  have hb4 : Below w2.heap.size w2 W4 := by rw [hw4]; exact ((Below.refl _ w2).alloc (Nat.le_refl _) _).alloc (by simp) _
  have HX1 := Aside0.mk (show W4.heap[w2.heap.size]? = some (.cells #[.pointer (some ⟨ptr h m, 0, none⟩)] 59 (0, 0)) by rw [hw4]; exact blk_alloc (blk_new w2 _) _)
  have HX2 := Aside0.mk (show W4.heap[w2.heap.size + 1]? = some (boxE (lowS ⟨#[]⟩)) by rw [hw4]; have := blk_new (w2.alloc (.cells #[.pointer (some ⟨ptr h m, 0, none⟩)] 59)) (boxE (lowS ⟨#[]⟩)); rwa [World.size_alloc] at this)
  have HB4 := Aside0.mk (HB2.out.trans (hb4.mono HB2.out.size))
  have HS4 := Aside0.mk (HS.out.below HB4.out)
  have hs4 : n0 + 4 ≤ w2.heap.size := by have := HB2.out.size; omega
  have hs5 := hb4.size
  refine ⟨_, rfl, ?_⟩
  clear hHeld hb4 hw4
  refine hK.out _ _ (show TreeAt W4 _ _ _ from blk_below HT3.out HB4.out).c0 (fun hHeld => ?_)
  clear hK K_
  refine norm_ (a' := ?_) ?_ ?_
  rotate_left
  · show Act.put _ (some 12) _ = _
    simp only [Act.put, List.setIfInBounds_toArray, List.set_cons_zero, List.set_cons_succ, i64_w, i32_w]
    rfl
  refine done_ (by kernel_rfl) ?_
  clear hHeld HT3 HS
  refine NormQ.of ?_
  gi_wp2
  have hOK4 : Ok W4 h m := HOK.out.below (keep_below HS4.out.keep)
  have hfp4 : ∀ a ∈ fp h m, ¬ Own [n0, n0 + 1, n0 + 2, n0 + 3] W4 a := fun a ha ho => by
    have h1 := HOK.out.lt a ha
    rw [HN0.out] at h1
    have h2 := (twB_own HS4.out a).1 ho
    simp at h2
    omega
  obtain ⟨X1, hX1⟩ : ∃ n, w2.heap.size = n := ⟨_, rfl⟩
  rw [hX1] at HX1 HX2 hs4 hs5 ⊢
  refine wpIn_rangeFunc_ownH (n := 5) (F := Fence.wide) (w := W4) rfl (by decide) (gf := 52) (lb := #[.pointer (some ⟨X1, 0, none⟩), .pointer (some ⟨X1 + 1, 0, none⟩)]) rfl trivial (enters_of Try.func52 (by kernel_rfl) rfl)
    (from_stops 4 [n0, n0 + 1, n0 + 2, n0 + 3] X1 (X1 + 1) h m (lowS ⟨#[]⟩) W4 HX1.out HX2.out hOK4 hfp4 (twB_good HS4.out) HFT.out) Kp.t (fun W l o o' hl h hc _ => Kp.b1 (W0 := W4) (by intro b hb; simp at hb; omega) W l o o' hl h hc) (Below.refl _ _) (fun _ => rfl)
    (fun pre W => TwI w W n0 pre)
    (fun c pre W => c = .ret ∧ TwX w W n0 pre)
    ?hI ?hIx ?h0
    (fun x a' W => ∃ Bx, n0 + 3 < Bx ∧ W.heap[Bx]? = some (boxE x) ∧ a' = { tmps := #[.pointer (some ⟨tp, 0, none⟩), undef, .pointer (some ⟨n0, 0, none⟩), .pointer (some ⟨n0 + 1, 0, none⟩), .pointer (some ⟨n0 + 1 + 1, 0, none⟩), .pointer (some ⟨n0 + 1 + 1 + 1, 0, none⟩), .pointer (some ⟨Bx, 0, none⟩), .pointer (some ⟨tp, 0, none⟩), .pointer (some ⟨tp, 0, none⟩), .pointer (some ⟨tp, 0, none⟩), .pointer (some ⟨ptr h m, 0, none⟩), entryV (lowS ⟨#[]⟩), .func (.func 52) #[] #[.pointer (some ⟨X1, 0, none⟩), .pointer (some ⟨X1 + 1, 0, none⟩)], entryV x, undef, undef, undef, undef, undef, undef, undef, undef, undef, undef], defers := [] })
    ?hAx ?assign ?body ?done ?stop
  case hI =>
    rintro s X Y row ⟨la, so, hs, hfn⟩ hg hr
    exact ⟨la, so, hs.turned hg (fun r e => ⟨by have := (hr r e).1; omega, (hr r e).2⟩) twB_cells, hfn⟩
  case hIx =>
    rintro c s X Y row ⟨hc, la, so, hs, hfn⟩ hg hr
    exact ⟨hc, la, so, hs.turned hg (fun r e => ⟨by have := (hr r e).1; omega, (hr r e).2⟩) twB_cells, hfn⟩
  case h0 => exact ⟨⟨#[]⟩, false, HS4.out, fun r => rfl⟩
  case hAx =>
    rintro x a' _ X Y row ⟨Bx, h1, h2, h4⟩ hg hr
    have hne : ∀ b o, X.heap[b]? = some o → o.isCells = true → some b ≠ row := fun b o hb ho e => by
      obtain ⟨_, o2, ho2, hc2⟩ := hr b e.symm
      rw [hb] at ho2
      cases ho2
      rw [ho] at hc2
      cases hc2
    exact ⟨Bx, h1, (hg.block Bx (lt_of_some h2) (hne Bx _ h2 rfl)).trans h2, h4⟩
  case assign =>
    rintro l pre x W K ⟨la, so, hs, hfn⟩ hK
    have HS1 := Aside0.mk hs
    have HF1 := Aside0.mk hfn
    have HK := Aside0.mk hK
    clear hs hfn hK
    unfold entryV
    gi_wp2
    have hba : Below W.heap.size W (W.alloc (.cells #[.string x.f0, .int .i64 x.f1.f0, .int .i64 x.f1.f1] 29)) := (Below.refl _ W).alloc (Nat.le_refl _) _
    exact HK.out _ _ ((KeepsOthers.alloc _ _).from _) (fun g => KpR.below g hba) ⟨la, so, HS1.out.below hba, HF1.out⟩ ⟨W.heap.size, (HS1.out.box 3 rfl).lt, heap_alloc_new W _, rfl⟩
  case body =>
    rintro l pre x a' W hl hrr ⟨la, so, hs, hfn⟩ ⟨Bx, hBx, hX, rfl⟩ hlt
    have HS1 := Aside0.mk hs
    have HF1 := Aside0.mk hfn
    have HXB := Aside0.mk hX
    have c0 := (hs.box 0 rfl).cell
    have c1 := (hs.box 1 rfl).cell
    have c2 : W.cell? ⟨n0 + 1 + 1, 0, none⟩ = _ := (hs.box 2 rfl).cell
    have c3 : W.cell? ⟨n0 + 1 + 1 + 1, 0, none⟩ = _ := (hs.box 3 rfl).cell
    have f0 := (hs.box 0 rfl).frozen
    have f1 := (hs.box 1 rfl).frozen
    have f2 : W.frozen? ⟨n0 + 1 + 1, 0, none⟩ = false := (hs.box 2 rfl).frozen
    have f3 : W.frozen? ⟨n0 + 1 + 1 + 1, 0, none⟩ = false := (hs.box 3 rfl).frozen
    have x0 : W.cell? ⟨Bx, 0, none⟩ = some (.string x.f0) := (blk_cell hX 0).trans rfl
    have x1 : W.cell? ⟨Bx, 1, none⟩ = some (.int .i64 x.f1.f0) := (blk_cell hX 1).trans rfl
    have x2 : W.cell? ⟨Bx, 2, none⟩ = some (.int .i64 x.f1.f1) := (blk_cell hX 2).trans rfl
    clear hs hfn hX hrr hlt
    unfold entryV
    have hgo : (¬ (so = true ∧ (x.f0.toList == la.toList) = true)) → ∀ W', W' = (W.setCell ⟨n0 + 1 + 1, 0, none⟩ (.string x.f0)).setCell ⟨n0 + 1 + 1 + 1, 0, none⟩ (.bool true) → KeepsFrom W4.heap.size W W' ∧ Kp [n0, n0 + 1, n0 + 2, n0 + 3] W W' ∧ TwI w W' n0 (pre ++ [x]) := by
      rintro hn W' rfl
      have hst : St w NoF _ (twB n0 ⟨#[]⟩ false x.f0 true) := (HS1.out.putB 2 rfl (.string x.f0)).putB 3 rfl (.bool true)
      obtain ⟨k1, k2⟩ := twB_keeps HS1.out hst (show Keep W _ (fun b => b ∈ [n0, n0 + 1, n0 + 2, n0 + 3]) from ((Keep.of_below (Below.refl _ W) (fun b => b ∈ [n0, n0 + 1, n0 + 2, n0 + 3])).cell (p := ⟨n0 + 2, 0, none⟩) (.inl (by simp)) _).cell (p := ⟨n0 + 3, 0, none⟩) (.inl (by simp)) _) W4.heap.size
      refine ⟨k1, fun _ => k2, x.f0, true, hst, fun r => ?_⟩
      rw [List.append_assoc, HF1.out]
      exact twi_no hn
    have HGO := Aside0.mk hgo
    clear hgo
    cases so
    · gi_wp2
      exact HGO.out (by simp) _ rfl
    · cases hkk : (x.f0.toList == la.toList)
      · gi_wp2
        exact HGO.out (by rw [hkk]; simp) _ rfl
      · have HKK := Aside0.mk hkk
        gi_wp2
        have hst : St w NoF _ (twB n0 la true la true) := (HS1.out.putB 0 rfl (.string la)).putB 1 rfl (.bool true)
        obtain ⟨k1, k2⟩ := twB_keeps HS1.out hst (show Keep W _ (fun b => b ∈ [n0, n0 + 1, n0 + 2, n0 + 3]) from ((Keep.of_below (Below.refl _ W) (fun b => b ∈ [n0, n0 + 1, n0 + 2, n0 + 3])).cell (p := ⟨n0, 0, none⟩) (.inl (by simp)) _).cell (p := ⟨n0 + 1, 0, none⟩) (.inl (by simp)) _) W4.heap.size
        refine ⟨k1, rfl, la, true, hst, fun r => ?_⟩
        rw [List.append_assoc, HF1.out]
        show twi (x :: r) true la = _
        unfold twi
        rw [if_pos ⟨rfl, HKK.out⟩]
  case done =>
    rintro D ys W hD rfl ⟨la, so, hs, hfn⟩ hK
    have hfin := hfn []
    rw [List.append_nil] at hfin
    have HFIN := Aside0.mk (show twi (bfrom h (abs h m) (lowS ⟨#[]⟩)) false ⟨#[]⟩ = (⟨#[]⟩, false) from hfin)
    have HS1 := Aside0.mk hs
    have c0 := (hs.box 0 rfl).cell
    have c1 := (hs.box 1 rfl).cell
    have f0 := (hs.box 0 rfl).frozen
    have f1 := (hs.box 1 rfl).frozen
    clear hfin hs hfn
    gi_wp2
    have hst : St w NoF _ (twB n0 ⟨#[]⟩ false la so) := (HS1.out.putB 0 rfl (.string ⟨#[]⟩)).putB 1 rfl (.bool false)
    have hkk : Keep W _ (fun b => b ∈ [n0, n0 + 1, n0 + 2, n0 + 3]) := ((Keep.of_below (Below.refl _ W) (fun b => b ∈ [n0, n0 + 1, n0 + 2, n0 + 3])).cell (p := ⟨n0, 0, none⟩) (.inl (by simp)) (.string ⟨#[]⟩)).cell (p := ⟨n0 + 1, 0, none⟩) (.inl (by simp)) (.bool false)
    have hK5 := (hkk.block D (lt_of_some hK) (by simp; omega)).trans hK
    refine ⟨by simp, .inl ⟨_, _, rfl, run_takeDeferred hK5, ?_⟩⟩
    have hst6 : St w NoF (World.putObj _ D (.deferred none)) _ := hst.turned (grownBy_putObj' _ D _) (fun r e => by cases e; exact ⟨by omega, _, hK5, rfl⟩) twB_cells
    refine ⟨_, twB_results (hst6.box 0 rfl) (hst6.box 1 rfl) _ rfl rfl, ?_⟩
    rw [← HR.out]
    refine ⟨?_, keep_below hst6.keep⟩
    rw [HFIN.out]
  case stop =>
    rintro D c pre W hD hpre ⟨rfl, la, so, hs, hfn⟩ hK
    obtain ⟨r, hr⟩ := hpre
    have hfin := hfn r
    have HFIN := Aside0.mk (show twi (bfrom h (abs h m) (lowS ⟨#[]⟩)) false ⟨#[]⟩ = (la, true) from hr ▸ hfin)
    have HS1 := Aside0.mk hs
    clear hfin hs hfn hr
    gi_wp2
    refine ⟨by simp, .inl ⟨_, _, rfl, run_takeDeferred hK, ?_⟩⟩
    have hst6 : St w NoF (World.putObj W D (.deferred none)) _ := HS1.out.turned (grownBy_putObj' _ D _) (fun r e => by cases e; exact ⟨by omega, _, hK, rfl⟩) twB_cells
    refine ⟨_, twB_results (hst6.box 0 rfl) (hst6.box 1 rfl) _ rfl rfl, ?_⟩
    rw [← HR.out]
    refine ⟨?_, keep_below hst6.keep⟩
    rw [HFIN.out]
end Go.Proofs.Bt
end
section
namespace Go.Proofs.Bt
open Go Go.RowKit Go.Proofs.Ytjaddmflopahiaa.Q Go.Proofs.YtjaddmflopahiaaW.PrintWords Go.Proofs.YtjaddmflopahiaaW.PrintLast Go.Proofs.YtjaddmflopahiaaW.PrintMore
set_option linter.unusedVariables false
set_option linter.unusedSimpArgs false
set_option maxRecDepth 100000
set_option maxHeartbeats 2000000 in
theorem reftwice_calls (w : World) (rp : Nat) (v : Value) (ks : List S29) (hb : w.heap[rp]? = some (.cells #[v] 57 (0, 0))) (hr : RowE w v ks) (hn : ks.length < 90000) :
    Calls Try.prog 25 #[.pointer (some ⟨rp, 0, none⟩)] w fun E w' => E = .returned (.tuple #[.string (twi ks false ⟨#[]⟩).1, .bool (twi ks false ⟨#[]⟩).2]) ∧ Below w.heap.size w w' := by
  have mixed : Try.prog.follows Departure.mixedOrders = true := by kernel_rfl
  have hu29 := Try.underlying29
  have hu57 := Try.underlying57
  obtain ⟨R, hR⟩ : ∃ R, (fun E w' => E = Ending.returned (.tuple #[.string (twi ks false ⟨#[]⟩).1, .bool (twi ks false ⟨#[]⟩).2]) ∧ Below w.heap.size w w') = R := ⟨_, rfl⟩
  have HR := Aside0.mk hR
  rw [hR]
  obtain ⟨A, c, rfl⟩ := hr.slice
  obtain ⟨n, hnn⟩ : ∃ n, ks.length = n := ⟨_, rfl⟩
  have HN := Aside0.mk hnn
  rw [hnn] at hn hb hr
  have HB := Aside0.mk hb
  have HRW := Aside0.mk hr
  clear hR hnn hb hr
  go_enter Try.func25, Try.ntmps25
  go_wp2
  go_loopg [4] (n - 1) (fun gq v4 wx => ∃ i : Nat, v4 = .int .i64 ((i : Int) + 1) ∧ i + gq = n - 1 ∧ Aside0 (Below w.heap.size w wx) ∧ Aside0 (∀ x, ks[i]? = some x → twi ks false ⟨#[]⟩ = twi (ks.drop (i + 1)) true x.f0))
  case atStart =>
    refine ⟨0, rfl, by omega, Aside0.mk (Below.refl _ _), Aside0.mk fun x hx => ?_⟩
    cases ks with
    | nil => simp at hx
    | cons y r =>
      simp at hx
      subst hx
      exact twi_no (by rintro ⟨h, _⟩; cases h)
  case round =>
    obtain ⟨i, rfl, hi, HBW, HTW⟩ := hrel
    obtain ⟨hb2, hr2⟩ := ref_later HB.out HRW.out HBW.out
    have c0 : wr.cell? ⟨rp, 0, none⟩ = some (.slice A n c) := (blk_cell hb2 0).trans rfl
    cases gk with
    | zero =>
      have hlt : decide ((i : Int) + 1 < (n : Int)) = false := by simp; omega
      have hres : twi ks false ⟨#[]⟩ = (⟨#[]⟩, false) := by
        cases ks with
        | nil => rfl
        | cons y r =>
          have hl := HN.out
          rw [List.length_cons] at hl
          obtain ⟨x, hx⟩ : ∃ x, (y :: r)[i]? = some x := ⟨_, List.getElem?_eq_getElem (by rw [List.length_cons]; omega)⟩
          rw [HTW.out x hx, List.drop_eq_nil_iff.2 (by rw [List.length_cons]; omega)]
          rfl
      have HRES := Aside0.mk hres
      clear hb2 hr2 hres
      go_wp2
      first | (rw [← HR.out]) | (go_ret; rw [← HR.out])
      rw [HRES.out]
      exact ⟨rfl, HBW.out⟩
    | succ gq =>
      have hin : i + 1 < n := by omega
      have hin2 : (i : Int) + 1 < (n : Int) := by omega
      have hin3 : (i : Int) < (n : Int) := by omega
      have hi0 : (0 : Int) ≤ (i : Int) := by omega
      have hi9 : (i : Int) ≤ 1000000 := by omega
      have hi1 : (0 : Int) ≤ (i : Int) + 1 := by omega
      have hwi : wrap64 (i : Int) = (i : Int) := IntWalk.wrap64_in _ (by omega)
      obtain ⟨x, hx⟩ : ∃ x, ks[i]? = some x := ⟨_, List.getElem?_eq_getElem (by rw [HN.out]; omega)⟩
      obtain ⟨y, hy⟩ : ∃ y, ks[i + 1]? = some y := ⟨_, List.getElem?_eq_getElem (by rw [HN.out]; omega)⟩
      obtain ⟨g, c2, hv, _⟩ := row_slice hr2 (by rw [HN.out]; omega)
      obtain ⟨rfl, rfl⟩ : A = some ⟨g, 0, none⟩ ∧ c = c2 := by
        injection hv with e1 e2 e3
        exact ⟨e1, e3⟩
      obtain ⟨hil, hxe⟩ := List.getElem?_eq_some_iff.1 hx
      obtain ⟨hjl, hye⟩ := List.getElem?_eq_some_iff.1 hy
      have hcells : wr.cell? ⟨rp, 0, none⟩ = some (.slice (some ⟨g, 0, none⟩) n c) ∧ wr.cell? ⟨g, (i + 1) * 3, none⟩ = some (.string y.f0) ∧ wr.cell? ⟨g, i * 3, none⟩ = some (.string x.f0) := ⟨c0, by have := (RowE.cells hr2 (i + 1) hjl).1; rw [hye] at this; exact this, by have := (RowE.cells hr2 i hil).1; rw [hxe] at this; exact this⟩
      have HCE := Aside0.mk hcells
      have HT := Aside0.mk (HTW.out x hx)
      have HY := Aside0.mk hy
      clear hv hb2 hr2 hcells hx hy hxe hye hil hjl
      go_wp2
      refine start_ (n := 18) (S := fun w' => w'.cell? ⟨rp, 0, none⟩ = some (.slice (some ⟨g, 0, none⟩) n c) ∧ w'.cell? ⟨g, (i + 1) * 3, none⟩ = some (.string y.f0) ∧ w'.cell? ⟨g, i * 3, none⟩ = some (.string x.f0)) (ds := []) #[false, false, false, false, false, false, false, false, false, false, false, false, false, false, false, false, false, false] (by kernel_rfl) rfl rfl HCE.out (fun hHeld => ?_)
      refine pure_ (i := 0) (N := (some 14)) (v := ?_) (a' := ?_) #[true, false, false, false, false, false, false, false, false, false, false, false, false, false, false, false, false, false] rfl rfl (by kernel_rfl) (fun _ _ _ h => h) (Or.inl ⟨by rfl, ?_⟩) ?_ ?_
      rotate_left
      · intro w'
        go_simp
        with_reducible rfl
      rotate_left
      · simp only [Act.put, List.setIfInBounds_toArray, List.set_cons_zero, List.set_cons_succ, i64_w, i32_w]
        rfl
      refine pure_ (i := 1) (N := (some 15)) (v := ?_) (a' := ?_) #[true, true, false, false, false, false, false, false, false, false, false, false, false, false, false, false, false, false] rfl rfl (by kernel_rfl) (fun _ _ _ h => h) (Or.inl ⟨by rfl, ?_⟩) ?_ ?_
      rotate_left
      · intro w'
        go_simp
        with_reducible rfl
      rotate_left
      · simp only [Act.put, List.setIfInBounds_toArray, List.set_cons_zero, List.set_cons_succ, i64_w, i32_w]
        rfl
      refine pure_ (i := 2) (N := (some 16)) (v := ?_) (a' := ?_) #[true, true, true, false, false, false, false, false, false, false, false, false, false, false, false, false, false, false] rfl rfl (by kernel_rfl) (fun _ _ _ h => h) (Or.inl ⟨by rfl, ?_⟩) ?_ ?_
      rotate_left
      · intro w'
        go_simp
        with_reducible rfl
      rotate_left
      · simp only [Act.put, List.setIfInBounds_toArray, List.set_cons_zero, List.set_cons_succ, i64_w, i32_w]
        rfl
      refine pure_ (i := 4) (N := (some 18)) (v := ?_) (a' := ?_) #[true, true, true, false, true, false, false, false, false, false, false, false, false, false, false, false, false, false] rfl rfl (by kernel_rfl) (fun _ _ _ h => h) (Or.inl ⟨by rfl, ?_⟩) ?_ ?_
      rotate_left
      · intro w'
        go_simp
        with_reducible rfl
      rotate_left
      · simp only [Act.put, List.setIfInBounds_toArray, List.set_cons_zero, List.set_cons_succ, i64_w, i32_w]
        rfl
      refine pure_ (i := 8) (N := (some 22)) (v := ?_) (a' := ?_) #[true, true, true, false, true, false, false, false, true, false, false, false, false, false, false, false, false, false] rfl rfl (by kernel_rfl) (fun _ _ _ h => h) (Or.inl ⟨by rfl, ?_⟩) ?_ ?_
      rotate_left
      · intro w'
        go_simp
        with_reducible rfl
      rotate_left
      · simp only [Act.put, List.setIfInBounds_toArray, List.set_cons_zero, List.set_cons_succ, i64_w, i32_w]
        rfl
      refine pure_ (i := 9) (N := (some 23)) (v := ?_) (a' := ?_) #[true, true, true, false, true, false, false, false, true, true, false, false, false, false, false, false, false, false] rfl rfl (by kernel_rfl) (fun _ _ _ h => h) (Or.inl ⟨by rfl, ?_⟩) ?_ ?_
      rotate_left
      · intro w'
        go_simp
        with_reducible rfl
      rotate_left
      · simp only [Act.put, List.setIfInBounds_toArray, List.set_cons_zero, List.set_cons_succ, i64_w, i32_w]
        rfl
      refine pure_ (i := 10) (N := (some 24)) (v := ?_) (a' := ?_) #[true, true, true, false, true, false, false, false, true, true, true, false, false, false, false, false, false, false] rfl rfl (by kernel_rfl) (fun _ _ _ h => h) (Or.inl ⟨by rfl, ?_⟩) ?_ ?_
      rotate_left
      · intro w'
        go_simp
        with_reducible rfl
      rotate_left
      · simp only [Act.put, List.setIfInBounds_toArray, List.set_cons_zero, List.set_cons_succ, i64_w, i32_w]
        rfl
      refine pure_ (i := 12) (N := (some 26)) (v := ?_) (a' := ?_) #[true, true, true, false, true, false, false, false, true, true, true, false, true, false, false, false, false, false] rfl rfl (by kernel_rfl) (fun _ _ _ h => h) (Or.inl ⟨by rfl, ?_⟩) ?_ ?_
      rotate_left
      · intro w'
        go_simp
        with_reducible rfl
      rotate_left
      · simp only [Act.put, List.setIfInBounds_toArray, List.set_cons_zero, List.set_cons_succ, i64_w, i32_w]
        rfl
      refine pure_ (i := 13) (N := (some 27)) (v := ?_) (a' := ?_) #[true, true, true, false, true, false, false, false, true, true, true, false, true, true, false, false, false, false] rfl rfl (by kernel_rfl) (fun _ _ _ h => h) (Or.inl ⟨by rfl, ?_⟩) ?_ ?_
      rotate_left
      · intro w'
        go_simp
        with_reducible rfl
      rotate_left
      · simp only [Act.put, List.setIfInBounds_toArray, List.set_cons_zero, List.set_cons_succ, i64_w, i32_w]
        rfl
      refine take_ (i := 3) (N := (some 17)) (v := ?_) (a' := ?_) #[true, true, true, true, true, false, false, false, true, true, true, false, true, true, false, false, false, false] rfl rfl (by kernel_rfl) (fun _ _ _ h => h) (Or.inl ⟨by rfl, ?_⟩) hHeld ?_ ?_
      rotate_left
      · rintro w' ⟨s0, s1, s2⟩
        go_simp
        with_reducible rfl
      rotate_left
      · simp only [Act.put, List.setIfInBounds_toArray, List.set_cons_zero, List.set_cons_succ, i64_w, i32_w]
        rfl
      refine pure_ (i := 5) (N := (some 19)) (v := ?_) (a' := ?_) #[true, true, true, true, true, true, false, false, true, true, true, false, true, true, false, false, false, false] rfl rfl (by kernel_rfl) (fun _ _ _ h => h) (Or.inl ⟨by rfl, ?_⟩) ?_ ?_
      rotate_left
      · intro w'
        go_simp
        with_reducible rfl
      rotate_left
      · simp only [Act.put, List.setIfInBounds_toArray, List.set_cons_zero, List.set_cons_succ, i64_w, i32_w]
        rfl
      refine pure_ (i := 6) (N := (some 20)) (v := ?_) (a' := ?_) #[true, true, true, true, true, true, true, false, true, true, true, false, true, true, false, false, false, false] rfl rfl (by kernel_rfl) (fun _ _ _ h => h) (Or.inl ⟨by rfl, ?_⟩) ?_ ?_
      rotate_left
      · intro w'
        go_simp
        with_reducible rfl
      rotate_left
      · simp only [Act.put, List.setIfInBounds_toArray, List.set_cons_zero, List.set_cons_succ, i64_w, i32_w]
        rfl
      refine take_ (i := 7) (N := (some 21)) (v := ?_) (a' := ?_) #[true, true, true, true, true, true, true, true, true, true, true, false, true, true, false, false, false, false] rfl rfl (by kernel_rfl) (fun _ _ _ h => h) (Or.inl ⟨by rfl, ?_⟩) hHeld ?_ ?_
      rotate_left
      · rintro w' ⟨s0, s1, s2⟩
        go_simp
        with_reducible rfl
      rotate_left
      · simp only [Act.put, List.setIfInBounds_toArray, List.set_cons_zero, List.set_cons_succ, i64_w, i32_w]
        rfl
      refine take_ (i := 11) (N := (some 25)) (v := ?_) (a' := ?_) #[true, true, true, true, true, true, true, true, true, true, true, true, true, true, false, false, false, false] rfl rfl (by kernel_rfl) (fun _ _ _ h => h) (Or.inl ⟨by rfl, ?_⟩) hHeld ?_ ?_
      rotate_left
      · rintro w' ⟨s0, s1, s2⟩
        go_simp
        with_reducible rfl
      rotate_left
      · simp only [Act.put, List.setIfInBounds_toArray, List.set_cons_zero, List.set_cons_succ, i64_w, i32_w]
        rfl
      refine pure_ (i := 14) (N := (some 28)) (v := ?_) (a' := ?_) #[true, true, true, true, true, true, true, true, true, true, true, true, true, true, true, false, false, false] rfl rfl (by kernel_rfl) (fun _ _ _ h => h) (Or.inl ⟨by rfl, ?_⟩) ?_ ?_
      rotate_left
      · intro w'
        go_simp
        with_reducible rfl
      rotate_left
      · simp only [Act.put, List.setIfInBounds_toArray, List.set_cons_zero, List.set_cons_succ, i64_w, i32_w]
        rfl
      refine pure_ (i := 15) (N := (some 29)) (v := ?_) (a' := ?_) #[true, true, true, true, true, true, true, true, true, true, true, true, true, true, true, true, false, false] rfl rfl (by kernel_rfl) (fun _ _ _ h => h) (Or.inl ⟨by rfl, ?_⟩) ?_ ?_
      rotate_left
      · intro w'
        go_simp
        with_reducible rfl
      rotate_left
      · simp only [Act.put, List.setIfInBounds_toArray, List.set_cons_zero, List.set_cons_succ, i64_w, i32_w]
        rfl
      refine take_ (i := 16) (N := (some 30)) (v := ?_) (a' := ?_) #[true, true, true, true, true, true, true, true, true, true, true, true, true, true, true, true, true, false] rfl rfl (by kernel_rfl) (fun _ _ _ h => h) (Or.inl ⟨by rfl, ?_⟩) hHeld ?_ ?_
      rotate_left
      · rintro w' ⟨s0, s1, s2⟩
        go_simp
        with_reducible rfl
      rotate_left
      · simp only [Act.put, List.setIfInBounds_toArray, List.set_cons_zero, List.set_cons_succ, i64_w, i32_w]
        rfl
      refine pure_ (i := 17) (N := (some 31)) (v := ?_) (a' := ?_) #[true, true, true, true, true, true, true, true, true, true, true, true, true, true, true, true, true, true] rfl rfl (by kernel_rfl) (fun _ _ _ h => h) (Or.inl ⟨by rfl, ?_⟩) ?_ ?_
      rotate_left
      · intro w'
        go_simp
        with_reducible rfl
      rotate_left
      · simp only [Act.put, List.setIfInBounds_toArray, List.set_cons_zero, List.set_cons_succ, i64_w, i32_w]
        rfl
      refine done_ (by kernel_rfl) ?_
      clear hHeld
      have HBD := Aside0.mk (HBW.out.trans ((⟨rfl, rfl, rfl, Nat.le_refl _, fun _ _ => rfl⟩ : Below wr.heap.size wr wr.drew).mono HBW.out.size))
      have c1 : wr.drew.cell? ⟨rp, 0, none⟩ = some (.slice (some ⟨g, 0, none⟩) n c) := HCE.out.1
      have d1 : wr.drew.cell? ⟨g, (i + 1) * 3, none⟩ = some (.string y.f0) := HCE.out.2.1
      have htw : twi ks false ⟨#[]⟩ = twi (y :: ks.drop (i + 2)) true x.f0 := by
        obtain ⟨hjl, hye⟩ := List.getElem?_eq_some_iff.1 HY.out
        rw [HT.out, List.drop_eq_getElem_cons hjl, hye]
      have HTW2 := Aside0.mk htw
      clear htw
      cases hkk : (y.f0.toList == x.f0.toList)
      · have HNO := Aside0.mk (HTW2.out.trans (twi_no (by rintro ⟨_, h⟩; rw [hkk] at h; cases h)))
        go_wp2
        go_roundg gq
        case measure => omega
        case rel =>
          refine ⟨i + 1, by go_num, by omega, HBD, Aside0.mk fun z hz => ?_⟩
          rw [HNO.out, Option.some.inj (HY.out.symm.trans hz)]
      · have hyes : twi ks false ⟨#[]⟩ = (x.f0, true) := by
          rw [HTW2.out]
          show (if true = true ∧ (y.f0.toList == x.f0.toList) = true then (x.f0, true) else _) = _
          rw [if_pos ⟨rfl, hkk⟩]
        have HYES := Aside0.mk hyes
        have HXY := Aside0.mk (toList_inj (eq_of_beq hkk))
        clear hyes
        go_wp2
        first | (rw [← HR.out]) | (go_ret; rw [← HR.out])
        rw [HYES.out]
        exact ⟨by rw [← HXY.out]; rfl, HBD.out⟩
end Go.Proofs.Bt
end
section
namespace Go.Proofs.Bt
open Go Go.RowKit Go.Proofs.Ytjaddmflopahiaa.Q Go.Proofs.YtjaddmflopahiaaW.PrintWords Go.Proofs.YtjaddmflopahiaaW.PrintLast Go.Proofs.YtjaddmflopahiaaW.PrintMore
set_option linter.unusedVariables false
set_option linter.unusedSimpArgs false
set_option maxRecDepth 100000
theorem eqE (x e : S29) : (x.f0.toList == e.f0.toList && ((x.f1.f0 == e.f1.f0 && (x.f1.f1 == e.f1.f1)))) = true ↔ x = e := by
  rw [Bool.and_eq_true, Bool.and_eq_true, beq_iff_eq, beq_iff_eq, beq_iff_eq]
  obtain ⟨x0, x1, x2⟩ := x
  obtain ⟨e0, e1, e2⟩ := e
  constructor
  · rintro ⟨h0, h1, h2⟩
    have h0 : x0 = e0 := toList_inj h0
    change x1 = e1 at h1
    change x2 = e2 at h2
    rw [h0, h1, h2]
  · intro h
    cases h
    exact ⟨rfl, rfl, rfl⟩
theorem hasL_found (L : List S29) (e : S29) (hs : Sorted L) : hasL e (L.filter (geB e)) = found L e := by
  rw [← drop_low L e hs]
  unfold found
  by_cases hl : low L e < L.length
  · rw [dif_pos hl, List.drop_eq_getElem_cons hl]
    show (L[low L e].f0.toList == e.f0.toList && _) = _
    have h1 := eqE L[low L e] e
    have h2 := ord_zero L[low L e] e
    cases hb : (L[low L e].f0.toList == e.f0.toList && ((L[low L e].f1.f0 == e.f1.f0 && (L[low L e].f1.f1 == e.f1.f1))))
    · refine (decide_eq_false fun h => ?_).symm
      rw [h1.2 (h2.1 h)] at hb
      cases hb
    · exact (decide_eq_true (h2.2 (h1.1 hb))).symm
  · rw [dif_neg hl, List.drop_eq_nil_iff.2 (by omega)]
    rfl
theorem has_ts (W w0 : World) (F : Nat → Prop) (tp : Nat) (T : ST) (cnt : Int) (R : List Chunk) (e : S29) (s : TS w0 F W tp T cnt R) (hi : TInvS T) :
    Calls Try.prog 20 #[.pointer (some ⟨tp, 0, none⟩), entryV e] W fun E w' => E = .returned (.bool (found (entS T) e)) ∧ TS w0 F w' tp T cnt R := by
  have s0 := s
  have hfr : hasL e (fromS T e) = found (entS T) e := by rw [from_ent T e hi, hasL_found _ _ (entS_sorted hi)]
  rw [← hfr]
  obtain ⟨h, t⟩ := T
  obtain ⟨m, hm, sX⟩ := TS.open s
  subst hm
  have s' : St w0 F W (treeT tp h m cnt ++ R) := sX
  refine (has_calls W tp h m cnt e (s'.tat 0 rfl) (s'.tree 1 rfl) (fit_of h _ _ _ hi.shape hi.srt)).mono ?_
  rintro E w' ⟨he, hb⟩
  exact ⟨he, s0.below hb⟩
end Go.Proofs.Bt
end
section
namespace Go.Proofs.Bt
open Go Go.RowKit Go.Proofs.Ytjaddmflopahiaa.Q
set_option linter.unusedVariables false
set_option linter.unusedSimpArgs false
def kc (k : ByteArray) (L : List S29) : Nat := (L.filter fun x => x.f0.toList == k.toList).length
theorem lt_ne {a b : ByteArray} (h : keyLt a b = true) : (a.toList == b.toList) = false := by
  rw [beq_eq_false_iff_ne]
  intro e
  unfold keyLt at h
  rw [e, bl_irr] at h
  cases h
theorem lt_ne' {a b : ByteArray} (h : keyLt a b = true) : (b.toList == a.toList) = false := by
  rw [beq_eq_false_iff_ne]
  intro e
  unfold keyLt at h
  rw [e, bl_irr] at h
  cases h
theorem ord_key {x y : S29} (h : ltE x y) : keyLt x.f0 y.f0 = true ∨ x.f0.toList = y.f0.toList := by
  rcases (ltE_iff _ _).1 h with h1 | ⟨h1, _⟩
  · exact .inl h1
  · exact .inr (by rw [h1])
theorem lt_le {a : ByteArray} {x y : S29} (h : keyLt a x.f0 = true) (k : ltE x y) : keyLt a y.f0 = true := by
  rcases ord_key k with h1 | h1
  · exact bl_trans _ _ _ h h1
  · unfold keyLt at h ⊢
    rw [← h1]
    exact h
end Go.Proofs.Bt
end
section
namespace Go.Proofs.Bt
open Go Go.RowKit Go.Proofs.Ytjaddmflopahiaa.Q Go.Proofs.YtjaddmflopahiaaW.PrintWords Go.Proofs.YtjaddmflopahiaaW.PrintLast Go.Proofs.YtjaddmflopahiaaW.PrintMore
set_option linter.unusedVariables false
set_option linter.unusedSimpArgs false
set_option maxRecDepth 100000
theorem twice_ts (W w0 : World) (F : Nat → Prop) (tp : Nat) (T : ST) (cnt : Int) (R : List Chunk) (s : TS w0 F W tp T cnt R) (hi : TInvS T) (hb : (fromS T (lowS ⟨#[]⟩)).length < 90000) :
    Calls Try.prog 22 #[.pointer (some ⟨tp, 0, none⟩)] W fun E w' => E = .returned (.tuple #[.string (twi (fromS T (lowS ⟨#[]⟩)) false ⟨#[]⟩).1, .bool (twi (fromS T (lowS ⟨#[]⟩)) false ⟨#[]⟩).2]) ∧ TS w0 F w' tp T cnt R := by
  have s0 := s
  obtain ⟨h, t⟩ := T
  obtain ⟨m, hm, sX⟩ := TS.open s
  subst hm
  have s' : St w0 F W (treeT tp h m cnt ++ R) := sX
  refine (twice_calls W tp h m cnt (s'.tat 0 rfl) (s'.tree 1 rfl) (fit_of h _ _ _ hi.shape hi.srt) hb).mono ?_
  rintro E w' ⟨he, hb⟩
  exact ⟨he, s0.below hb⟩
end Go.Proofs.Bt
end
section
namespace Go.Proofs.Bt
open Go Go.RowKit Go.Proofs.Ytjaddmflopahiaa.Q Go.Proofs.YtjaddmflopahiaaW.PrintWords Go.Proofs.YtjaddmflopahiaaW.PrintLast Go.Proofs.YtjaddmflopahiaaW.PrintMore
set_option linter.unusedVariables false
set_option linter.unusedSimpArgs false
set_option maxRecDepth 100000
section
variable {w0 W W' : World} {F : Nat → Prop} {tp rp : Nat} {T : ST} {cnt : Int} {v v' : Value} {ks ks' : List S29} {R : List Chunk}
theorem ref_upd (s : TS w0 F W tp T cnt (refC rp v ks ++ R)) (st : St W (fun b => b ∈ fpc (refC rp v ks)) W' (refC rp v' ks')) : TS w0 F W' tp T cnt (refC rp v' ks' ++ R) :=
  s.upd fun X hX => by
    rw [List.append_assoc] at hX ⊢
    exact hX.call st
theorem ref_sub (s : TS w0 F W tp T cnt (refC rp v ks ++ R)) : St W (fun b => b ∈ fpc (refC rp v ks)) W (refC rp v ks) := (s.rest (R := refC rp v ks ++ R)).sub
theorem ref_box (s : TS w0 F W tp T cnt (refC rp v ks ++ R)) : W.heap[rp]? = some (.cells #[v] 57 (0, 0)) := (s.rest (R := refC rp v ks ++ R)).box 0 rfl
theorem ref_row (s : TS w0 F W tp T cnt (refC rp v ks ++ R)) : RowE W v ks := (s.rest (R := refC rp v ks ++ R)).rowE 1 rfl
end
theorem refinsert_ts (W w0 : World) (F : Nat → Prop) (tp rp : Nat) (T : ST) (cnt : Int) (v : Value) (ks : List S29) (R : List Chunk) (e : S29) (s : TS w0 F W tp T cnt (refC rp v ks ++ R)) (hn : ks.length < 10000) (hks : ∀ x ∈ ks, x.f0.size < 1000000) (he : e.f0.size < 1000000) :
    Calls Try.prog 35 #[.pointer (some ⟨rp, 0, none⟩), entryV e] W fun E w' => ∃ v', E = .returned (.bool (!(found ks e))) ∧ TS w0 F w' tp T cnt (refC rp v' (sins ks e) ++ R) :=
  (refinsert_calls W rp v ks e (ref_sub s) hn hks he).mono fun E w' ⟨v', h1, h2⟩ => ⟨v', h1, ref_upd s h2⟩
theorem refdelete_ts (W w0 : World) (F : Nat → Prop) (tp rp : Nat) (T : ST) (cnt : Int) (v : Value) (ks : List S29) (R : List Chunk) (e : S29) (s : TS w0 F W tp T cnt (refC rp v ks ++ R)) (hn : ks.length < 10000) (hks : ∀ x ∈ ks, x.f0.size < 1000000) (he : e.f0.size < 1000000) :
    Calls Try.prog 36 #[.pointer (some ⟨rp, 0, none⟩), entryV e] W fun E w' => ∃ v', E = .returned (.bool (found ks e)) ∧ TS w0 F w' tp T cnt (refC rp v' (sdel ks e) ++ R) :=
  (refdelete_calls W rp v ks e (ref_sub s) hn hks he).mono fun E w' ⟨v', h1, h2⟩ => ⟨v', h1, ref_upd s h2⟩
theorem refhas_ts (W w0 : World) (F : Nat → Prop) (tp rp : Nat) (T : ST) (cnt : Int) (v : Value) (ks : List S29) (R : List Chunk) (e : S29) (s : TS w0 F W tp T cnt (refC rp v ks ++ R)) (hn : ks.length < 10000) (hks : ∀ x ∈ ks, x.f0.size < 1000000) (he : e.f0.size < 1000000) :
    Calls Try.prog 37 #[.pointer (some ⟨rp, 0, none⟩), entryV e] W fun E w' => E = .returned (.bool (found ks e)) ∧ TS w0 F w' tp T cnt (refC rp v ks ++ R) :=
  (refhas_calls W rp v ks e (ref_box s) (ref_row s) (by omega) hks he).mono fun E w' h => ⟨h.1, s.below h.2⟩
end Go.Proofs.Bt
end
section
namespace Go.Proofs.Bt
open Go Go.RowKit Go.Proofs.Ytjaddmflopahiaa.Q
set_option linter.unusedVariables false
set_option linter.unusedSimpArgs false
theorem fst9_stop (key : ByteArray) : ∀ (L : List S29) (acc : List S27), (∀ y ∈ L, (y.f0.toList == key.toList) = false) → L.foldl (fst9 key) acc = acc
  | [], acc, _ => rfl
  | y :: L, acc, h => by
    have : fst9 key acc y = acc := by
      unfold fst9
      rw [if_neg (by rw [h y (by simp)]; simp)]
    rw [List.foldl_cons, this]
    exact fst9_stop key L acc fun z hz => h z (by simp [hz])
theorem fst9_fnd (key : ByteArray) : ∀ (L : List S29) (acc : List S27), Sorted L → (∀ x ∈ L, Far x) → L.foldl (fst9 key) acc = acc ++ fnd key (L.filter (geB (lowS key)))
  | [], acc, _, _ => by simp [fnd]
  | x :: L, acc, hs, hf => by
    obtain ⟨h1, h2⟩ := List.pairwise_cons.1 hs
    have ih := fun a => fst9_fnd key L a h2 fun y hy => hf y (by simp [hy])
    rw [List.foldl_cons, List.filter_cons, low_far x key (hf x (by simp))]
    cases hk : keyLt x.f0 key
    · rw [if_pos (by rfl)]
      cases he : (x.f0.toList == key.toList)
      · have hx : fst9 key acc x = acc := by
          unfold fst9
          rw [if_neg (by rw [he]; simp)]
        rw [fnd_no he, hx, List.append_nil]
        have hlt : keyLt key x.f0 = true := by
          rcases bl_tri x.f0.toList key.toList with h3 | h3 | h3
          · unfold keyLt at hk
            rw [h3] at hk
            cases hk
          · rw [h3] at he
            simp at he
          · exact h3
        exact fst9_stop key L acc fun y hy => lt_ne' (lt_le hlt (h1 y hy))
      · have hx : fst9 key acc x = acc ++ [x.f1] := by
          unfold fst9
          rw [if_pos he]
        rw [fnd_yes he, hx, ih, List.append_assoc]
        rfl
    · have hx : fst9 key acc x = acc := by
        unfold fst9
        rw [if_neg (by rw [lt_ne hk]; simp)]
      rw [if_neg (by simp), hx, ih]
end Go.Proofs.Bt
end
section
namespace Go.Proofs.Ytjaddmflopahiaa.Q
open Go.RowKit Go.Proofs.YtjaddmflopahiaaW.PrintWords Go.Proofs.YtjaddmflopahiaaW.PrintLast Go.Proofs.YtjaddmflopahiaaW.PrintMore
attribute [local go_sem] max2_int min2_int max_two min_two max_three min_three max_four min_four
set_option linter.unusedVariables false
set_option linter.unusedSimpArgs false
attribute [local go_sem high] eqA27
def interlockref07_SameRids.l0 : Nat → List (S27) → List (S27) → Int → Option (Bool)
  | 0, _, _, _ => none
  | k + 1, x0, x1, x5 => if x5 < (x0.length : Int) then (if 0 ≤ x5 then (if x5 < (x1.length : Int) then (if (!(((rd_T27 x0 x5).f0) == ((rd_T27 x1 x5).f0)) || (!(((rd_T27 x0 x5).f1) == ((rd_T27 x1 x5).f1)))) = true then (some false) else (interlockref07_SameRids.l0 k x0 x1 (wrap64 (x5 + 1)))) else (none)) else (none)) else (some true)
def interlockref07_SameRids.f (k : Nat) (l0 : List (S27)) (l1 : List (S27)) : Option (Bool) := if (l0.length : Int) = (l1.length : Int) then (interlockref07_SameRids.l0 k l0 l1 0) else (some false)
theorem interlockref07_SameRids.mono_l : ∀ k, (∀ y0 y1 y2, LeO (interlockref07_SameRids.l0 k y0 y1 y2) (interlockref07_SameRids.l0 (k + 1) y0 y1 y2))
  | 0 => fun _ _ _ r h => by simp [interlockref07_SameRids.l0] at h
  | k + 1 => by
    have ih0 := interlockref07_SameRids.mono_l k
    · intro y0 y1 y2
      unfold interlockref07_SameRids.l0
      repeat' first
      | (with_reducible exact ih0 _ _ _)
      | (with_reducible exact LeO.refl _)
      | (with_reducible exact LeO.none _)
      | (with_reducible refine LeO.ite ?_ ?_)
      | (with_reducible refine LeO.bind ?_ (fun _ => ?_))
      | exact ih0 _ _ _
      | exact LeO.none _
      | refine LeO.ite ?_ ?_
      | refine LeO.bind ?_ (fun _ => ?_)
theorem interlockref07_SameRids.mono : ∀ a0 a1 k, LeO (interlockref07_SameRids.f k a0 a1) (interlockref07_SameRids.f (k + 1) a0 a1) := by
  intro a0 a1 k
  have ih0 := interlockref07_SameRids.mono_l k
  unfold interlockref07_SameRids.f
  repeat' first
      | (with_reducible exact ih0 _ _ _)
      | (with_reducible exact LeO.refl _)
      | (with_reducible exact LeO.none _)
      | (with_reducible refine LeO.ite ?_ ?_)
      | (with_reducible refine LeO.bind ?_ (fun _ => ?_))
      | exact ih0 _ _ _
      | exact LeO.none _
      | refine LeO.ite ?_ ?_
      | refine LeO.bind ?_ (fun _ => ?_)
set_option maxHeartbeats 8000000 in
set_option maxRecDepth 100000 in
theorem interlockref07_SameRids.calls (k : Nat) (A0 : Option Addr) (c0 : Nat) (l0 : List (S27)) (A1 : Option Addr) (c1 : Nat) (l1 : List (S27)) (r : Bool) (w : World) (hr0 : Kd.C k27 w A0 l0.length l0) (hc0 : l0.length ≤ c0) (hr1 : Kd.C k27 w A1 l1.length l1) (hc1 : l1.length ≤ c1) (h : interlockref07_SameRids.f k l0 l1 = some r) :
    Calls Try.prog 38 #[.slice A0 l0.length c0, .slice A1 l1.length c1] w fun e w' => e = .returned (.bool r) ∧ Drawn0 w w' := by
  have hu27 := Try.underlying27
  have HR0 := Aside0.mk hr0
  have HC0 := Aside0.mk hc0
  clear hr0 hc0
  have HR1 := Aside0.mk hr1
  have HC1 := Aside0.mk hc1
  clear hr1 hc1
  have H : (if (l0.length : Int) = (l1.length : Int) then (interlockref07_SameRids.l0 k l0 l1 0) else (some false)) = some r := h
  clear h
  by_cases c3 : (l0.length : Int) = (l1.length : Int)
  · rw [if_pos c3] at H
    have c3b0 : ((l0.length : Int) == (l1.length : Int)) = true := beq_iff_eq.mpr c3
    have c3b1 : ((l0.length : Int) != (l1.length : Int)) = false := bne_eq_false_iff_eq.mpr c3
    have c3b2 : (l0.length == l1.length) = true := by first | simpa using c3 | (simp at c3 ⊢; omega)
    clear c3
    have H' := Aside0.mk H
    clear H
    go_enter Try.func38, Try.ntmps38
    go_wp2
    repeat (go_quiet (fail); try go_wp2)
    go_loopg [5] k (fun kq v5 w' => ∃ (x5_1 : Int), v5 = .int .i64 x5_1 ∧ Aside0 (interlockref07_SameRids.l0 kq l0 l1 x5_1 = some r) ∧ Aside0 (kq ≤ k) ∧ Drawn0 w w')
    case atStart => exact ⟨(0), (by first | rfl | (simp; done) | (simp [*]; done)), H', ⟨Nat.le_refl _⟩, by repeat (first | exact Drawn0.refl _ | apply Drawn0.step)⟩
    case round =>
      clear H'
      try clear c1
      try clear p2
      try clear c3
      try clear c3b0
      try clear c3b1
      try clear c3b2
      obtain ⟨x5_1, rfl, HA, HK1, ⟨m1, rfl⟩⟩ := hrel
      cases gk with
      | zero => exact absurd HA.out (by simp [interlockref07_SameRids.l0])
      | succ k1 =>
        have H := HA.out
        clear HA
        simp only [interlockref07_SameRids.l0] at H
        by_cases c4 : x5_1 < (l0.length : Int)
        · rw [if_pos c4] at H
          have c4b0 : decide (x5_1 < (l0.length : Int)) = true := decide_eq_true c4
          clear c4
          by_cases c5 : 0 ≤ x5_1
          · rw [if_pos c5] at H
            have c5b0 : decide (0 ≤ x5_1) = true := decide_eq_true c5
            clear c5
            by_cases c6 : x5_1 < (l1.length : Int)
            · rw [if_pos c6] at H
              have c6b0 : decide (x5_1 < (l1.length : Int)) = true := decide_eq_true c6
              clear c6
              by_cases c7 : (!(((rd_T27 l0 x5_1).f0) == ((rd_T27 l1 x5_1).f0)) || (!(((rd_T27 l0 x5_1).f1) == ((rd_T27 l1 x5_1).f1)))) = true
              · rw [if_pos c7] at H
                have c7b0 : (!(((rd_T27 l0 x5_1).f0) == ((rd_T27 l1 x5_1).f0)) || (!(((rd_T27 l0 x5_1).f1) == ((rd_T27 l1 x5_1).f1)))) = true := c7
                clear c7
                obtain rfl := Option.some.inj H
                have p146 : 0 ≤ (x5_1 : Int) := of_decide_eq_true (by first | (with_reducible assumption) | assumption)
                have q146 : x5_1 < (l0.length : Int) := of_decide_eq_true (by first | (with_reducible assumption) | assumption)
                obtain ⟨ad146, e146, hx146_0, hx146_1⟩ := at_T27 HR0.out x5_1 p146 q146
                cases e146
                replace p146 := eq_true p146
                replace q146 := eq_true q146
                have p147 : 0 ≤ (x5_1 : Int) := of_decide_eq_true (by first | (with_reducible assumption) | assumption)
                have q147 : x5_1 < (l1.length : Int) := of_decide_eq_true (by first | (with_reducible assumption) | assumption)
                obtain ⟨ad147, e147, hx147_0, hx147_1⟩ := at_T27 HR1.out x5_1 p147 q147
                cases e147
                replace p147 := eq_true p147
                replace q147 := eq_true q147
                go_wp2
                repeat (go_quiet (fail); try go_wp2)
                go_ret
                exact ⟨by first | rfl | (simp; done) | (simp [*]; done), by repeat (first | exact Drawn0.refl _ | apply Drawn0.step)⟩
              · rw [if_neg c7] at H
                have c7b0 : (!(((rd_T27 l0 x5_1).f0) == ((rd_T27 l1 x5_1).f0)) || (!(((rd_T27 l0 x5_1).f1) == ((rd_T27 l1 x5_1).f1)))) = false := by simpa using c7
                clear c7
                have H' := Aside0.mk H
                clear H
                have p146 : 0 ≤ (x5_1 : Int) := of_decide_eq_true (by first | (with_reducible assumption) | assumption)
                have q146 : x5_1 < (l0.length : Int) := of_decide_eq_true (by first | (with_reducible assumption) | assumption)
                obtain ⟨ad146, e146, hx146_0, hx146_1⟩ := at_T27 HR0.out x5_1 p146 q146
                cases e146
                replace p146 := eq_true p146
                replace q146 := eq_true q146
                have p147 : 0 ≤ (x5_1 : Int) := of_decide_eq_true (by first | (with_reducible assumption) | assumption)
                have q147 : x5_1 < (l1.length : Int) := of_decide_eq_true (by first | (with_reducible assumption) | assumption)
                obtain ⟨ad147, e147, hx147_0, hx147_1⟩ := at_T27 HR1.out x5_1 p147 q147
                cases e147
                replace p147 := eq_true p147
                replace q147 := eq_true q147
                go_wp2
                repeat (go_quiet (fail); try go_wp2)
                go_roundg k1
                case measure => have := HK1.out; omega
                case rel => exact ⟨(wrap64 (x5_1 + 1)), (by first | rfl | (simp; done) | (simp [*]; done)), H', ⟨by have := HK1.out; omega⟩, by repeat (first | exact Drawn0.refl _ | apply Drawn0.step)⟩
            · rw [if_neg c6] at H
              exact absurd H (by simp)
          · rw [if_neg c5] at H
            exact absurd H (by simp)
        · rw [if_neg c4] at H
          have c4b0 : decide (x5_1 < (l0.length : Int)) = false := decide_eq_false c4
          clear c4
          obtain rfl := Option.some.inj H
          go_wp2
          repeat (go_quiet (fail); try go_wp2)
          go_ret
          exact ⟨by first | rfl | (simp; done) | (simp [*]; done), by repeat (first | exact Drawn0.refl _ | apply Drawn0.step)⟩
  · rw [if_neg c3] at H
    have c3b0 : ((l0.length : Int) == (l1.length : Int)) = false := beq_eq_false_iff_ne.mpr c3
    have c3b1 : ((l0.length : Int) != (l1.length : Int)) = true := bne_iff_ne.mpr c3
    have c3b2 : (l0.length == l1.length) = false := by first | simpa using c3 | (simp at c3 ⊢; omega)
    obtain rfl := Option.some.inj H
    go_enter Try.func38, Try.ntmps38
    go_wp2
    repeat (go_quiet (fail); try go_wp2)
    go_ret
    exact ⟨by first | rfl | (simp; done) | (simp [*]; done), by repeat (first | exact Drawn0.refl _ | apply Drawn0.step)⟩
end Go.Proofs.Ytjaddmflopahiaa.Q
end
section
namespace Go.Proofs.Bt
open Go Go.RowKit Go.Proofs.Ytjaddmflopahiaa.Q Go.Proofs.YtjaddmflopahiaaW.PrintWords Go.Proofs.YtjaddmflopahiaaW.PrintLast Go.Proofs.YtjaddmflopahiaaW.PrintMore
set_option linter.unusedVariables false
set_option linter.unusedSimpArgs false
set_option maxRecDepth 100000
theorem findrow_ts (W w0 : World) (F : Nat → Prop) (tp : Nat) (T : ST) (cnt : Int) (R : List Chunk) (key : ByteArray) (s : TS w0 F W tp T cnt R) (hi : TInvS T) (hb : (fromS T (lowS key)).length < 90000) :
    Calls Try.prog 23 #[.pointer (some ⟨tp, 0, none⟩), .string key] W fun E w' => ∃ v, E = .returned v ∧ TS w0 F w' tp T cnt (rowRC v (fnd key (fromS T (lowS key))) :: R) := by
  have s0 := s
  obtain ⟨h, t⟩ := T
  obtain ⟨m, hm, sX⟩ := TS.open s
  subst hm
  have s' : St w0 F W (treeT tp h m cnt ++ R) := sX
  refine (tfind_calls W tp h m cnt key (s'.tat 0 rfl) (s'.tree 1 rfl) (fit_of h _ _ _ hi.shape hi.srt) hb).mono ?_
  rintro E w' ⟨v, rfl, st⟩
  exact ⟨v, rfl, s0.made st⟩
theorem samerids_l0 (ks : List S27) (hn : ks.length < 100000) : ∀ (k i : Nat), i ≤ ks.length → ks.length < i + k → interlockref07_SameRids.l0 k ks ks (i : Int) = some true
  | 0, i, h1, h2 => by omega
  | k + 1, i, h1, h2 => by
    unfold interlockref07_SameRids.l0
    by_cases h : i < ks.length
    · rw [if_pos (by omega), if_pos (by omega), if_pos (by omega), if_neg (by simp), IntWalk.wrap64_in _ (by omega)]
      exact samerids_l0 ks hn k (i + 1) (by omega) (by omega)
    · rw [if_neg (by omega)]
theorem rowR_C {w : World} {v : Value} {ks : List S27} (h : RowR w v ks) (hn : ks.length < 100000) : ∃ A c, v = .slice A ks.length c ∧ ks.length ≤ c ∧ Kd.C k27 w A ks.length ks := by
  by_cases h0 : 0 < ks.length
  · obtain ⟨g, c, rfl, hc⟩ := row_slice h h0
    refine ⟨_, c, rfl, hc, rfl, by omega, fun _ => ⟨⟨g, 0, none⟩, rfl, fun j p hj => ⟨_, rfl, k27_mk w p, fun i u hu => ?_⟩⟩⟩
    have e : ∀ (l : List S27) (j : Nat) (p : S27), l[j]? = some p → ∀ i u, (encR p)[i]? = some u → (encRs l)[j * 2 + i]? = some u := by
      intro l
      induction l with
      | nil => intro j p hj; simp at hj
      | cons y l ih =>
        intro j p hj i u hu
        show (encR y ++ encRs l)[j * 2 + i]? = some u
        cases j with
        | zero =>
          simp at hj
          subst hj
          have hil := (List.getElem?_eq_some_iff.1 hu).1
          rw [Nat.zero_mul, Nat.zero_add, List.getElem?_append_left hil]
          exact hu
        | succ j =>
          have h2 : (encR y).length = 2 := rfl
          rw [List.getElem?_append_right (by omega), h2, show (j + 1) * 2 + i - 2 = j * 2 + i by omega]
          exact ih j p (by simpa using hj) i u hu
    have := Row.cell h rfl (j * 2 + i) u (e ks j p hj i u hu)
    rw [Addr.add_lit, Nat.zero_add]
    exact this
  · have hks : ks = [] := List.eq_nil_of_length_eq_zero (by omega)
    subst hks
    rcases h.2.2 with ⟨rfl, _⟩ | ⟨g, c, cur, rfl, _, hc, _⟩
    · exact ⟨none, 0, rfl, Nat.le_refl _, rfl, by simp, fun h => absurd h (by simp)⟩
    · exact ⟨_, c, rfl, hc, rfl, by simp, fun h => absurd h (by simp)⟩
theorem samerids_calls (W : World) (v u : Value) (ks : List S27) (hv : RowR W v ks) (hu : RowR W u ks) (hn : ks.length < 100000) : Calls Try.prog 38 #[v, u] W fun E w' => E = .returned (.bool true) ∧ Below W.heap.size W w' := by
  obtain ⟨A, c, rfl, hc, hC⟩ := rowR_C hv hn
  obtain ⟨A', c', rfl, hc', hC'⟩ := rowR_C hu hn
  refine (interlockref07_SameRids.calls (ks.length + 1) A c ks A' c' ks true W hC hc hC' hc' ?_).mono fun E w' h => ⟨h.1, h.2.below⟩
  unfold interlockref07_SameRids.f
  rw [if_pos rfl]
  exact samerids_l0 ks hn _ 0 (by omega) (by omega)
end Go.Proofs.Bt
end
section
namespace Go.Proofs.Bt
open Go Go.RowKit Go.Proofs.Ytjaddmflopahiaa.Q
set_option linter.unusedVariables false
set_option linter.unusedSimpArgs false
theorem ins_agree {T : ST} (e : S29) (hi : TInvS T) : (tinsS T e).2 = !(found (entS T) e) := by
  obtain ⟨_, _, h3⟩ := tins_ent e hi
  have h4 := found_mem (entS T) e (entS_sorted hi)
  cases h5 : (tinsS T e).2 <;> cases h6 : found (entS T) e <;> rw [h5] at h3 <;> rw [h6] at h4 <;> simp_all
theorem cut_agree {T : ST} (e : S29) (hi : TInvS T) : (tcutS T e).2 = found (entS T) e := by
  obtain ⟨_, _, h3⟩ := tcut_ent e hi
  have h4 := found_mem (entS T) e (entS_sorted hi)
  cases h5 : (tcutS T e).2 <;> cases h6 : found (entS T) e <;> rw [h5] at h3 <;> rw [h6] at h4 <;> simp_all
theorem find_agree {T : ST} (key : ByteArray) (hi : TInvS T) (hf : ∀ x ∈ entS T, Far x) : (entS T).foldl (fst9 key) [] = fnd key (fromS T (lowS key)) := by
  rw [fst9_fnd key _ _ (entS_sorted hi) hf, from_ent T _ hi, List.nil_append]
theorem range_agree {T : ST} (frm hiK : ByteArray) (most : Int) (hi : TInvS T) (hf : ∀ x ∈ entS T, Far x) : (entS T).foldl (wst frm hiK most) [] = rng hiK most (fromS T (lowS frm)) 0 := by
  rw [wst_rng frm hiK most _ _ (entS_sorted hi) hf, from_ent T _ hi, List.nil_append]
  rfl
theorem from_len {T : ST} (e : S29) (hi : TInvS T) : (fromS T e).length ≤ (entS T).length := by
  rw [from_ent T e hi]
  exact List.length_filter_le _ _
theorem fnd_le (k : ByteArray) : ∀ (L : List S29), (fnd k L).length ≤ L.length
  | [] => by simp [fnd]
  | x :: L => by
    have := fnd_le k L
    unfold fnd
    split
    · simp only [List.length_cons]; omega
    · simp
theorem sins_sub {l : List S29} {e z : S29} (h : z ∈ sins l e) : z = e ∨ z ∈ l := mem_sins h
theorem sdel_sub {l : List S29} {e z : S29} (h : z ∈ sdel l e) : z ∈ l := by
  unfold sdel at h
  split at h
  · unfold delAt at h
    rcases List.mem_append.1 h with h | h
    · exact List.mem_of_mem_take h
    · exact List.mem_of_mem_drop h
  · exact h
theorem sins_le (l : List S29) (e : S29) : (sins l e).length ≤ l.length + 1 := by
  unfold sins
  split
  · omega
  · rw [insAt_len _ _ _ (low_le l e)]
    omega
theorem sdel_le (l : List S29) (e : S29) : (sdel l e).length ≤ l.length := by
  unfold sdel
  split
  · rename_i h
    rw [delAt_len _ _ (found_lt h)]
    omega
  · omega
end Go.Proofs.Bt
end
section
namespace Go.Proofs.Ytjaddmflopahiaa.Q
open Go.RowKit Go.Proofs.YtjaddmflopahiaaW.PrintWords Go.Proofs.YtjaddmflopahiaaW.PrintLast Go.Proofs.YtjaddmflopahiaaW.PrintMore
attribute [local go_sem] max2_int min2_int max_two min_two max_three min_three max_four min_four
set_option linter.unusedVariables false
set_option linter.unusedSimpArgs false
def interlocklaw08_great.l0 : Nat → List (S41) → Int → Option (Bool)
  | 0, _, _ => none
  | k + 1, x0, x3 => if x3 < (x0.length : Int) then (if 0 ≤ x3 then (if (((rd_T41 x0 x3).f2.f0).size : Int) > 500 then (some true) else (if (((rd_T41 x0 x3).f3).size : Int) > 500 then (some true) else (interlocklaw08_great.l0 k x0 (wrap64 (x3 + 1))))) else (none)) else (some false)
def interlocklaw08_great.f (k : Nat) (l0 : List (S41)) : Option (Bool) := if (l0.length : Int) > 300 then (some true) else (interlocklaw08_great.l0 k l0 0)
theorem interlocklaw08_great.mono_l : ∀ k, (∀ y0 y1, LeO (interlocklaw08_great.l0 k y0 y1) (interlocklaw08_great.l0 (k + 1) y0 y1))
  | 0 => fun _ _ r h => by simp [interlocklaw08_great.l0] at h
  | k + 1 => by
    have ih0 := interlocklaw08_great.mono_l k
    · intro y0 y1
      unfold interlocklaw08_great.l0
      repeat' first
      | (with_reducible exact ih0 _ _)
      | (with_reducible exact LeO.refl _)
      | (with_reducible exact LeO.none _)
      | (with_reducible refine LeO.ite ?_ ?_)
      | (with_reducible refine LeO.bind ?_ (fun _ => ?_))
      | exact ih0 _ _
      | exact LeO.none _
      | refine LeO.ite ?_ ?_
      | refine LeO.bind ?_ (fun _ => ?_)
theorem interlocklaw08_great.mono : ∀ a0 k, LeO (interlocklaw08_great.f k a0) (interlocklaw08_great.f (k + 1) a0) := by
  intro a0 k
  have ih0 := interlocklaw08_great.mono_l k
  unfold interlocklaw08_great.f
  repeat' first
      | (with_reducible exact ih0 _ _)
      | (with_reducible exact LeO.refl _)
      | (with_reducible exact LeO.none _)
      | (with_reducible refine LeO.ite ?_ ?_)
      | (with_reducible refine LeO.bind ?_ (fun _ => ?_))
      | exact ih0 _ _
      | exact LeO.none _
      | refine LeO.ite ?_ ?_
      | refine LeO.bind ?_ (fun _ => ?_)
set_option maxHeartbeats 8000000 in
set_option maxRecDepth 100000 in
theorem interlocklaw08_great.calls (k : Nat) (A0 : Option Addr) (c0 : Nat) (l0 : List (S41)) (r : Bool) (w : World) (hr0 : Kd.C k41 w A0 l0.length l0) (hc0 : l0.length ≤ c0) (h : interlocklaw08_great.f k l0 = some r) :
    Calls Try.prog 14 #[.slice A0 l0.length c0] w fun e w' => e = .returned (.bool r) ∧ Drawn0 w w' := by
  have HR0 := Aside0.mk hr0
  have HC0 := Aside0.mk hc0
  clear hr0 hc0
  have H : (if (l0.length : Int) > 300 then (some true) else (interlocklaw08_great.l0 k l0 0)) = some r := h
  clear h
  by_cases c2 : (l0.length : Int) > 300
  · rw [if_pos c2] at H
    have c2b0 : decide (300 < (l0.length : Int)) = true := decide_eq_true c2
    have c2b1 : decide (300 < l0.length) = true := decide_eq_true (by omega)
    clear c2
    obtain rfl := Option.some.inj H
    go_enter Try.func14, Try.ntmps14
    go_wp2
    go_ret
    exact ⟨by first | rfl | (simp; done) | (simp [*]; done), by repeat (first | exact Drawn0.refl _ | apply Drawn0.step)⟩
  · rw [if_neg c2] at H
    have c2b0 : decide (300 < (l0.length : Int)) = false := decide_eq_false c2
    have c2b1 : decide (300 < l0.length) = false := decide_eq_false (by omega)
    clear c2
    have H' := Aside0.mk H
    clear H
    go_enter Try.func14, Try.ntmps14
    go_wp2
    go_loopg [3] k (fun kq v3 w' => ∃ (x3_1 : Int), v3 = .int .i64 x3_1 ∧ Aside0 (interlocklaw08_great.l0 kq l0 x3_1 = some r) ∧ Aside0 (kq ≤ k) ∧ Drawn0 w w')
    case atStart => exact ⟨(0), (by first | rfl | (simp; done) | (simp [*]; done)), H', ⟨Nat.le_refl _⟩, by repeat (first | exact Drawn0.refl _ | apply Drawn0.step)⟩
    case round =>
      clear H'
      try clear c1
      try clear c2
      try clear c2b0
      try clear c2b1
      try clear p2
      obtain ⟨x3_1, rfl, HA, HK1, ⟨m1, rfl⟩⟩ := hrel
      cases gk with
      | zero => exact absurd HA.out (by simp [interlocklaw08_great.l0])
      | succ k1 =>
        have H := HA.out
        clear HA
        simp only [interlocklaw08_great.l0] at H
        by_cases c3 : x3_1 < (l0.length : Int)
        · rw [if_pos c3] at H
          have c3b0 : decide (x3_1 < (l0.length : Int)) = true := decide_eq_true c3
          clear c3
          by_cases c4 : 0 ≤ x3_1
          · rw [if_pos c4] at H
            have c4b0 : decide (0 ≤ x3_1) = true := decide_eq_true c4
            clear c4
            by_cases c5 : (((rd_T41 l0 x3_1).f2.f0).size : Int) > 500
            · rw [if_pos c5] at H
              have c5b0 : decide (500 < (((rd_T41 l0 x3_1).f2.f0).size : Int)) = true := decide_eq_true c5
              have c5b1 : decide (500 < ((rd_T41 l0 x3_1).f2.f0).size) = true := decide_eq_true (by omega)
              clear c5
              obtain rfl := Option.some.inj H
              have p129 : 0 ≤ (x3_1 : Int) := of_decide_eq_true (by first | (with_reducible assumption) | assumption)
              have q129 : x3_1 < (l0.length : Int) := of_decide_eq_true (by first | (with_reducible assumption) | assumption)
              obtain ⟨ad129, e129, hx129_0, hx129_1, hx129_2, hx129_3, hx129_4, hx129_5⟩ := at_T41 HR0.out x3_1 p129 q129
              cases e129
              replace p129 := eq_true p129
              replace q129 := eq_true q129
              go_wp2
              go_ret
              exact ⟨by first | rfl | (simp; done) | (simp [*]; done), by repeat (first | exact Drawn0.refl _ | apply Drawn0.step)⟩
            · rw [if_neg c5] at H
              have c5b0 : decide (500 < (((rd_T41 l0 x3_1).f2.f0).size : Int)) = false := decide_eq_false c5
              have c5b1 : decide (500 < ((rd_T41 l0 x3_1).f2.f0).size) = false := decide_eq_false (by omega)
              clear c5
              by_cases c6 : (((rd_T41 l0 x3_1).f3).size : Int) > 500
              · rw [if_pos c6] at H
                have c6b0 : decide (500 < (((rd_T41 l0 x3_1).f3).size : Int)) = true := decide_eq_true c6
                have c6b1 : decide (500 < ((rd_T41 l0 x3_1).f3).size) = true := decide_eq_true (by omega)
                clear c6
                obtain rfl := Option.some.inj H
                have p129 : 0 ≤ (x3_1 : Int) := of_decide_eq_true (by first | (with_reducible assumption) | assumption)
                have q129 : x3_1 < (l0.length : Int) := of_decide_eq_true (by first | (with_reducible assumption) | assumption)
                obtain ⟨ad129, e129, hx129_0, hx129_1, hx129_2, hx129_3, hx129_4, hx129_5⟩ := at_T41 HR0.out x3_1 p129 q129
                cases e129
                replace p129 := eq_true p129
                replace q129 := eq_true q129
                have p130 : 0 ≤ (x3_1 : Int) := of_decide_eq_true (by first | (with_reducible assumption) | assumption)
                have q130 : x3_1 < (l0.length : Int) := of_decide_eq_true (by first | (with_reducible assumption) | assumption)
                obtain ⟨ad130, e130, hx130_0, hx130_1, hx130_2, hx130_3, hx130_4, hx130_5⟩ := at_T41 HR0.out x3_1 p130 q130
                obtain rfl : ad129 = ad130 := (by injection e130)
                replace p130 := eq_true p130
                replace q130 := eq_true q130
                go_wp2
                go_ret
                exact ⟨by first | rfl | (simp; done) | (simp [*]; done), by repeat (first | exact Drawn0.refl _ | apply Drawn0.step)⟩
              · rw [if_neg c6] at H
                have c6b0 : decide (500 < (((rd_T41 l0 x3_1).f3).size : Int)) = false := decide_eq_false c6
                have c6b1 : decide (500 < ((rd_T41 l0 x3_1).f3).size) = false := decide_eq_false (by omega)
                clear c6
                have H' := Aside0.mk H
                clear H
                have p129 : 0 ≤ (x3_1 : Int) := of_decide_eq_true (by first | (with_reducible assumption) | assumption)
                have q129 : x3_1 < (l0.length : Int) := of_decide_eq_true (by first | (with_reducible assumption) | assumption)
                obtain ⟨ad129, e129, hx129_0, hx129_1, hx129_2, hx129_3, hx129_4, hx129_5⟩ := at_T41 HR0.out x3_1 p129 q129
                cases e129
                replace p129 := eq_true p129
                replace q129 := eq_true q129
                have p130 : 0 ≤ (x3_1 : Int) := of_decide_eq_true (by first | (with_reducible assumption) | assumption)
                have q130 : x3_1 < (l0.length : Int) := of_decide_eq_true (by first | (with_reducible assumption) | assumption)
                obtain ⟨ad130, e130, hx130_0, hx130_1, hx130_2, hx130_3, hx130_4, hx130_5⟩ := at_T41 HR0.out x3_1 p130 q130
                obtain rfl : ad129 = ad130 := (by injection e130)
                replace p130 := eq_true p130
                replace q130 := eq_true q130
                go_wp2
                go_roundg k1
                case measure => have := HK1.out; omega
                case rel => exact ⟨(wrap64 (x3_1 + 1)), (by first | rfl | (simp; done) | (simp [*]; done)), H', ⟨by have := HK1.out; omega⟩, by repeat (first | exact Drawn0.refl _ | apply Drawn0.step)⟩
          · rw [if_neg c4] at H
            exact absurd H (by simp)
        · rw [if_neg c3] at H
          have c3b0 : decide (x3_1 < (l0.length : Int)) = false := decide_eq_false c3
          clear c3
          obtain rfl := Option.some.inj H
          go_wp2
          go_ret
          exact ⟨by first | rfl | (simp; done) | (simp [*]; done), by repeat (first | exact Drawn0.refl _ | apply Drawn0.step)⟩
end Go.Proofs.Ytjaddmflopahiaa.Q
end
section
namespace Go.Proofs.Bt
open Go Go.RowKit Go.Proofs.Ytjaddmflopahiaa.Q Go.Proofs.YtjaddmflopahiaaW.PrintWords
set_option linter.unusedVariables false
set_option linter.unusedSimpArgs false
abbrev S41 := Go.Proofs.Ytjaddmflopahiaa.Q.S41
def bigC (x : S41) : Bool := decide (500 < x.f2.f0.size ∨ 500 < x.f3.size)
def greatB (l : List S41) : Bool := decide (300 < l.length) || l.any bigC
theorem great_l0 (l : List S41) (hn : l.length ≤ 300) : ∀ (k i : Nat), i ≤ l.length → l.length < i + k → interlocklaw08_great.l0 k l (i : Int) = some ((l.drop i).any bigC)
  | 0, i, h1, h2 => by omega
  | k + 1, i, h1, h2 => by
    unfold interlocklaw08_great.l0
    by_cases h : i < l.length
    · obtain ⟨x, hx⟩ : ∃ x, l[i]? = some x := ⟨_, List.getElem?_eq_getElem h⟩
      have hrx : rd_T41 l (i : Int) = x := by simp [rd_T41, List.getD_eq_getElem?_getD, hx]
      have hd : l.drop i = x :: l.drop (i + 1) := by
        rw [List.drop_eq_getElem_cons h]
        congr 1
        rw [List.getElem?_eq_getElem h] at hx
        exact Option.some.inj hx
      rw [if_pos (by omega), if_pos (by omega), hrx, hd, List.any_cons]
      by_cases h3 : 500 < x.f2.f0.size
      · rw [if_pos (by omega)]
        have : bigC x = true := decide_eq_true (.inl h3)
        rw [this, Bool.true_or]
      · rw [if_neg (by omega)]
        by_cases h4 : 500 < x.f3.size
        · rw [if_pos (by omega)]
          have : bigC x = true := decide_eq_true (.inr h4)
          rw [this, Bool.true_or]
        · rw [if_neg (by omega)]
          have : bigC x = false := decide_eq_false (by omega)
          rw [this, Bool.false_or, show wrap64 ((i : Int) + 1) = ((i + 1 : Nat) : Int) by rw [IntWalk.wrap64_in _ (by omega)]; omega]
          exact great_l0 l hn k (i + 1) (by omega) (by omega)
    · rw [if_neg (by omega), List.drop_eq_nil_of_le (by omega)]
      rfl
theorem great_calls (w : World) (A : Option Addr) (n c : Nat) (l : List S41) (hn : l.length = n) (hC : Kd.C k41 w A n l) (hc : n ≤ c) : Calls Try.prog 14 #[.slice A n c] w fun E w' => E = .returned (.bool (greatB l)) ∧ Below w.heap.size w w' := by
  subst hn
  refine (interlocklaw08_great.calls (l.length + 1) A c l (greatB l) w hC hc ?_).mono fun E w' h => ⟨h.1, h.2.below⟩
  unfold interlocklaw08_great.f greatB
  by_cases h : 300 < l.length
  · rw [if_pos (by omega), decide_eq_true h, Bool.true_or]
  · rw [if_neg (by omega), decide_eq_false h, Bool.false_or]
    exact great_l0 l (by omega) _ 0 (by omega) (by omega)
theorem great_no {l : List S41} (h : greatB l = false) : l.length ≤ 300 ∧ ∀ x ∈ l, x.f2.f0.size ≤ 500 ∧ x.f3.size ≤ 500 := by
  unfold greatB at h
  rw [Bool.or_eq_false_iff, decide_eq_false_iff_not, List.any_eq_false] at h
  refine ⟨by omega, fun x hx => ?_⟩
  have := h.2 x hx
  unfold bigC at this
  rw [decide_eq_true_eq] at this
  omega
end Go.Proofs.Bt
end
section
namespace Go.Proofs.Bt
open Go Go.RowKit Go.Proofs.Ytjaddmflopahiaa.Q Go.Proofs.YtjaddmflopahiaaW.PrintWords Go.Proofs.YtjaddmflopahiaaW.PrintLast Go.Proofs.YtjaddmflopahiaaW.PrintMore
set_option linter.unusedVariables false
set_option linter.unusedSimpArgs false
set_option maxRecDepth 100000
def callL (x : S41) : Array Value := #[.int .i64 x.f0, .int .i64 x.f1, .string x.f2.f0, .int .i64 x.f2.f1.f0, .int .i64 x.f2.f1.f1, .string x.f3]
def callV (x : S41) : Value := .agg (callL x)
section
variable {w0 W W' : World} {F : Nat → Prop} {tp rp : Nat} {T : ST} {cnt : Int} {R R' : List Chunk} {v : Value} {ks : List S29} {c : Chunk}
theorem TS.perm (s : TS w0 F W tp T cnt R) (h : R.Perm R') : TS w0 F W tp T cnt R' := s.upd fun X hX => hX.perm (h.append_right X)
theorem TS.drop1 (s : TS w0 F W tp T cnt (refC rp v ks ++ (c :: R))) : TS w0 F W tp T cnt (refC rp v ks ++ R) :=
  (s.perm (List.perm_middle (a := c) (l₁ := refC rp v ks) (l₂ := R))).upd fun X hX => St.drop (A := [c]) hX
theorem TS.box (s : TS w0 F W tp T cnt (refC rp v ks ++ R)) (C : Array Value) (ty : TypeId) {n : Nat} (hn : W.heap.size = n) : TS w0 F (W.alloc (.cells C ty)) tp T cnt (refC rp v ks ++ (blkC n (.cells C ty (0, 0)) :: R)) :=
  TS.perm (R := blkC n (.cells C ty (0, 0)) :: (refC rp v ks ++ R)) (s.upd fun X hX => (hX.alloc C ty hn).perm (List.perm_append_singleton _ _)) (List.perm_middle (a := blkC n (.cells C ty (0, 0))) (l₁ := refC rp v ks) (l₂ := R)).symm
end
theorem cells41 {W : World} {b : Nat} {x : S41} (h : W.heap[b]? = some (.cells (callL x) 41 (0, 0))) :
    W.cell? ⟨b, 0, none⟩ = some (.int .i64 x.f0) ∧ W.cell? ⟨b, 1, none⟩ = some (.int .i64 x.f1) ∧ W.cell? ⟨b, 2, none⟩ = some (.string x.f2.f0) ∧ W.cell? ⟨b, 3, none⟩ = some (.int .i64 x.f2.f1.f0) ∧ W.cell? ⟨b, 4, none⟩ = some (.int .i64 x.f2.f1.f1) ∧ W.cell? ⟨b, 5, none⟩ = some (.string x.f3) :=
  ⟨(blk_cell h 0).trans rfl, (blk_cell h 1).trans rfl, (blk_cell h 2).trans rfl, (blk_cell h 3).trans rfl, (blk_cell h 4).trans rfl, (blk_cell h 5).trans rfl⟩
def ToldPost (w0 : World) (F : Nat → Prop) (tp rp : Nat) (L : List S29) (e : S29) (R : List Chunk) (E : Ending) (w' : World) : Prop :=
  E = .returned (.bool true) ∧ ∃ T v, TInvS T ∧ (entS T).length ≤ L.length + 1 ∧ (∀ z ∈ entS T, z = e ∨ z ∈ L) ∧ TS w0 F w' tp T ((entS T).length : Int) (refC rp v (entS T) ++ R)
set_option maxHeartbeats 4000000 in
theorem told_calls (w w0 : World) (F : Nat → Prop) (tp rp : Nat) (T : ST) (v : Value) (R : List Chunk) (x : S41) (s : TS w0 F w tp T ((entS T).length : Int) (refC rp v (entS T) ++ R)) (hi : TInvS T)
    (hn : (entS T).length < 9000) (hks : ∀ z ∈ entS T, z.f0.size < 1000000) (hf : ∀ z ∈ entS T, Far z) (he : x.f2.f0.size < 1000000) (ht : x.f3.size < 1000000) :
    Calls Try.prog 24 #[.pointer (some ⟨tp, 0, none⟩), .pointer (some ⟨rp, 0, none⟩), callV x] w (ToldPost w0 F tp rp (entS T) x.f2 R) := by
  have mixed : Try.prog.follows Departure.mixedOrders = true := by kernel_rfl
  have hu29 := Try.underlying29
  have hu41 := Try.underlying41
  obtain ⟨wh, mo, ⟨e0, e1⟩, tq⟩ := x
  obtain ⟨P, hP⟩ : ∃ P, ToldPost w0 F tp rp (entS T) ⟨e0, e1⟩ R = P := ⟨_, rfl⟩
  have HP := Aside0.mk hP
  show Calls _ _ _ _ (ToldPost w0 F tp rp (entS T) ⟨e0, e1⟩ R)
  rw [hP]
  obtain ⟨bx, hbx⟩ : ∃ b, w.heap.size = b := ⟨_, rfl⟩
  have hs := s.box (callL ⟨wh, mo, ⟨e0, e1⟩, tq⟩) 41 hbx
  obtain ⟨wa, hwa⟩ : ∃ wa, w.alloc (.cells (callL ⟨wh, mo, ⟨e0, e1⟩, tq⟩) 41) = wa := ⟨_, rfl⟩
  rw [hwa] at hs
  unfold callL at hwa
  dsimp only at hwa
  obtain ⟨c0, c1, c2, c3, c4, c5⟩ := cells41 (hs.rest.blk 2 rfl)
  have HS := Aside0.mk hs
  have HI := Aside0.mk hi
  have HN := Aside0.mk hn
  have HKS := Aside0.mk hks
  have HFR := Aside0.mk hf
  have HE := Aside0.mk (show e0.size < 1000000 from he)
  have HT := Aside0.mk (show tq.size < 1000000 from ht)
  clear hP s hi hs hn hks hf he ht
  unfold callV callL
  by_cases h0 : wh = 0
  · subst h0
    go_enter Try.func24, Try.ntmps24
    go_wp2
    clear c0 c1 c2 c3 c4 c5
    try rw [hwa]
    clear hwa
    replace HS := Aside0.mk (HS.out.below (⟨rfl, rfl, rfl, Nat.le_refl _, fun _ _ => rfl⟩ : Below wa.heap.size wa wa.drew))
    refine start_ (n := 10) (S := fun w' => w'.cell? ⟨bx, 0, none⟩ = some (.int .i64 0) ∧ w'.cell? ⟨bx, 1, none⟩ = some (.int .i64 mo) ∧ w'.cell? ⟨bx, 2, none⟩ = some (.string e0) ∧ w'.cell? ⟨bx, 3, none⟩ = some (.int .i64 e1.f0) ∧ w'.cell? ⟨bx, 4, none⟩ = some (.int .i64 e1.f1) ∧ w'.cell? ⟨bx, 5, none⟩ = some (.string tq)) (ds := []) #[false, false, false, false, false, false, false, false, false, false] (by kernel_rfl) rfl rfl (cells41 (x := ⟨0, mo, ⟨e0, e1⟩, tq⟩) (HS.out.rest.blk 2 rfl)) (fun hHeld => ?_)
    refine pure_ (i := 0) (N := (some 11)) (v := ?_) (a' := ?_) #[true, false, false, false, false, false, false, false, false, false] rfl rfl (by kernel_rfl) (fun _ _ _ h => h) (Or.inl ⟨by rfl, ?_⟩) ?_ ?_
    rotate_left
    · intro w'
      go_simp
      with_reducible rfl
    rotate_left
    · simp only [Act.put, List.setIfInBounds_toArray, List.set_cons_zero, List.set_cons_succ, i64_w, i32_w]
      rfl
    refine pure_ (i := 1) (N := (some 12)) (v := ?_) (a' := ?_) #[true, true, false, false, false, false, false, false, false, false] rfl rfl (by kernel_rfl) (fun _ _ _ h => h) (Or.inl ⟨by rfl, ?_⟩) ?_ ?_
    rotate_left
    · intro w'
      go_simp
      with_reducible rfl
    rotate_left
    · simp only [Act.put, List.setIfInBounds_toArray, List.set_cons_zero, List.set_cons_succ, i64_w, i32_w]
      rfl
    refine pure_ (i := 4) (N := (some 15)) (v := ?_) (a' := ?_) #[true, true, false, false, true, false, false, false, false, false] rfl rfl (by kernel_rfl) (fun _ _ _ h => h) (Or.inl ⟨by rfl, ?_⟩) ?_ ?_
    rotate_left
    · intro w'
      go_simp
      with_reducible rfl
    rotate_left
    · simp only [Act.put, List.setIfInBounds_toArray, List.set_cons_zero, List.set_cons_succ, i64_w, i32_w]
      rfl
    refine pure_ (i := 5) (N := (some 16)) (v := ?_) (a' := ?_) #[true, true, false, false, true, true, false, false, false, false] rfl rfl (by kernel_rfl) (fun _ _ _ h => h) (Or.inl ⟨by rfl, ?_⟩) ?_ ?_
    rotate_left
    · intro w'
      go_simp
      with_reducible rfl
    rotate_left
    · simp only [Act.put, List.setIfInBounds_toArray, List.set_cons_zero, List.set_cons_succ, i64_w, i32_w]
      rfl
    refine take_ (i := 2) (N := (some 13)) (v := ?_) (a' := ?_) #[true, true, true, false, true, true, false, false, false, false] rfl rfl (by kernel_rfl) (fun _ _ _ h => h) (Or.inl ⟨by rfl, ?_⟩) hHeld ?_ ?_
    rotate_left
    · rintro w' ⟨s0, s1, s2, s3, s4, s5⟩
      go_simp
      with_reducible rfl
    rotate_left
    · simp only [Act.put, List.setIfInBounds_toArray, List.set_cons_zero, List.set_cons_succ, i64_w, i32_w]
      rfl
    refine take_ (i := 6) (N := (some 17)) (v := ?_) (a' := ?_) #[true, true, true, false, true, true, true, false, false, false] rfl rfl (by kernel_rfl) (fun _ _ _ h => h) (Or.inl ⟨by rfl, ?_⟩) hHeld ?_ ?_
    rotate_left
    · rintro w' ⟨s0, s1, s2, s3, s4, s5⟩
      go_simp
      with_reducible rfl
    rotate_left
    · simp only [Act.put, List.setIfInBounds_toArray, List.set_cons_zero, List.set_cons_succ, i64_w, i32_w]
      rfl
    refine one_ (i := 3) (N := (some 14)) #[true, true, true, true, true, true, true, false, false, false] rfl rfl (by kernel_rfl) (by decide) (fun K_ hK => ?_)
    refine goes_ Try.func11 (by kernel_rfl) rfl #[.pointer (some ⟨tp, 0, none⟩), entryV ⟨e0, e1⟩] (by rfl) rfl rfl (by (try simp only [List.map_toArray, List.map_cons, List.map_nil]); first | done | rfl) ?_
    refine (insert_ts _ w0 F tp T _ _ ⟨e0, e1⟩ HS.out HI.out (by omega) (by have := HN.out; omega)).mono ?_
    rw [ins_agree _ HI.out]
    rintro E w2 ⟨rfl, hs2⟩
    rw [← ins_agree _ HI.out, tins_count _ HI.out rfl] at hs2
    have HS2 := Aside0.mk hs2
    clear hs2
    refine ⟨_, rfl, ?_⟩
    clear hHeld
    refine hK.out _ _ ((cells41 (x := ⟨0, mo, ⟨e0, e1⟩, tq⟩) (HS2.out.rest.blk 2 rfl))) (fun hHeld => ?_)
    clear hK K_
    refine norm_ (a' := ?_) ?_ ?_
    rotate_left
    · show Act.put _ (some 14) _ = _
      simp only [Act.put, List.setIfInBounds_toArray, List.set_cons_zero, List.set_cons_succ, i64_w, i32_w]
      rfl
    refine one_ (i := 7) (N := (some 18)) #[true, true, true, true, true, true, true, true, false, false] rfl rfl (by kernel_rfl) (by decide) (fun K_ hK => ?_)
    refine goes_ Try.func35 (by kernel_rfl) rfl #[.pointer (some ⟨rp, 0, none⟩), entryV ⟨e0, e1⟩] (by rfl) rfl rfl (by (try simp only [List.map_toArray, List.map_cons, List.map_nil]); first | done | rfl) ?_
    refine (refinsert_ts _ w0 F tp rp _ _ v (entS T) _ ⟨e0, e1⟩ HS2.out (by have := HN.out; omega) HKS.out HE.out).mono ?_
    rintro E w3 ⟨v', rfl, hs3⟩
    have HS3 := Aside0.mk hs3
    clear hs3
    refine ⟨_, rfl, ?_⟩
    clear hHeld
    refine hK.out _ _ ((cells41 (x := ⟨0, mo, ⟨e0, e1⟩, tq⟩) (HS3.out.rest.blk 2 rfl))) (fun hHeld => ?_)
    clear hK K_
    refine norm_ (a' := ?_) ?_ ?_
    rotate_left
    · show Act.put _ (some 18) _ = _
      simp only [Act.put, List.setIfInBounds_toArray, List.set_cons_zero, List.set_cons_succ, i64_w, i32_w]
      rfl
    refine pure_ (i := 8) (N := (some 19)) (v := ?_) (a' := ?_) #[true, true, true, true, true, true, true, true, true, false] rfl rfl (by kernel_rfl) (fun _ _ _ h => h) (Or.inl ⟨by rfl, ?_⟩) ?_ ?_
    rotate_left
    · intro w'
      go_simp
      with_reducible rfl
    rotate_left
    · simp only [Act.put, List.setIfInBounds_toArray, List.set_cons_zero, List.set_cons_succ, i64_w, i32_w]
      rfl
    refine pure_ (i := 9) (N := (some 6)) (v := ?_) (a' := ?_) #[true, true, true, true, true, true, true, true, true, true] rfl rfl (by kernel_rfl) (fun _ _ _ h => h) (Or.inl ⟨by rfl, ?_⟩) ?_ ?_
    rotate_left
    · intro w'
      go_simp
      with_reducible rfl
    rotate_left
    · simp only [Act.put, List.setIfInBounds_toArray, List.set_cons_zero, List.set_cons_succ, i64_w, i32_w]
      rfl
    refine done_ (by kernel_rfl) ?_
    go_wp2
    first | (rw [← HP.out]) | (go_ret; rw [← HP.out])
    have hl := (tins_ent ⟨e0, e1⟩ HI.out)
    have hq := HS3.out
    rw [← hl.2.1] at hq
    exact ⟨by simp, (tinsS T ⟨e0, e1⟩).1, v', hl.1, by rw [hl.2.1]; exact sins_le _ _, fun z hz => sins_sub (by rw [← hl.2.1]; exact hz), hq.drop1⟩
  have q0 : (wh == 0) = false := by simp [h0]
  by_cases h1 : wh = 1
  · subst h1
    go_enter Try.func24, Try.ntmps24
    go_wp2
    clear c0 c1 c2 c3 c4 c5
    try rw [hwa]
    clear hwa
    replace HS := Aside0.mk (HS.out.below (⟨rfl, rfl, rfl, Nat.le_refl _, fun _ _ => rfl⟩ : Below wa.heap.size wa wa.drew))
    refine start_ (n := 10) (S := fun w' => w'.cell? ⟨bx, 0, none⟩ = some (.int .i64 1) ∧ w'.cell? ⟨bx, 1, none⟩ = some (.int .i64 mo) ∧ w'.cell? ⟨bx, 2, none⟩ = some (.string e0) ∧ w'.cell? ⟨bx, 3, none⟩ = some (.int .i64 e1.f0) ∧ w'.cell? ⟨bx, 4, none⟩ = some (.int .i64 e1.f1) ∧ w'.cell? ⟨bx, 5, none⟩ = some (.string tq)) (ds := []) #[false, false, false, false, false, false, false, false, false, false] (by kernel_rfl) rfl rfl (cells41 (x := ⟨1, mo, ⟨e0, e1⟩, tq⟩) (HS.out.rest.blk 2 rfl)) (fun hHeld => ?_)
    refine pure_ (i := 0) (N := (some 22)) (v := ?_) (a' := ?_) #[true, false, false, false, false, false, false, false, false, false] rfl rfl (by kernel_rfl) (fun _ _ _ h => h) (Or.inl ⟨by rfl, ?_⟩) ?_ ?_
    rotate_left
    · intro w'
      go_simp
      with_reducible rfl
    rotate_left
    · simp only [Act.put, List.setIfInBounds_toArray, List.set_cons_zero, List.set_cons_succ, i64_w, i32_w]
      rfl
    refine pure_ (i := 1) (N := (some 23)) (v := ?_) (a' := ?_) #[true, true, false, false, false, false, false, false, false, false] rfl rfl (by kernel_rfl) (fun _ _ _ h => h) (Or.inl ⟨by rfl, ?_⟩) ?_ ?_
    rotate_left
    · intro w'
      go_simp
      with_reducible rfl
    rotate_left
    · simp only [Act.put, List.setIfInBounds_toArray, List.set_cons_zero, List.set_cons_succ, i64_w, i32_w]
      rfl
    refine pure_ (i := 4) (N := (some 26)) (v := ?_) (a' := ?_) #[true, true, false, false, true, false, false, false, false, false] rfl rfl (by kernel_rfl) (fun _ _ _ h => h) (Or.inl ⟨by rfl, ?_⟩) ?_ ?_
    rotate_left
    · intro w'
      go_simp
      with_reducible rfl
    rotate_left
    · simp only [Act.put, List.setIfInBounds_toArray, List.set_cons_zero, List.set_cons_succ, i64_w, i32_w]
      rfl
    refine pure_ (i := 5) (N := (some 27)) (v := ?_) (a' := ?_) #[true, true, false, false, true, true, false, false, false, false] rfl rfl (by kernel_rfl) (fun _ _ _ h => h) (Or.inl ⟨by rfl, ?_⟩) ?_ ?_
    rotate_left
    · intro w'
      go_simp
      with_reducible rfl
    rotate_left
    · simp only [Act.put, List.setIfInBounds_toArray, List.set_cons_zero, List.set_cons_succ, i64_w, i32_w]
      rfl
    refine take_ (i := 2) (N := (some 24)) (v := ?_) (a' := ?_) #[true, true, true, false, true, true, false, false, false, false] rfl rfl (by kernel_rfl) (fun _ _ _ h => h) (Or.inl ⟨by rfl, ?_⟩) hHeld ?_ ?_
    rotate_left
    · rintro w' ⟨s0, s1, s2, s3, s4, s5⟩
      go_simp
      with_reducible rfl
    rotate_left
    · simp only [Act.put, List.setIfInBounds_toArray, List.set_cons_zero, List.set_cons_succ, i64_w, i32_w]
      rfl
    refine take_ (i := 6) (N := (some 28)) (v := ?_) (a' := ?_) #[true, true, true, false, true, true, true, false, false, false] rfl rfl (by kernel_rfl) (fun _ _ _ h => h) (Or.inl ⟨by rfl, ?_⟩) hHeld ?_ ?_
    rotate_left
    · rintro w' ⟨s0, s1, s2, s3, s4, s5⟩
      go_simp
      with_reducible rfl
    rotate_left
    · simp only [Act.put, List.setIfInBounds_toArray, List.set_cons_zero, List.set_cons_succ, i64_w, i32_w]
      rfl
    refine one_ (i := 3) (N := (some 25)) #[true, true, true, true, true, true, true, false, false, false] rfl rfl (by kernel_rfl) (by decide) (fun K_ hK => ?_)
    refine goes_ Try.func15 (by kernel_rfl) rfl #[.pointer (some ⟨tp, 0, none⟩), entryV ⟨e0, e1⟩] (by rfl) rfl rfl (by (try simp only [List.map_toArray, List.map_cons, List.map_nil]); first | done | rfl) ?_
    refine (delete_ts _ w0 F tp T _ _ ⟨e0, e1⟩ HS.out HI.out (by omega) (by have := HN.out; omega)).mono ?_
    rw [cut_agree _ HI.out]
    rintro E w2 ⟨rfl, hs2⟩
    rw [← cut_agree _ HI.out, tcut_count _ HI.out rfl] at hs2
    have HS2 := Aside0.mk hs2
    clear hs2
    refine ⟨_, rfl, ?_⟩
    clear hHeld
    refine hK.out _ _ ((cells41 (x := ⟨1, mo, ⟨e0, e1⟩, tq⟩) (HS2.out.rest.blk 2 rfl))) (fun hHeld => ?_)
    clear hK K_
    refine norm_ (a' := ?_) ?_ ?_
    rotate_left
    · show Act.put _ (some 25) _ = _
      simp only [Act.put, List.setIfInBounds_toArray, List.set_cons_zero, List.set_cons_succ, i64_w, i32_w]
      rfl
    refine one_ (i := 7) (N := (some 29)) #[true, true, true, true, true, true, true, true, false, false] rfl rfl (by kernel_rfl) (by decide) (fun K_ hK => ?_)
    refine goes_ Try.func36 (by kernel_rfl) rfl #[.pointer (some ⟨rp, 0, none⟩), entryV ⟨e0, e1⟩] (by rfl) rfl rfl (by (try simp only [List.map_toArray, List.map_cons, List.map_nil]); first | done | rfl) ?_
    refine (refdelete_ts _ w0 F tp rp _ _ v (entS T) _ ⟨e0, e1⟩ HS2.out (by have := HN.out; omega) HKS.out HE.out).mono ?_
    rintro E w3 ⟨v', rfl, hs3⟩
    have HS3 := Aside0.mk hs3
    clear hs3
    refine ⟨_, rfl, ?_⟩
    clear hHeld
    refine hK.out _ _ ((cells41 (x := ⟨1, mo, ⟨e0, e1⟩, tq⟩) (HS3.out.rest.blk 2 rfl))) (fun hHeld => ?_)
    clear hK K_
    refine norm_ (a' := ?_) ?_ ?_
    rotate_left
    · show Act.put _ (some 29) _ = _
      simp only [Act.put, List.setIfInBounds_toArray, List.set_cons_zero, List.set_cons_succ, i64_w, i32_w]
      rfl
    refine pure_ (i := 8) (N := (some 30)) (v := ?_) (a' := ?_) #[true, true, true, true, true, true, true, true, true, false] rfl rfl (by kernel_rfl) (fun _ _ _ h => h) (Or.inl ⟨by rfl, ?_⟩) ?_ ?_
    rotate_left
    · intro w'
      go_simp
      with_reducible rfl
    rotate_left
    · simp only [Act.put, List.setIfInBounds_toArray, List.set_cons_zero, List.set_cons_succ, i64_w, i32_w]
      rfl
    refine pure_ (i := 9) (N := (some 6)) (v := ?_) (a' := ?_) #[true, true, true, true, true, true, true, true, true, true] rfl rfl (by kernel_rfl) (fun _ _ _ h => h) (Or.inl ⟨by rfl, ?_⟩) ?_ ?_
    rotate_left
    · intro w'
      go_simp
      with_reducible rfl
    rotate_left
    · simp only [Act.put, List.setIfInBounds_toArray, List.set_cons_zero, List.set_cons_succ, i64_w, i32_w]
      rfl
    refine done_ (by kernel_rfl) ?_
    go_wp2
    first | (rw [← HP.out]) | (go_ret; rw [← HP.out])
    have hl := (tcut_ent ⟨e0, e1⟩ HI.out)
    have hq := HS3.out
    rw [← hl.2.1] at hq
    exact ⟨by simp, (tcutS T ⟨e0, e1⟩).1, v', hl.1, by rw [hl.2.1]; exact Nat.le_succ_of_le (sdel_le _ _), fun z hz => .inr (sdel_sub (by rw [← hl.2.1]; exact hz)), hq.drop1⟩
  have q1 : (wh == 1) = false := by simp [h1]
  by_cases h2 : wh = 2
  · subst h2
    go_enter Try.func24, Try.ntmps24
    go_wp2
    clear c0 c1 c2 c3 c4 c5
    try rw [hwa]
    clear hwa
    replace HS := Aside0.mk (HS.out.below (⟨rfl, rfl, rfl, Nat.le_refl _, fun _ _ => rfl⟩ : Below wa.heap.size wa wa.drew))
    refine start_ (n := 10) (S := fun w' => w'.cell? ⟨bx, 0, none⟩ = some (.int .i64 2) ∧ w'.cell? ⟨bx, 1, none⟩ = some (.int .i64 mo) ∧ w'.cell? ⟨bx, 2, none⟩ = some (.string e0) ∧ w'.cell? ⟨bx, 3, none⟩ = some (.int .i64 e1.f0) ∧ w'.cell? ⟨bx, 4, none⟩ = some (.int .i64 e1.f1) ∧ w'.cell? ⟨bx, 5, none⟩ = some (.string tq)) (ds := []) #[false, false, false, false, false, false, false, false, false, false] (by kernel_rfl) rfl rfl (cells41 (x := ⟨2, mo, ⟨e0, e1⟩, tq⟩) (HS.out.rest.blk 2 rfl)) (fun hHeld => ?_)
    refine pure_ (i := 0) (N := (some 33)) (v := ?_) (a' := ?_) #[true, false, false, false, false, false, false, false, false, false] rfl rfl (by kernel_rfl) (fun _ _ _ h => h) (Or.inl ⟨by rfl, ?_⟩) ?_ ?_
    rotate_left
    · intro w'
      go_simp
      with_reducible rfl
    rotate_left
    · simp only [Act.put, List.setIfInBounds_toArray, List.set_cons_zero, List.set_cons_succ, i64_w, i32_w]
      rfl
    refine pure_ (i := 1) (N := (some 34)) (v := ?_) (a' := ?_) #[true, true, false, false, false, false, false, false, false, false] rfl rfl (by kernel_rfl) (fun _ _ _ h => h) (Or.inl ⟨by rfl, ?_⟩) ?_ ?_
    rotate_left
    · intro w'
      go_simp
      with_reducible rfl
    rotate_left
    · simp only [Act.put, List.setIfInBounds_toArray, List.set_cons_zero, List.set_cons_succ, i64_w, i32_w]
      rfl
    refine pure_ (i := 4) (N := (some 37)) (v := ?_) (a' := ?_) #[true, true, false, false, true, false, false, false, false, false] rfl rfl (by kernel_rfl) (fun _ _ _ h => h) (Or.inl ⟨by rfl, ?_⟩) ?_ ?_
    rotate_left
    · intro w'
      go_simp
      with_reducible rfl
    rotate_left
    · simp only [Act.put, List.setIfInBounds_toArray, List.set_cons_zero, List.set_cons_succ, i64_w, i32_w]
      rfl
    refine pure_ (i := 5) (N := (some 38)) (v := ?_) (a' := ?_) #[true, true, false, false, true, true, false, false, false, false] rfl rfl (by kernel_rfl) (fun _ _ _ h => h) (Or.inl ⟨by rfl, ?_⟩) ?_ ?_
    rotate_left
    · intro w'
      go_simp
      with_reducible rfl
    rotate_left
    · simp only [Act.put, List.setIfInBounds_toArray, List.set_cons_zero, List.set_cons_succ, i64_w, i32_w]
      rfl
    refine take_ (i := 2) (N := (some 35)) (v := ?_) (a' := ?_) #[true, true, true, false, true, true, false, false, false, false] rfl rfl (by kernel_rfl) (fun _ _ _ h => h) (Or.inl ⟨by rfl, ?_⟩) hHeld ?_ ?_
    rotate_left
    · rintro w' ⟨s0, s1, s2, s3, s4, s5⟩
      go_simp
      with_reducible rfl
    rotate_left
    · simp only [Act.put, List.setIfInBounds_toArray, List.set_cons_zero, List.set_cons_succ, i64_w, i32_w]
      rfl
    refine take_ (i := 6) (N := (some 39)) (v := ?_) (a' := ?_) #[true, true, true, false, true, true, true, false, false, false] rfl rfl (by kernel_rfl) (fun _ _ _ h => h) (Or.inl ⟨by rfl, ?_⟩) hHeld ?_ ?_
    rotate_left
    · rintro w' ⟨s0, s1, s2, s3, s4, s5⟩
      go_simp
      with_reducible rfl
    rotate_left
    · simp only [Act.put, List.setIfInBounds_toArray, List.set_cons_zero, List.set_cons_succ, i64_w, i32_w]
      rfl
    refine one_ (i := 3) (N := (some 36)) #[true, true, true, true, true, true, true, false, false, false] rfl rfl (by kernel_rfl) (by decide) (fun K_ hK => ?_)
    refine goes_ Try.func20 (by kernel_rfl) rfl #[.pointer (some ⟨tp, 0, none⟩), entryV ⟨e0, e1⟩] (by rfl) rfl rfl (by (try simp only [List.map_toArray, List.map_cons, List.map_nil]); first | done | rfl) ?_
    refine (has_ts _ w0 F tp T _ _ ⟨e0, e1⟩ HS.out HI.out).mono ?_
    rintro E w2 ⟨rfl, hs2⟩
    have HS2 := Aside0.mk hs2
    clear hs2
    refine ⟨_, rfl, ?_⟩
    clear hHeld
    refine hK.out _ _ ((cells41 (x := ⟨2, mo, ⟨e0, e1⟩, tq⟩) (HS2.out.rest.blk 2 rfl))) (fun hHeld => ?_)
    clear hK K_
    refine norm_ (a' := ?_) ?_ ?_
    rotate_left
    · show Act.put _ (some 36) _ = _
      simp only [Act.put, List.setIfInBounds_toArray, List.set_cons_zero, List.set_cons_succ, i64_w, i32_w]
      rfl
    refine one_ (i := 7) (N := (some 40)) #[true, true, true, true, true, true, true, true, false, false] rfl rfl (by kernel_rfl) (by decide) (fun K_ hK => ?_)
    refine goes_ Try.func37 (by kernel_rfl) rfl #[.pointer (some ⟨rp, 0, none⟩), entryV ⟨e0, e1⟩] (by rfl) rfl rfl (by (try simp only [List.map_toArray, List.map_cons, List.map_nil]); first | done | rfl) ?_
    refine (refhas_ts _ w0 F tp rp _ _ v (entS T) _ ⟨e0, e1⟩ HS2.out (by have := HN.out; omega) HKS.out HE.out).mono ?_
    rintro E w3 ⟨rfl, hs3⟩
    have HS3 := Aside0.mk hs3
    clear hs3
    refine ⟨_, rfl, ?_⟩
    clear hHeld
    refine hK.out _ _ ((cells41 (x := ⟨2, mo, ⟨e0, e1⟩, tq⟩) (HS3.out.rest.blk 2 rfl))) (fun hHeld => ?_)
    clear hK K_
    refine norm_ (a' := ?_) ?_ ?_
    rotate_left
    · show Act.put _ (some 40) _ = _
      simp only [Act.put, List.setIfInBounds_toArray, List.set_cons_zero, List.set_cons_succ, i64_w, i32_w]
      rfl
    refine pure_ (i := 8) (N := (some 41)) (v := ?_) (a' := ?_) #[true, true, true, true, true, true, true, true, true, false] rfl rfl (by kernel_rfl) (fun _ _ _ h => h) (Or.inl ⟨by rfl, ?_⟩) ?_ ?_
    rotate_left
    · intro w'
      go_simp
      with_reducible rfl
    rotate_left
    · simp only [Act.put, List.setIfInBounds_toArray, List.set_cons_zero, List.set_cons_succ, i64_w, i32_w]
      rfl
    refine pure_ (i := 9) (N := (some 6)) (v := ?_) (a' := ?_) #[true, true, true, true, true, true, true, true, true, true] rfl rfl (by kernel_rfl) (fun _ _ _ h => h) (Or.inl ⟨by rfl, ?_⟩) ?_ ?_
    rotate_left
    · intro w'
      go_simp
      with_reducible rfl
    rotate_left
    · simp only [Act.put, List.setIfInBounds_toArray, List.set_cons_zero, List.set_cons_succ, i64_w, i32_w]
      rfl
    refine done_ (by kernel_rfl) ?_
    go_wp2
    first | (rw [← HP.out]) | (go_ret; rw [← HP.out])
    exact ⟨by first | rfl | simp, T, v, HI.out, Nat.le_succ _, fun z hz => .inr hz, HS3.out.drop1⟩
  have q2 : (wh == 2) = false := by simp [h2]
  by_cases h3 : wh = 3
  · subst h3
    go_enter Try.func24, Try.ntmps24
    go_wp2
    clear c0 c1 c2 c3 c4 c5
    try rw [hwa]
    clear hwa
    replace HS := Aside0.mk (HS.out.below (⟨rfl, rfl, rfl, Nat.le_refl _, fun _ _ => rfl⟩ : Below wa.heap.size wa wa.drew))
    refine start_ (n := 12) (S := fun w' => w'.cell? ⟨bx, 0, none⟩ = some (.int .i64 3) ∧ w'.cell? ⟨bx, 1, none⟩ = some (.int .i64 mo) ∧ w'.cell? ⟨bx, 2, none⟩ = some (.string e0) ∧ w'.cell? ⟨bx, 3, none⟩ = some (.int .i64 e1.f0) ∧ w'.cell? ⟨bx, 4, none⟩ = some (.int .i64 e1.f1) ∧ w'.cell? ⟨bx, 5, none⟩ = some (.string tq)) (ds := []) #[false, false, false, false, false, false, false, false, false, false, false, false] (by kernel_rfl) rfl rfl (cells41 (x := ⟨3, mo, ⟨e0, e1⟩, tq⟩) (HS.out.rest.blk 2 rfl)) (fun hHeld => ?_)
    refine pure_ (i := 0) (N := (some 44)) (v := ?_) (a' := ?_) #[true, false, false, false, false, false, false, false, false, false, false, false] rfl rfl (by kernel_rfl) (fun _ _ _ h => h) (Or.inl ⟨by rfl, ?_⟩) ?_ ?_
    rotate_left
    · intro w'
      go_simp
      with_reducible rfl
    rotate_left
    · simp only [Act.put, List.setIfInBounds_toArray, List.set_cons_zero, List.set_cons_succ, i64_w, i32_w]
      rfl
    refine pure_ (i := 1) (N := (some 45)) (v := ?_) (a' := ?_) #[true, true, false, false, false, false, false, false, false, false, false, false] rfl rfl (by kernel_rfl) (fun _ _ _ h => h) (Or.inl ⟨by rfl, ?_⟩) ?_ ?_
    rotate_left
    · intro w'
      go_simp
      with_reducible rfl
    rotate_left
    · simp only [Act.put, List.setIfInBounds_toArray, List.set_cons_zero, List.set_cons_succ, i64_w, i32_w]
      rfl
    refine pure_ (i := 2) (N := (some 46)) (v := ?_) (a' := ?_) #[true, true, true, false, false, false, false, false, false, false, false, false] rfl rfl (by kernel_rfl) (fun _ _ _ h => h) (Or.inl ⟨by rfl, ?_⟩) ?_ ?_
    rotate_left
    · intro w'
      go_simp
      with_reducible rfl
    rotate_left
    · simp only [Act.put, List.setIfInBounds_toArray, List.set_cons_zero, List.set_cons_succ, i64_w, i32_w]
      rfl
    refine pure_ (i := 5) (N := (some 49)) (v := ?_) (a' := ?_) #[true, true, true, false, false, true, false, false, false, false, false, false] rfl rfl (by kernel_rfl) (fun _ _ _ h => h) (Or.inl ⟨by rfl, ?_⟩) ?_ ?_
    rotate_left
    · intro w'
      go_simp
      with_reducible rfl
    rotate_left
    · simp only [Act.put, List.setIfInBounds_toArray, List.set_cons_zero, List.set_cons_succ, i64_w, i32_w]
      rfl
    refine pure_ (i := 6) (N := (some 50)) (v := ?_) (a' := ?_) #[true, true, true, false, false, true, true, false, false, false, false, false] rfl rfl (by kernel_rfl) (fun _ _ _ h => h) (Or.inl ⟨by rfl, ?_⟩) ?_ ?_
    rotate_left
    · intro w'
      go_simp
      with_reducible rfl
    rotate_left
    · simp only [Act.put, List.setIfInBounds_toArray, List.set_cons_zero, List.set_cons_succ, i64_w, i32_w]
      rfl
    refine pure_ (i := 7) (N := (some 51)) (v := ?_) (a' := ?_) #[true, true, true, false, false, true, true, true, false, false, false, false] rfl rfl (by kernel_rfl) (fun _ _ _ h => h) (Or.inl ⟨by rfl, ?_⟩) ?_ ?_
    rotate_left
    · intro w'
      go_simp
      with_reducible rfl
    rotate_left
    · simp only [Act.put, List.setIfInBounds_toArray, List.set_cons_zero, List.set_cons_succ, i64_w, i32_w]
      rfl
    refine take_ (i := 3) (N := (some 47)) (v := ?_) (a' := ?_) #[true, true, true, true, false, true, true, true, false, false, false, false] rfl rfl (by kernel_rfl) (fun _ _ _ h => h) (Or.inl ⟨by rfl, ?_⟩) hHeld ?_ ?_
    rotate_left
    · rintro w' ⟨s0, s1, s2, s3, s4, s5⟩
      go_simp
      with_reducible rfl
    rotate_left
    · simp only [Act.put, List.setIfInBounds_toArray, List.set_cons_zero, List.set_cons_succ, i64_w, i32_w]
      rfl
    refine take_ (i := 8) (N := (some 52)) (v := ?_) (a' := ?_) #[true, true, true, true, false, true, true, true, true, false, false, false] rfl rfl (by kernel_rfl) (fun _ _ _ h => h) (Or.inl ⟨by rfl, ?_⟩) hHeld ?_ ?_
    rotate_left
    · rintro w' ⟨s0, s1, s2, s3, s4, s5⟩
      go_simp
      with_reducible rfl
    rotate_left
    · simp only [Act.put, List.setIfInBounds_toArray, List.set_cons_zero, List.set_cons_succ, i64_w, i32_w]
      rfl
    refine one_ (i := 4) (N := (some 48)) #[true, true, true, true, true, true, true, true, true, false, false, false] rfl rfl (by kernel_rfl) (by decide) (fun K_ hK => ?_)
    refine goes_ Try.func23 (by kernel_rfl) rfl #[.pointer (some ⟨tp, 0, none⟩), .string e0] (by rfl) rfl rfl (by (try simp only [List.map_toArray, List.map_cons, List.map_nil]); first | done | rfl) ?_
    refine (findrow_ts _ w0 F tp T _ _ e0 HS.out HI.out (by have := HN.out; have := from_len (T := T) (lowS e0) HI.out; omega)).mono ?_
    rintro E w2 ⟨u, rfl, hs2⟩
    have HS2 := Aside0.mk hs2
    clear hs2
    refine ⟨_, rfl, ?_⟩
    clear hHeld
    refine hK.out _ _ ((cells41 (x := ⟨3, mo, ⟨e0, e1⟩, tq⟩) (HS2.out.rest.blk 3 rfl))) (fun hHeld => ?_)
    clear hK K_
    refine norm_ (a' := ?_) ?_ ?_
    rotate_left
    · show Act.put _ (some 48) _ = _
      simp only [Act.put, List.setIfInBounds_toArray, List.set_cons_zero, List.set_cons_succ, i64_w, i32_w]
      rfl
    refine one_ (i := 9) (N := (some 53)) #[true, true, true, true, true, true, true, true, true, true, false, false] rfl rfl (by kernel_rfl) (by decide) (fun K_ hK => ?_)
    refine goes_ Try.func39 (by kernel_rfl) rfl #[.pointer (some ⟨rp, 0, none⟩), .string e0] (by rfl) rfl rfl (by (try simp only [List.map_toArray, List.map_cons, List.map_nil]); first | done | rfl) ?_
    refine (reffind_calls _ rp v (entS T) e0 (HS2.out.rest.box 1 rfl) (HS2.out.rest.rowE 2 rfl) (by have := HN.out; omega)).mono ?_
    rw [find_agree _ HI.out HFR.out]
    rintro E w3 ⟨u2, rfl, hs3⟩
    have HS3 := Aside0.mk (HS2.out.made hs3)
    clear hs3
    refine ⟨_, rfl, ?_⟩
    clear hHeld
    refine hK.out _ _ ((cells41 (x := ⟨3, mo, ⟨e0, e1⟩, tq⟩) (HS3.out.rest.blk 4 rfl))) (fun hHeld => ?_)
    clear hK K_
    refine norm_ (a' := ?_) ?_ ?_
    rotate_left
    · show Act.put _ (some 53) _ = _
      simp only [Act.put, List.setIfInBounds_toArray, List.set_cons_zero, List.set_cons_succ, i64_w, i32_w]
      rfl
    refine one_ (i := 10) (N := (some 54)) #[true, true, true, true, true, true, true, true, true, true, true, false] rfl rfl (by kernel_rfl) (by decide) (fun K_ hK => ?_)
    refine goes_ Try.func38 (by kernel_rfl) rfl #[u, u2] (by rfl) rfl rfl (by (try simp only [List.map_toArray, List.map_cons, List.map_nil]); first | done | rfl) ?_
    refine (samerids_calls _ u u2 _ (HS3.out.rest.rowR 1 rfl) (HS3.out.rest.rowR 0 rfl) (by have := HN.out; have := from_len (T := T) (lowS e0) HI.out; have := fnd_le e0 (fromS T (lowS e0)); omega)).mono ?_
    rintro E w4 ⟨rfl, hb4⟩
    have HS4 := Aside0.mk (HS3.out.below hb4)
    clear hb4
    refine ⟨_, rfl, ?_⟩
    clear hHeld
    refine hK.out _ _ ((cells41 (x := ⟨3, mo, ⟨e0, e1⟩, tq⟩) (HS4.out.rest.blk 4 rfl))) (fun hHeld => ?_)
    clear hK K_
    refine norm_ (a' := ?_) ?_ ?_
    rotate_left
    · show Act.put _ (some 54) _ = _
      simp only [Act.put, List.setIfInBounds_toArray, List.set_cons_zero, List.set_cons_succ, i64_w, i32_w]
      rfl
    refine pure_ (i := 11) (N := (some 6)) (v := ?_) (a' := ?_) #[true, true, true, true, true, true, true, true, true, true, true, true] rfl rfl (by kernel_rfl) (fun _ _ _ h => h) (Or.inl ⟨by rfl, ?_⟩) ?_ ?_
    rotate_left
    · intro w'
      go_simp
      with_reducible rfl
    rotate_left
    · simp only [Act.put, List.setIfInBounds_toArray, List.set_cons_zero, List.set_cons_succ, i64_w, i32_w]
      rfl
    refine done_ (by kernel_rfl) ?_
    go_wp2
    first | (rw [← HP.out]) | (go_ret; rw [← HP.out])
    exact ⟨by first | rfl | simp, T, v, HI.out, Nat.le_succ _, fun z hz => .inr hz, ((HS4.out.upd fun X hX => St.drop (A := [_, _]) hX) : TS w0 F _ tp T _ (refC rp v (entS T) ++ (blkC bx _ :: R))).drop1⟩
  have q3 : (wh == 3) = false := by simp [h3]
  by_cases h4 : wh = 4
  · subst h4
    go_enter Try.func24, Try.ntmps24
    go_wp2
    clear c0 c1 c2 c3 c4 c5
    try rw [hwa]
    clear hwa
    replace HS := Aside0.mk (HS.out.below (⟨rfl, rfl, rfl, Nat.le_refl _, fun _ _ => rfl⟩ : Below wa.heap.size wa wa.drew))
    refine start_ (n := 20) (S := fun w' => w'.cell? ⟨bx, 0, none⟩ = some (.int .i64 4) ∧ w'.cell? ⟨bx, 1, none⟩ = some (.int .i64 mo) ∧ w'.cell? ⟨bx, 2, none⟩ = some (.string e0) ∧ w'.cell? ⟨bx, 3, none⟩ = some (.int .i64 e1.f0) ∧ w'.cell? ⟨bx, 4, none⟩ = some (.int .i64 e1.f1) ∧ w'.cell? ⟨bx, 5, none⟩ = some (.string tq)) (ds := []) #[false, false, false, false, false, false, false, false, false, false, false, false, false, false, false, false, false, false, false, false] (by kernel_rfl) rfl rfl (cells41 (x := ⟨4, mo, ⟨e0, e1⟩, tq⟩) (HS.out.rest.blk 2 rfl)) (fun hHeld => ?_)
    refine pure_ (i := 0) (N := (some 57)) (v := ?_) (a' := ?_) #[true, false, false, false, false, false, false, false, false, false, false, false, false, false, false, false, false, false, false, false] rfl rfl (by kernel_rfl) (fun _ _ _ h => h) (Or.inl ⟨by rfl, ?_⟩) ?_ ?_
    rotate_left
    · intro w'
      go_simp
      with_reducible rfl
    rotate_left
    · simp only [Act.put, List.setIfInBounds_toArray, List.set_cons_zero, List.set_cons_succ, i64_w, i32_w]
      rfl
    refine pure_ (i := 1) (N := (some 58)) (v := ?_) (a' := ?_) #[true, true, false, false, false, false, false, false, false, false, false, false, false, false, false, false, false, false, false, false] rfl rfl (by kernel_rfl) (fun _ _ _ h => h) (Or.inl ⟨by rfl, ?_⟩) ?_ ?_
    rotate_left
    · intro w'
      go_simp
      with_reducible rfl
    rotate_left
    · simp only [Act.put, List.setIfInBounds_toArray, List.set_cons_zero, List.set_cons_succ, i64_w, i32_w]
      rfl
    refine pure_ (i := 2) (N := (some 59)) (v := ?_) (a' := ?_) #[true, true, true, false, false, false, false, false, false, false, false, false, false, false, false, false, false, false, false, false] rfl rfl (by kernel_rfl) (fun _ _ _ h => h) (Or.inl ⟨by rfl, ?_⟩) ?_ ?_
    rotate_left
    · intro w'
      go_simp
      with_reducible rfl
    rotate_left
    · simp only [Act.put, List.setIfInBounds_toArray, List.set_cons_zero, List.set_cons_succ, i64_w, i32_w]
      rfl
    refine pure_ (i := 4) (N := (some 61)) (v := ?_) (a' := ?_) #[true, true, true, false, true, false, false, false, false, false, false, false, false, false, false, false, false, false, false, false] rfl rfl (by kernel_rfl) (fun _ _ _ h => h) (Or.inl ⟨by rfl, ?_⟩) ?_ ?_
    rotate_left
    · intro w'
      go_simp
      with_reducible rfl
    rotate_left
    · simp only [Act.put, List.setIfInBounds_toArray, List.set_cons_zero, List.set_cons_succ, i64_w, i32_w]
      rfl
    refine pure_ (i := 6) (N := (some 63)) (v := ?_) (a' := ?_) #[true, true, true, false, true, false, true, false, false, false, false, false, false, false, false, false, false, false, false, false] rfl rfl (by kernel_rfl) (fun _ _ _ h => h) (Or.inl ⟨by rfl, ?_⟩) ?_ ?_
    rotate_left
    · intro w'
      go_simp
      with_reducible rfl
    rotate_left
    · simp only [Act.put, List.setIfInBounds_toArray, List.set_cons_zero, List.set_cons_succ, i64_w, i32_w]
      rfl
    refine pure_ (i := 9) (N := (some 66)) (v := ?_) (a' := ?_) #[true, true, true, false, true, false, true, false, false, true, false, false, false, false, false, false, false, false, false, false] rfl rfl (by kernel_rfl) (fun _ _ _ h => h) (Or.inl ⟨by rfl, ?_⟩) ?_ ?_
    rotate_left
    · intro w'
      go_simp
      with_reducible rfl
    rotate_left
    · simp only [Act.put, List.setIfInBounds_toArray, List.set_cons_zero, List.set_cons_succ, i64_w, i32_w]
      rfl
    refine pure_ (i := 10) (N := (some 67)) (v := ?_) (a' := ?_) #[true, true, true, false, true, false, true, false, false, true, true, false, false, false, false, false, false, false, false, false] rfl rfl (by kernel_rfl) (fun _ _ _ h => h) (Or.inl ⟨by rfl, ?_⟩) ?_ ?_
    rotate_left
    · intro w'
      go_simp
      with_reducible rfl
    rotate_left
    · simp only [Act.put, List.setIfInBounds_toArray, List.set_cons_zero, List.set_cons_succ, i64_w, i32_w]
      rfl
    refine pure_ (i := 11) (N := (some 68)) (v := ?_) (a' := ?_) #[true, true, true, false, true, false, true, false, false, true, true, true, false, false, false, false, false, false, false, false] rfl rfl (by kernel_rfl) (fun _ _ _ h => h) (Or.inl ⟨by rfl, ?_⟩) ?_ ?_
    rotate_left
    · intro w'
      go_simp
      with_reducible rfl
    rotate_left
    · simp only [Act.put, List.setIfInBounds_toArray, List.set_cons_zero, List.set_cons_succ, i64_w, i32_w]
      rfl
    refine pure_ (i := 13) (N := (some 70)) (v := ?_) (a' := ?_) #[true, true, true, false, true, false, true, false, false, true, true, true, false, true, false, false, false, false, false, false] rfl rfl (by kernel_rfl) (fun _ _ _ h => h) (Or.inl ⟨by rfl, ?_⟩) ?_ ?_
    rotate_left
    · intro w'
      go_simp
      with_reducible rfl
    rotate_left
    · simp only [Act.put, List.setIfInBounds_toArray, List.set_cons_zero, List.set_cons_succ, i64_w, i32_w]
      rfl
    refine pure_ (i := 15) (N := (some 72)) (v := ?_) (a' := ?_) #[true, true, true, false, true, false, true, false, false, true, true, true, false, true, false, true, false, false, false, false] rfl rfl (by kernel_rfl) (fun _ _ _ h => h) (Or.inl ⟨by rfl, ?_⟩) ?_ ?_
    rotate_left
    · intro w'
      go_simp
      with_reducible rfl
    rotate_left
    · simp only [Act.put, List.setIfInBounds_toArray, List.set_cons_zero, List.set_cons_succ, i64_w, i32_w]
      rfl
    refine take_ (i := 3) (N := (some 60)) (v := ?_) (a' := ?_) #[true, true, true, true, true, false, true, false, false, true, true, true, false, true, false, true, false, false, false, false] rfl rfl (by kernel_rfl) (fun _ _ _ h => h) (Or.inl ⟨by rfl, ?_⟩) hHeld ?_ ?_
    rotate_left
    · rintro w' ⟨s0, s1, s2, s3, s4, s5⟩
      go_simp
      with_reducible rfl
    rotate_left
    · simp only [Act.put, List.setIfInBounds_toArray, List.set_cons_zero, List.set_cons_succ, i64_w, i32_w]
      rfl
    refine take_ (i := 5) (N := (some 62)) (v := ?_) (a' := ?_) #[true, true, true, true, true, true, true, false, false, true, true, true, false, true, false, true, false, false, false, false] rfl rfl (by kernel_rfl) (fun _ _ _ h => h) (Or.inl ⟨by rfl, ?_⟩) hHeld ?_ ?_
    rotate_left
    · rintro w' ⟨s0, s1, s2, s3, s4, s5⟩
      go_simp
      with_reducible rfl
    rotate_left
    · simp only [Act.put, List.setIfInBounds_toArray, List.set_cons_zero, List.set_cons_succ, i64_w, i32_w]
      rfl
    refine take_ (i := 7) (N := (some 64)) (v := ?_) (a' := ?_) #[true, true, true, true, true, true, true, true, false, true, true, true, false, true, false, true, false, false, false, false] rfl rfl (by kernel_rfl) (fun _ _ _ h => h) (Or.inl ⟨by rfl, ?_⟩) hHeld ?_ ?_
    rotate_left
    · rintro w' ⟨s0, s1, s2, s3, s4, s5⟩
      go_simp
      with_reducible rfl
    rotate_left
    · simp only [Act.put, List.setIfInBounds_toArray, List.set_cons_zero, List.set_cons_succ, i64_w, i32_w]
      rfl
    refine take_ (i := 12) (N := (some 69)) (v := ?_) (a' := ?_) #[true, true, true, true, true, true, true, true, false, true, true, true, true, true, false, true, false, false, false, false] rfl rfl (by kernel_rfl) (fun _ _ _ h => h) (Or.inl ⟨by rfl, ?_⟩) hHeld ?_ ?_
    rotate_left
    · rintro w' ⟨s0, s1, s2, s3, s4, s5⟩
      go_simp
      with_reducible rfl
    rotate_left
    · simp only [Act.put, List.setIfInBounds_toArray, List.set_cons_zero, List.set_cons_succ, i64_w, i32_w]
      rfl
    refine take_ (i := 14) (N := (some 71)) (v := ?_) (a' := ?_) #[true, true, true, true, true, true, true, true, false, true, true, true, true, true, true, true, false, false, false, false] rfl rfl (by kernel_rfl) (fun _ _ _ h => h) (Or.inl ⟨by rfl, ?_⟩) hHeld ?_ ?_
    rotate_left
    · rintro w' ⟨s0, s1, s2, s3, s4, s5⟩
      go_simp
      with_reducible rfl
    rotate_left
    · simp only [Act.put, List.setIfInBounds_toArray, List.set_cons_zero, List.set_cons_succ, i64_w, i32_w]
      rfl
    refine take_ (i := 16) (N := (some 73)) (v := ?_) (a' := ?_) #[true, true, true, true, true, true, true, true, false, true, true, true, true, true, true, true, true, false, false, false] rfl rfl (by kernel_rfl) (fun _ _ _ h => h) (Or.inl ⟨by rfl, ?_⟩) hHeld ?_ ?_
    rotate_left
    · rintro w' ⟨s0, s1, s2, s3, s4, s5⟩
      go_simp
      with_reducible rfl
    rotate_left
    · simp only [Act.put, List.setIfInBounds_toArray, List.set_cons_zero, List.set_cons_succ, i64_w, i32_w]
      rfl
    refine one_ (i := 8) (N := (some 65)) #[true, true, true, true, true, true, true, true, true, true, true, true, true, true, true, true, true, false, false, false] rfl rfl (by kernel_rfl) (by decide) (fun K_ hK => ?_)
    refine goes_ Try.func19 (by kernel_rfl) rfl #[.pointer (some ⟨tp, 0, none⟩), .string e0, .string tq, .int .i64 mo] (by rfl) rfl rfl (by (try simp only [List.map_toArray, List.map_cons, List.map_nil]); first | done | rfl) ?_
    refine (range_ts _ w0 F tp T _ _ e0 tq mo HS.out HI.out (by have := HN.out; have := from_len (T := T) (lowS e0) HI.out; omega)).mono ?_
    rintro E w2 ⟨u, rfl, hs2⟩
    have HS2 := Aside0.mk hs2
    clear hs2
    refine ⟨_, rfl, ?_⟩
    clear hHeld
    refine hK.out _ _ ((cells41 (x := ⟨4, mo, ⟨e0, e1⟩, tq⟩) (HS2.out.rest.blk 3 rfl))) (fun hHeld => ?_)
    clear hK K_
    refine norm_ (a' := ?_) ?_ ?_
    rotate_left
    · show Act.put _ (some 65) _ = _
      simp only [Act.put, List.setIfInBounds_toArray, List.set_cons_zero, List.set_cons_succ, i64_w, i32_w]
      rfl
    refine one_ (i := 17) (N := (some 74)) #[true, true, true, true, true, true, true, true, true, true, true, true, true, true, true, true, true, true, false, false] rfl rfl (by kernel_rfl) (by decide) (fun K_ hK => ?_)
    refine goes_ Try.func40 (by kernel_rfl) rfl #[.pointer (some ⟨rp, 0, none⟩), .string e0, .string tq, .int .i64 mo] (by rfl) rfl rfl (by (try simp only [List.map_toArray, List.map_cons, List.map_nil]); first | done | rfl) ?_
    refine (refrange_calls _ rp v (entS T) e0 tq mo (HS2.out.rest.box 1 rfl) (HS2.out.rest.rowE 2 rfl) (by have := HN.out; omega) HKS.out HE.out HT.out).mono ?_
    rw [range_agree _ _ _ HI.out HFR.out]
    rintro E w3 ⟨u2, rfl, hs3⟩
    have HS3 := Aside0.mk (HS2.out.made hs3)
    clear hs3
    refine ⟨_, rfl, ?_⟩
    clear hHeld
    refine hK.out _ _ ((cells41 (x := ⟨4, mo, ⟨e0, e1⟩, tq⟩) (HS3.out.rest.blk 4 rfl))) (fun hHeld => ?_)
    clear hK K_
    refine norm_ (a' := ?_) ?_ ?_
    rotate_left
    · show Act.put _ (some 74) _ = _
      simp only [Act.put, List.setIfInBounds_toArray, List.set_cons_zero, List.set_cons_succ, i64_w, i32_w]
      rfl
    refine one_ (i := 18) (N := (some 75)) #[true, true, true, true, true, true, true, true, true, true, true, true, true, true, true, true, true, true, true, false] rfl rfl (by kernel_rfl) (by decide) (fun K_ hK => ?_)
    refine goes_ Try.func17 (by kernel_rfl) rfl #[u, u2] (by rfl) rfl rfl (by (try simp only [List.map_toArray, List.map_cons, List.map_nil]); first | done | rfl) ?_
    refine (same_calls _ u u2 _ (HS3.out.rest.rowE 1 rfl) (HS3.out.rest.rowE 0 rfl) (by have := HN.out; have := from_len (T := T) (lowS e0) HI.out; have := (rng_len tq mo (fromS T (lowS e0)) 0).1; omega)).mono ?_
    rintro E w4 ⟨rfl, hb4⟩
    have HS4 := Aside0.mk (HS3.out.below hb4)
    clear hb4
    refine ⟨_, rfl, ?_⟩
    clear hHeld
    refine hK.out _ _ ((cells41 (x := ⟨4, mo, ⟨e0, e1⟩, tq⟩) (HS4.out.rest.blk 4 rfl))) (fun hHeld => ?_)
    clear hK K_
    refine norm_ (a' := ?_) ?_ ?_
    rotate_left
    · show Act.put _ (some 75) _ = _
      simp only [Act.put, List.setIfInBounds_toArray, List.set_cons_zero, List.set_cons_succ, i64_w, i32_w]
      rfl
    refine pure_ (i := 19) (N := (some 6)) (v := ?_) (a' := ?_) #[true, true, true, true, true, true, true, true, true, true, true, true, true, true, true, true, true, true, true, true] rfl rfl (by kernel_rfl) (fun _ _ _ h => h) (Or.inl ⟨by rfl, ?_⟩) ?_ ?_
    rotate_left
    · intro w'
      go_simp
      with_reducible rfl
    rotate_left
    · simp only [Act.put, List.setIfInBounds_toArray, List.set_cons_zero, List.set_cons_succ, i64_w, i32_w]
      rfl
    refine done_ (by kernel_rfl) ?_
    go_wp2
    first | (rw [← HP.out]) | (go_ret; rw [← HP.out])
    exact ⟨by first | rfl | simp, T, v, HI.out, Nat.le_succ _, fun z hz => .inr hz, ((HS4.out.upd fun X hX => St.drop (A := [_, _]) hX) : TS w0 F _ tp T _ (refC rp v (entS T) ++ (blkC bx _ :: R))).drop1⟩
  have q4 : (wh == 4) = false := by simp [h4]
  go_enter Try.func24, Try.ntmps24
  go_wp2
  first | (rw [← HP.out]) | (go_ret; rw [← HP.out])
  exact ⟨rfl, T, v, HI.out, Nat.le_succ _, fun z hz => .inr hz, HS.out.drop1⟩
end Go.Proofs.Bt
end
section
namespace Go.Proofs.Bt
open Go Go.RowKit Go.Proofs.Ytjaddmflopahiaa.Q Go.Proofs.YtjaddmflopahiaaW.PrintWords Go.Proofs.YtjaddmflopahiaaW.PrintLast Go.Proofs.YtjaddmflopahiaaW.PrintMore
set_option linter.unusedVariables false
set_option linter.unusedSimpArgs false
set_option maxRecDepth 100000
theorem cell1 {W : World} {b : Nat} {v : Value} {t : TypeId} (h : W.heap[b]? = some (.cells #[v] t (0, 0))) : W.cell? ⟨b, 0, none⟩ = some v := (blk_cell h 0).trans rfl
def CLp (w : World) (l : List S41) (tp rp j : Nat) (W : World) (T : ST) (v : Value) : Prop :=
  TInvS T ∧ (entS T).length ≤ j ∧ (∀ z ∈ entS T, ∃ x ∈ l, z = x.f2) ∧ TS w NoF W tp T ((entS T).length : Int) (refC rp v (entS T) ++ [])
def CL (w : World) (l : List S41) (tp rp j : Nat) (W : World) : Prop := ∃ T v, CLp w l tp rp j W T v
theorem CL.below {w W : World} {l : List S41} {tp rp j : Nat} (h : CL w l tp rp j W) : Below w.heap.size w W := by
  obtain ⟨T, v, _, _, _, h⟩ := h
  exact keep_below h.keep
theorem ts_ref0 {w0 W : World} {F : Nat → Prop} {tp : Nat} {T : ST} {cnt : Int} {R : List Chunk} {n : Nat} (s : TS w0 F W tp T cnt R) (hn : W.heap.size = n) : TS w0 F (W.alloc (.cells #[.slice none 0 0] 57)) tp T cnt (refC n (.slice none 0 0) [] ++ R) := by
  refine s.upd fun X hX => ?_
  have h1 := (hX.alloc #[.slice none 0 0] 57 hn).perm (List.perm_append_singleton _ _)
  refine St.tell (A := [blkC n (.cells #[.slice none 0 0] 57 (0, 0))]) (B := refC n (.slice none 0 0) []) h1 (fun h c hc => ?_) (fun b => Nat.le_refl _)
  have hb : (W.alloc (.cells #[.slice none 0 0] 57)).heap[n]? = some (.cells #[.slice none 0 0] 57 (0, 0)) := h _ List.mem_cons_self
  rcases List.mem_cons.1 hc with rfl | hc
  · exact hb
  · simp only [List.mem_cons, List.not_mem_nil, or_false] at hc
    subst hc
    exact Row.nil _ _ _
theorem told_cl (w : World) (l : List S41) (tp rp j : Nat) (W : World) (x : S41) (hx : l[j]? = some x) (hl : l.length ≤ 300) (hsz : ∀ x ∈ l, x.f2.f0.size ≤ 500 ∧ x.f3.size ≤ 500) (hfar : ∀ x ∈ l, Far x.f2) (h : CL w l tp rp j W) :
    Calls Try.prog 24 #[.pointer (some ⟨tp, 0, none⟩), .pointer (some ⟨rp, 0, none⟩), callV x] W fun E w' => E = .returned (.bool true) ∧ CL w l tp rp (j + 1) w' := by
  obtain ⟨T, v, h1, h2, h3, h4⟩ := h
  obtain ⟨hj, rfl⟩ := List.getElem?_eq_some_iff.1 hx
  have hm : l[j] ∈ l := List.getElem_mem hj
  refine (told_calls W w NoF tp rp T v [] l[j] h4 h1 (by omega) (fun z hz => ?_) (fun z hz => ?_) (by have := hsz _ hm; omega) (by have := hsz _ hm; omega)).mono ?_
  · obtain ⟨y, hy, rfl⟩ := h3 z hz
    have := hsz _ hy
    omega
  · obtain ⟨y, hy, rfl⟩ := h3 z hz
    exact hfar _ hy
  · rintro E w' ⟨rfl, T', v', g1, g2, g3, g4⟩
    refine ⟨rfl, T', v', g1, by omega, fun z hz => ?_, g4⟩
    rcases g3 z hz with rfl | hz
    · exact ⟨_, hm, rfl⟩
    · exact h3 z hz
set_option maxHeartbeats 4000000 in
theorem btreecalls_calls (w : World) (A0 : Option Addr) (c0 : Nat) (l : List S41) (hC : Kd.C k41 w A0 l.length l) (hcap : l.length ≤ c0) (hfar : ∀ x ∈ l, Far x.f2) : Calls Try.prog 8 #[.slice A0 l.length c0] w fun E w' => E = .returned (.bool true) ∧ Below w.heap.size w w' := by
  have mixed : Try.prog.follows Departure.mixedOrders = true := by kernel_rfl
  have hu57 := Try.underlying57
  obtain ⟨R, hR⟩ : ∃ R, (fun E w' => E = Ending.returned (.bool true) ∧ Below w.heap.size w w') = R := ⟨_, rfl⟩
  have HR := Aside0.mk hR
  rw [hR]
  obtain ⟨n, hn⟩ : ∃ n, l.length = n := ⟨_, rfl⟩
  rw [hn] at hC hcap
  have HC := Aside0.mk hC
  have HFAR := Aside0.mk hfar
  have HN := Aside0.mk hn
  have HA := Aside0.mk (alive_calls w)
  have HCAP := Aside0.mk hcap
  rw [hn]
  clear hR hC hn hfar hcap
  cases hg : greatB l with
  | true =>
    have HG := Aside0.mk hg
    clear hg
    go_enter Try.func8, Try.ntmps8
    go_wp2_with (first
      | (go_at_call 9; refine HA.out.mono ?_; clear HA; rintro E w1 ⟨rfl, hb⟩; have HB1 := Aside0.mk hb; clear hb)
      | (go_at_call 14; refine (great_calls _ A0 n c0 l HN.out (Kd.C_below HC.out HB1.out) HCAP.out).mono ?_; rw [HG.out]; rintro E w2 ⟨rfl, hb⟩; have HB2 := Aside0.mk (HB1.out.trans (hb.mono HB1.out.size)); clear hb))
    first | (rw [← HR.out]) | (go_ret; rw [← HR.out])
    exact ⟨rfl, HB2.out⟩
  | false =>
    have HG := Aside0.mk hg
    have HSZ := Aside0.mk (great_no hg)
    have hn3 : n ≤ 300 := by have := (great_no hg).1; have := HN.out; omega
    clear hg
    go_enter Try.func8, Try.ntmps8
    go_wp2_with (first
      | (go_at_call 9; refine HA.out.mono ?_; clear HA; rintro E w1 ⟨rfl, hb⟩; have HB1 := Aside0.mk hb; clear hb)
      | (go_at_call 14; refine (great_calls _ A0 n c0 l HN.out (Kd.C_below HC.out HB1.out) HCAP.out).mono ?_; rw [HG.out]; rintro E w2 ⟨rfl, hb⟩; have HB2 := Aside0.mk (HB1.out.trans (hb.mono HB1.out.size)); clear hb)
      | (go_at_call 10; refine (new_ts _ w NoF [] ⟨Keep.of_below HB2.out _, fun c hc => (by cases hc), fun a => (by simp [fpc]), fun b hb => (by simp [fpc] at hb)⟩).mono ?_; rintro E w3 ⟨tp, rfl, hs⟩; have HS := Aside0.mk hs; clear hs))
    obtain ⟨rp, hrp⟩ : ∃ b, w3.heap.size = b := ⟨_, rfl⟩
    have HS0 := Aside0.mk (show CL w l tp rp 0 (w3.alloc (.cells #[.slice none 0 0] 57)) from ⟨⟨0, ([] : List S29)⟩, _, tinv0, Nat.le_refl _, fun z hz => (by have e : entS ⟨0, ([] : List S29)⟩ = [] := rfl; rw [e] at hz; simp at hz), ts_ref0 HS.out hrp⟩)
    clear HS
    rw [hrp]
    go_loopg [5] n (fun gq v5 wx => ∃ j : Nat, v5 = .int .i64 j ∧ j + gq = n ∧ Aside0 (CL w l tp rp j wx))
    case atStart => exact ⟨0, rfl, by omega, HS0⟩
    case round =>
      clear HS0 HB1 HB2
      obtain ⟨j, rfl, hj, HS⟩ := hrel
      cases gk with
      | succ gq =>
        have hjn : j < n := by omega
        have hjn2 : (j : Int) < (n : Int) := by omega
        have hj0 : (0 : Int) ≤ (j : Int) := by omega
        obtain ⟨x, hx⟩ : ∃ x, l[j]? = some x := ⟨_, List.getElem?_eq_getElem (by rw [HN.out]; exact hjn)⟩
        have hrx : rd_T41 l (j : Int) = x := by simp [rd_T41, List.getD_eq_getElem?_getD, hx]
        obtain ⟨ad, rfl, d0, d1, d2, d3, d4, d5⟩ := at_T41 (Kd.C_below HC.out HS.out.below) (j : Int) hj0 hjn2
        rw [hrx, Int.toNat_natCast] at d0 d1 d2 d3 d4 d5
        have HX := Aside0.mk hx
        clear hrx hx
        go_wp2_with (go_at_call 24; refine (told_cl w l tp rp j wr x HX.out (by rw [HN.out]; omega) HSZ.out.2 HFAR.out HS.out).mono ?_; clear d0 d1 d2 d3 d4 d5; rintro E w4 ⟨rfl, hs4⟩; have HS4 := Aside0.mk hs4; clear hs4)
        go_roundg gq
        case measure => omega
        case rel => exact ⟨j + 1, by go_num, by omega, HS4⟩
      | zero =>
        obtain rfl : j = n := by omega
        have hsx := HS.out
        obtain ⟨T, v, hi, hle, hmem, hts⟩ := hsx
        have hfr : ∀ x ∈ entS T, Far x := fun z hz => by
          obtain ⟨y, hy, rfl⟩ := hmem z hz
          exact HFAR.out y hy
        have hall := all_ent T hi hfr
        have hlen := fun e => from_len (T := T) e hi
        obtain ⟨L, hL⟩ : ∃ L, entS T = L := ⟨_, rfl⟩
        rw [hL] at hts hall hle hlen
        obtain ⟨m, hm⟩ : ∃ m, L.length = m := ⟨_, rfl⟩
        obtain ⟨AL, cL, hv, hcL, hCL⟩ := rowE_C (ref_row hts) (by omega)
        rw [hm] at hv hts hle
        subst hv
        obtain ⟨⟨tk, tb⟩, htw⟩ : ∃ p, twi L false ⟨#[]⟩ = p := ⟨_, rfl⟩
        have HTW := Aside0.mk htw
        have HTS := Aside0.mk hts
        have HI := Aside0.mk hi
        have HALL := Aside0.mk hall
        have HM := Aside0.mk hm
        have HLE := Aside0.mk (show ∀ e, (fromS T e).length < 90000 from fun e => by have := hlen e; omega)
        have hm9 : m ≤ 300 := by omega
        clear hi hle hmem hts hfr hall hlen hL hm hcL hCL htw HS
        go_wp2_with (first
          | (go_at_call 22; refine (twice_ts _ w NoF tp T _ _ HTS.out HI.out (HLE.out _)).mono ?_; rw [HALL.out, HTW.out]; rintro E w3 ⟨rfl, hs2⟩; have HS2 := Aside0.mk hs2; clear hs2)
          | (go_at_call 25; refine (reftwice_calls _ rp _ L (ref_box HS2.out) (ref_row HS2.out) (by rw [HM.out]; omega)).mono ?_; rw [HTW.out]; rintro E w4 ⟨rfl, hb4⟩; have HS3 := Aside0.mk (HS2.out.below hb4); clear hb4))
        have HS4 := Aside0.mk (HS3.out.below (⟨rfl, rfl, rfl, Nat.le_refl _, fun _ _ => rfl⟩ : Below w4.heap.size w4 w4.drew))
        clear HS3 HS2 HTS
        refine start_ (n := 28) (S := fun w' => w'.cell? ⟨rp, 0, none⟩ = some (.slice AL m cL)) (ds := []) #[false, false, false, false, false, false, false, false, false, false, false, false, false, false, false, false, false, false, false, false, false, false, false, false, false, false, false, false] (by kernel_rfl) rfl rfl (cell1 (HS4.out.rest.box 0 rfl)) (fun hHeld => ?_)
        refine pure_ (i := 0) (N := (some 41)) (v := ?_) (a' := ?_) #[true, false, false, false, false, false, false, false, false, false, false, false, false, false, false, false, false, false, false, false, false, false, false, false, false, false, false, false] rfl rfl (by kernel_rfl) (fun _ _ _ h => h) (Or.inl ⟨by rfl, ?_⟩) ?_ ?_
        rotate_left
        · intro w'
          go_simp
          with_reducible rfl
        rotate_left
        · simp only [Act.put, List.setIfInBounds_toArray, List.set_cons_zero, List.set_cons_succ, i64_w, i32_w]
          rfl
        refine pure_ (i := 2) (N := (some 43)) (v := ?_) (a' := ?_) #[true, false, true, false, false, false, false, false, false, false, false, false, false, false, false, false, false, false, false, false, false, false, false, false, false, false, false, false] rfl rfl (by kernel_rfl) (fun _ _ _ h => h) (Or.inl ⟨by rfl, ?_⟩) ?_ ?_
        rotate_left
        · intro w'
          go_simp
          with_reducible rfl
        rotate_left
        · simp only [Act.put, List.setIfInBounds_toArray, List.set_cons_zero, List.set_cons_succ, i64_w, i32_w]
          rfl
        refine pure_ (i := 3) (N := (some 44)) (v := ?_) (a' := ?_) #[true, false, true, true, false, false, false, false, false, false, false, false, false, false, false, false, false, false, false, false, false, false, false, false, false, false, false, false] rfl rfl (by kernel_rfl) (fun _ _ _ h => h) (Or.inl ⟨by rfl, ?_⟩) ?_ ?_
        rotate_left
        · intro w'
          go_simp
          with_reducible rfl
        rotate_left
        · simp only [Act.put, List.setIfInBounds_toArray, List.set_cons_zero, List.set_cons_succ, i64_w, i32_w]
          rfl
        refine pure_ (i := 4) (N := (some 45)) (v := ?_) (a' := ?_) #[true, false, true, true, true, false, false, false, false, false, false, false, false, false, false, false, false, false, false, false, false, false, false, false, false, false, false, false] rfl rfl (by kernel_rfl) (fun _ _ _ h => h) (Or.inl ⟨by rfl, ?_⟩) ?_ ?_
        rotate_left
        · intro w'
          go_simp
          with_reducible rfl
        rotate_left
        · simp only [Act.put, List.setIfInBounds_toArray, List.set_cons_zero, List.set_cons_succ, i64_w, i32_w]
          rfl
        refine take_ (i := 5) (N := (some 46)) (v := ?_) (a' := ?_) #[true, false, true, true, true, true, false, false, false, false, false, false, false, false, false, false, false, false, false, false, false, false, false, false, false, false, false, false] rfl rfl (by kernel_rfl) (fun _ _ _ h => h) (Or.inl ⟨by rfl, ?_⟩) hHeld ?_ ?_
        rotate_left
        · rintro w' s0
          go_simp
          with_reducible rfl
        rotate_left
        · simp only [Act.put, List.setIfInBounds_toArray, List.set_cons_zero, List.set_cons_succ, i64_w, i32_w]
          rfl
        refine one_ (i := 1) (N := (some 42)) #[true, true, true, true, true, true, false, false, false, false, false, false, false, false, false, false, false, false, false, false, false, false, false, false, false, false, false, false] rfl rfl (by kernel_rfl) (by decide) (fun K_ hK => ?_)
        refine goes_ Try.func18 (by kernel_rfl) rfl #[.pointer (some ⟨tp, 0, none⟩)] (by rfl) rfl rfl (by (try simp only [List.map_toArray, List.map_cons, List.map_nil]); first | done | rfl) ?_
        refine (all_ts _ w NoF tp T _ _ HS4.out HI.out (HLE.out _)).mono ?_
        rw [HALL.out]
        rintro E w5 ⟨u, rfl, hs5⟩
        have HS5 := Aside0.mk hs5
        clear hs5
        refine ⟨_, rfl, ?_⟩
        clear hHeld
        refine hK.out _ _ (cell1 (HS5.out.rest.box 1 rfl)) (fun hHeld => ?_)
        clear hK K_
        refine norm_ (a' := ?_) ?_ ?_
        rotate_left
        · show Act.put _ (some 42) _ = _
          simp only [Act.put, List.setIfInBounds_toArray, List.set_cons_zero, List.set_cons_succ, i64_w, i32_w]
          rfl
        refine one_ (i := 6) (N := (some 47)) #[true, true, true, true, true, true, true, false, false, false, false, false, false, false, false, false, false, false, false, false, false, false, false, false, false, false, false, false] rfl rfl (by kernel_rfl) (by decide) (fun K_ hK => ?_)
        refine goes_ Try.func17 (by kernel_rfl) rfl #[u, .slice AL m cL] (by rfl) rfl rfl (by (try simp only [List.map_toArray, List.map_cons, List.map_nil]); first | done | rfl) ?_
        refine (same_calls _ u _ L (HS5.out.rest.rowE 0 rfl) (HS5.out.rest.rowE 2 rfl) (by rw [HM.out]; omega)).mono ?_
        rintro E w6 ⟨rfl, hb6⟩
        have HS6 := Aside0.mk (HS5.out.below hb6)
        clear hb6
        refine ⟨_, rfl, ?_⟩
        clear hHeld
        refine hK.out _ _ (cell1 (HS6.out.rest.box 1 rfl)) (fun hHeld => ?_)
        clear hK K_
        refine norm_ (a' := ?_) ?_ ?_
        rotate_left
        · show Act.put _ (some 47) _ = _
          simp only [Act.put, List.setIfInBounds_toArray, List.set_cons_zero, List.set_cons_succ, i64_w, i32_w]
          rfl
        refine pure_ (i := 7) (N := (some 48)) (v := ?_) (a' := ?_) #[true, true, true, true, true, true, true, true, false, false, false, false, false, false, false, false, false, false, false, false, false, false, false, false, false, false, false, false] rfl rfl (by kernel_rfl) (fun _ _ _ h => h) (Or.inl ⟨by rfl, ?_⟩) ?_ ?_
        rotate_left
        · intro w'
          go_simp
          with_reducible rfl
        rotate_left
        · simp only [Act.put, List.setIfInBounds_toArray, List.set_cons_zero, List.set_cons_succ, i64_w, i32_w]
          rfl
        refine pure_ (i := 8) (N := (some 49)) (v := ?_) (a' := ?_) #[true, true, true, true, true, true, true, true, true, false, false, false, false, false, false, false, false, false, false, false, false, false, false, false, false, false, false, false] rfl rfl (by kernel_rfl) (fun _ _ _ h => h) (Or.inl ⟨by rfl, ?_⟩) ?_ ?_
        rotate_left
        · intro w'
          go_simp
          with_reducible rfl
        rotate_left
        · simp only [Act.put, List.setIfInBounds_toArray, List.set_cons_zero, List.set_cons_succ, i64_w, i32_w]
          rfl
        refine pure_ (i := 10) (N := (some 51)) (v := ?_) (a' := ?_) #[true, true, true, true, true, true, true, true, true, false, true, false, false, false, false, false, false, false, false, false, false, false, false, false, false, false, false, false] rfl rfl (by kernel_rfl) (fun _ _ _ h => h) (Or.inl ⟨by rfl, ?_⟩) ?_ ?_
        rotate_left
        · intro w'
          go_simp
          with_reducible rfl
        rotate_left
        · simp only [Act.put, List.setIfInBounds_toArray, List.set_cons_zero, List.set_cons_succ, i64_w, i32_w]
          rfl
        refine pure_ (i := 11) (N := (some 52)) (v := ?_) (a' := ?_) #[true, true, true, true, true, true, true, true, true, false, true, true, false, false, false, false, false, false, false, false, false, false, false, false, false, false, false, false] rfl rfl (by kernel_rfl) (fun _ _ _ h => h) (Or.inl ⟨by rfl, ?_⟩) ?_ ?_
        rotate_left
        · intro w'
          go_simp
          with_reducible rfl
        rotate_left
        · simp only [Act.put, List.setIfInBounds_toArray, List.set_cons_zero, List.set_cons_succ, i64_w, i32_w]
          rfl
        refine pure_ (i := 12) (N := (some 53)) (v := ?_) (a' := ?_) #[true, true, true, true, true, true, true, true, true, false, true, true, true, false, false, false, false, false, false, false, false, false, false, false, false, false, false, false] rfl rfl (by kernel_rfl) (fun _ _ _ h => h) (Or.inl ⟨by rfl, ?_⟩) ?_ ?_
        rotate_left
        · intro w'
          go_simp
          with_reducible rfl
        rotate_left
        · simp only [Act.put, List.setIfInBounds_toArray, List.set_cons_zero, List.set_cons_succ, i64_w, i32_w]
          rfl
        refine take_ (i := 13) (N := (some 54)) (v := ?_) (a' := ?_) #[true, true, true, true, true, true, true, true, true, false, true, true, true, true, false, false, false, false, false, false, false, false, false, false, false, false, false, false] rfl rfl (by kernel_rfl) (fun _ _ _ h => h) (Or.inl ⟨by rfl, ?_⟩) hHeld ?_ ?_
        rotate_left
        · rintro w' s0
          go_simp
          with_reducible rfl
        rotate_left
        · simp only [Act.put, List.setIfInBounds_toArray, List.set_cons_zero, List.set_cons_succ, i64_w, i32_w]
          rfl
        refine pure_ (i := 14) (N := (some 55)) (v := ?_) (a' := ?_) #[true, true, true, true, true, true, true, true, true, false, true, true, true, true, true, false, false, false, false, false, false, false, false, false, false, false, false, false] rfl rfl (by kernel_rfl) (fun _ _ _ h => h) (Or.inl ⟨by rfl, ?_⟩) ?_ ?_
        rotate_left
        · intro w'
          go_simp
          with_reducible rfl
        rotate_left
        · simp only [Act.put, List.setIfInBounds_toArray, List.set_cons_zero, List.set_cons_succ, i64_w, i32_w]
          rfl
        refine one_ (i := 9) (N := (some 50)) #[true, true, true, true, true, true, true, true, true, true, true, true, true, true, true, false, false, false, false, false, false, false, false, false, false, false, false, false] rfl rfl (by kernel_rfl) (by decide) (fun K_ hK => ?_)
        refine goes_ Try.func13 (by kernel_rfl) rfl #[.pointer (some ⟨tp, 0, none⟩)] (by rfl) rfl rfl (by (try simp only [List.map_toArray, List.map_cons, List.map_nil]); first | done | rfl) ?_
        refine (count_ts _ w NoF tp T _ _ HS6.out).mono ?_
        rintro E w7 ⟨rfl, rfl⟩
        refine ⟨_, rfl, ?_⟩
        clear hHeld
        refine hK.out _ _ (cell1 (HS6.out.rest.box 1 rfl)) (fun hHeld => ?_)
        clear hK K_
        refine norm_ (a' := ?_) ?_ ?_
        rotate_left
        · show Act.put _ (some 50) _ = _
          simp only [Act.put, List.setIfInBounds_toArray, List.set_cons_zero, List.set_cons_succ, i64_w, i32_w]
          rfl
        refine pure_ (i := 15) (N := (some 56)) (v := ?_) (a' := ?_) #[true, true, true, true, true, true, true, true, true, true, true, true, true, true, true, true, false, false, false, false, false, false, false, false, false, false, false, false] rfl rfl (by kernel_rfl) (fun _ _ _ h => h) (Or.inl ⟨by rfl, ?_⟩) ?_ ?_
        rotate_left
        · intro w'
          go_simp
          with_reducible rfl
        rotate_left
        · simp only [Act.put, List.setIfInBounds_toArray, List.set_cons_zero, List.set_cons_succ, i64_w, i32_w]
          rfl
        refine pure_ (i := 16) (N := (some 57)) (v := ?_) (a' := ?_) #[true, true, true, true, true, true, true, true, true, true, true, true, true, true, true, true, true, false, false, false, false, false, false, false, false, false, false, false] rfl rfl (by kernel_rfl) (fun _ _ _ h => h) (Or.inl ⟨by rfl, ?_⟩) ?_ ?_
        rotate_left
        · intro w'
          go_simp
          with_reducible rfl
        rotate_left
        · simp only [Act.put, List.setIfInBounds_toArray, List.set_cons_zero, List.set_cons_succ, i64_w, i32_w]
          rfl
        refine pure_ (i := 17) (N := (some 58)) (v := ?_) (a' := ?_) #[true, true, true, true, true, true, true, true, true, true, true, true, true, true, true, true, true, true, false, false, false, false, false, false, false, false, false, false] rfl rfl (by kernel_rfl) (fun _ _ _ h => h) (Or.inl ⟨by rfl, ?_⟩) ?_ ?_
        rotate_left
        · intro w'
          go_simp
          with_reducible rfl
        rotate_left
        · simp only [Act.put, List.setIfInBounds_toArray, List.set_cons_zero, List.set_cons_succ, i64_w, i32_w]
          rfl
        refine pure_ (i := 18) (N := (some 59)) (v := ?_) (a' := ?_) #[true, true, true, true, true, true, true, true, true, true, true, true, true, true, true, true, true, true, true, false, false, false, false, false, false, false, false, false] rfl rfl (by kernel_rfl) (fun _ _ _ h => h) (Or.inl ⟨by rfl, ?_⟩) ?_ ?_
        rotate_left
        · intro w'
          go_simp
          with_reducible rfl
        rotate_left
        · simp only [Act.put, List.setIfInBounds_toArray, List.set_cons_zero, List.set_cons_succ, i64_w, i32_w]
          rfl
        refine pure_ (i := 19) (N := (some 60)) (v := ?_) (a' := ?_) #[true, true, true, true, true, true, true, true, true, true, true, true, true, true, true, true, true, true, true, true, false, false, false, false, false, false, false, false] rfl rfl (by kernel_rfl) (fun _ _ _ h => h) (Or.inl ⟨by rfl, ?_⟩) ?_ ?_
        rotate_left
        · intro w'
          go_simp
          with_reducible rfl
        rotate_left
        · simp only [Act.put, List.setIfInBounds_toArray, List.set_cons_zero, List.set_cons_succ, i64_w, i32_w]
          rfl
        refine pure_ (i := 20) (N := (some 61)) (v := ?_) (a' := ?_) #[true, true, true, true, true, true, true, true, true, true, true, true, true, true, true, true, true, true, true, true, true, false, false, false, false, false, false, false] rfl rfl (by kernel_rfl) (fun _ _ _ h => h) (Or.inl ⟨by rfl, ?_⟩) ?_ ?_
        rotate_left
        · intro w'
          go_simp
          with_reducible rfl
        rotate_left
        · simp only [Act.put, List.setIfInBounds_toArray, List.set_cons_zero, List.set_cons_succ, i64_w, i32_w]
          rfl
        refine pure_ (i := 21) (N := (some 62)) (v := ?_) (a' := ?_) #[true, true, true, true, true, true, true, true, true, true, true, true, true, true, true, true, true, true, true, true, true, true, false, false, false, false, false, false] rfl rfl (by kernel_rfl) (fun _ _ _ h => h) (Or.inl ⟨by rfl, ?_⟩) ?_ ?_
        rotate_left
        · intro w'
          go_simp
          with_reducible rfl
        rotate_left
        · simp only [Act.put, List.setIfInBounds_toArray, List.set_cons_zero, List.set_cons_succ, i64_w, i32_w]
          rfl
        refine pure_ (i := 22) (N := (some 63)) (v := ?_) (a' := ?_) #[true, true, true, true, true, true, true, true, true, true, true, true, true, true, true, true, true, true, true, true, true, true, true, false, false, false, false, false] rfl rfl (by kernel_rfl) (fun _ _ _ h => h) (Or.inl ⟨by rfl, ?_⟩) ?_ ?_
        rotate_left
        · intro w'
          go_simp
          with_reducible rfl
        rotate_left
        · simp only [Act.put, List.setIfInBounds_toArray, List.set_cons_zero, List.set_cons_succ, i64_w, i32_w]
          rfl
        refine pure_ (i := 23) (N := (some 64)) (v := ?_) (a' := ?_) #[true, true, true, true, true, true, true, true, true, true, true, true, true, true, true, true, true, true, true, true, true, true, true, true, false, false, false, false] rfl rfl (by kernel_rfl) (fun _ _ _ h => h) (Or.inl ⟨by rfl, ?_⟩) ?_ ?_
        rotate_left
        · intro w'
          go_simp
          with_reducible rfl
        rotate_left
        · simp only [Act.put, List.setIfInBounds_toArray, List.set_cons_zero, List.set_cons_succ, i64_w, i32_w]
          rfl
        refine pure_ (i := 24) (N := (some 65)) (v := ?_) (a' := ?_) #[true, true, true, true, true, true, true, true, true, true, true, true, true, true, true, true, true, true, true, true, true, true, true, true, true, false, false, false] rfl rfl (by kernel_rfl) (fun _ _ _ h => h) (Or.inl ⟨by rfl, ?_⟩) ?_ ?_
        rotate_left
        · intro w'
          go_simp
          with_reducible rfl
        rotate_left
        · simp only [Act.put, List.setIfInBounds_toArray, List.set_cons_zero, List.set_cons_succ, i64_w, i32_w]
          rfl
        refine pure_ (i := 25) (N := (some 66)) (v := ?_) (a' := ?_) #[true, true, true, true, true, true, true, true, true, true, true, true, true, true, true, true, true, true, true, true, true, true, true, true, true, true, false, false] rfl rfl (by kernel_rfl) (fun _ _ _ h => h) (Or.inl ⟨by rfl, ?_⟩) ?_ ?_
        rotate_left
        · intro w'
          go_simp
          with_reducible rfl
        rotate_left
        · simp only [Act.put, List.setIfInBounds_toArray, List.set_cons_zero, List.set_cons_succ, i64_w, i32_w]
          rfl
        refine pure_ (i := 26) (N := (some 67)) (v := ?_) (a' := ?_) #[true, true, true, true, true, true, true, true, true, true, true, true, true, true, true, true, true, true, true, true, true, true, true, true, true, true, true, false] rfl rfl (by kernel_rfl) (fun _ _ _ h => h) (Or.inl ⟨by rfl, ?_⟩) ?_ ?_
        rotate_left
        · intro w'
          go_simp
          with_reducible rfl
        rotate_left
        · simp only [Act.put, List.setIfInBounds_toArray, List.set_cons_zero, List.set_cons_succ, i64_w, i32_w]
          rfl
        refine pure_ (i := 27) (N := (some 2)) (v := ?_) (a' := ?_) #[true, true, true, true, true, true, true, true, true, true, true, true, true, true, true, true, true, true, true, true, true, true, true, true, true, true, true, true] rfl rfl (by kernel_rfl) (fun _ _ _ h => h) (Or.inl ⟨by rfl, ?_⟩) ?_ ?_
        rotate_left
        · intro w'
          go_simp
          with_reducible rfl
        rotate_left
        · simp only [Act.put, List.setIfInBounds_toArray, List.set_cons_zero, List.set_cons_succ, i64_w, i32_w]
          rfl
        refine done_ (by kernel_rfl) ?_
        go_wp2
        first | (rw [← HR.out]) | (go_ret; rw [← HR.out])
        exact ⟨by first | rfl | simp, keep_below HS6.out.keep⟩
theorem calls_row (w : World) (A0 : Option Addr) (c0 : Nat) (l : List S41) (hC : Kd.C k41 w A0 l.length l) (hcap : l.length ≤ c0) (hwf : l.length ≤ maxLen ∧ ∀ a ∈ l, wf41 a) : Calls Try.prog 8 #[.slice A0 l.length c0] w fun E w' => E = .returned (.bool true) ∧ Below w.heap.size w w' :=
  btreecalls_calls w A0 c0 l hC hcap fun x hx => far_of (hwf.2 x hx).2.2.1
end Go.Proofs.Bt
end
