/- Packed by chunk.py: YtjcgbppicdccdaaDoorA8 YtjcgbppicdccdaaDoorQ31 YtjcgbppicdccdaaDoorQ16 YtjcgbppicdccdaaDoorQ18 YtjcgbppicdccdaaDoorA9 YtjcgbppicdccdaaDoorQ33 -/
import Derived.Test.YtjcgbppicdccdaaDoorQ0
import Derived.LoopN
import Derived.Test.YtjcgbppicdccdaaDoorShelf
import Derived.Laws.BitsLemmas
import Derived.Deep.Slices
import Derived.ChangeArms
import Derived.DataReads
import Derived.Test.YtjcgbppicdccdaaDoorM3
section
/- Plain law: texts and values of a key, taken apart and put together. -/
namespace Go.Proofs.YtjcgbppicdccdaaDoor.Q
open Go.RowKit Go.Proofs.YtjcgbppicdccdaaDoorW.PrintWords Go.Proofs.YtjcgbppicdccdaaDoorW.PrintLast Go.Proofs.YtjcgbppicdccdaaDoorW.PrintMore
set_option linter.unusedVariables false

theorem escL_app : ∀ (a b : List UInt8), escL (a ++ b) = escL a ++ escL b
  | [], b => rfl
  | c :: a, b => by
    rw [List.cons_append, escL, escL, escL_app a b]
    split <;> simp
theorem index_app : ∀ (p x : List UInt8), p.count 0 = 0 → Lib.indexByte (p ++ 0 :: x) 0 = (p.length : Int)
  | [], x, _ => by simp [Lib.indexByte]
  | c :: p, x, h => by
    rw [List.count_cons] at h
    have hc : ¬ c = 0 := by intro e; subst e; simp at h
    have ih := index_app p x (by omega)
    rw [List.cons_append, Lib.indexByte, ih, if_neg (by simp [hc]), if_neg (by simp <;> omega), List.length_cons]
    omega
theorem index_split : ∀ (l : List UInt8) (k : Nat), Lib.indexByte l 0 = (k : Int) → (l.take k).count 0 = 0 ∧ k < l.length ∧ ∃ x, l.drop k = 0 :: x
  | [], k, h => by simp [Lib.indexByte] at h <;> omega
  | c :: l, k, h => by
    unfold Lib.indexByte at h
    by_cases hc : c = 0
    · rw [if_pos (by simp [hc])] at h
      obtain rfl : k = 0 := by omega
      exact ⟨rfl, by simp, l, by simp [hc]⟩
    · rw [if_neg (by simp [hc])] at h
      by_cases hm : Lib.indexByte l 0 = -1
      · rw [if_pos (by simp [hm])] at h; omega
      · rw [if_neg (by simp [hm])] at h
        have hge := Lib.indexByte_ge l 0
        obtain ⟨j, rfl⟩ : ∃ j, k = j + 1 := ⟨k - 1, by omega⟩
        obtain ⟨h1, h2, x, h3⟩ := index_split l j (by omega)
        refine ⟨?_, by simp; omega, x, by simpa using h3⟩
        rw [List.take_succ_cons, List.count_cons, h1]
        simp [hc]
/-- A text that was put together is taken apart. -/
theorem textGo_esc : ∀ (n : Nat) (u r acc : List UInt8), u.count 0 < n → textGo n (escL u ++ ([0, 1] ++ r)) acc = (acc ++ u, r, false)
  | 0, u, r, acc, h => by omega
  | n + 1, u, r, acc, h => by
    by_cases hz : u.count 0 = 0
    · have he := escL_none u hz
      have hi := index_app u (1 :: r) hz
      rw [he]
      have e : u ++ ([0, 1] ++ r) = u ++ 0 :: (1 :: r) := by simp
      rw [e, textGo, hi, if_neg (by omega), Int.toNat_natCast]
      have hd : (u ++ 0 :: 1 :: r).drop u.length = 0 :: 1 :: r := by simp
      have ht : (u ++ 0 :: 1 :: r).take u.length = u := by simp
      rw [hd, ht, if_neg (by simp), if_pos (by simp)]
      simp
    · obtain ⟨j, hj, hlt, he, hcn⟩ := escL_at u hz
      obtain ⟨h0, _, x, hx⟩ := index_split u j hj
      have htl : (u.take j).length = j := by rw [List.length_take]; omega
      have e : escL u ++ ([0, 1] ++ r) = u.take j ++ 0 :: (255 :: (escL (u.drop (j + 1)) ++ ([0, 1] ++ r))) := by rw [he]; simp
      have hi := index_app (u.take j) (255 :: (escL (u.drop (j + 1)) ++ ([0, 1] ++ r))) h0
      rw [e, textGo, hi, if_neg (by omega), Int.toNat_natCast]
      have hd : (u.take j ++ 0 :: 255 :: (escL (u.drop (j + 1)) ++ ([0, 1] ++ r))).drop (u.take j).length = 0 :: 255 :: (escL (u.drop (j + 1)) ++ ([0, 1] ++ r)) := by simp
      have ht : (u.take j ++ 0 :: 255 :: (escL (u.drop (j + 1)) ++ ([0, 1] ++ r))).take (u.take j).length = u.take j := by simp
      rw [hd, ht, if_neg (by simp), if_neg (by simp), if_pos (by simp)]
      have ih := textGo_esc n (u.drop (j + 1)) r (acc ++ u.take j ++ [0]) (by omega)
      rw [show (0 :: 255 :: (escL (u.drop (j + 1)) ++ ([0, 1] ++ r))).drop 2 = escL (u.drop (j + 1)) ++ ([0, 1] ++ r) by simp, ih]
      have hu : u = u.take j ++ 0 :: u.drop (j + 1) := by
        have h1 := (List.take_append_drop j u).symm
        have h2 : u.drop (j + 1) = x := by
          have := congrArg (List.drop 1) hx
          rw [List.drop_drop] at this
          simpa using this
        rw [h2, ← hx]
        exact h1
      have : acc ++ u.take j ++ [0] ++ u.drop (j + 1) = acc ++ u := by
        conv => rhs; rw [hu]
        simp
      rw [this]
theorem textOf_esc (u r : List UInt8) : textOf (escL u ++ ([0, 1] ++ r)) = (u, r, false) := by
  have h : u.count 0 < (escL u ++ ([0, 1] ++ r)).length + 1 := by
    rw [List.length_append, escL_len]
    have : u.count 0 ≤ u.length := List.count_le_length
    omega
  have := textGo_esc _ u r [] h
  unfold textOf
  rw [this]
  simp
/-- What was taken apart is a text that was put together. -/
theorem textGo_back : ∀ (n : Nat) (rest acc t r : List UInt8), textGo n rest acc = (t, r, false) → ∃ u, t = acc ++ u ∧ rest = escL u ++ ([0, 1] ++ r)
  | 0, rest, acc, t, r, h => by simp [textGo] at h
  | n + 1, rest, acc, t, r, h => by
    rw [textGo] at h
    by_cases hneg : Lib.indexByte rest 0 < 0
    · rw [if_pos hneg] at h; simp at h
    · rw [if_neg hneg] at h
      obtain ⟨k, hk⟩ := Int.eq_ofNat_of_zero_le (show 0 ≤ Lib.indexByte rest 0 by omega)
      rw [hk, Int.toNat_natCast] at h
      obtain ⟨h0, hlt, x, hx⟩ := index_split rest k hk
      have hsplit := (List.take_append_drop k rest).symm
      by_cases h2 : (rest.drop k).length < 2
      · rw [if_pos h2] at h; simp at h
      · rw [if_neg h2] at h
        have hd2 := (List.take_append_drop 2 (rest.drop k)).symm
        by_cases e1 : (rest.drop k).take 2 = [0, 1]
        · rw [if_pos e1] at h
          simp only [Prod.mk.injEq, and_true] at h
          obtain ⟨rfl, rfl⟩ := h
          refine ⟨rest.take k, rfl, ?_⟩
          rw [escL_none _ h0, ← e1, ← hd2]
          exact hsplit
        · rw [if_neg e1] at h
          by_cases e2 : (rest.drop k).take 2 = [0, 255]
          · rw [if_pos e2] at h
            obtain ⟨u, hu1, hu2⟩ := textGo_back n _ _ t r h
            refine ⟨rest.take k ++ [0] ++ u, by rw [hu1]; simp, ?_⟩
            rw [escL_app, escL_app, escL_none _ h0, show escL [0] = [0, 255] from rfl, ← e2, List.append_assoc, List.append_assoc, ← hu2, ← hd2]
            exact hsplit
          · rw [if_neg e2] at h; simp at h
theorem textOf_back {rest t r : List UInt8} (h : textOf rest = (t, r, false)) : rest = escL t ++ ([0, 1] ++ r) := by
  obtain ⟨u, hu, he⟩ := textGo_back _ _ _ _ _ h
  simp at hu
  rw [hu]
  exact he

theorem of_byte (c : UInt8) : UInt8.ofNat ((c.toNat : Int) % 256).toNat = c := by
  have := c.toNat_lt
  apply UInt8.toNat_inj.1
  rw [u8_nat _ (by omega)]
  omega
theorem list_eq_bA {s : ByteArray} (h : s.data.toList = []) : s = ⟨#[]⟩ := by
  apply ByteArray.ext
  simpa using h
/-- A right value's bytes are taken apart to it. -/
theorem valueL_one {v : S43} (hv : rightV v = true) (wv : wfS v) (r : List UInt8) : valueL (oneL v ++ r) = (v, r, false) := by
  obtain ⟨k, m, s⟩ := v
  rcases right_cases hv with ⟨h0, h1, h2⟩ | ⟨h0, h2⟩ | ⟨h0, h1, h2⟩ | ⟨h0, h1, h2⟩
  · simp only at h0 h1 h2
    subst h0; subst h1
    obtain rfl := list_eq_bA h2
    exact vb0 (by decide) (by decide) (by decide)
  · simp only at h0 h2
    subst h0
    obtain rfl := list_eq_bA h2
    have hl := numL_len m
    show valueL ((1 : UInt8) :: (numL m ++ r)) = _
    show valueB ((1 : UInt8).toNat : Int) (numL m ++ r) = _
    have hn := numOf_numL m wv.1 wv.2
    rw [vb1 (by decide) (by rw [List.length_append, hl]; omega), List.take_append_of_le_length (by omega), List.take_of_length_le (by omega), hn, List.drop_append_of_le_length (by omega), List.drop_eq_nil_iff.2 (by omega)]
    rfl
  · simp only at h0 h1 h2
    subst h0
    obtain rfl := list_eq_bA h2
    rcases h1 with rfl | rfl
    · exact vb2 (by decide)
    · exact vb2 (by decide)
  · simp only at h0 h1 h2
    subst h0; subst h1
    have e : oneL ⟨3, 0, s⟩ ++ r = (3 : UInt8) :: (escL s.data.toList ++ ([0, 1] ++ r)) := by
      show (3 : UInt8) :: ((escL s.data.toList ++ [0, 1]) ++ r) = _
      simp
    rw [e]
    show valueB ((3 : UInt8).toNat : Int) (escL s.data.toList ++ ([0, 1] ++ r)) = _
    rw [vb3 (by decide), textOf_esc, bA_list]
    rfl
/-- What a right value was taken out of is its bytes, and what is left. -/
theorem valueL_back {c : UInt8} {r r' : List UInt8} {v : S43} (h : valueL (c :: r) = (v, r', false)) (hv : rightV v = true) : c :: r = oneL v ++ r' := by
  have h' : valueB (c.toNat : Int) r = (v, r', false) := h
  have hb := of_byte c
  by_cases k1 : (c.toNat : Int) = 1
  · by_cases h8 : r.length < 8
    · rw [vb1s k1 h8] at h'; simp at h'
    · rw [vb1 k1 h8] at h'
      simp only [Prod.mk.injEq, and_true] at h'
      obtain ⟨rfl, rfl⟩ := h'
      have hn := numL_numOf (r.take 8) (by rw [List.length_take]; omega)
      unfold oneL
      simp only [if_pos k1]
      rw [hb, hn, List.cons_append, List.take_append_drop]
  · by_cases k2 : (c.toNat : Int) = 2
    · cases r with
      | nil => rw [vb2n k2] at h'; simp at h'
      | cons d r =>
        rw [vb2 k2] at h'
        simp only [Prod.mk.injEq, and_true] at h'
        obtain ⟨rfl, rfl⟩ := h'
        unfold oneL
        simp only [if_neg k1, if_pos k2]
        rw [hb, of_byte d]
        rfl
    · by_cases k3 : (c.toNat : Int) = 3
      · rw [vb3 k3] at h'
        simp only [Prod.mk.injEq] at h'
        obtain ⟨rfl, hr, hbad⟩ := h'
        have ht := textOf_back (rest := r) (t := (textOf r).1) (r := r') (by rw [← hr, ← hbad])
        unfold oneL
        simp only [if_neg k1, if_neg k2, if_pos k3]
        rw [hb, list_bA, List.cons_append, List.append_assoc, ← ht]
      · rw [vb0 k1 k2 k3] at h'
        simp only [Prod.mk.injEq, and_true] at h'
        obtain ⟨rfl, rfl⟩ := h'
        unfold oneL
        simp only [if_neg k1, if_neg k2, if_neg k3]
        rw [hb]
        rfl

theorem decGo_stop (n : Nat) (rest : List UInt8) (out : List S43) : decGo n rest true out = (out, true) := by
  cases n with
  | zero => rfl
  | succ n => rw [decGo, if_neg (by simp)]
theorem decGo_enc : ∀ (l : List S43) (n : Nat) (out : List S43), l.all rightV = true → (∀ v ∈ l, wfS v) → out.length + l.length ≤ 8 → l.length < n → decGo n (encL l) false out = (out ++ l, false)
  | [], n, out, _, _, _, hn => by
    obtain ⟨n, rfl⟩ : ∃ q, n = q + 1 := ⟨n - 1, by omega⟩
    rw [decGo, if_neg (by simp [encL])]
    simp
  | v :: l, n, out, h, hw, h8, hn => by
    obtain ⟨n, rfl⟩ : ∃ q, n = q + 1 := ⟨n - 1, by omega⟩
    rw [List.all_cons, Bool.and_eq_true] at h
    rw [List.length_cons] at h8 hn
    have hv := valueL_one h.1 (hw v (List.mem_cons_self ..)) (encL l)
    have e : encL (v :: l) = oneL v ++ encL l := by simp [encL]
    have hpos : 0 < (oneL v ++ encL l).length := by simp [oneL]
    rw [e, decGo, if_pos ⟨hpos, rfl, by omega⟩, hv]
    have ih := decGo_enc l n (out ++ [v]) h.2 (fun z hz => hw z (List.mem_cons_of_mem _ hz)) (by rw [List.length_append, List.length_singleton]; omega) (by omega)
    simp only [ih, List.append_assoc, List.singleton_append]
theorem decL_enc (l : List S43) (h : rightRow l = true) (hw : ∀ v ∈ l, wfS v) : decL (encL l) = (l, true) := by
  obtain ⟨h8, hr⟩ := rightRow_all h
  have := decGo_enc l 10 [] hr hw (by simpa using h8) (by omega)
  rw [List.nil_append] at this
  unfold decL
  rw [this]
  simp [h]
theorem decGo_back : ∀ (n : Nat) (rest : List UInt8) (out out' : List S43), decGo n rest false out = (out', false) → out'.all rightV = true → out'.length ≤ 8 → out.length + n = 10 → encL out' = encL out ++ rest
  | 0, rest, out, out', h, _, h8, hn => by
    simp [decGo] at h
    subst h
    omega
  | n + 1, rest, out, out', h, hr, h8, hn => by
    rw [decGo] at h
    by_cases hc : 0 < rest.length ∧ (false : Bool) = false ∧ out.length ≤ 8
    · rw [if_pos hc] at h
      cases rest with
      | nil => simp at hc
      | cons c r =>
        obtain ⟨V, hV⟩ : ∃ V, valueL (c :: r) = V := ⟨_, rfl⟩
        rw [hV] at h
        obtain ⟨v, r', bad⟩ := V
        simp only at h
        cases bad with
        | true => rw [decGo_stop] at h; simp at h
        | false =>
          have ih := decGo_back n r' (out ++ [v]) out' h hr h8 (by rw [List.length_append, List.length_singleton]; omega)
          have hin : ∀ (n : Nat) (rest : List UInt8) (bad : Bool) (out : List S43), ∃ x, (decGo n rest bad out).1 = out ++ x := by
            intro n
            induction n with
            | zero => intro rest bad out; exact ⟨[], by simp [decGo]⟩
            | succ n ih =>
              intro rest bad out
              rw [decGo]
              split
              · obtain ⟨x, hx⟩ := ih (valueL rest).2.1 (valueL rest).2.2 (out ++ [(valueL rest).1])
                exact ⟨[(valueL rest).1] ++ x, by rw [hx]; simp⟩
              · exact ⟨[], by simp⟩
          obtain ⟨x, hx⟩ := hin n r' false (out ++ [v])
          rw [h] at hx
          simp only at hx
          have hv : rightV v = true := List.all_eq_true.1 hr v (by rw [hx]; simp)
          have hb := valueL_back hV hv
          rw [ih, hb]
          simp [encL]
    · rw [if_neg hc] at h
      simp only [Prod.mk.injEq, and_true] at h
      subst h
      have : rest.length = 0 := by
        rcases Nat.eq_zero_or_pos rest.length with h0 | h0
        · exact h0
        · exact absurd ⟨h0, rfl, h8⟩ hc
      rw [List.eq_nil_of_length_eq_zero this]
      simp
theorem decL_back {s : List UInt8} {r : List S43} (h : decL s = (r, true)) : rightRow r = true ∧ encL r = s := by
  unfold decL at h
  split at h
  · simp at h
  · rename_i hb
    split at h
    · rename_i hr
      simp only [Prod.mk.injEq, and_true] at h
      refine ⟨by rw [← h]; exact hr, ?_⟩
      obtain ⟨h8, ha⟩ := rightRow_all hr
      have := decGo_back 10 s [] (decGo 10 s false []).1 (Prod.ext rfl (Bool.eq_false_iff.mpr hb)) ha h8 rfl
      rw [← h, this]
      rfl
    · simp at h
theorem decL_no {s : List UInt8} {r : List S43} (h : decL s = (r, false)) : r = [] := by
  unfold decL at h
  split at h
  · simpa using h.symm
  · split at h
    · simp at h
    · simpa using h.symm
end Go.Proofs.YtjcgbppicdccdaaDoor.Q
end
section
/- What Go functions compute, as Lean functions, and that the machine's call comes to just that; no conditions beyond each theorem's own. (Written by pp.py of this repo, over the kit's print.py.) -/
namespace Go.Proofs.YtjcgbppicdccdaaDoor.Q
open Go.RowKit Go.Proofs.YtjcgbppicdccdaaDoorW.PrintWords Go.Proofs.YtjcgbppicdccdaaDoorW.PrintLast Go.Proofs.YtjcgbppicdccdaaDoorW.PrintMore
attribute [local go_sem] max2_int min2_int max_two min_two max_three min_three max_four min_four   -- for this text's walks alone
set_option linter.unusedVariables false
set_option linter.unusedSimpArgs false

/-! ### interlockref04_Right: function 31 -/
def interlockref04_Right.f (a0_0 : Int) (a0_1 : Int) (a0_2 : ByteArray) : Option (Bool) := if a0_0 = 0 then (if a0_1 = 0 then (some (a0_2.toList == ([] : List UInt8))) else (some false)) else (if a0_0 = 1 then (some (a0_2.toList == ([] : List UInt8))) else (if a0_0 = 2 then (if a0_1 = 0 then (some (a0_2.toList == ([] : List UInt8))) else (if a0_1 = 1 then (some (a0_2.toList == ([] : List UInt8))) else (some false))) else (if a0_0 = 3 then (if a0_1 = 0 then (some (decide ((a0_2.size : Int) ≤ 16))) else (some false)) else (some false))))
set_option maxHeartbeats 8000000 in
set_option maxRecDepth 100000 in
theorem interlockref04_Right.calls (a0_0 : Int) (a0_1 : Int) (a0_2 : ByteArray) (r : Bool) (w : World) (h : interlockref04_Right.f a0_0 a0_1 a0_2 = some r) :
    Calls Tryd.prog 31 #[.agg #[.int .i64 a0_0, .int .i64 a0_1, .string a0_2]] w fun e w' => e = .returned (.bool r) ∧ Below w.heap.size w w' := by
  have hu43 := Tryd.underlying43
  have HB := Aside0.mk (Below.refl w.heap.size w)
  have H : (if a0_0 = 0 then (if a0_1 = 0 then (some (a0_2.toList == ([] : List UInt8))) else (some false)) else (if a0_0 = 1 then (some (a0_2.toList == ([] : List UInt8))) else (if a0_0 = 2 then (if a0_1 = 0 then (some (a0_2.toList == ([] : List UInt8))) else (if a0_1 = 1 then (some (a0_2.toList == ([] : List UInt8))) else (some false))) else (if a0_0 = 3 then (if a0_1 = 0 then (some (decide ((a0_2.size : Int) ≤ 16))) else (some false)) else (some false))))) = some r := h
  clear h
  by_cases c2 : a0_0 = 0
  · rw [if_pos c2] at H
    have c2b0 : (a0_0 == 0) = true := beq_iff_eq.mpr c2
    have c2b1 : (a0_0 != 0) = false := bne_eq_false_iff_eq.mpr c2
    clear c2
    by_cases c3 : a0_1 = 0
    · rw [if_pos c3] at H
      have c3b0 : (a0_1 == 0) = true := beq_iff_eq.mpr c3
      have c3b1 : (a0_1 != 0) = false := bne_eq_false_iff_eq.mpr c3
      clear c3
      obtain rfl := Option.some.inj H
      go_enter Tryd.func31, Tryd.ntmps31
      go_wp2_with (first | ((with_reducible refine gate_dst (N := 1) rfl ?_); (try (refine gate_guard (by rfl) ?_; dsimp only)); refine box_event ?hg (N := 1) ?hd (cs := #[.int .i64 a0_0, .int .i64 a0_1, .string a0_2]) (t := 43) ?hr ?_; (case hd => rfl); (case hg => rfl); (case hr => first | (go_simp; done) | (go_simp; rfl)); intro gb176 hg w4 hbox hb; have n0_ := Aside0.mk (below_step (by repeat (first | (with_reducible first | exact HB.out | apply below_alloc | apply pw_below_drewN | apply below_drew1) | exact HB.out)) hb); have n1_ := Aside0.mk (hbox); have n2_ := Aside0.mk ((by rw [hg]; exact (below_size (by repeat (first | (with_reducible first | exact HB.out | apply below_alloc | apply pw_below_drewN | apply below_drew1) | exact HB.out))) : w.heap.size ≤ gb176)); have n3_ := Aside0.mk ((by rw [hg]; exact (below_size (by repeat (first | (with_reducible first | exact HB.out | apply below_alloc | apply pw_below_drewN | apply below_drew1) | exact HB.out))) : w.heap.size ≤ gb176)); clear HB; have HB := n0_; have BK176 := n1_; have GW176 := n2_; have GE176 := n3_; clear n0_ n1_ n2_ n3_; clear hb hbox hg; have hcz5_0 : w4.cell? ⟨gb176, 0, none⟩ = some (.int .i64 a0_0) := (blk_cell BK176.out 0).trans rfl; have hcz5_1 : w4.cell? ⟨gb176, 1, none⟩ = some (.int .i64 a0_1) := (blk_cell BK176.out 1).trans rfl; have hcz5_2 : w4.cell? ⟨gb176, 2, none⟩ = some (.string a0_2) := (blk_cell BK176.out 2).trans rfl; have hfz5_0 := blk_frozen BK176.out 0; have hfz5_1 := blk_frozen BK176.out 1; have hfz5_2 := blk_frozen BK176.out 2))
      go_ret
      exact ⟨by first | rfl | (simp [errW_none, errW_some] <;> rfl) | (simp [*, errW_none, errW_some] <;> rfl), by repeat (first | (with_reducible first | exact HB.out | apply below_alloc | apply pw_below_drewN | apply below_drew1 | refine below_set ?_ GE176.out) | exact HB.out)⟩
    · rw [if_neg c3] at H
      have c3b0 : (a0_1 == 0) = false := beq_eq_false_iff_ne.mpr c3
      have c3b1 : (a0_1 != 0) = true := bne_iff_ne.mpr c3
      obtain rfl := Option.some.inj H
      go_enter Tryd.func31, Tryd.ntmps31
      go_wp2_with (first | ((with_reducible refine gate_dst (N := 1) rfl ?_); (try (refine gate_guard (by rfl) ?_; dsimp only)); refine box_event ?hg (N := 1) ?hd (cs := #[.int .i64 a0_0, .int .i64 a0_1, .string a0_2]) (t := 43) ?hr ?_; (case hd => rfl); (case hg => rfl); (case hr => first | (go_simp; done) | (go_simp; rfl)); intro gb176 hg w6 hbox hb; have n0_ := Aside0.mk (below_step (by repeat (first | (with_reducible first | exact HB.out | apply below_alloc | apply pw_below_drewN | apply below_drew1) | exact HB.out)) hb); have n1_ := Aside0.mk (hbox); have n2_ := Aside0.mk ((by rw [hg]; exact (below_size (by repeat (first | (with_reducible first | exact HB.out | apply below_alloc | apply pw_below_drewN | apply below_drew1) | exact HB.out))) : w.heap.size ≤ gb176)); have n3_ := Aside0.mk ((by rw [hg]; exact (below_size (by repeat (first | (with_reducible first | exact HB.out | apply below_alloc | apply pw_below_drewN | apply below_drew1) | exact HB.out))) : w.heap.size ≤ gb176)); clear HB; have HB := n0_; have BK176 := n1_; have GW176 := n2_; have GE176 := n3_; clear n0_ n1_ n2_ n3_; clear hb hbox hg; have hcz7_0 : w6.cell? ⟨gb176, 0, none⟩ = some (.int .i64 a0_0) := (blk_cell BK176.out 0).trans rfl; have hcz7_1 : w6.cell? ⟨gb176, 1, none⟩ = some (.int .i64 a0_1) := (blk_cell BK176.out 1).trans rfl; have hcz7_2 : w6.cell? ⟨gb176, 2, none⟩ = some (.string a0_2) := (blk_cell BK176.out 2).trans rfl; have hfz7_0 := blk_frozen BK176.out 0; have hfz7_1 := blk_frozen BK176.out 1; have hfz7_2 := blk_frozen BK176.out 2))
      go_ret
      exact ⟨by first | rfl | (simp [errW_none, errW_some] <;> rfl) | (simp [*, errW_none, errW_some] <;> rfl), by repeat (first | (with_reducible first | exact HB.out | apply below_alloc | apply pw_below_drewN | apply below_drew1 | refine below_set ?_ GE176.out) | exact HB.out)⟩
  · rw [if_neg c2] at H
    have c2b0 : (a0_0 == 0) = false := beq_eq_false_iff_ne.mpr c2
    have c2b1 : (a0_0 != 0) = true := bne_iff_ne.mpr c2
    by_cases c8 : a0_0 = 1
    · rw [if_pos c8] at H
      have c8b0 : (a0_0 == 1) = true := beq_iff_eq.mpr c8
      have c8b1 : (a0_0 != 1) = false := bne_eq_false_iff_eq.mpr c8
      clear c8
      obtain rfl := Option.some.inj H
      go_enter Tryd.func31, Tryd.ntmps31
      go_wp2_with (first | ((with_reducible refine gate_dst (N := 1) rfl ?_); (try (refine gate_guard (by rfl) ?_; dsimp only)); refine box_event ?hg (N := 1) ?hd (cs := #[.int .i64 a0_0, .int .i64 a0_1, .string a0_2]) (t := 43) ?hr ?_; (case hd => rfl); (case hg => rfl); (case hr => first | (go_simp; done) | (go_simp; rfl)); intro gb176 hg w9 hbox hb; have n0_ := Aside0.mk (below_step (by repeat (first | (with_reducible first | exact HB.out | apply below_alloc | apply pw_below_drewN | apply below_drew1) | exact HB.out)) hb); have n1_ := Aside0.mk (hbox); have n2_ := Aside0.mk ((by rw [hg]; exact (below_size (by repeat (first | (with_reducible first | exact HB.out | apply below_alloc | apply pw_below_drewN | apply below_drew1) | exact HB.out))) : w.heap.size ≤ gb176)); have n3_ := Aside0.mk ((by rw [hg]; exact (below_size (by repeat (first | (with_reducible first | exact HB.out | apply below_alloc | apply pw_below_drewN | apply below_drew1) | exact HB.out))) : w.heap.size ≤ gb176)); clear HB; have HB := n0_; have BK176 := n1_; have GW176 := n2_; have GE176 := n3_; clear n0_ n1_ n2_ n3_; clear hb hbox hg; have hcz10_0 : w9.cell? ⟨gb176, 0, none⟩ = some (.int .i64 a0_0) := (blk_cell BK176.out 0).trans rfl; have hcz10_1 : w9.cell? ⟨gb176, 1, none⟩ = some (.int .i64 a0_1) := (blk_cell BK176.out 1).trans rfl; have hcz10_2 : w9.cell? ⟨gb176, 2, none⟩ = some (.string a0_2) := (blk_cell BK176.out 2).trans rfl; have hfz10_0 := blk_frozen BK176.out 0; have hfz10_1 := blk_frozen BK176.out 1; have hfz10_2 := blk_frozen BK176.out 2))
      go_ret
      exact ⟨by first | rfl | (simp [errW_none, errW_some] <;> rfl) | (simp [*, errW_none, errW_some] <;> rfl), by repeat (first | (with_reducible first | exact HB.out | apply below_alloc | apply pw_below_drewN | apply below_drew1 | refine below_set ?_ GE176.out) | exact HB.out)⟩
    · rw [if_neg c8] at H
      have c8b0 : (a0_0 == 1) = false := beq_eq_false_iff_ne.mpr c8
      have c8b1 : (a0_0 != 1) = true := bne_iff_ne.mpr c8
      by_cases c11 : a0_0 = 2
      · rw [if_pos c11] at H
        have c11b0 : (a0_0 == 2) = true := beq_iff_eq.mpr c11
        have c11b1 : (a0_0 != 2) = false := bne_eq_false_iff_eq.mpr c11
        clear c11
        by_cases c12 : a0_1 = 0
        · rw [if_pos c12] at H
          have c12b0 : (a0_1 == 0) = true := beq_iff_eq.mpr c12
          have c12b1 : (a0_1 != 0) = false := bne_eq_false_iff_eq.mpr c12
          clear c12
          obtain rfl := Option.some.inj H
          go_enter Tryd.func31, Tryd.ntmps31
          go_wp2_with (first | ((with_reducible refine gate_dst (N := 1) rfl ?_); (try (refine gate_guard (by rfl) ?_; dsimp only)); refine box_event ?hg (N := 1) ?hd (cs := #[.int .i64 a0_0, .int .i64 a0_1, .string a0_2]) (t := 43) ?hr ?_; (case hd => rfl); (case hg => rfl); (case hr => first | (go_simp; done) | (go_simp; rfl)); intro gb176 hg w13 hbox hb; have n0_ := Aside0.mk (below_step (by repeat (first | (with_reducible first | exact HB.out | apply below_alloc | apply pw_below_drewN | apply below_drew1) | exact HB.out)) hb); have n1_ := Aside0.mk (hbox); have n2_ := Aside0.mk ((by rw [hg]; exact (below_size (by repeat (first | (with_reducible first | exact HB.out | apply below_alloc | apply pw_below_drewN | apply below_drew1) | exact HB.out))) : w.heap.size ≤ gb176)); have n3_ := Aside0.mk ((by rw [hg]; exact (below_size (by repeat (first | (with_reducible first | exact HB.out | apply below_alloc | apply pw_below_drewN | apply below_drew1) | exact HB.out))) : w.heap.size ≤ gb176)); clear HB; have HB := n0_; have BK176 := n1_; have GW176 := n2_; have GE176 := n3_; clear n0_ n1_ n2_ n3_; clear hb hbox hg; have hcz14_0 : w13.cell? ⟨gb176, 0, none⟩ = some (.int .i64 a0_0) := (blk_cell BK176.out 0).trans rfl; have hcz14_1 : w13.cell? ⟨gb176, 1, none⟩ = some (.int .i64 a0_1) := (blk_cell BK176.out 1).trans rfl; have hcz14_2 : w13.cell? ⟨gb176, 2, none⟩ = some (.string a0_2) := (blk_cell BK176.out 2).trans rfl; have hfz14_0 := blk_frozen BK176.out 0; have hfz14_1 := blk_frozen BK176.out 1; have hfz14_2 := blk_frozen BK176.out 2))
          go_ret
          exact ⟨by first | rfl | (simp [errW_none, errW_some] <;> rfl) | (simp [*, errW_none, errW_some] <;> rfl), by repeat (first | (with_reducible first | exact HB.out | apply below_alloc | apply pw_below_drewN | apply below_drew1 | refine below_set ?_ GE176.out) | exact HB.out)⟩
        · rw [if_neg c12] at H
          have c12b0 : (a0_1 == 0) = false := beq_eq_false_iff_ne.mpr c12
          have c12b1 : (a0_1 != 0) = true := bne_iff_ne.mpr c12
          by_cases c15 : a0_1 = 1
          · rw [if_pos c15] at H
            have c15b0 : (a0_1 == 1) = true := beq_iff_eq.mpr c15
            have c15b1 : (a0_1 != 1) = false := bne_eq_false_iff_eq.mpr c15
            clear c15
            obtain rfl := Option.some.inj H
            go_enter Tryd.func31, Tryd.ntmps31
            go_wp2_with (first | ((with_reducible refine gate_dst (N := 1) rfl ?_); (try (refine gate_guard (by rfl) ?_; dsimp only)); refine box_event ?hg (N := 1) ?hd (cs := #[.int .i64 a0_0, .int .i64 a0_1, .string a0_2]) (t := 43) ?hr ?_; (case hd => rfl); (case hg => rfl); (case hr => first | (go_simp; done) | (go_simp; rfl)); intro gb176 hg w16 hbox hb; have n0_ := Aside0.mk (below_step (by repeat (first | (with_reducible first | exact HB.out | apply below_alloc | apply pw_below_drewN | apply below_drew1) | exact HB.out)) hb); have n1_ := Aside0.mk (hbox); have n2_ := Aside0.mk ((by rw [hg]; exact (below_size (by repeat (first | (with_reducible first | exact HB.out | apply below_alloc | apply pw_below_drewN | apply below_drew1) | exact HB.out))) : w.heap.size ≤ gb176)); have n3_ := Aside0.mk ((by rw [hg]; exact (below_size (by repeat (first | (with_reducible first | exact HB.out | apply below_alloc | apply pw_below_drewN | apply below_drew1) | exact HB.out))) : w.heap.size ≤ gb176)); clear HB; have HB := n0_; have BK176 := n1_; have GW176 := n2_; have GE176 := n3_; clear n0_ n1_ n2_ n3_; clear hb hbox hg; have hcz17_0 : w16.cell? ⟨gb176, 0, none⟩ = some (.int .i64 a0_0) := (blk_cell BK176.out 0).trans rfl; have hcz17_1 : w16.cell? ⟨gb176, 1, none⟩ = some (.int .i64 a0_1) := (blk_cell BK176.out 1).trans rfl; have hcz17_2 : w16.cell? ⟨gb176, 2, none⟩ = some (.string a0_2) := (blk_cell BK176.out 2).trans rfl; have hfz17_0 := blk_frozen BK176.out 0; have hfz17_1 := blk_frozen BK176.out 1; have hfz17_2 := blk_frozen BK176.out 2))
            go_ret
            exact ⟨by first | rfl | (simp [errW_none, errW_some] <;> rfl) | (simp [*, errW_none, errW_some] <;> rfl), by repeat (first | (with_reducible first | exact HB.out | apply below_alloc | apply pw_below_drewN | apply below_drew1 | refine below_set ?_ GE176.out) | exact HB.out)⟩
          · rw [if_neg c15] at H
            have c15b0 : (a0_1 == 1) = false := beq_eq_false_iff_ne.mpr c15
            have c15b1 : (a0_1 != 1) = true := bne_iff_ne.mpr c15
            obtain rfl := Option.some.inj H
            go_enter Tryd.func31, Tryd.ntmps31
            go_wp2_with (first | ((with_reducible refine gate_dst (N := 1) rfl ?_); (try (refine gate_guard (by rfl) ?_; dsimp only)); refine box_event ?hg (N := 1) ?hd (cs := #[.int .i64 a0_0, .int .i64 a0_1, .string a0_2]) (t := 43) ?hr ?_; (case hd => rfl); (case hg => rfl); (case hr => first | (go_simp; done) | (go_simp; rfl)); intro gb176 hg w18 hbox hb; have n0_ := Aside0.mk (below_step (by repeat (first | (with_reducible first | exact HB.out | apply below_alloc | apply pw_below_drewN | apply below_drew1) | exact HB.out)) hb); have n1_ := Aside0.mk (hbox); have n2_ := Aside0.mk ((by rw [hg]; exact (below_size (by repeat (first | (with_reducible first | exact HB.out | apply below_alloc | apply pw_below_drewN | apply below_drew1) | exact HB.out))) : w.heap.size ≤ gb176)); have n3_ := Aside0.mk ((by rw [hg]; exact (below_size (by repeat (first | (with_reducible first | exact HB.out | apply below_alloc | apply pw_below_drewN | apply below_drew1) | exact HB.out))) : w.heap.size ≤ gb176)); clear HB; have HB := n0_; have BK176 := n1_; have GW176 := n2_; have GE176 := n3_; clear n0_ n1_ n2_ n3_; clear hb hbox hg; have hcz19_0 : w18.cell? ⟨gb176, 0, none⟩ = some (.int .i64 a0_0) := (blk_cell BK176.out 0).trans rfl; have hcz19_1 : w18.cell? ⟨gb176, 1, none⟩ = some (.int .i64 a0_1) := (blk_cell BK176.out 1).trans rfl; have hcz19_2 : w18.cell? ⟨gb176, 2, none⟩ = some (.string a0_2) := (blk_cell BK176.out 2).trans rfl; have hfz19_0 := blk_frozen BK176.out 0; have hfz19_1 := blk_frozen BK176.out 1; have hfz19_2 := blk_frozen BK176.out 2))
            go_ret
            exact ⟨by first | rfl | (simp [errW_none, errW_some] <;> rfl) | (simp [*, errW_none, errW_some] <;> rfl), by repeat (first | (with_reducible first | exact HB.out | apply below_alloc | apply pw_below_drewN | apply below_drew1 | refine below_set ?_ GE176.out) | exact HB.out)⟩
      · rw [if_neg c11] at H
        have c11b0 : (a0_0 == 2) = false := beq_eq_false_iff_ne.mpr c11
        have c11b1 : (a0_0 != 2) = true := bne_iff_ne.mpr c11
        by_cases c20 : a0_0 = 3
        · rw [if_pos c20] at H
          have c20b0 : (a0_0 == 3) = true := beq_iff_eq.mpr c20
          have c20b1 : (a0_0 != 3) = false := bne_eq_false_iff_eq.mpr c20
          clear c20
          by_cases c21 : a0_1 = 0
          · rw [if_pos c21] at H
            have c21b0 : (a0_1 == 0) = true := beq_iff_eq.mpr c21
            have c21b1 : (a0_1 != 0) = false := bne_eq_false_iff_eq.mpr c21
            clear c21
            obtain rfl := Option.some.inj H
            go_enter Tryd.func31, Tryd.ntmps31
            go_wp2_with (first | ((with_reducible refine gate_dst (N := 1) rfl ?_); (try (refine gate_guard (by rfl) ?_; dsimp only)); refine box_event ?hg (N := 1) ?hd (cs := #[.int .i64 a0_0, .int .i64 a0_1, .string a0_2]) (t := 43) ?hr ?_; (case hd => rfl); (case hg => rfl); (case hr => first | (go_simp; done) | (go_simp; rfl)); intro gb176 hg w22 hbox hb; have n0_ := Aside0.mk (below_step (by repeat (first | (with_reducible first | exact HB.out | apply below_alloc | apply pw_below_drewN | apply below_drew1) | exact HB.out)) hb); have n1_ := Aside0.mk (hbox); have n2_ := Aside0.mk ((by rw [hg]; exact (below_size (by repeat (first | (with_reducible first | exact HB.out | apply below_alloc | apply pw_below_drewN | apply below_drew1) | exact HB.out))) : w.heap.size ≤ gb176)); have n3_ := Aside0.mk ((by rw [hg]; exact (below_size (by repeat (first | (with_reducible first | exact HB.out | apply below_alloc | apply pw_below_drewN | apply below_drew1) | exact HB.out))) : w.heap.size ≤ gb176)); clear HB; have HB := n0_; have BK176 := n1_; have GW176 := n2_; have GE176 := n3_; clear n0_ n1_ n2_ n3_; clear hb hbox hg; have hcz23_0 : w22.cell? ⟨gb176, 0, none⟩ = some (.int .i64 a0_0) := (blk_cell BK176.out 0).trans rfl; have hcz23_1 : w22.cell? ⟨gb176, 1, none⟩ = some (.int .i64 a0_1) := (blk_cell BK176.out 1).trans rfl; have hcz23_2 : w22.cell? ⟨gb176, 2, none⟩ = some (.string a0_2) := (blk_cell BK176.out 2).trans rfl; have hfz23_0 := blk_frozen BK176.out 0; have hfz23_1 := blk_frozen BK176.out 1; have hfz23_2 := blk_frozen BK176.out 2))
            go_ret
            exact ⟨by first | rfl | (simp [errW_none, errW_some] <;> rfl) | (simp [*, errW_none, errW_some] <;> rfl), by repeat (first | (with_reducible first | exact HB.out | apply below_alloc | apply pw_below_drewN | apply below_drew1 | refine below_set ?_ GE176.out) | exact HB.out)⟩
          · rw [if_neg c21] at H
            have c21b0 : (a0_1 == 0) = false := beq_eq_false_iff_ne.mpr c21
            have c21b1 : (a0_1 != 0) = true := bne_iff_ne.mpr c21
            obtain rfl := Option.some.inj H
            go_enter Tryd.func31, Tryd.ntmps31
            go_wp2_with (first | ((with_reducible refine gate_dst (N := 1) rfl ?_); (try (refine gate_guard (by rfl) ?_; dsimp only)); refine box_event ?hg (N := 1) ?hd (cs := #[.int .i64 a0_0, .int .i64 a0_1, .string a0_2]) (t := 43) ?hr ?_; (case hd => rfl); (case hg => rfl); (case hr => first | (go_simp; done) | (go_simp; rfl)); intro gb176 hg w24 hbox hb; have n0_ := Aside0.mk (below_step (by repeat (first | (with_reducible first | exact HB.out | apply below_alloc | apply pw_below_drewN | apply below_drew1) | exact HB.out)) hb); have n1_ := Aside0.mk (hbox); have n2_ := Aside0.mk ((by rw [hg]; exact (below_size (by repeat (first | (with_reducible first | exact HB.out | apply below_alloc | apply pw_below_drewN | apply below_drew1) | exact HB.out))) : w.heap.size ≤ gb176)); have n3_ := Aside0.mk ((by rw [hg]; exact (below_size (by repeat (first | (with_reducible first | exact HB.out | apply below_alloc | apply pw_below_drewN | apply below_drew1) | exact HB.out))) : w.heap.size ≤ gb176)); clear HB; have HB := n0_; have BK176 := n1_; have GW176 := n2_; have GE176 := n3_; clear n0_ n1_ n2_ n3_; clear hb hbox hg; have hcz25_0 : w24.cell? ⟨gb176, 0, none⟩ = some (.int .i64 a0_0) := (blk_cell BK176.out 0).trans rfl; have hcz25_1 : w24.cell? ⟨gb176, 1, none⟩ = some (.int .i64 a0_1) := (blk_cell BK176.out 1).trans rfl; have hcz25_2 : w24.cell? ⟨gb176, 2, none⟩ = some (.string a0_2) := (blk_cell BK176.out 2).trans rfl; have hfz25_0 := blk_frozen BK176.out 0; have hfz25_1 := blk_frozen BK176.out 1; have hfz25_2 := blk_frozen BK176.out 2))
            go_ret
            exact ⟨by first | rfl | (simp [errW_none, errW_some] <;> rfl) | (simp [*, errW_none, errW_some] <;> rfl), by repeat (first | (with_reducible first | exact HB.out | apply below_alloc | apply pw_below_drewN | apply below_drew1 | refine below_set ?_ GE176.out) | exact HB.out)⟩
        · rw [if_neg c20] at H
          have c20b0 : (a0_0 == 3) = false := beq_eq_false_iff_ne.mpr c20
          have c20b1 : (a0_0 != 3) = true := bne_iff_ne.mpr c20
          obtain rfl := Option.some.inj H
          go_enter Tryd.func31, Tryd.ntmps31
          go_wp2_with (first | ((with_reducible refine gate_dst (N := 1) rfl ?_); (try (refine gate_guard (by rfl) ?_; dsimp only)); refine box_event ?hg (N := 1) ?hd (cs := #[.int .i64 a0_0, .int .i64 a0_1, .string a0_2]) (t := 43) ?hr ?_; (case hd => rfl); (case hg => rfl); (case hr => first | (go_simp; done) | (go_simp; rfl)); intro gb176 hg w26 hbox hb; have n0_ := Aside0.mk (below_step (by repeat (first | (with_reducible first | exact HB.out | apply below_alloc | apply pw_below_drewN | apply below_drew1) | exact HB.out)) hb); have n1_ := Aside0.mk (hbox); have n2_ := Aside0.mk ((by rw [hg]; exact (below_size (by repeat (first | (with_reducible first | exact HB.out | apply below_alloc | apply pw_below_drewN | apply below_drew1) | exact HB.out))) : w.heap.size ≤ gb176)); have n3_ := Aside0.mk ((by rw [hg]; exact (below_size (by repeat (first | (with_reducible first | exact HB.out | apply below_alloc | apply pw_below_drewN | apply below_drew1) | exact HB.out))) : w.heap.size ≤ gb176)); clear HB; have HB := n0_; have BK176 := n1_; have GW176 := n2_; have GE176 := n3_; clear n0_ n1_ n2_ n3_; clear hb hbox hg; have hcz27_0 : w26.cell? ⟨gb176, 0, none⟩ = some (.int .i64 a0_0) := (blk_cell BK176.out 0).trans rfl; have hcz27_1 : w26.cell? ⟨gb176, 1, none⟩ = some (.int .i64 a0_1) := (blk_cell BK176.out 1).trans rfl; have hcz27_2 : w26.cell? ⟨gb176, 2, none⟩ = some (.string a0_2) := (blk_cell BK176.out 2).trans rfl; have hfz27_0 := blk_frozen BK176.out 0; have hfz27_1 := blk_frozen BK176.out 1; have hfz27_2 := blk_frozen BK176.out 2))
          go_ret
          exact ⟨by first | rfl | (simp [errW_none, errW_some] <;> rfl) | (simp [*, errW_none, errW_some] <;> rfl), by repeat (first | (with_reducible first | exact HB.out | apply below_alloc | apply pw_below_drewN | apply below_drew1 | refine below_set ?_ GE176.out) | exact HB.out)⟩

end Go.Proofs.YtjcgbppicdccdaaDoor.Q
end
section
/- What Go functions compute, as Lean functions, and that the machine's call comes to just that; no conditions beyond each theorem's own. (Written by pp.py of this repo, over the kit's print.py.) -/
namespace Go.Proofs.YtjcgbppicdccdaaDoor.Q
open Go.RowKit Go.Proofs.YtjcgbppicdccdaaDoorW.PrintWords Go.Proofs.YtjcgbppicdccdaaDoorW.PrintLast Go.Proofs.YtjcgbppicdccdaaDoorW.PrintMore
attribute [local go_sem] max2_int min2_int max_two min_two max_three min_three max_four min_four   -- for this text's walks alone
set_option linter.unusedVariables false
set_option linter.unusedSimpArgs false

/-! ### interlockref04_RightRow: function 16 -/
def interlockref04_RightRow.l0 : Nat → List (S43) → Int → Option (Bool)
  | 0, _, _ => none
  | k + 1, x0, x3 => if x3 < (x0.length : Int) then (if 0 ≤ x3 then ((interlockref04_Right.f ((rd_T43 x0 x3).f0) ((rd_T43 x0 x3).f1) ((rd_T43 x0 x3).f2)).bind fun t178 => (if t178 = true then (interlockref04_RightRow.l0 k x0 (wrap64 (x3 + 1))) else (some false))) else (none)) else (some true)
def interlockref04_RightRow.f (k : Nat) (l0 : List (S43)) : Option (Bool) := if (l0.length : Int) > 8 then (some false) else (interlockref04_RightRow.l0 k l0 0)
theorem interlockref04_RightRow.mono_l : ∀ k, (∀ y0 y1, LeO (interlockref04_RightRow.l0 k y0 y1) (interlockref04_RightRow.l0 (k + 1) y0 y1))
  | 0 => fun _ _ r h => by simp [interlockref04_RightRow.l0] at h
  | k + 1 => by
    have ih0 := interlockref04_RightRow.mono_l k
    · intro y0 y1
      unfold interlockref04_RightRow.l0
      repeat' first
      | (with_reducible exact ih0 _ _)
      | (with_reducible exact LeO.refl _)
      | (with_reducible exact LeO.none _)
      | (with_reducible refine LeO.ite ?_ ?_)
      | (with_reducible refine LeO.bind ?_ (fun _ => ?_))
      | exact ih0 _ _
      | exact LeO.none _
      | refine LeO.ite ?_ ?_
      | refine LeO.bind ?_ (fun _ => ?_)
theorem interlockref04_RightRow.mono : ∀ a0 k, LeO (interlockref04_RightRow.f k a0) (interlockref04_RightRow.f (k + 1) a0) := by
  intro a0 k
  have ih0 := interlockref04_RightRow.mono_l k
  unfold interlockref04_RightRow.f
  repeat' first
      | (with_reducible exact ih0 _ _)
      | (with_reducible exact LeO.refl _)
      | (with_reducible exact LeO.none _)
      | (with_reducible refine LeO.ite ?_ ?_)
      | (with_reducible refine LeO.bind ?_ (fun _ => ?_))
      | exact ih0 _ _
      | exact LeO.none _
      | refine LeO.ite ?_ ?_
      | refine LeO.bind ?_ (fun _ => ?_)
set_option maxHeartbeats 8000000 in
set_option maxRecDepth 100000 in
theorem interlockref04_RightRow.calls (k : Nat) (A0 : Option Addr) (c0 : Nat) (l0 : List (S43)) (r : Bool) (w : World) (hr0 : Kd.C k43 w A0 l0.length l0) (hc0 : l0.length ≤ c0) (h : interlockref04_RightRow.f k l0 = some r) :
    Calls Tryd.prog 16 #[.slice A0 l0.length c0] w fun e w' => e = .returned (.bool r) ∧ Below w.heap.size w w' := by
  have hu43 := Tryd.underlying43
  have HR0 := Aside0.mk hr0
  have HC0 := Aside0.mk hc0
  clear hr0 hc0
  have HB := Aside0.mk (Below.refl w.heap.size w)
  have H : (if (l0.length : Int) > 8 then (some false) else (interlockref04_RightRow.l0 k l0 0)) = some r := h
  clear h
  by_cases c2 : (l0.length : Int) > 8
  · rw [if_pos c2] at H
    have c2b0 : decide (8 < (l0.length : Int)) = true := decide_eq_true c2
    have c2b1 : decide (8 < l0.length) = true := decide_eq_true (by omega)
    clear c2
    obtain rfl := Option.some.inj H
    go_enter Tryd.func16, Tryd.ntmps16
    go_wp2
    go_ret
    exact ⟨by first | rfl | (simp [errW_none, errW_some] <;> rfl) | (simp [*, errW_none, errW_some] <;> rfl), by repeat (first | (with_reducible first | exact HB.out | apply below_alloc | apply pw_below_drewN | apply below_drew1) | exact HB.out)⟩
  · rw [if_neg c2] at H
    have c2b0 : decide (8 < (l0.length : Int)) = false := decide_eq_false c2
    have c2b1 : decide (8 < l0.length) = false := decide_eq_false (by omega)
    clear c2
    have H' := Aside0.mk H
    clear H
    go_enter Tryd.func16, Tryd.ntmps16
    go_wp2
    go_loopg [3] k (fun kq v3 w' => ∃ (x3_1 : Int), v3 = .int .i64 x3_1 ∧ Aside0 (interlockref04_RightRow.l0 kq l0 x3_1 = some r) ∧ Aside0 (kq ≤ k) ∧ Aside0 (Below w.heap.size w w'))
    case atStart => exact ⟨(0), (by first | rfl | (simp; done) | (simp [*]; done)), H', ⟨Nat.le_refl _⟩, ⟨by repeat (first | (with_reducible first | exact HB.out | apply below_alloc | apply pw_below_drewN | apply below_drew1) | exact HB.out)⟩⟩
    case round =>
      clear H'
      try clear c1
      try clear c2
      try clear c2b0
      try clear c2b1
      try clear p2
      obtain ⟨x3_1, rfl, HA, HK1, HB⟩ := hrel
      cases gk with
      | zero => exact absurd HA.out (by simp [interlockref04_RightRow.l0])
      | succ k1 =>
        have H := HA.out
        clear HA
        simp only [interlockref04_RightRow.l0] at H
        by_cases c3 : x3_1 < (l0.length : Int)
        · rw [if_pos c3] at H
          have c3b0 : decide (x3_1 < (l0.length : Int)) = true := decide_eq_true c3
          clear c3
          by_cases c4 : 0 ≤ x3_1
          · rw [if_pos c4] at H
            have c4b0 : decide (0 ≤ x3_1) = true := decide_eq_true c4
            clear c4
            replace H := Option.bind_eq_some_iff.mp H
            obtain ⟨t178, A50, H⟩ := H
            replace H : (if t178 = true then (interlockref04_RightRow.l0 k1 l0 (wrap64 (x3_1 + 1))) else (some false)) = some r := H
            have A5 := Aside0.mk A50
            clear A50
            by_cases c6 : t178 = true
            · subst c6
              have H1 : (interlockref04_RightRow.l0 k1 l0 (wrap64 (x3_1 + 1))) = some r := by rw [if_pos rfl] at H; exact H
              clear H
              have H := H1
              clear H1
              have H' := Aside0.mk H
              clear H
              have p177 : 0 ≤ (x3_1 : Int) := of_decide_eq_true (by first | (with_reducible assumption) | assumption)
              have q177 : x3_1 < (l0.length : Int) := of_decide_eq_true (by first | (with_reducible assumption) | assumption)
              obtain ⟨ad177, e177, hx177_0, hx177_1, hx177_2⟩ := at_T43 HR0.out x3_1 p177 q177
              cases e177
              replace hx177_0 := (HB.out.cell (World.block_lt_of_cell? w _ hx177_0)).trans hx177_0
              replace hx177_1 := (HB.out.cell (World.block_lt_of_cell? w _ hx177_1)).trans hx177_1
              replace hx177_2 := (HB.out.cell (World.block_lt_of_cell? w _ hx177_2)).trans hx177_2
              replace p177 := eq_true p177
              replace q177 := eq_true q177
              go_wp2_with (first | ((with_reducible refine gate_callee (f := 31) rfl ?_); refine goesL_ (some 17) rfl rfl Tryd.func31 (by kernel_rfl) rfl #[.agg #[.int .i64 ((rd_T43 l0 x3_1).f0), .int .i64 ((rd_T43 l0 x3_1).f1), .string ((rd_T43 l0 x3_1).f2)]] rfl (by (try simp only [List.map_toArray, List.map_cons, List.map_nil]); first | done | rfl | (simp only [List.length_drop, List.length_take]; rfl)) ?_; (with_reducible refine (interlockref04_Right.calls ((rd_T43 l0 x3_1).f0) ((rd_T43 l0 x3_1).f1) ((rd_T43 l0 x3_1).f2) true _ A5.out).mono ?_); rintro e w7 ⟨rfl, hb⟩; refine ⟨_, rfl, ?_⟩; have n0_ := Aside0.mk (below_step (by repeat (first | (with_reducible first | exact HB.out | apply below_alloc | apply pw_below_drewN | apply below_drew1) | exact HB.out)) hb); clear HB; have HB := n0_; clear n0_; (try clear hb); (try clear hb2); (try clear hk); (try clear hi)))
              go_roundg k1
              case measure => have := HK1.out; omega
              case rel => exact ⟨(wrap64 (x3_1 + 1)), (by first | rfl | (simp; done) | (simp [*]; done)), H', ⟨by have := HK1.out; omega⟩, ⟨by repeat (first | (with_reducible first | exact HB.out | apply below_alloc | apply pw_below_drewN | apply below_drew1) | exact HB.out)⟩⟩
            · replace c6 := Bool.eq_false_iff.mpr c6
              subst c6
              have H1 : (some false) = some r := by rw [if_neg (show ¬ (false = true) by decide)] at H; exact H
              clear H
              have H := H1
              clear H1
              obtain rfl := Option.some.inj H
              have p177 : 0 ≤ (x3_1 : Int) := of_decide_eq_true (by first | (with_reducible assumption) | assumption)
              have q177 : x3_1 < (l0.length : Int) := of_decide_eq_true (by first | (with_reducible assumption) | assumption)
              obtain ⟨ad177, e177, hx177_0, hx177_1, hx177_2⟩ := at_T43 HR0.out x3_1 p177 q177
              cases e177
              replace hx177_0 := (HB.out.cell (World.block_lt_of_cell? w _ hx177_0)).trans hx177_0
              replace hx177_1 := (HB.out.cell (World.block_lt_of_cell? w _ hx177_1)).trans hx177_1
              replace hx177_2 := (HB.out.cell (World.block_lt_of_cell? w _ hx177_2)).trans hx177_2
              replace p177 := eq_true p177
              replace q177 := eq_true q177
              go_wp2_with (first | ((with_reducible refine gate_callee (f := 31) rfl ?_); refine goesL_ (some 17) rfl rfl Tryd.func31 (by kernel_rfl) rfl #[.agg #[.int .i64 ((rd_T43 l0 x3_1).f0), .int .i64 ((rd_T43 l0 x3_1).f1), .string ((rd_T43 l0 x3_1).f2)]] rfl (by (try simp only [List.map_toArray, List.map_cons, List.map_nil]); first | done | rfl | (simp only [List.length_drop, List.length_take]; rfl)) ?_; (with_reducible refine (interlockref04_Right.calls ((rd_T43 l0 x3_1).f0) ((rd_T43 l0 x3_1).f1) ((rd_T43 l0 x3_1).f2) false _ A5.out).mono ?_); rintro e w8 ⟨rfl, hb⟩; refine ⟨_, rfl, ?_⟩; have n0_ := Aside0.mk (below_step (by repeat (first | (with_reducible first | exact HB.out | apply below_alloc | apply pw_below_drewN | apply below_drew1) | exact HB.out)) hb); clear HB; have HB := n0_; clear n0_; (try clear hb); (try clear hb2); (try clear hk); (try clear hi)))
              go_ret
              exact ⟨by first | rfl | (simp [errW_none, errW_some] <;> rfl) | (simp [*, errW_none, errW_some] <;> rfl), by repeat (first | (with_reducible first | exact HB.out | apply below_alloc | apply pw_below_drewN | apply below_drew1) | exact HB.out)⟩
          · rw [if_neg c4] at H
            exact absurd H (by simp)
        · rw [if_neg c3] at H
          have c3b0 : decide (x3_1 < (l0.length : Int)) = false := decide_eq_false c3
          clear c3
          obtain rfl := Option.some.inj H
          go_wp2
          go_ret
          exact ⟨by first | rfl | (simp [errW_none, errW_some] <;> rfl) | (simp [*, errW_none, errW_some] <;> rfl), by repeat (first | (with_reducible first | exact HB.out | apply below_alloc | apply pw_below_drewN | apply below_drew1) | exact HB.out)⟩

end Go.Proofs.YtjcgbppicdccdaaDoor.Q
end
section
/- What Go functions compute, as Lean functions, and that the machine's call comes to just that; no conditions beyond each theorem's own. (Written by pp.py of this repo, over the kit's print.py.) -/
namespace Go.Proofs.YtjcgbppicdccdaaDoor.Q
open Go.RowKit Go.Proofs.YtjcgbppicdccdaaDoorW.PrintWords Go.Proofs.YtjcgbppicdccdaaDoorW.PrintLast Go.Proofs.YtjcgbppicdccdaaDoorW.PrintMore
attribute [local go_sem] max2_int min2_int max_two min_two max_three min_three max_four min_four   -- for this text's walks alone
set_option linter.unusedVariables false
set_option linter.unusedSimpArgs false

attribute [local go_sem high] eqA43
/-! ### interlockref00_SameRow: function 18 -/
def interlockref00_SameRow.l0 : Nat → List (S43) → List (S43) → Int → Option (Bool)
  | 0, _, _, _ => none
  | k + 1, x0, x1, x5 => if x5 < (x0.length : Int) then (if 0 ≤ x5 then (if x5 < (x1.length : Int) then (if (!(((rd_T43 x0 x5).f0) == ((rd_T43 x1 x5).f0)) || (!(((rd_T43 x0 x5).f1) == ((rd_T43 x1 x5).f1)) || (!((((rd_T43 x0 x5).f2).toList) == (((rd_T43 x1 x5).f2).toList))))) = true then (some false) else (interlockref00_SameRow.l0 k x0 x1 (wrap64 (x5 + 1)))) else (none)) else (none)) else (some true)
def interlockref00_SameRow.f (k : Nat) (l0 : List (S43)) (l1 : List (S43)) : Option (Bool) := if (l0.length : Int) = (l1.length : Int) then (interlockref00_SameRow.l0 k l0 l1 0) else (some false)
theorem interlockref00_SameRow.mono_l : ∀ k, (∀ y0 y1 y2, LeO (interlockref00_SameRow.l0 k y0 y1 y2) (interlockref00_SameRow.l0 (k + 1) y0 y1 y2))
  | 0 => fun _ _ _ r h => by simp [interlockref00_SameRow.l0] at h
  | k + 1 => by
    have ih0 := interlockref00_SameRow.mono_l k
    · intro y0 y1 y2
      unfold interlockref00_SameRow.l0
      repeat' first
      | (with_reducible exact ih0 _ _ _)
      | (with_reducible exact LeO.refl _)
      | (with_reducible exact LeO.none _)
      | (with_reducible refine LeO.ite ?_ ?_)
      | (with_reducible refine LeO.bind ?_ (fun _ => ?_))
      | exact ih0 _ _ _
      | exact LeO.none _
      | refine LeO.ite ?_ ?_
      | refine LeO.bind ?_ (fun _ => ?_)
theorem interlockref00_SameRow.mono : ∀ a0 a1 k, LeO (interlockref00_SameRow.f k a0 a1) (interlockref00_SameRow.f (k + 1) a0 a1) := by
  intro a0 a1 k
  have ih0 := interlockref00_SameRow.mono_l k
  unfold interlockref00_SameRow.f
  repeat' first
      | (with_reducible exact ih0 _ _ _)
      | (with_reducible exact LeO.refl _)
      | (with_reducible exact LeO.none _)
      | (with_reducible refine LeO.ite ?_ ?_)
      | (with_reducible refine LeO.bind ?_ (fun _ => ?_))
      | exact ih0 _ _ _
      | exact LeO.none _
      | refine LeO.ite ?_ ?_
      | refine LeO.bind ?_ (fun _ => ?_)
set_option maxHeartbeats 8000000 in
set_option maxRecDepth 100000 in
theorem interlockref00_SameRow.calls (k : Nat) (A0 : Option Addr) (c0 : Nat) (l0 : List (S43)) (A1 : Option Addr) (c1 : Nat) (l1 : List (S43)) (r : Bool) (w : World) (hr0 : Kd.C k43 w A0 l0.length l0) (hc0 : l0.length ≤ c0) (hr1 : Kd.C k43 w A1 l1.length l1) (hc1 : l1.length ≤ c1) (h : interlockref00_SameRow.f k l0 l1 = some r) :
    Calls Tryd.prog 18 #[.slice A0 l0.length c0, .slice A1 l1.length c1] w fun e w' => e = .returned (.bool r) ∧ Drawn0 w w' := by
  have hu43 := Tryd.underlying43
  have HR0 := Aside0.mk hr0
  have HC0 := Aside0.mk hc0
  clear hr0 hc0
  have HR1 := Aside0.mk hr1
  have HC1 := Aside0.mk hc1
  clear hr1 hc1
  have H : (if (l0.length : Int) = (l1.length : Int) then (interlockref00_SameRow.l0 k l0 l1 0) else (some false)) = some r := h
  clear h
  by_cases c3 : (l0.length : Int) = (l1.length : Int)
  · rw [if_pos c3] at H
    have c3b0 : ((l0.length : Int) == (l1.length : Int)) = true := beq_iff_eq.mpr c3
    have c3b1 : ((l0.length : Int) != (l1.length : Int)) = false := bne_eq_false_iff_eq.mpr c3
    have c3b2 : (l0.length == l1.length) = true := by first | simpa using c3 | (simp at c3 ⊢; omega)
    clear c3
    have H' := Aside0.mk H
    clear H
    go_enter Tryd.func18, Tryd.ntmps18
    go_wp2
    repeat (go_quiet (fail); try go_wp2)
    go_loopg [5] k (fun kq v5 w' => ∃ (x5_1 : Int), v5 = .int .i64 x5_1 ∧ Aside0 (interlockref00_SameRow.l0 kq l0 l1 x5_1 = some r) ∧ Aside0 (kq ≤ k) ∧ Drawn0 w w')
    case atStart => exact ⟨(0), (by first | rfl | (simp; done) | (simp [*]; done)), H', ⟨Nat.le_refl _⟩, by repeat (first | exact Drawn0.refl _ | apply Drawn0.step)⟩
    case round =>
      clear H'
      try clear c1
      try clear p2
      try clear c3
      try clear c3b0
      try clear c3b1
      try clear c3b2
      obtain ⟨x5_1, rfl, HA, HK1, ⟨m1, rfl⟩⟩ := hrel
      cases gk with
      | zero => exact absurd HA.out (by simp [interlockref00_SameRow.l0])
      | succ k1 =>
        have H := HA.out
        clear HA
        simp only [interlockref00_SameRow.l0] at H
        by_cases c4 : x5_1 < (l0.length : Int)
        · rw [if_pos c4] at H
          have c4b0 : decide (x5_1 < (l0.length : Int)) = true := decide_eq_true c4
          clear c4
          by_cases c5 : 0 ≤ x5_1
          · rw [if_pos c5] at H
            have c5b0 : decide (0 ≤ x5_1) = true := decide_eq_true c5
            clear c5
            by_cases c6 : x5_1 < (l1.length : Int)
            · rw [if_pos c6] at H
              have c6b0 : decide (x5_1 < (l1.length : Int)) = true := decide_eq_true c6
              clear c6
              by_cases c7 : (!(((rd_T43 l0 x5_1).f0) == ((rd_T43 l1 x5_1).f0)) || (!(((rd_T43 l0 x5_1).f1) == ((rd_T43 l1 x5_1).f1)) || (!((((rd_T43 l0 x5_1).f2).toList) == (((rd_T43 l1 x5_1).f2).toList))))) = true
              · rw [if_pos c7] at H
                have c7b0 : (!(((rd_T43 l0 x5_1).f0) == ((rd_T43 l1 x5_1).f0)) || (!(((rd_T43 l0 x5_1).f1) == ((rd_T43 l1 x5_1).f1)) || (!((((rd_T43 l0 x5_1).f2).toList) == (((rd_T43 l1 x5_1).f2).toList))))) = true := c7
                clear c7
                obtain rfl := Option.some.inj H
                have p197 : 0 ≤ (x5_1 : Int) := of_decide_eq_true (by first | (with_reducible assumption) | assumption)
                have q197 : x5_1 < (l0.length : Int) := of_decide_eq_true (by first | (with_reducible assumption) | assumption)
                obtain ⟨ad197, e197, hx197_0, hx197_1, hx197_2⟩ := at_T43 HR0.out x5_1 p197 q197
                cases e197
                replace p197 := eq_true p197
                replace q197 := eq_true q197
                have p198 : 0 ≤ (x5_1 : Int) := of_decide_eq_true (by first | (with_reducible assumption) | assumption)
                have q198 : x5_1 < (l1.length : Int) := of_decide_eq_true (by first | (with_reducible assumption) | assumption)
                obtain ⟨ad198, e198, hx198_0, hx198_1, hx198_2⟩ := at_T43 HR1.out x5_1 p198 q198
                cases e198
                replace p198 := eq_true p198
                replace q198 := eq_true q198
                go_wp2
                repeat (go_quiet (fail); try go_wp2)
                go_ret
                exact ⟨by first | rfl | (simp; done) | (simp [*]; done), by repeat (first | exact Drawn0.refl _ | apply Drawn0.step)⟩
              · rw [if_neg c7] at H
                have c7b0 : (!(((rd_T43 l0 x5_1).f0) == ((rd_T43 l1 x5_1).f0)) || (!(((rd_T43 l0 x5_1).f1) == ((rd_T43 l1 x5_1).f1)) || (!((((rd_T43 l0 x5_1).f2).toList) == (((rd_T43 l1 x5_1).f2).toList))))) = false := by simpa using c7
                clear c7
                have H' := Aside0.mk H
                clear H
                have p197 : 0 ≤ (x5_1 : Int) := of_decide_eq_true (by first | (with_reducible assumption) | assumption)
                have q197 : x5_1 < (l0.length : Int) := of_decide_eq_true (by first | (with_reducible assumption) | assumption)
                obtain ⟨ad197, e197, hx197_0, hx197_1, hx197_2⟩ := at_T43 HR0.out x5_1 p197 q197
                cases e197
                replace p197 := eq_true p197
                replace q197 := eq_true q197
                have p198 : 0 ≤ (x5_1 : Int) := of_decide_eq_true (by first | (with_reducible assumption) | assumption)
                have q198 : x5_1 < (l1.length : Int) := of_decide_eq_true (by first | (with_reducible assumption) | assumption)
                obtain ⟨ad198, e198, hx198_0, hx198_1, hx198_2⟩ := at_T43 HR1.out x5_1 p198 q198
                cases e198
                replace p198 := eq_true p198
                replace q198 := eq_true q198
                go_wp2
                repeat (go_quiet (fail); try go_wp2)
                go_roundg k1
                case measure => have := HK1.out; omega
                case rel => exact ⟨(wrap64 (x5_1 + 1)), (by first | rfl | (simp; done) | (simp [*]; done)), H', ⟨by have := HK1.out; omega⟩, by repeat (first | exact Drawn0.refl _ | apply Drawn0.step)⟩
            · rw [if_neg c6] at H
              exact absurd H (by simp)
          · rw [if_neg c5] at H
            exact absurd H (by simp)
        · rw [if_neg c4] at H
          have c4b0 : decide (x5_1 < (l0.length : Int)) = false := decide_eq_false c4
          clear c4
          obtain rfl := Option.some.inj H
          go_wp2
          repeat (go_quiet (fail); try go_wp2)
          go_ret
          exact ⟨by first | rfl | (simp; done) | (simp [*]; done), by repeat (first | exact Drawn0.refl _ | apply Drawn0.step)⟩
  · rw [if_neg c3] at H
    have c3b0 : ((l0.length : Int) == (l1.length : Int)) = false := beq_eq_false_iff_ne.mpr c3
    have c3b1 : ((l0.length : Int) != (l1.length : Int)) = true := bne_iff_ne.mpr c3
    have c3b2 : (l0.length == l1.length) = false := by first | simpa using c3 | (simp at c3 ⊢; omega)
    obtain rfl := Option.some.inj H
    go_enter Tryd.func18, Tryd.ntmps18
    go_wp2
    repeat (go_quiet (fail); try go_wp2)
    go_ret
    exact ⟨by first | rfl | (simp; done) | (simp [*]; done), by repeat (first | exact Drawn0.refl _ | apply Drawn0.step)⟩

end Go.Proofs.YtjcgbppicdccdaaDoor.Q
end
section
/- Plain laws: KeyOne and KeyBack: there is one key for a row; a right row's key is decoded to it, and without its end it is no key of that row. -/
namespace Go.Proofs.YtjcgbppicdccdaaDoor.Q
open Go.RowKit Go.Proofs.YtjcgbppicdccdaaDoorW.PrintWords Go.Proofs.YtjcgbppicdccdaaDoorW.PrintLast Go.Proofs.YtjcgbppicdccdaaDoorW.PrintMore
set_option linter.unusedVariables false

theorem enc_right {l : List S43} (h : rightRow l = true) : key_Encode.f l = some (bA (encL l), true) := by unfold key_Encode.f; rw [if_pos h]; rfl
theorem enc_wrong {l : List S43} (h : rightRow l = false) : key_Encode.f l = some (⟨#[]⟩, false) := by unfold key_Encode.f; rw [if_neg (by simp [h])]
theorem dec_some (s : ByteArray) (h : s.size ≤ 1000000) : key_Decode.f s = some (decL s.data.toList) := by unfold key_Decode.f; rw [if_pos h]

noncomputable instance : DecidableEq S43 := fun a b => Classical.propDecidable (a = b)

theorem same_ev (a b : List S43) (hl : a.length = b.length) (hb : a.length ≤ 140737488355328) : ∀ (d i : Nat), i + d = a.length → Ev (fun k => interlockref00_SameRow.l0 k a b i) (decide (a.drop i = b.drop i)) := by
  intro d
  induction d with
  | zero =>
    intro i hi
    refine Ev.step (f := fun k => some true) (fun k => by simp only [interlockref00_SameRow.l0]; rw [if_neg (by omega)]) (Ev.some_ fun _ => ?_)
    rw [List.drop_eq_nil_iff.2 (by omega), List.drop_eq_nil_iff.2 (by omega)]
    rfl
  | succ d ih =>
    intro i hi
    have e1 := rd_get a i (by omega)
    have e2 := rd_get b i (by omega)
    rw [List.drop_eq_getElem_cons (by omega : i < a.length), List.drop_eq_getElem_cons (by omega : i < b.length)]
    obtain ⟨x, hx⟩ : ∃ x, a[i] = x := ⟨_, rfl⟩
    obtain ⟨y, hy⟩ : ∃ y, b[i] = y := ⟨_, rfl⟩
    rw [hx, hy]
    rw [hx] at e1
    rw [hy] at e2
    have hxy : (!((x.f0 == y.f0)) || (!((x.f1 == y.f1)) || (!(x.f2.toList == y.f2.toList)))) = !decide (x = y) := by
      obtain ⟨x0, x1, x2⟩ := x
      obtain ⟨y0, y1, y2⟩ := y
      have hd : (x2.toList == y2.toList) = decide (x2 = y2) := by
        rw [Bool.eq_iff_iff]
        simp [Lib.toList_data, ByteArray.ext_iff, Array.ext_iff]
        try exact ⟨fun h => by rw [ByteArray.ext_iff]; exact Array.toList_inj.1 h, fun h => by rw [h]⟩
      rw [hd]
      by_cases h0 : x0 = y0 <;> by_cases h1 : x1 = y1 <;> by_cases h2 : x2 = y2 <;> simp [h0, h1, h2]
    by_cases hq : x = y
    · refine Ev.step (fun k => ?_) (Ev.to (ih (i + 1) (by omega)) (by simp [hq]))
      simp only [interlockref00_SameRow.l0]
      rw [if_pos (by omega), if_pos (by omega), if_pos (by omega), e1, e2, hxy, if_neg (by simp [hq]), wrap_succ i (by omega)]
    · refine Ev.step (f := fun k => some false) (fun k => ?_) (Ev.some_ fun _ => by simp [hq])
      simp only [interlockref00_SameRow.l0]
      rw [if_pos (by omega), if_pos (by omega), if_pos (by omega), e1, e2, hxy, if_pos (by simp [hq])]
theorem same_f (a b : List S43) (hb : a.length ≤ 140737488355328) : Ev (fun k => interlockref00_SameRow.f k a b) (decide (a = b)) := by
  unfold interlockref00_SameRow.f
  by_cases hl : a.length = b.length
  · simp only [if_pos (show (a.length : Int) = (b.length : Int) by omega)]
    exact same_ev a b hl hb a.length 0 (by omega)
  · simp only [if_neg (show ¬ (a.length : Int) = (b.length : Int) by omega)]
    refine Ev.some_ fun _ => ?_
    rw [decide_eq_false (fun e => hl (by rw [e]))]

theorem right_ref (v : S43) : interlockref04_Right.f v.f0 v.f1 v.f2 = some (rightV v) := by
  unfold rightV value_Right.f interlockref04_Right.f
  by_cases h0 : v.f0 = 0
  · by_cases h1 : v.f1 = 0 <;> simp [h0, h1]
  · by_cases h1 : v.f0 = 1
    · simp [h1]
    · by_cases h2 : v.f0 = 2
      · by_cases hs : v.f2.toList = []
        · by_cases ha : v.f1 = 0
          · simp [h2, hs, ha]
          · by_cases hb : v.f1 = 1 <;> simp [h2, hs, ha, hb]
        · by_cases ha : v.f1 = 0
          · simp [h2, hs, ha]
          · by_cases hb : v.f1 = 1 <;> simp [h2, hs, ha, hb]
      · by_cases h3 : v.f0 = 3
        · by_cases ha : v.f1 = 0 <;> simp [h3, ha]
        · simp [h0, h1, h2, h3]
theorem right_row_ev (l : List S43) (hb : l.length ≤ 8) : ∀ (d i : Nat), i + d = l.length → Ev (fun k => interlockref04_RightRow.l0 k l i) ((l.drop i).all rightV) := by
  intro d
  induction d with
  | zero =>
    intro i hi
    refine Ev.step (f := fun k => some true) (fun k => by simp only [interlockref04_RightRow.l0]; rw [if_neg (by omega)]) (Ev.some_ fun _ => ?_)
    rw [List.drop_eq_nil_iff.2 (by omega)]
    rfl
  | succ d ih =>
    intro i hi
    have e1 := rd_get l i (by omega)
    rw [List.drop_eq_getElem_cons (by omega : i < l.length), List.all_cons]
    by_cases hv : rightV l[i] = true
    · refine Ev.step (fun k => ?_) (Ev.to (ih (i + 1) (by omega)) (by simp [hv]))
      simp only [interlockref04_RightRow.l0]
      rw [if_pos (by omega), if_pos (by omega), e1, right_ref, hv]
      simp only [Option.bind_some, if_true]
      rw [wrap_succ i (by omega)]
    · refine Ev.step (f := fun k => some false) (fun k => ?_) (Ev.some_ fun _ => by simp [hv])
      simp only [interlockref04_RightRow.l0]
      rw [if_pos (by omega), if_pos (by omega), e1, right_ref, Bool.eq_false_iff.mpr hv]
      simp
theorem right_row_f (l : List S43) : Ev (fun k => interlockref04_RightRow.f k l) (rightRow l) := by
  unfold interlockref04_RightRow.f rightRow
  by_cases h : (l.length : Int) > 8
  · simp only [if_pos h]
    exact Ev.some_ fun _ => by simp; omega
  · simp only [if_neg h]
    exact Ev.to (right_row_ev l (by omega) l.length 0 (by omega)) (by simp; omega)

end Go.Proofs.YtjcgbppicdccdaaDoor.Q
end
section
/- What Go functions compute, as Lean functions, and that the machine's call comes to just that; no conditions beyond each theorem's own. (Written by pp.py of this repo, over the kit's print.py.) -/
namespace Go.Proofs.YtjcgbppicdccdaaDoor.Q
open Go.RowKit Go.Proofs.YtjcgbppicdccdaaDoorW.PrintWords Go.Proofs.YtjcgbppicdccdaaDoorW.PrintLast Go.Proofs.YtjcgbppicdccdaaDoorW.PrintMore
attribute [local go_sem] max2_int min2_int max_two min_two max_three min_three max_four min_four   -- for this text's walks alone
set_option linter.unusedVariables false
set_option linter.unusedSimpArgs false

/-! ### interlockref05_one: function 33 -/
mutual
def interlockref05_one.l0 : Nat → List Int → Int → Int → Option (List Int)
  | 0, _, _, _ => none
  | k + 1, x3, x4, x5 => if x5 ≥ 0 then (if 0 ≤ (IntKind.u64.wrap (wrap64 (8 * x5))) then (if x3.length < 140737488355328 then (interlockref05_one.l0 k (x3 ++ [(shr .u64 x4 (IntKind.u64.wrap (wrap64 (8 * x5)))) % 256]) x4 (wrap64 (x5 - 1))) else (none)) else (none)) else (some x3)
def interlockref05_one.l1 : Nat → List Int → Int → Int → Int → ByteArray → Option (List Int)
  | 0, _, _, _, _, _ => none
  | k + 1, x3, x6, x228000, x228001, x228002 => if x6 < (x228002.size : Int) then (if 0 ≤ x6 then (if x3.length < 140737488355328 then ((some (x3 ++ [bt x228002 x6] : List Int)).bind fun y237 => (if (bt x228002 x6) = 0 then (if y237.length < 140737488355328 then (interlockref05_one.l1 k (y237 ++ [255]) (wrap64 (x6 + 1)) x228000 x228001 x228002) else (none)) else (interlockref05_one.l1 k y237 (wrap64 (x6 + 1)) x228000 x228001 x228002))) else (none)) else (none)) else ((some (([0, 1] : List Int) : List Int)).bind fun y243 => (if x3.length + y243.length < 140737488355328 then (some (x3 ++ y243)) else (none)))
end
def interlockref05_one.f (k : Nat) (a0_0 : Int) (a0_1 : Int) (a0_2 : ByteArray) : Option (List Int) := (some (([(a0_0) % 256] : List Int) : List Int)).bind fun y228 => (if a0_0 = 1 then (interlockref05_one.l0 k y228 (IntKind.u64.wrap ((IntKind.u64.wrap (a0_1)) + 9223372036854775808)) 7) else (if a0_0 = 2 then (if y228.length < 140737488355328 then (some (y228 ++ [(a0_1) % 256])) else (none)) else (if a0_0 = 3 then (interlockref05_one.l1 k y228 0 a0_0 a0_1 a0_2) else (some y228))))
theorem interlockref05_one.mono_l : ∀ k, (∀ y0 y1 y2, LeO (interlockref05_one.l0 k y0 y1 y2) (interlockref05_one.l0 (k + 1) y0 y1 y2)) ∧ (∀ y0 y1 y2 y3 y4, LeO (interlockref05_one.l1 k y0 y1 y2 y3 y4) (interlockref05_one.l1 (k + 1) y0 y1 y2 y3 y4))
  | 0 => ⟨fun _ _ _ r h => by simp [interlockref05_one.l0] at h, fun _ _ _ _ _ r h => by simp [interlockref05_one.l1] at h⟩
  | k + 1 => by
    obtain ⟨ih0, ih1⟩ := interlockref05_one.mono_l k
    refine ⟨?_, ?_⟩
    · intro y0 y1 y2
      unfold interlockref05_one.l0
      repeat' first
      | (with_reducible exact ih0 _ _ _)
      | (with_reducible exact ih1 _ _ _ _ _)
      | (with_reducible exact LeO.refl _)
      | (with_reducible exact LeO.none _)
      | (with_reducible refine LeO.ite ?_ ?_)
      | (with_reducible refine LeO.bind ?_ (fun _ => ?_))
      | exact ih0 _ _ _
      | exact ih1 _ _ _ _ _
      | exact LeO.none _
      | refine LeO.ite ?_ ?_
      | refine LeO.bind ?_ (fun _ => ?_)
    · intro y0 y1 y2 y3 y4
      unfold interlockref05_one.l1
      repeat' first
      | (with_reducible exact ih0 _ _ _)
      | (with_reducible exact ih1 _ _ _ _ _)
      | (with_reducible exact LeO.refl _)
      | (with_reducible exact LeO.none _)
      | (with_reducible refine LeO.ite ?_ ?_)
      | (with_reducible refine LeO.bind ?_ (fun _ => ?_))
      | exact ih0 _ _ _
      | exact ih1 _ _ _ _ _
      | exact LeO.none _
      | refine LeO.ite ?_ ?_
      | refine LeO.bind ?_ (fun _ => ?_)
theorem interlockref05_one.mono : ∀ a0 a1 a2 k, LeO (interlockref05_one.f k a0 a1 a2) (interlockref05_one.f (k + 1) a0 a1 a2) := by
  intro a0 a1 a2 k
  obtain ⟨ih0, ih1⟩ := interlockref05_one.mono_l k
  unfold interlockref05_one.f
  repeat' first
      | (with_reducible exact ih0 _ _ _)
      | (with_reducible exact ih1 _ _ _ _ _)
      | (with_reducible exact LeO.refl _)
      | (with_reducible exact LeO.none _)
      | (with_reducible refine LeO.ite ?_ ?_)
      | (with_reducible refine LeO.bind ?_ (fun _ => ?_))
      | exact ih0 _ _ _
      | exact ih1 _ _ _ _ _
      | exact LeO.none _
      | refine LeO.ite ?_ ?_
      | refine LeO.bind ?_ (fun _ => ?_)
set_option maxHeartbeats 8000000 in
set_option maxRecDepth 100000 in
theorem interlockref05_one.calls (k : Nat) (a0_0 : Int) (a0_1 : Int) (a0_2 : ByteArray) (r : List Int) (w : World) (h : interlockref05_one.f k a0_0 a0_1 a0_2 = some r) :
    Calls Tryd.prog 33 #[.agg #[.int .i64 a0_0, .int .i64 a0_1, .string a0_2]] w fun e w' => ∃ v0_ : Value, e = .returned (v0_) ∧ Kd.R (Kd.int .u8) 5 w' w.heap.size (fun _ => True) v0_ r ∧ Below w.heap.size w w' := by
  have hu43 := Tryd.underlying43
  have HB := Aside0.mk (Below.refl w.heap.size w)
  have H : ((some (([(a0_0) % 256] : List Int) : List Int)).bind fun y228 => (if a0_0 = 1 then (interlockref05_one.l0 k y228 (IntKind.u64.wrap ((IntKind.u64.wrap (a0_1)) + 9223372036854775808)) 7) else (if a0_0 = 2 then (if y228.length < 140737488355328 then (some (y228 ++ [(a0_1) % 256])) else (none)) else (if a0_0 = 3 then (interlockref05_one.l1 k y228 0 a0_0 a0_1 a0_2) else (some y228))))) = some r := h
  clear h
  obtain ⟨y228, hy228⟩ : ∃ y_ : List Int, y_ = (([(a0_0) % 256] : List Int)) := ⟨_, rfl⟩
  replace H : (if a0_0 = 1 then (interlockref05_one.l0 k y228 (IntKind.u64.wrap ((IntKind.u64.wrap (a0_1)) + 9223372036854775808)) 7) else (if a0_0 = 2 then (if y228.length < 140737488355328 then (some (y228 ++ [(a0_1) % 256])) else (none)) else (if a0_0 = 3 then (interlockref05_one.l1 k y228 0 a0_0 a0_1 a0_2) else (some y228)))) = some r := by first | (rw [hy228]; with_reducible exact H) | (have H2_ := (Option.bind_some _ _).symm.trans H; rw [hy228]; with_reducible exact H2_) | (have H2_ := (Option.bind_some _ _).symm.trans H; with_reducible exact H2_) | with_reducible exact H | (rw [hy228]; exact H) | exact H
  have Ny228 := Aside0.mk hy228
  clear hy228
  by_cases c2 : a0_0 = 1
  · rw [if_pos c2] at H
    have c2b0 : (a0_0 == 1) = true := beq_iff_eq.mpr c2
    have c2b1 : (a0_0 != 1) = false := bne_eq_false_iff_eq.mpr c2
    clear c2
    have H' := Aside0.mk H
    clear H
    go_enter Tryd.func33, Tryd.ntmps33
    go_wp2_with (first | ((with_reducible refine gate_dst (N := 1) rfl ?_); refine box_event ?hg (N := 1) ?hd (cs := #[.int .i64 a0_0, .int .i64 a0_1, .string a0_2]) (t := 43) ?hr ?_; (case hd => rfl); (case hg => rfl); (case hr => first | (go_simp; done) | (go_simp; rfl)); intro gb227 hg w3 hbox hb; have n0_ := Aside0.mk (below_step (by repeat (first | (with_reducible first | exact HB.out | apply below_alloc | apply pw_below_drewN | apply below_drew1) | exact HB.out)) hb); have n1_ := Aside0.mk (hbox); have n2_ := Aside0.mk ((by rw [hg]; exact (below_size (by repeat (first | (with_reducible first | exact HB.out | apply below_alloc | apply pw_below_drewN | apply below_drew1) | exact HB.out))) : w.heap.size ≤ gb227)); have n3_ := Aside0.mk ((by rw [hg]; exact (below_size (by repeat (first | (with_reducible first | exact HB.out | apply below_alloc | apply pw_below_drewN | apply below_drew1) | exact HB.out))) : w.heap.size ≤ gb227)); clear HB; have HB := n0_; have BK227 := n1_; have GW227 := n2_; have GE227 := n3_; clear n0_ n1_ n2_ n3_; clear hb hbox hg; have hcz4_0 : w3.cell? ⟨gb227, 0, none⟩ = some (.int .i64 a0_0) := (blk_cell BK227.out 0).trans rfl; have hcz4_1 : w3.cell? ⟨gb227, 1, none⟩ = some (.int .i64 a0_1) := (blk_cell BK227.out 1).trans rfl; have hcz4_2 : w3.cell? ⟨gb227, 2, none⟩ = some (.string a0_2) := (blk_cell BK227.out 2).trans rfl; have hfz4_0 := blk_frozen BK227.out 0; have hfz4_1 := blk_frozen BK227.out 1; have hfz4_2 := blk_frozen BK227.out 2) | ((with_reducible refine gate_dst (N := 10) rfl ?_); refine Kd.R_lit (Kd.int .u8) _ 5 ?hg (N := 10) ?hd (xs := ([(a0_0) % 256] : List Int)) (inner := [.int .u8 ((a0_0) % 256)]) (ok := fun _ => True) (okp := fun _ => True) ?hr ?hp (fun _ hk => hk) trivial (Below.refl _ _) (Nat.le_refl _) (by simp) ?_; (case hd => rfl); (case hg => rfl); (case hr => first | (go_simp; done) | (go_simp; rfl)); (case hp => exact (Reps.one (show Kd.M (Kd.int .u8) _ _ _ ((a0_0) % 256) [.int .u8 ((a0_0) % 256)] from rfl) (Reps.none _ _))); intro v229 w5 ho6 hb hg_ hnew_; clear hg_ hnew_; (first | rw [← Ny228.out] at ho6 | (simp only [Int.reduceToNat] at ho6; rw [← Ny228.out] at ho6)); have n0_ := Aside0.mk (Kd.R_lower ho6 (below_size (by repeat (first | (with_reducible first | exact HB.out | apply below_alloc | apply pw_below_drewN | apply below_drew1 | refine below_set ?_ GE227.out) | exact HB.out)))); have n1_ := Aside0.mk (blk_below (g := gb227) (o := .cells #[.int .i64 a0_0, .int .i64 a0_1, .string a0_2] 43 (0, 0)) (by (with_reducible repeat (first | refine blk_drewN ?_ _ | refine blk_drew ?_ | refine blk_alloc ?_ _)); exact BK227.out) hb); have n2_ := Aside0.mk (below_step (by repeat (first | (with_reducible first | exact HB.out | apply below_alloc | apply pw_below_drewN | apply below_drew1 | refine below_set ?_ GE227.out) | exact HB.out)) hb); clear BK227; clear HB; have HO230 := n0_; have BK227 := n1_; have HB := n2_; clear n0_ n1_ n2_; clear hb ho6; have hcz7_0 : w5.cell? ⟨gb227, 0, none⟩ = some (.int .i64 a0_0) := (blk_cell BK227.out 0).trans rfl; have hcz7_1 : w5.cell? ⟨gb227, 1, none⟩ = some (.int .i64 a0_1) := (blk_cell BK227.out 1).trans rfl; have hcz7_2 : w5.cell? ⟨gb227, 2, none⟩ = some (.string a0_2) := (blk_cell BK227.out 2).trans rfl; have hfz7_0 := blk_frozen BK227.out 0; have hfz7_1 := blk_frozen BK227.out 1; have hfz7_2 := blk_frozen BK227.out 2))
    go_loopg [3, 5] k (fun kq v3 v5 w' => ∃ (x3_1 : List Int) (x5_1 : Int), v5 = .int .i64 x5_1 ∧ Aside0 (interlockref05_one.l0 kq x3_1 (IntKind.u64.wrap ((IntKind.u64.wrap (a0_1)) + 9223372036854775808)) x5_1 = some r) ∧ Aside0 (kq ≤ k) ∧ Aside0 (Kd.R (Kd.int .u8) 5 w' w.heap.size (fun _ => True) v3 x3_1) ∧ Aside0 (w'.heap[gb227]? = some (.cells #[.int .i64 a0_0, .int .i64 a0_1, .string a0_2] 43 (0, 0))) ∧ Aside0 (Below w.heap.size w w'))
    case atStart => exact ⟨(y228), (7), (by first | rfl | (simp; done) | (simp [*]; done)), H', ⟨Nat.le_refl _⟩, ⟨by (with_reducible repeat (first | apply Kd.R_alloc | apply Kd.R_drewN | apply Kd.R_drew)); exact HO230.out⟩, ⟨by (with_reducible repeat (first | refine blk_drewN ?_ _ | refine blk_drew ?_ | refine blk_alloc ?_ _)); exact BK227.out⟩, ⟨by repeat (first | (with_reducible first | exact HB.out | apply below_alloc | apply pw_below_drewN | apply below_drew1 | refine below_set ?_ GE227.out) | exact HB.out)⟩⟩
    case round =>
      clear H'
      try clear c2
      try clear c2b0
      try clear c2b1
      try clear p2
      try clear c3
      try clear hcz4_0
      try clear hcz4_1
      try clear hcz4_2
      try clear hcz7_0
      try clear hcz7_1
      try clear hcz7_2
      try clear hfz4_0
      try clear hfz4_1
      try clear hfz4_2
      try clear hfz7_0
      try clear hfz7_1
      try clear hfz7_2
      obtain ⟨x3_1, x5_1, rfl, HA, HK1, HO_3, BK227, HB⟩ := hrel
      cases gk with
      | zero => exact absurd HA.out (by simp [interlockref05_one.l0])
      | succ k1 =>
        have H := HA.out
        clear HA
        simp only [interlockref05_one.l0] at H
        by_cases c8 : x5_1 ≥ 0
        · rw [if_pos c8] at H
          have c8b0 : decide (0 ≤ x5_1) = true := decide_eq_true c8
          clear c8
          obtain ⟨ji9, hji9⟩ : ∃ j_ : Int, (IntKind.u64.wrap (wrap64 (8 * x5_1))) = j_ := ⟨_, rfl⟩
          replace H : (if 0 ≤ (ji9) then (if x3_1.length < 140737488355328 then (interlockref05_one.l0 k1 (x3_1 ++ [(shr .u64 (IntKind.u64.wrap ((IntKind.u64.wrap (a0_1)) + 9223372036854775808)) (ji9)) % 256]) (IntKind.u64.wrap ((IntKind.u64.wrap (a0_1)) + 9223372036854775808)) (wrap64 (x5_1 - 1))) else (none)) else (none)) = some r := by first | (rw [hji9] at H; exact H) | (simp only [hji9] at H ⊢; exact H)
          by_cases c10 : 0 ≤ (ji9)
          · rw [if_pos c10] at H
            have c10b0 := eq_true c10
            have c10b1 : decide (0 ≤ (ji9)) = true := decide_eq_true c10
            clear c10
            obtain ⟨ji11, hji11⟩ : ∃ j_ : Int, (shr .u64 (IntKind.u64.wrap ((IntKind.u64.wrap (a0_1)) + 9223372036854775808)) (ji9)) = j_ := ⟨_, rfl⟩
            replace H : (if x3_1.length < 140737488355328 then (interlockref05_one.l0 k1 (x3_1 ++ [(ji11) % 256]) (IntKind.u64.wrap ((IntKind.u64.wrap (a0_1)) + 9223372036854775808)) (wrap64 (x5_1 - 1))) else (none)) = some r := by first | (rw [hji11] at H; exact H) | (simp only [hji11] at H ⊢; exact H)
            have hji11_ : ((IntKind.u64.wrap ((IntKind.u64.wrap (a0_1)) + 9223372036854775808)) / 2 ^ min (ji9).toNat 64) = ji11 := hji11
            have hji11z : (ji9) ≤ 64 → ((IntKind.u64.wrap ((IntKind.u64.wrap (a0_1)) + 9223372036854775808)) / 2 ^ (ji9).toNat) = ji11 := shr_small hji11
            by_cases c12 : x3_1.length < 140737488355328
            · rw [if_pos c12] at H
              have LMc12 := Aside0.mk c12
              clear c12
              obtain ⟨y231, hy231⟩ : ∃ y_ : List Int, y_ = (x3_1 ++ [(ji11) % 256]) := ⟨_, rfl⟩
              replace H : (interlockref05_one.l0 k1 y231 (IntKind.u64.wrap ((IntKind.u64.wrap (a0_1)) + 9223372036854775808)) (wrap64 (x5_1 - 1))) = some r := by first | (rw [hy231]; with_reducible exact H) | (have H2_ := (Option.bind_some _ _).symm.trans H; rw [hy231]; with_reducible exact H2_) | (have H2_ := (Option.bind_some _ _).symm.trans H; with_reducible exact H2_) | with_reducible exact H | (rw [hy231]; exact H) | exact H
              have Ny231 := Aside0.mk hy231
              clear hy231
              have H' := Aside0.mk H
              clear H
              go_wp2_with (first | ((with_reducible refine gate_builtin (b := .append) (xs := #[.tmp 23, .tmp 30]) rfl ?_); at_builtin; refine Kd.R_append (Kd.int .u8) (w0 := w) w.heap.size rfl (.tmp 23) (.tmp 30) 45 5 (.int .u8 0) 1 rfl Tryd.underlying45 info5 rfl (by decide) (by omega) u3 x3_1 ((ji11) % 256) [.int .u8 ((ji11) % 256)] (fun _ => True) (fun _ => False) rfl rfl ?aP (fun _ hk => hk.elim) ?aF ?aO ?aB ?aS ?aL ?_; (case aP => exact rfl); (case aB => exact (by repeat (first | (with_reducible first | exact HB.out | apply below_alloc | apply pw_below_drewN | apply below_drew1 | refine below_set ?_ GE227.out) | exact HB.out))); (case aF => exact (fun _ _ => trivial)); (case aO => exact (by (with_reducible repeat (first | apply Kd.R_alloc | apply Kd.R_drewN | apply Kd.R_drew)); exact HO_3.out)); (case aS => exact (below_size (by repeat (first | (with_reducible first | exact HB.out | apply below_alloc | apply pw_below_drewN | apply below_drew1 | refine below_set ?_ GE227.out) | exact HB.out)))); (case aL => have := LMc12.out; omega); intro v232 w13 ho hb hg hat; rw [← Ny231.out] at ho; have n0_ := Aside0.mk (blk_grown (g := gb227) (o := .cells #[.int .i64 a0_0, .int .i64 a0_1, .string a0_2] 43 (0, 0)) (by (with_reducible repeat (first | refine blk_drewN ?_ _ | refine blk_drew ?_ | refine blk_alloc ?_ _)); exact BK227.out) hg (Kd.R_ne HO_3.out BK227.out (by decide))); have n1_ := Aside0.mk (hb); have n2_ := Aside0.mk (ho); clear BK227; clear HB; clear HO_3; have BK227 := n0_; have HB := n1_; have HO233 := n2_; clear n0_ n1_ n2_; clear ho hb hg hat))
              go_roundg k1
              case measure => have := HK1.out; omega
              case rel => exact ⟨(y231), (wrap64 (x5_1 - 1)), (by first | rfl | (simp; done) | (simp [*]; done)), H', ⟨by have := HK1.out; omega⟩, ⟨by (with_reducible repeat (first | apply Kd.R_alloc | apply Kd.R_drewN | apply Kd.R_drew)); exact HO233.out⟩, ⟨by (with_reducible repeat (first | refine blk_drewN ?_ _ | refine blk_drew ?_ | refine blk_alloc ?_ _)); exact BK227.out⟩, ⟨by repeat (first | (with_reducible first | exact HB.out | apply below_alloc | apply pw_below_drewN | apply below_drew1 | refine below_set ?_ GE227.out) | exact HB.out)⟩⟩
            · rw [if_neg c12] at H
              exact absurd H (by simp)
          · rw [if_neg c10] at H
            exact absurd H (by simp)
        · rw [if_neg c8] at H
          have c8b0 : decide (0 ≤ x5_1) = false := decide_eq_false c8
          clear c8
          obtain rfl := Option.some.inj H
          go_wp2
          go_ret
          exact ⟨_, by first | rfl | (simp [errW_none, errW_some] <;> rfl) | (simp [*, errW_none, errW_some] <;> rfl), by (with_reducible repeat (first | apply Kd.R_alloc | apply Kd.R_drewN | apply Kd.R_drew)); exact HO_3.out, by repeat (first | (with_reducible first | exact HB.out | apply below_alloc | apply pw_below_drewN | apply below_drew1 | refine below_set ?_ GE227.out) | exact HB.out)⟩
  · rw [if_neg c2] at H
    have c2b0 : (a0_0 == 1) = false := beq_eq_false_iff_ne.mpr c2
    have c2b1 : (a0_0 != 1) = true := bne_iff_ne.mpr c2
    by_cases c14 : a0_0 = 2
    · rw [if_pos c14] at H
      have c14b0 : (a0_0 == 2) = true := beq_iff_eq.mpr c14
      have c14b1 : (a0_0 != 2) = false := bne_eq_false_iff_eq.mpr c14
      clear c14
      by_cases c15 : y228.length < 140737488355328
      · rw [if_pos c15] at H
        have LMc15 := Aside0.mk c15
        clear c15
        obtain ⟨y234, hy234⟩ : ∃ y_ : List Int, y_ = (y228 ++ [(a0_1) % 256]) := ⟨_, rfl⟩
        replace H : (some y234) = some r := by first | (rw [hy234]; with_reducible exact H) | (have H2_ := (Option.bind_some _ _).symm.trans H; rw [hy234]; with_reducible exact H2_) | (have H2_ := (Option.bind_some _ _).symm.trans H; with_reducible exact H2_) | with_reducible exact H | (rw [hy234]; exact H) | exact H
        have Ny234 := Aside0.mk hy234
        clear hy234
        obtain rfl := Option.some.inj H
        go_enter Tryd.func33, Tryd.ntmps33
        go_wp2_with (first | ((with_reducible refine gate_dst (N := 1) rfl ?_); refine box_event ?hg (N := 1) ?hd (cs := #[.int .i64 a0_0, .int .i64 a0_1, .string a0_2]) (t := 43) ?hr ?_; (case hd => rfl); (case hg => rfl); (case hr => first | (go_simp; done) | (go_simp; rfl)); intro gb227 hg w16 hbox hb; have n0_ := Aside0.mk (below_step (by repeat (first | (with_reducible first | exact HB.out | apply below_alloc | apply pw_below_drewN | apply below_drew1) | exact HB.out)) hb); have n1_ := Aside0.mk (hbox); have n2_ := Aside0.mk ((by rw [hg]; exact (below_size (by repeat (first | (with_reducible first | exact HB.out | apply below_alloc | apply pw_below_drewN | apply below_drew1) | exact HB.out))) : w.heap.size ≤ gb227)); have n3_ := Aside0.mk ((by rw [hg]; exact (below_size (by repeat (first | (with_reducible first | exact HB.out | apply below_alloc | apply pw_below_drewN | apply below_drew1) | exact HB.out))) : w.heap.size ≤ gb227)); clear HB; have HB := n0_; have BK227 := n1_; have GW227 := n2_; have GE227 := n3_; clear n0_ n1_ n2_ n3_; clear hb hbox hg; have hcz17_0 : w16.cell? ⟨gb227, 0, none⟩ = some (.int .i64 a0_0) := (blk_cell BK227.out 0).trans rfl; have hcz17_1 : w16.cell? ⟨gb227, 1, none⟩ = some (.int .i64 a0_1) := (blk_cell BK227.out 1).trans rfl; have hcz17_2 : w16.cell? ⟨gb227, 2, none⟩ = some (.string a0_2) := (blk_cell BK227.out 2).trans rfl; have hfz17_0 := blk_frozen BK227.out 0; have hfz17_1 := blk_frozen BK227.out 1; have hfz17_2 := blk_frozen BK227.out 2) | ((with_reducible refine gate_dst (N := 10) rfl ?_); refine Kd.R_lit (Kd.int .u8) _ 5 ?hg (N := 10) ?hd (xs := ([(a0_0) % 256] : List Int)) (inner := [.int .u8 ((a0_0) % 256)]) (ok := fun _ => True) (okp := fun _ => True) ?hr ?hp (fun _ hk => hk) trivial (Below.refl _ _) (Nat.le_refl _) (by simp) ?_; (case hd => rfl); (case hg => rfl); (case hr => first | (go_simp; done) | (go_simp; rfl)); (case hp => exact (Reps.one (show Kd.M (Kd.int .u8) _ _ _ ((a0_0) % 256) [.int .u8 ((a0_0) % 256)] from rfl) (Reps.none _ _))); intro v229 w18 ho19 hb hg_ hnew_; clear hg_ hnew_; (first | rw [← Ny228.out] at ho19 | (simp only [Int.reduceToNat] at ho19; rw [← Ny228.out] at ho19)); have n0_ := Aside0.mk (Kd.R_lower ho19 (below_size (by repeat (first | (with_reducible first | exact HB.out | apply below_alloc | apply pw_below_drewN | apply below_drew1 | refine below_set ?_ GE227.out) | exact HB.out)))); have n1_ := Aside0.mk (blk_below (g := gb227) (o := .cells #[.int .i64 a0_0, .int .i64 a0_1, .string a0_2] 43 (0, 0)) (by (with_reducible repeat (first | refine blk_drewN ?_ _ | refine blk_drew ?_ | refine blk_alloc ?_ _)); exact BK227.out) hb); have n2_ := Aside0.mk (below_step (by repeat (first | (with_reducible first | exact HB.out | apply below_alloc | apply pw_below_drewN | apply below_drew1 | refine below_set ?_ GE227.out) | exact HB.out)) hb); clear BK227; clear HB; have HO230 := n0_; have BK227 := n1_; have HB := n2_; clear n0_ n1_ n2_; clear hb ho19; have hcz20_0 : w18.cell? ⟨gb227, 0, none⟩ = some (.int .i64 a0_0) := (blk_cell BK227.out 0).trans rfl; have hcz20_1 : w18.cell? ⟨gb227, 1, none⟩ = some (.int .i64 a0_1) := (blk_cell BK227.out 1).trans rfl; have hcz20_2 : w18.cell? ⟨gb227, 2, none⟩ = some (.string a0_2) := (blk_cell BK227.out 2).trans rfl; have hfz20_0 := blk_frozen BK227.out 0; have hfz20_1 := blk_frozen BK227.out 1; have hfz20_2 := blk_frozen BK227.out 2) | ((with_reducible refine gate_builtin (b := .append) (xs := #[.tmp 34, .tmp 38]) rfl ?_); at_builtin; refine Kd.R_append (Kd.int .u8) (w0 := w) w.heap.size rfl (.tmp 34) (.tmp 38) 45 5 (.int .u8 0) 1 rfl Tryd.underlying45 info5 rfl (by decide) (by omega) v229 y228 ((a0_1) % 256) [.int .u8 ((a0_1) % 256)] (fun _ => True) (fun _ => False) rfl rfl ?aP (fun _ hk => hk.elim) ?aF ?aO ?aB ?aS ?aL ?_; (case aP => exact rfl); (case aB => exact (by repeat (first | (with_reducible first | exact HB.out | apply below_alloc | apply pw_below_drewN | apply below_drew1 | refine below_set ?_ GE227.out) | exact HB.out))); (case aF => exact (fun _ _ => trivial)); (case aO => exact (by (with_reducible repeat (first | apply Kd.R_alloc | apply Kd.R_drewN | apply Kd.R_drew)); exact HO230.out)); (case aS => exact (below_size (by repeat (first | (with_reducible first | exact HB.out | apply below_alloc | apply pw_below_drewN | apply below_drew1 | refine below_set ?_ GE227.out) | exact HB.out)))); (case aL => have := LMc15.out; omega); intro v235 w21 ho hb hg hat; rw [← Ny234.out] at ho; have n0_ := Aside0.mk (blk_grown (g := gb227) (o := .cells #[.int .i64 a0_0, .int .i64 a0_1, .string a0_2] 43 (0, 0)) (by (with_reducible repeat (first | refine blk_drewN ?_ _ | refine blk_drew ?_ | refine blk_alloc ?_ _)); exact BK227.out) hg (Kd.R_ne HO230.out BK227.out (by decide))); have n1_ := Aside0.mk (hb); have n2_ := Aside0.mk (ho); clear BK227; clear HB; clear HO230; have BK227 := n0_; have HB := n1_; have HO236 := n2_; clear n0_ n1_ n2_; clear ho hb hg hat))
        go_ret
        exact ⟨_, by first | rfl | (simp [errW_none, errW_some] <;> rfl) | (simp [*, errW_none, errW_some] <;> rfl), by (with_reducible repeat (first | apply Kd.R_alloc | apply Kd.R_drewN | apply Kd.R_drew)); exact HO236.out, by repeat (first | (with_reducible first | exact HB.out | apply below_alloc | apply pw_below_drewN | apply below_drew1 | refine below_set ?_ GE227.out) | exact HB.out)⟩
      · rw [if_neg c15] at H
        exact absurd H (by simp)
    · rw [if_neg c14] at H
      have c14b0 : (a0_0 == 2) = false := beq_eq_false_iff_ne.mpr c14
      have c14b1 : (a0_0 != 2) = true := bne_iff_ne.mpr c14
      by_cases c22 : a0_0 = 3
      · rw [if_pos c22] at H
        have c22b0 : (a0_0 == 3) = true := beq_iff_eq.mpr c22
        have c22b1 : (a0_0 != 3) = false := bne_eq_false_iff_eq.mpr c22
        clear c22
        have H' := Aside0.mk H
        clear H
        go_enter Tryd.func33, Tryd.ntmps33
        go_wp2_with (first | ((with_reducible refine gate_dst (N := 1) rfl ?_); refine box_event ?hg (N := 1) ?hd (cs := #[.int .i64 a0_0, .int .i64 a0_1, .string a0_2]) (t := 43) ?hr ?_; (case hd => rfl); (case hg => rfl); (case hr => first | (go_simp; done) | (go_simp; rfl)); intro gb227 hg w23 hbox hb; have n0_ := Aside0.mk (below_step (by repeat (first | (with_reducible first | exact HB.out | apply below_alloc | apply pw_below_drewN | apply below_drew1) | exact HB.out)) hb); have n1_ := Aside0.mk (hbox); have n2_ := Aside0.mk ((by rw [hg]; exact (below_size (by repeat (first | (with_reducible first | exact HB.out | apply below_alloc | apply pw_below_drewN | apply below_drew1) | exact HB.out))) : w.heap.size ≤ gb227)); have n3_ := Aside0.mk ((by rw [hg]; exact (below_size (by repeat (first | (with_reducible first | exact HB.out | apply below_alloc | apply pw_below_drewN | apply below_drew1) | exact HB.out))) : w.heap.size ≤ gb227)); clear HB; have HB := n0_; have BK227 := n1_; have GW227 := n2_; have GE227 := n3_; clear n0_ n1_ n2_ n3_; clear hb hbox hg; have hcz24_0 : w23.cell? ⟨gb227, 0, none⟩ = some (.int .i64 a0_0) := (blk_cell BK227.out 0).trans rfl; have hcz24_1 : w23.cell? ⟨gb227, 1, none⟩ = some (.int .i64 a0_1) := (blk_cell BK227.out 1).trans rfl; have hcz24_2 : w23.cell? ⟨gb227, 2, none⟩ = some (.string a0_2) := (blk_cell BK227.out 2).trans rfl; have hfz24_0 := blk_frozen BK227.out 0; have hfz24_1 := blk_frozen BK227.out 1; have hfz24_2 := blk_frozen BK227.out 2) | ((with_reducible refine gate_dst (N := 10) rfl ?_); refine Kd.R_lit (Kd.int .u8) _ 5 ?hg (N := 10) ?hd (xs := ([(a0_0) % 256] : List Int)) (inner := [.int .u8 ((a0_0) % 256)]) (ok := fun _ => True) (okp := fun _ => True) ?hr ?hp (fun _ hk => hk) trivial (Below.refl _ _) (Nat.le_refl _) (by simp) ?_; (case hd => rfl); (case hg => rfl); (case hr => first | (go_simp; done) | (go_simp; rfl)); (case hp => exact (Reps.one (show Kd.M (Kd.int .u8) _ _ _ ((a0_0) % 256) [.int .u8 ((a0_0) % 256)] from rfl) (Reps.none _ _))); intro v229 w25 ho26 hb hg_ hnew_; clear hg_ hnew_; (first | rw [← Ny228.out] at ho26 | (simp only [Int.reduceToNat] at ho26; rw [← Ny228.out] at ho26)); have n0_ := Aside0.mk (Kd.R_lower ho26 (below_size (by repeat (first | (with_reducible first | exact HB.out | apply below_alloc | apply pw_below_drewN | apply below_drew1 | refine below_set ?_ GE227.out) | exact HB.out)))); have n1_ := Aside0.mk (blk_below (g := gb227) (o := .cells #[.int .i64 a0_0, .int .i64 a0_1, .string a0_2] 43 (0, 0)) (by (with_reducible repeat (first | refine blk_drewN ?_ _ | refine blk_drew ?_ | refine blk_alloc ?_ _)); exact BK227.out) hb); have n2_ := Aside0.mk (below_step (by repeat (first | (with_reducible first | exact HB.out | apply below_alloc | apply pw_below_drewN | apply below_drew1 | refine below_set ?_ GE227.out) | exact HB.out)) hb); clear BK227; clear HB; have HO230 := n0_; have BK227 := n1_; have HB := n2_; clear n0_ n1_ n2_; clear hb ho26; have hcz27_0 : w25.cell? ⟨gb227, 0, none⟩ = some (.int .i64 a0_0) := (blk_cell BK227.out 0).trans rfl; have hcz27_1 : w25.cell? ⟨gb227, 1, none⟩ = some (.int .i64 a0_1) := (blk_cell BK227.out 1).trans rfl; have hcz27_2 : w25.cell? ⟨gb227, 2, none⟩ = some (.string a0_2) := (blk_cell BK227.out 2).trans rfl; have hfz27_0 := blk_frozen BK227.out 0; have hfz27_1 := blk_frozen BK227.out 1; have hfz27_2 := blk_frozen BK227.out 2))
        go_loopg [3, 6] k (fun kq v3 v6 w' => ∃ (x3_1 : List Int) (x6_1 : Int), v6 = .int .i64 x6_1 ∧ Aside0 (interlockref05_one.l1 kq x3_1 x6_1 a0_0 a0_1 a0_2 = some r) ∧ Aside0 (kq ≤ k) ∧ Aside0 (Kd.R (Kd.int .u8) 5 w' w.heap.size (fun _ => True) v3 x3_1) ∧ Aside0 (w'.heap[gb227]? = some (.cells #[.int .i64 a0_0, .int .i64 a0_1, .string a0_2] 43 (0, 0))) ∧ Aside0 (Below w.heap.size w w'))
        case atStart => exact ⟨(y228), (0), (by first | rfl | (simp; done) | (simp [*]; done)), H', ⟨Nat.le_refl _⟩, ⟨by (with_reducible repeat (first | apply Kd.R_alloc | apply Kd.R_drewN | apply Kd.R_drew)); exact HO230.out⟩, ⟨by (with_reducible repeat (first | refine blk_drewN ?_ _ | refine blk_drew ?_ | refine blk_alloc ?_ _)); exact BK227.out⟩, ⟨by repeat (first | (with_reducible first | exact HB.out | apply below_alloc | apply pw_below_drewN | apply below_drew1 | refine below_set ?_ GE227.out) | exact HB.out)⟩⟩
        case round =>
          clear H'
          try clear c1
          try clear c2
          try clear c2b0
          try clear c2b1
          try clear p2
          try clear c3
          try clear p6
          try clear c8
          try clear c8b0
          try clear c10
          try clear c10b0
          try clear c10b1
          try clear c12
          try clear c14
          try clear c14b0
          try clear c14b1
          try clear c15
          try clear c22
          try clear c22b0
          try clear c22b1
          try clear hcz17_0
          try clear hcz17_1
          try clear hcz17_2
          try clear hcz20_0
          try clear hcz20_1
          try clear hcz20_2
          try clear hcz24_0
          try clear hcz24_1
          try clear hcz24_2
          try clear hcz27_0
          try clear hcz27_1
          try clear hcz27_2
          try clear hcz4_0
          try clear hcz4_1
          try clear hcz4_2
          try clear hcz7_0
          try clear hcz7_1
          try clear hcz7_2
          try clear hfz17_0
          try clear hfz17_1
          try clear hfz17_2
          try clear hfz20_0
          try clear hfz20_1
          try clear hfz20_2
          try clear hfz24_0
          try clear hfz24_1
          try clear hfz24_2
          try clear hfz27_0
          try clear hfz27_1
          try clear hfz27_2
          try clear hfz4_0
          try clear hfz4_1
          try clear hfz4_2
          try clear hfz7_0
          try clear hfz7_1
          try clear hfz7_2
          try clear p2
          obtain ⟨x3_1, x6_1, rfl, HA, HK1, HO_3, BK227, HB⟩ := hrel
          cases gk with
          | zero => exact absurd HA.out (by simp [interlockref05_one.l1])
          | succ k1 =>
            have H := HA.out
            clear HA
            simp only [interlockref05_one.l1] at H
            by_cases c28 : x6_1 < (a0_2.size : Int)
            · rw [if_pos c28] at H
              have c28b0 : decide (x6_1 < (a0_2.size : Int)) = true := decide_eq_true c28
              clear c28
              by_cases c29 : 0 ≤ x6_1
              · rw [if_pos c29] at H
                have c29b0 : decide (0 ≤ x6_1) = true := decide_eq_true c29
                clear c29
                by_cases c31 : x3_1.length < 140737488355328
                · rw [if_pos c31] at H
                  have LMc31 := Aside0.mk c31
                  clear c31
                  obtain ⟨y237, hy237⟩ : ∃ y_ : List Int, y_ = (x3_1 ++ [bt a0_2 x6_1]) := ⟨_, rfl⟩
                  replace H : (if (bt a0_2 x6_1) = 0 then (if y237.length < 140737488355328 then (interlockref05_one.l1 k1 (y237 ++ [255]) (wrap64 (x6_1 + 1)) a0_0 a0_1 a0_2) else (none)) else (interlockref05_one.l1 k1 y237 (wrap64 (x6_1 + 1)) a0_0 a0_1 a0_2)) = some r := by first | (rw [hy237]; with_reducible exact H) | (have H2_ := (Option.bind_some _ _).symm.trans H; rw [hy237]; with_reducible exact H2_) | (have H2_ := (Option.bind_some _ _).symm.trans H; with_reducible exact H2_) | with_reducible exact H | (rw [hy237]; exact H) | exact H
                  have Ny237 := Aside0.mk hy237
                  clear hy237
                  by_cases c33 : (bt a0_2 x6_1) = 0
                  · rw [if_pos c33] at H
                    have c33b0 : ((bt a0_2 x6_1) == 0) = true := beq_iff_eq.mpr c33
                    have c33b1 : ((bt a0_2 x6_1) != 0) = false := bne_eq_false_iff_eq.mpr c33
                    clear c33
                    by_cases c34 : y237.length < 140737488355328
                    · rw [if_pos c34] at H
                      have LMc34 := Aside0.mk c34
                      clear c34
                      obtain ⟨y240, hy240⟩ : ∃ y_ : List Int, y_ = (y237 ++ [255]) := ⟨_, rfl⟩
                      replace H : (interlockref05_one.l1 k1 y240 (wrap64 (x6_1 + 1)) a0_0 a0_1 a0_2) = some r := by first | (rw [hy240]; with_reducible exact H) | (have H2_ := (Option.bind_some _ _).symm.trans H; rw [hy240]; with_reducible exact H2_) | (have H2_ := (Option.bind_some _ _).symm.trans H; with_reducible exact H2_) | with_reducible exact H | (rw [hy240]; exact H) | exact H
                      have Ny240 := Aside0.mk hy240
                      clear hy240
                      have H' := Aside0.mk H
                      clear H
                      have hcz35_0 : wr.cell? ⟨gb227, 0, none⟩ = some (.int .i64 a0_0) := (blk_cell BK227.out 0).trans rfl
                      have hcz35_1 : wr.cell? ⟨gb227, 1, none⟩ = some (.int .i64 a0_1) := (blk_cell BK227.out 1).trans rfl
                      have hcz35_2 : wr.cell? ⟨gb227, 2, none⟩ = some (.string a0_2) := (blk_cell BK227.out 2).trans rfl
                      have hfz35_0 := blk_frozen BK227.out 0
                      have hfz35_1 := blk_frozen BK227.out 1
                      have hfz35_2 := blk_frozen BK227.out 2
                      have p30 : 0 ≤ (x6_1 : Int) := of_decide_eq_true (by first | (with_reducible assumption) | assumption)
                      have q30 : x6_1 < (a0_2.size : Int) := of_decide_eq_true (by first | (with_reducible assumption) | assumption)
                      have hx30 := bt_at a0_2 x6_1
                      replace p30 := eq_true p30
                      replace q30 := eq_true q30
                      go_wp2_with (first | ((with_reducible refine gate_builtin (b := .append) (xs := #[.tmp 49, .tmp 54]) rfl ?_); at_builtin; refine Kd.R_append (Kd.int .u8) (w0 := w) w.heap.size rfl (.tmp 49) (.tmp 54) 45 5 (.int .u8 0) 1 rfl Tryd.underlying45 info5 rfl (by decide) (by omega) u3 x3_1 (bt a0_2 x6_1) [.int .u8 (bt a0_2 x6_1)] (fun _ => True) (fun _ => False) rfl rfl ?aP (fun _ hk => hk.elim) ?aF ?aO ?aB ?aS ?aL ?_; (case aP => exact rfl); (case aB => exact (by repeat (first | (with_reducible first | exact HB.out | apply below_alloc | apply pw_below_drewN | apply below_drew1 | refine below_set ?_ GE227.out) | exact HB.out))); (case aF => exact (fun _ _ => trivial)); (case aO => exact (by (with_reducible repeat (first | apply Kd.R_alloc | apply Kd.R_drewN | apply Kd.R_drew)); exact HO_3.out)); (case aS => exact (below_size (by repeat (first | (with_reducible first | exact HB.out | apply below_alloc | apply pw_below_drewN | apply below_drew1 | refine below_set ?_ GE227.out) | exact HB.out)))); (case aL => have := LMc31.out; omega); intro v238 w36 ho hb hg hat; rw [← Ny237.out] at ho; have n0_ := Aside0.mk (blk_grown (g := gb227) (o := .cells #[.int .i64 a0_0, .int .i64 a0_1, .string a0_2] 43 (0, 0)) (by (with_reducible repeat (first | refine blk_drewN ?_ _ | refine blk_drew ?_ | refine blk_alloc ?_ _)); exact BK227.out) hg (Kd.R_ne HO_3.out BK227.out (by decide))); have n1_ := Aside0.mk (hb); have n2_ := Aside0.mk (ho); clear BK227; clear HB; clear HO_3; have BK227 := n0_; have HB := n1_; have HO239 := n2_; clear n0_ n1_ n2_; clear ho hb hg hat; have hcz37_0 : w36.cell? ⟨gb227, 0, none⟩ = some (.int .i64 a0_0) := (blk_cell BK227.out 0).trans rfl; have hcz37_1 : w36.cell? ⟨gb227, 1, none⟩ = some (.int .i64 a0_1) := (blk_cell BK227.out 1).trans rfl; have hcz37_2 : w36.cell? ⟨gb227, 2, none⟩ = some (.string a0_2) := (blk_cell BK227.out 2).trans rfl; have hfz37_0 := blk_frozen BK227.out 0; have hfz37_1 := blk_frozen BK227.out 1; have hfz37_2 := blk_frozen BK227.out 2; have p32 : 0 ≤ (x6_1 : Int) := of_decide_eq_true (by first | (with_reducible assumption) | assumption); have q32 : x6_1 < (a0_2.size : Int) := of_decide_eq_true (by first | (with_reducible assumption) | assumption); have hx32 := bt_at a0_2 x6_1; replace p32 := eq_true p32; replace q32 := eq_true q32) | ((with_reducible refine gate_builtin (b := .append) (xs := #[.tmp 61, .tmp 62]) rfl ?_); at_builtin; refine Kd.R_append (Kd.int .u8) (w0 := w) w.heap.size rfl (.tmp 61) (.tmp 62) 45 5 (.int .u8 0) 1 rfl Tryd.underlying45 info5 rfl (by decide) (by omega) v238 y237 255 [.int .u8 255] (fun _ => True) (fun _ => False) rfl rfl ?aP (fun _ hk => hk.elim) ?aF ?aO ?aB ?aS ?aL ?_; (case aP => exact rfl); (case aB => exact (by repeat (first | (with_reducible first | exact HB.out | apply below_alloc | apply pw_below_drewN | apply below_drew1 | refine below_set ?_ GE227.out) | exact HB.out))); (case aF => exact (fun _ _ => trivial)); (case aO => exact (by (with_reducible repeat (first | apply Kd.R_alloc | apply Kd.R_drewN | apply Kd.R_drew)); exact HO239.out)); (case aS => exact (below_size (by repeat (first | (with_reducible first | exact HB.out | apply below_alloc | apply pw_below_drewN | apply below_drew1 | refine below_set ?_ GE227.out) | exact HB.out)))); (case aL => have := LMc34.out; omega); intro v241 w38 ho hb hg hat; rw [← Ny240.out] at ho; have n0_ := Aside0.mk (blk_grown (g := gb227) (o := .cells #[.int .i64 a0_0, .int .i64 a0_1, .string a0_2] 43 (0, 0)) (by (with_reducible repeat (first | refine blk_drewN ?_ _ | refine blk_drew ?_ | refine blk_alloc ?_ _)); exact BK227.out) hg (Kd.R_ne HO239.out BK227.out (by decide))); have n1_ := Aside0.mk (hb); have n2_ := Aside0.mk (ho); clear BK227; clear HB; clear HO239; have BK227 := n0_; have HB := n1_; have HO242 := n2_; clear n0_ n1_ n2_; clear ho hb hg hat))
                      go_roundg k1
                      case measure => have := HK1.out; omega
                      case rel => exact ⟨(y240), (wrap64 (x6_1 + 1)), (by first | rfl | (simp; done) | (simp [*]; done)), H', ⟨by have := HK1.out; omega⟩, ⟨by (with_reducible repeat (first | apply Kd.R_alloc | apply Kd.R_drewN | apply Kd.R_drew)); exact HO242.out⟩, ⟨by (with_reducible repeat (first | refine blk_drewN ?_ _ | refine blk_drew ?_ | refine blk_alloc ?_ _)); exact BK227.out⟩, ⟨by repeat (first | (with_reducible first | exact HB.out | apply below_alloc | apply pw_below_drewN | apply below_drew1 | refine below_set ?_ GE227.out) | exact HB.out)⟩⟩
                    · rw [if_neg c34] at H
                      exact absurd H (by simp)
                  · rw [if_neg c33] at H
                    have c33b0 : ((bt a0_2 x6_1) == 0) = false := beq_eq_false_iff_ne.mpr c33
                    have c33b1 : ((bt a0_2 x6_1) != 0) = true := bne_iff_ne.mpr c33
                    have H' := Aside0.mk H
                    clear H
                    have hcz39_0 : wr.cell? ⟨gb227, 0, none⟩ = some (.int .i64 a0_0) := (blk_cell BK227.out 0).trans rfl
                    have hcz39_1 : wr.cell? ⟨gb227, 1, none⟩ = some (.int .i64 a0_1) := (blk_cell BK227.out 1).trans rfl
                    have hcz39_2 : wr.cell? ⟨gb227, 2, none⟩ = some (.string a0_2) := (blk_cell BK227.out 2).trans rfl
                    have hfz39_0 := blk_frozen BK227.out 0
                    have hfz39_1 := blk_frozen BK227.out 1
                    have hfz39_2 := blk_frozen BK227.out 2
                    have p30 : 0 ≤ (x6_1 : Int) := of_decide_eq_true (by first | (with_reducible assumption) | assumption)
                    have q30 : x6_1 < (a0_2.size : Int) := of_decide_eq_true (by first | (with_reducible assumption) | assumption)
                    have hx30 := bt_at a0_2 x6_1
                    replace p30 := eq_true p30
                    replace q30 := eq_true q30
                    go_wp2_with (first | ((with_reducible refine gate_builtin (b := .append) (xs := #[.tmp 49, .tmp 54]) rfl ?_); at_builtin; refine Kd.R_append (Kd.int .u8) (w0 := w) w.heap.size rfl (.tmp 49) (.tmp 54) 45 5 (.int .u8 0) 1 rfl Tryd.underlying45 info5 rfl (by decide) (by omega) u3 x3_1 (bt a0_2 x6_1) [.int .u8 (bt a0_2 x6_1)] (fun _ => True) (fun _ => False) rfl rfl ?aP (fun _ hk => hk.elim) ?aF ?aO ?aB ?aS ?aL ?_; (case aP => exact rfl); (case aB => exact (by repeat (first | (with_reducible first | exact HB.out | apply below_alloc | apply pw_below_drewN | apply below_drew1 | refine below_set ?_ GE227.out) | exact HB.out))); (case aF => exact (fun _ _ => trivial)); (case aO => exact (by (with_reducible repeat (first | apply Kd.R_alloc | apply Kd.R_drewN | apply Kd.R_drew)); exact HO_3.out)); (case aS => exact (below_size (by repeat (first | (with_reducible first | exact HB.out | apply below_alloc | apply pw_below_drewN | apply below_drew1 | refine below_set ?_ GE227.out) | exact HB.out)))); (case aL => have := LMc31.out; omega); intro v238 w40 ho hb hg hat; rw [← Ny237.out] at ho; have n0_ := Aside0.mk (blk_grown (g := gb227) (o := .cells #[.int .i64 a0_0, .int .i64 a0_1, .string a0_2] 43 (0, 0)) (by (with_reducible repeat (first | refine blk_drewN ?_ _ | refine blk_drew ?_ | refine blk_alloc ?_ _)); exact BK227.out) hg (Kd.R_ne HO_3.out BK227.out (by decide))); have n1_ := Aside0.mk (hb); have n2_ := Aside0.mk (ho); clear BK227; clear HB; clear HO_3; have BK227 := n0_; have HB := n1_; have HO239 := n2_; clear n0_ n1_ n2_; clear ho hb hg hat; have hcz41_0 : w40.cell? ⟨gb227, 0, none⟩ = some (.int .i64 a0_0) := (blk_cell BK227.out 0).trans rfl; have hcz41_1 : w40.cell? ⟨gb227, 1, none⟩ = some (.int .i64 a0_1) := (blk_cell BK227.out 1).trans rfl; have hcz41_2 : w40.cell? ⟨gb227, 2, none⟩ = some (.string a0_2) := (blk_cell BK227.out 2).trans rfl; have hfz41_0 := blk_frozen BK227.out 0; have hfz41_1 := blk_frozen BK227.out 1; have hfz41_2 := blk_frozen BK227.out 2; have p32 : 0 ≤ (x6_1 : Int) := of_decide_eq_true (by first | (with_reducible assumption) | assumption); have q32 : x6_1 < (a0_2.size : Int) := of_decide_eq_true (by first | (with_reducible assumption) | assumption); have hx32 := bt_at a0_2 x6_1; replace p32 := eq_true p32; replace q32 := eq_true q32))
                    go_roundg k1
                    case measure => have := HK1.out; omega
                    case rel => exact ⟨(y237), (wrap64 (x6_1 + 1)), (by first | rfl | (simp; done) | (simp [*]; done)), H', ⟨by have := HK1.out; omega⟩, ⟨by (with_reducible repeat (first | apply Kd.R_alloc | apply Kd.R_drewN | apply Kd.R_drew)); exact HO239.out⟩, ⟨by (with_reducible repeat (first | refine blk_drewN ?_ _ | refine blk_drew ?_ | refine blk_alloc ?_ _)); exact BK227.out⟩, ⟨by repeat (first | (with_reducible first | exact HB.out | apply below_alloc | apply pw_below_drewN | apply below_drew1 | refine below_set ?_ GE227.out) | exact HB.out)⟩⟩
                · rw [if_neg c31] at H
                  exact absurd H (by simp)
              · rw [if_neg c29] at H
                exact absurd H (by simp)
            · rw [if_neg c28] at H
              have c28b0 : decide (x6_1 < (a0_2.size : Int)) = false := decide_eq_false c28
              clear c28
              obtain ⟨y243, hy243⟩ : ∃ y_ : List Int, y_ = (([0, 1] : List Int)) := ⟨_, rfl⟩
              replace H : (if x3_1.length + y243.length < 140737488355328 then (some (x3_1 ++ y243)) else (none)) = some r := by first | (rw [hy243]; with_reducible exact H) | (have H2_ := (Option.bind_some _ _).symm.trans H; rw [hy243]; with_reducible exact H2_) | (have H2_ := (Option.bind_some _ _).symm.trans H; with_reducible exact H2_) | with_reducible exact H | (rw [hy243]; exact H) | exact H
              have Ny243 := Aside0.mk hy243
              clear hy243
              by_cases c42 : x3_1.length + y243.length < 140737488355328
              · rw [if_pos c42] at H
                have LMc42 := Aside0.mk c42
                clear c42
                obtain ⟨y246, hy246⟩ : ∃ y_ : List Int, y_ = (x3_1 ++ y243) := ⟨_, rfl⟩
                replace H : (some y246) = some r := by first | (rw [hy246]; with_reducible exact H) | (have H2_ := (Option.bind_some _ _).symm.trans H; rw [hy246]; with_reducible exact H2_) | (have H2_ := (Option.bind_some _ _).symm.trans H; with_reducible exact H2_) | with_reducible exact H | (rw [hy246]; exact H) | exact H
                have Ny246 := Aside0.mk hy246
                clear hy246
                obtain rfl := Option.some.inj H
                have hcz43_0 : wr.cell? ⟨gb227, 0, none⟩ = some (.int .i64 a0_0) := (blk_cell BK227.out 0).trans rfl
                have hcz43_1 : wr.cell? ⟨gb227, 1, none⟩ = some (.int .i64 a0_1) := (blk_cell BK227.out 1).trans rfl
                have hcz43_2 : wr.cell? ⟨gb227, 2, none⟩ = some (.string a0_2) := (blk_cell BK227.out 2).trans rfl
                have hfz43_0 := blk_frozen BK227.out 0
                have hfz43_1 := blk_frozen BK227.out 1
                have hfz43_2 := blk_frozen BK227.out 2
                go_wp2_with (first | ((with_reducible refine gate_dst (N := 65) rfl ?_); refine Kd.R_lit (Kd.int .u8) _ 5 ?hg (N := 65) ?hd (xs := ([0, 1] : List Int)) (inner := [.int .u8 0, .int .u8 1]) (ok := fun _ => True) (okp := fun _ => True) ?hr ?hp (fun _ hk => hk) trivial (Below.refl _ _) (Nat.le_refl _) (by simp) ?_; (case hd => rfl); (case hg => rfl); (case hr => first | (go_simp; done) | (go_simp; rfl)); (case hp => exact (Reps.one (show Kd.M (Kd.int .u8) _ _ _ 0 [.int .u8 0] from rfl) (Reps.one (show Kd.M (Kd.int .u8) _ _ _ 1 [.int .u8 1] from rfl) (Reps.none _ _)))); intro v244 w44 ho45 hb hg_ hnew_; clear hg_ hnew_; (first | rw [← Ny243.out] at ho45 | (simp only [Int.reduceToNat] at ho45; rw [← Ny243.out] at ho45)); have n0_ := Aside0.mk (Kd.R_elder' (by (with_reducible repeat (first | apply Kd.R_alloc | apply Kd.R_drewN | apply Kd.R_drew)); exact HO_3.out) (Kd.R_base ho45) hb); have n1_ := Aside0.mk (Kd.R_lower (Kd.R_new' ho45 (Kd.R_lt (by (with_reducible repeat (first | apply Kd.R_alloc | apply Kd.R_drewN | apply Kd.R_drew)); exact HO_3.out))) (below_size (by repeat (first | (with_reducible first | exact HB.out | apply below_alloc | apply pw_below_drewN | apply below_drew1 | refine below_set ?_ GE227.out) | exact HB.out)))); have n2_ := Aside0.mk (blk_below (g := gb227) (o := .cells #[.int .i64 a0_0, .int .i64 a0_1, .string a0_2] 43 (0, 0)) (by (with_reducible repeat (first | refine blk_drewN ?_ _ | refine blk_drew ?_ | refine blk_alloc ?_ _)); exact BK227.out) hb); have n3_ := Aside0.mk (below_step (by repeat (first | (with_reducible first | exact HB.out | apply below_alloc | apply pw_below_drewN | apply below_drew1 | refine below_set ?_ GE227.out) | exact HB.out)) hb); clear HO_3; clear BK227; clear HB; have HO_3 := n0_; have HO245 := n1_; have BK227 := n2_; have HB := n3_; clear n0_ n1_ n2_ n3_; clear hb ho45; obtain ⟨Ao47, co47, eo47⟩ := Kd.R_slice HO245.out; subst eo47) | ((with_reducible refine gate_builtin (b := .append) (xs := #[.tmp 64, .tmp 65]) rfl ?_); at_builtin; refine Kd.R_append_rows (Kd.int .u8) (w0 := w) w.heap.size rfl (.tmp 64) (.tmp 65) 45 5 (.int .u8 0) 1 rfl Tryd.underlying45 info5 rfl (by decide) (by omega) u3 x3_1 y243 _ _ _ (fun k_ => some k_ ≠ (.slice Ao47 y243.length co47 : Value).ownBlock) (fun _ => False) rfl rfl ?aO ?aR (fun _ _ h => h) (fun _ h => h.elim) ?aF ?aB ?aS ?aL ?_; (case aR => repeat (first | exact (Kd.R_reads' HO245.out).2.2 | (with_reducible refine Kd.C_alloc ?_ _) | (with_reducible refine Kd.C_drewN ?_ _) | (with_reducible refine Kd.C_drew ?_))); (case aB => exact (by repeat (first | (with_reducible first | exact HB.out | apply below_alloc | apply pw_below_drewN | apply below_drew1 | refine below_set ?_ GE227.out) | exact HB.out))); (case aF => exact (fun k_ hk => Kd.fresh' (Kd.R_lt (by (with_reducible repeat (first | apply Kd.R_alloc | apply Kd.R_drewN | apply Kd.R_drew)); exact HO245.out)) k_ hk)); (case aO => exact (by (with_reducible repeat (first | apply Kd.R_alloc | apply Kd.R_drewN | apply Kd.R_drew)); exact Kd.R_mono HO_3.out (fun _ hk => hk.2))); (case aS => exact (below_size (by repeat (first | (with_reducible first | exact HB.out | apply below_alloc | apply pw_below_drewN | apply below_drew1 | refine below_set ?_ GE227.out) | exact HB.out)))); (case aL => have := LMc42.out; omega); intro v247 w46 ho hb hg hat; rw [← Ny246.out] at ho; have n0_ := Aside0.mk (blk_grown (g := gb227) (o := .cells #[.int .i64 a0_0, .int .i64 a0_1, .string a0_2] 43 (0, 0)) (by (with_reducible repeat (first | refine blk_drewN ?_ _ | refine blk_drew ?_ | refine blk_alloc ?_ _)); exact BK227.out) hg (Kd.R_ne HO_3.out BK227.out (by decide))); have n1_ := Aside0.mk (Kd.R_after (ok := (fun _ => True)) (by (with_reducible repeat (first | apply Kd.R_alloc | apply Kd.R_drewN | apply Kd.R_drew)); exact HO245.out) hg hat); have n2_ := Aside0.mk (hb); have n3_ := Aside0.mk (ho); clear BK227; clear HO245; clear HB; clear HO_3; have BK227 := n0_; have HO245 := n1_; have HB := n2_; have HO248 := n3_; clear n0_ n1_ n2_ n3_; clear ho hb hg hat))
                go_ret
                exact ⟨_, by first | rfl | (simp [errW_none, errW_some] <;> rfl) | (simp [*, errW_none, errW_some] <;> rfl), by (with_reducible repeat (first | apply Kd.R_alloc | apply Kd.R_drewN | apply Kd.R_drew)); exact Kd.R_mono HO248.out (fun _ hk => trivial), by repeat (first | (with_reducible first | exact HB.out | apply below_alloc | apply pw_below_drewN | apply below_drew1 | refine below_set ?_ GE227.out) | exact HB.out)⟩
              · rw [if_neg c42] at H
                exact absurd H (by simp)
      · rw [if_neg c22] at H
        have c22b0 : (a0_0 == 3) = false := beq_eq_false_iff_ne.mpr c22
        have c22b1 : (a0_0 != 3) = true := bne_iff_ne.mpr c22
        obtain rfl := Option.some.inj H
        go_enter Tryd.func33, Tryd.ntmps33
        go_wp2_with (first | ((with_reducible refine gate_dst (N := 1) rfl ?_); refine box_event ?hg (N := 1) ?hd (cs := #[.int .i64 a0_0, .int .i64 a0_1, .string a0_2]) (t := 43) ?hr ?_; (case hd => rfl); (case hg => rfl); (case hr => first | (go_simp; done) | (go_simp; rfl)); intro gb227 hg w48 hbox hb; have n0_ := Aside0.mk (below_step (by repeat (first | (with_reducible first | exact HB.out | apply below_alloc | apply pw_below_drewN | apply below_drew1) | exact HB.out)) hb); have n1_ := Aside0.mk (hbox); have n2_ := Aside0.mk ((by rw [hg]; exact (below_size (by repeat (first | (with_reducible first | exact HB.out | apply below_alloc | apply pw_below_drewN | apply below_drew1) | exact HB.out))) : w.heap.size ≤ gb227)); have n3_ := Aside0.mk ((by rw [hg]; exact (below_size (by repeat (first | (with_reducible first | exact HB.out | apply below_alloc | apply pw_below_drewN | apply below_drew1) | exact HB.out))) : w.heap.size ≤ gb227)); clear HB; have HB := n0_; have BK227 := n1_; have GW227 := n2_; have GE227 := n3_; clear n0_ n1_ n2_ n3_; clear hb hbox hg; have hcz49_0 : w48.cell? ⟨gb227, 0, none⟩ = some (.int .i64 a0_0) := (blk_cell BK227.out 0).trans rfl; have hcz49_1 : w48.cell? ⟨gb227, 1, none⟩ = some (.int .i64 a0_1) := (blk_cell BK227.out 1).trans rfl; have hcz49_2 : w48.cell? ⟨gb227, 2, none⟩ = some (.string a0_2) := (blk_cell BK227.out 2).trans rfl; have hfz49_0 := blk_frozen BK227.out 0; have hfz49_1 := blk_frozen BK227.out 1; have hfz49_2 := blk_frozen BK227.out 2) | ((with_reducible refine gate_dst (N := 10) rfl ?_); refine Kd.R_lit (Kd.int .u8) _ 5 ?hg (N := 10) ?hd (xs := ([(a0_0) % 256] : List Int)) (inner := [.int .u8 ((a0_0) % 256)]) (ok := fun _ => True) (okp := fun _ => True) ?hr ?hp (fun _ hk => hk) trivial (Below.refl _ _) (Nat.le_refl _) (by simp) ?_; (case hd => rfl); (case hg => rfl); (case hr => first | (go_simp; done) | (go_simp; rfl)); (case hp => exact (Reps.one (show Kd.M (Kd.int .u8) _ _ _ ((a0_0) % 256) [.int .u8 ((a0_0) % 256)] from rfl) (Reps.none _ _))); intro v229 w50 ho51 hb hg_ hnew_; clear hg_ hnew_; (first | rw [← Ny228.out] at ho51 | (simp only [Int.reduceToNat] at ho51; rw [← Ny228.out] at ho51)); have n0_ := Aside0.mk (Kd.R_lower ho51 (below_size (by repeat (first | (with_reducible first | exact HB.out | apply below_alloc | apply pw_below_drewN | apply below_drew1 | refine below_set ?_ GE227.out) | exact HB.out)))); have n1_ := Aside0.mk (blk_below (g := gb227) (o := .cells #[.int .i64 a0_0, .int .i64 a0_1, .string a0_2] 43 (0, 0)) (by (with_reducible repeat (first | refine blk_drewN ?_ _ | refine blk_drew ?_ | refine blk_alloc ?_ _)); exact BK227.out) hb); have n2_ := Aside0.mk (below_step (by repeat (first | (with_reducible first | exact HB.out | apply below_alloc | apply pw_below_drewN | apply below_drew1 | refine below_set ?_ GE227.out) | exact HB.out)) hb); clear BK227; clear HB; have HO230 := n0_; have BK227 := n1_; have HB := n2_; clear n0_ n1_ n2_; clear hb ho51; have hcz52_0 : w50.cell? ⟨gb227, 0, none⟩ = some (.int .i64 a0_0) := (blk_cell BK227.out 0).trans rfl; have hcz52_1 : w50.cell? ⟨gb227, 1, none⟩ = some (.int .i64 a0_1) := (blk_cell BK227.out 1).trans rfl; have hcz52_2 : w50.cell? ⟨gb227, 2, none⟩ = some (.string a0_2) := (blk_cell BK227.out 2).trans rfl; have hfz52_0 := blk_frozen BK227.out 0; have hfz52_1 := blk_frozen BK227.out 1; have hfz52_2 := blk_frozen BK227.out 2))
        go_ret
        exact ⟨_, by first | rfl | (simp [errW_none, errW_some] <;> rfl) | (simp [*, errW_none, errW_some] <;> rfl), by (with_reducible repeat (first | apply Kd.R_alloc | apply Kd.R_drewN | apply Kd.R_drew)); exact HO230.out, by repeat (first | (with_reducible first | exact HB.out | apply below_alloc | apply pw_below_drewN | apply below_drew1 | refine below_set ?_ GE227.out) | exact HB.out)⟩

end Go.Proofs.YtjcgbppicdccdaaDoor.Q
end
