/- Plain law: the rounds of the references' loops. -/
import Derived.Test.YtjcgbppicdccdaaDoorA2
namespace Go.Proofs.YtjcgbppicdccdaaDoor.Q
open Go.RowKit Go.Proofs.YtjcgbppicdccdaaDoorW.PrintWords Go.Proofs.YtjcgbppicdccdaaDoorW.PrintLast Go.Proofs.YtjcgbppicdccdaaDoorW.PrintMore
set_option linter.unusedVariables false

theorem wrap_succ (i : Nat) (h : (i : Int) < 9223372036854775807) : wrap64 ((i : Int) + 1) = ((i + 1 : Nat) : Int) := by unfold wrap64; omega
theorem cmp_some (a b : Int) : interlockref04_cmp.f a b = some (cmpI a b) := by
  unfold interlockref04_cmp.f cmpI
  split
  · rfl
  · split <;> rfl
theorem bt_get (s : ByteArray) (i : Nat) (h : i < s.data.toList.length) : bt s (i : Int) = ((s.data.toList[i]).toNat : Int) := by
  have h' : i < s.size := by simpa using h
  unfold bt
  simp [h']
  rfl
theorem cmpL_end : ∀ (s t : List UInt8), (s = [] ∨ t = []) → cmpL s t = cmpI s.length t.length
  | [], [], _ => rfl
  | [], d :: t, _ => by simp only [cmpL, cmpI, List.length_cons, List.length_nil]; rw [if_pos (by omega)]
  | c :: s, [], _ => by simp only [cmpL, cmpI, List.length_cons, List.length_nil]; rw [if_neg (by omega), if_pos (by omega)]
  | c :: s, d :: t, h => by simp at h
theorem cmpI_add (a b c : Int) : cmpI (a - c) (b - c) = cmpI a b := by unfold cmpI; split <;> split <;> (try split) <;> (try split) <;> omega
theorem Ev.some_ {α : Type} {g : Nat → Option α} {r : α} (h : ∀ k, g k = some r) : Ev g r := ⟨0, fun k _ => h k⟩
theorem Ev.to {α : Type} {g : Nat → Option α} {r r' : α} (h : Ev g r) (e : r = r') : Ev g r' := e ▸ h
theorem size_list (s : ByteArray) : s.data.toList.length = s.size := by simp

theorem texts_ev (s t : ByteArray) (hs : s.size ≤ 140737488355328) : ∀ (d i : Nat), i + d = s.size → i ≤ t.size → Ev (fun k => interlockref04_Texts.l0 k s t i) (cmpL (s.data.toList.drop i) (t.data.toList.drop i)) := by
  have ls := size_list s
  have lt := size_list t
  intro d
  induction d with
  | zero =>
    intro i hi ht
    refine Ev.step (f := fun k => interlockref04_Texts.j1 k s t i false) (fun k => by simp only [interlockref04_Texts.l0]; rw [if_neg (by omega)]) ?_
    refine Ev.step (f := fun k => some (cmpI s.size t.size)) (fun k => by simp [interlockref04_Texts.j1, cmp_some]) (Ev.some_ fun _ => ?_)
    rw [cmpL_end _ _ (.inl (List.drop_eq_nil_iff.2 (by omega))), List.length_drop, List.length_drop, ls, lt]
    have := cmpI_add s.size t.size i
    rw [← this, show ((s.size - i : Nat) : Int) = (s.size : Int) - i by omega, show ((t.size - i : Nat) : Int) = (t.size : Int) - i by omega]
  | succ d ih =>
    intro i hi ht
    have hl : (i : Int) < (s.size : Int) := by omega
    by_cases h2 : i < t.size
    · refine Ev.step (f := fun k => interlockref04_Texts.j1 k s t i true) (fun k => by simp only [interlockref04_Texts.l0]; rw [if_pos hl, decide_eq_true (by omega)]) ?_
      have e1 := bt_get s i (by omega)
      have e2 := bt_get t i (by omega)
      rw [List.drop_eq_getElem_cons (by omega : i < s.data.toList.length), List.drop_eq_getElem_cons (by omega : i < t.data.toList.length), cmpL]
      by_cases hb : bt s i = bt t i
      · have hb' : s.data.toList[i] = t.data.toList[i] := UInt8.toNat_inj.1 (by rw [e1, e2] at hb; omega)
        rw [if_pos hb']
        refine Ev.step (fun k => ?_) (ih (i + 1) (by omega) (by omega))
        simp only [interlockref04_Texts.j1, if_true]
        rw [if_pos (by omega), if_pos hl, if_pos (by omega), if_pos hb, wrap_succ i (by omega)]
      · have hb' : ¬ s.data.toList[i] = t.data.toList[i] := fun e => hb (by rw [e1, e2, e])
        rw [if_neg hb']
        refine Ev.step (f := fun k => some (cmpI (s.data.toList[i]).toNat (t.data.toList[i]).toNat)) (fun k => ?_) (Ev.some_ fun _ => rfl)
        simp only [interlockref04_Texts.j1, if_true]
        rw [if_pos (by omega), if_pos hl, if_pos (by omega), if_neg hb, e1, e2]
        have w1 : ∀ c : UInt8, wrap64 (c.toNat : Int) = c.toNat := fun c => by
          have := c.toNat_lt
          unfold wrap64
          omega
        rw [w1, w1, cmp_some]
        rfl
    · refine Ev.step (f := fun k => interlockref04_Texts.j1 k s t i false) (fun k => by simp only [interlockref04_Texts.l0]; rw [if_pos hl, decide_eq_false (by omega)]) ?_
      refine Ev.step (f := fun k => some (cmpI s.size t.size)) (fun k => by simp [interlockref04_Texts.j1, cmp_some]) (Ev.some_ fun _ => ?_)
      rw [cmpL_end _ _ (.inr (List.drop_eq_nil_iff.2 (by omega))), List.length_drop, List.length_drop, ls, lt]
      have := cmpI_add s.size t.size i
      rw [← this, show ((s.size - i : Nat) : Int) = (s.size : Int) - i by omega, show ((t.size - i : Nat) : Int) = (t.size : Int) - i by omega]
theorem texts_f (s t : ByteArray) (hs : s.size ≤ 140737488355328) : Ev (fun k => interlockref04_Texts.f k s t) (cmpL s.data.toList t.data.toList) :=
  texts_ev s t hs s.size 0 (by omega) (by omega)

theorem order_ev (v w : S43) (hv : v.f2.size ≤ 140737488355328) : Ev (fun k => interlockref04_Order.f k v.f0 v.f1 v.f2 w.f0 w.f1 w.f2) (orderS v w) := by
  unfold interlockref04_Order.f orderS
  by_cases h0 : v.f0 = w.f0
  · by_cases h1 : v.f1 = w.f1
    · simp only [if_pos h0, if_pos h1]
      exact Ev.bind (texts_f _ _ hv) (Ev.some_ fun _ => rfl)
    · simp only [if_pos h0, if_neg h1, cmp_some]
      exact Ev.some_ fun _ => rfl
  · simp only [if_neg h0, cmp_some]
    exact Ev.some_ fun _ => rfl
theorem rd_get (l : List S43) (i : Nat) (h : i < l.length) : rd_T43 l (i : Int) = l[i] := by unfold rd_T43; simp [h]
theorem orderL_end : ∀ (s t : List S43), (s = [] ∨ t = []) → orderL s t = cmpI s.length t.length
  | [], [], _ => rfl
  | [], d :: t, _ => by simp only [orderL, cmpI, List.length_cons, List.length_nil]; rw [if_pos (by omega)]
  | c :: s, [], _ => by simp only [orderL, cmpI, List.length_cons, List.length_nil]; rw [if_neg (by omega), if_pos (by omega)]
  | c :: s, d :: t, h => by simp at h
theorem rows_ev (a b : List S43) (ha : ∀ v ∈ a, v.f2.size ≤ 140737488355328) (hl0 : a.length ≤ 140737488355328) : ∀ (d i : Nat), i + d = a.length → i ≤ b.length → Ev (fun k => interlockref04_OrderRows.l0 k a b i) (orderL (a.drop i) (b.drop i)) := by
  intro d
  induction d with
  | zero =>
    intro i hi ht
    refine Ev.step (f := fun k => interlockref04_OrderRows.j1 k a b i false) (fun k => by simp only [interlockref04_OrderRows.l0]; rw [if_neg (by omega)]) ?_
    refine Ev.step (f := fun k => some (cmpI a.length b.length)) (fun k => by simp [interlockref04_OrderRows.j1, cmp_some]) (Ev.some_ fun _ => ?_)
    rw [orderL_end _ _ (.inl (List.drop_eq_nil_iff.2 (by omega))), List.length_drop, List.length_drop]
    have := cmpI_add a.length b.length i
    rw [← this, show ((a.length - i : Nat) : Int) = (a.length : Int) - i by omega, show ((b.length - i : Nat) : Int) = (b.length : Int) - i by omega]
  | succ d ih =>
    intro i hi ht
    have hl : (i : Int) < (a.length : Int) := by omega
    by_cases h2 : i < b.length
    · refine Ev.step (f := fun k => interlockref04_OrderRows.j1 k a b i true) (fun k => by simp only [interlockref04_OrderRows.l0]; rw [if_pos hl, decide_eq_true (by omega)]) ?_
      have e1 := rd_get a i (by omega)
      have e2 := rd_get b i h2
      rw [List.drop_eq_getElem_cons (by omega : i < a.length), List.drop_eq_getElem_cons h2, orderL]
      have ho := order_ev a[i] b[i] (ha _ (List.getElem_mem _))
      refine Ev.step (f := fun k => (interlockref04_Order.f k (a[i]).f0 (a[i]).f1 (a[i]).f2 (b[i]).f0 (b[i]).f1 (b[i]).f2).bind fun t128 => (if t128 = 0 then (interlockref04_OrderRows.l0 k a b ((i + 1 : Nat) : Int)) else (some t128))) (fun k => ?_) (Ev.bind ho ?_)
      · simp only [interlockref04_OrderRows.j1, if_true]
        rw [if_pos (by omega), if_pos hl, if_pos (by omega), e1, e2, wrap_succ i (by omega)]
      · by_cases hz : orderS a[i] b[i] = 0
        · simp only [if_pos hz]
          exact ih (i + 1) (by omega) (by omega)
        · simp only [if_neg hz]
          exact Ev.some_ fun _ => rfl
    · refine Ev.step (f := fun k => interlockref04_OrderRows.j1 k a b i false) (fun k => by simp only [interlockref04_OrderRows.l0]; rw [if_pos hl, decide_eq_false (by omega)]) ?_
      refine Ev.step (f := fun k => some (cmpI a.length b.length)) (fun k => by simp [interlockref04_OrderRows.j1, cmp_some]) (Ev.some_ fun _ => ?_)
      rw [orderL_end _ _ (.inr (List.drop_eq_nil_iff.2 (by omega))), List.length_drop, List.length_drop]
      have := cmpI_add a.length b.length i
      rw [← this, show ((a.length - i : Nat) : Int) = (a.length : Int) - i by omega, show ((b.length - i : Nat) : Int) = (b.length : Int) - i by omega]
theorem rows_f (a b : List S43) (ha : ∀ v ∈ a, v.f2.size ≤ 140737488355328) (hl0 : a.length ≤ 140737488355328) : Ev (fun k => interlockref04_OrderRows.f k a b) (orderL a b) :=
  rows_ev a b ha hl0 a.length 0 (by omega) (by omega)

/-- Is a row long? -/
def longL (l : List S43) : Bool := decide (100 < l.length) || l.any fun v => decide (1000 < v.f2.size)
theorem long_ev (l : List S43) (h1 : l.length ≤ 100) : ∀ (d i : Nat), i + d = l.length → Ev (fun k => interlocklaw05_long.l0 k l i) ((l.drop i).any fun v => decide (1000 < v.f2.size)) := by
  intro d
  induction d with
  | zero =>
    intro i hi
    refine Ev.step (f := fun k => some false) (fun k => by simp only [interlocklaw05_long.l0]; rw [if_neg (by omega)]) (Ev.some_ fun _ => ?_)
    rw [List.drop_eq_nil_iff.2 (by omega)]
    rfl
  | succ d ih =>
    intro i hi
    rw [List.drop_eq_getElem_cons (by omega : i < l.length), List.any_cons]
    have e := rd_get l i (by omega)
    by_cases hb : 1000 < (l[i]).f2.size
    · refine Ev.step (f := fun k => some true) (fun k => by simp only [interlocklaw05_long.l0]; rw [if_pos (by omega), if_pos (by omega), e, if_pos (by omega)]) (Ev.some_ fun _ => by simp [hb])
    · refine Ev.step (fun k => ?_) (Ev.to (ih (i + 1) (by omega)) (by simp [hb]))
      simp only [interlocklaw05_long.l0]
      rw [if_pos (by omega), if_pos (by omega), e, if_neg (by omega), wrap_succ i (by omega)]
theorem long_f (l : List S43) : Ev (fun k => interlocklaw05_long.f k l) (longL l) := by
  unfold interlocklaw05_long.f longL
  by_cases h : 100 < l.length
  · simp only [if_pos (show (l.length : Int) > 100 by omega)]
    exact Ev.some_ fun _ => by simp [h]
  · simp only [if_neg (show ¬ (l.length : Int) > 100 by omega)]
    exact Ev.to (long_ev l (by omega) l.length 0 (by omega)) (by simp [h])
theorem alive_f : interlocklaw05_alive.f = some true := by
  unfold interlocklaw05_alive.f key_Encode.f
  decide +kernel
end Go.Proofs.YtjcgbppicdccdaaDoor.Q
