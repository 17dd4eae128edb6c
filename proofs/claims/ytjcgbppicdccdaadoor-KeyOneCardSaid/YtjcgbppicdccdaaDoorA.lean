/- Merged by merge.py: YtjcgbppicdccdaaDoorA1 YtjcgbppicdccdaaDoorA2 YtjcgbppicdccdaaDoorA3 YtjcgbppicdccdaaDoorA4 YtjcgbppicdccdaaDoorA5 YtjcgbppicdccdaaDoorA6 YtjcgbppicdccdaaDoorA7 YtjcgbppicdccdaaDoorA8 YtjcgbppicdccdaaDoorA9 -/
import Derived.Test.YtjcgbppicdccdaaDoorH11
import Derived.Laws.BitsLemmas
import Derived.Test.YtjcgbppicdccdaaDoorQ12
import Derived.Test.YtjcgbppicdccdaaDoorQ10
import Derived.Test.YtjcgbppicdccdaaDoorQ9
import Derived.Test.YtjcgbppicdccdaaDoorQ3
import Derived.Test.YtjcgbppicdccdaaDoorR
import Derived.Test.YtjcgbppicdccdaaDoorQ4
import Derived.Test.YtjcgbppicdccdaaDoorQ5
import Derived.Test.YtjcgbppicdccdaaDoorH17
import Derived.Test.YtjcgbppicdccdaaDoorQ6
import Derived.Test.YtjcgbppicdccdaaDoorQ7
section
/- Plain law: keys are in the order of their rows. -/
namespace Go.Proofs.YtjcgbppicdccdaaDoor.Q
open Go.RowKit Go.Proofs.YtjcgbppicdccdaaDoorW.PrintWords Go.Proofs.YtjcgbppicdccdaaDoorW.PrintLast Go.Proofs.YtjcgbppicdccdaaDoorW.PrintMore
set_option linter.unusedVariables false

def cmpI (a b : Int) : Int := if a < b then -1 else if a > b then 1 else 0
/-- Two texts, byte by byte. -/
def cmpL : List UInt8 → List UInt8 → Int
  | [], [] => 0
  | [], _ :: _ => -1
  | _ :: _, [] => 1
  | c :: s, d :: t => if c = d then cmpL s t else cmpI c.toNat d.toNat
theorem cmpI_ne {a b : Int} (h : a ≠ b) : cmpI a b ≠ 0 := by unfold cmpI; split <;> (try split) <;> omega
theorem cmpI_self (a : Int) : cmpI a a = 0 := by simp [cmpI]
theorem cmpL_self : ∀ s, cmpL s s = 0
  | [] => rfl
  | c :: s => by simp [cmpL, cmpL_self s]
theorem cmpL_app (p s t : List UInt8) : cmpL (p ++ s) (p ++ t) = cmpL s t := by
  induction p with
  | nil => rfl
  | cons c p ih => simp [cmpL, ih]

/-- The big end of a number first. -/
def be : Nat → Nat → List UInt8
  | 0, _ => []
  | k + 1, u => UInt8.ofNat (u / 256 ^ k % 256) :: be k (u % 256 ^ k)
theorem be_len : ∀ k u, (be k u).length = k
  | 0, _ => rfl
  | k + 1, u => by simp [be, be_len k]
theorem u8_nat (n : Nat) (h : n < 256) : (UInt8.ofNat n).toNat = n := by simp; omega
theorem be_cmp : ∀ (k u v : Nat) (s t : List UInt8), u < 256 ^ k → v < 256 ^ k → cmpL (be k u ++ s) (be k v ++ t) = if u = v then cmpL s t else cmpI u v
  | 0, u, v, s, t, hu, hv => by
    have : u = v := by simp at hu hv; omega
    simp [be, this]
  | k + 1, u, v, s, t, hu, hv => by
    have hp : 0 < 256 ^ k := Nat.pow_pos (by decide)
    have hu' : u / 256 ^ k < 256 := by rw [Nat.div_lt_iff_lt_mul hp]; rw [Nat.pow_succ] at hu; omega
    have hv' : v / 256 ^ k < 256 := by rw [Nat.div_lt_iff_lt_mul hp]; rw [Nat.pow_succ] at hv; omega
    have e1 : u / 256 ^ k % 256 = u / 256 ^ k := Nat.mod_eq_of_lt hu'
    have e2 : v / 256 ^ k % 256 = v / 256 ^ k := Nat.mod_eq_of_lt hv'
    have du := Nat.div_add_mod u (256 ^ k)
    have dv := Nat.div_add_mod v (256 ^ k)
    have mu := Nat.mod_lt u hp
    have mv := Nat.mod_lt v hp
    simp only [be, List.cons_append, cmpL, e1, e2]
    by_cases hq : u / 256 ^ k = v / 256 ^ k
    · rw [if_pos (by rw [hq]), be_cmp k _ _ s t mu mv]
      rw [hq] at du
      by_cases hm : u % 256 ^ k = v % 256 ^ k
      · rw [if_pos hm, if_pos (by omega)]
      · rw [if_neg hm, if_neg (by intro e; omega)]
        unfold cmpI
        split <;> split <;> (try split) <;> (try split) <;> omega
    · have hne : ¬ UInt8.ofNat (u / 256 ^ k) = UInt8.ofNat (v / 256 ^ k) := by
        intro e
        have := congrArg UInt8.toNat e
        rw [u8_nat _ hu', u8_nat _ hv'] at this
        exact hq this
      rw [if_neg hne, u8_nat _ hu', u8_nat _ hv', if_neg (by rintro rfl; exact hq rfl)]
      have hlt : u / 256 ^ k < v / 256 ^ k → u < v := fun h => by
        have : 256 ^ k * (u / 256 ^ k + 1) ≤ 256 ^ k * (v / 256 ^ k) := Nat.mul_le_mul_left _ h
        rw [Nat.mul_add, Nat.mul_one] at this
        omega
      have hgt : v / 256 ^ k < u / 256 ^ k → v < u := fun h => by
        have : 256 ^ k * (v / 256 ^ k + 1) ≤ 256 ^ k * (u / 256 ^ k) := Nat.mul_le_mul_left _ h
        rw [Nat.mul_add, Nat.mul_one] at this
        omega
      generalize u / 256 ^ k = x at *
      generalize v / 256 ^ k = y at *
      unfold cmpI
      rcases Nat.lt_or_gt_of_ne hq with h | h
      · have := hlt h
        rw [if_pos (by omega), if_pos (by omega)]
      · have := hgt h
        split <;> split <;> (try split) <;> (try split) <;> omega

theorem turned_eq (n : Int) (h0 : -9223372036854775808 ≤ n) (h1 : n ≤ 9223372036854775807) : turned n = n + 9223372036854775808 := by
  unfold turned
  have hw : IntKind.u64.wrap n = n % 18446744073709551616 := by simp [IntKind.wrap, IntKind.bits, IntKind.signed]
  obtain ⟨a, ha⟩ := Int.eq_ofNat_of_zero_le (show 0 ≤ IntKind.u64.wrap n by rw [hw]; omega)
  have ha' : a < 2 ^ 64 := by rw [hw] at ha; omega
  rw [ha]
  have hx : Go.bits .xor .u64 (a : Int) 9223372036854775808 = ((a ^^^ 2 ^ 63 : Nat) : Int) := by
    have e : (9223372036854775808 : Int) = ((2 ^ 63 : Nat) : Int) := by decide
    rw [e]
    simp only [Go.bits, BitVec.ofInt_natCast, BitVec.toNat_xor, BitVec.toNat_ofNat]
    have h64 : IntKind.u64.bits = 64 := rfl
    rw [h64, Nat.mod_eq_of_lt ha', Nat.mod_eq_of_lt (by decide : (2 ^ 63 : Nat) < 2 ^ 64)]
    have hlt : a ^^^ 2 ^ 63 < 2 ^ 64 := Nat.xor_lt_two_pow ha' (by decide)
    have hw2 : ∀ z : Nat, z < 2 ^ 64 → IntKind.u64.wrap (z : Int) = (z : Int) := fun z hz => by
      simp [IntKind.wrap, IntKind.bits, IntKind.signed]
      omega
    exact hw2 _ hlt
  rw [hx]
  have hd : (a ^^^ 2 ^ 63) / 2 ^ 63 = a / 2 ^ 63 ^^^ 1 := by rw [Nat.xor_div_two_pow]
  have hm : (a ^^^ 2 ^ 63) % 2 ^ 63 = a % 2 ^ 63 := by rw [Nat.xor_mod_two_pow]; simp
  have hq : a / 2 ^ 63 = 0 ∨ a / 2 ^ 63 = 1 := by omega
  rw [hw] at ha
  rcases hq with hq | hq
  · rw [hq] at hd
    have : (0 ^^^ 1 : Nat) = 1 := rfl
    rw [this] at hd
    omega
  · rw [hq] at hd
    have : (1 ^^^ 1 : Nat) = 0 := rfl
    rw [this] at hd
    omega

theorem numL_be (n : Int) (h0 : -9223372036854775808 ≤ n) (h1 : n ≤ 9223372036854775807) : numL n = be 8 (n + 9223372036854775808).toNat := by
  unfold numL
  rw [turned_eq n h0 h1]
  obtain ⟨u, hu⟩ := Int.eq_ofNat_of_zero_le (show 0 ≤ n + 9223372036854775808 by omega)
  rw [hu]
  simp only [numBytes, List.map_cons, List.map_nil, be, Int.toNat_natCast, Nat.reducePow]
  have hb : u < 18446744073709551616 := by omega
  clear hu h0 h1
  iterate 8
    refine List.cons_eq_cons.2 ⟨congrArg _ (by omega), ?_⟩
  rfl
theorem numL_cmp (m n : Int) (s t : List UInt8) (hm0 : -9223372036854775808 ≤ m) (hm1 : m ≤ 9223372036854775807) (hn0 : -9223372036854775808 ≤ n) (hn1 : n ≤ 9223372036854775807) :
    cmpL (numL m ++ s) (numL n ++ t) = if m = n then cmpL s t else cmpI m n := by
  rw [numL_be m hm0 hm1, numL_be n hn0 hn1, be_cmp 8 _ _ s t (by simp only [Nat.reducePow]; omega) (by simp only [Nat.reducePow]; omega)]
  by_cases h : m = n
  · rw [if_pos h, if_pos (by rw [h])]
  · rw [if_neg h, if_neg (by omega)]
    unfold cmpI
    split <;> split <;> (try split) <;> (try split) <;> omega
/-- Texts that are escaped and ended are in the texts' order. -/
theorem esc_cmp : ∀ (s t x y : List UInt8), cmpL (escL s ++ ([0, 1] ++ x)) (escL t ++ ([0, 1] ++ y)) = if cmpL s t = 0 then cmpL x y else cmpL s t
  | [], [], x, y => by simp [escL, cmpL]
  | [], d :: t, x, y => by
    by_cases hd : d = 0
    · simp [escL, cmpL, hd, cmpI]
    · have : 0 < d.toNat := by
        rcases Nat.eq_zero_or_pos d.toNat with h | h
        · exact absurd (UInt8.toNat_inj.1 (by simpa using h)) hd
        · exact h
      have hd' : ¬ (0 : UInt8) = d := fun e => hd e.symm
      simp [escL, cmpL, hd, hd', cmpI]
      omega
  | c :: s, [], x, y => by
    by_cases hc : c = 0
    · simp [escL, cmpL, hc, cmpI]
    · have : 0 < c.toNat := by
        rcases Nat.eq_zero_or_pos c.toNat with h | h
        · exact absurd (UInt8.toNat_inj.1 (by simpa using h)) hc
        · exact h
      simp [escL, cmpL, hc, cmpI]
      omega
  | c :: s, d :: t, x, y => by
    by_cases hcd : c = d
    · subst hcd
      have ih := esc_cmp s t x y
      by_cases hc : c = 0
      · simpa [escL, cmpL, hc] using ih
      · simpa [escL, cmpL, hc] using ih
    · have hne : (c.toNat : Int) ≠ (d.toNat : Int) := fun e => hcd (UInt8.toNat_inj.1 (by omega))
      have h0 := cmpI_ne hne
      have hdc : ¬ d = c := fun e => hcd e.symm
      by_cases hc : c = 0
      · subst hc
        have hd : ¬ d = 0 := hdc
        simp [escL, cmpL, hd, hcd]
        intro h
        exact absurd h (by simpa using h0)
      · by_cases hd : d = 0
        · subst hd
          simp [escL, cmpL, hc]
          intro h
          exact absurd h (by simpa using h0)
        · simp [escL, cmpL, hc, hd, hcd, h0]
end Go.Proofs.YtjcgbppicdccdaaDoor.Q
end

section
/- Plain law: what the references compute of texts and rows; a row's order is its key's. -/
namespace Go.Proofs.YtjcgbppicdccdaaDoor.Q
open Go.RowKit Go.Proofs.YtjcgbppicdccdaaDoorW.PrintWords Go.Proofs.YtjcgbppicdccdaaDoorW.PrintLast Go.Proofs.YtjcgbppicdccdaaDoorW.PrintMore
set_option linter.unusedVariables false

/-- A value whose number is one of Go's ints. -/
def wfS (v : S43) : Prop := -9223372036854775808 ≤ v.f1 ∧ v.f1 ≤ 9223372036854775807
def orderS (v w : S43) : Int := if v.f0 = w.f0 then (if v.f1 = w.f1 then cmpL v.f2.data.toList w.f2.data.toList else cmpI v.f1 w.f1) else cmpI v.f0 w.f0
def orderL : List S43 → List S43 → Int
  | [], [] => 0
  | [], _ :: _ => -1
  | _ :: _, [] => 1
  | v :: a, w :: b => if orderS v w = 0 then orderL a b else orderS v w

/-- What a right value is. -/
theorem right_cases {v : S43} (h : rightV v = true) :
    (v.f0 = 0 ∧ v.f1 = 0 ∧ v.f2.data.toList = []) ∨ (v.f0 = 1 ∧ v.f2.data.toList = []) ∨ (v.f0 = 2 ∧ (v.f1 = 0 ∨ v.f1 = 1) ∧ v.f2.data.toList = []) ∨ (v.f0 = 3 ∧ v.f1 = 0 ∧ v.f2.size ≤ 16) := by
  unfold rightV value_Right.f at h
  have ht : v.f2.toList = v.f2.data.toList := Lib.toList_data _
  rw [ht] at h
  by_cases h0 : v.f0 = 0
  · simp [h0] at h
    exact .inl ⟨h0, h.1, by simpa using h.2⟩
  · by_cases h1 : v.f0 = 1
    · simp [h1] at h
      exact .inr (.inl ⟨h1, by simpa using h⟩)
    · by_cases h2 : v.f0 = 2
      · by_cases hs : v.f2.data.toList = []
        · refine .inr (.inr (.inl ⟨h2, ?_, hs⟩))
          by_cases hz : v.f1 = 0
          · exact .inl hz
          · simp [h2, hs, hz] at h
            exact .inr h
        · rw [if_neg h0, if_neg h1, if_pos h2, if_neg hs] at h
          simp at h
      · by_cases h3 : v.f0 = 3
        · by_cases hz : v.f1 = 0
          · simp [h3, hz] at h
            exact .inr (.inr (.inr ⟨h3, hz, by omega⟩))
          · simp [h3, hz] at h
        · simp [h0, h1, h2, h3] at h

theorem one_cmp {v w : S43} (hv : rightV v = true) (hw : rightV w = true) (wv : wfS v) (ww : wfS w) (x y : List UInt8) :
    cmpL (oneL v ++ x) (oneL w ++ y) = if orderS v w = 0 then cmpL x y else orderS v w := by
  by_cases hk : v.f0 = w.f0
  · unfold orderS
    rw [if_pos hk]
    rcases right_cases hv with ⟨h0, h1, h2⟩ | ⟨h0, h2⟩ | ⟨h0, h1, h2⟩ | ⟨h0, h1, h2⟩
    · rcases right_cases hw with ⟨g0, g1, g2⟩ | ⟨g0, g2⟩ | ⟨g0, g1, g2⟩ | ⟨g0, g1, g2⟩
      · simp [oneL, h0, g0, h1, g1, h2, g2, cmpL]
      all_goals omega
    · rcases right_cases hw with ⟨g0, g1, g2⟩ | ⟨g0, g2⟩ | ⟨g0, g1, g2⟩ | ⟨g0, g1, g2⟩
      · omega
      · have hc := numL_cmp v.f1 w.f1 x y wv.1 wv.2 ww.1 ww.2
        simp only [oneL, h0, g0, if_true, List.cons_append, cmpL, hc, h2, g2]
        by_cases he : v.f1 = w.f1
        · simp [he]
        · rw [if_neg he, if_neg he, if_neg (cmpI_ne he)]
      all_goals omega
    · rcases right_cases hw with ⟨g0, g1, g2⟩ | ⟨g0, g2⟩ | ⟨g0, g1, g2⟩ | ⟨g0, g1, g2⟩
      · omega
      · omega
      · rcases h1 with h1 | h1 <;> rcases g1 with g1 | g1 <;> simp [oneL, h0, g0, h1, g1, h2, g2, cmpL, cmpI]
      · omega
    · rcases right_cases hw with ⟨g0, g1, g2⟩ | ⟨g0, g2⟩ | ⟨g0, g1, g2⟩ | ⟨g0, g1, g2⟩
      · omega
      · omega
      · omega
      · have hc := esc_cmp v.f2.data.toList w.f2.data.toList x y
        simp only [oneL, h0, g0, h1, g1, List.cons_append, cmpL]
        simp only [List.cons_append, List.nil_append] at hc
        simpa using hc
  · unfold orderS
    rw [if_neg hk, if_neg (cmpI_ne hk)]
    have hb : ∀ {z : S43}, rightV z = true → 0 ≤ z.f0 ∧ z.f0 ≤ 3 := by
      intro z hz
      rcases right_cases hz with ⟨h0, _⟩ | ⟨h0, _⟩ | ⟨h0, _⟩ | ⟨h0, _⟩ <;> omega
    have b1 := hb hv
    have b2 := hb hw
    have e1 : (UInt8.ofNat (v.f0 % 256).toNat).toNat = v.f0.toNat := by rw [u8_nat _ (by omega)]; omega
    have e2 : (UInt8.ofNat (w.f0 % 256).toNat).toNat = w.f0.toNat := by rw [u8_nat _ (by omega)]; omega
    have hne : ¬ UInt8.ofNat (v.f0 % 256).toNat = UInt8.ofNat (w.f0 % 256).toNat := by
      intro e
      have := congrArg UInt8.toNat e
      omega
    simp only [oneL, List.cons_append, cmpL]
    rw [if_neg hne, e1, e2, show ((v.f0.toNat : Nat) : Int) = v.f0 by omega, show ((w.f0.toNat : Nat) : Int) = w.f0 by omega]

theorem rows_cmp : ∀ (a b : List S43), a.all rightV = true → b.all rightV = true → (∀ v ∈ a, wfS v) → (∀ v ∈ b, wfS v) → cmpL (encL a) (encL b) = orderL a b
  | [], [], _, _, _, _ => rfl
  | [], w :: b, _, _, _, _ => by simp [encL, oneL, cmpL, orderL]
  | v :: a, [], _, _, _, _ => by simp [encL, oneL, cmpL, orderL]
  | v :: a, w :: b, ha, hb, wa, wb => by
    rw [List.all_cons, Bool.and_eq_true] at ha hb
    have ih := rows_cmp a b ha.2 hb.2 (fun z hz => wa z (List.mem_cons_of_mem _ hz)) (fun z hz => wb z (List.mem_cons_of_mem _ hz))
    have h1 := one_cmp ha.1 hb.1 (wa v (List.mem_cons_self ..)) (wb w (List.mem_cons_self ..)) (encL a) (encL b)
    simp only [encL, List.flatMap_cons] at h1 ih ⊢
    rw [h1, ih, orderL]
end Go.Proofs.YtjcgbppicdccdaaDoor.Q
end

section
/- Plain law: the rounds of the references' loops. -/
namespace Go.Proofs.YtjcgbppicdccdaaDoor.Q
open Go.RowKit Go.Proofs.YtjcgbppicdccdaaDoorW.PrintWords Go.Proofs.YtjcgbppicdccdaaDoorW.PrintLast Go.Proofs.YtjcgbppicdccdaaDoorW.PrintMore
set_option linter.unusedVariables false

theorem wrap_succ (i : Nat) (h : (i : Int) < 9223372036854775807) : wrap64 ((i : Int) + 1) = ((i + 1 : Nat) : Int) := by unfold wrap64; omega
theorem cmp_some (a b : Int) : interlockref04_cmp.f a b = some (cmpI a b) := by
  unfold interlockref04_cmp.f cmpI
  split
  · rfl
  · split <;> rfl
theorem bt_get (s : ByteArray) (i : Nat) (h : i < s.data.toList.length) : bt s (i : Int) = ((s.data.toList[i]).toNat : Int) := by
  have h' : i < s.size := by simpa using h
  unfold bt
  simp [h']
  rfl
theorem cmpL_end : ∀ (s t : List UInt8), (s = [] ∨ t = []) → cmpL s t = cmpI s.length t.length
  | [], [], _ => rfl
  | [], d :: t, _ => by simp only [cmpL, cmpI, List.length_cons, List.length_nil]; rw [if_pos (by omega)]
  | c :: s, [], _ => by simp only [cmpL, cmpI, List.length_cons, List.length_nil]; rw [if_neg (by omega), if_pos (by omega)]
  | c :: s, d :: t, h => by simp at h
theorem cmpI_add (a b c : Int) : cmpI (a - c) (b - c) = cmpI a b := by unfold cmpI; split <;> split <;> (try split) <;> (try split) <;> omega
theorem Ev.some_ {α : Type} {g : Nat → Option α} {r : α} (h : ∀ k, g k = some r) : Ev g r := ⟨0, fun k _ => h k⟩
theorem Ev.to {α : Type} {g : Nat → Option α} {r r' : α} (h : Ev g r) (e : r = r') : Ev g r' := e ▸ h
theorem size_list (s : ByteArray) : s.data.toList.length = s.size := by simp

theorem texts_ev (s t : ByteArray) (hs : s.size ≤ 140737488355328) : ∀ (d i : Nat), i + d = s.size → i ≤ t.size → Ev (fun k => interlockref04_Texts.l0 k s t i) (cmpL (s.data.toList.drop i) (t.data.toList.drop i)) := by
  have ls := size_list s
  have lt := size_list t
  intro d
  induction d with
  | zero =>
    intro i hi ht
    refine Ev.step (f := fun k => interlockref04_Texts.j1 k s t i false) (fun k => by simp only [interlockref04_Texts.l0]; rw [if_neg (by omega)]) ?_
    refine Ev.step (f := fun k => some (cmpI s.size t.size)) (fun k => by simp [interlockref04_Texts.j1, cmp_some]) (Ev.some_ fun _ => ?_)
    rw [cmpL_end _ _ (.inl (List.drop_eq_nil_iff.2 (by omega))), List.length_drop, List.length_drop, ls, lt]
    have := cmpI_add s.size t.size i
    rw [← this, show ((s.size - i : Nat) : Int) = (s.size : Int) - i by omega, show ((t.size - i : Nat) : Int) = (t.size : Int) - i by omega]
  | succ d ih =>
    intro i hi ht
    have hl : (i : Int) < (s.size : Int) := by omega
    by_cases h2 : i < t.size
    · refine Ev.step (f := fun k => interlockref04_Texts.j1 k s t i true) (fun k => by simp only [interlockref04_Texts.l0]; rw [if_pos hl, decide_eq_true (by omega)]) ?_
      have e1 := bt_get s i (by omega)
      have e2 := bt_get t i (by omega)
      rw [List.drop_eq_getElem_cons (by omega : i < s.data.toList.length), List.drop_eq_getElem_cons (by omega : i < t.data.toList.length), cmpL]
      by_cases hb : bt s i = bt t i
      · have hb' : s.data.toList[i] = t.data.toList[i] := UInt8.toNat_inj.1 (by rw [e1, e2] at hb; omega)
        rw [if_pos hb']
        refine Ev.step (fun k => ?_) (ih (i + 1) (by omega) (by omega))
        simp only [interlockref04_Texts.j1, if_true]
        rw [if_pos (by omega), if_pos hl, if_pos (by omega), if_pos hb, wrap_succ i (by omega)]
      · have hb' : ¬ s.data.toList[i] = t.data.toList[i] := fun e => hb (by rw [e1, e2, e])
        rw [if_neg hb']
        refine Ev.step (f := fun k => some (cmpI (s.data.toList[i]).toNat (t.data.toList[i]).toNat)) (fun k => ?_) (Ev.some_ fun _ => rfl)
        simp only [interlockref04_Texts.j1, if_true]
        rw [if_pos (by omega), if_pos hl, if_pos (by omega), if_neg hb, e1, e2]
        have w1 : ∀ c : UInt8, wrap64 (c.toNat : Int) = c.toNat := fun c => by
          have := c.toNat_lt
          unfold wrap64
          omega
        rw [w1, w1, cmp_some]
        rfl
    · refine Ev.step (f := fun k => interlockref04_Texts.j1 k s t i false) (fun k => by simp only [interlockref04_Texts.l0]; rw [if_pos hl, decide_eq_false (by omega)]) ?_
      refine Ev.step (f := fun k => some (cmpI s.size t.size)) (fun k => by simp [interlockref04_Texts.j1, cmp_some]) (Ev.some_ fun _ => ?_)
      rw [cmpL_end _ _ (.inr (List.drop_eq_nil_iff.2 (by omega))), List.length_drop, List.length_drop, ls, lt]
      have := cmpI_add s.size t.size i
      rw [← this, show ((s.size - i : Nat) : Int) = (s.size : Int) - i by omega, show ((t.size - i : Nat) : Int) = (t.size : Int) - i by omega]
theorem texts_f (s t : ByteArray) (hs : s.size ≤ 140737488355328) : Ev (fun k => interlockref04_Texts.f k s t) (cmpL s.data.toList t.data.toList) :=
  texts_ev s t hs s.size 0 (by omega) (by omega)

theorem order_ev (v w : S43) (hv : v.f2.size ≤ 140737488355328) : Ev (fun k => interlockref04_Order.f k v.f0 v.f1 v.f2 w.f0 w.f1 w.f2) (orderS v w) := by
  unfold interlockref04_Order.f orderS
  by_cases h0 : v.f0 = w.f0
  · by_cases h1 : v.f1 = w.f1
    · simp only [if_pos h0, if_pos h1]
      exact Ev.bind (texts_f _ _ hv) (Ev.some_ fun _ => rfl)
    · simp only [if_pos h0, if_neg h1, cmp_some]
      exact Ev.some_ fun _ => rfl
  · simp only [if_neg h0, cmp_some]
    exact Ev.some_ fun _ => rfl
theorem rd_get (l : List S43) (i : Nat) (h : i < l.length) : rd_T43 l (i : Int) = l[i] := by unfold rd_T43; simp [h]
theorem orderL_end : ∀ (s t : List S43), (s = [] ∨ t = []) → orderL s t = cmpI s.length t.length
  | [], [], _ => rfl
  | [], d :: t, _ => by simp only [orderL, cmpI, List.length_cons, List.length_nil]; rw [if_pos (by omega)]
  | c :: s, [], _ => by simp only [orderL, cmpI, List.length_cons, List.length_nil]; rw [if_neg (by omega), if_pos (by omega)]
  | c :: s, d :: t, h => by simp at h
theorem rows_ev (a b : List S43) (ha : ∀ v ∈ a, v.f2.size ≤ 140737488355328) (hl0 : a.length ≤ 140737488355328) : ∀ (d i : Nat), i + d = a.length → i ≤ b.length → Ev (fun k => interlockref04_OrderRows.l0 k a b i) (orderL (a.drop i) (b.drop i)) := by
  intro d
  induction d with
  | zero =>
    intro i hi ht
    refine Ev.step (f := fun k => interlockref04_OrderRows.j1 k a b i false) (fun k => by simp only [interlockref04_OrderRows.l0]; rw [if_neg (by omega)]) ?_
    refine Ev.step (f := fun k => some (cmpI a.length b.length)) (fun k => by simp [interlockref04_OrderRows.j1, cmp_some]) (Ev.some_ fun _ => ?_)
    rw [orderL_end _ _ (.inl (List.drop_eq_nil_iff.2 (by omega))), List.length_drop, List.length_drop]
    have := cmpI_add a.length b.length i
    rw [← this, show ((a.length - i : Nat) : Int) = (a.length : Int) - i by omega, show ((b.length - i : Nat) : Int) = (b.length : Int) - i by omega]
  | succ d ih =>
    intro i hi ht
    have hl : (i : Int) < (a.length : Int) := by omega
    by_cases h2 : i < b.length
    · refine Ev.step (f := fun k => interlockref04_OrderRows.j1 k a b i true) (fun k => by simp only [interlockref04_OrderRows.l0]; rw [if_pos hl, decide_eq_true (by omega)]) ?_
      have e1 := rd_get a i (by omega)
      have e2 := rd_get b i h2
      rw [List.drop_eq_getElem_cons (by omega : i < a.length), List.drop_eq_getElem_cons h2, orderL]
      have ho := order_ev a[i] b[i] (ha _ (List.getElem_mem _))
      refine Ev.step (f := fun k => (interlockref04_Order.f k (a[i]).f0 (a[i]).f1 (a[i]).f2 (b[i]).f0 (b[i]).f1 (b[i]).f2).bind fun t128 => (if t128 = 0 then (interlockref04_OrderRows.l0 k a b ((i + 1 : Nat) : Int)) else (some t128))) (fun k => ?_) (Ev.bind ho ?_)
      · simp only [interlockref04_OrderRows.j1, if_true]
        rw [if_pos (by omega), if_pos hl, if_pos (by omega), e1, e2, wrap_succ i (by omega)]
      · by_cases hz : orderS a[i] b[i] = 0
        · simp only [if_pos hz]
          exact ih (i + 1) (by omega) (by omega)
        · simp only [if_neg hz]
          exact Ev.some_ fun _ => rfl
    · refine Ev.step (f := fun k => interlockref04_OrderRows.j1 k a b i false) (fun k => by simp only [interlockref04_OrderRows.l0]; rw [if_pos hl, decide_eq_false (by omega)]) ?_
      refine Ev.step (f := fun k => some (cmpI a.length b.length)) (fun k => by simp [interlockref04_OrderRows.j1, cmp_some]) (Ev.some_ fun _ => ?_)
      rw [orderL_end _ _ (.inr (List.drop_eq_nil_iff.2 (by omega))), List.length_drop, List.length_drop]
      have := cmpI_add a.length b.length i
      rw [← this, show ((a.length - i : Nat) : Int) = (a.length : Int) - i by omega, show ((b.length - i : Nat) : Int) = (b.length : Int) - i by omega]
theorem rows_f (a b : List S43) (ha : ∀ v ∈ a, v.f2.size ≤ 140737488355328) (hl0 : a.length ≤ 140737488355328) : Ev (fun k => interlockref04_OrderRows.f k a b) (orderL a b) :=
  rows_ev a b ha hl0 a.length 0 (by omega) (by omega)

/-- Is a row long? -/
def longL (l : List S43) : Bool := decide (100 < l.length) || l.any fun v => decide (1000 < v.f2.size)
theorem long_ev (l : List S43) (h1 : l.length ≤ 100) : ∀ (d i : Nat), i + d = l.length → Ev (fun k => interlocklaw05_long.l0 k l i) ((l.drop i).any fun v => decide (1000 < v.f2.size)) := by
  intro d
  induction d with
  | zero =>
    intro i hi
    refine Ev.step (f := fun k => some false) (fun k => by simp only [interlocklaw05_long.l0]; rw [if_neg (by omega)]) (Ev.some_ fun _ => ?_)
    rw [List.drop_eq_nil_iff.2 (by omega)]
    rfl
  | succ d ih =>
    intro i hi
    rw [List.drop_eq_getElem_cons (by omega : i < l.length), List.any_cons]
    have e := rd_get l i (by omega)
    by_cases hb : 1000 < (l[i]).f2.size
    · refine Ev.step (f := fun k => some true) (fun k => by simp only [interlocklaw05_long.l0]; rw [if_pos (by omega), if_pos (by omega), e, if_pos (by omega)]) (Ev.some_ fun _ => by simp [hb])
    · refine Ev.step (fun k => ?_) (Ev.to (ih (i + 1) (by omega)) (by simp [hb]))
      simp only [interlocklaw05_long.l0]
      rw [if_pos (by omega), if_pos (by omega), e, if_neg (by omega), wrap_succ i (by omega)]
theorem long_f (l : List S43) : Ev (fun k => interlocklaw05_long.f k l) (longL l) := by
  unfold interlocklaw05_long.f longL
  by_cases h : 100 < l.length
  · simp only [if_pos (show (l.length : Int) > 100 by omega)]
    exact Ev.some_ fun _ => by simp [h]
  · simp only [if_neg (show ¬ (l.length : Int) > 100 by omega)]
    exact Ev.to (long_ev l (by omega) l.length 0 (by omega)) (by simp [h])
theorem alive_f : interlocklaw05_alive.f = some true := by
  unfold interlocklaw05_alive.f key_Encode.f
  decide +kernel
end Go.Proofs.YtjcgbppicdccdaaDoor.Q
end

section
/- Plain law: KeyOrder: one row is below the other just if its key is. -/
namespace Go.Proofs.YtjcgbppicdccdaaDoor.Q
open Go.RowKit Go.Proofs.YtjcgbppicdccdaaDoorW.PrintWords Go.Proofs.YtjcgbppicdccdaaDoorW.PrintLast Go.Proofs.YtjcgbppicdccdaaDoorW.PrintMore
set_option linter.unusedVariables false

/-- What comes in: numbers in their range. -/
def wfRow (l : List S43) : Prop := ∀ v ∈ l, wfS v
theorem not_long {l : List S43} (h : longL l = false) : l.length ≤ 100 ∧ ∀ v ∈ l, v.f2.size ≤ 1000 := by
  unfold longL at h
  rw [Bool.or_eq_false_iff] at h
  refine ⟨?_, fun v hv => ?_⟩
  · have := of_decide_eq_false h.1
    omega
  · have := List.any_eq_false.1 h.2 v hv
    simp at this
    omega

theorem KeyOrder_pure (a b : List S43) (ha : wfRow a) (hb : wfRow b) : ∃ k, interlocklaw05_KeyOrder.f k a b = some true := by
  apply Ev.rounds
  unfold interlocklaw05_KeyOrder.f
  simp only [alive_f, Option.bind_some, if_true]
  refine Ev.bind (long_f a) ?_
  have key : ∀ z, (z = false → longL a = false) → Ev (fun k => interlocklaw05_KeyOrder.j0 k a b z) true := by
    intro z hz
    cases z with
    | true => exact Ev.step (fun k => by simp only [interlocklaw05_KeyOrder.j0, if_true]) (Ev.some_ fun _ => rfl)
    | false =>
      by_cases h1 : rightRow a = true
      · by_cases h2 : rightRow b = true
        · have r1 : a.all rightV = true := by unfold rightRow at h1; rw [Bool.and_eq_true] at h1; exact h1.2
          have r2 : b.all rightV = true := by unfold rightRow at h2; rw [Bool.and_eq_true] at h2; exact h2.2
          have l1 : a.length ≤ 8 := by unfold rightRow at h1; rw [Bool.and_eq_true] at h1; exact of_decide_eq_true h1.1
          have hlen := encL_len a r1
          refine Ev.step (f := fun k => interlocklaw05_KeyOrder.j1 k a b ⟨(encL a).toArray⟩ ⟨(encL b).toArray⟩ false) (fun k => by simp [interlocklaw05_KeyOrder.j0, key_Encode.f, h1, h2]) ?_
          refine Ev.step (f := fun k => (interlockref04_OrderRows.f k a b).bind fun t137 => ((interlockref04_Texts.f k ⟨(encL a).toArray⟩ ⟨(encL b).toArray⟩).bind fun t138 => (some (t137 == t138)))) (fun k => by simp [interlocklaw05_KeyOrder.j1]) ?_
          have hnl := not_long (hz rfl)
          refine Ev.bind (rows_f a b (fun v hv => Nat.le_trans (hnl.2 v hv) (by decide)) (by omega)) ?_
          refine Ev.bind (texts_f _ _ (by simp [ByteArray.size]; omega)) (Ev.some_ fun _ => ?_)
          have := rows_cmp a b r1 r2 ha hb
          simp [this]
        · refine Ev.step (f := fun k => interlocklaw05_KeyOrder.j1 k a b ⟨(encL a).toArray⟩ ⟨#[]⟩ true) (fun k => by simp [interlocklaw05_KeyOrder.j0, key_Encode.f, h1, h2]) ?_
          exact Ev.step (fun k => by simp only [interlocklaw05_KeyOrder.j1, if_true]) (Ev.some_ fun _ => rfl)
      · refine Ev.step (f := fun k => interlocklaw05_KeyOrder.j1 k a b ⟨#[]⟩ (if rightRow b = true then (⟨(encL b).toArray⟩, true) else (⟨#[]⟩, false) : ByteArray × Bool).1 true) (fun k => by simp [interlocklaw05_KeyOrder.j0, key_Encode.f, h1]) ?_
        exact Ev.step (fun k => by simp only [interlocklaw05_KeyOrder.j1, if_true]) (Ev.some_ fun _ => rfl)
  cases hl : longL a with
  | true => exact key true (fun h => by cases h)
  | false =>
    simp only [Bool.false_eq_true, if_false]
    exact Ev.bind (long_f b) (key _ (fun _ => hl))
end Go.Proofs.YtjcgbppicdccdaaDoor.Q
end

section
/- Plain law: the laws' pure statements in the row's own form. -/
namespace Go.Proofs.YtjcgbppicdccdaaDoor.Q
open Go.RowKit
theorem wf_range {n : Int} (h : (Lit.int .i64 n).wf = true) : -9223372036854775808 ≤ n ∧ n ≤ 9223372036854775807 := by
  simp [Lit.wf, IntKind.min, IntKind.max, IntKind.bits, IntKind.signed] at h
  omega
theorem KeyOrder_in (a b : List S43) (ha : a.length ≤ maxLen ∧ ∀ v ∈ a, wf43 v) (hb : b.length ≤ maxLen ∧ ∀ v ∈ b, wf43 v) : ∃ k, interlocklaw05_KeyOrder.f k a b = some true :=
  KeyOrder_pure a b (fun v hv => wf_range (ha.2 v hv).2.1) (fun v hv => wf_range (hb.2 v hv).2.1)
end Go.Proofs.YtjcgbppicdccdaaDoor.Q
end

section
/- Plain laws: KeyJoins and KeyNext: the key of two rows together is their keys together; what is next is above all that begin so. -/
namespace Go.Proofs.YtjcgbppicdccdaaDoor.Q
open Go.RowKit Go.Proofs.YtjcgbppicdccdaaDoorW.PrintWords Go.Proofs.YtjcgbppicdccdaaDoorW.PrintLast Go.Proofs.YtjcgbppicdccdaaDoorW.PrintMore
set_option linter.unusedVariables false

theorem encL_app (a b : List S43) : encL (a ++ b) = encL a ++ encL b := by simp [encL]
theorem right_app (a b : List S43) : rightRow (a ++ b) = (decide (a.length + b.length ≤ 8) && (a.all rightV && b.all rightV)) := by simp [rightRow]
theorem copy_f (l : List S43) (h : l.length ≤ 100) : interlockref00_CopyRow.f l = some l := by
  unfold interlockref00_CopyRow.f
  simp
  omega
theorem rightRow_all {a : List S43} (h : rightRow a = true) : a.length ≤ 8 ∧ a.all rightV = true := by
  unfold rightRow at h
  rw [Bool.and_eq_true] at h
  exact ⟨of_decide_eq_true h.1, h.2⟩
theorem rightRow_of {a : List S43} (h1 : a.length ≤ 8) (h2 : a.all rightV = true) : rightRow a = true := by
  unfold rightRow
  rw [h2, decide_eq_true h1]
  rfl
/-- A law behind its two guards. -/
theorem guarded {a b : List S43} {f0 : Nat → Bool → Option Bool} (ht : Ev (fun k => f0 k true) true) (hf : longL a = false → longL b = false → Ev (fun k => f0 k false) true) :
    Ev (fun k => (interlocklaw05_alive.f).bind fun t => if t = true then ((interlocklaw05_long.f k a).bind fun t1 => if t1 = true then f0 k true else ((interlocklaw05_long.f k b).bind fun t2 => f0 k t2)) else some false) true := by
  simp only [alive_f, Option.bind_some, if_true]
  refine Ev.bind (long_f a) ?_
  cases hl : longL a with
  | true => exact ht
  | false =>
    simp only [Bool.false_eq_true, if_false]
    refine Ev.bind (long_f b) ?_
    cases hb : longL b with
    | true => exact ht
    | false => exact hf hl hb

theorem KeyJoins_in (a b : List S43) (ha : a.length ≤ maxLen ∧ ∀ v ∈ a, wf43 v) (hb : b.length ≤ maxLen ∧ ∀ v ∈ b, wf43 v) : ∃ k, interlocklaw05_KeyJoins.f k a b = some true := by
  apply Ev.rounds
  refine guarded (f0 := fun k z => interlocklaw05_KeyJoins.j0 k a b z) (Ev.step (fun k => by simp only [interlocklaw05_KeyJoins.j0, if_true]) (Ev.some_ fun _ => rfl)) (fun hla hlb => ?_)
  have la := (not_long hla).1
  have lb := (not_long hlb).1
  refine Ev.step (f := fun k => some true) (fun k => ?_) (Ev.some_ fun _ => rfl)
  simp only [interlocklaw05_KeyJoins.j0, key_Encode.f, Option.bind_some, copy_f a la, Bool.false_eq_true, if_false]
  rw [if_pos (by omega)]
  have hra := right_app a b
  by_cases h1 : rightRow a = true
  · by_cases h2 : rightRow b = true
    · have r1 := rightRow_all h1
      have r2 := rightRow_all h2
      have e1 := encL_len a r1.2
      have e2 := encL_len b r2.2
      by_cases h8 : a.length + b.length ≤ 8
      · have h3 : rightRow (a ++ b) = true := by rw [hra, r1.2, r2.2, decide_eq_true h8]; rfl
        simp only [h1, h2, h3, if_true]
        rw [if_pos (by simp [ByteArray.size]; omega), encL_app]
        simp [Lib.toList_data]
      · have h3 : rightRow (a ++ b) = false := by rw [hra, decide_eq_false h8]; rfl
        have hw : wrap64 ((a.length : Int) + (b.length : Int)) = (a.length : Int) + (b.length : Int) := by unfold wrap64; omega
        simp only [h1, h2, h3, if_true, Bool.false_eq_true, if_false, hw]
        rw [if_pos (by omega)]
    · have h3 : rightRow (a ++ b) = false := by
        rw [Bool.eq_false_iff]
        intro h
        rw [hra, Bool.and_eq_true, Bool.and_eq_true] at h
        have := of_decide_eq_true h.1
        exact h2 (rightRow_of (by omega) h.2.2)
      simp only [h1, h3, if_true, Bool.false_eq_true, if_false]
      simp [h2]
  · have h3 : rightRow (a ++ b) = false := by
      rw [Bool.eq_false_iff]
      intro h
      rw [hra, Bool.and_eq_true, Bool.and_eq_true] at h
      have := of_decide_eq_true h.1
      exact h1 (rightRow_of (by omega) h.2.1)
    simp only [h3, Bool.false_eq_true, if_false]
    simp [h1]

theorem cmp_begins (x z : List UInt8) : cmpL x (x ++ z) ≤ 0 := by
  have := cmpL_app x [] z
  rw [List.append_nil] at this
  rw [this]
  cases z with
  | nil => decide
  | cons c z => simp [cmpL]
theorem cmp_above (x : List UInt8) (b : List S43) (hb : b.all rightV = true) : cmpL (x ++ encL b) (x ++ [255]) < 0 := by
  rw [cmpL_app]
  cases b with
  | nil => simp [encL, cmpL]
  | cons v b =>
    rw [List.all_cons, Bool.and_eq_true] at hb
    have hk : 0 ≤ v.f0 ∧ v.f0 ≤ 3 := by rcases right_cases hb.1 with ⟨h0, _⟩ | ⟨h0, _⟩ | ⟨h0, _⟩ | ⟨h0, _⟩ <;> omega
    have e1 : (UInt8.ofNat (v.f0 % 256).toNat).toNat = v.f0.toNat := by rw [u8_nat _ (by omega)]; omega
    have hne : ¬ UInt8.ofNat (v.f0 % 256).toNat = 255 := by
      intro e
      have h2 := congrArg UInt8.toNat e
      have h3 : (255 : UInt8).toNat = 255 := rfl
      omega
    simp only [encL, List.flatMap_cons, oneL, List.cons_append, cmpL]
    rw [if_neg hne, e1]
    have h3 : (255 : UInt8).toNat = 255 := rfl
    unfold cmpI
    rw [h3, if_pos (by omega)]
    decide

theorem KeyNext_in (a b : List S43) (ha : a.length ≤ maxLen ∧ ∀ v ∈ a, wf43 v) (hb : b.length ≤ maxLen ∧ ∀ v ∈ b, wf43 v) : ∃ k, interlocklaw05_KeyNext.f k a b = some true := by
  apply Ev.rounds
  refine guarded (f0 := fun k z => interlocklaw05_KeyNext.j0 k a b z) (Ev.step (fun k => by simp only [interlocklaw05_KeyNext.j0, if_true]) (Ev.some_ fun _ => rfl)) (fun hla hlb => ?_)
  have la := (not_long hla).1
  have lb := (not_long hlb).1
  have hra := right_app a b
  have hj : Ev (fun k => interlocklaw05_KeyNext.j1 k (if rightRow a = true then (⟨(encL a).toArray⟩, true) else (⟨#[]⟩, false) : ByteArray × Bool).1 (if rightRow (a ++ b) = true then (⟨(encL (a ++ b)).toArray⟩, true) else (⟨#[]⟩, false) : ByteArray × Bool).1 true) true :=
    Ev.step (fun k => by simp only [interlocklaw05_KeyNext.j1, if_true]) (Ev.some_ fun _ => rfl)
  by_cases h1 : rightRow a = true
  · by_cases h2 : rightRow (a ++ b) = true
    · have r1 := rightRow_all h1
      have r2 : b.all rightV = true := by rw [hra, Bool.and_eq_true, Bool.and_eq_true] at h2; exact h2.2.2
      have e1 := encL_len a r1.2
      have e2 := encL_len b r2
      refine Ev.step (f := fun k => interlocklaw05_KeyNext.j1 k ⟨(encL a).toArray⟩ ⟨(encL (a ++ b)).toArray⟩ false) (fun k => ?_) ?_
      · simp only [interlocklaw05_KeyNext.j0, key_Encode.f, Option.bind_some, copy_f a la, Bool.false_eq_true, if_false]
        rw [if_pos (by omega)]
        simp only [h1, h2, if_true, Bool.not_true]
      · have hn : key_Next.f ⟨(encL a).toArray⟩ = some ⟨(encL a ++ [255]).toArray⟩ := by
          unfold key_Next.f
          rw [if_pos (by simp [ByteArray.size]; omega)]
          congr 1
        refine Ev.step (f := fun k => (interlockref04_Texts.f k ⟨(encL a).toArray⟩ ⟨(encL (a ++ b)).toArray⟩).bind fun t159 => (if t159 ≤ 0 then ((interlockref04_Texts.f k ⟨(encL (a ++ b)).toArray⟩ ⟨(encL a ++ [255]).toArray⟩).bind fun t160 => (some (decide (t160 < 0)))) else (some false))) (fun k => by simp only [interlocklaw05_KeyNext.j1, Bool.false_eq_true, if_false, hn, Option.bind_some]) ?_
        refine Ev.bind (texts_f _ _ (by simp [ByteArray.size]; omega)) ?_
        simp only [encL_app]
        simp only [if_pos (cmp_begins (encL a) (encL b))]
        refine Ev.bind (texts_f _ _ (by simp [ByteArray.size]; omega)) (Ev.some_ fun _ => ?_)
        rw [decide_eq_true (cmp_above _ b r2)]
    · refine Ev.step (fun k => ?_) hj
      simp only [interlocklaw05_KeyNext.j0, key_Encode.f, Option.bind_some, copy_f a la, Bool.false_eq_true, if_false]
      rw [if_pos (by omega)]
      simp [h1, h2]
  · refine Ev.step (fun k => ?_) hj
    simp only [interlocklaw05_KeyNext.j0, key_Encode.f, Option.bind_some, copy_f a la, Bool.false_eq_true, if_false]
    rw [if_pos (by omega)]
    simp [h1]
end Go.Proofs.YtjcgbppicdccdaaDoor.Q
end

section
/- Plain law: a key is decoded to its row; what is decoded is encoded to the same bytes. -/
namespace Go.Proofs.YtjcgbppicdccdaaDoor.Q
open Go.RowKit Go.Proofs.YtjcgbppicdccdaaDoorW.PrintWords Go.Proofs.YtjcgbppicdccdaaDoorW.PrintLast Go.Proofs.YtjcgbppicdccdaaDoorW.PrintMore
set_option linter.unusedVariables false

/-! ### numbers -/
def foldN : List UInt8 → Nat → Nat
  | [], u => u
  | c :: l, u => foldN l (u * 256 + c.toNat)
theorem wrap_u64 (z : Nat) (h : z < 18446744073709551616) : IntKind.u64.wrap (z : Int) = (z : Int) := by
  simp [IntKind.wrap, IntKind.bits, IntKind.signed]
  omega
theorem foldB_N : ∀ (l : List UInt8) (u : Nat), (u + 1) * 256 ^ l.length ≤ 18446744073709551616 → foldB l (u : Int) = (foldN l u : Int)
  | [], u, _ => rfl
  | c :: l, u, h => by
    have hc := c.toNat_lt
    have hp : 0 < 256 ^ l.length := Nat.pow_pos (by decide)
    have h2 : (u + 1) * 256 * 256 ^ l.length ≤ 18446744073709551616 := by
      rw [List.length_cons, Nat.pow_succ] at h
      rw [Nat.mul_assoc, Nat.mul_comm 256]
      exact h
    have h3 : (u + 1) * 256 ≤ 18446744073709551616 := Nat.le_trans (Nat.le_mul_of_pos_right _ hp) h2
    have e1 : IntKind.u64.wrap ((u : Int) * 256) = ((u * 256 : Nat) : Int) := by
      have := wrap_u64 (u * 256) (by omega)
      rw [← this]
      rfl
    have e2 : IntKind.u64.wrap (c.toNat : Int) = (c.toNat : Int) := wrap_u64 _ (by omega)
    have e3 : Go.bits .or .u64 ((u * 256 : Nat) : Int) (c.toNat : Int) = ((u * 256 + c.toNat : Nat) : Int) := by
      have := bits_join .u64 64 (by decide) (fun n h0 h1 => by
        obtain ⟨m, rfl⟩ := Int.eq_ofNat_of_zero_le h0
        exact wrap_u64 m (by omega)) 8 ((u * 256 : Nat) : Int) (c.toNat : Int) (by omega) (by omega) (by omega) (by omega) (by omega) (by omega)
      rw [this]
      omega
    rw [foldB, e1, e2, e3, foldN]
    refine foldB_N l (u * 256 + c.toNat) ?_
    refine Nat.le_trans (Nat.mul_le_mul_right _ ?_) h2
    omega
theorem foldN_lt : ∀ (l : List UInt8) (u : Nat), foldN l u < (u + 1) * 256 ^ l.length
  | [], u => by simp [foldN]
  | c :: l, u => by
    have hc := c.toNat_lt
    have ih := foldN_lt l (u * 256 + c.toNat)
    rw [foldN, List.length_cons, Nat.pow_succ, Nat.mul_comm (256 ^ l.length), ← Nat.mul_assoc]
    refine Nat.lt_of_lt_of_le ih (Nat.mul_le_mul_right _ ?_)
    omega
theorem foldN_split : ∀ (l : List UInt8) (u : Nat), foldN l u = u * 256 ^ l.length + foldN l 0
  | [], u => by simp [foldN]
  | c :: l, u => by
    rw [foldN, foldN, foldN_split l (u * 256 + c.toNat), foldN_split l (0 * 256 + c.toNat), List.length_cons, Nat.pow_succ]
    rw [Nat.add_mul, Nat.zero_mul, Nat.zero_add, Nat.mul_assoc u, Nat.mul_comm 256, Nat.add_assoc]
theorem be_foldN : ∀ (l : List UInt8), be l.length (foldN l 0) = l
  | [] => rfl
  | c :: l => by
    have hp : 0 < 256 ^ l.length := Nat.pow_pos (by decide)
    have hc := c.toNat_lt
    have e := foldN_split l (0 * 256 + c.toNat)
    have hl := foldN_lt l 0
    rw [Nat.zero_add, Nat.one_mul] at hl
    rw [foldN, e, List.length_cons, be, Nat.zero_mul, Nat.zero_add]
    have d1 : (c.toNat * 256 ^ l.length + foldN l 0) / 256 ^ l.length = c.toNat := by
      rw [Nat.mul_comm, Nat.mul_add_div hp, Nat.div_eq_of_lt hl, Nat.add_zero]
    have d2 : (c.toNat * 256 ^ l.length + foldN l 0) % 256 ^ l.length = foldN l 0 := by
      rw [Nat.mul_comm, Nat.mul_add_mod, Nat.mod_eq_of_lt hl]
    rw [d1, d2, be_foldN l]
    congr 1
    apply UInt8.toNat_inj.1
    rw [u8_nat _ (Nat.mod_lt _ (by decide)), Nat.mod_eq_of_lt hc]
theorem foldN_be : ∀ (k u : Nat), u < 256 ^ k → foldN (be k u) 0 = u
  | 0, u, h => by simp at h; simp [be, foldN, h]
  | k + 1, u, h => by
    have hp : 0 < 256 ^ k := Nat.pow_pos (by decide)
    have hu' : u / 256 ^ k < 256 := by rw [Nat.div_lt_iff_lt_mul hp]; rw [Nat.pow_succ] at h; omega
    rw [be, foldN, foldN_split, foldN_be k _ (Nat.mod_lt _ hp), be_len, u8_nat _ (Nat.mod_lt _ (by decide)), Nat.mod_eq_of_lt hu', Nat.zero_mul, Nat.zero_add, Nat.mul_comm]
    exact Nat.div_add_mod u (256 ^ k)
theorem xor_turn (u : Nat) (h : u < 18446744073709551616) : wrap64 (Go.bits .xor .u64 (u : Int) 9223372036854775808) = (u : Int) - 9223372036854775808 := by
  have hx : Go.bits .xor .u64 (u : Int) 9223372036854775808 = ((u ^^^ 2 ^ 63 : Nat) : Int) := by
    have e : (9223372036854775808 : Int) = ((2 ^ 63 : Nat) : Int) := by decide
    rw [e]
    simp only [Go.bits, BitVec.ofInt_natCast, BitVec.toNat_xor, BitVec.toNat_ofNat]
    have h64 : IntKind.u64.bits = 64 := rfl
    have ha' : u < 2 ^ 64 := by omega
    rw [h64, Nat.mod_eq_of_lt ha', Nat.mod_eq_of_lt (by decide : (2 ^ 63 : Nat) < 2 ^ 64)]
    have hlt : u ^^^ 2 ^ 63 < 2 ^ 64 := Nat.xor_lt_two_pow ha' (by decide)
    exact wrap_u64 _ (by omega)
  rw [hx]
  have hd : (u ^^^ 2 ^ 63) / 2 ^ 63 = u / 2 ^ 63 ^^^ 1 := by rw [Nat.xor_div_two_pow]
  have hm : (u ^^^ 2 ^ 63) % 2 ^ 63 = u % 2 ^ 63 := by rw [Nat.xor_mod_two_pow]; simp
  have hq : u / 2 ^ 63 = 0 ∨ u / 2 ^ 63 = 1 := by omega
  unfold wrap64
  rcases hq with hq | hq
  · rw [hq] at hd
    have : (0 ^^^ 1 : Nat) = 1 := rfl
    rw [this] at hd
    omega
  · rw [hq] at hd
    have : (1 ^^^ 1 : Nat) = 0 := rfl
    rw [this] at hd
    omega
theorem numOf_eq (l : List UInt8) (h : l.length = 8) : numOf (bA l) = (foldN l 0 : Int) - 9223372036854775808 ∧ foldN l 0 < 18446744073709551616 := by
  have hl := foldN_lt l 0
  rw [h] at hl
  have hl' : foldN l 0 < 18446744073709551616 := by simpa using hl
  refine ⟨?_, hl'⟩
  unfold numOf
  rw [list_bA]
  have := foldB_N l 0 (by rw [h]; decide)
  rw [show ((0 : Nat) : Int) = 0 from rfl] at this
  rw [this, xor_turn _ hl']
theorem numL_numOf (l : List UInt8) (h : l.length = 8) : numL (numOf (bA l)) = l := by
  obtain ⟨e, hl⟩ := numOf_eq l h
  rw [e, numL_be _ (by omega) (by omega), show ((foldN l 0 : Int) - 9223372036854775808 + 9223372036854775808).toNat = foldN l 0 by omega]
  have := be_foldN l
  rw [h] at this
  exact this
theorem numOf_numL (n : Int) (h0 : -9223372036854775808 ≤ n) (h1 : n ≤ 9223372036854775807) : numOf (bA (numL n)) = n := by
  have hb := numL_be n h0 h1
  have hl : (numL n).length = 8 := by rw [hb, be_len]
  obtain ⟨e, _⟩ := numOf_eq (numL n) hl
  rw [e, hb, foldN_be 8 _ (by simp only [Nat.reducePow]; omega)]
  omega
theorem numL_len (n : Int) : (numL n).length = 8 := by simp [numL, numBytes]
end Go.Proofs.YtjcgbppicdccdaaDoor.Q
end

section
/- Plain law: texts and values of a key, taken apart and put together. -/
namespace Go.Proofs.YtjcgbppicdccdaaDoor.Q
open Go.RowKit Go.Proofs.YtjcgbppicdccdaaDoorW.PrintWords Go.Proofs.YtjcgbppicdccdaaDoorW.PrintLast Go.Proofs.YtjcgbppicdccdaaDoorW.PrintMore
set_option linter.unusedVariables false

theorem escL_app : ∀ (a b : List UInt8), escL (a ++ b) = escL a ++ escL b
  | [], b => rfl
  | c :: a, b => by
    rw [List.cons_append, escL, escL, escL_app a b]
    split <;> simp
theorem index_app : ∀ (p x : List UInt8), p.count 0 = 0 → Lib.indexByte (p ++ 0 :: x) 0 = (p.length : Int)
  | [], x, _ => by simp [Lib.indexByte]
  | c :: p, x, h => by
    rw [List.count_cons] at h
    have hc : ¬ c = 0 := by intro e; subst e; simp at h
    have ih := index_app p x (by omega)
    rw [List.cons_append, Lib.indexByte, ih, if_neg (by simp [hc]), if_neg (by simp <;> omega), List.length_cons]
    omega
theorem index_split : ∀ (l : List UInt8) (k : Nat), Lib.indexByte l 0 = (k : Int) → (l.take k).count 0 = 0 ∧ k < l.length ∧ ∃ x, l.drop k = 0 :: x
  | [], k, h => by simp [Lib.indexByte] at h <;> omega
  | c :: l, k, h => by
    unfold Lib.indexByte at h
    by_cases hc : c = 0
    · rw [if_pos (by simp [hc])] at h
      obtain rfl : k = 0 := by omega
      exact ⟨rfl, by simp, l, by simp [hc]⟩
    · rw [if_neg (by simp [hc])] at h
      by_cases hm : Lib.indexByte l 0 = -1
      · rw [if_pos (by simp [hm])] at h; omega
      · rw [if_neg (by simp [hm])] at h
        have hge := Lib.indexByte_ge l 0
        obtain ⟨j, rfl⟩ : ∃ j, k = j + 1 := ⟨k - 1, by omega⟩
        obtain ⟨h1, h2, x, h3⟩ := index_split l j (by omega)
        refine ⟨?_, by simp; omega, x, by simpa using h3⟩
        rw [List.take_succ_cons, List.count_cons, h1]
        simp [hc]
/-- A text that was put together is taken apart. -/
theorem textGo_esc : ∀ (n : Nat) (u r acc : List UInt8), u.count 0 < n → textGo n (escL u ++ ([0, 1] ++ r)) acc = (acc ++ u, r, false)
  | 0, u, r, acc, h => by omega
  | n + 1, u, r, acc, h => by
    by_cases hz : u.count 0 = 0
    · have he := escL_none u hz
      have hi := index_app u (1 :: r) hz
      rw [he]
      have e : u ++ ([0, 1] ++ r) = u ++ 0 :: (1 :: r) := by simp
      rw [e, textGo, hi, if_neg (by omega), Int.toNat_natCast]
      have hd : (u ++ 0 :: 1 :: r).drop u.length = 0 :: 1 :: r := by simp
      have ht : (u ++ 0 :: 1 :: r).take u.length = u := by simp
      rw [hd, ht, if_neg (by simp), if_pos (by simp)]
      simp
    · obtain ⟨j, hj, hlt, he, hcn⟩ := escL_at u hz
      obtain ⟨h0, _, x, hx⟩ := index_split u j hj
      have htl : (u.take j).length = j := by rw [List.length_take]; omega
      have e : escL u ++ ([0, 1] ++ r) = u.take j ++ 0 :: (255 :: (escL (u.drop (j + 1)) ++ ([0, 1] ++ r))) := by rw [he]; simp
      have hi := index_app (u.take j) (255 :: (escL (u.drop (j + 1)) ++ ([0, 1] ++ r))) h0
      rw [e, textGo, hi, if_neg (by omega), Int.toNat_natCast]
      have hd : (u.take j ++ 0 :: 255 :: (escL (u.drop (j + 1)) ++ ([0, 1] ++ r))).drop (u.take j).length = 0 :: 255 :: (escL (u.drop (j + 1)) ++ ([0, 1] ++ r)) := by simp
      have ht : (u.take j ++ 0 :: 255 :: (escL (u.drop (j + 1)) ++ ([0, 1] ++ r))).take (u.take j).length = u.take j := by simp
      rw [hd, ht, if_neg (by simp), if_neg (by simp), if_pos (by simp)]
      have ih := textGo_esc n (u.drop (j + 1)) r (acc ++ u.take j ++ [0]) (by omega)
      rw [show (0 :: 255 :: (escL (u.drop (j + 1)) ++ ([0, 1] ++ r))).drop 2 = escL (u.drop (j + 1)) ++ ([0, 1] ++ r) by simp, ih]
      have hu : u = u.take j ++ 0 :: u.drop (j + 1) := by
        have h1 := (List.take_append_drop j u).symm
        have h2 : u.drop (j + 1) = x := by
          have := congrArg (List.drop 1) hx
          rw [List.drop_drop] at this
          simpa using this
        rw [h2, ← hx]
        exact h1
      have : acc ++ u.take j ++ [0] ++ u.drop (j + 1) = acc ++ u := by
        conv => rhs; rw [hu]
        simp
      rw [this]
theorem textOf_esc (u r : List UInt8) : textOf (escL u ++ ([0, 1] ++ r)) = (u, r, false) := by
  have h : u.count 0 < (escL u ++ ([0, 1] ++ r)).length + 1 := by
    rw [List.length_append, escL_len]
    have : u.count 0 ≤ u.length := List.count_le_length
    omega
  have := textGo_esc _ u r [] h
  unfold textOf
  rw [this]
  simp
/-- What was taken apart is a text that was put together. -/
theorem textGo_back : ∀ (n : Nat) (rest acc t r : List UInt8), textGo n rest acc = (t, r, false) → ∃ u, t = acc ++ u ∧ rest = escL u ++ ([0, 1] ++ r)
  | 0, rest, acc, t, r, h => by simp [textGo] at h
  | n + 1, rest, acc, t, r, h => by
    rw [textGo] at h
    by_cases hneg : Lib.indexByte rest 0 < 0
    · rw [if_pos hneg] at h; simp at h
    · rw [if_neg hneg] at h
      obtain ⟨k, hk⟩ := Int.eq_ofNat_of_zero_le (show 0 ≤ Lib.indexByte rest 0 by omega)
      rw [hk, Int.toNat_natCast] at h
      obtain ⟨h0, hlt, x, hx⟩ := index_split rest k hk
      have hsplit := (List.take_append_drop k rest).symm
      by_cases h2 : (rest.drop k).length < 2
      · rw [if_pos h2] at h; simp at h
      · rw [if_neg h2] at h
        have hd2 := (List.take_append_drop 2 (rest.drop k)).symm
        by_cases e1 : (rest.drop k).take 2 = [0, 1]
        · rw [if_pos e1] at h
          simp only [Prod.mk.injEq, and_true] at h
          obtain ⟨rfl, rfl⟩ := h
          refine ⟨rest.take k, rfl, ?_⟩
          rw [escL_none _ h0, ← e1, ← hd2]
          exact hsplit
        · rw [if_neg e1] at h
          by_cases e2 : (rest.drop k).take 2 = [0, 255]
          · rw [if_pos e2] at h
            obtain ⟨u, hu1, hu2⟩ := textGo_back n _ _ t r h
            refine ⟨rest.take k ++ [0] ++ u, by rw [hu1]; simp, ?_⟩
            rw [escL_app, escL_app, escL_none _ h0, show escL [0] = [0, 255] from rfl, ← e2, List.append_assoc, List.append_assoc, ← hu2, ← hd2]
            exact hsplit
          · rw [if_neg e2] at h; simp at h
theorem textOf_back {rest t r : List UInt8} (h : textOf rest = (t, r, false)) : rest = escL t ++ ([0, 1] ++ r) := by
  obtain ⟨u, hu, he⟩ := textGo_back _ _ _ _ _ h
  simp at hu
  rw [hu]
  exact he

theorem of_byte (c : UInt8) : UInt8.ofNat ((c.toNat : Int) % 256).toNat = c := by
  have := c.toNat_lt
  apply UInt8.toNat_inj.1
  rw [u8_nat _ (by omega)]
  omega
theorem list_eq_bA {s : ByteArray} (h : s.data.toList = []) : s = ⟨#[]⟩ := by
  apply ByteArray.ext
  simpa using h
/-- A right value's bytes are taken apart to it. -/
theorem valueL_one {v : S43} (hv : rightV v = true) (wv : wfS v) (r : List UInt8) : valueL (oneL v ++ r) = (v, r, false) := by
  obtain ⟨k, m, s⟩ := v
  rcases right_cases hv with ⟨h0, h1, h2⟩ | ⟨h0, h2⟩ | ⟨h0, h1, h2⟩ | ⟨h0, h1, h2⟩
  · simp only at h0 h1 h2
    subst h0; subst h1
    obtain rfl := list_eq_bA h2
    exact vb0 (by decide) (by decide) (by decide)
  · simp only at h0 h2
    subst h0
    obtain rfl := list_eq_bA h2
    have hl := numL_len m
    show valueL ((1 : UInt8) :: (numL m ++ r)) = _
    show valueB ((1 : UInt8).toNat : Int) (numL m ++ r) = _
    have hn := numOf_numL m wv.1 wv.2
    rw [vb1 (by decide) (by rw [List.length_append, hl]; omega), List.take_append_of_le_length (by omega), List.take_of_length_le (by omega), hn, List.drop_append_of_le_length (by omega), List.drop_eq_nil_iff.2 (by omega)]
    rfl
  · simp only at h0 h1 h2
    subst h0
    obtain rfl := list_eq_bA h2
    rcases h1 with rfl | rfl
    · exact vb2 (by decide)
    · exact vb2 (by decide)
  · simp only at h0 h1 h2
    subst h0; subst h1
    have e : oneL ⟨3, 0, s⟩ ++ r = (3 : UInt8) :: (escL s.data.toList ++ ([0, 1] ++ r)) := by
      show (3 : UInt8) :: ((escL s.data.toList ++ [0, 1]) ++ r) = _
      simp
    rw [e]
    show valueB ((3 : UInt8).toNat : Int) (escL s.data.toList ++ ([0, 1] ++ r)) = _
    rw [vb3 (by decide), textOf_esc, bA_list]
    rfl
/-- What a right value was taken out of is its bytes, and what is left. -/
theorem valueL_back {c : UInt8} {r r' : List UInt8} {v : S43} (h : valueL (c :: r) = (v, r', false)) (hv : rightV v = true) : c :: r = oneL v ++ r' := by
  have h' : valueB (c.toNat : Int) r = (v, r', false) := h
  have hb := of_byte c
  by_cases k1 : (c.toNat : Int) = 1
  · by_cases h8 : r.length < 8
    · rw [vb1s k1 h8] at h'; simp at h'
    · rw [vb1 k1 h8] at h'
      simp only [Prod.mk.injEq, and_true] at h'
      obtain ⟨rfl, rfl⟩ := h'
      have hn := numL_numOf (r.take 8) (by rw [List.length_take]; omega)
      unfold oneL
      simp only [if_pos k1]
      rw [hb, hn, List.cons_append, List.take_append_drop]
  · by_cases k2 : (c.toNat : Int) = 2
    · cases r with
      | nil => rw [vb2n k2] at h'; simp at h'
      | cons d r =>
        rw [vb2 k2] at h'
        simp only [Prod.mk.injEq, and_true] at h'
        obtain ⟨rfl, rfl⟩ := h'
        unfold oneL
        simp only [if_neg k1, if_pos k2]
        rw [hb, of_byte d]
        rfl
    · by_cases k3 : (c.toNat : Int) = 3
      · rw [vb3 k3] at h'
        simp only [Prod.mk.injEq] at h'
        obtain ⟨rfl, hr, hbad⟩ := h'
        have ht := textOf_back (rest := r) (t := (textOf r).1) (r := r') (by rw [← hr, ← hbad])
        unfold oneL
        simp only [if_neg k1, if_neg k2, if_pos k3]
        rw [hb, list_bA, List.cons_append, List.append_assoc, ← ht]
      · rw [vb0 k1 k2 k3] at h'
        simp only [Prod.mk.injEq, and_true] at h'
        obtain ⟨rfl, rfl⟩ := h'
        unfold oneL
        simp only [if_neg k1, if_neg k2, if_neg k3]
        rw [hb]
        rfl

theorem decGo_stop (n : Nat) (rest : List UInt8) (out : List S43) : decGo n rest true out = (out, true) := by
  cases n with
  | zero => rfl
  | succ n => rw [decGo, if_neg (by simp)]
theorem decGo_enc : ∀ (l : List S43) (n : Nat) (out : List S43), l.all rightV = true → (∀ v ∈ l, wfS v) → out.length + l.length ≤ 8 → l.length < n → decGo n (encL l) false out = (out ++ l, false)
  | [], n, out, _, _, _, hn => by
    obtain ⟨n, rfl⟩ : ∃ q, n = q + 1 := ⟨n - 1, by omega⟩
    rw [decGo, if_neg (by simp [encL])]
    simp
  | v :: l, n, out, h, hw, h8, hn => by
    obtain ⟨n, rfl⟩ : ∃ q, n = q + 1 := ⟨n - 1, by omega⟩
    rw [List.all_cons, Bool.and_eq_true] at h
    rw [List.length_cons] at h8 hn
    have hv := valueL_one h.1 (hw v (List.mem_cons_self ..)) (encL l)
    have e : encL (v :: l) = oneL v ++ encL l := by simp [encL]
    have hpos : 0 < (oneL v ++ encL l).length := by simp [oneL]
    rw [e, decGo, if_pos ⟨hpos, rfl, by omega⟩, hv]
    have ih := decGo_enc l n (out ++ [v]) h.2 (fun z hz => hw z (List.mem_cons_of_mem _ hz)) (by rw [List.length_append, List.length_singleton]; omega) (by omega)
    simp only [ih, List.append_assoc, List.singleton_append]
theorem decL_enc (l : List S43) (h : rightRow l = true) (hw : ∀ v ∈ l, wfS v) : decL (encL l) = (l, true) := by
  obtain ⟨h8, hr⟩ := rightRow_all h
  have := decGo_enc l 10 [] hr hw (by simpa using h8) (by omega)
  rw [List.nil_append] at this
  unfold decL
  rw [this]
  simp [h]
theorem decGo_back : ∀ (n : Nat) (rest : List UInt8) (out out' : List S43), decGo n rest false out = (out', false) → out'.all rightV = true → out'.length ≤ 8 → out.length + n = 10 → encL out' = encL out ++ rest
  | 0, rest, out, out', h, _, h8, hn => by
    simp [decGo] at h
    subst h
    omega
  | n + 1, rest, out, out', h, hr, h8, hn => by
    rw [decGo] at h
    by_cases hc : 0 < rest.length ∧ (false : Bool) = false ∧ out.length ≤ 8
    · rw [if_pos hc] at h
      cases rest with
      | nil => simp at hc
      | cons c r =>
        obtain ⟨V, hV⟩ : ∃ V, valueL (c :: r) = V := ⟨_, rfl⟩
        rw [hV] at h
        obtain ⟨v, r', bad⟩ := V
        simp only at h
        cases bad with
        | true => rw [decGo_stop] at h; simp at h
        | false =>
          have ih := decGo_back n r' (out ++ [v]) out' h hr h8 (by rw [List.length_append, List.length_singleton]; omega)
          have hin : ∀ (n : Nat) (rest : List UInt8) (bad : Bool) (out : List S43), ∃ x, (decGo n rest bad out).1 = out ++ x := by
            intro n
            induction n with
            | zero => intro rest bad out; exact ⟨[], by simp [decGo]⟩
            | succ n ih =>
              intro rest bad out
              rw [decGo]
              split
              · obtain ⟨x, hx⟩ := ih (valueL rest).2.1 (valueL rest).2.2 (out ++ [(valueL rest).1])
                exact ⟨[(valueL rest).1] ++ x, by rw [hx]; simp⟩
              · exact ⟨[], by simp⟩
          obtain ⟨x, hx⟩ := hin n r' false (out ++ [v])
          rw [h] at hx
          simp only at hx
          have hv : rightV v = true := List.all_eq_true.1 hr v (by rw [hx]; simp)
          have hb := valueL_back hV hv
          rw [ih, hb]
          simp [encL]
    · rw [if_neg hc] at h
      simp only [Prod.mk.injEq, and_true] at h
      subst h
      have : rest.length = 0 := by
        rcases Nat.eq_zero_or_pos rest.length with h0 | h0
        · exact h0
        · exact absurd ⟨h0, rfl, h8⟩ hc
      rw [List.eq_nil_of_length_eq_zero this]
      simp
theorem decL_back {s : List UInt8} {r : List S43} (h : decL s = (r, true)) : rightRow r = true ∧ encL r = s := by
  unfold decL at h
  split at h
  · simp at h
  · rename_i hb
    split at h
    · rename_i hr
      simp only [Prod.mk.injEq, and_true] at h
      refine ⟨by rw [← h]; exact hr, ?_⟩
      obtain ⟨h8, ha⟩ := rightRow_all hr
      have := decGo_back 10 s [] (decGo 10 s false []).1 (Prod.ext rfl (Bool.eq_false_iff.mpr hb)) ha h8 rfl
      rw [← h, this]
      rfl
    · simp at h
theorem decL_no {s : List UInt8} {r : List S43} (h : decL s = (r, false)) : r = [] := by
  unfold decL at h
  split at h
  · simpa using h.symm
  · split at h
    · simp at h
    · simpa using h.symm
end Go.Proofs.YtjcgbppicdccdaaDoor.Q
end

section
/- Plain laws: KeyOne and KeyBack: there is one key for a row; a right row's key is decoded to it, and without its end it is no key of that row. -/
namespace Go.Proofs.YtjcgbppicdccdaaDoor.Q
open Go.RowKit Go.Proofs.YtjcgbppicdccdaaDoorW.PrintWords Go.Proofs.YtjcgbppicdccdaaDoorW.PrintLast Go.Proofs.YtjcgbppicdccdaaDoorW.PrintMore
set_option linter.unusedVariables false

theorem enc_right {l : List S43} (h : rightRow l = true) : key_Encode.f l = some (bA (encL l), true) := by unfold key_Encode.f; rw [if_pos h]; rfl
theorem enc_wrong {l : List S43} (h : rightRow l = false) : key_Encode.f l = some (⟨#[]⟩, false) := by unfold key_Encode.f; rw [if_neg (by simp [h])]
theorem dec_some (s : ByteArray) (h : s.size ≤ 1000000) : key_Decode.f s = some (decL s.data.toList) := by unfold key_Decode.f; rw [if_pos h]

theorem KeyOne_in (s : ByteArray) (hs : s.size ≤ maxLen) : interlocklaw05_KeyOne.f s = some true := by
  unfold interlocklaw05_KeyOne.f
  simp only [alive_f, Option.bind_some, if_true]
  by_cases h : (s.size : Int) > 1000
  · rw [if_pos h]
  · rw [if_neg h, dec_some s (by omega)]
    simp only [Option.bind_some]
    obtain ⟨D, hD⟩ : ∃ D, decL s.data.toList = D := ⟨_, rfl⟩
    rw [hD]
    obtain ⟨r, ok⟩ := D
    cases ok with
    | true =>
      obtain ⟨hr, he⟩ := decL_back hD
      simp only [if_true, enc_right hr, Option.bind_some, he]
      simp [Lib.toList_data, list_bA]
    | false =>
      have := decL_no hD
      simp [this]

noncomputable instance : DecidableEq S43 := fun a b => Classical.propDecidable (a = b)

theorem same_ev (a b : List S43) (hl : a.length = b.length) (hb : a.length ≤ 140737488355328) : ∀ (d i : Nat), i + d = a.length → Ev (fun k => interlockref00_SameRow.l0 k a b i) (decide (a.drop i = b.drop i)) := by
  intro d
  induction d with
  | zero =>
    intro i hi
    refine Ev.step (f := fun k => some true) (fun k => by simp only [interlockref00_SameRow.l0]; rw [if_neg (by omega)]) (Ev.some_ fun _ => ?_)
    rw [List.drop_eq_nil_iff.2 (by omega), List.drop_eq_nil_iff.2 (by omega)]
    rfl
  | succ d ih =>
    intro i hi
    have e1 := rd_get a i (by omega)
    have e2 := rd_get b i (by omega)
    rw [List.drop_eq_getElem_cons (by omega : i < a.length), List.drop_eq_getElem_cons (by omega : i < b.length)]
    obtain ⟨x, hx⟩ : ∃ x, a[i] = x := ⟨_, rfl⟩
    obtain ⟨y, hy⟩ : ∃ y, b[i] = y := ⟨_, rfl⟩
    rw [hx, hy]
    rw [hx] at e1
    rw [hy] at e2
    have hxy : (!((x.f0 == y.f0)) || (!((x.f1 == y.f1)) || (!(x.f2.toList == y.f2.toList)))) = !decide (x = y) := by
      obtain ⟨x0, x1, x2⟩ := x
      obtain ⟨y0, y1, y2⟩ := y
      have hd : (x2.toList == y2.toList) = decide (x2 = y2) := by
        rw [Bool.eq_iff_iff]
        simp [Lib.toList_data, ByteArray.ext_iff, Array.ext_iff]
        try exact ⟨fun h => by rw [ByteArray.ext_iff]; exact Array.toList_inj.1 h, fun h => by rw [h]⟩
      rw [hd]
      by_cases h0 : x0 = y0 <;> by_cases h1 : x1 = y1 <;> by_cases h2 : x2 = y2 <;> simp [h0, h1, h2]
    by_cases hq : x = y
    · refine Ev.step (fun k => ?_) (Ev.to (ih (i + 1) (by omega)) (by simp [hq]))
      simp only [interlockref00_SameRow.l0]
      rw [if_pos (by omega), if_pos (by omega), if_pos (by omega), e1, e2, hxy, if_neg (by simp [hq]), wrap_succ i (by omega)]
    · refine Ev.step (f := fun k => some false) (fun k => ?_) (Ev.some_ fun _ => by simp [hq])
      simp only [interlockref00_SameRow.l0]
      rw [if_pos (by omega), if_pos (by omega), if_pos (by omega), e1, e2, hxy, if_pos (by simp [hq])]
theorem same_f (a b : List S43) (hb : a.length ≤ 140737488355328) : Ev (fun k => interlockref00_SameRow.f k a b) (decide (a = b)) := by
  unfold interlockref00_SameRow.f
  by_cases hl : a.length = b.length
  · simp only [if_pos (show (a.length : Int) = (b.length : Int) by omega)]
    exact same_ev a b hl hb a.length 0 (by omega)
  · simp only [if_neg (show ¬ (a.length : Int) = (b.length : Int) by omega)]
    refine Ev.some_ fun _ => ?_
    rw [decide_eq_false (fun e => hl (by rw [e]))]

theorem right_ref (v : S43) : interlockref04_Right.f v.f0 v.f1 v.f2 = some (rightV v) := by
  unfold rightV value_Right.f interlockref04_Right.f
  by_cases h0 : v.f0 = 0
  · by_cases h1 : v.f1 = 0 <;> simp [h0, h1]
  · by_cases h1 : v.f0 = 1
    · simp [h1]
    · by_cases h2 : v.f0 = 2
      · by_cases hs : v.f2.toList = []
        · by_cases ha : v.f1 = 0
          · simp [h2, hs, ha]
          · by_cases hb : v.f1 = 1 <;> simp [h2, hs, ha, hb]
        · by_cases ha : v.f1 = 0
          · simp [h2, hs, ha]
          · by_cases hb : v.f1 = 1 <;> simp [h2, hs, ha, hb]
      · by_cases h3 : v.f0 = 3
        · by_cases ha : v.f1 = 0 <;> simp [h3, ha]
        · simp [h0, h1, h2, h3]
theorem right_row_ev (l : List S43) (hb : l.length ≤ 8) : ∀ (d i : Nat), i + d = l.length → Ev (fun k => interlockref04_RightRow.l0 k l i) ((l.drop i).all rightV) := by
  intro d
  induction d with
  | zero =>
    intro i hi
    refine Ev.step (f := fun k => some true) (fun k => by simp only [interlockref04_RightRow.l0]; rw [if_neg (by omega)]) (Ev.some_ fun _ => ?_)
    rw [List.drop_eq_nil_iff.2 (by omega)]
    rfl
  | succ d ih =>
    intro i hi
    have e1 := rd_get l i (by omega)
    rw [List.drop_eq_getElem_cons (by omega : i < l.length), List.all_cons]
    by_cases hv : rightV l[i] = true
    · refine Ev.step (fun k => ?_) (Ev.to (ih (i + 1) (by omega)) (by simp [hv]))
      simp only [interlockref04_RightRow.l0]
      rw [if_pos (by omega), if_pos (by omega), e1, right_ref, hv]
      simp only [Option.bind_some, if_true]
      rw [wrap_succ i (by omega)]
    · refine Ev.step (f := fun k => some false) (fun k => ?_) (Ev.some_ fun _ => by simp [hv])
      simp only [interlockref04_RightRow.l0]
      rw [if_pos (by omega), if_pos (by omega), e1, right_ref, Bool.eq_false_iff.mpr hv]
      simp
theorem right_row_f (l : List S43) : Ev (fun k => interlockref04_RightRow.f k l) (rightRow l) := by
  unfold interlockref04_RightRow.f rightRow
  by_cases h : (l.length : Int) > 8
  · simp only [if_pos h]
    exact Ev.some_ fun _ => by simp; omega
  · simp only [if_neg h]
    exact Ev.to (right_row_ev l (by omega) l.length 0 (by omega)) (by simp; omega)

theorem KeyBack_in (l : List S43) (cut : Int) (hl : l.length ≤ maxLen ∧ ∀ v ∈ l, wf43 v) (hc : (Lit.int .i64 cut).wf = true) : ∃ k, interlocklaw05_KeyBack.f k l cut = some true := by
  have hw : ∀ v ∈ l, wfS v := fun v hv => wf_range (hl.2 v hv).2.1
  apply Ev.rounds
  unfold interlocklaw05_KeyBack.f
  simp only [alive_f, Option.bind_some, if_true]
  refine Ev.bind (long_f l) ?_
  cases hlg : longL l with
  | true => simp only [if_true]; exact Ev.some_ fun _ => rfl
  | false =>
    simp only [Bool.false_eq_true, if_false]
    by_cases hr : rightRow l = true
    · obtain ⟨h8, ha⟩ := rightRow_all hr
      have hlen := encL_len l ha
      simp only [enc_right hr, Option.bind_some, if_true]
      rw [dec_some _ (by rw [bA_size]; omega), list_bA, decL_enc l hr hw]
      simp only [Option.bind_some, if_true]
      refine Ev.bind (same_f l l (by omega)) ?_
      simp only [decide_true, Bool.not_true]
      by_cases h0 : cut < 0
      · refine Ev.step (f := fun k => interlocklaw05_KeyBack.j1 k l cut (bA (encL l)) true) (fun k => by simp only [interlocklaw05_KeyBack.j0, Bool.false_eq_true, if_false, if_pos h0]) ?_
        exact Ev.step (f := fun _ => some true) (fun k => by simp only [interlocklaw05_KeyBack.j1, if_true]) (Ev.some_ fun _ => rfl)
      · by_cases h1 : cut ≥ ((bA (encL l)).size : Int)
        · refine Ev.step (f := fun k => interlocklaw05_KeyBack.j1 k l cut (bA (encL l)) true) (fun k => by simp only [interlocklaw05_KeyBack.j0, Bool.false_eq_true, if_false, if_neg h0, decide_eq_true h1]) ?_
          exact Ev.step (f := fun _ => some true) (fun k => by simp only [interlocklaw05_KeyBack.j1, if_true]) (Ev.some_ fun _ => rfl)
        · refine Ev.step (f := fun k => interlocklaw05_KeyBack.j1 k l cut (bA (encL l)) false) (fun k => by simp only [interlocklaw05_KeyBack.j0, Bool.false_eq_true, if_false, if_neg h0, decide_eq_false h1]) ?_
          obtain ⟨n, rfl⟩ := Int.eq_ofNat_of_zero_le (show 0 ≤ cut by omega)
          have hn : n < (encL l).length := by rw [bA_size] at h1; omega
          obtain ⟨D, hD⟩ : ∃ D, decL ((encL l).take n) = D := ⟨_, rfl⟩
          have hdec : key_Decode.f ((bA (encL l)).extract 0 n) = some D := by
            rw [bA_take, dec_some _ (by rw [bA_size, List.length_take]; omega), list_bA, hD]
          obtain ⟨r, ok⟩ := D
          cases ok with
          | true =>
            obtain ⟨hr2, he2⟩ := decL_back hD
            have hne : ¬ r = l := by
              intro e
              rw [e] at he2
              have := congrArg List.length he2
              rw [List.length_take] at this
              omega
            obtain ⟨hr8, _⟩ := rightRow_all hr2
            refine Ev.step (f := fun k => (interlockref00_SameRow.f k r l).bind fun t213 => (some (!t213))) (fun k => ?_) (Ev.bind (same_f r l (by omega)) (Ev.some_ fun _ => by simp [hne]))
            simp only [interlocklaw05_KeyBack.j1, Bool.false_eq_true, if_false]
            rw [if_pos (by omega), if_pos (by rw [bA_size]; omega), Int.toNat_natCast, hdec]
            simp only [Option.bind_some, if_true]
          | false =>
            refine Ev.step (f := fun k => some true) (fun k => ?_) (Ev.some_ fun _ => rfl)
            simp only [interlocklaw05_KeyBack.j1, Bool.false_eq_true, if_false]
            rw [if_pos (by omega), if_pos (by rw [bA_size]; omega), Int.toNat_natCast, hdec]
            simp
    · have hr' := Bool.eq_false_iff.mpr hr
      simp only [enc_wrong hr', Option.bind_some, Bool.false_eq_true, if_false]
      have e0 : (⟨#[]⟩ : ByteArray).toList = [] := by rw [Lib.toList_data]
      simp only [if_pos e0]
      refine Ev.bind (right_row_f l) (Ev.some_ fun _ => by simp [hr'])
end Go.Proofs.YtjcgbppicdccdaaDoor.Q
end
