/- Plain law: keys are in the order of their rows. -/
import Derived.Test.YtjcgbppicdccdaaDoorH11
import Derived.Laws.BitsLemmas
namespace Go.Proofs.YtjcgbppicdccdaaDoor.Q
open Go.RowKit Go.Proofs.YtjcgbppicdccdaaDoorW.PrintWords Go.Proofs.YtjcgbppicdccdaaDoorW.PrintLast Go.Proofs.YtjcgbppicdccdaaDoorW.PrintMore
set_option linter.unusedVariables false

def cmpI (a b : Int) : Int := if a < b then -1 else if a > b then 1 else 0
/-- Two texts, byte by byte. -/
def cmpL : List UInt8 → List UInt8 → Int
  | [], [] => 0
  | [], _ :: _ => -1
  | _ :: _, [] => 1
  | c :: s, d :: t => if c = d then cmpL s t else cmpI c.toNat d.toNat
theorem cmpI_ne {a b : Int} (h : a ≠ b) : cmpI a b ≠ 0 := by unfold cmpI; split <;> (try split) <;> omega
theorem cmpI_self (a : Int) : cmpI a a = 0 := by simp [cmpI]
theorem cmpL_self : ∀ s, cmpL s s = 0
  | [] => rfl
  | c :: s => by simp [cmpL, cmpL_self s]
theorem cmpL_app (p s t : List UInt8) : cmpL (p ++ s) (p ++ t) = cmpL s t := by
  induction p with
  | nil => rfl
  | cons c p ih => simp [cmpL, ih]

/-- The big end of a number first. -/
def be : Nat → Nat → List UInt8
  | 0, _ => []
  | k + 1, u => UInt8.ofNat (u / 256 ^ k % 256) :: be k (u % 256 ^ k)
theorem be_len : ∀ k u, (be k u).length = k
  | 0, _ => rfl
  | k + 1, u => by simp [be, be_len k]
theorem u8_nat (n : Nat) (h : n < 256) : (UInt8.ofNat n).toNat = n := by simp; omega
theorem be_cmp : ∀ (k u v : Nat) (s t : List UInt8), u < 256 ^ k → v < 256 ^ k → cmpL (be k u ++ s) (be k v ++ t) = if u = v then cmpL s t else cmpI u v
  | 0, u, v, s, t, hu, hv => by
    have : u = v := by simp at hu hv; omega
    simp [be, this]
  | k + 1, u, v, s, t, hu, hv => by
    have hp : 0 < 256 ^ k := Nat.pow_pos (by decide)
    have hu' : u / 256 ^ k < 256 := by rw [Nat.div_lt_iff_lt_mul hp]; rw [Nat.pow_succ] at hu; omega
    have hv' : v / 256 ^ k < 256 := by rw [Nat.div_lt_iff_lt_mul hp]; rw [Nat.pow_succ] at hv; omega
    have e1 : u / 256 ^ k % 256 = u / 256 ^ k := Nat.mod_eq_of_lt hu'
    have e2 : v / 256 ^ k % 256 = v / 256 ^ k := Nat.mod_eq_of_lt hv'
    have du := Nat.div_add_mod u (256 ^ k)
    have dv := Nat.div_add_mod v (256 ^ k)
    have mu := Nat.mod_lt u hp
    have mv := Nat.mod_lt v hp
    simp only [be, List.cons_append, cmpL, e1, e2]
    by_cases hq : u / 256 ^ k = v / 256 ^ k
    · rw [if_pos (by rw [hq]), be_cmp k _ _ s t mu mv]
      rw [hq] at du
      by_cases hm : u % 256 ^ k = v % 256 ^ k
      · rw [if_pos hm, if_pos (by omega)]
      · rw [if_neg hm, if_neg (by intro e; omega)]
        unfold cmpI
        split <;> split <;> (try split) <;> (try split) <;> omega
    · have hne : ¬ UInt8.ofNat (u / 256 ^ k) = UInt8.ofNat (v / 256 ^ k) := by
        intro e
        have := congrArg UInt8.toNat e
        rw [u8_nat _ hu', u8_nat _ hv'] at this
        exact hq this
      rw [if_neg hne, u8_nat _ hu', u8_nat _ hv', if_neg (by rintro rfl; exact hq rfl)]
      have hlt : u / 256 ^ k < v / 256 ^ k → u < v := fun h => by
        have : 256 ^ k * (u / 256 ^ k + 1) ≤ 256 ^ k * (v / 256 ^ k) := Nat.mul_le_mul_left _ h
        rw [Nat.mul_add, Nat.mul_one] at this
        omega
      have hgt : v / 256 ^ k < u / 256 ^ k → v < u := fun h => by
        have : 256 ^ k * (v / 256 ^ k + 1) ≤ 256 ^ k * (u / 256 ^ k) := Nat.mul_le_mul_left _ h
        rw [Nat.mul_add, Nat.mul_one] at this
        omega
      generalize u / 256 ^ k = x at *
      generalize v / 256 ^ k = y at *
      unfold cmpI
      rcases Nat.lt_or_gt_of_ne hq with h | h
      · have := hlt h
        rw [if_pos (by omega), if_pos (by omega)]
      · have := hgt h
        split <;> split <;> (try split) <;> (try split) <;> omega

theorem turned_eq (n : Int) (h0 : -9223372036854775808 ≤ n) (h1 : n ≤ 9223372036854775807) : turned n = n + 9223372036854775808 := by
  unfold turned
  have hw : IntKind.u64.wrap n = n % 18446744073709551616 := by simp [IntKind.wrap, IntKind.bits, IntKind.signed]
  obtain ⟨a, ha⟩ := Int.eq_ofNat_of_zero_le (show 0 ≤ IntKind.u64.wrap n by rw [hw]; omega)
  have ha' : a < 2 ^ 64 := by rw [hw] at ha; omega
  rw [ha]
  have hx : Go.bits .xor .u64 (a : Int) 9223372036854775808 = ((a ^^^ 2 ^ 63 : Nat) : Int) := by
    have e : (9223372036854775808 : Int) = ((2 ^ 63 : Nat) : Int) := by decide
    rw [e]
    simp only [Go.bits, BitVec.ofInt_natCast, BitVec.toNat_xor, BitVec.toNat_ofNat]
    have h64 : IntKind.u64.bits = 64 := rfl
    rw [h64, Nat.mod_eq_of_lt ha', Nat.mod_eq_of_lt (by decide : (2 ^ 63 : Nat) < 2 ^ 64)]
    have hlt : a ^^^ 2 ^ 63 < 2 ^ 64 := Nat.xor_lt_two_pow ha' (by decide)
    have hw2 : ∀ z : Nat, z < 2 ^ 64 → IntKind.u64.wrap (z : Int) = (z : Int) := fun z hz => by
      simp [IntKind.wrap, IntKind.bits, IntKind.signed]
      omega
    exact hw2 _ hlt
  rw [hx]
  have hd : (a ^^^ 2 ^ 63) / 2 ^ 63 = a / 2 ^ 63 ^^^ 1 := by rw [Nat.xor_div_two_pow]
  have hm : (a ^^^ 2 ^ 63) % 2 ^ 63 = a % 2 ^ 63 := by rw [Nat.xor_mod_two_pow]; simp
  have hq : a / 2 ^ 63 = 0 ∨ a / 2 ^ 63 = 1 := by omega
  rw [hw] at ha
  rcases hq with hq | hq
  · rw [hq] at hd
    have : (0 ^^^ 1 : Nat) = 1 := rfl
    rw [this] at hd
    omega
  · rw [hq] at hd
    have : (1 ^^^ 1 : Nat) = 0 := rfl
    rw [this] at hd
    omega

theorem numL_be (n : Int) (h0 : -9223372036854775808 ≤ n) (h1 : n ≤ 9223372036854775807) : numL n = be 8 (n + 9223372036854775808).toNat := by
  unfold numL
  rw [turned_eq n h0 h1]
  obtain ⟨u, hu⟩ := Int.eq_ofNat_of_zero_le (show 0 ≤ n + 9223372036854775808 by omega)
  rw [hu]
  simp only [numBytes, List.map_cons, List.map_nil, be, Int.toNat_natCast, Nat.reducePow]
  have hb : u < 18446744073709551616 := by omega
  clear hu h0 h1
  iterate 8
    refine List.cons_eq_cons.2 ⟨congrArg _ (by omega), ?_⟩
  rfl
theorem numL_cmp (m n : Int) (s t : List UInt8) (hm0 : -9223372036854775808 ≤ m) (hm1 : m ≤ 9223372036854775807) (hn0 : -9223372036854775808 ≤ n) (hn1 : n ≤ 9223372036854775807) :
    cmpL (numL m ++ s) (numL n ++ t) = if m = n then cmpL s t else cmpI m n := by
  rw [numL_be m hm0 hm1, numL_be n hn0 hn1, be_cmp 8 _ _ s t (by simp only [Nat.reducePow]; omega) (by simp only [Nat.reducePow]; omega)]
  by_cases h : m = n
  · rw [if_pos h, if_pos (by rw [h])]
  · rw [if_neg h, if_neg (by omega)]
    unfold cmpI
    split <;> split <;> (try split) <;> (try split) <;> omega
/-- Texts that are escaped and ended are in the texts' order. -/
theorem esc_cmp : ∀ (s t x y : List UInt8), cmpL (escL s ++ ([0, 1] ++ x)) (escL t ++ ([0, 1] ++ y)) = if cmpL s t = 0 then cmpL x y else cmpL s t
  | [], [], x, y => by simp [escL, cmpL]
  | [], d :: t, x, y => by
    by_cases hd : d = 0
    · simp [escL, cmpL, hd, cmpI]
    · have : 0 < d.toNat := by
        rcases Nat.eq_zero_or_pos d.toNat with h | h
        · exact absurd (UInt8.toNat_inj.1 (by simpa using h)) hd
        · exact h
      have hd' : ¬ (0 : UInt8) = d := fun e => hd e.symm
      simp [escL, cmpL, hd, hd', cmpI]
      omega
  | c :: s, [], x, y => by
    by_cases hc : c = 0
    · simp [escL, cmpL, hc, cmpI]
    · have : 0 < c.toNat := by
        rcases Nat.eq_zero_or_pos c.toNat with h | h
        · exact absurd (UInt8.toNat_inj.1 (by simpa using h)) hc
        · exact h
      simp [escL, cmpL, hc, cmpI]
      omega
  | c :: s, d :: t, x, y => by
    by_cases hcd : c = d
    · subst hcd
      have ih := esc_cmp s t x y
      by_cases hc : c = 0
      · simpa [escL, cmpL, hc] using ih
      · simpa [escL, cmpL, hc] using ih
    · have hne : (c.toNat : Int) ≠ (d.toNat : Int) := fun e => hcd (UInt8.toNat_inj.1 (by omega))
      have h0 := cmpI_ne hne
      have hdc : ¬ d = c := fun e => hcd e.symm
      by_cases hc : c = 0
      · subst hc
        have hd : ¬ d = 0 := hdc
        simp [escL, cmpL, hd, hcd]
        intro h
        exact absurd h (by simpa using h0)
      · by_cases hd : d = 0
        · subst hd
          simp [escL, cmpL, hc]
          intro h
          exact absurd h (by simpa using h0)
        · simp [escL, cmpL, hc, hd, hcd, h0]
end Go.Proofs.YtjcgbppicdccdaaDoor.Q
