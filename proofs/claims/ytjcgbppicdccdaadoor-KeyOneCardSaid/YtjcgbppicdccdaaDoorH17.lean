/- key.Decode (function 17): the row of a key. -/
import Derived.Test.YtjcgbppicdccdaaDoorQ0
import Derived.Test.YtjcgbppicdccdaaDoorQ32
import Derived.Test.YtjcgbppicdccdaaDoorH25
namespace Go.Proofs.YtjcgbppicdccdaaDoor.Q
open Go.RowKit Go.Proofs.YtjcgbppicdccdaaDoorW.PrintWords Go.Proofs.YtjcgbppicdccdaaDoorW.PrintLast Go.Proofs.YtjcgbppicdccdaaDoorW.PrintMore
set_option linter.unusedVariables false
set_option linter.unusedSimpArgs false

/-- A value, what is left, was it bad. -/
def valueB (k : Int) (r : List UInt8) : S43 × List UInt8 × Bool :=
  if k = 1 then (if r.length < 8 then (⟨k, numOf (bA (List.replicate 8 0)), ⟨#[]⟩⟩, [], true) else (⟨k, numOf (bA (r.take 8)), ⟨#[]⟩⟩, r.drop 8, false))
  else if k = 2 then (match r with | [] => (⟨k, 0, ⟨#[]⟩⟩, [], true) | c :: r' => (⟨k, (c.toNat : Int), ⟨#[]⟩⟩, r', false))
  else if k = 3 then (⟨k, 0, bA (textOf r).1⟩, (textOf r).2.1, (textOf r).2.2)
  else (⟨k, 0, ⟨#[]⟩⟩, r, false)
def valueL : List UInt8 → S43 × List UInt8 × Bool
  | [] => (⟨0, 0, ⟨#[]⟩⟩, [], true)
  | c :: r => valueB (c.toNat : Int) r
def decGo : Nat → List UInt8 → Bool → List S43 → List S43 × Bool
  | 0, _, bad, out => (out, bad)
  | n + 1, rest, bad, out => if 0 < rest.length ∧ bad = false ∧ out.length ≤ 8 then decGo n (valueL rest).2.1 (valueL rest).2.2 (out ++ [(valueL rest).1]) else (out, bad)
def decL (s : List UInt8) : List S43 × Bool :=
  if (decGo 10 s false []).2 = true then ([], false) else if rightRow (decGo 10 s false []).1 = true then ((decGo 10 s false []).1, true) else ([], false)
def key_Decode.f (a0 : ByteArray) : Option ((List (S43)) × Bool) := if a0.size ≤ 1000000 then some (decL a0.data.toList) else none

theorem bt_cons (c : UInt8) (r : List UInt8) : bt (bA (c :: r)) 0 = (c.toNat : Int) := by
  unfold bt
  rw [dif_pos (by rw [bA_size]; simp)]
  rfl
theorem wrap_byte (c : UInt8) : wrap64 (c.toNat : Int) = (c.toNat : Int) := by
  have := c.toNat_lt
  unfold wrap64
  omega
theorem extract_all (s : List UInt8) (n : Nat) (h : n ≤ s.length) : key_reader_take.f (bA s) false n = some (bA (s.take n), bA (s.drop n), false) := by
  rw [take_le (bA s) false n (by rw [bA_size]; exact h), bA_take, bA_drop]
theorem take_short (s : List UInt8) (n : Nat) (h : s.length < n) (hn : n ≤ 1000) : key_reader_take.f (bA s) false n = some (bA (List.replicate n 0), bA [], true) := by
  unfold key_reader_take.f strings_Repeat.f
  rw [if_pos (by rw [bA_size]; omega), if_pos ⟨rfl, by omega, by omega⟩, Int.toNat_natCast]
  simp only [Option.bind_some]
  rfl
theorem vb1s {k : Int} {r : List UInt8} (h : k = 1) (h8 : r.length < 8) : valueB k r = (⟨k, numOf (bA (List.replicate 8 0)), ⟨#[]⟩⟩, [], true) := by unfold valueB; rw [if_pos h, if_pos h8]
theorem vb1 {k : Int} {r : List UInt8} (h : k = 1) (h8 : ¬ r.length < 8) : valueB k r = (⟨k, numOf (bA (r.take 8)), ⟨#[]⟩⟩, r.drop 8, false) := by unfold valueB; rw [if_pos h, if_neg h8]
theorem vb2n {k : Int} (h : k = 2) : valueB k [] = (⟨k, 0, ⟨#[]⟩⟩, [], true) := by unfold valueB; rw [if_neg (by omega), if_pos h]
theorem vb2 {k : Int} {d : UInt8} {r : List UInt8} (h : k = 2) : valueB k (d :: r) = (⟨k, (d.toNat : Int), ⟨#[]⟩⟩, r, false) := by unfold valueB; rw [if_neg (by omega), if_pos h]
theorem vb3 {k : Int} {r : List UInt8} (h : k = 3) : valueB k r = (⟨k, 0, bA (textOf r).1⟩, (textOf r).2.1, (textOf r).2.2) := by unfold valueB; rw [if_neg (by omega), if_neg (by omega), if_pos h]
theorem vb0 {k : Int} {r : List UInt8} (h1 : ¬ k = 1) (h2 : ¬ k = 2) (h3 : ¬ k = 3) : valueB k r = (⟨k, 0, ⟨#[]⟩⟩, r, false) := by unfold valueB; rw [if_neg h1, if_neg h2, if_neg h3]
/-- What one value's reading comes to, as the walked function tells it. -/
def tellV (v : S43 × List UInt8 × Bool) : Option (Int × Int × ByteArray × ByteArray × Bool) := some (v.1.f0, v.1.f1, v.1.f2, bA v.2.1, v.2.2)
theorem value_some (c : UInt8) (r : List UInt8) (h : r.length ≤ 1000000) : key_reader_value.f (bA (c :: r)) false = tellV (valueL (c :: r)) := by
  have h1 := extract_all (c :: r) 1 (by simp)
  have hb := bt_cons c []
  have hsz : (0 : Int) < ((bA [c]).size : Int) := by rw [bA_size]; simp
  unfold key_reader_value.f
  rw [show ((1 : Nat) : Int) = 1 from rfl] at h1
  rw [h1]
  rw [Option.bind_some]
  simp -implicitDefEqProofs only [List.take_succ_cons, List.take_zero, List.drop_succ_cons, List.drop_zero, hb, wrap_byte]
  rw [if_pos hsz]
  show _ = tellV (valueB (c.toNat : Int) r)
  by_cases k1 : (c.toNat : Int) = 1
  · rw [if_pos k1]
    unfold key_reader_num.f
    by_cases h8 : r.length < 8
    · have h2 := take_short r 8 h8 (by decide)
      rw [show ((8 : Nat) : Int) = 8 from rfl] at h2
      rw [vb1s k1 h8, h2]
      simp only [Option.bind_some]
      rw [if_pos (by rw [bA_size, List.length_replicate]; decide)]
      simp only [Option.bind_some, tellV]
    · have h2 := extract_all r 8 (by omega)
      rw [show ((8 : Nat) : Int) = 8 from rfl] at h2
      rw [vb1 k1 h8, h2]
      simp only [Option.bind_some]
      rw [if_pos (by rw [bA_size, List.length_take]; omega)]
      simp only [Option.bind_some, tellV]
  · rw [if_neg k1]
    by_cases k2 : (c.toNat : Int) = 2
    · rw [if_pos k2]
      cases r with
      | nil =>
        have h2 := take_short [] 1 (by decide) (by decide)
        rw [show ((1 : Nat) : Int) = 1 from rfl] at h2
        have hb0 := bt_cons 0 []
        have hw := wrap_byte 0
        rw [vb2n k2, h2]
        simp only [Option.bind_some]
        rw [show List.replicate 1 (0 : UInt8) = [0] from rfl, hb0, hw, if_pos (by rw [bA_size]; simp)]
        simp only [tellV]
        rfl
      | cons d r =>
        have h2 := extract_all (d :: r) 1 (by simp)
        rw [show ((1 : Nat) : Int) = 1 from rfl] at h2
        have hb0 := bt_cons d []
        rw [vb2 k2, h2]
        simp only [Option.bind_some, List.take_succ_cons, List.take_zero, List.drop_succ_cons, List.drop_zero, hb0, wrap_byte]
        rw [if_pos (by rw [bA_size]; simp)]
        simp only [tellV]
    · rw [if_neg k2]
      by_cases k3 : (c.toNat : Int) = 3
      · rw [if_pos k3, vb3 k3]
        unfold key_reader_text.f
        rw [if_neg (by simp), if_pos (by rw [bA_size]; omega), list_bA]
        simp only [Option.bind_some, tellV]
      · rw [if_neg k3, vb0 k1 k2 k3]
        simp only [tellV]

theorem textGo_len : ∀ (n : Nat) (rest acc : List UInt8), (textGo n rest acc).2.1.length ≤ rest.length
  | 0, _, _ => Nat.le_refl _
  | n + 1, rest, acc => by
    rw [textGo]
    split
    · exact Nat.le_refl _
    · split
      · simp
      · split
        · simp only [List.length_drop]; omega
        · split
          · have := textGo_len n ((rest.drop (Lib.indexByte rest 0).toNat).drop 2) (acc ++ rest.take (Lib.indexByte rest 0).toNat ++ [0])
            simp only [List.length_drop] at this
            omega
          · simp only [List.length_drop]; omega
theorem valueL_len (c : UInt8) (r : List UInt8) : (valueL (c :: r)).2.1.length ≤ r.length := by
  show (valueB (c.toNat : Int) r).2.1.length ≤ r.length
  unfold valueB
  split
  · split
    · simp
    · simp only [List.length_drop]; omega
  · split
    · cases r <;> simp
    · split
      · exact textGo_len _ _ _
      · exact Nat.le_refl _

/-- What holds at the head of Decode's loop. -/
def DecRel (w : World) (F : List S43 × Bool) (gq : Nat) (v5 : Value) (wx : World) : Prop :=
  ∃ (rest : List UInt8) (bad : Bool) (out : List S43), IsS59 w wx w.heap.size (bA rest) bad ∧ Kd.R k43 43 wx w.heap.size (fun k => k ≠ w.heap.size) v5 out ∧ Below w.heap.size w wx ∧ rest.length ≤ 1000000 ∧ out.length + gq = 10 ∧ 1 ≤ gq ∧ decGo gq rest bad out = F

set_option maxHeartbeats 8000000 in
set_option maxRecDepth 100000 in
theorem decode_any (a0 : ByteArray) (w : World) (hsz : a0.size ≤ 1000000) (D : List S43 × Bool) (hD : decL a0.data.toList = D) :
    Calls Tryd.prog 17 #[.string a0] w fun e w' => ∃ v0_ : Value, e = .returned (.tuple #[v0_, .bool D.2]) ∧ Kd.R k43 43 w' w.heap.size (fun _ => True) v0_ D.1 ∧ Below w.heap.size w w' := by
  have hu59 := Tryd.underlying59
  have hu43 := Tryd.underlying43
  obtain ⟨F, hF⟩ : ∃ F, decGo 10 a0.data.toList false [] = F := ⟨_, rfl⟩
  have HD := Aside0.mk (show D = if F.2 = true then ([], false) else if rightRow F.1 = true then (F.1, true) else ([], false) by rw [← hD, ← hF]; rfl)
  have hw1 := below_alloc (Below.refl w.heap.size w) (.cells #[.string a0, .bool false] 59)
  have HR0 := Aside0.mk (show DecRel w F 10 (.slice none 0 0) (w.alloc (.cells #[.string a0, .bool false] 59)) from
    ⟨a0.data.toList, false, [], by rw [bA_list]; exact IsS59.new w w a0 false (Below.refl _ _), Kd.R_nil _ _ _ _ _, hw1, by simpa using hsz, rfl, by decide, hF⟩)
  clear hD hF hw1
  go_enter Tryd.func17, Tryd.ntmps17
  go_wp2
  go_loopg [5] 10 (fun gq v5 wx => Aside0 (DecRel w F gq v5 wx))
  case atStart => exact HR0
  case round =>
    obtain ⟨rest, bad, out, hS, hR, hB, hlen, hog, hg1, hgo⟩ := hrel.out
    clear hrel HR0
    obtain ⟨gq, rfl⟩ : ∃ q, gk = q + 1 := ⟨gk - 1, by omega⟩
    obtain ⟨A, c, rfl, hoc, hC⟩ := Kd.R_reads hR
    have hc0 := cellS59_0 hS.1
    have hc1 := cellS59_1 hS.1
    have hsz0 := bA_size rest
    rw [decGo] at hgo
    have HS := Aside0.mk hS
    have HR := Aside0.mk hR
    have HB := Aside0.mk hB
    have HC := Aside0.mk hC
    have HSZ := Aside0.mk hsz0
    clear hS hR hB hC hsz0
    by_cases hgoes : 0 < rest.length ∧ bad = false ∧ out.length ≤ 8
    · rw [if_pos hgoes] at hgo
      obtain ⟨h1, rfl, h3⟩ := hgoes
      obtain ⟨b0, r0, rfl⟩ : ∃ b0 r0, rest = b0 :: r0 := by cases rest with | nil => simp at h1 | cons b0 r0 => exact ⟨b0, r0, rfl⟩
      have d1 : decide (0 < (bA (b0 :: r0)).size) = true := decide_eq_true (by rw [HSZ.out]; exact h1)
      have d1i : decide (0 < ((bA (b0 :: r0)).size : Int)) = true := decide_eq_true (by rw [HSZ.out]; omega)
      have d3 : decide (out.length ≤ 8) = true := decide_eq_true h3
      have d3i : decide ((out.length : Int) ≤ 8) = true := decide_eq_true (by omega)
      have hl0 : r0.length ≤ 1000000 := by rw [List.length_cons] at hlen; omega
      have HVL := Aside0.mk (valueL_len b0 r0)
      have HVS := Aside0.mk (value_some b0 r0 hl0)
      obtain ⟨V, hV⟩ : ∃ V, valueL (b0 :: r0) = V := ⟨_, rfl⟩
      rw [hV] at hgo HVL HVS
      have HGO := Aside0.mk hgo
      clear hgo hV h1 hlen
      go_wp2_with (first
        | (go_at_call 32; refine (key_reader_value.calls _ _ _ _ _ _ _ _ _ _ HS.out HB.out HVS.out).mono ?_; rintro e w3 ⟨rfl, hs3, hb3, hk3⟩; have HS3 := Aside0.mk hs3; have HB3 := Aside0.mk hb3; have HR3 := Aside0.mk (Kd.R_keep HR.out hk3 (fun _ hk => hk)); clear hs3 hb3 hk3)
        | ((with_reducible refine gate_builtin (b := .append) (xs := #[.tmp 30, .tmp 32]) rfl ?_); at_builtin; (refine Kd.R_append k43 (w0 := w) w.heap.size rfl (.tmp 30) (.tmp 32) 23 43 (.agg #[(.int .i64 0), (.int .i64 0), (.string ⟨#[]⟩)]) 32 rfl Tryd.underlying23 info43 rfl (by decide) (by omega) (.slice A out.length c) out V.1 [.int .i64 V.1.f0, .int .i64 V.1.f1, .string V.1.f2] (fun k => k ≠ w.heap.size) (fun _ => False) rfl ?aX ?aP (fun _ hk => hk.elim) ?aF ?aO ?aB ?aS ?aL ?_; (case aX => show Value.slice (some ⟨w3.heap.size + 1, 0, none⟩) 1 1 = _; simp); (case aP => exact k43_mkM _ _ _ V.1); (case aB => exact below_alloc HB3.out _); (case aF => exact (fun k hk => by have h1 := HS3.out.lt; simp at hk; omega)); (case aO => exact Kd.R_alloc HR3.out _); (case aS => exact (below_alloc HB3.out _).size); (case aL => omega); intro v4 w4 ho hb hg hat; have HR4 := Aside0.mk ho; have HB4 := Aside0.mk hb; have HS4 := Aside0.mk ((HS3.out.alloc _).grown hg (fun e => HR3.out.1 _ e.symm rfl)); clear ho hb hg hat)))
      have hvl : V.2.1.length ≤ 1000000 := by have := HVL.out; omega
      go_roundg gq
      case measure => omega
      case rel => exact ⟨V.2.1, V.2.2, out ++ [V.1], HS4.out, HR4.out, HB4.out, hvl, by rw [List.length_append, List.length_singleton]; omega, by omega, HGO.out⟩
    · rw [if_neg hgoes] at hgo
      subst hgo
      have hD1 := HD.out
      simp only at hD1
      have HRT := Aside0.mk (Kd.R_mono HR.out (ok' := fun _ => True) (fun _ _ => trivial))
      have HRV := Aside0.mk (show value_RightRow.f out = some (rightRow out) from rfl)
      clear hog HD hg1
      cases bad with
      | true =>
        rw [if_pos rfl] at hD1
        have HD1 := Aside0.mk hD1
        clear hD1 hgoes
        by_cases h1 : 0 < rest.length
        all_goals
          have d1 : decide (0 < (bA rest).size) = decide (0 < rest.length) := by rw [HSZ.out]
          have d1i : decide (0 < ((bA rest).size : Int)) = decide (0 < rest.length) := by rw [HSZ.out]; simp
          simp only [h1, decide_true, decide_false] at d1 d1i
          clear h1
          go_wp2
          go_ret2
          exact ⟨.slice none 0 0, by rw [HD1.out]; rfl, by rw [HD1.out]; exact Kd.R_nil _ _ _ _ _, HB.out⟩
      | false =>
        rw [if_neg (by simp)] at hD1
        have HD1 := Aside0.mk hD1
        clear hD1
        have d1e : decide (0 < (bA rest).size) = decide (0 < rest.length) := by rw [HSZ.out]
        have d1ie : decide (0 < ((bA rest).size : Int)) = decide (0 < rest.length) := by rw [HSZ.out]; simp
        have hx : (decide (0 < (bA rest).size) = false ∧ decide (0 < ((bA rest).size : Int)) = false) ∨ (decide (0 < (bA rest).size) = true ∧ decide (0 < ((bA rest).size : Int)) = true ∧ decide (out.length ≤ 8) = false ∧ decide ((out.length : Int) ≤ 8) = false) := by
          by_cases h1 : 0 < rest.length
          · have h8 : ¬ out.length ≤ 8 := fun h => hgoes ⟨h1, rfl, h⟩
            exact .inr ⟨by rw [d1e]; exact decide_eq_true h1, by rw [d1ie]; exact decide_eq_true h1, decide_eq_false h8, decide_eq_false (by omega)⟩
          · exact .inl ⟨by rw [d1e]; exact decide_eq_false h1, by rw [d1ie]; exact decide_eq_false h1⟩
        clear d1e d1ie hgoes
        by_cases hr : rightRow out = true
        · rw [hr] at HRV
          rw [if_pos hr] at HD1
          clear hr
          rcases hx with ⟨x1, x2⟩ | ⟨x1, x2, x3, x4⟩
          all_goals
            go_wp2_with (go_at_call 25; refine (value_RightRow.calls _ _ _ _ _ HC.out hoc HRV.out).mono ?_; rintro e w4 ⟨rfl, hb4⟩; have HB4 := Aside0.mk hb4; clear hb4)
            go_ret2
            exact ⟨_, by rw [HD1.out]; rfl, by rw [HD1.out]; exact Kd.R_below HRT.out HB4.out, below_step HB.out HB4.out⟩
        · rw [if_neg hr] at HD1
          rw [Bool.eq_false_iff.mpr hr] at HRV
          clear hr
          rcases hx with ⟨x1, x2⟩ | ⟨x1, x2, x3, x4⟩
          all_goals
            go_wp2_with (go_at_call 25; refine (value_RightRow.calls _ _ _ _ _ HC.out hoc HRV.out).mono ?_; rintro e w4 ⟨rfl, hb4⟩; have HB4 := Aside0.mk hb4; clear hb4)
            go_ret2
            exact ⟨.slice none 0 0, by rw [HD1.out]; rfl, by rw [HD1.out]; exact Kd.R_nil _ _ _ _ _, below_step HB.out HB4.out⟩

theorem key_Decode.calls (a0 : ByteArray) (r1 : List (S43)) (r2 : Bool) (w : World) (h : key_Decode.f a0 = some (r1, r2)) :
    Calls Tryd.prog 17 #[.string a0] w fun e w' => ∃ v0_ : Value, e = .returned (.tuple #[v0_, .bool r2]) ∧ Kd.R k43 43 w' w.heap.size (fun _ => True) v0_ r1 ∧ Below w.heap.size w w' := by
  unfold key_Decode.f at h
  split at h
  · rename_i hsz
    have := decode_any a0 w hsz _ (Option.some.inj h)
    exact this
  · cases h
end Go.Proofs.YtjcgbppicdccdaaDoor.Q
