/- key.Encode (function 11). -/
import Derived.Test.YtjcgbppicdccdaaDoorQ0
import Derived.Test.YtjcgbppicdccdaaDoorH39
import Derived.Test.YtjcgbppicdccdaaDoorH40
import Derived.Test.YtjcgbppicdccdaaDoorH25
namespace Go.Proofs.YtjcgbppicdccdaaDoor.Q
open Go.RowKit Go.Proofs.YtjcgbppicdccdaaDoorW.PrintWords Go.Proofs.YtjcgbppicdccdaaDoorW.PrintLast Go.Proofs.YtjcgbppicdccdaaDoorW.PrintMore
set_option linter.unusedVariables false
set_option linter.unusedSimpArgs false

def numL (n : Int) : List UInt8 := (numBytes (turned n)).map fun z => UInt8.ofNat z.toNat
/-- A value's key bytes. -/
def oneL (v : S43) : List UInt8 :=
  UInt8.ofNat (v.f0 % 256).toNat :: (if v.f0 = 1 then numL v.f1 else if v.f0 = 2 then [UInt8.ofNat (v.f1 % 256).toNat] else if v.f0 = 3 then escL v.f2.data.toList ++ [0, 1] else [])
def encL (l : List S43) : List UInt8 := l.flatMap oneL
def key_Encode.f (l0 : List (S43)) : Option (ByteArray × Bool) := some (if rightRow l0 = true then (⟨(encL l0).toArray⟩, true) else (⟨#[]⟩, false))

theorem right3 {v : S43} (h : rightV v = true) (h3 : v.f0 = 3) : v.f2.size ≤ 16 := by
  unfold rightV value_Right.f at h
  rw [h3] at h
  by_cases h0 : v.f1 = 0
  · simp [h0] at h; omega
  · simp [h0] at h
theorem oneL_len {v : S43} (h : rightV v = true) : (oneL v).length ≤ 35 := by
  unfold oneL numL numBytes
  split
  · simp
  · split
    · simp
    · split
      · rename_i h3
        have := right3 h h3
        have h1 : v.f2.data.toList.length = v.f2.size := by simp
        have h2 : v.f2.data.toList.count 0 ≤ v.f2.data.toList.length := List.count_le_length
        simp only [List.length_cons, List.length_append, escL_len, List.length_nil]
        omega
      · simp

/-- One byte as a text. -/
theorem conv1 (W : World) (n : Nat) (b0 : Int) (hn : W.heap.size = n) :
    (convert 45 9 (.slice (some ⟨n, 0, none⟩) 1 1)).run Tryd.prog (W.alloc (.cells #[.int .u8 b0] 5)) = .ok (.string (strOfNums [b0])) (W.alloc (.cells #[.int .u8 b0] 5)) := by
  subst hn
  refine string_of_reads (e := 5) Tryd.underlying45 Tryd.underlying5 Tryd.underlying9 ⟨rfl, by decide, fun _ => ⟨_, rfl, fun j hj => ?_⟩⟩
  match j, hj with
  | 0, _ => simp [Addr.add]
theorem one_size (b : Int) : (strOfNums [b]).size = 1 := by simp [strOfNums, ByteArray.size]
theorem num_size (b : Int) : (strOfNums (numBytes b)).size = 8 := by simp [strOfNums, numBytes, ByteArray.size]

set_option maxHeartbeats 1000000 in
theorem one_any (v : S43) (w : World) (hv : rightV v = true) :
    Calls Tryd.prog 27 #[.agg #[.int .i64 v.f0, .int .i64 v.f1, .string v.f2]] w fun e w' => e = .returned (.string ⟨(oneL v).toArray⟩) ∧ Below w.heap.size w w' := by
  have hu43 := Tryd.underlying43
  have hc : ∀ o b0, (convert 45 9 (.slice (some ⟨w.heap.size + 1, 0, none⟩) 1 1)).run Tryd.prog ((w.alloc o).alloc (.cells #[.int .u8 b0] 5)) = .ok (.string (strOfNums [b0])) ((w.alloc o).alloc (.cells #[.int .u8 b0] 5)) := fun o b0 => conv1 _ _ _ (by simp)
  have hc2 : ∀ o o2 b0, (convert 45 9 (.slice (some ⟨w.heap.size + 1 + 1, 0, none⟩) 1 1)).run Tryd.prog (((w.alloc o).alloc o2).alloc (.cells #[.int .u8 b0] 5)) = .ok (.string (strOfNums [b0])) (((w.alloc o).alloc o2).alloc (.cells #[.int .u8 b0] 5)) := fun o o2 b0 => conv1 _ _ _ (by simp)
  have h1s := one_size
  have h8s := num_size
  by_cases h3 : v.f0 = 3
  · have hs := right3 hv h3
    have h1 : v.f2.data.toList.length = v.f2.size := by simp
    have h2 : v.f2.data.toList.count 0 ≤ v.f2.data.toList.length := List.count_le_length
    have hl : (esc v.f2).size ≤ 32 := by
      have h5 : (esc v.f2).size = (escL v.f2.data.toList).length := by simp [esc, ByteArray.size]
      rw [h5, escL_len]
      omega
    have hf : strings_ReplaceAll.f v.f2 ⟨#[0]⟩ ⟨#[0, 255]⟩ = some (esc v.f2) := by unfold strings_ReplaceAll.f; rw [if_pos ⟨rfl, rfl, by omega⟩]
    have HF := Aside0.mk hf
    have b1 : (v.f0 == 1) = false := by simp [h3]
    have b2 : (v.f0 == 2) = false := by simp [h3]
    have b3 : (v.f0 == 3) = true := by simp [h3]
    have HE := Aside0.mk (show strOfNums [v.f0 % 256] ++ esc v.f2 ++ ⟨#[0, 1]⟩ = ⟨(oneL v).toArray⟩ by
      apply ByteArray.ext
      simp [oneL, h3, strOfNums, esc])
    clear hv h3 hs h1 h2 hf
    go_enter Tryd.func27, Tryd.ntmps27
    go_wp2_with (go_at_call 40; refine (strings_ReplaceAll.calls _ _ _ _ _ HF.out).mono ?_; rintro e w1 ⟨rfl, hb⟩; have HB := Aside0.mk hb; clear hb)
    go_ret
    exact ⟨by rw [← HE.out]; rfl, below_step (below_alloc (below_alloc (Below.refl _ _) _) _) HB.out⟩
  · have b3 : (v.f0 == 3) = false := by simp [h3]
    by_cases h1 : v.f0 = 1
    · have b1 : (v.f0 == 1) = true := by simp [h1]
      have HE := Aside0.mk (show strOfNums [v.f0 % 256] ++ strOfNums (numBytes (turned v.f1)) = ⟨(oneL v).toArray⟩ by
        apply ByteArray.ext
        simp [oneL, h1, strOfNums, numL])
      clear hv h3 h1
      go_enter Tryd.func27, Tryd.ntmps27
      go_wp2_with (go_at_call 39; refine (key_number.calls _ _ _ rfl).mono ?_; rintro e w1 ⟨rfl, hb⟩; have HB := Aside0.mk hb; clear hb)
      go_ret
      exact ⟨by rw [← HE.out]; rfl, below_step (below_alloc (below_alloc (Below.refl _ _) _) _) HB.out⟩
    · have b1 : (v.f0 == 1) = false := by simp [h1]
      by_cases h2 : v.f0 = 2
      · have b2 : (v.f0 == 2) = true := by simp [h2]
        have HE := Aside0.mk (show strOfNums [v.f0 % 256] ++ strOfNums [v.f1 % 256] = ⟨(oneL v).toArray⟩ by
          apply ByteArray.ext
          simp [oneL, h2, strOfNums])
        clear hv h3 h1 h2
        go_enter Tryd.func27, Tryd.ntmps27
        go_wp2
        go_ret
        exact ⟨by rw [← HE.out]; rfl, below_alloc (below_alloc (below_alloc (Below.refl _ _) _) _) _⟩
      · have b2 : (v.f0 == 2) = false := by simp [h2]
        have HE := Aside0.mk (show strOfNums [v.f0 % 256] = ⟨(oneL v).toArray⟩ by
          apply ByteArray.ext
          simp [oneL, h1, h2, h3, strOfNums])
        clear hv h3 h1 h2
        go_enter Tryd.func27, Tryd.ntmps27
        go_wp2
        go_ret
        exact ⟨by rw [← HE.out]; rfl, below_alloc (below_alloc (Below.refl _ _) _) _⟩

theorem builder_below {B b : Nat} {bs : List Value} {W W' : World} (h : Lib.IsBuilder 47 5 B b bs W) (hb : Below W.heap.size W W') : Lib.IsBuilder 47 5 B b bs W' := by
  rcases h with h | h
  · obtain ⟨h1, v, h2, h3, h4⟩ := h
    exact .inl ⟨h1, v, blk_below h2 hb, pw_own_below h3 hb, h4⟩
  · obtain ⟨h1, v, h2, h3, h4⟩ := h
    exact .inr ⟨h1, v, blk_below h2 hb, pw_own_below h3 hb, h4⟩
theorem encL_len : ∀ (l : List S43), l.all rightV = true → (encL l).length ≤ l.length * 35
  | [], _ => by simp [encL]
  | v :: l, h => by
    rw [List.all_cons, Bool.and_eq_true] at h
    have h1 := oneL_len h.1
    have h2 := encL_len l h.2
    simp only [encL, List.flatMap_cons, List.length_append, List.length_cons] at h2 ⊢
    omega

set_option maxHeartbeats 2000000 in
set_option maxRecDepth 100000 in
theorem key_Encode.calls (A0 : Option Addr) (c0 : Nat) (l0 : List (S43)) (r1 : ByteArray) (r2 : Bool) (w : World) (hr0 : Kd.C k43 w A0 l0.length l0) (hc0 : l0.length ≤ c0) (h : key_Encode.f l0 = some (r1, r2)) :
    Calls Tryd.prog 11 #[.slice A0 l0.length c0] w fun e w' => e = .returned (.tuple #[.string r1, .bool r2]) ∧ Below w.heap.size w w' := by
  have hu43 := Tryd.underlying43
  have hu47 := Tryd.underlying47
  have HR0 := Aside0.mk hr0
  have HC0 := Aside0.mk hc0
  clear hr0 hc0
  unfold key_Encode.f at h
  have HV := Aside0.mk (show value_RightRow.f l0 = some (rightRow l0) from rfl)
  by_cases hv : rightRow l0 = true
  · rw [if_pos hv] at h
    obtain ⟨rfl, rfl⟩ := Prod.mk.inj (Option.some.inj h)
    clear h
    have hall : l0.all rightV = true := by unfold rightRow at hv; rw [Bool.and_eq_true] at hv; exact hv.2
    have h8 : l0.length ≤ 8 := by unfold rightRow at hv; rw [Bool.and_eq_true] at hv; exact of_decide_eq_true hv.1
    have HH := Aside0.mk hv
    have HL := Aside0.mk hall
    clear hv hall
    go_enter Tryd.func11, Tryd.ntmps11
    go_wp2_with (go_at_call 25; refine (value_RightRow.calls _ _ _ _ _ HR0.out HC0.out HV.out).mono ?_; rintro e w1 ⟨rfl, hb⟩; rw [HH.out]; have HB := Aside0.mk hb; clear hb)
    have HI := Aside0.mk (Lib.fresh_isBuilder 47 5 w1)
    have HBW := Aside0.mk (below_alloc (Below.refl w1.heap.size w1) (.cells #[.pointer none, .slice none 0 0] 47))
    go_loopg [12] l0.length (fun gq s12 wx => ∃ (i : Nat), s12 = .int .i64 i ∧ i + gq = l0.length ∧
      Aside0 (Lib.IsBuilder 47 5 w1.heap.size w1.heap.size (Lib.byteCells (encL (l0.take i))) wx) ∧ Aside0 (Below w1.heap.size w1 wx))
    case atStart => exact ⟨0, rfl, by omega, HI, HBW⟩
    case round =>
      clear HI HBW
      obtain ⟨i, rfl, hi, HI, HW⟩ := hrel
      have hBw : w1.heap.size ≤ wr.heap.size := HW.out.size
      cases gk with
      | zero =>
        have h0 : ¬ (i : Int) < (l0.length : Int) := by omega
        have HT := Aside0.mk (show l0.take i = l0 by rw [List.take_of_length_le]; omega)
        go_wp2_with fail
        refine (Tryd.Builder_String_any w1.heap.size w1.heap.size _ wr HI.out hBw).mono ?_
        rintro e w5 ⟨rfl, hb5⟩
        have Hb5 := Aside0.mk (below_step HB.out (HW.out.trans hb5))
        clear hb5
        go_wp2
        go_ret2
        exact ⟨by rw [HT.out]; rfl, Hb5.out⟩
      | succ g =>
        have h0 : (i : Int) < (l0.length : Int) := by omega
        have h00 : (0 : Int) ≤ (i : Int) := by omega
        have hin : i < l0.length := by omega
        obtain ⟨ad, e177, hx_0, hx_1, hx_2⟩ := at_T43 HR0.out i h00 h0
        cases e177
        rw [Int.toNat_natCast] at hx_0 hx_1 hx_2
        have HBr := Aside0.mk (below_step HB.out HW.out)
        replace hx_0 := (HBr.out.cell (World.block_lt_of_cell? w _ hx_0)).trans hx_0
        replace hx_1 := (HBr.out.cell (World.block_lt_of_cell? w _ hx_1)).trans hx_1
        replace hx_2 := (HBr.out.cell (World.block_lt_of_cell? w _ hx_2)).trans hx_2
        have hel : rd_T43 l0 (i : Int) = l0[i] := by unfold rd_T43; simp [hin]
        have HVI := Aside0.mk (show rightV (rd_T43 l0 (i : Int)) = true by rw [hel]; exact List.all_eq_true.1 HL.out _ (List.getElem_mem hin))
        have HN := Aside0.mk (show encL (l0.take i) ++ oneL (rd_T43 l0 (i : Int)) = encL (l0.take (i + 1)) by
          rw [List.take_succ_eq_append_getElem hin, hel, encL, encL, List.flatMap_append, List.flatMap_cons, List.flatMap_nil, List.append_nil])
        have hlen : (encL (l0.take i)).length + 35 ≤ 1000 := by
          have h1 := encL_len (l0.take i) (List.all_eq_true.2 fun x hx => List.all_eq_true.1 HL.out x (List.mem_of_mem_take hx))
          rw [List.length_take] at h1
          omega
        have hol := oneL_len HVI.out
        clear hel
        go_wp2_with (go_at_call 27; refine (one_any _ _ HVI.out).mono ?_; rintro e w2 ⟨rfl, hb⟩; have HB2 := Aside0.mk (below_step (below_alloc (Below.refl _ _) _) hb); clear hb)
        have hB2 : w1.heap.size ≤ w2.heap.size := Nat.le_trans hBw HB2.out.size
        have hsz : (⟨(oneL (rd_T43 l0 ↑i)).toArray⟩ : ByteArray).size = (oneL (rd_T43 l0 ↑i)).length := by simp [ByteArray.size]
        refine (writeString w1.heap.size w1.heap.size _ _ w2 (builder_below HI.out HB2.out) (by rw [Lib.byteCells_length, hsz]; omega) hB2).mono ?_
        rintro e w4 ⟨rfl, h4, hb4⟩
        rw [Lib.strCells_eq, ← Lib.byteCells_append, HN.out] at h4
        have H4 := Aside0.mk (Or.inr h4 : Lib.IsBuilder 47 5 w1.heap.size w1.heap.size _ w4)
        have Hb4 := Aside0.mk ((below_step HW.out HB2.out).trans hb4)
        clear h4 hb4 hsz
        go_wp2
        go_roundg g
        case measure => omega
        case rel => exact ⟨i + 1, by go_num, by omega, H4, Hb4⟩
  · rw [if_neg hv] at h
    obtain ⟨rfl, rfl⟩ := Prod.mk.inj (Option.some.inj h)
    clear h
    have HH := Aside0.mk (Bool.eq_false_iff.mpr hv)
    clear hv
    go_enter Tryd.func11, Tryd.ntmps11
    go_wp2_with (go_at_call 25; refine (value_RightRow.calls _ _ _ _ _ HR0.out HC0.out HV.out).mono ?_; rintro e w1 ⟨rfl, hb⟩; rw [HH.out]; have HB := Aside0.mk hb; clear hb)
    go_ret2
    exact ⟨rfl, HB.out⟩
end Go.Proofs.YtjcgbppicdccdaaDoor.Q
