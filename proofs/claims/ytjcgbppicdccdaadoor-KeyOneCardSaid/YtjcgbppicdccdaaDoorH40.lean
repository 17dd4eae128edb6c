/- strings.ReplaceAll (function 40), at the byte 0 and the two bytes 0, 255: a text with its noughts escaped. -/
import Derived.Test.YtjcgbppicdccdaaDoorQ0
import Derived.Test.YtjcgbppicdccdaaDoorShelf
namespace Go.Proofs.YtjcgbppicdccdaaDoor.Q
open Go.RowKit Go.Proofs.YtjcgbppicdccdaaDoorW.PrintWords Go.Proofs.YtjcgbppicdccdaaDoorW.PrintLast Go.Proofs.YtjcgbppicdccdaaDoorW.PrintMore
set_option linter.unusedVariables false
set_option linter.unusedSimpArgs false

/-- A text with each byte 0 as the two bytes 0, 255. -/
def escL : List UInt8 → List UInt8
  | [] => []
  | c :: l => if c = 0 then 0 :: 255 :: escL l else c :: escL l
theorem escL_none : ∀ (l : List UInt8), l.count 0 = 0 → escL l = l
  | [], _ => rfl
  | c :: l, h => by
    rw [List.count_cons] at h
    have hc : ¬ c = 0 := by intro e; subst e; simp at h
    rw [escL, if_neg hc, escL_none l (by omega)]
theorem escL_at : ∀ (l : List UInt8), l.count 0 ≠ 0 → ∃ j : Nat, Lib.indexByte l 0 = (j : Int) ∧ j < l.length ∧ escL l = l.take j ++ [0, 255] ++ escL (l.drop (j + 1)) ∧ (l.drop (j + 1)).count 0 + 1 = l.count 0
  | [], h => by simp at h
  | c :: l, h => by
    by_cases hc : c = 0
    · subst hc
      exact ⟨0, by simp [Lib.indexByte], by simp, by simp [escL], by simp⟩
    · have h1 : l.count 0 ≠ 0 := by rw [List.count_cons] at h; simp [hc] at h; simpa using h
      obtain ⟨j, hj, hlt, he, hcn⟩ := escL_at l h1
      refine ⟨j + 1, ?_, by simp; omega, ?_, ?_⟩
      · unfold Lib.indexByte
        rw [hj, if_neg (by simp [hc]), if_neg (by simp <;> omega)]
        simp
      · rw [escL, if_neg hc, he]
        simp
      · rw [List.count_cons]
        simp only [List.drop_succ_cons]
        have e0 : (c == 0) = false := by simp [hc]
        rw [e0, hcn]
        rfl
theorem escL_len : ∀ (l : List UInt8), (escL l).length = l.length + l.count 0
  | [] => rfl
  | c :: l => by
    rw [escL, List.count_cons]
    by_cases hc : c = 0
    · simp [hc, escL_len l]; omega
    · simp [hc, escL_len l]; omega
def esc (s : ByteArray) : ByteArray := ⟨(escL s.data.toList).toArray⟩
def strings_ReplaceAll.f (a0 : ByteArray) (a1 : ByteArray) (a2 : ByteArray) : Option (ByteArray) :=
  if a1 = ⟨#[0]⟩ ∧ a2 = ⟨#[0, 255]⟩ ∧ a0.size ≤ 70368744177664 then some (esc a0) else none

theorem writeString (B b : Nat) (bs : List Value) (s : ByteArray) (w : World) (h : Lib.IsBuilder 47 5 B b bs w) (hlen : bs.length + s.size ≤ 140737488355328) (hBw : B ≤ w.heap.size) :
    Calls Tryd.prog 26 #[.pointer (some ⟨b, 0, none⟩), .string s] w fun e w' => e = .returned (.tuple #[.int .i64 s.size, .nilIface]) ∧ (Lib.BuilderAt 47 5 B b (.pointer (some ⟨b, 0, none⟩)) (bs ++ Lib.strCells s) w' ∧ Below B w w') :=
  Any.Builder_WriteString { Tryd.lays154 with } Tryd.Builder_Extra_154 B b bs s w h hlen hBw
theorem count_le (l : List UInt8) : l.count 0 ≤ l.length := List.count_le_length

set_option maxHeartbeats 4000000 in
set_option maxRecDepth 100000 in
theorem replace_any (s : ByteArray) (w : World) (hs : s.size ≤ 70368744177664) :
    Calls Tryd.prog 46 #[.string s, .string ⟨#[0]⟩, .string ⟨#[0, 255]⟩, .int .i64 (-1)] w fun e w' => e = .returned (.string (esc s)) ∧ Below w.heap.size w w' := by
  have hC := Tryd.strings_Count_one s 0 w
  have hle := count_le s.data.toList
  have hsz : s.data.toList.length = s.size := by simp
  obtain ⟨K, hK⟩ : ∃ K, s.data.toList.count 0 = K := ⟨_, rfl⟩
  rw [show Lib.countByte s.data.toList 0 = K from hK] at hC
  have HK := Aside0.mk hK
  have HC := Aside0.mk hC
  have hKs : K ≤ s.size := by omega
  by_cases hz : K = 0
  · have hcz : ((K : Int) == 0) = true := by simp [hz]
    have he : esc s = s := by unfold esc; rw [escL_none _ (by rw [hK, hz])]
    have HE := Aside0.mk he
    clear he hz hK hC hle hsz
    go_enter Tryd.func46, Tryd.ntmps46
    go_wp2_with (go_at_call 50; refine HC.out.mono ?_; rintro e w' ⟨rfl, hw⟩; rw [hw])
    go_ret
    exact ⟨by rw [HE.out]; rfl, Below.refl _ _⟩
  · have hcz : ((K : Int) == 0) = false := by simp [hz]
    clear hK hC hle hsz
    go_enter Tryd.func46, Tryd.ntmps46
    go_wp2_with (go_at_call 50; refine HC.out.mono ?_; rintro e w' ⟨rfl, hw⟩; rw [hw])
    rw [show ((s.size : Int) + (K : Int)) = ((s.size + K : Nat) : Int) from by omega]
    refine (Tryd.Builder_Grow_fresh w.heap.size w.heap.size _ _ (Nat.le_refl _) (heap_alloc_new w _) (by simp) (by omega)).mono ?_
    rintro e w1 ⟨rfl, hb0, hb1⟩
    have H1 := Aside0.mk (Or.inr hb0 : Lib.IsBuilder 47 5 w.heap.size w.heap.size (Lib.byteCells []) w1)
    have HB1 := Aside0.mk (((Below.refl w.heap.size w).alloc (Nat.le_refl _) _).trans hb1)
    clear hb0 hb1
    go_wp2_with fail
    go_loopg [11, 53] K (fun g s11 s53 wx => ∃ (i start : Nat) (acc : List UInt8), s53 = .int .i64 i ∧ s11 = .int .i64 start ∧ i + g = K ∧ start ≤ s.size ∧
      Aside0 (Lib.IsBuilder 47 5 w.heap.size w.heap.size (Lib.byteCells acc) wx) ∧ Aside0 (Below w.heap.size w wx) ∧ Aside0 (acc ++ escL (s.data.toList.drop start) = escL s.data.toList) ∧
      Aside0 ((s.data.toList.drop start).count 0 = g))
    case atStart => exact ⟨0, 0, [], rfl, rfl, by omega, Nat.zero_le _, H1, HB1, ⟨by simp⟩, ⟨by simpa using HK.out⟩⟩
    case round =>
      clear H1 HB1
      obtain ⟨i, start, acc, rfl, rfl, hig, hst, HB, HW, HR, HN⟩ := hrel
      have hBw : w.heap.size ≤ wr.heap.size := HW.out.size
      have c1 : (0 : Int) ≤ (start : Int) := by omega
      have c2 : (start : Int) ≤ (s.size : Int) := by omega
      have hacc : acc.length + (s.size - start) + gk ≤ 140737488355328 := by
        have h1 := congrArg List.length HR.out
        rw [List.length_append, escL_len, escL_len, HK.out, List.length_drop, HN.out] at h1
        have hsz : s.data.toList.length = s.size := by simp
        omega
      cases gk with
      | zero =>
        have hiK : ¬ ((i : Int) < (K : Int)) := by omega
        have hfin := Aside0.mk (show acc ++ s.data.toList.drop start = escL s.data.toList by rw [← HR.out, escL_none _ HN.out])
        go_wp2_with fail
        refine (writeString w.heap.size w.heap.size _ _ wr HB.out (by rw [Lib.byteCells_length, ByteArray.size_extract]; omega) hBw).mono ?_
        rintro e w3 ⟨rfl, h3, hb3⟩
        rw [Lib.strCells_eq, Lib.extract_to_end, ← Lib.byteCells_append, hfin.out] at h3
        have H3 := Aside0.mk (Or.inr h3 : Lib.IsBuilder 47 5 w.heap.size w.heap.size _ w3)
        have Hb3 := Aside0.mk (HW.out.trans hb3)
        have hBw3 : w.heap.size ≤ w3.heap.size := Hb3.out.size
        clear h3 hb3 hfin
        go_wp2_with fail
        refine (Tryd.Builder_String_any w.heap.size w.heap.size _ w3 H3.out hBw3).mono ?_
        rintro e w5 ⟨rfl, hb5⟩
        have Hb5 := Aside0.mk (Hb3.out.trans hb5)
        clear hb5
        go_wp2
        go_ret
        exact ⟨rfl, Hb5.out⟩
      | succ g =>
        have hiK : (i : Int) < (K : Int) := by omega
        obtain ⟨j, hj, hjl, he, hcn⟩ := escL_at (s.data.toList.drop start) (by rw [HN.out]; omega)
        rw [List.length_drop, show s.data.toList.length = s.size by simp] at hjl
        have HJ := Aside0.mk hj
        have Hrep := Aside0.mk (show (acc ++ (s.data.toList.drop start).take j ++ [0, 255]) ++ escL (s.data.toList.drop (start + j + 1)) = escL s.data.toList by
          rw [← HR.out, he, List.drop_drop]
          simp [Nat.add_assoc])
        have Hcnt := Aside0.mk (show (s.data.toList.drop (start + j + 1)).count 0 = g by
          rw [List.drop_drop, HN.out, show start + (j + 1) = start + j + 1 by omega] at hcn
          omega)
        have Hn := Aside0.mk (show Lib.byteCells acc ++ Lib.strCells (s.extract start (start + j)) ++ Lib.strCells ⟨#[0, 255]⟩ = Lib.byteCells (acc ++ (s.data.toList.drop start).take j ++ [0, 255]) by
          rw [Lib.strCells_eq, Lib.strCells_eq, Lib.extract_data, Nat.add_sub_cancel_left, ← Lib.byteCells_append, ← Lib.byteCells_append])
        have c3 : (start : Int) ≤ (start : Int) + (j : Int) := by omega
        have c4 : (start : Int) + (j : Int) ≤ (s.size : Int) := by omega
        have hjs : start + j + 1 ≤ s.size := by omega
        clear hj he hcn HR
        go_wp2_with (go_at_call 52; refine (Tryd.strings_Index_one _ 0 _).mono ?_; rintro e w' ⟨rfl, hw⟩; rw [hw, Lib.extract_to_end, HJ.out])
        refine (writeString w.heap.size w.heap.size _ (s.extract start (start + j)) wr HB.out (by rw [Lib.byteCells_length, ByteArray.size_extract]; omega) hBw).mono ?_
        rintro e w3 ⟨rfl, h3, hb3⟩
        have hBw3 : w.heap.size ≤ w3.heap.size := Nat.le_trans hBw hb3.size
        have H3 := Aside0.mk h3
        have Hb3 := Aside0.mk hb3
        clear h3 hb3
        go_wp2_with fail
        refine (writeString w.heap.size w.heap.size _ ⟨#[0, 255]⟩ w3 (Or.inr H3.out) (by rw [List.length_append, Lib.byteCells_length, Lib.strCells_length, ByteArray.size_extract, show (⟨#[0, 255]⟩ : ByteArray).size = 2 from rfl]; omega) hBw3).mono ?_
        rintro e w4 ⟨rfl, h4, hb4⟩
        rw [Hn.out] at h4
        have H4 := Aside0.mk (Or.inr h4 : Lib.IsBuilder 47 5 w.heap.size w.heap.size _ w4)
        have Hb4 := Aside0.mk ((HW.out.trans Hb3.out).trans hb4)
        clear h4 hb4
        go_wp2
        go_roundg g
        case measure => omega
        case rel => exact ⟨i + 1, start + j + 1, _, by go_num, by go_num, by omega, by omega, H4, Hb4, Hrep, Hcnt⟩

theorem strings_ReplaceAll.calls (a0 : ByteArray) (a1 : ByteArray) (a2 : ByteArray) (r : ByteArray) (w : World) (h : strings_ReplaceAll.f a0 a1 a2 = some r) :
    Calls Tryd.prog 40 #[.string a0, .string a1, .string a2] w fun e w' => e = .returned (.string r) ∧ Below w.heap.size w w' := by
  unfold strings_ReplaceAll.f at h
  split at h
  · rename_i hc
    obtain ⟨rfl, rfl, hs⟩ := hc
    obtain rfl := Option.some.inj h
    clear h
    go_enter Tryd.func40, Tryd.ntmps40
    go_wp2_with (go_at_call 46; refine (replace_any _ _ hs).mono ?_; rintro e w1 ⟨rfl, hb⟩)
    go_ret
    exact ⟨rfl, hb⟩
  · cases h
end Go.Proofs.YtjcgbppicdccdaaDoor.Q
