/- Packed by chunk.py: YtjcgbppicdccdaaDoorH39 YtjcgbppicdccdaaDoorH40 YtjcgbppicdccdaaDoorQe43 YtjcgbppicdccdaaDoorQ37 YtjcgbppicdccdaaDoorH25 YtjcgbppicdccdaaDoorH11 YtjcgbppicdccdaaDoorA1 YtjcgbppicdccdaaDoorQ10 YtjcgbppicdccdaaDoorQ15 YtjcgbppicdccdaaDoorQ9 -/
import Derived.Test.YtjcgbppicdccdaaDoorQ0
import Derived.LoopN
import Derived.Test.YtjcgbppicdccdaaDoorShelf
import Derived.Laws.BitsLemmas
import Derived.Deep.Slices
import Derived.ChangeArms
import Derived.DataReads
section
/- key.number (function 39): eight bytes of a number. -/
namespace Go.Proofs.YtjcgbppicdccdaaDoor.Q
open Go.RowKit Go.Proofs.YtjcgbppicdccdaaDoorW.PrintWords Go.Proofs.YtjcgbppicdccdaaDoorW.PrintLast Go.Proofs.YtjcgbppicdccdaaDoorW.PrintMore
set_option linter.unusedVariables false
set_option linter.unusedSimpArgs false

/-- A number with its sign turned, as Go computes it. -/
def turned (n : Int) : Int := Go.bits .xor .u64 (IntKind.u64.wrap n) 9223372036854775808
def numBytes (u : Int) : List Int := [u / 72057594037927936 % 256, u / 281474976710656 % 256, u / 1099511627776 % 256, u / 4294967296 % 256, u / 16777216 % 256, u / 65536 % 256, u / 256 % 256, u % 256]
def key_number.f (a0 : Int) : Option (ByteArray) := some (strOfNums (numBytes (turned a0)))

theorem conv8 (w : World) (b0 b1 b2 b3 b4 b5 b6 b7 : Int) :
    (convert 45 9 (.slice (some ⟨w.heap.size, 0, none⟩) 8 8)).run Tryd.prog (w.alloc (.cells #[.int .u8 b0, .int .u8 b1, .int .u8 b2, .int .u8 b3, .int .u8 b4, .int .u8 b5, .int .u8 b6, .int .u8 b7] 74)) =
      .ok (.string (strOfNums [b0, b1, b2, b3, b4, b5, b6, b7])) (w.alloc (.cells #[.int .u8 b0, .int .u8 b1, .int .u8 b2, .int .u8 b3, .int .u8 b4, .int .u8 b5, .int .u8 b6, .int .u8 b7] 74)) := by
  refine string_of_reads (e := 5) Tryd.underlying45 Tryd.underlying5 Tryd.underlying9 ⟨rfl, by decide, fun _ => ⟨_, rfl, fun j hj => ?_⟩⟩
  match j, hj with
  | 0, _ => simp [Addr.add]
  | 1, _ => simp [Addr.add]
  | 2, _ => simp [Addr.add]
  | 3, _ => simp [Addr.add]
  | 4, _ => simp [Addr.add]
  | 5, _ => simp [Addr.add]
  | 6, _ => simp [Addr.add]
  | 7, _ => simp [Addr.add]

set_option maxHeartbeats 1000000 in
set_option maxRecDepth 100000 in
theorem key_number.calls (a0 : Int) (r : ByteArray) (w : World) (h : key_number.f a0 = some r) :
    Calls Tryd.prog 39 #[.int .i64 a0] w fun e w' => e = .returned (.string r) ∧ Below w.heap.size w w' := by
  obtain rfl := Option.some.inj h
  have hc := conv8 w
  go_enter Tryd.func39, Tryd.ntmps39
  go_wp2
  refine wp_loop_rounds 9 ?_
  rw [rounds_succ]
  go_wp2
  iterate 8
    rw [rounds_succ]
    go_wp2
  go_ret
  exact ⟨rfl, below_alloc (Below.refl _ _) _⟩
end Go.Proofs.YtjcgbppicdccdaaDoor.Q
end
section
/- strings.ReplaceAll (function 40), at the byte 0 and the two bytes 0, 255: a text with its noughts escaped. -/
namespace Go.Proofs.YtjcgbppicdccdaaDoor.Q
open Go.RowKit Go.Proofs.YtjcgbppicdccdaaDoorW.PrintWords Go.Proofs.YtjcgbppicdccdaaDoorW.PrintLast Go.Proofs.YtjcgbppicdccdaaDoorW.PrintMore
set_option linter.unusedVariables false
set_option linter.unusedSimpArgs false

/-- A text with each byte 0 as the two bytes 0, 255. -/
def escL : List UInt8 → List UInt8
  | [] => []
  | c :: l => if c = 0 then 0 :: 255 :: escL l else c :: escL l
theorem escL_none : ∀ (l : List UInt8), l.count 0 = 0 → escL l = l
  | [], _ => rfl
  | c :: l, h => by
    rw [List.count_cons] at h
    have hc : ¬ c = 0 := by intro e; subst e; simp at h
    rw [escL, if_neg hc, escL_none l (by omega)]
theorem escL_at : ∀ (l : List UInt8), l.count 0 ≠ 0 → ∃ j : Nat, Lib.indexByte l 0 = (j : Int) ∧ j < l.length ∧ escL l = l.take j ++ [0, 255] ++ escL (l.drop (j + 1)) ∧ (l.drop (j + 1)).count 0 + 1 = l.count 0
  | [], h => by simp at h
  | c :: l, h => by
    by_cases hc : c = 0
    · subst hc
      exact ⟨0, by simp [Lib.indexByte], by simp, by simp [escL], by simp⟩
    · have h1 : l.count 0 ≠ 0 := by rw [List.count_cons] at h; simp [hc] at h; simpa using h
      obtain ⟨j, hj, hlt, he, hcn⟩ := escL_at l h1
      refine ⟨j + 1, ?_, by simp; omega, ?_, ?_⟩
      · unfold Lib.indexByte
        rw [hj, if_neg (by simp [hc]), if_neg (by simp <;> omega)]
        simp
      · rw [escL, if_neg hc, he]
        simp
      · rw [List.count_cons]
        simp only [List.drop_succ_cons]
        have e0 : (c == 0) = false := by simp [hc]
        rw [e0, hcn]
        rfl
theorem escL_len : ∀ (l : List UInt8), (escL l).length = l.length + l.count 0
  | [] => rfl
  | c :: l => by
    rw [escL, List.count_cons]
    by_cases hc : c = 0
    · simp [hc, escL_len l]; omega
    · simp [hc, escL_len l]; omega
def esc (s : ByteArray) : ByteArray := ⟨(escL s.data.toList).toArray⟩
def strings_ReplaceAll.f (a0 : ByteArray) (a1 : ByteArray) (a2 : ByteArray) : Option (ByteArray) :=
  if a1 = ⟨#[0]⟩ ∧ a2 = ⟨#[0, 255]⟩ ∧ a0.size ≤ 70368744177664 then some (esc a0) else none

theorem writeString (B b : Nat) (bs : List Value) (s : ByteArray) (w : World) (h : Lib.IsBuilder 47 5 B b bs w) (hlen : bs.length + s.size ≤ 140737488355328) (hBw : B ≤ w.heap.size) :
    Calls Tryd.prog 26 #[.pointer (some ⟨b, 0, none⟩), .string s] w fun e w' => e = .returned (.tuple #[.int .i64 s.size, .nilIface]) ∧ (Lib.BuilderAt 47 5 B b (.pointer (some ⟨b, 0, none⟩)) (bs ++ Lib.strCells s) w' ∧ Below B w w') :=
  Any.Builder_WriteString { Tryd.lays154 with } Tryd.Builder_Extra_154 B b bs s w h hlen hBw
theorem count_le (l : List UInt8) : l.count 0 ≤ l.length := List.count_le_length

set_option maxHeartbeats 4000000 in
set_option maxRecDepth 100000 in
theorem replace_any (s : ByteArray) (w : World) (hs : s.size ≤ 70368744177664) :
    Calls Tryd.prog 46 #[.string s, .string ⟨#[0]⟩, .string ⟨#[0, 255]⟩, .int .i64 (-1)] w fun e w' => e = .returned (.string (esc s)) ∧ Below w.heap.size w w' := by
  have hC := Tryd.strings_Count_one s 0 w
  have hle := count_le s.data.toList
  have hsz : s.data.toList.length = s.size := by simp
  obtain ⟨K, hK⟩ : ∃ K, s.data.toList.count 0 = K := ⟨_, rfl⟩
  rw [show Lib.countByte s.data.toList 0 = K from hK] at hC
  have HK := Aside0.mk hK
  have HC := Aside0.mk hC
  have hKs : K ≤ s.size := by omega
  by_cases hz : K = 0
  · have hcz : ((K : Int) == 0) = true := by simp [hz]
    have he : esc s = s := by unfold esc; rw [escL_none _ (by rw [hK, hz])]
    have HE := Aside0.mk he
    clear he hz hK hC hle hsz
    go_enter Tryd.func46, Tryd.ntmps46
    go_wp2_with (go_at_call 50; refine HC.out.mono ?_; rintro e w' ⟨rfl, hw⟩; rw [hw])
    go_ret
    exact ⟨by rw [HE.out]; rfl, Below.refl _ _⟩
  · have hcz : ((K : Int) == 0) = false := by simp [hz]
    clear hK hC hle hsz
    go_enter Tryd.func46, Tryd.ntmps46
    go_wp2_with (go_at_call 50; refine HC.out.mono ?_; rintro e w' ⟨rfl, hw⟩; rw [hw])
    rw [show ((s.size : Int) + (K : Int)) = ((s.size + K : Nat) : Int) from by omega]
    refine (Tryd.Builder_Grow_fresh w.heap.size w.heap.size _ _ (Nat.le_refl _) (heap_alloc_new w _) (by simp) (by omega)).mono ?_
    rintro e w1 ⟨rfl, hb0, hb1⟩
    have H1 := Aside0.mk (Or.inr hb0 : Lib.IsBuilder 47 5 w.heap.size w.heap.size (Lib.byteCells []) w1)
    have HB1 := Aside0.mk (((Below.refl w.heap.size w).alloc (Nat.le_refl _) _).trans hb1)
    clear hb0 hb1
    go_wp2_with fail
    go_loopg [11, 53] K (fun g s11 s53 wx => ∃ (i start : Nat) (acc : List UInt8), s53 = .int .i64 i ∧ s11 = .int .i64 start ∧ i + g = K ∧ start ≤ s.size ∧
      Aside0 (Lib.IsBuilder 47 5 w.heap.size w.heap.size (Lib.byteCells acc) wx) ∧ Aside0 (Below w.heap.size w wx) ∧ Aside0 (acc ++ escL (s.data.toList.drop start) = escL s.data.toList) ∧
      Aside0 ((s.data.toList.drop start).count 0 = g))
    case atStart => exact ⟨0, 0, [], rfl, rfl, by omega, Nat.zero_le _, H1, HB1, ⟨by simp⟩, ⟨by simpa using HK.out⟩⟩
    case round =>
      clear H1 HB1
      obtain ⟨i, start, acc, rfl, rfl, hig, hst, HB, HW, HR, HN⟩ := hrel
      have hBw : w.heap.size ≤ wr.heap.size := HW.out.size
      have c1 : (0 : Int) ≤ (start : Int) := by omega
      have c2 : (start : Int) ≤ (s.size : Int) := by omega
      have hacc : acc.length + (s.size - start) + gk ≤ 140737488355328 := by
        have h1 := congrArg List.length HR.out
        rw [List.length_append, escL_len, escL_len, HK.out, List.length_drop, HN.out] at h1
        have hsz : s.data.toList.length = s.size := by simp
        omega
      cases gk with
      | zero =>
        have hiK : ¬ ((i : Int) < (K : Int)) := by omega
        have hfin := Aside0.mk (show acc ++ s.data.toList.drop start = escL s.data.toList by rw [← HR.out, escL_none _ HN.out])
        go_wp2_with fail
        refine (writeString w.heap.size w.heap.size _ _ wr HB.out (by rw [Lib.byteCells_length, ByteArray.size_extract]; omega) hBw).mono ?_
        rintro e w3 ⟨rfl, h3, hb3⟩
        rw [Lib.strCells_eq, Lib.extract_to_end, ← Lib.byteCells_append, hfin.out] at h3
        have H3 := Aside0.mk (Or.inr h3 : Lib.IsBuilder 47 5 w.heap.size w.heap.size _ w3)
        have Hb3 := Aside0.mk (HW.out.trans hb3)
        have hBw3 : w.heap.size ≤ w3.heap.size := Hb3.out.size
        clear h3 hb3 hfin
        go_wp2_with fail
        refine (Tryd.Builder_String_any w.heap.size w.heap.size _ w3 H3.out hBw3).mono ?_
        rintro e w5 ⟨rfl, hb5⟩
        have Hb5 := Aside0.mk (Hb3.out.trans hb5)
        clear hb5
        go_wp2
        go_ret
        exact ⟨rfl, Hb5.out⟩
      | succ g =>
        have hiK : (i : Int) < (K : Int) := by omega
        obtain ⟨j, hj, hjl, he, hcn⟩ := escL_at (s.data.toList.drop start) (by rw [HN.out]; omega)
        rw [List.length_drop, show s.data.toList.length = s.size by simp] at hjl
        have HJ := Aside0.mk hj
        have Hrep := Aside0.mk (show (acc ++ (s.data.toList.drop start).take j ++ [0, 255]) ++ escL (s.data.toList.drop (start + j + 1)) = escL s.data.toList by
          rw [← HR.out, he, List.drop_drop]
          simp [Nat.add_assoc])
        have Hcnt := Aside0.mk (show (s.data.toList.drop (start + j + 1)).count 0 = g by
          rw [List.drop_drop, HN.out, show start + (j + 1) = start + j + 1 by omega] at hcn
          omega)
        have Hn := Aside0.mk (show Lib.byteCells acc ++ Lib.strCells (s.extract start (start + j)) ++ Lib.strCells ⟨#[0, 255]⟩ = Lib.byteCells (acc ++ (s.data.toList.drop start).take j ++ [0, 255]) by
          rw [Lib.strCells_eq, Lib.strCells_eq, Lib.extract_data, Nat.add_sub_cancel_left, ← Lib.byteCells_append, ← Lib.byteCells_append])
        have c3 : (start : Int) ≤ (start : Int) + (j : Int) := by omega
        have c4 : (start : Int) + (j : Int) ≤ (s.size : Int) := by omega
        have hjs : start + j + 1 ≤ s.size := by omega
        clear hj he hcn HR
        go_wp2_with (go_at_call 52; refine (Tryd.strings_Index_one _ 0 _).mono ?_; rintro e w' ⟨rfl, hw⟩; rw [hw, Lib.extract_to_end, HJ.out])
        refine (writeString w.heap.size w.heap.size _ (s.extract start (start + j)) wr HB.out (by rw [Lib.byteCells_length, ByteArray.size_extract]; omega) hBw).mono ?_
        rintro e w3 ⟨rfl, h3, hb3⟩
        have hBw3 : w.heap.size ≤ w3.heap.size := Nat.le_trans hBw hb3.size
        have H3 := Aside0.mk h3
        have Hb3 := Aside0.mk hb3
        clear h3 hb3
        go_wp2_with fail
        refine (writeString w.heap.size w.heap.size _ ⟨#[0, 255]⟩ w3 (Or.inr H3.out) (by rw [List.length_append, Lib.byteCells_length, Lib.strCells_length, ByteArray.size_extract, show (⟨#[0, 255]⟩ : ByteArray).size = 2 from rfl]; omega) hBw3).mono ?_
        rintro e w4 ⟨rfl, h4, hb4⟩
        rw [Hn.out] at h4
        have H4 := Aside0.mk (Or.inr h4 : Lib.IsBuilder 47 5 w.heap.size w.heap.size _ w4)
        have Hb4 := Aside0.mk ((HW.out.trans Hb3.out).trans hb4)
        clear h4 hb4
        go_wp2
        go_roundg g
        case measure => omega
        case rel => exact ⟨i + 1, start + j + 1, _, by go_num, by go_num, by omega, by omega, H4, Hb4, Hrep, Hcnt⟩

theorem strings_ReplaceAll.calls (a0 : ByteArray) (a1 : ByteArray) (a2 : ByteArray) (r : ByteArray) (w : World) (h : strings_ReplaceAll.f a0 a1 a2 = some r) :
    Calls Tryd.prog 40 #[.string a0, .string a1, .string a2] w fun e w' => e = .returned (.string r) ∧ Below w.heap.size w w' := by
  unfold strings_ReplaceAll.f at h
  split at h
  · rename_i hc
    obtain ⟨rfl, rfl, hs⟩ := hc
    obtain rfl := Option.some.inj h
    clear h
    go_enter Tryd.func40, Tryd.ntmps40
    go_wp2_with (go_at_call 46; refine (replace_any _ _ hs).mono ?_; rintro e w1 ⟨rfl, hb⟩)
    go_ret
    exact ⟨rfl, hb⟩
  · cases h
end Go.Proofs.YtjcgbppicdccdaaDoor.Q
end
section
/- What Go functions compute, as Lean functions, and that the machine's call comes to just that; no conditions beyond each theorem's own. (Written by pp.py of this repo, over the kit's print.py.) -/
namespace Go.Proofs.YtjcgbppicdccdaaDoor.Q
open Go.RowKit Go.Proofs.YtjcgbppicdccdaaDoorW.PrintWords Go.Proofs.YtjcgbppicdccdaaDoorW.PrintLast Go.Proofs.YtjcgbppicdccdaaDoorW.PrintMore
attribute [local go_sem] max2_int min2_int max_two min_two max_three min_three max_four min_four   -- for this text's walks alone
set_option linter.unusedVariables false
set_option linter.unusedSimpArgs false

theorem eqA43 (d : Nat) (w : World) (x0 y0 : Int) (x1 y1 : Int) (x2 y2 : ByteArray) :
    (Op.equalIn (d + 2) 43 (.agg #[.int .i64 x0, .int .i64 x1, .string x2]) (.agg #[.int .i64 y0, .int .i64 y1, .string y2])).run Tryd.prog w = .ok (x0 == y0 && (x1 == y1 && (x2.toList == y2.toList))) w := by
  refine eqA_of Tryd.underlying43 (by kernel_rfl) ?_
  refine eqf_cons (by rfl) (by go_simp; rfl) (by go_simp; rfl) (by go_simp) ?_
  refine eqf_cons (by rfl) (by go_simp; rfl) (by go_simp; rfl) (by go_simp) ?_
  exact eqf_last (by rfl) (by go_simp; rfl) (by go_simp; rfl) (by go_simp)
end Go.Proofs.YtjcgbppicdccdaaDoor.Q
end
section
/- What Go functions compute, as Lean functions, and that the machine's call comes to just that; no conditions beyond each theorem's own. (Written by pp.py of this repo, over the kit's print.py.) -/
namespace Go.Proofs.YtjcgbppicdccdaaDoor.Q
open Go.RowKit Go.Proofs.YtjcgbppicdccdaaDoorW.PrintWords Go.Proofs.YtjcgbppicdccdaaDoorW.PrintLast Go.Proofs.YtjcgbppicdccdaaDoorW.PrintMore
attribute [local go_sem] max2_int min2_int max_two min_two max_three min_three max_four min_four   -- for this text's walks alone
set_option linter.unusedVariables false
set_option linter.unusedSimpArgs false

attribute [local go_sem high] eqA43
/-! ### value_Right: function 37 -/
def value_Right.f (a0_0 : Int) (a0_1 : Int) (a0_2 : ByteArray) : Option (Bool) := if a0_0 = 0 then (some (a0_0 == 0 && (a0_1 == 0 && (a0_2.toList == ([] : List UInt8))))) else (if a0_0 = 1 then (some (a0_2.toList == ([] : List UInt8))) else (if a0_0 = 2 then (if a0_2.toList = ([] : List UInt8) then (if a0_1 = 0 then (some true) else (some (a0_1 == 1))) else (some false)) else (if a0_0 = 3 then (if a0_1 = 0 then (some (decide ((a0_2.size : Int) ≤ 16))) else (some false)) else (some false))))
set_option maxHeartbeats 8000000 in
set_option maxRecDepth 100000 in
theorem value_Right.calls (a0_0 : Int) (a0_1 : Int) (a0_2 : ByteArray) (r : Bool) (w : World) (h : value_Right.f a0_0 a0_1 a0_2 = some r) :
    Calls Tryd.prog 37 #[.agg #[.int .i64 a0_0, .int .i64 a0_1, .string a0_2]] w fun e w' => e = .returned (.bool r) ∧ Below w.heap.size w w' := by
  have hu43 := Tryd.underlying43
  have HB := Aside0.mk (Below.refl w.heap.size w)
  have H : (if a0_0 = 0 then (some (a0_0 == 0 && (a0_1 == 0 && (a0_2.toList == ([] : List UInt8))))) else (if a0_0 = 1 then (some (a0_2.toList == ([] : List UInt8))) else (if a0_0 = 2 then (if a0_2.toList = ([] : List UInt8) then (if a0_1 = 0 then (some true) else (some (a0_1 == 1))) else (some false)) else (if a0_0 = 3 then (if a0_1 = 0 then (some (decide ((a0_2.size : Int) ≤ 16))) else (some false)) else (some false))))) = some r := h
  clear h
  by_cases c2 : a0_0 = 0
  · rw [if_pos c2] at H
    have c2b0 : (a0_0 == 0) = true := beq_iff_eq.mpr c2
    have c2b1 : (a0_0 != 0) = false := bne_eq_false_iff_eq.mpr c2
    clear c2
    obtain rfl := Option.some.inj H
    go_enter Tryd.func37, Tryd.ntmps37
    go_wp2_with (first | ((with_reducible refine gate_dst (N := 1) rfl ?_); (try (refine gate_guard (by rfl) ?_; dsimp only)); refine box_event ?hg (N := 1) ?hd (cs := #[.int .i64 a0_0, .int .i64 a0_1, .string a0_2]) (t := 43) ?hr ?_; (case hd => rfl); (case hg => rfl); (case hr => first | (go_simp; done) | (go_simp; rfl)); intro gb334 hg w3 hbox hb; have n0_ := Aside0.mk (below_step (by repeat (first | (with_reducible first | exact HB.out | apply below_alloc | apply pw_below_drewN | apply below_drew1) | exact HB.out)) hb); have n1_ := Aside0.mk (hbox); have n2_ := Aside0.mk ((by rw [hg]; exact (below_size (by repeat (first | (with_reducible first | exact HB.out | apply below_alloc | apply pw_below_drewN | apply below_drew1) | exact HB.out))) : w.heap.size ≤ gb334)); have n3_ := Aside0.mk ((by rw [hg]; exact (below_size (by repeat (first | (with_reducible first | exact HB.out | apply below_alloc | apply pw_below_drewN | apply below_drew1) | exact HB.out))) : w.heap.size ≤ gb334)); clear HB; have HB := n0_; have BK334 := n1_; have GW334 := n2_; have GE334 := n3_; clear n0_ n1_ n2_ n3_; clear hb hbox hg; have hcz4_0 : w3.cell? ⟨gb334, 0, none⟩ = some (.int .i64 a0_0) := (blk_cell BK334.out 0).trans rfl; have hcz4_1 : w3.cell? ⟨gb334, 1, none⟩ = some (.int .i64 a0_1) := (blk_cell BK334.out 1).trans rfl; have hcz4_2 : w3.cell? ⟨gb334, 2, none⟩ = some (.string a0_2) := (blk_cell BK334.out 2).trans rfl; have hfz4_0 := blk_frozen BK334.out 0; have hfz4_1 := blk_frozen BK334.out 1; have hfz4_2 := blk_frozen BK334.out 2))
    go_ret
    exact ⟨by first | rfl | (simp [errW_none, errW_some] <;> rfl) | (simp [*, errW_none, errW_some] <;> rfl), by repeat (first | (with_reducible first | exact HB.out | apply below_alloc | apply pw_below_drewN | apply below_drew1 | refine below_set ?_ GE334.out) | exact HB.out)⟩
  · rw [if_neg c2] at H
    have c2b0 : (a0_0 == 0) = false := beq_eq_false_iff_ne.mpr c2
    have c2b1 : (a0_0 != 0) = true := bne_iff_ne.mpr c2
    by_cases c5 : a0_0 = 1
    · rw [if_pos c5] at H
      have c5b0 : (a0_0 == 1) = true := beq_iff_eq.mpr c5
      have c5b1 : (a0_0 != 1) = false := bne_eq_false_iff_eq.mpr c5
      clear c5
      obtain rfl := Option.some.inj H
      go_enter Tryd.func37, Tryd.ntmps37
      go_wp2_with (first | ((with_reducible refine gate_dst (N := 1) rfl ?_); (try (refine gate_guard (by rfl) ?_; dsimp only)); refine box_event ?hg (N := 1) ?hd (cs := #[.int .i64 a0_0, .int .i64 a0_1, .string a0_2]) (t := 43) ?hr ?_; (case hd => rfl); (case hg => rfl); (case hr => first | (go_simp; done) | (go_simp; rfl)); intro gb334 hg w6 hbox hb; have n0_ := Aside0.mk (below_step (by repeat (first | (with_reducible first | exact HB.out | apply below_alloc | apply pw_below_drewN | apply below_drew1) | exact HB.out)) hb); have n1_ := Aside0.mk (hbox); have n2_ := Aside0.mk ((by rw [hg]; exact (below_size (by repeat (first | (with_reducible first | exact HB.out | apply below_alloc | apply pw_below_drewN | apply below_drew1) | exact HB.out))) : w.heap.size ≤ gb334)); have n3_ := Aside0.mk ((by rw [hg]; exact (below_size (by repeat (first | (with_reducible first | exact HB.out | apply below_alloc | apply pw_below_drewN | apply below_drew1) | exact HB.out))) : w.heap.size ≤ gb334)); clear HB; have HB := n0_; have BK334 := n1_; have GW334 := n2_; have GE334 := n3_; clear n0_ n1_ n2_ n3_; clear hb hbox hg; have hcz7_0 : w6.cell? ⟨gb334, 0, none⟩ = some (.int .i64 a0_0) := (blk_cell BK334.out 0).trans rfl; have hcz7_1 : w6.cell? ⟨gb334, 1, none⟩ = some (.int .i64 a0_1) := (blk_cell BK334.out 1).trans rfl; have hcz7_2 : w6.cell? ⟨gb334, 2, none⟩ = some (.string a0_2) := (blk_cell BK334.out 2).trans rfl; have hfz7_0 := blk_frozen BK334.out 0; have hfz7_1 := blk_frozen BK334.out 1; have hfz7_2 := blk_frozen BK334.out 2))
      go_ret
      exact ⟨by first | rfl | (simp [errW_none, errW_some] <;> rfl) | (simp [*, errW_none, errW_some] <;> rfl), by repeat (first | (with_reducible first | exact HB.out | apply below_alloc | apply pw_below_drewN | apply below_drew1 | refine below_set ?_ GE334.out) | exact HB.out)⟩
    · rw [if_neg c5] at H
      have c5b0 : (a0_0 == 1) = false := beq_eq_false_iff_ne.mpr c5
      have c5b1 : (a0_0 != 1) = true := bne_iff_ne.mpr c5
      by_cases c8 : a0_0 = 2
      · rw [if_pos c8] at H
        have c8b0 : (a0_0 == 2) = true := beq_iff_eq.mpr c8
        have c8b1 : (a0_0 != 2) = false := bne_eq_false_iff_eq.mpr c8
        clear c8
        by_cases c9 : a0_2.toList = ([] : List UInt8)
        · rw [if_pos c9] at H
          have c9b0 : (a0_2.toList == ([] : List UInt8)) = true := beq_iff_eq.mpr c9
          have c9b1 : (a0_2.toList != ([] : List UInt8)) = false := bne_eq_false_iff_eq.mpr c9
          clear c9
          by_cases c10 : a0_1 = 0
          · rw [if_pos c10] at H
            have c10b0 : (a0_1 == 0) = true := beq_iff_eq.mpr c10
            have c10b1 : (a0_1 != 0) = false := bne_eq_false_iff_eq.mpr c10
            clear c10
            obtain rfl := Option.some.inj H
            go_enter Tryd.func37, Tryd.ntmps37
            go_wp2_with (first | ((with_reducible refine gate_dst (N := 1) rfl ?_); (try (refine gate_guard (by rfl) ?_; dsimp only)); refine box_event ?hg (N := 1) ?hd (cs := #[.int .i64 a0_0, .int .i64 a0_1, .string a0_2]) (t := 43) ?hr ?_; (case hd => rfl); (case hg => rfl); (case hr => first | (go_simp; done) | (go_simp; rfl)); intro gb334 hg w11 hbox hb; have n0_ := Aside0.mk (below_step (by repeat (first | (with_reducible first | exact HB.out | apply below_alloc | apply pw_below_drewN | apply below_drew1) | exact HB.out)) hb); have n1_ := Aside0.mk (hbox); have n2_ := Aside0.mk ((by rw [hg]; exact (below_size (by repeat (first | (with_reducible first | exact HB.out | apply below_alloc | apply pw_below_drewN | apply below_drew1) | exact HB.out))) : w.heap.size ≤ gb334)); have n3_ := Aside0.mk ((by rw [hg]; exact (below_size (by repeat (first | (with_reducible first | exact HB.out | apply below_alloc | apply pw_below_drewN | apply below_drew1) | exact HB.out))) : w.heap.size ≤ gb334)); clear HB; have HB := n0_; have BK334 := n1_; have GW334 := n2_; have GE334 := n3_; clear n0_ n1_ n2_ n3_; clear hb hbox hg; have hcz12_0 : w11.cell? ⟨gb334, 0, none⟩ = some (.int .i64 a0_0) := (blk_cell BK334.out 0).trans rfl; have hcz12_1 : w11.cell? ⟨gb334, 1, none⟩ = some (.int .i64 a0_1) := (blk_cell BK334.out 1).trans rfl; have hcz12_2 : w11.cell? ⟨gb334, 2, none⟩ = some (.string a0_2) := (blk_cell BK334.out 2).trans rfl; have hfz12_0 := blk_frozen BK334.out 0; have hfz12_1 := blk_frozen BK334.out 1; have hfz12_2 := blk_frozen BK334.out 2))
            go_ret
            exact ⟨by first | rfl | (simp [errW_none, errW_some] <;> rfl) | (simp [*, errW_none, errW_some] <;> rfl), by repeat (first | (with_reducible first | exact HB.out | apply below_alloc | apply pw_below_drewN | apply below_drew1 | refine below_set ?_ GE334.out) | exact HB.out)⟩
          · rw [if_neg c10] at H
            have c10b0 : (a0_1 == 0) = false := beq_eq_false_iff_ne.mpr c10
            have c10b1 : (a0_1 != 0) = true := bne_iff_ne.mpr c10
            obtain rfl := Option.some.inj H
            go_enter Tryd.func37, Tryd.ntmps37
            go_wp2_with (first | ((with_reducible refine gate_dst (N := 1) rfl ?_); (try (refine gate_guard (by rfl) ?_; dsimp only)); refine box_event ?hg (N := 1) ?hd (cs := #[.int .i64 a0_0, .int .i64 a0_1, .string a0_2]) (t := 43) ?hr ?_; (case hd => rfl); (case hg => rfl); (case hr => first | (go_simp; done) | (go_simp; rfl)); intro gb334 hg w13 hbox hb; have n0_ := Aside0.mk (below_step (by repeat (first | (with_reducible first | exact HB.out | apply below_alloc | apply pw_below_drewN | apply below_drew1) | exact HB.out)) hb); have n1_ := Aside0.mk (hbox); have n2_ := Aside0.mk ((by rw [hg]; exact (below_size (by repeat (first | (with_reducible first | exact HB.out | apply below_alloc | apply pw_below_drewN | apply below_drew1) | exact HB.out))) : w.heap.size ≤ gb334)); have n3_ := Aside0.mk ((by rw [hg]; exact (below_size (by repeat (first | (with_reducible first | exact HB.out | apply below_alloc | apply pw_below_drewN | apply below_drew1) | exact HB.out))) : w.heap.size ≤ gb334)); clear HB; have HB := n0_; have BK334 := n1_; have GW334 := n2_; have GE334 := n3_; clear n0_ n1_ n2_ n3_; clear hb hbox hg; have hcz14_0 : w13.cell? ⟨gb334, 0, none⟩ = some (.int .i64 a0_0) := (blk_cell BK334.out 0).trans rfl; have hcz14_1 : w13.cell? ⟨gb334, 1, none⟩ = some (.int .i64 a0_1) := (blk_cell BK334.out 1).trans rfl; have hcz14_2 : w13.cell? ⟨gb334, 2, none⟩ = some (.string a0_2) := (blk_cell BK334.out 2).trans rfl; have hfz14_0 := blk_frozen BK334.out 0; have hfz14_1 := blk_frozen BK334.out 1; have hfz14_2 := blk_frozen BK334.out 2))
            go_ret
            exact ⟨by first | rfl | (simp [errW_none, errW_some] <;> rfl) | (simp [*, errW_none, errW_some] <;> rfl), by repeat (first | (with_reducible first | exact HB.out | apply below_alloc | apply pw_below_drewN | apply below_drew1 | refine below_set ?_ GE334.out) | exact HB.out)⟩
        · rw [if_neg c9] at H
          have c9b0 : (a0_2.toList == ([] : List UInt8)) = false := beq_eq_false_iff_ne.mpr c9
          have c9b1 : (a0_2.toList != ([] : List UInt8)) = true := bne_iff_ne.mpr c9
          obtain rfl := Option.some.inj H
          go_enter Tryd.func37, Tryd.ntmps37
          go_wp2_with (first | ((with_reducible refine gate_dst (N := 1) rfl ?_); (try (refine gate_guard (by rfl) ?_; dsimp only)); refine box_event ?hg (N := 1) ?hd (cs := #[.int .i64 a0_0, .int .i64 a0_1, .string a0_2]) (t := 43) ?hr ?_; (case hd => rfl); (case hg => rfl); (case hr => first | (go_simp; done) | (go_simp; rfl)); intro gb334 hg w15 hbox hb; have n0_ := Aside0.mk (below_step (by repeat (first | (with_reducible first | exact HB.out | apply below_alloc | apply pw_below_drewN | apply below_drew1) | exact HB.out)) hb); have n1_ := Aside0.mk (hbox); have n2_ := Aside0.mk ((by rw [hg]; exact (below_size (by repeat (first | (with_reducible first | exact HB.out | apply below_alloc | apply pw_below_drewN | apply below_drew1) | exact HB.out))) : w.heap.size ≤ gb334)); have n3_ := Aside0.mk ((by rw [hg]; exact (below_size (by repeat (first | (with_reducible first | exact HB.out | apply below_alloc | apply pw_below_drewN | apply below_drew1) | exact HB.out))) : w.heap.size ≤ gb334)); clear HB; have HB := n0_; have BK334 := n1_; have GW334 := n2_; have GE334 := n3_; clear n0_ n1_ n2_ n3_; clear hb hbox hg; have hcz16_0 : w15.cell? ⟨gb334, 0, none⟩ = some (.int .i64 a0_0) := (blk_cell BK334.out 0).trans rfl; have hcz16_1 : w15.cell? ⟨gb334, 1, none⟩ = some (.int .i64 a0_1) := (blk_cell BK334.out 1).trans rfl; have hcz16_2 : w15.cell? ⟨gb334, 2, none⟩ = some (.string a0_2) := (blk_cell BK334.out 2).trans rfl; have hfz16_0 := blk_frozen BK334.out 0; have hfz16_1 := blk_frozen BK334.out 1; have hfz16_2 := blk_frozen BK334.out 2))
          go_ret
          exact ⟨by first | rfl | (simp [errW_none, errW_some] <;> rfl) | (simp [*, errW_none, errW_some] <;> rfl), by repeat (first | (with_reducible first | exact HB.out | apply below_alloc | apply pw_below_drewN | apply below_drew1 | refine below_set ?_ GE334.out) | exact HB.out)⟩
      · rw [if_neg c8] at H
        have c8b0 : (a0_0 == 2) = false := beq_eq_false_iff_ne.mpr c8
        have c8b1 : (a0_0 != 2) = true := bne_iff_ne.mpr c8
        by_cases c17 : a0_0 = 3
        · rw [if_pos c17] at H
          have c17b0 : (a0_0 == 3) = true := beq_iff_eq.mpr c17
          have c17b1 : (a0_0 != 3) = false := bne_eq_false_iff_eq.mpr c17
          clear c17
          by_cases c18 : a0_1 = 0
          · rw [if_pos c18] at H
            have c18b0 : (a0_1 == 0) = true := beq_iff_eq.mpr c18
            have c18b1 : (a0_1 != 0) = false := bne_eq_false_iff_eq.mpr c18
            clear c18
            obtain rfl := Option.some.inj H
            go_enter Tryd.func37, Tryd.ntmps37
            go_wp2_with (first | ((with_reducible refine gate_dst (N := 1) rfl ?_); (try (refine gate_guard (by rfl) ?_; dsimp only)); refine box_event ?hg (N := 1) ?hd (cs := #[.int .i64 a0_0, .int .i64 a0_1, .string a0_2]) (t := 43) ?hr ?_; (case hd => rfl); (case hg => rfl); (case hr => first | (go_simp; done) | (go_simp; rfl)); intro gb334 hg w19 hbox hb; have n0_ := Aside0.mk (below_step (by repeat (first | (with_reducible first | exact HB.out | apply below_alloc | apply pw_below_drewN | apply below_drew1) | exact HB.out)) hb); have n1_ := Aside0.mk (hbox); have n2_ := Aside0.mk ((by rw [hg]; exact (below_size (by repeat (first | (with_reducible first | exact HB.out | apply below_alloc | apply pw_below_drewN | apply below_drew1) | exact HB.out))) : w.heap.size ≤ gb334)); have n3_ := Aside0.mk ((by rw [hg]; exact (below_size (by repeat (first | (with_reducible first | exact HB.out | apply below_alloc | apply pw_below_drewN | apply below_drew1) | exact HB.out))) : w.heap.size ≤ gb334)); clear HB; have HB := n0_; have BK334 := n1_; have GW334 := n2_; have GE334 := n3_; clear n0_ n1_ n2_ n3_; clear hb hbox hg; have hcz20_0 : w19.cell? ⟨gb334, 0, none⟩ = some (.int .i64 a0_0) := (blk_cell BK334.out 0).trans rfl; have hcz20_1 : w19.cell? ⟨gb334, 1, none⟩ = some (.int .i64 a0_1) := (blk_cell BK334.out 1).trans rfl; have hcz20_2 : w19.cell? ⟨gb334, 2, none⟩ = some (.string a0_2) := (blk_cell BK334.out 2).trans rfl; have hfz20_0 := blk_frozen BK334.out 0; have hfz20_1 := blk_frozen BK334.out 1; have hfz20_2 := blk_frozen BK334.out 2))
            go_ret
            exact ⟨by first | rfl | (simp [errW_none, errW_some] <;> rfl) | (simp [*, errW_none, errW_some] <;> rfl), by repeat (first | (with_reducible first | exact HB.out | apply below_alloc | apply pw_below_drewN | apply below_drew1 | refine below_set ?_ GE334.out) | exact HB.out)⟩
          · rw [if_neg c18] at H
            have c18b0 : (a0_1 == 0) = false := beq_eq_false_iff_ne.mpr c18
            have c18b1 : (a0_1 != 0) = true := bne_iff_ne.mpr c18
            obtain rfl := Option.some.inj H
            go_enter Tryd.func37, Tryd.ntmps37
            go_wp2_with (first | ((with_reducible refine gate_dst (N := 1) rfl ?_); (try (refine gate_guard (by rfl) ?_; dsimp only)); refine box_event ?hg (N := 1) ?hd (cs := #[.int .i64 a0_0, .int .i64 a0_1, .string a0_2]) (t := 43) ?hr ?_; (case hd => rfl); (case hg => rfl); (case hr => first | (go_simp; done) | (go_simp; rfl)); intro gb334 hg w21 hbox hb; have n0_ := Aside0.mk (below_step (by repeat (first | (with_reducible first | exact HB.out | apply below_alloc | apply pw_below_drewN | apply below_drew1) | exact HB.out)) hb); have n1_ := Aside0.mk (hbox); have n2_ := Aside0.mk ((by rw [hg]; exact (below_size (by repeat (first | (with_reducible first | exact HB.out | apply below_alloc | apply pw_below_drewN | apply below_drew1) | exact HB.out))) : w.heap.size ≤ gb334)); have n3_ := Aside0.mk ((by rw [hg]; exact (below_size (by repeat (first | (with_reducible first | exact HB.out | apply below_alloc | apply pw_below_drewN | apply below_drew1) | exact HB.out))) : w.heap.size ≤ gb334)); clear HB; have HB := n0_; have BK334 := n1_; have GW334 := n2_; have GE334 := n3_; clear n0_ n1_ n2_ n3_; clear hb hbox hg; have hcz22_0 : w21.cell? ⟨gb334, 0, none⟩ = some (.int .i64 a0_0) := (blk_cell BK334.out 0).trans rfl; have hcz22_1 : w21.cell? ⟨gb334, 1, none⟩ = some (.int .i64 a0_1) := (blk_cell BK334.out 1).trans rfl; have hcz22_2 : w21.cell? ⟨gb334, 2, none⟩ = some (.string a0_2) := (blk_cell BK334.out 2).trans rfl; have hfz22_0 := blk_frozen BK334.out 0; have hfz22_1 := blk_frozen BK334.out 1; have hfz22_2 := blk_frozen BK334.out 2))
            go_ret
            exact ⟨by first | rfl | (simp [errW_none, errW_some] <;> rfl) | (simp [*, errW_none, errW_some] <;> rfl), by repeat (first | (with_reducible first | exact HB.out | apply below_alloc | apply pw_below_drewN | apply below_drew1 | refine below_set ?_ GE334.out) | exact HB.out)⟩
        · rw [if_neg c17] at H
          have c17b0 : (a0_0 == 3) = false := beq_eq_false_iff_ne.mpr c17
          have c17b1 : (a0_0 != 3) = true := bne_iff_ne.mpr c17
          obtain rfl := Option.some.inj H
          go_enter Tryd.func37, Tryd.ntmps37
          go_wp2_with (first | ((with_reducible refine gate_dst (N := 1) rfl ?_); (try (refine gate_guard (by rfl) ?_; dsimp only)); refine box_event ?hg (N := 1) ?hd (cs := #[.int .i64 a0_0, .int .i64 a0_1, .string a0_2]) (t := 43) ?hr ?_; (case hd => rfl); (case hg => rfl); (case hr => first | (go_simp; done) | (go_simp; rfl)); intro gb334 hg w23 hbox hb; have n0_ := Aside0.mk (below_step (by repeat (first | (with_reducible first | exact HB.out | apply below_alloc | apply pw_below_drewN | apply below_drew1) | exact HB.out)) hb); have n1_ := Aside0.mk (hbox); have n2_ := Aside0.mk ((by rw [hg]; exact (below_size (by repeat (first | (with_reducible first | exact HB.out | apply below_alloc | apply pw_below_drewN | apply below_drew1) | exact HB.out))) : w.heap.size ≤ gb334)); have n3_ := Aside0.mk ((by rw [hg]; exact (below_size (by repeat (first | (with_reducible first | exact HB.out | apply below_alloc | apply pw_below_drewN | apply below_drew1) | exact HB.out))) : w.heap.size ≤ gb334)); clear HB; have HB := n0_; have BK334 := n1_; have GW334 := n2_; have GE334 := n3_; clear n0_ n1_ n2_ n3_; clear hb hbox hg; have hcz24_0 : w23.cell? ⟨gb334, 0, none⟩ = some (.int .i64 a0_0) := (blk_cell BK334.out 0).trans rfl; have hcz24_1 : w23.cell? ⟨gb334, 1, none⟩ = some (.int .i64 a0_1) := (blk_cell BK334.out 1).trans rfl; have hcz24_2 : w23.cell? ⟨gb334, 2, none⟩ = some (.string a0_2) := (blk_cell BK334.out 2).trans rfl; have hfz24_0 := blk_frozen BK334.out 0; have hfz24_1 := blk_frozen BK334.out 1; have hfz24_2 := blk_frozen BK334.out 2))
          go_ret
          exact ⟨by first | rfl | (simp [errW_none, errW_some] <;> rfl) | (simp [*, errW_none, errW_some] <;> rfl), by repeat (first | (with_reducible first | exact HB.out | apply below_alloc | apply pw_below_drewN | apply below_drew1 | refine below_set ?_ GE334.out) | exact HB.out)⟩

end Go.Proofs.YtjcgbppicdccdaaDoor.Q
end
section
/- value.RightRow (function 25), with its closure and the library's IndexFunc and ContainsFunc at that closure. -/
namespace Go.Proofs.YtjcgbppicdccdaaDoor.Q
open Go.RowKit Go.Proofs.YtjcgbppicdccdaaDoorW.PrintWords Go.Proofs.YtjcgbppicdccdaaDoorW.PrintLast Go.Proofs.YtjcgbppicdccdaaDoorW.PrintMore
set_option linter.unusedVariables false
set_option linter.unusedSimpArgs false

/-- Is a value right? -/
def rightV (x : S43) : Bool := (value_Right.f x.f0 x.f1 x.f2).getD false
theorem right_some (x : S43) : value_Right.f x.f0 x.f1 x.f2 = some (rightV x) := by
  unfold rightV value_Right.f
  repeat' split
  all_goals simp
def rightRow (l : List S43) : Bool := decide (l.length ≤ 8) && l.all rightV
def value_RightRow.f (l0 : List (S43)) : Option (Bool) := some (rightRow l0)

theorem closure36 (a b : Int) (s : ByteArray) (w : World) (r : Bool) (h : value_Right.f a b s = some r) :
    Calls Tryd.prog 36 #[.agg #[.int .i64 a, .int .i64 b, .string s]] w fun e w' => e = .returned (.bool (!r)) ∧ Below w.heap.size w w' := by
  have hu43 := Tryd.underlying43
  have H := Aside0.mk h
  clear h
  go_enter Tryd.func36, Tryd.ntmps36
  go_wp2_with (go_at_call 37; refine (value_Right.calls _ _ _ _ _ H.out).mono ?_; rintro e w' ⟨rfl, hb⟩; have HB := Aside0.mk hb; clear hb)
  go_ret
  exact ⟨rfl, below_step (below_alloc (Below.refl _ _) _) HB.out⟩

/-- Where the first value stands that isn't right; -1. -/
def badFrom : Nat → List S43 → Int → Int
  | 0, _, _ => -1
  | d + 1, l, i => if rightV (rd_T43 l i) then badFrom d l (i + 1) else i

theorem indexFunc36 (A0 : Option Addr) (c0 : Nat) (l0 : List S43) (w : World) (hr0 : Kd.C k43 w A0 l0.length l0) (hc0 : l0.length ≤ c0) :
    Calls Tryd.prog 44 #[.slice A0 l0.length c0, .func (.func 36) #[] #[]] w fun e w' => e = .returned (.int .i64 (badFrom l0.length l0 0)) ∧ Below w.heap.size w w' := by
  have hu43 := Tryd.underlying43
  have hlen : l0.length ≤ 9223372036854775807 := hr0.2.1
  have HR0 := Aside0.mk hr0
  clear hr0 hc0
  have HB := Aside0.mk (Below.refl w.heap.size w)
  go_enter Tryd.func44, Tryd.ntmps44
  go_wp2
  go_loopg [8] l0.length (fun gq v8 w' => ∃ (i : Nat), v8 = .int .i64 i ∧ i + gq = l0.length ∧ Aside0 (badFrom gq l0 i = badFrom l0.length l0 0) ∧ Aside0 (Below w.heap.size w w'))
  case atStart => exact ⟨0, rfl, by omega, ⟨rfl⟩, HB⟩
  case round =>
    clear HB
    obtain ⟨i, rfl, hi, HA, HB⟩ := hrel
    cases gk with
    | zero =>
      have h0 : ¬ (i : Int) < (l0.length : Int) := by omega
      have HA' := Aside0.mk (show badFrom l0.length l0 0 = -1 by rw [← HA.out]; rfl)
      go_wp2
      go_ret
      exact ⟨by rw [HA'.out]; rfl, HB.out⟩
    | succ g =>
      have h0 : (i : Int) < (l0.length : Int) := by omega
      have h00 : (0 : Int) ≤ (i : Int) := by omega
      obtain ⟨ad, e177, hx_0, hx_1, hx_2⟩ := at_T43 HR0.out i h00 h0
      cases e177
      rw [Int.toNat_natCast] at hx_0 hx_1 hx_2
      replace hx_0 := (HB.out.cell (World.block_lt_of_cell? w _ hx_0)).trans hx_0
      replace hx_1 := (HB.out.cell (World.block_lt_of_cell? w _ hx_1)).trans hx_1
      replace hx_2 := (HB.out.cell (World.block_lt_of_cell? w _ hx_2)).trans hx_2
      have HV := Aside0.mk (right_some (rd_T43 l0 i))
      by_cases hv : rightV (rd_T43 l0 i) = true
      · have HA' : badFrom g l0 ((i : Int) + 1) = badFrom l0.length l0 0 := by rw [← HA.out, badFrom, if_pos hv]
        have HH := Aside0.mk hv
        clear hv HA
        have HA2 := Aside0.mk HA'
        clear HA'
        have hm : i < l0.length := by omega
        go_wp2_with (go_at_call 36; refine (closure36 _ _ _ _ _ HV.out).mono ?_; rintro e w1 ⟨rfl, hb⟩; rw [HH.out]; have HB1 := Aside0.mk (below_step HB.out hb); clear hb)
        go_roundg g
        case measure => omega
        case rel => exact ⟨i + 1, by go_num, by omega, ⟨HA2.out⟩, HB1⟩
      · replace hv := Bool.eq_false_iff.mpr hv
        have HA' : (i : Int) = badFrom l0.length l0 0 := by rw [← HA.out, badFrom, if_neg (by simp [hv])]
        have HH := Aside0.mk hv
        have HA2 := Aside0.mk HA'
        clear hv HA HA'
        have hm : i < l0.length := by omega
        go_wp2_with (go_at_call 36; refine (closure36 _ _ _ _ _ HV.out).mono ?_; rintro e w1 ⟨rfl, hb⟩; rw [HH.out]; have HB1 := Aside0.mk (below_step HB.out hb); clear hb)
        go_ret
        exact ⟨by rw [← HA2.out]; rfl, HB1.out⟩

theorem containsFunc36 (A0 : Option Addr) (c0 : Nat) (l0 : List S43) (w : World) (hr0 : Kd.C k43 w A0 l0.length l0) (hc0 : l0.length ≤ c0) :
    Calls Tryd.prog 35 #[.slice A0 l0.length c0, .func (.func 36) #[] #[]] w fun e w' => e = .returned (.bool (decide (badFrom l0.length l0 0 ≥ 0))) ∧ Below w.heap.size w w' := by
  have HR0 := Aside0.mk hr0
  have HC0 := Aside0.mk hc0
  clear hr0 hc0
  go_enter Tryd.func35, Tryd.ntmps35
  go_wp2_with (go_at_call 44; refine (indexFunc36 _ _ _ _ HR0.out HC0.out).mono ?_; rintro e w1 ⟨rfl, hb⟩; have HB1 := Aside0.mk hb; clear hb)
  go_ret
  exact ⟨rfl, HB1.out⟩

theorem bad_all (l : List S43) : ∀ (d i : Nat), i + d = l.length → (decide (badFrom d l i ≥ 0) = !(l.drop i).all rightV)
  | 0, i, h => by
    have : l.drop i = [] := by rw [List.drop_eq_nil_iff]; omega
    simp [badFrom, this]
  | d + 1, i, h => by
    have hi : i < l.length := by omega
    rw [List.drop_eq_getElem_cons hi, List.all_cons]
    have e : rd_T43 l (i : Int) = l[i] := by unfold rd_T43; simp [hi]
    unfold badFrom
    rw [e]
    by_cases hv : rightV l[i] = true
    · rw [if_pos hv, hv]
      have := bad_all l d (i + 1) (by omega)
      simpa using this
    · rw [if_neg hv]
      simp [hv]

theorem value_RightRow.calls (A0 : Option Addr) (c0 : Nat) (l0 : List (S43)) (r : Bool) (w : World) (hr0 : Kd.C k43 w A0 l0.length l0) (hc0 : l0.length ≤ c0) (h : value_RightRow.f l0 = some r) :
    Calls Tryd.prog 25 #[.slice A0 l0.length c0] w fun e w' => e = .returned (.bool r) ∧ Below w.heap.size w w' := by
  obtain rfl := Option.some.inj h
  have hb := bad_all l0 l0.length 0 (by omega)
  have HR0 := Aside0.mk hr0
  have HC0 := Aside0.mk hc0
  clear hr0 hc0
  by_cases h8 : (l0.length : Int) ≤ 8
  · have h8b : decide ((l0.length : Int) ≤ 8) = true := decide_eq_true h8
    have h8n : decide (l0.length ≤ 8) = true := decide_eq_true (by omega)
    have e : rightRow l0 = !decide (badFrom l0.length l0 0 ≥ 0) := by
      unfold rightRow
      rw [show badFrom l0.length l0 0 = badFrom l0.length l0 ((0 : Nat) : Int) from rfl, hb, h8n]
      simp
    have HE := Aside0.mk e
    clear e hb h8
    go_enter Tryd.func25, Tryd.ntmps25
    go_wp2_with (go_at_call 35; refine (containsFunc36 _ _ _ _ HR0.out HC0.out).mono ?_; rintro e w1 ⟨rfl, hb⟩; have HB1 := Aside0.mk hb; clear hb)
    go_ret
    exact ⟨by rw [HE.out]; rfl, HB1.out⟩
  · have h8b : decide ((l0.length : Int) ≤ 8) = false := decide_eq_false h8
    have h8n : decide (l0.length ≤ 8) = false := decide_eq_false (by omega)
    have e : rightRow l0 = false := by unfold rightRow; rw [h8n]; rfl
    have HE := Aside0.mk e
    clear e hb h8
    go_enter Tryd.func25, Tryd.ntmps25
    go_wp2
    go_ret
    exact ⟨by rw [HE.out]; rfl, Below.refl _ _⟩
end Go.Proofs.YtjcgbppicdccdaaDoor.Q
end
section
/- key.Encode (function 11). -/
namespace Go.Proofs.YtjcgbppicdccdaaDoor.Q
open Go.RowKit Go.Proofs.YtjcgbppicdccdaaDoorW.PrintWords Go.Proofs.YtjcgbppicdccdaaDoorW.PrintLast Go.Proofs.YtjcgbppicdccdaaDoorW.PrintMore
set_option linter.unusedVariables false
set_option linter.unusedSimpArgs false

def numL (n : Int) : List UInt8 := (numBytes (turned n)).map fun z => UInt8.ofNat z.toNat
/-- A value's key bytes. -/
def oneL (v : S43) : List UInt8 :=
  UInt8.ofNat (v.f0 % 256).toNat :: (if v.f0 = 1 then numL v.f1 else if v.f0 = 2 then [UInt8.ofNat (v.f1 % 256).toNat] else if v.f0 = 3 then escL v.f2.data.toList ++ [0, 1] else [])
def encL (l : List S43) : List UInt8 := l.flatMap oneL
def key_Encode.f (l0 : List (S43)) : Option (ByteArray × Bool) := some (if rightRow l0 = true then (⟨(encL l0).toArray⟩, true) else (⟨#[]⟩, false))

theorem right3 {v : S43} (h : rightV v = true) (h3 : v.f0 = 3) : v.f2.size ≤ 16 := by
  unfold rightV value_Right.f at h
  rw [h3] at h
  by_cases h0 : v.f1 = 0
  · simp [h0] at h; omega
  · simp [h0] at h
theorem oneL_len {v : S43} (h : rightV v = true) : (oneL v).length ≤ 35 := by
  unfold oneL numL numBytes
  split
  · simp
  · split
    · simp
    · split
      · rename_i h3
        have := right3 h h3
        have h1 : v.f2.data.toList.length = v.f2.size := by simp
        have h2 : v.f2.data.toList.count 0 ≤ v.f2.data.toList.length := List.count_le_length
        simp only [List.length_cons, List.length_append, escL_len, List.length_nil]
        omega
      · simp

/-- One byte as a text. -/
theorem conv1 (W : World) (n : Nat) (b0 : Int) (hn : W.heap.size = n) :
    (convert 45 9 (.slice (some ⟨n, 0, none⟩) 1 1)).run Tryd.prog (W.alloc (.cells #[.int .u8 b0] 5)) = .ok (.string (strOfNums [b0])) (W.alloc (.cells #[.int .u8 b0] 5)) := by
  subst hn
  refine string_of_reads (e := 5) Tryd.underlying45 Tryd.underlying5 Tryd.underlying9 ⟨rfl, by decide, fun _ => ⟨_, rfl, fun j hj => ?_⟩⟩
  match j, hj with
  | 0, _ => simp [Addr.add]
theorem one_size (b : Int) : (strOfNums [b]).size = 1 := by simp [strOfNums, ByteArray.size]
theorem num_size (b : Int) : (strOfNums (numBytes b)).size = 8 := by simp [strOfNums, numBytes, ByteArray.size]

set_option maxHeartbeats 1000000 in
theorem one_any (v : S43) (w : World) (hv : rightV v = true) :
    Calls Tryd.prog 27 #[.agg #[.int .i64 v.f0, .int .i64 v.f1, .string v.f2]] w fun e w' => e = .returned (.string ⟨(oneL v).toArray⟩) ∧ Below w.heap.size w w' := by
  have hu43 := Tryd.underlying43
  have hc : ∀ o b0, (convert 45 9 (.slice (some ⟨w.heap.size + 1, 0, none⟩) 1 1)).run Tryd.prog ((w.alloc o).alloc (.cells #[.int .u8 b0] 5)) = .ok (.string (strOfNums [b0])) ((w.alloc o).alloc (.cells #[.int .u8 b0] 5)) := fun o b0 => conv1 _ _ _ (by simp)
  have hc2 : ∀ o o2 b0, (convert 45 9 (.slice (some ⟨w.heap.size + 1 + 1, 0, none⟩) 1 1)).run Tryd.prog (((w.alloc o).alloc o2).alloc (.cells #[.int .u8 b0] 5)) = .ok (.string (strOfNums [b0])) (((w.alloc o).alloc o2).alloc (.cells #[.int .u8 b0] 5)) := fun o o2 b0 => conv1 _ _ _ (by simp)
  have h1s := one_size
  have h8s := num_size
  by_cases h3 : v.f0 = 3
  · have hs := right3 hv h3
    have h1 : v.f2.data.toList.length = v.f2.size := by simp
    have h2 : v.f2.data.toList.count 0 ≤ v.f2.data.toList.length := List.count_le_length
    have hl : (esc v.f2).size ≤ 32 := by
      have h5 : (esc v.f2).size = (escL v.f2.data.toList).length := by simp [esc, ByteArray.size]
      rw [h5, escL_len]
      omega
    have hf : strings_ReplaceAll.f v.f2 ⟨#[0]⟩ ⟨#[0, 255]⟩ = some (esc v.f2) := by unfold strings_ReplaceAll.f; rw [if_pos ⟨rfl, rfl, by omega⟩]
    have HF := Aside0.mk hf
    have b1 : (v.f0 == 1) = false := by simp [h3]
    have b2 : (v.f0 == 2) = false := by simp [h3]
    have b3 : (v.f0 == 3) = true := by simp [h3]
    have HE := Aside0.mk (show strOfNums [v.f0 % 256] ++ esc v.f2 ++ ⟨#[0, 1]⟩ = ⟨(oneL v).toArray⟩ by
      apply ByteArray.ext
      simp [oneL, h3, strOfNums, esc])
    clear hv h3 hs h1 h2 hf
    go_enter Tryd.func27, Tryd.ntmps27
    go_wp2_with (go_at_call 40; refine (strings_ReplaceAll.calls _ _ _ _ _ HF.out).mono ?_; rintro e w1 ⟨rfl, hb⟩; have HB := Aside0.mk hb; clear hb)
    go_ret
    exact ⟨by rw [← HE.out]; rfl, below_step (below_alloc (below_alloc (Below.refl _ _) _) _) HB.out⟩
  · have b3 : (v.f0 == 3) = false := by simp [h3]
    by_cases h1 : v.f0 = 1
    · have b1 : (v.f0 == 1) = true := by simp [h1]
      have HE := Aside0.mk (show strOfNums [v.f0 % 256] ++ strOfNums (numBytes (turned v.f1)) = ⟨(oneL v).toArray⟩ by
        apply ByteArray.ext
        simp [oneL, h1, strOfNums, numL])
      clear hv h3 h1
      go_enter Tryd.func27, Tryd.ntmps27
      go_wp2_with (go_at_call 39; refine (key_number.calls _ _ _ rfl).mono ?_; rintro e w1 ⟨rfl, hb⟩; have HB := Aside0.mk hb; clear hb)
      go_ret
      exact ⟨by rw [← HE.out]; rfl, below_step (below_alloc (below_alloc (Below.refl _ _) _) _) HB.out⟩
    · have b1 : (v.f0 == 1) = false := by simp [h1]
      by_cases h2 : v.f0 = 2
      · have b2 : (v.f0 == 2) = true := by simp [h2]
        have HE := Aside0.mk (show strOfNums [v.f0 % 256] ++ strOfNums [v.f1 % 256] = ⟨(oneL v).toArray⟩ by
          apply ByteArray.ext
          simp [oneL, h2, strOfNums])
        clear hv h3 h1 h2
        go_enter Tryd.func27, Tryd.ntmps27
        go_wp2
        go_ret
        exact ⟨by rw [← HE.out]; rfl, below_alloc (below_alloc (below_alloc (Below.refl _ _) _) _) _⟩
      · have b2 : (v.f0 == 2) = false := by simp [h2]
        have HE := Aside0.mk (show strOfNums [v.f0 % 256] = ⟨(oneL v).toArray⟩ by
          apply ByteArray.ext
          simp [oneL, h1, h2, h3, strOfNums])
        clear hv h3 h1 h2
        go_enter Tryd.func27, Tryd.ntmps27
        go_wp2
        go_ret
        exact ⟨by rw [← HE.out]; rfl, below_alloc (below_alloc (Below.refl _ _) _) _⟩

theorem builder_below {B b : Nat} {bs : List Value} {W W' : World} (h : Lib.IsBuilder 47 5 B b bs W) (hb : Below W.heap.size W W') : Lib.IsBuilder 47 5 B b bs W' := by
  rcases h with h | h
  · obtain ⟨h1, v, h2, h3, h4⟩ := h
    exact .inl ⟨h1, v, blk_below h2 hb, pw_own_below h3 hb, h4⟩
  · obtain ⟨h1, v, h2, h3, h4⟩ := h
    exact .inr ⟨h1, v, blk_below h2 hb, pw_own_below h3 hb, h4⟩
theorem encL_len : ∀ (l : List S43), l.all rightV = true → (encL l).length ≤ l.length * 35
  | [], _ => by simp [encL]
  | v :: l, h => by
    rw [List.all_cons, Bool.and_eq_true] at h
    have h1 := oneL_len h.1
    have h2 := encL_len l h.2
    simp only [encL, List.flatMap_cons, List.length_append, List.length_cons] at h2 ⊢
    omega

set_option maxHeartbeats 2000000 in
set_option maxRecDepth 100000 in
theorem key_Encode.calls (A0 : Option Addr) (c0 : Nat) (l0 : List (S43)) (r1 : ByteArray) (r2 : Bool) (w : World) (hr0 : Kd.C k43 w A0 l0.length l0) (hc0 : l0.length ≤ c0) (h : key_Encode.f l0 = some (r1, r2)) :
    Calls Tryd.prog 11 #[.slice A0 l0.length c0] w fun e w' => e = .returned (.tuple #[.string r1, .bool r2]) ∧ Below w.heap.size w w' := by
  have hu43 := Tryd.underlying43
  have hu47 := Tryd.underlying47
  have HR0 := Aside0.mk hr0
  have HC0 := Aside0.mk hc0
  clear hr0 hc0
  unfold key_Encode.f at h
  have HV := Aside0.mk (show value_RightRow.f l0 = some (rightRow l0) from rfl)
  by_cases hv : rightRow l0 = true
  · rw [if_pos hv] at h
    obtain ⟨rfl, rfl⟩ := Prod.mk.inj (Option.some.inj h)
    clear h
    have hall : l0.all rightV = true := by unfold rightRow at hv; rw [Bool.and_eq_true] at hv; exact hv.2
    have h8 : l0.length ≤ 8 := by unfold rightRow at hv; rw [Bool.and_eq_true] at hv; exact of_decide_eq_true hv.1
    have HH := Aside0.mk hv
    have HL := Aside0.mk hall
    clear hv hall
    go_enter Tryd.func11, Tryd.ntmps11
    go_wp2_with (go_at_call 25; refine (value_RightRow.calls _ _ _ _ _ HR0.out HC0.out HV.out).mono ?_; rintro e w1 ⟨rfl, hb⟩; rw [HH.out]; have HB := Aside0.mk hb; clear hb)
    have HI := Aside0.mk (Lib.fresh_isBuilder 47 5 w1)
    have HBW := Aside0.mk (below_alloc (Below.refl w1.heap.size w1) (.cells #[.pointer none, .slice none 0 0] 47))
    go_loopg [12] l0.length (fun gq s12 wx => ∃ (i : Nat), s12 = .int .i64 i ∧ i + gq = l0.length ∧
      Aside0 (Lib.IsBuilder 47 5 w1.heap.size w1.heap.size (Lib.byteCells (encL (l0.take i))) wx) ∧ Aside0 (Below w1.heap.size w1 wx))
    case atStart => exact ⟨0, rfl, by omega, HI, HBW⟩
    case round =>
      clear HI HBW
      obtain ⟨i, rfl, hi, HI, HW⟩ := hrel
      have hBw : w1.heap.size ≤ wr.heap.size := HW.out.size
      cases gk with
      | zero =>
        have h0 : ¬ (i : Int) < (l0.length : Int) := by omega
        have HT := Aside0.mk (show l0.take i = l0 by rw [List.take_of_length_le]; omega)
        go_wp2_with fail
        refine (Tryd.Builder_String_any w1.heap.size w1.heap.size _ wr HI.out hBw).mono ?_
        rintro e w5 ⟨rfl, hb5⟩
        have Hb5 := Aside0.mk (below_step HB.out (HW.out.trans hb5))
        clear hb5
        go_wp2
        go_ret2
        exact ⟨by rw [HT.out]; rfl, Hb5.out⟩
      | succ g =>
        have h0 : (i : Int) < (l0.length : Int) := by omega
        have h00 : (0 : Int) ≤ (i : Int) := by omega
        have hin : i < l0.length := by omega
        obtain ⟨ad, e177, hx_0, hx_1, hx_2⟩ := at_T43 HR0.out i h00 h0
        cases e177
        rw [Int.toNat_natCast] at hx_0 hx_1 hx_2
        have HBr := Aside0.mk (below_step HB.out HW.out)
        replace hx_0 := (HBr.out.cell (World.block_lt_of_cell? w _ hx_0)).trans hx_0
        replace hx_1 := (HBr.out.cell (World.block_lt_of_cell? w _ hx_1)).trans hx_1
        replace hx_2 := (HBr.out.cell (World.block_lt_of_cell? w _ hx_2)).trans hx_2
        have hel : rd_T43 l0 (i : Int) = l0[i] := by unfold rd_T43; simp [hin]
        have HVI := Aside0.mk (show rightV (rd_T43 l0 (i : Int)) = true by rw [hel]; exact List.all_eq_true.1 HL.out _ (List.getElem_mem hin))
        have HN := Aside0.mk (show encL (l0.take i) ++ oneL (rd_T43 l0 (i : Int)) = encL (l0.take (i + 1)) by
          rw [List.take_succ_eq_append_getElem hin, hel, encL, encL, List.flatMap_append, List.flatMap_cons, List.flatMap_nil, List.append_nil])
        have hlen : (encL (l0.take i)).length + 35 ≤ 1000 := by
          have h1 := encL_len (l0.take i) (List.all_eq_true.2 fun x hx => List.all_eq_true.1 HL.out x (List.mem_of_mem_take hx))
          rw [List.length_take] at h1
          omega
        have hol := oneL_len HVI.out
        clear hel
        go_wp2_with (go_at_call 27; refine (one_any _ _ HVI.out).mono ?_; rintro e w2 ⟨rfl, hb⟩; have HB2 := Aside0.mk (below_step (below_alloc (Below.refl _ _) _) hb); clear hb)
        have hB2 : w1.heap.size ≤ w2.heap.size := Nat.le_trans hBw HB2.out.size
        have hsz : (⟨(oneL (rd_T43 l0 ↑i)).toArray⟩ : ByteArray).size = (oneL (rd_T43 l0 ↑i)).length := by simp [ByteArray.size]
        refine (writeString w1.heap.size w1.heap.size _ _ w2 (builder_below HI.out HB2.out) (by rw [Lib.byteCells_length, hsz]; omega) hB2).mono ?_
        rintro e w4 ⟨rfl, h4, hb4⟩
        rw [Lib.strCells_eq, ← Lib.byteCells_append, HN.out] at h4
        have H4 := Aside0.mk (Or.inr h4 : Lib.IsBuilder 47 5 w1.heap.size w1.heap.size _ w4)
        have Hb4 := Aside0.mk ((below_step HW.out HB2.out).trans hb4)
        clear h4 hb4 hsz
        go_wp2
        go_roundg g
        case measure => omega
        case rel => exact ⟨i + 1, by go_num, by omega, H4, Hb4⟩
  · rw [if_neg hv] at h
    obtain ⟨rfl, rfl⟩ := Prod.mk.inj (Option.some.inj h)
    clear h
    have HH := Aside0.mk (Bool.eq_false_iff.mpr hv)
    clear hv
    go_enter Tryd.func11, Tryd.ntmps11
    go_wp2_with (go_at_call 25; refine (value_RightRow.calls _ _ _ _ _ HR0.out HC0.out HV.out).mono ?_; rintro e w1 ⟨rfl, hb⟩; rw [HH.out]; have HB := Aside0.mk hb; clear hb)
    go_ret2
    exact ⟨rfl, HB.out⟩
end Go.Proofs.YtjcgbppicdccdaaDoor.Q
end
section
/- Plain law: keys are in the order of their rows. -/
namespace Go.Proofs.YtjcgbppicdccdaaDoor.Q
open Go.RowKit Go.Proofs.YtjcgbppicdccdaaDoorW.PrintWords Go.Proofs.YtjcgbppicdccdaaDoorW.PrintLast Go.Proofs.YtjcgbppicdccdaaDoorW.PrintMore
set_option linter.unusedVariables false

def cmpI (a b : Int) : Int := if a < b then -1 else if a > b then 1 else 0
/-- Two texts, byte by byte. -/
def cmpL : List UInt8 → List UInt8 → Int
  | [], [] => 0
  | [], _ :: _ => -1
  | _ :: _, [] => 1
  | c :: s, d :: t => if c = d then cmpL s t else cmpI c.toNat d.toNat
theorem cmpI_ne {a b : Int} (h : a ≠ b) : cmpI a b ≠ 0 := by unfold cmpI; split <;> (try split) <;> omega
theorem cmpI_self (a : Int) : cmpI a a = 0 := by simp [cmpI]
theorem cmpL_self : ∀ s, cmpL s s = 0
  | [] => rfl
  | c :: s => by simp [cmpL, cmpL_self s]
theorem cmpL_app (p s t : List UInt8) : cmpL (p ++ s) (p ++ t) = cmpL s t := by
  induction p with
  | nil => rfl
  | cons c p ih => simp [cmpL, ih]

/-- The big end of a number first. -/
def be : Nat → Nat → List UInt8
  | 0, _ => []
  | k + 1, u => UInt8.ofNat (u / 256 ^ k % 256) :: be k (u % 256 ^ k)
theorem be_len : ∀ k u, (be k u).length = k
  | 0, _ => rfl
  | k + 1, u => by simp [be, be_len k]
theorem u8_nat (n : Nat) (h : n < 256) : (UInt8.ofNat n).toNat = n := by simp; omega
theorem turned_eq (n : Int) (h0 : -9223372036854775808 ≤ n) (h1 : n ≤ 9223372036854775807) : turned n = n + 9223372036854775808 := by
  unfold turned
  have hw : IntKind.u64.wrap n = n % 18446744073709551616 := by simp [IntKind.wrap, IntKind.bits, IntKind.signed]
  obtain ⟨a, ha⟩ := Int.eq_ofNat_of_zero_le (show 0 ≤ IntKind.u64.wrap n by rw [hw]; omega)
  have ha' : a < 2 ^ 64 := by rw [hw] at ha; omega
  rw [ha]
  have hx : Go.bits .xor .u64 (a : Int) 9223372036854775808 = ((a ^^^ 2 ^ 63 : Nat) : Int) := by
    have e : (9223372036854775808 : Int) = ((2 ^ 63 : Nat) : Int) := by decide
    rw [e]
    simp only [Go.bits, BitVec.ofInt_natCast, BitVec.toNat_xor, BitVec.toNat_ofNat]
    have h64 : IntKind.u64.bits = 64 := rfl
    rw [h64, Nat.mod_eq_of_lt ha', Nat.mod_eq_of_lt (by decide : (2 ^ 63 : Nat) < 2 ^ 64)]
    have hlt : a ^^^ 2 ^ 63 < 2 ^ 64 := Nat.xor_lt_two_pow ha' (by decide)
    have hw2 : ∀ z : Nat, z < 2 ^ 64 → IntKind.u64.wrap (z : Int) = (z : Int) := fun z hz => by
      simp [IntKind.wrap, IntKind.bits, IntKind.signed]
      omega
    exact hw2 _ hlt
  rw [hx]
  have hd : (a ^^^ 2 ^ 63) / 2 ^ 63 = a / 2 ^ 63 ^^^ 1 := by rw [Nat.xor_div_two_pow]
  have hm : (a ^^^ 2 ^ 63) % 2 ^ 63 = a % 2 ^ 63 := by rw [Nat.xor_mod_two_pow]; simp
  have hq : a / 2 ^ 63 = 0 ∨ a / 2 ^ 63 = 1 := by omega
  rw [hw] at ha
  rcases hq with hq | hq
  · rw [hq] at hd
    have : (0 ^^^ 1 : Nat) = 1 := rfl
    rw [this] at hd
    omega
  · rw [hq] at hd
    have : (1 ^^^ 1 : Nat) = 0 := rfl
    rw [this] at hd
    omega

theorem numL_be (n : Int) (h0 : -9223372036854775808 ≤ n) (h1 : n ≤ 9223372036854775807) : numL n = be 8 (n + 9223372036854775808).toNat := by
  unfold numL
  rw [turned_eq n h0 h1]
  obtain ⟨u, hu⟩ := Int.eq_ofNat_of_zero_le (show 0 ≤ n + 9223372036854775808 by omega)
  rw [hu]
  simp only [numBytes, List.map_cons, List.map_nil, be, Int.toNat_natCast, Nat.reducePow]
  have hb : u < 18446744073709551616 := by omega
  clear hu h0 h1
  iterate 8
    refine List.cons_eq_cons.2 ⟨congrArg _ (by omega), ?_⟩
  rfl
end Go.Proofs.YtjcgbppicdccdaaDoor.Q
end
section
/- What Go functions compute, as Lean functions, and that the machine's call comes to just that; no conditions beyond each theorem's own. (Written by pp.py of this repo, over the kit's print.py.) -/
namespace Go.Proofs.YtjcgbppicdccdaaDoor.Q
open Go.RowKit Go.Proofs.YtjcgbppicdccdaaDoorW.PrintWords Go.Proofs.YtjcgbppicdccdaaDoorW.PrintLast Go.Proofs.YtjcgbppicdccdaaDoorW.PrintMore
attribute [local go_sem] max2_int min2_int max_two min_two max_three min_three max_four min_four   -- for this text's walks alone
set_option linter.unusedVariables false
set_option linter.unusedSimpArgs false

/-! ### interlocklaw05_long: function 10 -/
def interlocklaw05_long.l0 : Nat → List (S43) → Int → Option (Bool)
  | 0, _, _ => none
  | k + 1, x0, x3 => if x3 < (x0.length : Int) then (if 0 ≤ x3 then (if (((rd_T43 x0 x3).f2).size : Int) > 1000 then (some true) else (interlocklaw05_long.l0 k x0 (wrap64 (x3 + 1)))) else (none)) else (some false)
def interlocklaw05_long.f (k : Nat) (l0 : List (S43)) : Option (Bool) := if (l0.length : Int) > 100 then (some true) else (interlocklaw05_long.l0 k l0 0)
theorem interlocklaw05_long.mono_l : ∀ k, (∀ y0 y1, LeO (interlocklaw05_long.l0 k y0 y1) (interlocklaw05_long.l0 (k + 1) y0 y1))
  | 0 => fun _ _ r h => by simp [interlocklaw05_long.l0] at h
  | k + 1 => by
    have ih0 := interlocklaw05_long.mono_l k
    · intro y0 y1
      unfold interlocklaw05_long.l0
      repeat' first
      | (with_reducible exact ih0 _ _)
      | (with_reducible exact LeO.refl _)
      | (with_reducible exact LeO.none _)
      | (with_reducible refine LeO.ite ?_ ?_)
      | (with_reducible refine LeO.bind ?_ (fun _ => ?_))
      | exact ih0 _ _
      | exact LeO.none _
      | refine LeO.ite ?_ ?_
      | refine LeO.bind ?_ (fun _ => ?_)
theorem interlocklaw05_long.mono : ∀ a0 k, LeO (interlocklaw05_long.f k a0) (interlocklaw05_long.f (k + 1) a0) := by
  intro a0 k
  have ih0 := interlocklaw05_long.mono_l k
  unfold interlocklaw05_long.f
  repeat' first
      | (with_reducible exact ih0 _ _)
      | (with_reducible exact LeO.refl _)
      | (with_reducible exact LeO.none _)
      | (with_reducible refine LeO.ite ?_ ?_)
      | (with_reducible refine LeO.bind ?_ (fun _ => ?_))
      | exact ih0 _ _
      | exact LeO.none _
      | refine LeO.ite ?_ ?_
      | refine LeO.bind ?_ (fun _ => ?_)
set_option maxHeartbeats 8000000 in
set_option maxRecDepth 100000 in
theorem interlocklaw05_long.calls (k : Nat) (A0 : Option Addr) (c0 : Nat) (l0 : List (S43)) (r : Bool) (w : World) (hr0 : Kd.C k43 w A0 l0.length l0) (hc0 : l0.length ≤ c0) (h : interlocklaw05_long.f k l0 = some r) :
    Calls Tryd.prog 10 #[.slice A0 l0.length c0] w fun e w' => e = .returned (.bool r) ∧ Drawn0 w w' := by
  have HR0 := Aside0.mk hr0
  have HC0 := Aside0.mk hc0
  clear hr0 hc0
  have H : (if (l0.length : Int) > 100 then (some true) else (interlocklaw05_long.l0 k l0 0)) = some r := h
  clear h
  by_cases c2 : (l0.length : Int) > 100
  · rw [if_pos c2] at H
    have c2b0 : decide (100 < (l0.length : Int)) = true := decide_eq_true c2
    have c2b1 : decide (100 < l0.length) = true := decide_eq_true (by omega)
    clear c2
    obtain rfl := Option.some.inj H
    go_enter Tryd.func10, Tryd.ntmps10
    go_wp2
    go_ret
    exact ⟨by first | rfl | (simp; done) | (simp [*]; done), by repeat (first | exact Drawn0.refl _ | apply Drawn0.step)⟩
  · rw [if_neg c2] at H
    have c2b0 : decide (100 < (l0.length : Int)) = false := decide_eq_false c2
    have c2b1 : decide (100 < l0.length) = false := decide_eq_false (by omega)
    clear c2
    have H' := Aside0.mk H
    clear H
    go_enter Tryd.func10, Tryd.ntmps10
    go_wp2
    go_loopg [3] k (fun kq v3 w' => ∃ (x3_1 : Int), v3 = .int .i64 x3_1 ∧ Aside0 (interlocklaw05_long.l0 kq l0 x3_1 = some r) ∧ Aside0 (kq ≤ k) ∧ Drawn0 w w')
    case atStart => exact ⟨(0), (by first | rfl | (simp; done) | (simp [*]; done)), H', ⟨Nat.le_refl _⟩, by repeat (first | exact Drawn0.refl _ | apply Drawn0.step)⟩
    case round =>
      clear H'
      try clear c1
      try clear c2
      try clear c2b0
      try clear c2b1
      try clear p2
      obtain ⟨x3_1, rfl, HA, HK1, ⟨m1, rfl⟩⟩ := hrel
      cases gk with
      | zero => exact absurd HA.out (by simp [interlocklaw05_long.l0])
      | succ k1 =>
        have H := HA.out
        clear HA
        simp only [interlocklaw05_long.l0] at H
        by_cases c3 : x3_1 < (l0.length : Int)
        · rw [if_pos c3] at H
          have c3b0 : decide (x3_1 < (l0.length : Int)) = true := decide_eq_true c3
          clear c3
          by_cases c4 : 0 ≤ x3_1
          · rw [if_pos c4] at H
            have c4b0 : decide (0 ≤ x3_1) = true := decide_eq_true c4
            clear c4
            by_cases c5 : (((rd_T43 l0 x3_1).f2).size : Int) > 1000
            · rw [if_pos c5] at H
              have c5b0 : decide (1000 < (((rd_T43 l0 x3_1).f2).size : Int)) = true := decide_eq_true c5
              have c5b1 : decide (1000 < ((rd_T43 l0 x3_1).f2).size) = true := decide_eq_true (by omega)
              clear c5
              obtain rfl := Option.some.inj H
              have p118 : 0 ≤ (x3_1 : Int) := of_decide_eq_true (by first | (with_reducible assumption) | assumption)
              have q118 : x3_1 < (l0.length : Int) := of_decide_eq_true (by first | (with_reducible assumption) | assumption)
              obtain ⟨ad118, e118, hx118_0, hx118_1, hx118_2⟩ := at_T43 HR0.out x3_1 p118 q118
              cases e118
              replace p118 := eq_true p118
              replace q118 := eq_true q118
              go_wp2
              go_ret
              exact ⟨by first | rfl | (simp; done) | (simp [*]; done), by repeat (first | exact Drawn0.refl _ | apply Drawn0.step)⟩
            · rw [if_neg c5] at H
              have c5b0 : decide (1000 < (((rd_T43 l0 x3_1).f2).size : Int)) = false := decide_eq_false c5
              have c5b1 : decide (1000 < ((rd_T43 l0 x3_1).f2).size) = false := decide_eq_false (by omega)
              clear c5
              have H' := Aside0.mk H
              clear H
              have p118 : 0 ≤ (x3_1 : Int) := of_decide_eq_true (by first | (with_reducible assumption) | assumption)
              have q118 : x3_1 < (l0.length : Int) := of_decide_eq_true (by first | (with_reducible assumption) | assumption)
              obtain ⟨ad118, e118, hx118_0, hx118_1, hx118_2⟩ := at_T43 HR0.out x3_1 p118 q118
              cases e118
              replace p118 := eq_true p118
              replace q118 := eq_true q118
              go_wp2
              go_roundg k1
              case measure => have := HK1.out; omega
              case rel => exact ⟨(wrap64 (x3_1 + 1)), (by first | rfl | (simp; done) | (simp [*]; done)), H', ⟨by have := HK1.out; omega⟩, by repeat (first | exact Drawn0.refl _ | apply Drawn0.step)⟩
          · rw [if_neg c4] at H
            exact absurd H (by simp)
        · rw [if_neg c3] at H
          have c3b0 : decide (x3_1 < (l0.length : Int)) = false := decide_eq_false c3
          clear c3
          obtain rfl := Option.some.inj H
          go_wp2
          go_ret
          exact ⟨by first | rfl | (simp; done) | (simp [*]; done), by repeat (first | exact Drawn0.refl _ | apply Drawn0.step)⟩

end Go.Proofs.YtjcgbppicdccdaaDoor.Q
end
section
/- What Go functions compute, as Lean functions, and that the machine's call comes to just that; no conditions beyond each theorem's own. (Written by pp.py of this repo, over the kit's print.py.) -/
namespace Go.Proofs.YtjcgbppicdccdaaDoor.Q
open Go.RowKit Go.Proofs.YtjcgbppicdccdaaDoorW.PrintWords Go.Proofs.YtjcgbppicdccdaaDoorW.PrintLast Go.Proofs.YtjcgbppicdccdaaDoorW.PrintMore
attribute [local go_sem] max2_int min2_int max_two min_two max_three min_three max_four min_four   -- for this text's walks alone
set_option linter.unusedVariables false
set_option linter.unusedSimpArgs false

/-! ### key_Next: function 15 -/
def key_Next.f (a0 : ByteArray) : Option (ByteArray) := if a0.size + 1 ≤ 9223372036854775807 then (some (a0 ++ (⟨#[255]⟩ : ByteArray))) else (none)
set_option maxHeartbeats 8000000 in
set_option maxRecDepth 100000 in
theorem key_Next.calls (a0 : ByteArray) (r : ByteArray) (w : World) (h : key_Next.f a0 = some r) :
    Calls Tryd.prog 15 #[.string a0] w fun e w' => e = .returned (.string r) ∧ Drawn0 w w' := by
  have H : (if a0.size + 1 ≤ 9223372036854775807 then (some (a0 ++ (⟨#[255]⟩ : ByteArray))) else (none)) = some r := h
  clear h
  by_cases c2 : a0.size + 1 ≤ 9223372036854775807
  · rw [if_pos c2] at H
    have c2b0 := eq_true c2
    have c2b1 : decide (a0.size + 1 ≤ 9223372036854775807) = true := decide_eq_true c2
    try have c2b2 : (9223372036854775807 < a0.size + 1) = False := eq_false (Nat.not_lt.2 c2)
    obtain rfl := Option.some.inj H
    go_enter Tryd.func15, Tryd.ntmps15
    go_wp2
    go_ret
    exact ⟨by first | rfl | (simp; done) | (simp [*]; done), by repeat (first | exact Drawn0.refl _ | apply Drawn0.step)⟩
  · rw [if_neg c2] at H
    exact absurd H (by simp)

end Go.Proofs.YtjcgbppicdccdaaDoor.Q
end
section
/- What Go functions compute, as Lean functions, and that the machine's call comes to just that; no conditions beyond each theorem's own. (Written by pp.py of this repo, over the kit's print.py.) -/
namespace Go.Proofs.YtjcgbppicdccdaaDoor.Q
open Go.RowKit Go.Proofs.YtjcgbppicdccdaaDoorW.PrintWords Go.Proofs.YtjcgbppicdccdaaDoorW.PrintLast Go.Proofs.YtjcgbppicdccdaaDoorW.PrintMore
attribute [local go_sem] max2_int min2_int max_two min_two max_three min_three max_four min_four   -- for this text's walks alone
set_option linter.unusedVariables false
set_option linter.unusedSimpArgs false

/-! ### interlocklaw05_alive: function 9 -/
def interlocklaw05_alive.f  : Option (Bool) := (key_Encode.f (([(⟨3, 0, (⟨#[97]⟩ : ByteArray)⟩ : S43), (⟨0, 0, (⟨#[]⟩ : ByteArray)⟩ : S43)] : List (S43)))).bind fun bt115 => (if bt115.2 = true then (if bt115.1.toList = ([3, 97, 0, 1, 0] : List UInt8) then ((key_Next.f (⟨#[97]⟩ : ByteArray)).bind fun t117 => (some (t117.toList == ([97, 255] : List UInt8)))) else (some false)) else (some false))
set_option maxHeartbeats 8000000 in
set_option maxRecDepth 100000 in
theorem interlocklaw05_alive.calls  (r : Bool) (w : World) (h : interlocklaw05_alive.f  = some r) :
    Calls Tryd.prog 9 #[] w fun e w' => e = .returned (.bool r) ∧ Below w.heap.size w w' := by
  have hu43 := Tryd.underlying43
  have HB := Aside0.mk (Below.refl w.heap.size w)
  have H : ((key_Encode.f (([(⟨3, 0, (⟨#[97]⟩ : ByteArray)⟩ : S43), (⟨0, 0, (⟨#[]⟩ : ByteArray)⟩ : S43)] : List (S43)))).bind fun bt115 => (if bt115.2 = true then (if bt115.1.toList = ([3, 97, 0, 1, 0] : List UInt8) then ((key_Next.f (⟨#[97]⟩ : ByteArray)).bind fun t117 => (some (t117.toList == ([97, 255] : List UInt8)))) else (some false)) else (some false))) = some r := h
  clear h
  obtain ⟨y112, hy112⟩ : ∃ y_ : List (S43), y_ = (([(⟨3, 0, (⟨#[97]⟩ : ByteArray)⟩ : S43), (⟨0, 0, (⟨#[]⟩ : ByteArray)⟩ : S43)] : List (S43))) := ⟨_, rfl⟩
  replace H : ((key_Encode.f y112).bind fun bt115 => (if bt115.2 = true then (if bt115.1.toList = ([3, 97, 0, 1, 0] : List UInt8) then ((key_Next.f (⟨#[97]⟩ : ByteArray)).bind fun t117 => (some (t117.toList == ([97, 255] : List UInt8)))) else (some false)) else (some false))) = some r := by first | (rw [hy112]; with_reducible exact H) | (have H2_ := (Option.bind_some _ _).symm.trans H; rw [hy112]; with_reducible exact H2_) | (have H2_ := (Option.bind_some _ _).symm.trans H; with_reducible exact H2_) | with_reducible exact H | (rw [hy112]; exact H) | exact H
  have Ny112 := Aside0.mk hy112
  clear hy112
  replace H := Option.bind_eq_some_iff.mp H
  obtain ⟨⟨t115, t116⟩, A10, H⟩ := H
  replace H : (if t116 = true then (if t115.toList = ([3, 97, 0, 1, 0] : List UInt8) then ((key_Next.f (⟨#[97]⟩ : ByteArray)).bind fun t117 => (some (t117.toList == ([97, 255] : List UInt8)))) else (some false)) else (some false)) = some r := H
  have A1 := Aside0.mk A10
  clear A10
  by_cases c2 : t116 = true
  · subst c2
    have H1 : (if t115.toList = ([3, 97, 0, 1, 0] : List UInt8) then ((key_Next.f (⟨#[97]⟩ : ByteArray)).bind fun t117 => (some (t117.toList == ([97, 255] : List UInt8)))) else (some false)) = some r := by rw [if_pos rfl] at H; exact H
    clear H
    have H := H1
    clear H1
    by_cases c3 : t115.toList = ([3, 97, 0, 1, 0] : List UInt8)
    · rw [if_pos c3] at H
      have c3b0 : (t115.toList == ([3, 97, 0, 1, 0] : List UInt8)) = true := beq_iff_eq.mpr c3
      have c3b1 : (t115.toList != ([3, 97, 0, 1, 0] : List UInt8)) = false := bne_eq_false_iff_eq.mpr c3
      clear c3
      replace H := Option.bind_eq_some_iff.mp H
      obtain ⟨t117, A40, H⟩ := H
      replace H : (some (t117.toList == ([97, 255] : List UInt8))) = some r := H
      have A4 := Aside0.mk A40
      clear A40
      obtain rfl := Option.some.inj H
      go_enter Tryd.func9, Tryd.ntmps9
      go_wp2_with (first | ((with_reducible refine gate_dst (N := 6) rfl ?_); refine Kd.R_lit k43 _ 43 ?hg (N := 6) ?hd (xs := ([(⟨3, 0, (⟨#[97]⟩ : ByteArray)⟩ : S43), (⟨0, 0, (⟨#[]⟩ : ByteArray)⟩ : S43)] : List (S43))) (inner := [.int .i64 3, .int .i64 0, .string (⟨#[97]⟩ : ByteArray), .int .i64 0, .int .i64 0, .string (⟨#[]⟩ : ByteArray)]) (ok := fun _ => True) (okp := fun _ => True) ?hr ?hp (fun _ hk => hk) trivial (Below.refl _ _) (Nat.le_refl _) (by simp) ?_; (case hd => rfl); (case hg => rfl); (case hr => first | (go_simp; done) | (go_simp; rfl)); (case hp => exact (Reps.c3 (show Kd.M k43 _ _ _ (⟨3, 0, (⟨#[97]⟩ : ByteArray)⟩ : S43) [.int .i64 3, .int .i64 0, .string (⟨#[97]⟩ : ByteArray)] from (k43_mkM _ _ _ (⟨3, 0, (⟨#[97]⟩ : ByteArray)⟩ : S43) )) (Reps.c3 (show Kd.M k43 _ _ _ (⟨0, 0, (⟨#[]⟩ : ByteArray)⟩ : S43) [.int .i64 0, .int .i64 0, .string (⟨#[]⟩ : ByteArray)] from (k43_mkM _ _ _ (⟨0, 0, (⟨#[]⟩ : ByteArray)⟩ : S43) )) (Reps.none _ _)))); intro v113 w5 ho6 hb hg_ hnew_; clear hg_ hnew_; (first | rw [← Ny112.out] at ho6 | (simp only [Int.reduceToNat] at ho6; rw [← Ny112.out] at ho6)); have n0_ := Aside0.mk (Kd.R_lower ho6 (below_size (by repeat (first | (with_reducible first | exact HB.out | apply below_alloc | apply pw_below_drewN | apply below_drew1) | exact HB.out)))); have n1_ := Aside0.mk (below_step (by repeat (first | (with_reducible first | exact HB.out | apply below_alloc | apply pw_below_drewN | apply below_drew1) | exact HB.out)) hb); clear HB; have HO114 := n0_; have HB := n1_; clear n0_ n1_; clear hb ho6; obtain ⟨Ao7, co7, eo7⟩ := Kd.R_slice HO114.out; subst eo7) | ((with_reducible refine gate_callee (f := 11) rfl ?_); refine goesL_ (some 7) rfl rfl Tryd.func11 (by kernel_rfl) rfl #[.slice Ao7 y112.length co7] rfl (by (try simp only [List.map_toArray, List.map_cons, List.map_nil]); first | done | rfl | (simp only [List.length_drop, List.length_take]; rfl)) ?_; (with_reducible refine (key_Encode.calls _ _ y112 t115 true _ ?side1 ?side2 A1.out).mono ?_); (case side1 => repeat (first | exact (Kd.R_reads' HO114.out).2.2 | (with_reducible refine Kd.C_alloc ?_ _) | (with_reducible refine Kd.C_drewN ?_ _) | (with_reducible refine Kd.C_drew ?_))); (case side2 => exact (Kd.R_reads' HO114.out).2.1); rintro e w8 ⟨rfl, hb⟩; refine ⟨_, rfl, ?_⟩; have n0_ := Aside0.mk (Kd.R_below (by (with_reducible repeat (first | apply Kd.R_alloc | apply Kd.R_drewN | apply Kd.R_drew)); exact HO114.out) hb); have n1_ := Aside0.mk (below_step (by repeat (first | (with_reducible first | exact HB.out | apply below_alloc | apply pw_below_drewN | apply below_drew1) | exact HB.out)) hb); clear HO114; clear HB; have HO114 := n0_; have HB := n1_; clear n0_ n1_; (try clear hb); (try clear hb2); (try clear hk); (try clear hi)) | (go_at_call 15; (with_reducible refine (key_Next.calls (⟨#[97]⟩ : ByteArray) t117 _ A4.out).mono ?_); rintro e w' ⟨rfl, ⟨nd, rfl⟩⟩))
      go_ret
      exact ⟨by first | rfl | (simp [errW_none, errW_some] <;> rfl) | (simp [*, errW_none, errW_some] <;> rfl), by repeat (first | (with_reducible first | exact HB.out | apply below_alloc | apply pw_below_drewN | apply below_drew1) | exact HB.out)⟩
    · rw [if_neg c3] at H
      have c3b0 : (t115.toList == ([3, 97, 0, 1, 0] : List UInt8)) = false := beq_eq_false_iff_ne.mpr c3
      have c3b1 : (t115.toList != ([3, 97, 0, 1, 0] : List UInt8)) = true := bne_iff_ne.mpr c3
      obtain rfl := Option.some.inj H
      go_enter Tryd.func9, Tryd.ntmps9
      go_wp2_with (first | ((with_reducible refine gate_dst (N := 6) rfl ?_); refine Kd.R_lit k43 _ 43 ?hg (N := 6) ?hd (xs := ([(⟨3, 0, (⟨#[97]⟩ : ByteArray)⟩ : S43), (⟨0, 0, (⟨#[]⟩ : ByteArray)⟩ : S43)] : List (S43))) (inner := [.int .i64 3, .int .i64 0, .string (⟨#[97]⟩ : ByteArray), .int .i64 0, .int .i64 0, .string (⟨#[]⟩ : ByteArray)]) (ok := fun _ => True) (okp := fun _ => True) ?hr ?hp (fun _ hk => hk) trivial (Below.refl _ _) (Nat.le_refl _) (by simp) ?_; (case hd => rfl); (case hg => rfl); (case hr => first | (go_simp; done) | (go_simp; rfl)); (case hp => exact (Reps.c3 (show Kd.M k43 _ _ _ (⟨3, 0, (⟨#[97]⟩ : ByteArray)⟩ : S43) [.int .i64 3, .int .i64 0, .string (⟨#[97]⟩ : ByteArray)] from (k43_mkM _ _ _ (⟨3, 0, (⟨#[97]⟩ : ByteArray)⟩ : S43) )) (Reps.c3 (show Kd.M k43 _ _ _ (⟨0, 0, (⟨#[]⟩ : ByteArray)⟩ : S43) [.int .i64 0, .int .i64 0, .string (⟨#[]⟩ : ByteArray)] from (k43_mkM _ _ _ (⟨0, 0, (⟨#[]⟩ : ByteArray)⟩ : S43) )) (Reps.none _ _)))); intro v113 w9 ho10 hb hg_ hnew_; clear hg_ hnew_; (first | rw [← Ny112.out] at ho10 | (simp only [Int.reduceToNat] at ho10; rw [← Ny112.out] at ho10)); have n0_ := Aside0.mk (Kd.R_lower ho10 (below_size (by repeat (first | (with_reducible first | exact HB.out | apply below_alloc | apply pw_below_drewN | apply below_drew1) | exact HB.out)))); have n1_ := Aside0.mk (below_step (by repeat (first | (with_reducible first | exact HB.out | apply below_alloc | apply pw_below_drewN | apply below_drew1) | exact HB.out)) hb); clear HB; have HO114 := n0_; have HB := n1_; clear n0_ n1_; clear hb ho10; obtain ⟨Ao11, co11, eo11⟩ := Kd.R_slice HO114.out; subst eo11) | ((with_reducible refine gate_callee (f := 11) rfl ?_); refine goesL_ (some 7) rfl rfl Tryd.func11 (by kernel_rfl) rfl #[.slice Ao11 y112.length co11] rfl (by (try simp only [List.map_toArray, List.map_cons, List.map_nil]); first | done | rfl | (simp only [List.length_drop, List.length_take]; rfl)) ?_; (with_reducible refine (key_Encode.calls _ _ y112 t115 true _ ?side1 ?side2 A1.out).mono ?_); (case side1 => repeat (first | exact (Kd.R_reads' HO114.out).2.2 | (with_reducible refine Kd.C_alloc ?_ _) | (with_reducible refine Kd.C_drewN ?_ _) | (with_reducible refine Kd.C_drew ?_))); (case side2 => exact (Kd.R_reads' HO114.out).2.1); rintro e w12 ⟨rfl, hb⟩; refine ⟨_, rfl, ?_⟩; have n0_ := Aside0.mk (Kd.R_below (by (with_reducible repeat (first | apply Kd.R_alloc | apply Kd.R_drewN | apply Kd.R_drew)); exact HO114.out) hb); have n1_ := Aside0.mk (below_step (by repeat (first | (with_reducible first | exact HB.out | apply below_alloc | apply pw_below_drewN | apply below_drew1) | exact HB.out)) hb); clear HO114; clear HB; have HO114 := n0_; have HB := n1_; clear n0_ n1_; (try clear hb); (try clear hb2); (try clear hk); (try clear hi)))
      go_ret
      exact ⟨by first | rfl | (simp [errW_none, errW_some] <;> rfl) | (simp [*, errW_none, errW_some] <;> rfl), by repeat (first | (with_reducible first | exact HB.out | apply below_alloc | apply pw_below_drewN | apply below_drew1) | exact HB.out)⟩
  · replace c2 := Bool.eq_false_iff.mpr c2
    subst c2
    have H1 : (some false) = some r := by rw [if_neg (show ¬ (false = true) by decide)] at H; exact H
    clear H
    have H := H1
    clear H1
    obtain rfl := Option.some.inj H
    go_enter Tryd.func9, Tryd.ntmps9
    go_wp2_with (first | ((with_reducible refine gate_dst (N := 6) rfl ?_); refine Kd.R_lit k43 _ 43 ?hg (N := 6) ?hd (xs := ([(⟨3, 0, (⟨#[97]⟩ : ByteArray)⟩ : S43), (⟨0, 0, (⟨#[]⟩ : ByteArray)⟩ : S43)] : List (S43))) (inner := [.int .i64 3, .int .i64 0, .string (⟨#[97]⟩ : ByteArray), .int .i64 0, .int .i64 0, .string (⟨#[]⟩ : ByteArray)]) (ok := fun _ => True) (okp := fun _ => True) ?hr ?hp (fun _ hk => hk) trivial (Below.refl _ _) (Nat.le_refl _) (by simp) ?_; (case hd => rfl); (case hg => rfl); (case hr => first | (go_simp; done) | (go_simp; rfl)); (case hp => exact (Reps.c3 (show Kd.M k43 _ _ _ (⟨3, 0, (⟨#[97]⟩ : ByteArray)⟩ : S43) [.int .i64 3, .int .i64 0, .string (⟨#[97]⟩ : ByteArray)] from (k43_mkM _ _ _ (⟨3, 0, (⟨#[97]⟩ : ByteArray)⟩ : S43) )) (Reps.c3 (show Kd.M k43 _ _ _ (⟨0, 0, (⟨#[]⟩ : ByteArray)⟩ : S43) [.int .i64 0, .int .i64 0, .string (⟨#[]⟩ : ByteArray)] from (k43_mkM _ _ _ (⟨0, 0, (⟨#[]⟩ : ByteArray)⟩ : S43) )) (Reps.none _ _)))); intro v113 w13 ho14 hb hg_ hnew_; clear hg_ hnew_; (first | rw [← Ny112.out] at ho14 | (simp only [Int.reduceToNat] at ho14; rw [← Ny112.out] at ho14)); have n0_ := Aside0.mk (Kd.R_lower ho14 (below_size (by repeat (first | (with_reducible first | exact HB.out | apply below_alloc | apply pw_below_drewN | apply below_drew1) | exact HB.out)))); have n1_ := Aside0.mk (below_step (by repeat (first | (with_reducible first | exact HB.out | apply below_alloc | apply pw_below_drewN | apply below_drew1) | exact HB.out)) hb); clear HB; have HO114 := n0_; have HB := n1_; clear n0_ n1_; clear hb ho14; obtain ⟨Ao15, co15, eo15⟩ := Kd.R_slice HO114.out; subst eo15) | ((with_reducible refine gate_callee (f := 11) rfl ?_); refine goesL_ (some 7) rfl rfl Tryd.func11 (by kernel_rfl) rfl #[.slice Ao15 y112.length co15] rfl (by (try simp only [List.map_toArray, List.map_cons, List.map_nil]); first | done | rfl | (simp only [List.length_drop, List.length_take]; rfl)) ?_; (with_reducible refine (key_Encode.calls _ _ y112 t115 false _ ?side1 ?side2 A1.out).mono ?_); (case side1 => repeat (first | exact (Kd.R_reads' HO114.out).2.2 | (with_reducible refine Kd.C_alloc ?_ _) | (with_reducible refine Kd.C_drewN ?_ _) | (with_reducible refine Kd.C_drew ?_))); (case side2 => exact (Kd.R_reads' HO114.out).2.1); rintro e w16 ⟨rfl, hb⟩; refine ⟨_, rfl, ?_⟩; have n0_ := Aside0.mk (Kd.R_below (by (with_reducible repeat (first | apply Kd.R_alloc | apply Kd.R_drewN | apply Kd.R_drew)); exact HO114.out) hb); have n1_ := Aside0.mk (below_step (by repeat (first | (with_reducible first | exact HB.out | apply below_alloc | apply pw_below_drewN | apply below_drew1) | exact HB.out)) hb); clear HO114; clear HB; have HO114 := n0_; have HB := n1_; clear n0_ n1_; (try clear hb); (try clear hb2); (try clear hk); (try clear hi)))
    go_ret
    exact ⟨by first | rfl | (simp [errW_none, errW_some] <;> rfl) | (simp [*, errW_none, errW_some] <;> rfl), by repeat (first | (with_reducible first | exact HB.out | apply below_alloc | apply pw_below_drewN | apply below_drew1) | exact HB.out)⟩

end Go.Proofs.YtjcgbppicdccdaaDoor.Q
end
