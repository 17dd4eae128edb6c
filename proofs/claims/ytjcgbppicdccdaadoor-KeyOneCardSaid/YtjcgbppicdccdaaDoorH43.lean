/- (*reader).text (function 43): the next text of a key. -/
import Derived.Test.YtjcgbppicdccdaaDoorQ0
import Derived.Test.YtjcgbppicdccdaaDoorQ41
import Derived.Test.YtjcgbppicdccdaaDoorH40
namespace Go.Proofs.YtjcgbppicdccdaaDoor.Q
open Go.RowKit Go.Proofs.YtjcgbppicdccdaaDoorW.PrintWords Go.Proofs.YtjcgbppicdccdaaDoorW.PrintLast Go.Proofs.YtjcgbppicdccdaaDoorW.PrintMore
set_option linter.unusedVariables false
set_option linter.unusedSimpArgs false

/-- The text that bytes begin with (escaped, ended), what is left, was it bad; n: rounds. -/
def textGo : Nat → List UInt8 → List UInt8 → List UInt8 × List UInt8 × Bool
  | 0, rest, acc => ([], rest, true)
  | n + 1, rest, acc =>
    if Lib.indexByte rest 0 < 0 then ([], rest, true) else
    if (rest.drop (Lib.indexByte rest 0).toNat).length < 2 then ([], [], true) else
    if (rest.drop (Lib.indexByte rest 0).toNat).take 2 = [0, 1] then (acc ++ rest.take (Lib.indexByte rest 0).toNat, (rest.drop (Lib.indexByte rest 0).toNat).drop 2, false) else
    if (rest.drop (Lib.indexByte rest 0).toNat).take 2 = [0, 255] then textGo n ((rest.drop (Lib.indexByte rest 0).toNat).drop 2) (acc ++ rest.take (Lib.indexByte rest 0).toNat ++ [0]) else
    ([], (rest.drop (Lib.indexByte rest 0).toNat).drop 2, true)
def textOf (rest : List UInt8) : List UInt8 × List UInt8 × Bool := textGo (rest.length + 1) rest []
def bA (l : List UInt8) : ByteArray := ⟨l.toArray⟩
def key_reader_text.f (s0_0 : ByteArray) (s0_1 : Bool) : Option (ByteArray × ByteArray × Bool) :=
  if s0_1 = true then some (⟨#[]⟩, s0_0, true) else if s0_0.size ≤ 70368744177664 then some (bA (textOf s0_0.data.toList).1, bA (textOf s0_0.data.toList).2.1, (textOf s0_0.data.toList).2.2) else none

theorem bA_list (s : ByteArray) : bA s.data.toList = s := by simp [bA]
theorem list_bA (l : List UInt8) : (bA l).data.toList = l := by simp [bA]
theorem bA_size (l : List UInt8) : (bA l).size = l.length := by simp [bA, ByteArray.size]
theorem index_lt : ∀ (l : List UInt8), Lib.indexByte l 0 < l.length
  | [] => by simp [Lib.indexByte]
  | c :: l => by
    have := index_lt l
    have h2 := Lib.indexByte_ge l 0
    unfold Lib.indexByte
    simp only [List.length_cons]
    split
    · omega
    · split <;> omega
theorem builder_keep {B b g : Nat} {bs : List Value} {W W' : World} (h : Lib.IsBuilder 47 5 B b bs W) (hg : g < B) (hk : KeepBut W W' g none) : Lib.IsBuilder 47 5 B b bs W' := by
  have key : ∀ p, Lib.BuilderAt 47 5 B b p bs W → Lib.BuilderAt 47 5 B b p bs W' := by
    rintro p ⟨h1, v, h2, h3, h4⟩
    refine ⟨h1, v, hk.blk h2 (by omega) (by simp), hk.own h3 (fun e => ?_) ?_, h4⟩
    · have := own_base h3 g e
      omega
    · cases hv : v.ownBlock with
      | none => exact .inl rfl
      | some k => exact .inr (by simp)
  exact h.imp (key _) (key _)
theorem S59_below {B g : Nat} {w0 W W' : World} {f0 : ByteArray} {f1 : Bool} (h : IsS59 w0 W g f0 f1) (hb : Below B W W') (hg : g < B) : IsS59 w0 W' g f0 f1 := ⟨(hb.block g hg).trans h.1, h.2⟩
theorem keep_belowB {w W W' : World} {g : Nat} (hk : KeepBut w W g none) (hb : Below w.heap.size W W') : KeepBut w W' g none :=
  ⟨Nat.le_trans hk.1 hb.size, fun i hi h1 h2 => (hb.block i hi).trans (hk.2 i hi h1 h2)⟩
theorem below_belowB {w0 w W W' : World} (h : Below w0.heap.size w0 W) (hb : Below w.heap.size W W') (hw : w0.heap.size ≤ w.heap.size) : Below w0.heap.size w0 W' := h.trans (hb.mono hw)

def laysWB_ren : Go.Shelf.Ren := ⟨fun | 167 => 49 | 240 => 38 | 276 => 45 | n => n, fun | 37 => 45 | 70 => 44 | 72 => 47 | 75 => 49 | 80 => 53 | 164 => 72 | n => n, fun | n => n⟩
theorem laysWB : Go.Proofs.Lays.n167 Tryd.prog laysWB_ren := {
  mixed := by kernel_rfl
  f167 := Tryd.func49.trans (congrArg some (by kernel_rfl))
  f240 := Tryd.func38.trans (congrArg some (by kernel_rfl))
  f276 := Tryd.func45.trans (congrArg some (by kernel_rfl))
  t0 := Tryd.underlying0
  a0 := Tryd.isAgg0
  z0 := Tryd.sizeOf0
  v0 := Tryd.zeroValue0
  t4 := Tryd.underlying4
  a4 := Tryd.isAgg4
  z4 := Tryd.sizeOf4
  v4 := Tryd.zeroValue4
  t5 := Tryd.underlying5
  a5 := Tryd.isAgg5
  z5 := Tryd.sizeOf5
  v5 := Tryd.zeroValue5
  t9 := Tryd.underlying9
  a9 := Tryd.isAgg9
  z9 := Tryd.sizeOf9
  v9 := Tryd.zeroValue9
  t20 := Tryd.underlying20
  a20 := Tryd.isAgg20
  z20 := Tryd.sizeOf20
  v20 := Tryd.zeroValue20
  t37 := Tryd.underlying45
  a37 := Tryd.isAgg45
  z37 := Tryd.sizeOf45
  v37 := Tryd.zeroValue45
  t70 := Tryd.underlying44
  a70 := Tryd.isAgg44
  z70 := Tryd.sizeOf44
  v70 := Tryd.zeroValue44
  t72 := Tryd.underlying47
  a72 := Tryd.isAgg47
  z72 := Tryd.sizeOf47
  v72 := Tryd.zeroValue47
  t75 := Tryd.underlying49
  a75 := Tryd.isAgg49
  z75 := Tryd.sizeOf49
  v75 := Tryd.zeroValue49
  t164 := Tryd.underlying72
  a164 := Tryd.isAgg72
  z164 := Tryd.sizeOf72
  v164 := Tryd.zeroValue72 }
theorem extraWB : Builder.Extra Tryd.prog laysWB_ren := {
  sizeBuilder := by kernel_rfl
  liesBuilder := by kernel_rfl
  t5 := Tryd.underlying5
  a5 := Tryd.isAgg5
  z5 := Tryd.sizeOf5
  v5 := Tryd.zeroValue5
  infoByte := by kernel_rfl
  cellsByte := by kernel_rfl
  sizeByte := by kernel_rfl
  neB5 := by decide }
theorem writeByte (B b : Nat) (bs : List Value) (c : Int) (w : World) (h : Lib.IsBuilder 47 5 B b bs w) (hlen : bs.length + 1 ≤ 140737488355328) (hBw : B ≤ w.heap.size) :
    Calls Tryd.prog 49 #[.pointer (some ⟨b, 0, none⟩), .int .u8 c] w fun e w' => e = .returned .nilIface ∧ (Lib.BuilderAt 47 5 B b (.pointer (some ⟨b, 0, none⟩)) (bs ++ [.int .u8 c]) w' ∧ Below B w w') :=
  Any.Builder_WriteByte laysWB extraWB B b bs c w h hlen hBw

theorem take_le (s : ByteArray) (b : Bool) (n : Nat) (h : n ≤ s.size) : key_reader_take.f s b n = some (s.extract 0 n, s.extract n s.size, b) := by
  unfold key_reader_take.f
  rw [if_neg (by omega), if_pos (by omega), if_pos (by omega), Int.toNat_natCast]
theorem bA_take (l : List UInt8) (n : Nat) : (bA l).extract 0 n = bA (l.take n) := by
  apply ByteArray.ext
  simp [bA]
theorem bA_drop (l : List UInt8) (n : Nat) : (bA l).extract n (bA l).size = bA (l.drop n) := by
  apply ByteArray.ext
  simp [bA, ByteArray.size, List.take_of_length_le]

theorem take2_short (s : ByteArray) (b : Bool) (h : s.size < 2) : key_reader_take.f s b 2 = some (bA [0, 0], bA [], true) := by
  unfold key_reader_take.f strings_Repeat.f
  rw [if_pos (by omega), if_pos ⟨rfl, by decide, by decide⟩]
  rfl
/-- How a reader ends: what comes of it, at the loop's head. -/
def TextRel (w0 w : World) (g : Nat) (F : List UInt8 × List UInt8 × Bool) (gq : Nat) (wx : World) : Prop :=
  ∃ (rest acc : List UInt8) (bad : Bool), IsS59 w0 wx g (bA rest) bad ∧ Lib.IsBuilder 47 5 w.heap.size w.heap.size (Lib.byteCells acc) wx ∧ Below w0.heap.size w0 wx ∧ KeepBut w wx g none ∧
    ((bad = true ∧ F = ([], rest, true)) ∨ (bad = false ∧ acc.length + rest.length ≤ 70368744177664 ∧ rest.length < gq ∧ textGo gq rest acc = F))

set_option maxHeartbeats 4000000 in
set_option maxRecDepth 100000 in
theorem text_any (g : Nat) (s0 : ByteArray) (b0 : Bool) (F : List UInt8 × List UInt8 × Bool) (n : Nat) (w0 w : World) (hI : IsS59 w0 w g s0 b0) (hB : Below w0.heap.size w0 w) (hF : TextRel w0 w g F n (w.alloc (.cells #[.pointer none, .slice none 0 0] 47))) :
    Calls Tryd.prog 43 #[.pointer (some ⟨g, 0, none⟩)] w fun e w' => e = .returned (.string (bA F.1)) ∧ IsS59 w0 w' g (bA F.2.1) F.2.2 ∧ Below w0.heap.size w0 w' ∧ KeepBut w w' g none := by
  have hgw := hI.lt
  have hw0 : w0.heap.size ≤ w.heap.size := hB.size
  have hu59 := Tryd.underlying59
  have hu47 := Tryd.underlying47
  clear hI hB
  have HF := Aside0.mk hF
  clear hF
  go_enter Tryd.func43, Tryd.ntmps43
  go_wp2
  go_loopg [4] n (fun gq v4 wx => Aside0 (TextRel w0 w g F gq wx))
  case atStart => exact HF
  case round =>
    obtain ⟨rest, acc, bad, hS, hIB, hB0, hK, hcase⟩ := hrel.out
    clear hrel HF
    have hc0 := cellS59_0 hS.1
    have hc1 := cellS59_1 hS.1
    have hf0 := blk_frozen hS.1 0
    have hf1 := blk_frozen hS.1 1
    have HS := Aside0.mk hS
    have HIB := Aside0.mk hIB
    have HB0 := Aside0.mk hB0
    have HK := Aside0.mk hK
    have hwr : w.heap.size ≤ wr.heap.size := hK.1
    clear hS hIB hB0 hK
    rcases hcase with ⟨rfl, hF⟩ | ⟨rfl, hlen, hgq, hgo⟩
    · have HF := Aside0.mk hF
      clear hF
      go_wp2
      go_ret
      refine ⟨?_, ?_, HB0.out, HK.out⟩
      · rw [HF.out]; rfl
      · rw [HF.out]; exact HS.out
    · obtain ⟨gq, rfl⟩ : ∃ q, gk = q + 1 := ⟨gk - 1, by omega⟩
      have HGO := Aside0.mk hgo
      clear hgo
      have hix := index_lt rest
      by_cases hneg : Lib.indexByte rest 0 < 0
      · have HN := Aside0.mk (show F = ([], rest, true) by rw [← HGO.out, textGo, if_pos hneg])
        have hdec : decide (Lib.indexByte rest 0 < 0) = true := decide_eq_true hneg
        clear hneg hix
        go_wp2_with (go_at_call 48; refine (Tryd.strings_IndexByte (bA rest) 0 _).mono ?_; rintro e w' ⟨rfl, hw⟩; rw [hw, list_bA]; clear hw)
        go_ret
        refine ⟨?_, ?_, HB0.out.setCell HS.out.ge _, HK.out.set_ 1 _⟩
        · rw [HN.out]; rfl
        · rw [HN.out]; exact HS.out.set_1 true
      · obtain ⟨k, hk⟩ := Int.eq_ofNat_of_zero_le (show 0 ≤ Lib.indexByte rest 0 by omega)
        have hkl : k < rest.length := by omega
        have HKX := Aside0.mk hk
        have hdec : decide ((k : Int) < 0) = false := decide_eq_false (by omega)
        have HT := Aside0.mk (take_le (bA rest) false k (by rw [bA_size]; omega))
        rw [bA_take, bA_drop] at HT
        have hlk : (rest.drop k).length = rest.length - k := List.length_drop
        have htk : (rest.take k).length = k := by rw [List.length_take]; omega
        have HGO2 := Aside0.mk (show F = (if (rest.drop k).length < 2 then ([], [], true) else if (rest.drop k).take 2 = [0, 1] then (acc ++ rest.take k, (rest.drop k).drop 2, false) else if (rest.drop k).take 2 = [0, 255] then textGo gq ((rest.drop k).drop 2) (acc ++ rest.take k ++ [0]) else ([], (rest.drop k).drop 2, true)) by
          rw [← HGO.out, textGo, if_neg hneg, hk, Int.toNat_natCast])
        clear hneg hix hk
        go_wp2_with (first
          | (go_at_call 48; refine (Tryd.strings_IndexByte (bA rest) 0 _).mono ?_; rintro e w' ⟨rfl, hw⟩; rw [hw, list_bA, show (0 : Int).toNat.toUInt8 = 0 from rfl, HKX.out]; clear hw)
          | (go_at_call 41; refine (key_reader_take.calls _ _ _ _ _ _ _ _ _ HS.out HB0.out HT.out).mono ?_; rintro e w1 ⟨rfl, hs1, hb1, hk1⟩))
        have hg1 : w.heap.size ≤ w1.heap.size := Nat.le_trans hwr hk1.1
        have HIB1 := builder_keep HIB.out hgw hk1
        have HK1 := Aside0.mk (KeepBut.trans HK.out hk1 (.inl rfl))
        refine (writeString w.heap.size w.heap.size _ (bA (rest.take k)) w1 HIB1 (by rw [Lib.byteCells_length, bA_size, htk]; omega) hg1).mono ?_
        rintro e w2 ⟨rfl, h2, hb2⟩
        rw [Lib.strCells_eq, list_bA, ← Lib.byteCells_append] at h2
        have HIB2 := Aside0.mk (Or.inr h2 : Lib.IsBuilder 47 5 w.heap.size w.heap.size _ w2)
        have HS2 := Aside0.mk (S59_below hs1 hb2 hgw)
        have HB2 := Aside0.mk (below_belowB hb1 hb2 hw0)
        have HK2 := Aside0.mk (keep_belowB HK1.out hb2)
        clear h2 hb2 hs1 hb1 hk1 HIB1 HK1
        by_cases h2 : (rest.drop k).length < 2
        · have HT2 := Aside0.mk (take2_short (bA (rest.drop k)) false (by rw [bA_size]; exact h2))
          have HN := Aside0.mk (show F = ([], [], true) by rw [HGO2.out, if_pos h2])
          have q1 : ((bA [0, 0]).toList == [0, 1]) = false := by rw [Lib.toList_data, list_bA]; decide
          have q2 : ((bA [0, 0]).toList == [0, 255]) = false := by rw [Lib.toList_data, list_bA]; decide
          clear h2 hlk htk
          go_wp2_with (first
            | (go_at_call 41; refine (key_reader_take.calls _ _ _ _ _ _ _ _ _ HS2.out HB2.out HT2.out).mono ?_; rintro e w3 ⟨rfl, hs3, hb3, hk3⟩; have hc31 := cellS59_1 hs3.1; have hf31 := blk_frozen hs3.1 1; have HS3 := Aside0.mk hs3; have HB3 := Aside0.mk hb3; have HK3 := Aside0.mk hk3; clear hs3 hb3 hk3))
          go_roundg gq
          case measure => omega
          case rel =>
            refine ⟨[], acc ++ rest.take k, true, HS3.out.set_1 true, ?_, HB3.out.setCell HS3.out.ge _, (KeepBut.trans HK2.out HK3.out (.inl rfl)).set_ 1 _, .inl ⟨rfl, HN.out⟩⟩
            exact builder_keep (builder_keep HIB2.out hgw HK3.out) hgw ((KeepBut.refl _ g none).set_ 1 _)
        · have h2' : 2 ≤ (rest.drop k).length := by omega
          obtain ⟨E, hE⟩ : ∃ E, (rest.drop k).take 2 = E := ⟨_, rfl⟩
          obtain ⟨R, hR⟩ : ∃ R, (rest.drop k).drop 2 = R := ⟨_, rfl⟩
          have hRl : R.length + 2 + k = rest.length := by rw [← hR, List.length_drop, hlk]; omega
          have ht2 := take_le (bA (rest.drop k)) false 2 (by rw [bA_size]; exact h2')
          rw [bA_take, bA_drop, hE, hR] at ht2
          have HT2 := Aside0.mk ht2
          have hgo2 := HGO2.out
          rw [if_neg h2, hE, hR] at hgo2
          clear ht2 h2 HGO2 hlk
          by_cases he1 : E = [0, 1]
          · have HN := Aside0.mk (show F = (acc ++ rest.take k, R, false) by rw [hgo2, if_pos he1])
            have q1 : ((bA E).toList == [0, 1]) = true := by rw [he1, Lib.toList_data, list_bA]; decide
            clear hgo2 he1 hE hR
            go_wp2_with (first
              | (go_at_call 41; refine (key_reader_take.calls _ _ _ _ _ _ _ _ _ HS2.out HB2.out HT2.out).mono ?_; rintro e w3 ⟨rfl, hs3, hb3, hk3⟩; have HS3 := Aside0.mk hs3; have HB3 := Aside0.mk hb3; have HK3 := Aside0.mk hk3; clear hs3 hb3 hk3))
            have HIB3 := Aside0.mk (builder_keep HIB2.out hgw HK3.out)
            have HK4 := Aside0.mk (KeepBut.trans HK2.out HK3.out (.inl rfl))
            refine (Tryd.Builder_String_any w.heap.size w.heap.size _ w3 HIB3.out HK4.out.1).mono ?_
            rintro e w5 ⟨rfl, hb5⟩
            have Hb5 := Aside0.mk hb5
            clear hb5
            go_wp2
            go_ret
            refine ⟨?_, ?_, below_belowB HB3.out Hb5.out hw0, keep_belowB HK4.out Hb5.out⟩
            · rw [HN.out]; rfl
            · rw [HN.out]; exact S59_below HS3.out Hb5.out hgw
          · have q1 : ((bA E).toList == [0, 1]) = false := by
              rw [Bool.eq_false_iff]; intro h; exact he1 (by rw [Lib.toList_data, list_bA] at h; simpa using h)
            by_cases he2 : E = [0, 255]
            · have HN := Aside0.mk (show textGo gq R (acc ++ rest.take k ++ [0]) = F by rw [hgo2, if_neg he1, if_pos he2])
              have q2 : ((bA E).toList == [0, 255]) = true := by rw [he2, Lib.toList_data, list_bA]; decide
              clear hgo2 he1 he2 hE hR
              go_wp2_with (first
                | (go_at_call 41; refine (key_reader_take.calls _ _ _ _ _ _ _ _ _ HS2.out HB2.out HT2.out).mono ?_; rintro e w3 ⟨rfl, hs3, hb3, hk3⟩; have HS3 := Aside0.mk hs3; have HB3 := Aside0.mk hb3; have HK3 := Aside0.mk hk3; clear hs3 hb3 hk3))
              have HIB3 := Aside0.mk (builder_keep HIB2.out hgw HK3.out)
              have HK4 := Aside0.mk (KeepBut.trans HK2.out HK3.out (.inl rfl))
              refine (writeByte w.heap.size w.heap.size _ 0 w3 HIB3.out (by rw [Lib.byteCells_length, List.length_append, htk]; omega) HK4.out.1).mono ?_
              rintro e w5 ⟨rfl, h5, hb5⟩
              have h5' : Lib.BuilderAt 47 5 w.heap.size w.heap.size (.pointer (some ⟨w.heap.size, 0, none⟩)) (Lib.byteCells (acc ++ rest.take k ++ [0])) w5 := by
                rw [Lib.byteCells_append (acc ++ rest.take k) [0]]
                exact h5
              have HIB5 := Aside0.mk (Or.inr h5' : Lib.IsBuilder 47 5 w.heap.size w.heap.size _ w5)
              have Hb5 := Aside0.mk hb5
              clear h5 h5' hb5
              go_wp2
              go_roundg gq
              case measure => omega
              case rel => exact ⟨R, _, false, S59_below HS3.out Hb5.out hgw, HIB5.out, below_belowB HB3.out Hb5.out hw0, keep_belowB HK4.out Hb5.out, .inr ⟨rfl, by rw [List.length_append, List.length_append, htk, List.length_singleton]; omega, by omega, HN.out⟩⟩
            · have HN := Aside0.mk (show F = ([], R, true) by rw [hgo2, if_neg he1, if_neg he2])
              have q2 : ((bA E).toList == [0, 255]) = false := by
                rw [Bool.eq_false_iff]; intro h; exact he2 (by rw [Lib.toList_data, list_bA] at h; simpa using h)
              clear hgo2 he1 he2 hE hR
              go_wp2_with (first
                | (go_at_call 41; refine (key_reader_take.calls _ _ _ _ _ _ _ _ _ HS2.out HB2.out HT2.out).mono ?_; rintro e w3 ⟨rfl, hs3, hb3, hk3⟩; have hc31 := cellS59_1 hs3.1; have hf31 := blk_frozen hs3.1 1; have HS3 := Aside0.mk hs3; have HB3 := Aside0.mk hb3; have HK3 := Aside0.mk hk3; clear hs3 hb3 hk3))
              go_roundg gq
              case measure => omega
              case rel =>
                refine ⟨R, acc ++ rest.take k, true, HS3.out.set_1 true, ?_, HB3.out.setCell HS3.out.ge _, (KeepBut.trans HK2.out HK3.out (.inl rfl)).set_ 1 _, .inl ⟨rfl, HN.out⟩⟩
                exact builder_keep (builder_keep HIB2.out hgw HK3.out) hgw ((KeepBut.refl _ g none).set_ 1 _)

theorem key_reader_text.calls (g : Nat) (s0_0 : ByteArray) (s0_1 : Bool) (r1 : ByteArray) (r2 : ByteArray) (r3 : Bool) (w0 w : World) (hI : IsS59 w0 w g s0_0 s0_1) (hB : Below w0.heap.size w0 w) (h : key_reader_text.f s0_0 s0_1 = some (r1, r2, r3)) :
    Calls Tryd.prog 43 #[.pointer (some ⟨g, 0, none⟩)] w fun e w' => e = .returned (.string r1) ∧ IsS59 w0 w' g r2 r3 ∧ Below w0.heap.size w0 w' ∧ KeepBut w w' g none := by
  unfold key_reader_text.f at h
  have hal := below_alloc (Below.refl w.heap.size w) (.cells #[.pointer none, .slice none 0 0] 47)
  have hfr : Lib.IsBuilder 47 5 w.heap.size w.heap.size (Lib.byteCells []) (w.alloc (.cells #[.pointer none, .slice none 0 0] 47)) := Lib.fresh_isBuilder 47 5 w
  have hk : KeepBut w (w.alloc (.cells #[.pointer none, .slice none 0 0] 47)) g none := keep_alloc (KeepBut.refl w g none) _
  cases s0_1 with
  | true =>
    simp only [if_true, Option.some.injEq, Prod.mk.injEq] at h
    obtain ⟨rfl, rfl, rfl⟩ := h
    have := text_any g s0_0 true ([], s0_0.data.toList, true) 0 w0 w hI hB ⟨s0_0.data.toList, [], true, by rw [bA_list]; exact hI.alloc _, hfr, below_alloc hB _, hk, .inl ⟨rfl, rfl⟩⟩
    rw [bA_list] at this
    exact this
  | false =>
    simp only [Bool.false_eq_true, if_false] at h
    split at h
    · rename_i hsz
      simp only [Option.some.injEq, Prod.mk.injEq] at h
      obtain ⟨rfl, rfl, rfl⟩ := h
      refine text_any g s0_0 false (textOf s0_0.data.toList) (s0_0.data.toList.length + 1) w0 w hI hB ⟨s0_0.data.toList, [], false, by rw [bA_list]; exact hI.alloc _, hfr, below_alloc hB _, hk, .inr ⟨rfl, by simpa using hsz, by omega, rfl⟩⟩
    · cases h
end Go.Proofs.YtjcgbppicdccdaaDoor.Q
