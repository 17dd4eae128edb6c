/- (*reader).num (function 42): the next eight bytes as a number. -/
import Derived.Test.YtjcgbppicdccdaaDoorQ0
import Derived.Test.YtjcgbppicdccdaaDoorQ41
namespace Go.Proofs.YtjcgbppicdccdaaDoor.Q
open Go.RowKit Go.Proofs.YtjcgbppicdccdaaDoorW.PrintWords Go.Proofs.YtjcgbppicdccdaaDoorW.PrintLast Go.Proofs.YtjcgbppicdccdaaDoorW.PrintMore
set_option linter.unusedVariables false
set_option linter.unusedSimpArgs false

def foldB : List UInt8 → Int → Int
  | [], u => u
  | c :: l, u => foldB l (Go.bits .or .u64 (IntKind.u64.wrap (u * 256)) (IntKind.u64.wrap (c.toNat : Int)))
def numOf (s : ByteArray) : Int := wrap64 (Go.bits .xor .u64 (foldB s.data.toList 0) 9223372036854775808)
def key_reader_num.f (s0_0 : ByteArray) (s0_1 : Bool) : Option (Int × ByteArray × Bool) := (key_reader_take.f s0_0 s0_1 8).bind fun t => if t.1.size ≤ 1000 then some (numOf t.1, t.2.1, t.2.2) else none

theorem bytes_below (w : World) (s : ByteArray) : Below w.heap.size w (Lib.bytesWorld w 5 s) :=
  ⟨rfl, rfl, rfl, by rw [Lib.bytesWorld_size]; omega, fun k hk => Lib.bytesWorld_at_old w 5 s k hk⟩
set_option maxHeartbeats 1000000 in
theorem key_reader_num.calls (g : Nat) (s0_0 : ByteArray) (s0_1 : Bool) (r1 : Int) (r2 : ByteArray) (r3 : Bool) (w0 w : World) (hI : IsS59 w0 w g s0_0 s0_1) (hB : Below w0.heap.size w0 w) (h : key_reader_num.f s0_0 s0_1 = some (r1, r2, r3)) :
    Calls Tryd.prog 42 #[.pointer (some ⟨g, 0, none⟩)] w fun e w' => e = .returned (.int .i64 r1) ∧ IsS59 w0 w' g r2 r3 ∧ Below w0.heap.size w0 w' ∧ KeepBut w w' g none := by
  unfold key_reader_num.f at h
  obtain ⟨⟨s, b2, b3⟩, ht, h⟩ := Option.bind_eq_some_iff.mp h
  by_cases hsz : s.size ≤ 1000
  · simp only [if_pos hsz, Option.some.injEq, Prod.mk.injEq] at h
    obtain ⟨rfl, rfl, rfl⟩ := h
    have HT := Aside0.mk ht
    have HI := Aside0.mk hI
    have HB := Aside0.mk hB
    clear ht hI hB
    have hconv : ∀ W, (convert 9 45 (.string s)).run Tryd.prog W = .ok (.slice (some ⟨W.heap.size, 0, none⟩) s.size (grownCap W s.size 0 5)) (Lib.bytesWorld W 5 s) := fun W => Lib.run_convert_string_bytes W 9 45 5 s Tryd.underlying9 Tryd.underlying45 Tryd.underlying5
    go_enter Tryd.func42, Tryd.ntmps42
    go_wp2_with (go_at_call 41; refine (key_reader_take.calls _ _ _ _ _ _ _ _ _ HI.out HB.out HT.out).mono ?_; rintro e w1 ⟨rfl, hi, hb, hk⟩; have HI1 := Aside0.mk hi; have HB1 := Aside0.mk hb; have HK1 := Aside0.mk hk; clear hi hb hk)
    have HBW := Aside0.mk (bytes_below w1 s)
    go_loopg [3, 10] s.size (fun gq v3 v10 wx => ∃ (i : Nat) (u : Int), v10 = .int .i64 i ∧ v3 = .int .u64 u ∧ i + gq = s.size ∧ Aside0 (foldB (s.data.toList.drop i) u = foldB s.data.toList 0) ∧ Aside0 (wx = Lib.bytesWorld w1 5 s))
    case atStart => exact ⟨0, 0, rfl, rfl, by omega, ⟨rfl⟩, ⟨rfl⟩⟩
    case round =>
      obtain ⟨i, u, rfl, rfl, hi, HF, HW⟩ := hrel
      have hwr := HW.out
      clear HW
      subst hwr
      cases gk with
      | zero =>
        have h0 : ¬ (i : Int) < (s.size : Int) := by omega
        have HF' := Aside0.mk (show u = foldB s.data.toList 0 by
          rw [← HF.out, List.drop_eq_nil_iff.2 (by rw [show s.data.toList.length = s.size by simp]; omega)]
          rfl)
        clear HF
        go_wp2
        go_ret
        exact ⟨by rw [HF'.out]; rfl, HI1.out.below HBW.out, below_step HB1.out HBW.out, KeepBut.trans HK1.out (KeepBut.of_below HBW.out g none) (.inl rfl)⟩
      | succ gq =>
        have h0 : (i : Int) < (s.size : Int) := by omega
        have hin : i < s.size := by omega
        have hcell := Lib.bytesWorld_cell w1 5 s i hin
        have HF' := Aside0.mk (show foldB (s.data.toList.drop (i + 1)) (Go.bits .or .u64 (IntKind.u64.wrap (u * 256)) (IntKind.u64.wrap ((s.data[i]'hin).toNat : Int))) = foldB s.data.toList 0 by
          have hl : i < s.data.toList.length := by simpa using hin
          rw [← HF.out, List.drop_eq_getElem_cons hl, foldB]
          rfl)
        clear HF
        go_wp2
        go_roundg gq
        case measure => omega
        case rel => exact ⟨i + 1, _, by go_num, rfl, by omega, HF', ⟨rfl⟩⟩
  · simp [hsz] at h
end Go.Proofs.YtjcgbppicdccdaaDoor.Q
