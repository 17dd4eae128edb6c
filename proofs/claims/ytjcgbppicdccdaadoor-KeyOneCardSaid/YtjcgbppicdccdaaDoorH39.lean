/- key.number (function 39): eight bytes of a number. -/
import Derived.Test.YtjcgbppicdccdaaDoorQ0
import Derived.LoopN
namespace Go.Proofs.YtjcgbppicdccdaaDoor.Q
open Go.RowKit Go.Proofs.YtjcgbppicdccdaaDoorW.PrintWords Go.Proofs.YtjcgbppicdccdaaDoorW.PrintLast Go.Proofs.YtjcgbppicdccdaaDoorW.PrintMore
set_option linter.unusedVariables false
set_option linter.unusedSimpArgs false

/-- A number with its sign turned, as Go computes it. -/
def turned (n : Int) : Int := Go.bits .xor .u64 (IntKind.u64.wrap n) 9223372036854775808
def numBytes (u : Int) : List Int := [u / 72057594037927936 % 256, u / 281474976710656 % 256, u / 1099511627776 % 256, u / 4294967296 % 256, u / 16777216 % 256, u / 65536 % 256, u / 256 % 256, u % 256]
def key_number.f (a0 : Int) : Option (ByteArray) := some (strOfNums (numBytes (turned a0)))

theorem conv8 (w : World) (b0 b1 b2 b3 b4 b5 b6 b7 : Int) :
    (convert 45 9 (.slice (some ⟨w.heap.size, 0, none⟩) 8 8)).run Tryd.prog (w.alloc (.cells #[.int .u8 b0, .int .u8 b1, .int .u8 b2, .int .u8 b3, .int .u8 b4, .int .u8 b5, .int .u8 b6, .int .u8 b7] 74)) =
      .ok (.string (strOfNums [b0, b1, b2, b3, b4, b5, b6, b7])) (w.alloc (.cells #[.int .u8 b0, .int .u8 b1, .int .u8 b2, .int .u8 b3, .int .u8 b4, .int .u8 b5, .int .u8 b6, .int .u8 b7] 74)) := by
  refine string_of_reads (e := 5) Tryd.underlying45 Tryd.underlying5 Tryd.underlying9 ⟨rfl, by decide, fun _ => ⟨_, rfl, fun j hj => ?_⟩⟩
  match j, hj with
  | 0, _ => simp [Addr.add]
  | 1, _ => simp [Addr.add]
  | 2, _ => simp [Addr.add]
  | 3, _ => simp [Addr.add]
  | 4, _ => simp [Addr.add]
  | 5, _ => simp [Addr.add]
  | 6, _ => simp [Addr.add]
  | 7, _ => simp [Addr.add]

set_option maxHeartbeats 1000000 in
set_option maxRecDepth 100000 in
theorem key_number.calls (a0 : Int) (r : ByteArray) (w : World) (h : key_number.f a0 = some r) :
    Calls Tryd.prog 39 #[.int .i64 a0] w fun e w' => e = .returned (.string r) ∧ Below w.heap.size w w' := by
  obtain rfl := Option.some.inj h
  have hc := conv8 w
  go_enter Tryd.func39, Tryd.ntmps39
  go_wp2
  refine wp_loop_rounds 9 ?_
  rw [rounds_succ]
  go_wp2
  iterate 8
    rw [rounds_succ]
    go_wp2
  go_ret
  exact ⟨rfl, below_alloc (Below.refl _ _) _⟩
end Go.Proofs.YtjcgbppicdccdaaDoor.Q
