/- strings.Repeat (function 47), at one byte 0. -/
import Derived.Test.YtjcgbppicdccdaaDoorQ0
import Derived.Test.YtjcgbppicdccdaaDoorShelf
namespace Go.Proofs.YtjcgbppicdccdaaDoor.Q
open Go.RowKit Go.Proofs.YtjcgbppicdccdaaDoorW.PrintWords Go.Proofs.YtjcgbppicdccdaaDoorW.PrintLast Go.Proofs.YtjcgbppicdccdaaDoorW.PrintMore
set_option linter.unusedVariables false
set_option linter.unusedSimpArgs false

def strings_Repeat.f (a0 : ByteArray) (a1 : Int) : Option (ByteArray) := if a0 = ⟨#[0]⟩ ∧ 0 ≤ a1 ∧ a1 ≤ 1000000 then some ⟨(List.replicate a1.toNat (0 : UInt8)).toArray⟩ else none
theorem repeat_zero : ∀ n, Lib.repeatL [0] n = List.replicate n (0 : UInt8)
  | 0 => rfl
  | n + 1 => by rw [Lib.repeatL, repeat_zero n, List.replicate_succ]; rfl
theorem strings_Repeat.calls (a0 : ByteArray) (a1 : Int) (r : ByteArray) (w : World) (h : strings_Repeat.f a0 a1 = some r) :
    Calls Tryd.prog 47 #[.string a0, .int .i64 a1] w fun e w' => e = .returned (.string r) ∧ Below w.heap.size w w' := by
  unfold strings_Repeat.f at h
  split at h
  · rename_i hc
    obtain ⟨rfl, h0, h1⟩ := hc
    obtain rfl := Option.some.inj h
    obtain ⟨n, rfl⟩ := Int.eq_ofNat_of_zero_le h0
    have hs : (⟨#[0]⟩ : ByteArray).size = 1 := rfl
    refine (Tryd.strings_Repeat ⟨#[0]⟩ n w (by omega) (by rw [hs]; omega)).mono ?_
    rintro e w' ⟨rfl, hb⟩
    exact ⟨by rw [Int.toNat_natCast, ← repeat_zero], hb⟩
  · cases h
end Go.Proofs.YtjcgbppicdccdaaDoor.Q
