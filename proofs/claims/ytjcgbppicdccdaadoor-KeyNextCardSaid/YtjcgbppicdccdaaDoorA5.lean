/- Plain law: the laws' pure statements in the row's own form. -/
import Derived.Test.YtjcgbppicdccdaaDoorA4
import Derived.Test.YtjcgbppicdccdaaDoorR
namespace Go.Proofs.YtjcgbppicdccdaaDoor.Q
open Go.RowKit
theorem wf_range {n : Int} (h : (Lit.int .i64 n).wf = true) : -9223372036854775808 ≤ n ∧ n ≤ 9223372036854775807 := by
  simp [Lit.wf, IntKind.min, IntKind.max, IntKind.bits, IntKind.signed] at h
  omega
theorem KeyOrder_in (a b : List S43) (ha : a.length ≤ maxLen ∧ ∀ v ∈ a, wf43 v) (hb : b.length ≤ maxLen ∧ ∀ v ∈ b, wf43 v) : ∃ k, interlocklaw05_KeyOrder.f k a b = some true :=
  KeyOrder_pure a b (fun v hv => wf_range (ha.2 v hv).2.1) (fun v hv => wf_range (hb.2 v hv).2.1)
end Go.Proofs.YtjcgbppicdccdaaDoor.Q
