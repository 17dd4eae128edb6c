/- Packed by shake.py: YtnojcnmnkkgkgaaJR1 -/
import Derived.Test.YtnojcnmnkkgkgaaV7
set_option linter.unusedSectionVars false
section
namespace Go.Proofs.Kb
open Go Go.RowKit Go.Proofs.Ytnojcnmnkkgkgaa.Q Go.Proofs.YtnojcnmnkkgkgaaW.PrintWords Go.Proofs.YtnojcnmnkkgkgaaW.PrintLast Go.Proofs.YtnojcnmnkkgkgaaW.PrintMore
set_option linter.unusedVariables false
set_option linter.unusedSimpArgs false
set_option maxRecDepth 100000
theorem rd28 {H : Type} (enc : TypeId × Value → H) (w : World) (base : Nat) (spare : Nat → Bool) (held : Bool) (fuel : Nat) (cs : List Value) (x : DataW H × List MemPlace)
    (h : DataW.trod enc Try.prog w base spare held fuel 28 cs = some x) : ∃ (y : SV) (l6 : List S60) (l7 : List S62) (l8 : List S64) (l9 : List S66) (l10 : List ByteArray), cs = [.int .i64 y.f0, .string y.f1, .string y.f2, .string y.f3, .int .i64 y.f4, .bool y.f5, .slice y.f6.A y.f6.n y.f6.c, .slice y.f7.A y.f7.n y.f7.c, .slice y.f8.A y.f8.n y.f8.c, .slice y.f9.A y.f9.n y.f9.c, .slice y.f10.A y.f10.n y.f10.c] ∧ CK w y l6 l7 l8 l9 l10 := by
  obtain ⟨xs, n, _, _, hlen, hl, hf⟩ := DataW.trod_struct Try.underlying28 h
  rw [show Try.prog.cellsOf 28 = 11 by kernel_rfl] at hlen
  obtain ⟨c0, c1, c2, c3, c4, c5, c6, c7, c8, c9, c10, rfl⟩ : ∃ c0 c1 c2 c3 c4 c5 c6 c7 c8 c9 c10, cs = [c0, c1, c2, c3, c4, c5, c6, c7, c8, c9, c10] := by
    match cs, hlen with
    | [c0, c1, c2, c3, c4, c5, c6, c7, c8, c9, c10], _ => exact ⟨c0, c1, c2, c3, c4, c5, c6, c7, c8, c9, c10, rfl⟩
  obtain ⟨y0, hy0⟩ := some_of_len hl (j := 0) (by decide)
  have g0 : DataW.trod enc Try.prog w base spare held n 3 ((([c0, c1, c2, c3, c4, c5, c6, c7, c8, c9, c10] : List Value).drop 0).take (Try.prog.cellsOf 3)) = some y0 := (hf 0 _ rfl).trans hy0
  rw [show Try.prog.cellsOf 3 = 1 by kernel_rfl] at g0
  obtain ⟨a0, K0, w0⟩ := (Rd.int Try.underlying3) enc w base spare held n _ _ g0
  obtain ⟨y1, hy1⟩ := some_of_len hl (j := 1) (by decide)
  have g1 : DataW.trod enc Try.prog w base spare held n 9 ((([c0, c1, c2, c3, c4, c5, c6, c7, c8, c9, c10] : List Value).drop 1).take (Try.prog.cellsOf 9)) = some y1 := (hf 1 _ rfl).trans hy1
  rw [show Try.prog.cellsOf 9 = 1 by kernel_rfl] at g1
  obtain ⟨a1, K1, w1⟩ := (Rd.string Try.underlying9) enc w base spare held n _ _ g1
  obtain ⟨y2, hy2⟩ := some_of_len hl (j := 2) (by decide)
  have g2 : DataW.trod enc Try.prog w base spare held n 9 ((([c0, c1, c2, c3, c4, c5, c6, c7, c8, c9, c10] : List Value).drop 2).take (Try.prog.cellsOf 9)) = some y2 := (hf 2 _ rfl).trans hy2
  rw [show Try.prog.cellsOf 9 = 1 by kernel_rfl] at g2
  obtain ⟨a2, K2, w2⟩ := (Rd.string Try.underlying9) enc w base spare held n _ _ g2
  obtain ⟨y3, hy3⟩ := some_of_len hl (j := 3) (by decide)
  have g3 : DataW.trod enc Try.prog w base spare held n 9 ((([c0, c1, c2, c3, c4, c5, c6, c7, c8, c9, c10] : List Value).drop 3).take (Try.prog.cellsOf 9)) = some y3 := (hf 3 _ rfl).trans hy3
  rw [show Try.prog.cellsOf 9 = 1 by kernel_rfl] at g3
  obtain ⟨a3, K3, w3⟩ := (Rd.string Try.underlying9) enc w base spare held n _ _ g3
  obtain ⟨y4, hy4⟩ := some_of_len hl (j := 4) (by decide)
  have g4 : DataW.trod enc Try.prog w base spare held n 3 ((([c0, c1, c2, c3, c4, c5, c6, c7, c8, c9, c10] : List Value).drop 4).take (Try.prog.cellsOf 3)) = some y4 := (hf 4 _ rfl).trans hy4
  rw [show Try.prog.cellsOf 3 = 1 by kernel_rfl] at g4
  obtain ⟨a4, K4, w4⟩ := (Rd.int Try.underlying3) enc w base spare held n _ _ g4
  obtain ⟨y5, hy5⟩ := some_of_len hl (j := 5) (by decide)
  have g5 : DataW.trod enc Try.prog w base spare held n 4 ((([c0, c1, c2, c3, c4, c5, c6, c7, c8, c9, c10] : List Value).drop 5).take (Try.prog.cellsOf 4)) = some y5 := (hf 5 _ rfl).trans hy5
  rw [show Try.prog.cellsOf 4 = 1 by kernel_rfl] at g5
  obtain ⟨a5, K5, w5⟩ := (Rd.bool Try.underlying4) enc w base spare held n _ _ g5
  obtain ⟨y6, hy6⟩ := some_of_len hl (j := 6) (by decide)
  have g6 : DataW.trod enc Try.prog w base spare held n 22 ((([c0, c1, c2, c3, c4, c5, c6, c7, c8, c9, c10] : List Value).drop 6).take (Try.prog.cellsOf 22)) = some y6 := (hf 6 _ rfl).trans hy6
  rw [show Try.prog.cellsOf 22 = 1 by kernel_rfl] at g6
  obtain ⟨a6, K6, w6⟩ := (Rd.slice Try.underlying22 (by kernel_rfl) rd60) enc w base spare held n _ _ g6
  obtain ⟨y7, hy7⟩ := some_of_len hl (j := 7) (by decide)
  have g7 : DataW.trod enc Try.prog w base spare held n 23 ((([c0, c1, c2, c3, c4, c5, c6, c7, c8, c9, c10] : List Value).drop 7).take (Try.prog.cellsOf 23)) = some y7 := (hf 7 _ rfl).trans hy7
  rw [show Try.prog.cellsOf 23 = 1 by kernel_rfl] at g7
  obtain ⟨a7, K7, w7⟩ := (Rd.slice Try.underlying23 (by kernel_rfl) rd62) enc w base spare held n _ _ g7
  obtain ⟨y8, hy8⟩ := some_of_len hl (j := 8) (by decide)
  have g8 : DataW.trod enc Try.prog w base spare held n 24 ((([c0, c1, c2, c3, c4, c5, c6, c7, c8, c9, c10] : List Value).drop 8).take (Try.prog.cellsOf 24)) = some y8 := (hf 8 _ rfl).trans hy8
  rw [show Try.prog.cellsOf 24 = 1 by kernel_rfl] at g8
  obtain ⟨a8, K8, w8⟩ := (Rd.slice Try.underlying24 (by kernel_rfl) rd64) enc w base spare held n _ _ g8
  obtain ⟨y9, hy9⟩ := some_of_len hl (j := 9) (by decide)
  have g9 : DataW.trod enc Try.prog w base spare held n 25 ((([c0, c1, c2, c3, c4, c5, c6, c7, c8, c9, c10] : List Value).drop 9).take (Try.prog.cellsOf 25)) = some y9 := (hf 9 _ rfl).trans hy9
  rw [show Try.prog.cellsOf 25 = 1 by kernel_rfl] at g9
  obtain ⟨a9, K9, w9⟩ := (Rd.slice Try.underlying25 (by kernel_rfl) rd66) enc w base spare held n _ _ g9
  obtain ⟨y10, hy10⟩ := some_of_len hl (j := 10) (by decide)
  have g10 : DataW.trod enc Try.prog w base spare held n 26 ((([c0, c1, c2, c3, c4, c5, c6, c7, c8, c9, c10] : List Value).drop 10).take (Try.prog.cellsOf 26)) = some y10 := (hf 10 _ rfl).trans hy10
  rw [show Try.prog.cellsOf 26 = 1 by kernel_rfl] at g10
  obtain ⟨a10, K10, w10⟩ := (Rd.slice Try.underlying26 (by kernel_rfl) (Rd.string Try.underlying9)) enc w base spare held n _ _ g10
  obtain ⟨A6, k6, e6, q6, hC6⟩ := K6
  obtain ⟨A7, k7, e7, q7, hC7⟩ := K7
  obtain ⟨A8, k8, e8, q8, hC8⟩ := K8
  obtain ⟨A9, k9, e9, q9, hC9⟩ := K9
  obtain ⟨A10, k10, e10, q10, hC10⟩ := K10
  refine ⟨⟨a0, a1, a2, a3, a4, a5, ⟨A6, a6.length, k6⟩, ⟨A7, a7.length, k7⟩, ⟨A8, a8.length, k8⟩, ⟨A9, a9.length, k9⟩, ⟨A10, a10.length, k10⟩⟩, a6, a7, a8, a9, a10, ?_, ⟨⟨rfl, q6, hC6⟩, ⟨rfl, q7, hC7⟩, ⟨rfl, q8, hC8⟩, ⟨rfl, q9, hC9⟩, ⟨rfl, q10, hC10⟩⟩⟩
  have f0 : c0 = .int .i64 a0 := by injection (show [c0] = [_] from K0)
  have f1 : c1 = .string a1 := by injection (show [c1] = [_] from K1)
  have f2 : c2 = .string a2 := by injection (show [c2] = [_] from K2)
  have f3 : c3 = .string a3 := by injection (show [c3] = [_] from K3)
  have f4 : c4 = .int .i64 a4 := by injection (show [c4] = [_] from K4)
  have f5 : c5 = .bool a5 := by injection (show [c5] = [_] from K5)
  have f6 : c6 = .slice A6 a6.length k6 := by injection (show [c6] = [_] from e6)
  have f7 : c7 = .slice A7 a7.length k7 := by injection (show [c7] = [_] from e7)
  have f8 : c8 = .slice A8 a8.length k8 := by injection (show [c8] = [_] from e8)
  have f9 : c9 = .slice A9 a9.length k9 := by injection (show [c9] = [_] from e9)
  have f10 : c10 = .slice A10 a10.length k10 := by injection (show [c10] = [_] from e10)
  rw [f0, f1, f2, f3, f4, f5, f6, f7, f8, f9, f10]
end Go.Proofs.Kb
end
