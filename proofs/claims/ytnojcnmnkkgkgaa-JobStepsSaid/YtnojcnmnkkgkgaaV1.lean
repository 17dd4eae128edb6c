/- Packed by shake.py: YtnojcnmnkkgkgaaQ0 YtnojcnmnkkgkgaaQ57 YtnojcnmnkkgkgaaKB1 YtnojcnmnkkgkgaaRX1 YtnojcnmnkkgkgaaRX2 YtnojcnmnkkgkgaaJE1 YtnojcnmnkkgkgaaJS1 YtnojcnmnkkgkgaaJC1 YtnojcnmnkkgkgaaJC2 YtnojcnmnkkgkgaaQ60 YtnojcnmnkkgkgaaJT1 YtnojcnmnkkgkgaaJT2 YtnojcnmnkkgkgaaJT3 YtnojcnmnkkgkgaaJT4 YtnojcnmnkkgkgaaJT5 -/
import Derived.Test.YtnojcnmnkkgkgaaProg
import Derived.Below
import Derived.Deep.Draws
import Derived.Deep.AppendLies
import Derived.Maps.AppendAt
import Derived.OwnWalk
import Derived.Laws.BytesArg
import Derived.Laws.MakeOwn
import Derived.Laws.OwnMore
import Derived.Deep.OwnRows
import Derived.Tactics
import Derived.Lib.ConvBytes
import Derived.Laws.Slices
import Derived.WalkKit
import Derived.KernelRfl
import Derived.RowKit3
import Derived.Deep.LoopGhost
import Derived.Deep.QuietTactic
import Derived.BigQuiet
import Derived.WideLaws
import Derived.Deep.DeepCutAuto
import Derived.Deep.CutBlock
import Derived.Deep.RegionHeld3
import Derived.Laws.Rows
import Derived.Lib.AppendStr
import Derived.ArgAppend
import Derived.Laws.IdiomCopy
import Derived.OrdersHeld
import Derived.Laws.BitsLemmas
import Derived.RowKit
import Derived.Test.YtnojcnmnkkgkgaaVWWords
import Derived.Test.YtnojcnmnkkgkgaaVWLast
import Derived.Test.YtnojcnmnkkgkgaaVWTab
import Derived.Test.YtnojcnmnkkgkgaaVWFour
import Derived.Test.YtnojcnmnkkgkgaaVWQPut
import Derived.Test.YtnojcnmnkkgkgaaVWApart
import Derived.Test.YtnojcnmnkkgkgaaVWArr
import Derived.Test.YtnojcnmnkkgkgaaVWZeros
import Derived.Test.YtnojcnmnkkgkgaaVWFoot
import Derived.Test.YtnojcnmnkkgkgaaVWKept
import Derived.Test.YtnojcnmnkkgkgaaVWShare
import Derived.Test.YtnojcnmnkkgkgaaVWN
import Derived.Test.YtnojcnmnkkgkgaaVWFootNe
import Derived.Test.YtnojcnmnkkgkgaaVWAt
import Derived.Test.YtnojcnmnkkgkgaaVWEqStruct
import Derived.Test.YtnojcnmnkkgkgaaVWRepsOne
import Derived.Test.YtnojcnmnkkgkgaaVWInv
import Derived.Test.YtnojcnmnkkgkgaaVWInvWords
import Derived.Test.YtnojcnmnkkgkgaaVWGuard
import Derived.Test.YtnojcnmnkkgkgaaVWNEv
import Derived.Test.YtnojcnmnkkgkgaaVWMore
import Derived.RangeFuncBox
import Derived.Lib.AppendZeros
import Derived.Lib.SliceRun
import Derived.Lib.Overlaps
import Derived.Laws.Externs
import Derived.Laws.CopyRow
import Derived.Laws.Append
import Derived.OpenShut
import Derived.Shelf.RegionOpenPlain
import Derived.Shelf.Spec.SlicesInsert
import Derived.Defers
set_option linter.unusedSectionVars false
section
namespace Go.Proofs.Ytnojcnmnkkgkgaa.Q
open Go.RowKit Go.Proofs.YtnojcnmnkkgkgaaW.PrintWords Go.Proofs.YtnojcnmnkkgkgaaW.PrintLast Go.Proofs.YtnojcnmnkkgkgaaW.PrintMore
attribute [local go_sem] max2_int min2_int max_two min_two max_three min_three max_four min_four
set_option linter.unusedVariables false
set_option linter.unusedSimpArgs false
def errW : Option Int → Value
  | none => .nilIface
  | some c => .iface 0 (.int .i64 c)
theorem errW_none : errW none = .nilIface := rfl
theorem errW_some (c : Int) : errW (some c) = .iface 0 (.int .i64 c) := rfl
theorem info3 : (Try.prog.info? 3).map (fun i => (i.zero, i.size, i.bytes)) = some (some (.int .i64 0), 1, 8) := by kernel_rfl
theorem info5 : (Try.prog.info? 5).map (fun i => (i.zero, i.size, i.bytes)) = some (some (.int .u8 0), 1, 1) := by kernel_rfl
theorem info9 : (Try.prog.info? 9).map (fun i => (i.zero, i.size, i.bytes)) = some (some (.string ⟨#[]⟩), 1, 16) := by kernel_rfl
theorem info60 : (Try.prog.info? 60).map (fun i => (i.zero, i.size, i.bytes)) = some (some (.agg #[(.int .i64 0), (.int .i64 0), (.string ⟨#[]⟩)]), 3, 32) := by kernel_rfl
theorem info62 : (Try.prog.info? 62).map (fun i => (i.zero, i.size, i.bytes)) = some (some (.agg #[(.string ⟨#[]⟩), (.int .i64 0), (.int .i64 0), (.string ⟨#[]⟩)]), 4, 48) := by kernel_rfl
theorem info64 : (Try.prog.info? 64).map (fun i => (i.zero, i.size, i.bytes)) = some (some (.agg #[(.string ⟨#[]⟩), (.int .i64 0), (.int .i64 0), (.int .i64 0), (.string ⟨#[]⟩)]), 5, 56) := by kernel_rfl
theorem info66 : (Try.prog.info? 66).map (fun i => (i.zero, i.size, i.bytes)) = some (some (.agg #[(.string ⟨#[]⟩), (.int .i64 0), (.bool false)]), 3, 32) := by kernel_rfl
theorem info97 : (Try.prog.info? 97).map (fun i => (i.zero, i.size, i.bytes)) = some (some (.agg #[(.int .i64 0), (.string ⟨#[]⟩), (.string ⟨#[]⟩), (.int .i64 0)]), 4, 48) := by kernel_rfl
structure S60 where
  f0 : Int
  f1 : Int
  f2 : ByteArray
def z60 : S60 := ⟨(0 : Int), (0 : Int), (⟨#[]⟩ : ByteArray)⟩
def k60 : Kd S60 := Kd.iso (Kd.pair (Kd.int .i64) (Kd.pair (Kd.int .i64) Kd.string)) (fun x : S60 => (x.f0, x.f1, x.f2))
theorem k60_open {w : World} {x : S60} {cs : List Value} (h : k60.K w x cs) : cs = [.int .i64 x.f0, .int .i64 x.f1, .string x.f2] := by
  obtain ⟨_, _, rfl, rfl, ⟨_, _, rfl, rfl, rfl⟩⟩ := h
  exact rfl
theorem k60_openM {w : World} {base : Nat} {ok : Nat → Prop} {x : S60} {cs : List Value} (h : k60.M w base ok x cs) : cs = [.int .i64 x.f0, .int .i64 x.f1, .string x.f2] := by
  obtain ⟨_, _, rfl, rfl, ⟨_, _, rfl, rfl, rfl⟩⟩ := h
  exact rfl
theorem k60_mk (w : World) (x : S60)  : k60.K w x [.int .i64 x.f0, .int .i64 x.f1, .string x.f2] := ⟨[.int .i64 x.f0], [.int .i64 x.f1, .string x.f2], rfl, rfl, ⟨[.int .i64 x.f1], [.string x.f2], rfl, rfl, rfl⟩⟩
def rd_T60 (xs : List S60) (i : Int) : S60 := xs.getD i.toNat z60
theorem at_T60 {w : World} {A : Option Addr} {n : Nat} {xs : List S60} (h : Kd.C k60 w A n xs) (i : Int) (h0 : 0 ≤ i) (h1 : i < n) : ∃ ad , A = some ad ∧ w.cell? (ad.add (i.toNat * 3)) = some (.int .i64 (rd_T60 xs i).f0) ∧ w.cell? ⟨(ad.add (i.toNat * 3)).block, (ad.add (i.toNat * 3)).off + 1, none⟩ = some (.int .i64 (rd_T60 xs i).f1) ∧ w.cell? ⟨(ad.add (i.toNat * 3)).block, (ad.add (i.toNat * 3)).off + 2, none⟩ = some (.string (rd_T60 xs i).f2) := by
  obtain ⟨ad, c, e, _, hK, hc0⟩ := Kd.C_get h z60 i h0 h1
  have hc : ∀ j u, c[j]? = some u → w.cell? (ad.add (i.toNat * 3 + j)) = some u := hc0
  obtain rfl := k60_open hK
  exact ⟨ad, e, hc 0 _ rfl, by rw [← add_field _ _ 1 (by omega)]; exact hc 1 _ rfl, by rw [← add_field _ _ 2 (by omega)]; exact hc 2 _ rfl⟩
structure S62 where
  f0 : ByteArray
  f1 : S60
def z62 : S62 := ⟨(⟨#[]⟩ : ByteArray), z60⟩
def k62 : Kd S62 := Kd.iso (Kd.pair Kd.string k60) (fun x : S62 => (x.f0, x.f1))
theorem k62_open {w : World} {x : S62} {cs : List Value} (h : k62.K w x cs) : cs = [.string x.f0, .int .i64 x.f1.f0, .int .i64 x.f1.f1, .string x.f1.f2] := by
  obtain ⟨_, _, rfl, rfl, s1⟩ := h
  obtain rfl := k60_open s1
  exact rfl
theorem k62_mk (w : World) (x : S62)  : k62.K w x [.string x.f0, .int .i64 x.f1.f0, .int .i64 x.f1.f1, .string x.f1.f2] := ⟨[.string x.f0], [.int .i64 x.f1.f0, .int .i64 x.f1.f1, .string x.f1.f2], rfl, rfl, (k60_mk w x.f1 )⟩
def rd_T62 (xs : List S62) (i : Int) : S62 := xs.getD i.toNat z62
theorem at_T62 {w : World} {A : Option Addr} {n : Nat} {xs : List S62} (h : Kd.C k62 w A n xs) (i : Int) (h0 : 0 ≤ i) (h1 : i < n) : ∃ ad , A = some ad ∧ w.cell? (ad.add (i.toNat * 4)) = some (.string (rd_T62 xs i).f0) ∧ w.cell? ⟨(ad.add (i.toNat * 4)).block, (ad.add (i.toNat * 4)).off + 1, none⟩ = some (.int .i64 (rd_T62 xs i).f1.f0) ∧ w.cell? ⟨(ad.add (i.toNat * 4)).block, (ad.add (i.toNat * 4)).off + 2, none⟩ = some (.int .i64 (rd_T62 xs i).f1.f1) ∧ w.cell? ⟨(ad.add (i.toNat * 4)).block, (ad.add (i.toNat * 4)).off + 3, none⟩ = some (.string (rd_T62 xs i).f1.f2) := by
  obtain ⟨ad, c, e, _, hK, hc0⟩ := Kd.C_get h z62 i h0 h1
  have hc : ∀ j u, c[j]? = some u → w.cell? (ad.add (i.toNat * 4 + j)) = some u := hc0
  obtain rfl := k62_open hK
  exact ⟨ad, e, hc 0 _ rfl, by rw [← add_field _ _ 1 (by omega)]; exact hc 1 _ rfl, by rw [← add_field _ _ 2 (by omega)]; exact hc 2 _ rfl, by rw [← add_field _ _ 3 (by omega)]; exact hc 3 _ rfl⟩
structure S64 where
  f0 : ByteArray
  f1 : Int
  f2 : S60
def z64 : S64 := ⟨(⟨#[]⟩ : ByteArray), (0 : Int), z60⟩
def k64 : Kd S64 := Kd.iso (Kd.pair Kd.string (Kd.pair (Kd.int .i64) k60)) (fun x : S64 => (x.f0, x.f1, x.f2))
theorem k64_open {w : World} {x : S64} {cs : List Value} (h : k64.K w x cs) : cs = [.string x.f0, .int .i64 x.f1, .int .i64 x.f2.f0, .int .i64 x.f2.f1, .string x.f2.f2] := by
  obtain ⟨_, _, rfl, rfl, ⟨_, _, rfl, rfl, s2⟩⟩ := h
  obtain rfl := k60_open s2
  exact rfl
theorem k64_mk (w : World) (x : S64)  : k64.K w x [.string x.f0, .int .i64 x.f1, .int .i64 x.f2.f0, .int .i64 x.f2.f1, .string x.f2.f2] := ⟨[.string x.f0], [.int .i64 x.f1, .int .i64 x.f2.f0, .int .i64 x.f2.f1, .string x.f2.f2], rfl, rfl, ⟨[.int .i64 x.f1], [.int .i64 x.f2.f0, .int .i64 x.f2.f1, .string x.f2.f2], rfl, rfl, (k60_mk w x.f2 )⟩⟩
def rd_T64 (xs : List S64) (i : Int) : S64 := xs.getD i.toNat z64
theorem at_T64 {w : World} {A : Option Addr} {n : Nat} {xs : List S64} (h : Kd.C k64 w A n xs) (i : Int) (h0 : 0 ≤ i) (h1 : i < n) : ∃ ad , A = some ad ∧ w.cell? (ad.add (i.toNat * 5)) = some (.string (rd_T64 xs i).f0) ∧ w.cell? ⟨(ad.add (i.toNat * 5)).block, (ad.add (i.toNat * 5)).off + 1, none⟩ = some (.int .i64 (rd_T64 xs i).f1) ∧ w.cell? ⟨(ad.add (i.toNat * 5)).block, (ad.add (i.toNat * 5)).off + 2, none⟩ = some (.int .i64 (rd_T64 xs i).f2.f0) ∧ w.cell? ⟨(ad.add (i.toNat * 5)).block, (ad.add (i.toNat * 5)).off + 3, none⟩ = some (.int .i64 (rd_T64 xs i).f2.f1) ∧ w.cell? ⟨(ad.add (i.toNat * 5)).block, (ad.add (i.toNat * 5)).off + 4, none⟩ = some (.string (rd_T64 xs i).f2.f2) := by
  obtain ⟨ad, c, e, _, hK, hc0⟩ := Kd.C_get h z64 i h0 h1
  have hc : ∀ j u, c[j]? = some u → w.cell? (ad.add (i.toNat * 5 + j)) = some u := hc0
  obtain rfl := k64_open hK
  exact ⟨ad, e, hc 0 _ rfl, by rw [← add_field _ _ 1 (by omega)]; exact hc 1 _ rfl, by rw [← add_field _ _ 2 (by omega)]; exact hc 2 _ rfl, by rw [← add_field _ _ 3 (by omega)]; exact hc 3 _ rfl, by rw [← add_field _ _ 4 (by omega)]; exact hc 4 _ rfl⟩
structure S66 where
  f0 : ByteArray
  f1 : Int
  f2 : Bool
def z66 : S66 := ⟨(⟨#[]⟩ : ByteArray), (0 : Int), false⟩
def k66 : Kd S66 := Kd.iso (Kd.pair Kd.string (Kd.pair (Kd.int .i64) Kd.bool)) (fun x : S66 => (x.f0, x.f1, x.f2))
theorem k66_open {w : World} {x : S66} {cs : List Value} (h : k66.K w x cs) : cs = [.string x.f0, .int .i64 x.f1, .bool x.f2] := by
  obtain ⟨_, _, rfl, rfl, ⟨_, _, rfl, rfl, rfl⟩⟩ := h
  exact rfl
theorem k66_mk (w : World) (x : S66)  : k66.K w x [.string x.f0, .int .i64 x.f1, .bool x.f2] := ⟨[.string x.f0], [.int .i64 x.f1, .bool x.f2], rfl, rfl, ⟨[.int .i64 x.f1], [.bool x.f2], rfl, rfl, rfl⟩⟩
def rd_T66 (xs : List S66) (i : Int) : S66 := xs.getD i.toNat z66
theorem at_T66 {w : World} {A : Option Addr} {n : Nat} {xs : List S66} (h : Kd.C k66 w A n xs) (i : Int) (h0 : 0 ≤ i) (h1 : i < n) : ∃ ad , A = some ad ∧ w.cell? (ad.add (i.toNat * 3)) = some (.string (rd_T66 xs i).f0) ∧ w.cell? ⟨(ad.add (i.toNat * 3)).block, (ad.add (i.toNat * 3)).off + 1, none⟩ = some (.int .i64 (rd_T66 xs i).f1) ∧ w.cell? ⟨(ad.add (i.toNat * 3)).block, (ad.add (i.toNat * 3)).off + 2, none⟩ = some (.bool (rd_T66 xs i).f2) := by
  obtain ⟨ad, c, e, _, hK, hc0⟩ := Kd.C_get h z66 i h0 h1
  have hc : ∀ j u, c[j]? = some u → w.cell? (ad.add (i.toNat * 3 + j)) = some u := hc0
  obtain rfl := k66_open hK
  exact ⟨ad, e, hc 0 _ rfl, by rw [← add_field _ _ 1 (by omega)]; exact hc 1 _ rfl, by rw [← add_field _ _ 2 (by omega)]; exact hc 2 _ rfl⟩
structure S95 where
  f0 : Int
  f1 : ByteArray
  f2 : ByteArray
def k95 : Kd S95 := Kd.iso (Kd.pair (Kd.int .i64) (Kd.pair Kd.string Kd.string)) (fun x : S95 => (x.f0, x.f1, x.f2))
theorem k95_openM {w : World} {base : Nat} {ok : Nat → Prop} {x : S95} {cs : List Value} (h : k95.M w base ok x cs) : cs = [.int .i64 x.f0, .string x.f1, .string x.f2] := by
  obtain ⟨_, _, rfl, rfl, ⟨_, _, rfl, rfl, rfl⟩⟩ := h
  exact rfl
theorem k95_mkM (w : World) (base : Nat) (ok : Nat → Prop) (x : S95)  : k95.M w base ok x [.int .i64 x.f0, .string x.f1, .string x.f2] := ⟨[.int .i64 x.f0], [.string x.f1, .string x.f2], rfl, rfl, ⟨[.string x.f1], [.string x.f2], rfl, rfl, rfl⟩⟩
structure S97 where
  f0 : S95
  f1 : Int
def k97 : Kd S97 := Kd.iso (Kd.pair k95 (Kd.int .i64)) (fun x : S97 => (x.f0, x.f1))
theorem k97_openM {w : World} {base : Nat} {ok : Nat → Prop} {x : S97} {cs : List Value} (h : k97.M w base ok x cs) : cs = [.int .i64 x.f0.f0, .string x.f0.f1, .string x.f0.f2, .int .i64 x.f1] := by
  obtain ⟨_, _, rfl, s0, rfl⟩ := h
  obtain rfl := k95_openM s0
  exact rfl
theorem k97_mkM (w : World) (base : Nat) (ok : Nat → Prop) (x : S97)  : k97.M w base ok x [.int .i64 x.f0.f0, .string x.f0.f1, .string x.f0.f2, .int .i64 x.f1] := ⟨[.int .i64 x.f0.f0, .string x.f0.f1, .string x.f0.f2], [.int .i64 x.f1], rfl, (k95_mkM w base ok x.f0 ), rfl⟩
end Go.Proofs.Ytnojcnmnkkgkgaa.Q
end
section
namespace Go.Proofs.Ytnojcnmnkkgkgaa.Q
open Go.RowKit Go.Proofs.YtnojcnmnkkgkgaaW.PrintWords Go.Proofs.YtnojcnmnkkgkgaaW.PrintLast Go.Proofs.YtnojcnmnkkgkgaaW.PrintMore
attribute [local go_sem] max2_int min2_int max_two min_two max_three min_three max_four min_four
set_option linter.unusedVariables false
set_option linter.unusedSimpArgs false
mutual
def interlockref00_Show.j0 : Nat → Int → Int → Option (ByteArray)
  | 0, _, _ => none
  | k + 1, x0, x3 => interlockref00_Show.l0 k x0 x3 (([] : List Int))
def interlockref00_Show.l0 : Nat → Int → Int → List Int → Option (ByteArray)
  | 0, _, _, _ => none
  | k + 1, x0, x3, x4 => if x4.length < 140737488355328 then ((some (x4 ++ [(wrap64 (48 - (Int.tmod x3 10))) % 256] : List Int)).bind fun y192 => (if (wrap64 (Int.tdiv x3 10)) = 0 then (if x0 < 0 then (if y192.length < 140737488355328 then (interlockref00_Show.j2 k (y192 ++ [45])) else (none)) else (interlockref00_Show.j2 k y192)) else (interlockref00_Show.l0 k x0 (wrap64 (Int.tdiv x3 10)) y192))) else (none)
def interlockref00_Show.j2 : Nat → List Int → Option (ByteArray)
  | 0, _ => none
  | k + 1, x4 => interlockref00_Show.l1 k x4 (([] : List Int)) (wrap64 ((x4.length : Int) - 1))
def interlockref00_Show.l1 : Nat → List Int → List Int → Int → Option (ByteArray)
  | 0, _, _, _ => none
  | k + 1, x4, x5, x6 => if x6 ≥ 0 then (if 0 ≤ x6 then (if x6 < (x4.length : Int) then (if x5.length < 140737488355328 then (interlockref00_Show.l1 k x4 (x5 ++ [rd x4 x6]) (wrap64 (x6 - 1))) else (none)) else (none)) else (none)) else (some (strOfNums x5))
end
def interlockref00_Show.f (k : Nat) (a0 : Int) : Option (ByteArray) := if a0 > 0 then (interlockref00_Show.j0 k a0 (wrap64 (-a0))) else (interlockref00_Show.j0 k a0 a0)
theorem interlockref00_Show.mono_l : ∀ k, (∀ y0 y1, LeO (interlockref00_Show.j0 k y0 y1) (interlockref00_Show.j0 (k + 1) y0 y1)) ∧ (∀ y0 y1 y2, LeO (interlockref00_Show.l0 k y0 y1 y2) (interlockref00_Show.l0 (k + 1) y0 y1 y2)) ∧ (∀ y0, LeO (interlockref00_Show.j2 k y0) (interlockref00_Show.j2 (k + 1) y0)) ∧ (∀ y0 y1 y2, LeO (interlockref00_Show.l1 k y0 y1 y2) (interlockref00_Show.l1 (k + 1) y0 y1 y2))
  | 0 => ⟨fun _ _ r h => by simp [interlockref00_Show.j0] at h, fun _ _ _ r h => by simp [interlockref00_Show.l0] at h, fun _ r h => by simp [interlockref00_Show.j2] at h, fun _ _ _ r h => by simp [interlockref00_Show.l1] at h⟩
  | k + 1 => by
    obtain ⟨ih0, ih1, ih2, ih3⟩ := interlockref00_Show.mono_l k
    refine ⟨?_, ?_, ?_, ?_⟩
    · intro y0 y1
      unfold interlockref00_Show.j0
      repeat' first
      | (with_reducible exact ih0 _ _)
      | (with_reducible exact ih1 _ _ _)
      | (with_reducible exact ih2 _)
      | (with_reducible exact ih3 _ _ _)
      | (with_reducible exact LeO.refl _)
      | (with_reducible exact LeO.none _)
      | (with_reducible refine LeO.ite ?_ ?_)
      | (with_reducible refine LeO.bind ?_ (fun _ => ?_))
      | exact ih0 _ _
      | exact ih1 _ _ _
      | exact ih2 _
      | exact ih3 _ _ _
      | exact LeO.none _
      | refine LeO.ite ?_ ?_
      | refine LeO.bind ?_ (fun _ => ?_)
    · intro y0 y1 y2
      unfold interlockref00_Show.l0
      repeat' first
      | (with_reducible exact ih0 _ _)
      | (with_reducible exact ih1 _ _ _)
      | (with_reducible exact ih2 _)
      | (with_reducible exact ih3 _ _ _)
      | (with_reducible exact LeO.refl _)
      | (with_reducible exact LeO.none _)
      | (with_reducible refine LeO.ite ?_ ?_)
      | (with_reducible refine LeO.bind ?_ (fun _ => ?_))
      | exact ih0 _ _
      | exact ih1 _ _ _
      | exact ih2 _
      | exact ih3 _ _ _
      | exact LeO.none _
      | refine LeO.ite ?_ ?_
      | refine LeO.bind ?_ (fun _ => ?_)
    · intro y0
      unfold interlockref00_Show.j2
      repeat' first
      | (with_reducible exact ih0 _ _)
      | (with_reducible exact ih1 _ _ _)
      | (with_reducible exact ih2 _)
      | (with_reducible exact ih3 _ _ _)
      | (with_reducible exact LeO.refl _)
      | (with_reducible exact LeO.none _)
      | (with_reducible refine LeO.ite ?_ ?_)
      | (with_reducible refine LeO.bind ?_ (fun _ => ?_))
      | exact ih0 _ _
      | exact ih1 _ _ _
      | exact ih2 _
      | exact ih3 _ _ _
      | exact LeO.none _
      | refine LeO.ite ?_ ?_
      | refine LeO.bind ?_ (fun _ => ?_)
    · intro y0 y1 y2
      unfold interlockref00_Show.l1
      repeat' first
      | (with_reducible exact ih0 _ _)
      | (with_reducible exact ih1 _ _ _)
      | (with_reducible exact ih2 _)
      | (with_reducible exact ih3 _ _ _)
      | (with_reducible exact LeO.refl _)
      | (with_reducible exact LeO.none _)
      | (with_reducible refine LeO.ite ?_ ?_)
      | (with_reducible refine LeO.bind ?_ (fun _ => ?_))
      | exact ih0 _ _
      | exact ih1 _ _ _
      | exact ih2 _
      | exact ih3 _ _ _
      | exact LeO.none _
      | refine LeO.ite ?_ ?_
      | refine LeO.bind ?_ (fun _ => ?_)
theorem interlockref00_Show.mono : ∀ a0 k, LeO (interlockref00_Show.f k a0) (interlockref00_Show.f (k + 1) a0) := by
  intro a0 k
  obtain ⟨ih0, ih1, ih2, ih3⟩ := interlockref00_Show.mono_l k
  unfold interlockref00_Show.f
  repeat' first
      | (with_reducible exact ih0 _ _)
      | (with_reducible exact ih1 _ _ _)
      | (with_reducible exact ih2 _)
      | (with_reducible exact ih3 _ _ _)
      | (with_reducible exact LeO.refl _)
      | (with_reducible exact LeO.none _)
      | (with_reducible refine LeO.ite ?_ ?_)
      | (with_reducible refine LeO.bind ?_ (fun _ => ?_))
      | exact ih0 _ _
      | exact ih1 _ _ _
      | exact ih2 _
      | exact ih3 _ _ _
      | exact LeO.none _
      | refine LeO.ite ?_ ?_
      | refine LeO.bind ?_ (fun _ => ?_)
set_option maxHeartbeats 8000000 in
set_option maxRecDepth 100000 in
theorem interlockref00_Show.calls (k : Nat) (a0 : Int) (r : ByteArray) (w : World) (h : interlockref00_Show.f k a0 = some r) :
    Calls Try.prog 57 #[.int .i64 a0] w fun e w' => e = .returned (.string r) ∧ Below w.heap.size w w' := by
  have HB := Aside0.mk (Below.refl w.heap.size w)
  have H : (if a0 > 0 then (interlockref00_Show.j0 k a0 (wrap64 (-a0))) else (interlockref00_Show.j0 k a0 a0)) = some r := h
  clear h
  have HC2 := Aside0.mk H
  clear H
  go_enter Try.func57, Try.ntmps57
  go_upto_if 9 with (fail)
  go_cut [3] (fun v3 wc => ∃ (kq : Nat) (x3_1 : Int), v3 = .int .i64 x3_1 ∧ Aside0 (interlockref00_Show.j0 kq a0 x3_1 = some r) ∧ Aside0 (kq ≤ k) ∧ Aside0 (Below w.heap.size w wc))
  case first =>
    have H := HC2.out
    clear HC2
    by_cases c3 : a0 > 0
    · rw [if_pos c3] at H
      have c3b0 : decide (0 < a0) = true := decide_eq_true c3
      clear c3
      (first | rw [c3b0] | (simp only [i64_w, i32_w]; rw [c3b0]) | skip)
      have H' := Aside0.mk H
      clear H
      go_wp2
      go_meet
      case rel => exact ⟨_, (wrap64 (-a0)), (by first | rfl | (simp; done) | (simp [*]; done)), H', ⟨by first | omega | exact Nat.le_refl _⟩, ⟨by repeat (first | (with_reducible first | exact HB.out | apply below_alloc | apply pw_below_drewN | apply below_drew1) | exact HB.out)⟩⟩
    · rw [if_neg c3] at H
      have c3b0 : decide (0 < a0) = false := decide_eq_false c3
      clear c3
      (first | rw [c3b0] | (simp only [i64_w, i32_w]; rw [c3b0]) | skip)
      have H' := Aside0.mk H
      clear H
      go_wp2
      go_meet
      case rel => exact ⟨_, (a0), (by first | rfl | (simp; done) | (simp [*]; done)), H', ⟨by first | omega | exact Nat.le_refl _⟩, ⟨by repeat (first | (with_reducible first | exact HB.out | apply below_alloc | apply pw_below_drewN | apply below_drew1) | exact HB.out)⟩⟩
  case rest =>
    clear HC2
    try clear p2
    try clear c3
    try clear c3b0
    obtain ⟨kq, x3_1, rfl, HA, HJ1, HB⟩ := hcut
    cases kq with
    | zero => exact absurd HA.out (by simp [interlockref00_Show.j0])
    | succ kj1 =>
      have H := HA.out
      clear HA
      simp only [interlockref00_Show.j0] at H
      obtain ⟨y189, hy189⟩ : ∃ y_ : List Int, y_ = (([] : List Int)) := ⟨_, rfl⟩
      replace H : (interlockref00_Show.l0 kj1 a0 x3_1 y189) = some r := by first | (rw [hy189]; with_reducible exact H) | (have H2_ := (Option.bind_some _ _).symm.trans H; rw [hy189]; with_reducible exact H2_) | (have H2_ := (Option.bind_some _ _).symm.trans H; with_reducible exact H2_) | with_reducible exact H | (rw [hy189]; exact H) | exact H
      have Ny189 := Aside0.mk hy189
      clear hy189
      have H' := Aside0.mk H
      clear H
      go_wp2_with (first | ((with_reducible refine gate_dst (N := 12) rfl ?_); refine Kd.R_lit (Kd.int .u8) _ 5 ?hg (N := 12) ?hd (xs := ([] : List Int)) (inner := []) (ok := fun _ => True) (okp := fun _ => True) ?hr ?hp (fun _ hk => hk) trivial (Below.refl _ _) (Nat.le_refl _) (by simp) ?_; (case hd => rfl); (case hg => rfl); (case hr => first | (go_simp; done) | (go_simp; rfl)); (case hp => exact (Reps.none _ _)); intro v190 w4 ho5 hb hg_ hnew_; clear hg_ hnew_; (first | rw [← Ny189.out] at ho5 | (simp only [Int.reduceToNat] at ho5; rw [← Ny189.out] at ho5)); have n0_ := Aside0.mk (Kd.R_lower ho5 (below_size (by repeat (first | (with_reducible first | exact HB.out | apply below_alloc | apply pw_below_drewN | apply below_drew1) | exact HB.out)))); have n1_ := Aside0.mk (below_step (by repeat (first | (with_reducible first | exact HB.out | apply below_alloc | apply pw_below_drewN | apply below_drew1) | exact HB.out)) hb); clear HB; have HO191 := n0_; have HB := n1_; clear n0_ n1_; clear hb ho5))
      go_loopg [3, 4] kj1 (fun kq v3 v4 w' => ∃ (x3_2 : Int) (x4_2 : List Int), v3 = .int .i64 x3_2 ∧ Aside0 (interlockref00_Show.l0 kq a0 x3_2 x4_2 = some r) ∧ Aside0 (kq ≤ kj1) ∧ Aside0 (Kd.R (Kd.int .u8) 5 w' w.heap.size (fun _ => True) v4 x4_2) ∧ Aside0 (Below w.heap.size w w'))
      case atStart => exact ⟨(x3_1), (y189), (by first | rfl | (simp; done) | (simp [*]; done)), H', ⟨Nat.le_refl _⟩, ⟨by (with_reducible repeat (first | apply Kd.R_alloc | apply Kd.R_drewN | apply Kd.R_drew)); exact HO191.out⟩, ⟨by repeat (first | (with_reducible first | exact HB.out | apply below_alloc | apply pw_below_drewN | apply below_drew1) | exact HB.out)⟩⟩
      case round =>
        clear H'
        try clear p2
        try clear c3
        try clear c3b0
        try clear c5
        try clear p2
        obtain ⟨x3_2, x4_2, rfl, HA, HK2, HO_4, HB⟩ := hrel
        cases gk with
        | zero => exact absurd HA.out (by simp [interlockref00_Show.l0])
        | succ k2 =>
          have H := HA.out
          clear HA
          simp only [interlockref00_Show.l0] at H
          by_cases c6 : x4_2.length < 140737488355328
          · rw [if_pos c6] at H
            have LMc6 := Aside0.mk c6
            clear c6
            obtain ⟨y192, hy192⟩ : ∃ y_ : List Int, y_ = (x4_2 ++ [(wrap64 (48 - (Int.tmod x3_2 10))) % 256]) := ⟨_, rfl⟩
            replace H : (if (wrap64 (Int.tdiv x3_2 10)) = 0 then (if a0 < 0 then (if y192.length < 140737488355328 then (interlockref00_Show.j2 k2 (y192 ++ [45])) else (none)) else (interlockref00_Show.j2 k2 y192)) else (interlockref00_Show.l0 k2 a0 (wrap64 (Int.tdiv x3_2 10)) y192)) = some r := by first | (rw [hy192]; with_reducible exact H) | (have H2_ := (Option.bind_some _ _).symm.trans H; rw [hy192]; with_reducible exact H2_) | (have H2_ := (Option.bind_some _ _).symm.trans H; with_reducible exact H2_) | with_reducible exact H | (rw [hy192]; exact H) | exact H
            have Ny192 := Aside0.mk hy192
            clear hy192
            by_cases c7 : (wrap64 (Int.tdiv x3_2 10)) = 0
            · rw [if_pos c7] at H
              have c7b0 : ((wrap64 (Int.tdiv x3_2 10)) == 0) = true := beq_iff_eq.mpr c7
              have c7b1 : ((wrap64 (Int.tdiv x3_2 10)) != 0) = false := bne_eq_false_iff_eq.mpr c7
              clear c7
              have HC8 := Aside0.mk H
              clear H
              go_upto_if 25 with (first | ((with_reducible refine gate_builtin (b := .append) (xs := #[.tmp 13, .tmp 18]) rfl ?_); at_builtin; refine Kd.R_append (Kd.int .u8) (w0 := w) w.heap.size rfl (.tmp 13) (.tmp 18) 103 5 (.int .u8 0) 1 rfl Try.underlying103 info5 rfl (by decide) (by omega) u4 x4_2 ((wrap64 (48 - (Int.tmod x3_2 10))) % 256) [.int .u8 ((wrap64 (48 - (Int.tmod x3_2 10))) % 256)] (fun _ => True) (fun _ => False) rfl rfl ?aP (fun _ hk => hk.elim) ?aF ?aO ?aB ?aS ?aL ?_; (case aP => exact rfl); (case aB => exact (by repeat (first | (with_reducible first | exact HB.out | apply below_alloc | apply pw_below_drewN | apply below_drew1) | exact HB.out))); (case aF => exact (fun _ _ => trivial)); (case aO => exact (by (with_reducible repeat (first | apply Kd.R_alloc | apply Kd.R_drewN | apply Kd.R_drew)); exact HO_4.out)); (case aS => exact (below_size (by repeat (first | (with_reducible first | exact HB.out | apply below_alloc | apply pw_below_drewN | apply below_drew1) | exact HB.out)))); (case aL => have := LMc6.out; omega); intro v193 w9 ho hb hg hat; rw [← Ny192.out] at ho; have n0_ := Aside0.mk (hb); have n1_ := Aside0.mk (ho); clear HB; clear HO_4; have HB := n0_; have HO194 := n1_; clear n0_ n1_; clear ho hb hg hat))
              (try simp only [Act.put, List.setIfInBounds_toArray, List.set_cons_zero, List.set_cons_succ])
              go_cut [4] (fun v4 wc => ∃ (kq : Nat) (x4_7 : List Int), Aside0 (interlockref00_Show.j2 kq x4_7 = some r) ∧ Aside0 (kq ≤ k2) ∧ Aside0 (Kd.R (Kd.int .u8) 5 wc w.heap.size (fun _ => True) v4 x4_7) ∧ Aside0 (Below w.heap.size w wc))
              case first =>
                have H := HC8.out
                clear HC8
                by_cases c10 : a0 < 0
                · rw [if_pos c10] at H
                  have c10b0 : decide (a0 < 0) = true := decide_eq_true c10
                  clear c10
                  (first | rw [c10b0] | (simp only [i64_w, i32_w]; rw [c10b0]) | skip)
                  by_cases c11 : y192.length < 140737488355328
                  · rw [if_pos c11] at H
                    have LMc11 := Aside0.mk c11
                    clear c11
                    obtain ⟨y195, hy195⟩ : ∃ y_ : List Int, y_ = (y192 ++ [45]) := ⟨_, rfl⟩
                    replace H : (interlockref00_Show.j2 k2 y195) = some r := by first | (rw [hy195]; with_reducible exact H) | (have H2_ := (Option.bind_some _ _).symm.trans H; rw [hy195]; with_reducible exact H2_) | (have H2_ := (Option.bind_some _ _).symm.trans H; with_reducible exact H2_) | with_reducible exact H | (rw [hy195]; exact H) | exact H
                    have Ny195 := Aside0.mk hy195
                    clear hy195
                    have H' := Aside0.mk H
                    clear H
                    go_wp2_with (first | ((with_reducible refine gate_builtin (b := .append) (xs := #[.tmp 26, .tmp 27]) rfl ?_); at_builtin; refine Kd.R_append (Kd.int .u8) (w0 := w) w.heap.size rfl (.tmp 26) (.tmp 27) 103 5 (.int .u8 0) 1 rfl Try.underlying103 info5 rfl (by decide) (by omega) v193 y192 45 [.int .u8 45] (fun _ => True) (fun _ => False) rfl rfl ?aP (fun _ hk => hk.elim) ?aF ?aO ?aB ?aS ?aL ?_; (case aP => exact rfl); (case aB => exact (by repeat (first | (with_reducible first | exact HB.out | apply below_alloc | apply pw_below_drewN | apply below_drew1) | exact HB.out))); (case aF => exact (fun _ _ => trivial)); (case aO => exact (by (with_reducible repeat (first | apply Kd.R_alloc | apply Kd.R_drewN | apply Kd.R_drew)); exact HO194.out)); (case aS => exact (below_size (by repeat (first | (with_reducible first | exact HB.out | apply below_alloc | apply pw_below_drewN | apply below_drew1) | exact HB.out)))); (case aL => have := LMc11.out; omega); intro v196 w12 ho hb hg hat; rw [← Ny195.out] at ho; have n0_ := Aside0.mk (hb); have n1_ := Aside0.mk (ho); clear HB; clear HO194; have HB := n0_; have HO197 := n1_; clear n0_ n1_; clear ho hb hg hat))
                    go_meet
                    case rel => exact ⟨_, (y195), H', ⟨by have := HJ1.out; have := HK2.out; first | omega | exact Nat.le_refl _⟩, ⟨by (with_reducible repeat (first | apply Kd.R_alloc | apply Kd.R_drewN | apply Kd.R_drew)); exact HO197.out⟩, ⟨by repeat (first | (with_reducible first | exact HB.out | apply below_alloc | apply pw_below_drewN | apply below_drew1) | exact HB.out)⟩⟩
                  · rw [if_neg c11] at H
                    exact absurd H (by simp)
                · rw [if_neg c10] at H
                  have c10b0 : decide (a0 < 0) = false := decide_eq_false c10
                  clear c10
                  (first | rw [c10b0] | (simp only [i64_w, i32_w]; rw [c10b0]) | skip)
                  have H' := Aside0.mk H
                  clear H
                  go_wp2
                  go_meet
                  case rel => exact ⟨_, (y192), H', ⟨by have := HJ1.out; have := HK2.out; first | omega | exact Nat.le_refl _⟩, ⟨by (with_reducible repeat (first | apply Kd.R_alloc | apply Kd.R_drewN | apply Kd.R_drew)); exact HO194.out⟩, ⟨by repeat (first | (with_reducible first | exact HB.out | apply below_alloc | apply pw_below_drewN | apply below_drew1) | exact HB.out)⟩⟩
              case rest =>
                clear HC8
                try clear c1
                try clear p2
                try clear c3
                try clear c3b0
                try clear c5
                try clear c6
                try clear p6
                try clear c7
                try clear c7b0
                try clear c7b1
                try clear c10
                try clear c10b0
                try clear c11
                try clear p2
                obtain ⟨kq, x4_7, HA, HJ7, HO_4, HB⟩ := hcut
                cases kq with
                | zero => exact absurd HA.out (by simp [interlockref00_Show.j2])
                | succ kj7 =>
                  have H := HA.out
                  clear HA
                  simp only [interlockref00_Show.j2] at H
                  obtain ⟨y198, hy198⟩ : ∃ y_ : List Int, y_ = (([] : List Int)) := ⟨_, rfl⟩
                  replace H : (interlockref00_Show.l1 kj7 x4_7 y198 (wrap64 ((x4_7.length : Int) - 1))) = some r := by first | (rw [hy198]; with_reducible exact H) | (have H2_ := (Option.bind_some _ _).symm.trans H; rw [hy198]; with_reducible exact H2_) | (have H2_ := (Option.bind_some _ _).symm.trans H; with_reducible exact H2_) | with_reducible exact H | (rw [hy198]; exact H) | exact H
                  have Ny198 := Aside0.mk hy198
                  clear hy198
                  have H' := Aside0.mk H
                  clear H
                  go_wp2_with (first | ((with_reducible refine gate_dst (N := 29) rfl ?_); refine Kd.R_lit (Kd.int .u8) _ 5 ?hg (N := 29) ?hd (xs := ([] : List Int)) (inner := []) (ok := fun _ => True) (okp := fun _ => True) ?hr ?hp (fun _ hk => hk) trivial (Below.refl _ _) (Nat.le_refl _) (by simp) ?_; (case hd => rfl); (case hg => rfl); (case hr => first | (go_simp; done) | (go_simp; rfl)); (case hp => exact (Reps.none _ _)); intro v199 w13 ho14 hb hg_ hnew_; clear hg_ hnew_; (first | rw [← Ny198.out] at ho14 | (simp only [Int.reduceToNat] at ho14; rw [← Ny198.out] at ho14)); have n0_ := Aside0.mk (Kd.R_elder' (by (with_reducible repeat (first | apply Kd.R_alloc | apply Kd.R_drewN | apply Kd.R_drew)); exact HO_4.out) (Kd.R_base ho14) hb); have n1_ := Aside0.mk (Kd.R_lower (Kd.R_new' ho14 (Kd.R_lt (by (with_reducible repeat (first | apply Kd.R_alloc | apply Kd.R_drewN | apply Kd.R_drew)); exact HO_4.out))) (below_size (by repeat (first | (with_reducible first | exact HB.out | apply below_alloc | apply pw_below_drewN | apply below_drew1) | exact HB.out)))); have n2_ := Aside0.mk (below_step (by repeat (first | (with_reducible first | exact HB.out | apply below_alloc | apply pw_below_drewN | apply below_drew1) | exact HB.out)) hb); clear HO_4; clear HB; have HO_4 := n0_; have HO200 := n1_; have HB := n2_; clear n0_ n1_ n2_; clear hb ho14; obtain ⟨Ao15, co15, eo15⟩ := Kd.R_slice HO_4.out; subst eo15))
                  go_loopg [5, 6] kj7 (fun kq v5 v6 w' => ∃ (x5_4 : List Int) (x6_4 : Int), v6 = .int .i64 x6_4 ∧ Aside0 (interlockref00_Show.l1 kq x4_7 x5_4 x6_4 = some r) ∧ Aside0 (kq ≤ kj7) ∧ Aside0 (Kd.R (Kd.int .u8) 5 w' w.heap.size (fun k_ => some k_ ≠ (v5 : Value).ownBlock) (.slice Ao15 x4_7.length co15) x4_7) ∧ Aside0 (Kd.R (Kd.int .u8) 5 w' w.heap.size (fun k_ => some k_ ≠ ((.slice Ao15 x4_7.length co15) : Value).ownBlock) v5 x5_4) ∧ Aside0 (Below w.heap.size w w'))
                  case atStart => exact ⟨(y198), (wrap64 ((x4_7.length : Int) - 1)), (by first | rfl | (simp; done) | (simp [*]; done)), H', ⟨Nat.le_refl _⟩, ⟨by (with_reducible repeat (first | apply Kd.R_alloc | apply Kd.R_drewN | apply Kd.R_drew)); exact Kd.R_mono HO_4.out (fun _ hk => hk.2)⟩, ⟨by (with_reducible repeat (first | apply Kd.R_alloc | apply Kd.R_drewN | apply Kd.R_drew)); exact Kd.R_mono HO200.out (fun _ hk => hk.2)⟩, ⟨by repeat (first | (with_reducible first | exact HB.out | apply below_alloc | apply pw_below_drewN | apply below_drew1) | exact HB.out)⟩⟩
                  case round =>
                    clear H'
                    try clear c1
                    try clear p2
                    try clear c3
                    try clear c3b0
                    try clear c5
                    try clear c6
                    try clear p6
                    try clear c7
                    try clear c7b0
                    try clear c7b1
                    try clear c10
                    try clear c10b0
                    try clear c11
                    try clear p2
                    try clear p6
                    obtain ⟨x5_4, x6_4, rfl, HA, HK4, HO_4, HO_5, HB⟩ := hrel
                    cases gk with
                    | zero => exact absurd HA.out (by simp [interlockref00_Show.l1])
                    | succ k4 =>
                      have H := HA.out
                      clear HA
                      simp only [interlockref00_Show.l1] at H
                      by_cases c16 : x6_4 ≥ 0
                      · rw [if_pos c16] at H
                        have c16b0 : decide (0 ≤ x6_4) = true := decide_eq_true c16
                        clear c16
                        by_cases c17 : 0 ≤ x6_4
                        · rw [if_pos c17] at H
                          have c17b0 : decide (0 ≤ x6_4) = true := decide_eq_true c17
                          clear c17
                          by_cases c18 : x6_4 < (x4_7.length : Int)
                          · rw [if_pos c18] at H
                            have c18b0 : decide (x6_4 < (x4_7.length : Int)) = true := decide_eq_true c18
                            clear c18
                            by_cases c19 : x5_4.length < 140737488355328
                            · rw [if_pos c19] at H
                              have LMc19 := Aside0.mk c19
                              clear c19
                              obtain ⟨y202, hy202⟩ : ∃ y_ : List Int, y_ = (x5_4 ++ [rd x4_7 x6_4]) := ⟨_, rfl⟩
                              replace H : (interlockref00_Show.l1 k4 x4_7 y202 (wrap64 (x6_4 - 1))) = some r := by first | (rw [hy202]; with_reducible exact H) | (have H2_ := (Option.bind_some _ _).symm.trans H; rw [hy202]; with_reducible exact H2_) | (have H2_ := (Option.bind_some _ _).symm.trans H; with_reducible exact H2_) | with_reducible exact H | (rw [hy202]; exact H) | exact H
                              have Ny202 := Aside0.mk hy202
                              clear hy202
                              have H' := Aside0.mk H
                              clear H
                              have p201 : 0 ≤ (x6_4 : Int) := of_decide_eq_true (by first | (with_reducible assumption) | assumption)
                              have q201 : x6_4 < (x4_7.length : Int) := of_decide_eq_true (by first | (with_reducible assumption) | assumption)
                              obtain ⟨ad201, e201, hx201_0⟩ := Kd.at_int (Kd.R_reads' HO_4.out).2.2 x6_4 p201 q201
                              cases e201
                              replace p201 := eq_true p201
                              replace q201 := eq_true q201
                              go_wp2_with (first | ((with_reducible refine gate_builtin (b := .append) (xs := #[.tmp 37, .tmp 42]) rfl ?_); at_builtin; refine Kd.R_append (Kd.int .u8) (w0 := w) w.heap.size rfl (.tmp 37) (.tmp 42) 103 5 (.int .u8 0) 1 rfl Try.underlying103 info5 rfl (by decide) (by omega) u5 x5_4 (rd x4_7 x6_4) [.int .u8 (rd x4_7 x6_4)] (fun k_ => some k_ ≠ (.slice (some ad201) x4_7.length co15 : Value).ownBlock) (fun _ => False) rfl rfl ?aP (fun _ hk => hk.elim) ?aF ?aO ?aB ?aS ?aL ?_; (case aP => exact rfl); (case aB => exact (by repeat (first | (with_reducible first | exact HB.out | apply below_alloc | apply pw_below_drewN | apply below_drew1) | exact HB.out))); (case aF => exact (fun k_ hk => Kd.fresh' (Kd.R_lt (by (with_reducible repeat (first | apply Kd.R_alloc | apply Kd.R_drewN | apply Kd.R_drew)); exact HO_4.out)) k_ hk)); (case aO => exact (by (with_reducible repeat (first | apply Kd.R_alloc | apply Kd.R_drewN | apply Kd.R_drew)); exact HO_5.out)); (case aS => exact (below_size (by repeat (first | (with_reducible first | exact HB.out | apply below_alloc | apply pw_below_drewN | apply below_drew1) | exact HB.out)))); (case aL => have := LMc19.out; omega); intro v203 w20 ho hb hg hat; rw [← Ny202.out] at ho; have n0_ := Aside0.mk (Kd.R_after (ok := (fun _ => True)) (by (with_reducible repeat (first | apply Kd.R_alloc | apply Kd.R_drewN | apply Kd.R_drew)); exact Kd.R_mono HO_4.out (fun _ hk => ⟨trivial, hk⟩)) hg hat); have n1_ := Aside0.mk (hb); have n2_ := Aside0.mk (ho); clear HO_4; clear HB; clear HO_5; have HO_4 := n0_; have HB := n1_; have HO204 := n2_; clear n0_ n1_ n2_; clear ho hb hg hat))
                              go_roundg k4
                              case measure => have := HJ1.out; have := HK2.out; have := HJ7.out; have := HK4.out; omega
                              case rel => exact ⟨(y202), (wrap64 (x6_4 - 1)), (by first | rfl | (simp; done) | (simp [*]; done)), H', ⟨by have := HJ1.out; have := HK2.out; have := HJ7.out; have := HK4.out; omega⟩, ⟨by (with_reducible repeat (first | apply Kd.R_alloc | apply Kd.R_drewN | apply Kd.R_drew)); exact Kd.R_mono HO_4.out (fun _ hk => hk.2)⟩, ⟨by (with_reducible repeat (first | apply Kd.R_alloc | apply Kd.R_drewN | apply Kd.R_drew)); exact HO204.out⟩, ⟨by repeat (first | (with_reducible first | exact HB.out | apply below_alloc | apply pw_below_drewN | apply below_drew1) | exact HB.out)⟩⟩
                            · rw [if_neg c19] at H
                              exact absurd H (by simp)
                          · rw [if_neg c18] at H
                            exact absurd H (by simp)
                        · rw [if_neg c17] at H
                          exact absurd H (by simp)
                      · rw [if_neg c16] at H
                        have c16b0 : decide (0 ≤ x6_4) = false := decide_eq_false c16
                        clear c16
                        obtain rfl := Option.some.inj H
                        have hcv21 := own_string (P := Try.prog) Try.underlying103 Try.underlying5 Try.underlying9 (Kd.own_of_R HO_5.out)
                        go_wp2
                        go_ret
                        exact ⟨by first | rfl | (simp [errW_none, errW_some] <;> rfl) | (simp [*, errW_none, errW_some] <;> rfl), by repeat (first | (with_reducible first | exact HB.out | apply below_alloc | apply pw_below_drewN | apply below_drew1) | exact HB.out)⟩
            · rw [if_neg c7] at H
              have c7b0 : ((wrap64 (Int.tdiv x3_2 10)) == 0) = false := beq_eq_false_iff_ne.mpr c7
              have c7b1 : ((wrap64 (Int.tdiv x3_2 10)) != 0) = true := bne_iff_ne.mpr c7
              have H' := Aside0.mk H
              clear H
              go_wp2_with (first | ((with_reducible refine gate_builtin (b := .append) (xs := #[.tmp 13, .tmp 18]) rfl ?_); at_builtin; refine Kd.R_append (Kd.int .u8) (w0 := w) w.heap.size rfl (.tmp 13) (.tmp 18) 103 5 (.int .u8 0) 1 rfl Try.underlying103 info5 rfl (by decide) (by omega) u4 x4_2 ((wrap64 (48 - (Int.tmod x3_2 10))) % 256) [.int .u8 ((wrap64 (48 - (Int.tmod x3_2 10))) % 256)] (fun _ => True) (fun _ => False) rfl rfl ?aP (fun _ hk => hk.elim) ?aF ?aO ?aB ?aS ?aL ?_; (case aP => exact rfl); (case aB => exact (by repeat (first | (with_reducible first | exact HB.out | apply below_alloc | apply pw_below_drewN | apply below_drew1) | exact HB.out))); (case aF => exact (fun _ _ => trivial)); (case aO => exact (by (with_reducible repeat (first | apply Kd.R_alloc | apply Kd.R_drewN | apply Kd.R_drew)); exact HO_4.out)); (case aS => exact (below_size (by repeat (first | (with_reducible first | exact HB.out | apply below_alloc | apply pw_below_drewN | apply below_drew1) | exact HB.out)))); (case aL => have := LMc6.out; omega); intro v193 w22 ho hb hg hat; rw [← Ny192.out] at ho; have n0_ := Aside0.mk (hb); have n1_ := Aside0.mk (ho); clear HB; clear HO_4; have HB := n0_; have HO194 := n1_; clear n0_ n1_; clear ho hb hg hat))
              go_roundg k2
              case measure => have := HJ1.out; have := HK2.out; omega
              case rel => exact ⟨(wrap64 (Int.tdiv x3_2 10)), (y192), (by first | rfl | (simp; done) | (simp [*]; done)), H', ⟨by have := HJ1.out; have := HK2.out; omega⟩, ⟨by (with_reducible repeat (first | apply Kd.R_alloc | apply Kd.R_drewN | apply Kd.R_drew)); exact HO194.out⟩, ⟨by repeat (first | (with_reducible first | exact HB.out | apply below_alloc | apply pw_below_drewN | apply below_drew1) | exact HB.out)⟩⟩
          · rw [if_neg c6] at H
            exact absurd H (by simp)
end Go.Proofs.Ytnojcnmnkkgkgaa.Q
end
section
namespace Go.Proofs.Kb
open Go Go.RowKit Go.Proofs.YtnojcnmnkkgkgaaW.PrintWords Go.Proofs.YtnojcnmnkkgkgaaW.PrintLast Go.Proofs.YtnojcnmnkkgkgaaW.PrintMore
set_option linter.unusedVariables false
set_option linter.unusedSimpArgs false
variable {P : Program}
def Row (w : World) (e : TypeId) (sz : Nat) (v : Value) (n : Nat) (xs : List Value) : Prop :=
  xs.length = n * sz ∧ (∀ u ∈ xs, u.oneCell' = true) ∧
  ((v = .slice none 0 0 ∧ n = 0) ∨
   ∃ g cap cur, v = .slice (some ⟨g, 0, none⟩) n cap ∧ w.heap[g]? = some (.cells cur e (0, 0)) ∧ n ≤ cap ∧ cap ≤ maxLen ∧ cap * sz ≤ cur.size ∧ cur.toList.take (n * sz) = xs)
variable {w w' : World} {e : TypeId} {sz n : Nat} {v : Value} {xs : List Value}
theorem Row.nil (w : World) (e : TypeId) (sz : Nat) : Row w e sz (.slice none 0 0) 0 [] := ⟨by simp, by simp, .inl ⟨rfl, rfl⟩⟩
theorem Row.move (h : Row w e sz v n xs) (hm : ∀ k, v.ownBlock = some k → w'.heap[k]? = w.heap[k]?) : Row w' e sz v n xs := by
  obtain ⟨h0, h1, h2⟩ := h
  refine ⟨h0, h1, ?_⟩
  rcases h2 with h2 | ⟨g, cap, cur, rfl, hg, r⟩
  · exact .inl h2
  · exact .inr ⟨g, cap, cur, rfl, (hm g rfl).trans hg, r⟩
theorem Row.lt (h : Row w e sz v n xs) : ∀ k, v.ownBlock = some k → k < w.heap.size := by
  intro k hk
  rcases h.2.2 with ⟨rfl, _⟩ | ⟨g, cap, cur, rfl, hg, _⟩
  · simp [Value.ownBlock] at hk
  · simp [Value.ownBlock] at hk
    subst hk
    exact (Array.getElem?_eq_some_iff.1 hg).1
theorem Row.grown {row : Option Nat} (h : Row w e sz v n xs) (hg : w.grownBy w' row) (hne : ∀ k, v.ownBlock = some k → some k ≠ row) : Row w' e sz v n xs :=
  h.move fun k hk => hg.block k (h.lt k hk) (hne k hk)
theorem Row.below (h : Row w e sz v n xs) (hb : Below w.heap.size w w') : Row w' e sz v n xs := h.move fun k hk => hb.block k (h.lt k hk)
theorem Row.cell (h : Row w e sz v n xs) {g cap : Nat} (hv : v = .slice (some ⟨g, 0, none⟩) n cap) (j : Nat) (u : Value) (hu : xs[j]? = some u) : w.cell? ⟨g, j, none⟩ = some u := by
  obtain ⟨_, _, h2⟩ := h
  rcases h2 with ⟨rfl, _⟩ | ⟨g', cap', cur, rfl, hg, _, _, _, ht⟩
  · simp at hv
  · simp at hv
    obtain ⟨rfl, rfl⟩ := hv
    rw [cell_of_row w g' j cur e (0, 0) hg]
    rw [← ht, List.getElem?_take] at hu
    split at hu
    · simpa using hu
    · cases hu
theorem Row.frozen (h : Row w e sz v n xs) {g cap : Nat} (hv : v = .slice (some ⟨g, 0, none⟩) n cap) (j : Nat) : w.frozen? ⟨g, j, none⟩ = false := by
  obtain ⟨_, _, h2⟩ := h
  rcases h2 with ⟨rfl, _⟩ | ⟨g', cap', cur, rfl, hg, _⟩
  · simp at hv
  · simp at hv
    obtain ⟨rfl, rfl⟩ := hv
    exact frozen_of_row w g' j cur e hg
theorem grown_set (w : World) (g : Nat) (a : Array Value) : w.grownBy (w.setRow g a) (some g) :=
  ⟨rfl, rfl, rfl, by simp, fun k _ hk => setRow_other w g k a (fun e => hk (by rw [e]))⟩
theorem grown_alloc (w : World) (o : Obj) (row : Option Nat) : w.grownBy (w.drew.alloc o) row := ⟨rfl, rfl, rfl, by simp, fun k hk _ => heap_alloc_old w.drew o hk⟩
theorem size_zeroCells (z : Array Value) (n : Nat) : (Builtin.zeroCells z n).size = n * z.size := by simp [Builtin.zeroCells]
theorem Row.cut {w : World} {e : TypeId} {sz n g cap : Nat} {xs : List Value} (h : Row w e sz (.slice (some ⟨g, 0, none⟩) n cap) n xs) (k c : Nat) (hk : k ≤ n) (hkc : k ≤ c) (hc : c ≤ cap) : Row w e sz (.slice (some ⟨g, 0, none⟩) k c) k (xs.take (k * sz)) := by
  obtain ⟨h0, h1, h2⟩ := h
  rcases h2 with ⟨h2, _⟩ | ⟨g', cap', cur, hv, hg, hn, hm, hs, ht⟩
  · simp at h2
  · simp at hv
    obtain ⟨rfl, rfl⟩ := hv
    have hkn : k * sz ≤ n * sz := Nat.mul_le_mul_right _ hk
    have hcc : c * sz ≤ cap * sz := Nat.mul_le_mul_right _ hc
    refine ⟨by rw [List.length_take, h0, Nat.min_eq_left hkn], fun u hu => h1 u (List.mem_of_mem_take hu), .inr ⟨g, c, cur, rfl, hg, hkc, by omega, by omega, ?_⟩⟩
    rw [← ht, List.take_take, Nat.min_eq_left hkn]
structure Keep (w w' : World) (F : Nat → Prop) : Prop where
  os : w'.os = w.os
  tape : w'.tape = w.tape
  output : w'.output = w.output
  size : w.heap.size ≤ w'.heap.size
  block : ∀ k, k < w.heap.size → ¬ F k → w'.heap[k]? = w.heap[k]?
theorem Keep.below {w W W1 : World} {F : Nat → Prop} (h : Keep w W F) (hb : Below W.heap.size W W1) : Keep w W1 F :=
  ⟨hb.os.trans h.os, hb.tape.trans h.tape, hb.output.trans h.output, Nat.le_trans h.size hb.size, fun k hk hf => (hb.block k (Nat.lt_of_lt_of_le hk h.size)).trans (h.block k hk hf)⟩
theorem Keep.of_below {w w' : World} (h : Below w.heap.size w w') (F : Nat → Prop) : Keep w w' F := ⟨h.os, h.tape, h.output, h.size, fun k hk _ => h.block k hk⟩
theorem Keep.grown {w W W1 : World} {F : Nat → Prop} {row : Option Nat} (h : Keep w W F) (hg : W.grownBy W1 row) (hr : ∀ b, row = some b → F b ∨ w.heap.size ≤ b) : Keep w W1 F :=
  ⟨hg.os.trans h.os, hg.tape.trans h.tape, hg.output.trans h.output, Nat.le_trans h.size hg.size, fun k hk hf => (hg.block k (Nat.lt_of_lt_of_le hk h.size) (fun e => by
    rcases hr k e.symm with h1 | h1
    · exact hf h1
    · omega)).trans (h.block k hk hf)⟩
theorem Keep.drew {w W : World} {F : Nat → Prop} (h : Keep w W F) : Keep w W.drew F := ⟨h.os, h.tape, h.output, h.size, h.block⟩
theorem Keep.cell {w W : World} {F : Nat → Prop} (h : Keep w W F) {p : Addr} (hp : F p.block ∨ w.heap.size ≤ p.block) (u : Value) : Keep w (W.setCell p u) F :=
  ⟨h.os, h.tape, h.output, by simpa [World.setCell] using h.size, fun k hk hf => (Below.heap_setCell W p u k (by
    rintro rfl
    rcases hp with hp | hp
    · exact hf hp
    · omega)).trans (h.block k hk hf)⟩
theorem Keep.trans {w W W1 : World} {F G : Nat → Prop} (h : Keep w W F) (k : Keep W W1 G) (hs : ∀ b, G b → F b ∨ w.heap.size ≤ b) : Keep w W1 F :=
  ⟨k.os.trans h.os, k.tape.trans h.tape, k.output.trans h.output, Nat.le_trans h.size k.size, fun i hi hf => (k.block i (Nat.lt_of_lt_of_le hi h.size) (fun hg => by
    rcases hs i hg with h1 | h1
    · exact hf h1
    · omega)).trans (h.block i hi hf)⟩
def bl (v : Value) : List Nat := v.ownBlock.toList
theorem bl_mem {v : Value} {a : Nat} : a ∈ bl v ↔ v.ownBlock = some a := by
  unfold bl
  cases v.ownBlock with
  | none => simp
  | some b => simp [eq_comm]
theorem bl_slice (g n c : Nat) : bl (.slice (some ⟨g, 0, none⟩) n c) = [g] := rfl
def ND (l : List Nat) : Prop := ∀ a, l.count a ≤ 1
theorem count_mem {l : List Nat} {a : Nat} : a ∈ l ↔ 0 < l.count a := List.count_pos_iff.symm
theorem run_append_R (w : World) (t ty e : TypeId) (i : TypeInfo) (z : Value) (size bytes : Nat) (ht : P.underlying t = some (.slice e)) (hi : P.info? e = some i) (hz : i.zero = some z)
    (hsize : i.size = size) (hby : i.bytes = bytes) (hzs : z.cells.size = size) (hsz : 0 < size) (hb64 : bytes ≤ 64)
    (v : Value) (n : Nat) (xs : List Value) (hR : Row w e size v n xs) (a : Addr) (m c : Nat) (news : List Value) (hl : news.length = m * size) (hnews : ∀ j u, news[j]? = some u → w.cell? (a.add j) = some u) (h1 : ∀ u ∈ news, u.oneCell' = true) (hn : n + m < 1000000) :
    ∃ v' w', (Builtin.append_ #[t, t] ty #[v, .slice (some a) m c]).run P w = .ok v' w' ∧ Row w' e size v' (n + m) (xs ++ news) ∧ w.grownBy w' v.ownBlock ∧
      (v'.ownBlock = v.ownBlock ∨ ∃ k, v'.ownBlock = some k ∧ w.heap.size ≤ k) := by
  subst hsize
  subst hby
  have hRl := hR.1
  have hR1 := hR.2.1
  have hlen : (xs ++ news).length = (n + m) * i.size := by rw [List.length_append, hRl, hl, Nat.add_mul]
  have hone : ∀ u ∈ xs ++ news, u.oneCell' = true := fun u hu => (List.mem_append.1 hu).elim (hR1 u) (h1 u)
  have hbb : (n + m) * i.bytes ≤ 1000000 * 64 := Nat.mul_le_mul (by omega) hb64
  rcases hR.2.2 with ⟨rfl, rfl⟩ | ⟨g, cap, cur, rfl, hg, hnc, hcm, hcs, htake⟩
  · have hx : xs = [] := List.eq_nil_of_length_eq_zero (by simpa using hRl)
    subst hx
    by_cases hm : m = 0
    · subst hm
      have hnn : news = [] := List.eq_nil_of_length_eq_zero (by simpa using hl)
      subst hnn
      refine ⟨.slice none 0 0, w, ?_, Row.nil w e i.size, ⟨rfl, rfl, rfl, Nat.le_refl _, fun _ _ _ => rfl⟩, .inl rfl⟩
      simp [Builtin.append_, run_underlying ht, sizeOf, typeInfo, hi, Builtin.lenOf, Builtin.firstCells, loadCells, loadCellsFrom]
    · have hr := run_append_nil (P := P) w t ty e i z ht hi hz a m c news hl hnews (by omega) (by omega) (by simp only [Nat.zero_add] at hbb; omega)
      have hge := grownCap_ge w m 0 e
      have hle := grownCap_le_maxLen w m 0 e (by simp only [maxLen]; omega)
      refine ⟨_, _, hr, ⟨hlen, hone, .inr ⟨_, _, _, by rw [Nat.zero_add]; rfl, heap_alloc_new w.drew _, by omega, hle, ?_, ?_⟩⟩, grown_alloc w _ _, .inr ⟨_, rfl, Nat.le_refl _⟩⟩
      · simp only [Array.size_append, List.size_toArray, size_zeroCells, hzs, hl, ← Nat.add_mul]
        exact Nat.mul_le_mul_right _ (by omega)
      · simp only [Array.toList_append, List.nil_append]
        rw [show (0 + m) * i.size = news.length by rw [hl, Nat.zero_add]]
        exact List.take_left
  · by_cases hroom : n + m ≤ cap
    · have hfit : n * i.size + news.length ≤ cur.size := by
        rw [hl, ← Nat.add_mul]
        exact Nat.le_trans (Nat.mul_le_mul_right _ hroom) hcs
      have hr := run_append_room (P := P) w t ty e i ht hi g n cap cur hg a m c news hl hnews h1 hroom hfit
      refine ⟨_, _, hr, ⟨hlen, hone, .inr ⟨g, cap, _, rfl, setRow_heap w g cur _ e _ hg, hroom, hcm, ?_, ?_⟩⟩, grown_set w g _, .inl rfl⟩
      · simp only [List.size_toArray, List.length_append, List.length_take, List.length_drop, Array.length_toList]
        omega
      · rw [htake, ← hlen]
        exact List.take_left
    · have holds : ∀ j u, xs[j]? = some u → w.cell? ((⟨g, 0, none⟩ : Addr).add j) = some u := fun j u hu => by
        rw [Addr.add_lit, Nat.zero_add]
        exact hR.cell rfl j u hu
      have hr := run_append_grow (P := P) w t ty e i z ht hi hz ⟨g, 0, none⟩ n cap xs hRl holds a m c news hl hnews (by omega) (by omega) (growslice_fits (by omega) (by omega))
      have hge := grownCap_ge w (n + m) cap e
      have hle := grownCap_le_maxLen w (n + m) cap e (by simp only [maxLen]; omega)
      refine ⟨_, _, hr, ⟨hlen, hone, .inr ⟨_, _, _, rfl, heap_alloc_new w.drew _, hge, hle, ?_, ?_⟩⟩, grown_alloc w _ _, .inr ⟨_, rfl, Nat.le_refl _⟩⟩
      · simp only [Array.size_append, List.size_toArray, size_zeroCells, hzs, hRl, hl, ← Nat.add_mul]
        exact Nat.mul_le_mul_right _ (by omega)
      · simp only [Array.toList_append, List.append_assoc]
        rw [← List.append_assoc, ← hlen]
        exact List.take_left
theorem lt_of_some {W : World} {k : Nat} {o : Obj} (h : W.heap[k]? = some o) : k < W.heap.size := (Array.getElem?_eq_some_iff.1 h).1
structure Chunk where
  H : World → Prop
  bs : List Nat
  lt : ∀ {w : World}, H w → ∀ b ∈ bs, b < w.heap.size
  mv : ∀ {w w' : World}, H w → (∀ b ∈ bs, w'.heap[b]? = w.heap[b]?) → H w'
def fpc (cs : List Chunk) : List Nat := cs.flatMap Chunk.bs
theorem fpc_app (a b : List Chunk) : fpc (a ++ b) = fpc a ++ fpc b := by simp [fpc]
theorem fpc_cons (a : Chunk) (b : List Chunk) : fpc (a :: b) = a.bs ++ fpc b := rfl
theorem mem_fpc {cs : List Chunk} {b : Nat} : b ∈ fpc cs ↔ ∃ c ∈ cs, b ∈ c.bs := List.mem_flatMap
structure St (w0 : World) (F : Nat → Prop) (w : World) (cs : List Chunk) : Prop where
  keep : Keep w0 w F
  h : ∀ c ∈ cs, c.H w
  nd : ND (fpc cs)
  own : ∀ b ∈ fpc cs, F b ∨ w0.heap.size ≤ b
section
variable {w0 w w' : World} {F : Nat → Prop} {cs A B R : List Chunk} {c c' d : Chunk}
theorem St.start (h : ∀ c ∈ cs, c.H w) (nd : ND (fpc cs)) : St w (fun b => b ∈ fpc cs) w cs :=
  ⟨Keep.of_below (Below.refl _ w) _, h, nd, fun b hb => .inl hb⟩
theorem St.get (s : St w0 F w cs) (i : Nat) (hi : cs[i]? = some c) : c.H w := s.h c (List.mem_of_getElem? hi)
theorem St.lt (s : St w0 F w cs) : ∀ b ∈ fpc cs, b < w.heap.size := by
  intro b hb
  obtain ⟨c, hc, hbc⟩ := mem_fpc.1 hb
  exact c.lt (s.h c hc) b hbc
theorem St.below (s : St w0 F w cs) (hb : Below w.heap.size w w') : St w0 F w' cs :=
  ⟨s.keep.below hb, fun c hc => c.mv (s.h c hc) fun b hbc => hb.block b (c.lt (s.h c hc) b hbc), s.nd, s.own⟩
theorem St.drew (s : St w0 F w cs) : St w0 F w.drew cs := ⟨s.keep.drew, fun c hc => c.mv (s.h c hc) fun _ _ => rfl, s.nd, s.own⟩
theorem nd_app {a b : List Nat} : ND (a ++ b) ↔ (ND a ∧ ND b ∧ ∀ x ∈ a, x ∉ b) := by
  refine ⟨fun h => ⟨fun x => ?_, fun x => ?_, fun x hx hb => ?_⟩, fun ⟨h1, h2, h3⟩ x => ?_⟩
  · have := h x
    rw [List.count_append] at this
    omega
  · have := h x
    rw [List.count_append] at this
    omega
  · have := h x
    rw [List.count_append] at this
    have h1 := count_mem.1 hx
    have h2 := count_mem.1 hb
    omega
  · rw [List.count_append]
    have h1x := h1 x
    have h2x := h2 x
    by_cases hx : x ∈ a
    · have := List.count_eq_zero.2 (h3 x hx)
      omega
    · have := List.count_eq_zero.2 hx
      omega
theorem St.frame (s : St w0 F w (A ++ R)) (hk : Keep w w' (fun b => b ∈ fpc A)) (hh : ∀ c ∈ B, c.H w') (hnd : ND (fpc B)) (hs : ∀ b ∈ fpc B, b ∈ fpc A ∨ w.heap.size ≤ b) : St w0 F w' (B ++ R) := by
  have hlt := s.lt
  have hn := s.nd
  rw [fpc_app] at hn hlt
  obtain ⟨hnA, hnR, hAR⟩ := nd_app.1 hn
  have hown := s.own
  rw [fpc_app] at hown
  have hsz := s.keep.size
  refine ⟨s.keep.trans hk fun b hb => hown b (List.mem_append_left _ hb), ?_, ?_, ?_⟩
  · intro c hc
    rcases List.mem_append.1 hc with hc | hc
    · exact hh c hc
    · have hcw := s.h c (List.mem_append_right _ hc)
      exact c.mv hcw fun b hb => hk.block b (c.lt hcw b hb) fun hA => hAR b hA (mem_fpc.2 ⟨c, hc, hb⟩)
  · rw [fpc_app]
    refine nd_app.2 ⟨hnd, hnR, fun x hx hR => ?_⟩
    rcases hs x hx with h | h
    · exact hAR x h hR
    · have := hlt x (List.mem_append_right _ hR)
      omega
  · intro b hb
    rw [fpc_app] at hb
    rcases List.mem_append.1 hb with hb | hb
    · rcases hs b hb with h | h
      · exact hown b (List.mem_append_left _ h)
      · exact .inr (by omega)
    · exact hown b (List.mem_append_right _ hb)
theorem St.call (s : St w0 F w (A ++ R)) (k : St w (fun b => b ∈ fpc A) w' B) : St w0 F w' (B ++ R) := s.frame k.keep k.h k.nd k.own
theorem fpc_perm {a b : List Chunk} (h : a.Perm b) : (fpc a).Perm (fpc b) := by
  unfold fpc
  exact h.flatMap_right _
theorem St.perm (s : St w0 F w A) (h : A.Perm B) : St w0 F w B :=
  ⟨s.keep, fun c hc => s.h c (h.mem_iff.2 hc), fun a => by rw [← (fpc_perm h).count_eq]; exact s.nd a, fun b hb => s.own b ((fpc_perm h).mem_iff.2 hb)⟩
theorem St.tell (s : St w0 F w (A ++ R)) (hh : (∀ c ∈ A, c.H w) → ∀ c ∈ B, c.H w) (hc : ∀ b, (fpc B).count b ≤ (fpc A).count b) : St w0 F w (B ++ R) := by
  refine s.frame (Keep.of_below (Below.refl _ w) _) (hh fun c hc => s.h c (List.mem_append_left _ hc)) (fun b => ?_) (fun b hb => .inl ?_)
  · have h1 := s.nd b
    rw [fpc_app, List.count_append] at h1
    have := hc b
    omega
  · have h1 := count_mem.1 hb
    exact count_mem.2 (Nat.lt_of_lt_of_le h1 (hc b))
theorem St.drop (s : St w0 F w (A ++ R)) : St w0 F w R := by
  have := St.tell (B := []) s (fun _ c hc => by cases hc) (fun b => by simp [fpc])
  simpa using this
theorem set_split {α : Type} : ∀ {l : List α} {i : Nat} {x : α} (y : α), l[i]? = some x → ∃ A B, l = A ++ x :: B ∧ l.set i y = A ++ y :: B ∧ A.length = i
  | [], i, x, y, h => by simp at h
  | a :: l, 0, x, y, h => by
    simp at h
    subst h
    exact ⟨[], l, rfl, rfl, rfl⟩
  | a :: l, i + 1, x, y, h => by
    obtain ⟨A, B, h1, h2, h3⟩ := set_split (l := l) y (by simpa using h)
    exact ⟨a :: A, B, by rw [h1]; rfl, by rw [List.set_cons_succ, h2]; rfl, by simp [h3]⟩
theorem St.upd (s : St w0 F w cs) (i : Nat) (hi : cs[i]? = some c) (c' : Chunk) (hk : Keep w w' (fun b => b ∈ c.bs)) (hc : c'.H w') (hnd : ND c'.bs) (hs : ∀ b ∈ c'.bs, b ∈ c.bs ∨ w.heap.size ≤ b) : St w0 F w' (cs.set i c') := by
  obtain ⟨A, B, h1, h2, hAi⟩ := set_split c' hi
  rw [h2]
  rw [h1] at s
  have hp : (A ++ c :: B).Perm ([c] ++ (A ++ B)) := List.perm_middle
  have hq : ([c'] ++ (A ++ B)).Perm (A ++ c' :: B) := (List.perm_middle (a := c') (l₁ := A) (l₂ := B)).symm
  have e : ∀ x : Chunk, fpc [x] = x.bs := fun x => by simp [fpc]
  refine ((s.perm hp).frame (B := [c']) (by rw [e]; exact hk) ?_ (by rw [e]; exact hnd) (by rw [e, e]; exact hs)).perm hq
  intro x hx
  simp at hx
  subst hx
  exact hc
theorem St.ndi (s : St w0 F w cs) (i : Nat) (hi : cs[i]? = some c) : ND c.bs := by
  obtain ⟨A, B, h1, h2, hAi⟩ := set_split c hi
  have hn := s.nd
  rw [h1] at hn
  intro b
  have := hn b
  simp only [fpc, List.flatMap_append, List.flatMap_cons, List.count_append] at this
  omega
theorem St.apart (s : St w0 F w cs) (i j : Nat) (hij : i ≠ j) (hi : cs[i]? = some c) (hj : cs[j]? = some d) : ∀ b ∈ c.bs, b ∉ d.bs := by
  intro b hb hd
  obtain ⟨A, B, h1, h2, hAi⟩ := set_split c hi
  have hn := s.nd b
  have hdm : d ∈ A ++ B := by
    rw [h1] at hj
    by_cases hl : A.length ≤ j
    · rw [List.getElem?_append_right hl] at hj
      obtain ⟨m, hm⟩ : ∃ m, j - A.length = m + 1 := ⟨j - A.length - 1, by omega⟩
      rw [hm, List.getElem?_cons_succ] at hj
      exact List.mem_append_right _ (List.mem_of_getElem? hj)
    · rw [List.getElem?_append_left (by omega)] at hj
      exact List.mem_append_left _ (List.mem_of_getElem? hj)
  rw [h1] at hn
  have h3 := count_mem.1 hb
  have h4 : 0 < (fpc (A ++ B)).count b := count_mem.1 (mem_fpc.2 ⟨d, hdm, hd⟩)
  simp only [fpc, List.flatMap_append, List.flatMap_cons, List.count_append] at hn h4
  omega
end
section
variable {w0 w w' W W' : World} {F : Nat → Prop} {cs A B R : List Chunk} {c c' d : Chunk}
def blkC (b : Nat) (o : Obj) : Chunk := ⟨fun w => w.heap[b]? = some o, [b], fun h x hx => by simp at hx; subst hx; exact (Array.getElem?_eq_some_iff.1 h).1, fun h hm => (hm b (by simp)).trans h⟩
theorem St.blk (s : St w0 F w cs) (i : Nat) {b : Nat} {o : Obj} (hi : cs[i]? = some (blkC b o)) : w.heap[b]? = some o := s.get i hi
theorem nd_one (p : Nat) : ND [p] := fun a => by simp [List.count_cons]; split <;> omega
theorem nd_bl (v : Value) : ND (bl v) := by
  unfold bl
  cases v.ownBlock with
  | none => intro a; simp
  | some b => exact nd_one b
theorem St.alloc (s : St w0 F w cs) (C : Array Value) (T : TypeId) {n : Nat} (hn : w.heap.size = n) : St w0 F (w.alloc (.cells C T)) (cs ++ [blkC n (.cells C T (0, 0))]) := by
  have hb : Below w.heap.size w (w.alloc (.cells C T)) := (Below.refl _ w).alloc (Nat.le_refl _) _
  have s2 := s.below hb
  have hlt := s.lt
  subst hn
  have e : fpc (cs ++ [blkC w.heap.size (.cells C T (0, 0))]) = fpc cs ++ [w.heap.size] := by rw [fpc_app]; rfl
  refine ⟨s2.keep, ?_, ?_, ?_⟩
  · intro c hc
    rcases List.mem_append.1 hc with hc | hc
    · exact s2.h c hc
    · simp at hc
      subst hc
      exact heap_alloc_new w _
  · rw [e]
    refine nd_app.2 ⟨s.nd, nd_one _, fun x hx hm => ?_⟩
    have hx' : x = w.heap.size := by simpa using hm
    have := hlt x hx
    omega
  · intro b hb
    rw [e] at hb
    rcases List.mem_append.1 hb with hb | hb
    · exact s.own b hb
    · have hx' : b = w.heap.size := by simpa using hb
      have := s.keep.size
      exact .inr (by omega)
theorem St.left (s : St w0 F w (A ++ R)) : St w0 F w A := (s.perm (B := R ++ A) List.perm_append_comm).drop
theorem keep_set (w : World) (p : Nat) (j : Nat) (v : Value) (F : Nat → Prop) (hF : F p) : Keep w (w.setCell ⟨p, j, none⟩ v) F := (Keep.of_below (Below.refl _ w) F).cell (p := ⟨p, j, none⟩) (.inl hF) v
theorem keep_row {v : Value} (hg : w.grownBy w' v.ownBlock) : Keep w w' (fun b => b ∈ bl v) :=
  ⟨hg.os, hg.tape, hg.output, hg.size, fun k hk hf => hg.block k hk fun e => hf (bl_mem.2 e.symm)⟩
theorem bl_sub {v v' : Value} (ho : v'.ownBlock = v.ownBlock ∨ ∃ k, v'.ownBlock = some k ∧ w.heap.size ≤ k) : ∀ b ∈ bl v', b ∈ bl v ∨ w.heap.size ≤ b := by
  intro b hb
  have h1 := bl_mem.1 hb
  rcases ho with ho | ⟨k, hk, hle⟩
  · exact .inl (bl_mem.2 (ho ▸ h1))
  · rw [h1] at hk
    simp at hk
    exact .inr (by omega)
theorem appended_ {P : Program} {ops : Array Oper} {Q : Exit → Act → World → Prop} {oi : Oper} {N : Option Tmp} {a : Act} {w : World} {K : Act → World → Prop} (d x : Operand) (dT sT : TypeId) (hw : Region.wanted oi (yielded ops a.tmps) = true) (hN : oi.dst = N)
    (hop : oi.op = Op.call { callee := Callee.builtin Builtin.append, args := #[d, x], argTypes := #[dT, sT] }) (v u : Value) (hd : a.eval d = v) (hx : a.eval x = u) {v' : Value} {w' : World} (hr : (Builtin.append_ #[dT, sT] oi.type #[v, u]).run P w = .ok v' w')
    (h : K (a.put N v') w') : if Region.wanted oi (yielded ops a.tmps) = true then Oper.wp P oi a w K Q else K (a.put N undef) w := by
  rw [if_pos hw]
  subst hN
  unfold Oper.wp
  simp [execOp, hop, resolve, invoke, builtin, hd, hx, hr, Result.andThen]
  exact h
end
def Owns (w : World) (v v' : Value) : Prop := v'.ownBlock = v.ownBlock ∨ ∃ k, v'.ownBlock = some k ∧ w.heap.size ≤ k
theorem row_slice {w : World} {e : TypeId} {sz n : Nat} {v : Value} {xs : List Value} (h : Row w e sz v n xs) (h0 : 0 < n) : ∃ g c, v = .slice (some ⟨g, 0, none⟩) n c ∧ n ≤ c := by
  rcases h.2.2 with ⟨_, h⟩ | ⟨g, cap, cur, h, _, h2, _⟩
  · omega
  · exact ⟨g, cap, h, h2⟩
theorem row_cells {w : World} {e : TypeId} {sz g n c : Nat} {xs : List Value} (h : Row w e sz (.slice (some ⟨g, 0, none⟩) n c) n xs) : ∀ j u, xs[j]? = some u → w.cell? ((⟨g, 0, none⟩ : Addr).add j) = some u := fun j u hu => by
  rw [Addr.add_lit, Nat.zero_add]
  exact h.cell rfl j u hu
theorem St.fresh {w0 w w' : World} {F : Nat → Prop} {cs : List Chunk} (s : St w0 F w cs) (hb : Below w.heap.size w w') (c : Chunk) (hc : c.H w') (hnd : ND c.bs) (hs : ∀ b ∈ c.bs, w.heap.size ≤ b) : St w0 F w' (c :: cs) := by
  have s2 := s.below hb
  have hlt := s.lt
  refine ⟨s2.keep, ?_, ?_, ?_⟩
  · intro d hd
    rcases List.mem_cons.1 hd with rfl | hd
    · exact hc
    · exact s2.h d hd
  · rw [fpc_cons]
    exact nd_app.2 ⟨hnd, s.nd, fun x hx hm => by have := hlt x hm; have := hs x hx; omega⟩
  · intro b hb
    rw [fpc_cons] at hb
    rcases List.mem_append.1 hb with hb | hb
    · have := hs b hb
      have := s.keep.size
      exact .inr (by omega)
    · exact s.own b hb
section
variable {w0 w w' W W' : World} {F : Nat → Prop} {cs A B R : List Chunk} {c c' d : Chunk}
end
def NoF : Nat → Prop := fun _ => False
theorem keep_below {w w' : World} (h : Keep w w' NoF) : Below w.heap.size w w' := ⟨h.os, h.tape, h.output, h.size, fun k hk => h.block k hk (fun h => h)⟩
theorem St.nil0 (w : World) (F : Nat → Prop) : St w F w [] := ⟨Keep.of_below (Below.refl _ _) _, fun c hc => (by cases hc), fun a => by simp [fpc], fun b hb => by simp [fpc] at hb⟩
theorem range_filterMap {α : Type} (l : List α) : (List.range l.length).filterMap (fun i => l[i]?) = l := by
  induction l with
  | nil => rfl
  | cons x l ih =>
    rw [List.length_cons, List.range_succ_eq_map, List.filterMap_cons]
    simp only [List.getElem?_cons_zero, List.filterMap_map]
    congr 1
theorem perm_ix {α : Type} (l : List α) (ix : List Nat) (n : Nat) (hn : l.length = n) (h : ix.Perm (List.range n)) : l.Perm (ix.filterMap (fun i => l[i]?)) := by
  subst hn
  have := h.symm.filterMap (fun i => l[i]?)
  rw [range_filterMap] at this
  exact this
theorem made_ {P : Program} {ops : Array Oper} {Q : Exit → Act → World → Prop} {oi : Oper} {N : Option Tmp} {a : Act} {w : World} {K : Act → World → Prop} {v : Value} {w1 : World} (hw : Region.wanted oi (yielded ops a.tmps) = true) (hN : oi.dst = N) (hrun : (execOp a.eval oi).run P w = .ok (.value v) w1)
    (h : K (a.put N v) w1) : if Region.wanted oi (yielded ops a.tmps) = true then Oper.wp P oi a w K Q else K (a.put N undef) w := by
  rw [if_pos hw]
  unfold Oper.wp
  rw [hrun]
  show K (a.put oi.dst v) w1
  rw [hN]
  exact h
section
variable {w0 w w' W W' : World} {F : Nat → Prop} {cs A B R : List Chunk} {c c' d : Chunk}
theorem St.sub (s : St w0 F w (A ++ R)) : St w (fun b => b ∈ fpc A) w A :=
  St.start (fun c hc => s.h c (List.mem_append_left _ hc)) (by have := s.nd; rw [fpc_app] at this; exact (nd_app.1 this).1)
end
end Go.Proofs.Kb
end
section
namespace Go.Proofs.Kb
open Go Go.RowKit Go.Proofs.Ytnojcnmnkkgkgaa.Q Go.Proofs.YtnojcnmnkkgkgaaW.PrintWords Go.Proofs.YtnojcnmnkkgkgaaW.PrintLast Go.Proofs.YtnojcnmnkkgkgaaW.PrintMore
set_option linter.unusedVariables false
set_option linter.unusedSimpArgs false
structure EncT (α : Type) where
  ty : TypeId
  sz : Nat
  enc : α → List Value
  len : ∀ x, (enc x).length = sz
  one : ∀ x, ∀ u ∈ enc x, u.oneCell' = true
section
variable {α : Type} (E : EncT α)
def EncT.all (l : List α) : List Value := l.flatMap E.enc
theorem EncT.all_cons (x : α) (l : List α) : E.all (x :: l) = E.enc x ++ E.all l := rfl
theorem EncT.all_app (a b : List α) : E.all (a ++ b) = E.all a ++ E.all b := by simp [EncT.all]
theorem EncT.all_one' (x : α) : E.all [x] = E.enc x := by simp [EncT.all]
theorem EncT.all_len (l : List α) : (E.all l).length = l.length * E.sz := by
  induction l with
  | nil => simp [EncT.all]
  | cons x l ih => rw [E.all_cons, List.length_append, ih, E.len, List.length_cons, Nat.add_mul]; omega
theorem EncT.all_one (l : List α) : ∀ u ∈ E.all l, u.oneCell' = true := fun u hu => by
  obtain ⟨x, _, h⟩ := List.mem_flatMap.1 hu
  exact E.one x u h
theorem EncT.all_take : ∀ (l : List α) (i : Nat), (E.all l).take (i * E.sz) = E.all (l.take i)
  | [], i => by simp [EncT.all]
  | x :: l, 0 => by simp [EncT.all]
  | x :: l, i + 1 => by
    rw [E.all_cons, List.take_succ_cons, E.all_cons, Nat.add_mul, Nat.one_mul, Nat.add_comm, ← E.len x, List.take_length_add_append, E.len x, EncT.all_take l i]
theorem EncT.all_drop : ∀ (l : List α) (i : Nat), (E.all l).drop (i * E.sz) = E.all (l.drop i)
  | [], i => by simp [EncT.all]
  | x :: l, 0 => by simp [EncT.all]
  | x :: l, i + 1 => by
    rw [E.all_cons, List.drop_succ_cons, Nat.add_mul, Nat.one_mul, Nat.add_comm, ← E.len x, List.drop_length_add_append, E.len x, EncT.all_drop l i]
theorem EncT.all_get {l : List α} {i : Nat} {x : α} (h : l[i]? = some x) {j : Nat} (hj : j < E.sz) : (E.all l)[i * E.sz + j]? = (E.enc x)[j]? := by
  obtain ⟨hi, rfl⟩ := List.getElem?_eq_some_iff.1 h
  have h1 : (E.all l)[i * E.sz + j]? = ((E.all l).drop (i * E.sz))[j]? := by rw [List.getElem?_drop]
  rw [h1, E.all_drop, List.drop_eq_getElem_cons hi, E.all_cons, List.getElem?_append_left (by rw [E.len]; exact hj)]
def RowX (w : World) (v : Value) (l : List α) : Prop := Row w E.ty E.sz v l.length (E.all l)
variable {E} {w w' w0 W : World} {v v' : Value} {l l' : List α} {F : Nat → Prop} {cs : List Chunk}
theorem RowX.nil : RowX E w (.slice none 0 0) [] := Row.nil w E.ty E.sz
theorem RowX.move (h : RowX E w v l) (hm : ∀ k, v.ownBlock = some k → w'.heap[k]? = w.heap[k]?) : RowX E w' v l := Row.move h hm
theorem RowX.below (h : RowX E w v l) (hb : Below w.heap.size w w') : RowX E w' v l := Row.below h hb
theorem RowX.of {n : Nat} {xs : List Value} (h : Row w E.ty E.sz v n xs) (hn : l.length = n) (hx : xs = E.all l) : RowX E w v l := by
  subst hn
  subst hx
  exact h
theorem RowX.form (h : RowX E w v l) : ∃ A c, v = .slice A l.length c := by
  rcases h.2.2 with ⟨rfl, h0⟩ | ⟨g, c, cur, rfl, _⟩
  · exact ⟨_, _, by rw [h0]⟩
  · exact ⟨_, _, rfl⟩
theorem RowX.fill (h : RowX E w v l) (h0 : 0 < l.length) : ∃ g c, v = .slice (some ⟨g, 0, none⟩) l.length c ∧ l.length ≤ c := row_slice h h0
theorem RowX.cell {g n c : Nat} (h : RowX E w (.slice (some ⟨g, 0, none⟩) n c) l) {i : Nat} {x : α} (hx : l[i]? = some x) (j : Nat) (hj : j < E.sz) (u : Value) (hu : (E.enc x)[j]? = some u) : w.cell? ⟨g, i * E.sz + j, none⟩ = some u := by
  have hl := (List.getElem?_eq_some_iff.1 hx).1
  obtain ⟨g', c', hv, _⟩ := row_slice h (by omega)
  injection hv with h1 h2 h3
  injection h1 with h1
  injection h1 with h1
  subst h1 h2
  exact Row.cell h rfl _ _ (by rw [E.all_get hx hj]; exact hu)
theorem RowX.frozen {g n c : Nat} (h : RowX E w (.slice (some ⟨g, 0, none⟩) n c) l) (j : Nat) : w.frozen? ⟨g, j, none⟩ = false := by
  obtain ⟨_, _, h2⟩ := h
  rcases h2 with ⟨h2, _⟩ | ⟨g', cap', cur, hv, hg, _⟩
  · simp at h2
  · simp at hv
    obtain ⟨rfl, rfl, rfl⟩ := hv
    exact frozen_of_row w g j cur _ hg
variable (E) in
def rowXC (v : Value) (l : List α) : Chunk := ⟨fun w => RowX E w v l, bl v, fun h b hb => Row.lt h b (bl_mem.1 hb), fun h hm => Row.move h fun k hk => hm k (bl_mem.2 hk)⟩
theorem St.rowX (s : St w0 F w cs) (i : Nat) (hi : cs[i]? = some (rowXC E v l)) : RowX E w v l := s.get i hi
theorem St.rowTo (s : St w0 F w cs) (i : Nat) (hi : cs[i]? = some (rowXC E v l)) (hr : RowX E w' v' l') (hg : w.grownBy w' v.ownBlock) (ho : Owns w v v') : St w0 F w' (cs.set i (rowXC E v' l')) :=
  s.upd i hi (rowXC E v' l') (keep_row hg) hr (nd_bl v') (bl_sub ho)
def puts (w : World) (g : Nat) : Nat → List Value → World
  | o, [] => w
  | o, v :: vs => puts (w.setCell ⟨g, o, none⟩ v) g (o + 1) vs
def setL : Nat → List Value → List Value → List Value
  | o, [], l => l
  | o, v :: vs, l => setL (o + 1) vs (l.set o v)
theorem setL_len : ∀ (vs : List Value) (o : Nat) (l : List Value), (setL o vs l).length = l.length
  | [], o, l => rfl
  | v :: vs, o, l => by
    unfold setL
    rw [setL_len vs, List.length_set]
theorem setL_take : ∀ (vs : List Value) (o : Nat) (l : List Value) (k : Nat), (setL o vs l).take k = setL o vs (l.take k)
  | [], o, l, k => rfl
  | v :: vs, o, l, k => by
    unfold setL
    rw [setL_take vs, List.take_set]
theorem setL_app : ∀ (vs a b : List Value) (o : Nat), setL (a.length + o) vs (a ++ b) = a ++ setL o vs b
  | [], a, b, o => rfl
  | v :: vs, a, b, o => by
    unfold setL
    rw [List.set_append_right _ _ (by omega), Nat.add_assoc, show a.length + o - a.length = o by omega, setL_app vs a _ (o + 1)]
theorem setL_head : ∀ (vs a b : List Value), a.length = vs.length → setL 0 vs (a ++ b) = vs ++ b
  | [], a, b, h => by
    obtain rfl : a = [] := List.length_eq_zero_iff.1 h
    rfl
  | v :: vs, [], b, h => by simp at h
  | v :: vs, x :: a, b, h => by
    have := setL_app vs [v] (a ++ b) 0
    show setL (0 + 1) vs ((x :: (a ++ b)).set 0 v) = _
    rw [List.set_cons_zero]
    simp only [List.length_cons, List.length_nil, Nat.zero_add, Nat.add_zero, List.cons_append, List.nil_append] at this ⊢
    rw [this, setL_head vs a b (by simpa using h)]
theorem EncT.all_set (E : EncT α) : ∀ (l : List α) (i : Nat) (x : α), i < l.length → setL (i * E.sz) (E.enc x) (E.all l) = E.all (l.set i x)
  | [], i, x, h => by simp at h
  | y :: l, 0, x, h => by
    rw [Nat.zero_mul, E.all_cons, setL_head _ _ _ (by rw [E.len, E.len]), List.set_cons_zero, E.all_cons]
  | y :: l, i + 1, x, h => by
    rw [E.all_cons, List.set_cons_succ, E.all_cons, Nat.add_mul, Nat.one_mul, Nat.add_comm, ← E.len y, setL_app, E.len y, EncT.all_set E l i x (by simpa using h)]
theorem puts_heap : ∀ (vs : List Value) (o : Nat) (w : World) (g : Nat) (t : TypeId) (C : Array Value), w.heap[g]? = some (.cells C t (0, 0)) → ∃ C', (puts w g o vs).heap[g]? = some (.cells C' t (0, 0)) ∧ C'.toList = setL o vs C.toList
  | [], o, w, g, t, C, h => ⟨C, h, rfl⟩
  | v :: vs, o, w, g, t, C, h => by
    obtain ⟨C', h1, h2⟩ := puts_heap vs (o + 1) (w.setCell ⟨g, o, none⟩ v) g t _ (blk_put h o v rfl)
    refine ⟨C', h1, ?_⟩
    rw [h2, Array.toList_setIfInBounds]
    rfl
theorem RowX.put {g n c i : Nat} (hr : RowX E w (.slice (some ⟨g, 0, none⟩) n c) l) (hi : i < l.length) (x : α) : RowX E (puts w g (i * E.sz) (E.enc x)) (.slice (some ⟨g, 0, none⟩) n c) (l.set i x) := by
  obtain ⟨h0, h1, h2⟩ := hr
  rcases h2 with ⟨h2, _⟩ | ⟨g', cap, cur, hv, hg, hn, hm, hs, ht⟩
  · simp at h2
  · simp at hv
    obtain ⟨rfl, rfl, rfl⟩ := hv
    obtain ⟨C', h3, h4⟩ := puts_heap (E.enc x) (i * E.sz) w g _ _ hg
    have hsz : C'.size = cur.size := by
      have := congrArg List.length h4
      rw [setL_len] at this
      simpa using this
    refine ⟨E.all_len _, E.all_one _, .inr ⟨g, c, C', by rw [List.length_set], h3, by rw [List.length_set]; exact hn, hm, by rw [hsz]; exact hs, ?_⟩⟩
    rw [h4, setL_take, List.length_set, ht, E.all_set l i x hi]
structure InfoX (P : Program) (E : EncT α) (t : TypeId) where
  under : P.underlying t = some (.slice E.ty)
  i : TypeInfo
  z : Value
  bytes : Nat
  info : P.info? E.ty = some i
  zero : i.zero = some z
  size : i.size = E.sz
  bt : i.bytes = bytes
  zsz : z.cells.size = E.sz
  pos : 0 < E.sz
  small : bytes ≤ 64
variable {P : Program} {t : TypeId}
theorem infoX_of {z : Value} {bytes : Nat} (hu : P.underlying t = some (.slice E.ty)) (h : (P.info? E.ty).map (fun i => (i.zero, i.size, i.bytes)) = some (some z, E.sz, bytes)) (hz : z.cells.size = E.sz) (h0 : 0 < E.sz) (hb : bytes ≤ 64) : Nonempty (InfoX P E t) := by
  cases hi : P.info? E.ty with
  | none => rw [hi] at h; simp at h
  | some i =>
    rw [hi] at h
    simp only [Option.map_some, Option.some.injEq, Prod.mk.injEq] at h
    exact ⟨⟨hu, i, z, bytes, hi, h.1, h.2.1, h.2.2, hz, h0, hb⟩⟩
theorem appendX (I : InfoX P E t) (x : α) (vb : Nat) (C : Array Value) (ty : TypeId) (hR : RowX E w v l) (hv : w.heap[vb]? = some (.cells C E.ty (0, 0))) (hC : C.toList = E.enc x) (hn : l.length < 999999) :
    ∃ g c w', (Builtin.append_ #[t, t] ty #[v, .slice (some ⟨vb, 0, none⟩) 1 1]).run P w = .ok (.slice (some ⟨g, 0, none⟩) (l.length + 1) c) w' ∧ RowX E w' (.slice (some ⟨g, 0, none⟩) (l.length + 1) c) (l ++ [x]) ∧ w.grownBy w' v.ownBlock ∧ Owns w v (.slice (some ⟨g, 0, none⟩) (l.length + 1) c) := by
  obtain ⟨v', w', h1, h2, h3, h4⟩ := run_append_R (P := P) w t ty E.ty I.i _ E.sz I.bytes I.under I.info I.zero I.size I.bt I.zsz I.pos I.small v l.length (E.all l) hR ⟨vb, 0, none⟩ 1 1 (E.enc x) (by rw [E.len]; omega) (fun j u hu => by
    rw [Addr.add_lit, Nat.zero_add, cell_of_row w vb j _ E.ty (0, 0) hv, ← hu, ← hC]
    simp) (E.one x) (by omega)
  obtain ⟨g, c, rfl, _⟩ := row_slice h2 (by omega)
  exact ⟨g, c, w', h1, RowX.of h2 (by simp) (by rw [E.all_app, E.all_one']), h3, h4⟩
end
end Go.Proofs.Kb
end
section
namespace Go.Proofs.Kb
open Go Go.RowKit Go.Proofs.Ytnojcnmnkkgkgaa.Q Go.Proofs.YtnojcnmnkkgkgaaW.PrintWords Go.Proofs.YtnojcnmnkkgkgaaW.PrintLast Go.Proofs.YtnojcnmnkkgkgaaW.PrintMore
set_option linter.unusedVariables false
set_option linter.unusedSimpArgs false
theorem wpList_append_run {P : Program} {ops : Array Oper} {rest : List Oper} {o : Oper} {a : Act} {w : World} {Q : Exit → Act → World → Prop} (hgd : o.guard = none) (d x : Operand) (dT sT : TypeId)
    (hop : o.op = Op.call { callee := Callee.builtin Builtin.append, args := #[d, x], argTypes := #[dT, sT] }) (v u : Value) (hd : a.eval d = v) (hx : a.eval x = u) {v' : Value} {w' : World} (hr : (Builtin.append_ #[dT, sT] o.type #[v, u]).run P w = .ok v' w')
    (h : wpList P ops Q rest (a.put o.dst v') w') : wpList P ops Q (o :: rest) a w :=
  wpList_plain hgd fun _ hK => by
    unfold Oper.wp
    simp [execOp, hop, resolve, invoke, builtin, hd, hx, hr, Result.andThen]
    exact hK _ _ h
section
variable {α : Type} {E : EncT α} {P : Program} {t : TypeId} {w w' w0 : World} {v u : Value} {l l' : List α} {F : Nat → Prop} {cs : List Chunk}
theorem RowX.cut {g n cap : Nat} (h : RowX E w (.slice (some ⟨g, 0, none⟩) n cap) l) (k c : Nat) (hk : k ≤ l.length) (hkc : k ≤ c) (hc : c ≤ cap) : RowX E w (.slice (some ⟨g, 0, none⟩) k c) (l.take k) := by
  have hn : n = l.length := by
    rcases h.2.2 with ⟨hv, _⟩ | ⟨g', cap', cur, hv, _⟩
    · simp at hv
    · simp at hv
      exact hv.2.1
  subst hn
  exact RowX.of (Row.cut h k c hk hkc hc) (by rw [List.length_take]; omega) (E.all_take l k)
end
end Go.Proofs.Kb
end
section
namespace Go.Proofs.Kb
open Go Go.RowKit Go.Proofs.Ytnojcnmnkkgkgaa.Q Go.Proofs.YtnojcnmnkkgkgaaW.PrintWords Go.Proofs.YtnojcnmnkkgkgaaW.PrintLast Go.Proofs.YtnojcnmnkkgkgaaW.PrintMore
set_option linter.unusedVariables false
set_option linter.unusedSimpArgs false
set_option maxRecDepth 100000
def valE : EncT S60 := ⟨60, 3, fun x => [.int .i64 x.f0, .int .i64 x.f1, .string x.f2], fun x => rfl, fun x u hu => by
  simp only [List.mem_cons, List.not_mem_nil, or_false] at hu
  rcases hu with rfl | rfl | rfl <;> rfl⟩
theorem valE_info : (Try.prog.info? 60).map (fun i => (i.zero, i.size, i.bytes)) = some (some (.agg #[.int .i64 0, .int .i64 0, .string ⟨#[]⟩]), 3, 32) := by kernel_rfl
def setE : EncT S62 := ⟨62, 4, fun x => [.string x.f0, .int .i64 x.f1.f0, .int .i64 x.f1.f1, .string x.f1.f2], fun x => rfl, fun x u hu => by
  simp only [List.mem_cons, List.not_mem_nil, or_false] at hu
  rcases hu with rfl | rfl | rfl | rfl <;> rfl⟩
theorem setE_info : (Try.prog.info? 62).map (fun i => (i.zero, i.size, i.bytes)) = some (some (.agg #[.string ⟨#[]⟩, .int .i64 0, .int .i64 0, .string ⟨#[]⟩]), 4, 48) := by kernel_rfl
def cndE : EncT S64 := ⟨64, 5, fun x => [.string x.f0, .int .i64 x.f1, .int .i64 x.f2.f0, .int .i64 x.f2.f1, .string x.f2.f2], fun x => rfl, fun x u hu => by
  simp only [List.mem_cons, List.not_mem_nil, or_false] at hu
  rcases hu with rfl | rfl | rfl | rfl | rfl <;> rfl⟩
theorem cndE_info : (Try.prog.info? 64).map (fun i => (i.zero, i.size, i.bytes)) = some (some (.agg #[.string ⟨#[]⟩, .int .i64 0, .int .i64 0, .int .i64 0, .string ⟨#[]⟩]), 5, 56) := by kernel_rfl
def colE : EncT S66 := ⟨66, 3, fun x => [.string x.f0, .int .i64 x.f1, .bool x.f2], fun x => rfl, fun x u hu => by
  simp only [List.mem_cons, List.not_mem_nil, or_false] at hu
  rcases hu with rfl | rfl | rfl <;> rfl⟩
theorem colE_info : (Try.prog.info? 66).map (fun i => (i.zero, i.size, i.bytes)) = some (some (.agg #[.string ⟨#[]⟩, .int .i64 0, .bool false]), 3, 32) := by kernel_rfl
def txtE : EncT ByteArray := ⟨9, 1, fun x => [.string x], fun x => rfl, fun x u hu => by
  simp only [List.mem_cons, List.not_mem_nil, or_false] at hu
  rw [hu]
  rfl⟩
theorem txtE_info : (Try.prog.info? 9).map (fun i => (i.zero, i.size, i.bytes)) = some (some (.string ⟨#[]⟩), 1, 16) := by kernel_rfl
def intE : EncT Int := ⟨3, 1, fun x => [.int .i64 x], fun x => rfl, fun x u hu => by
  simp only [List.mem_cons, List.not_mem_nil, or_false] at hu
  rw [hu]
  rfl⟩
def wntE : EncT S97 := ⟨97, 4, fun x => [.int .i64 x.f0.f0, .string x.f0.f1, .string x.f0.f2, .int .i64 x.f1], fun x => rfl, fun x u hu => by
  simp only [List.mem_cons, List.not_mem_nil, or_false] at hu
  rcases hu with rfl | rfl | rfl | rfl <;> rfl⟩
theorem wntE_info : (Try.prog.info? 97).map (fun i => (i.zero, i.size, i.bytes)) = some (some (.agg #[.int .i64 0, .string ⟨#[]⟩, .string ⟨#[]⟩, .int .i64 0]), 4, 48) := by kernel_rfl
def Src {α : Type} (E : EncT α) (w : World) (v : Value) (l : List α) : Prop := ∃ A c, v = .slice A l.length c ∧ (A = none → l = []) ∧ ∀ a, A = some a → ∀ j u, (E.all l)[j]? = some u → w.cell? (a.add j) = some u
section
variable {α : Type} {E : EncT α} {w w' : World} {v : Value} {l : List α}
theorem Src.below (h : Src E w v l) (hb : Below w.heap.size w w') : Src E w' v l := by
  obtain ⟨A, c, e, h1, h2⟩ := h
  refine ⟨A, c, e, h1, fun a ha j u hu => ?_⟩
  have h := h2 a ha j u hu
  exact (hb.cell (World.block_lt_of_cell? w _ h)).trans h
theorem RowX.src (h : RowX E w v l) : Src E w v l := by
  obtain ⟨A, c, rfl⟩ := h.form
  refine ⟨A, c, rfl, fun ha => ?_, fun a ha j u hu => ?_⟩
  · subst ha
    rcases h.2.2 with ⟨he, h0⟩ | ⟨g, cap, cur, he, _⟩
    · exact List.eq_nil_of_length_eq_zero h0
    · cases he
  · subst ha
    rcases h.2.2 with ⟨he, h0⟩ | ⟨g, cap, cur, he, hg, _⟩
    · cases he
    · cases he
      have := row_cells h j u hu
      exact this
theorem Src.of_C (d : Kd α) (hsz : d.sz = E.sz) (ho : ∀ {w x cs}, d.K w x cs → cs = E.enc x) {A : Option Addr} {c : Nat} (h : Kd.C d w A l.length l) (hc : l.length ≤ c) : Src E w (.slice A l.length c) l := by
  refine ⟨A, c, rfl, fun ha => ?_, fun a ha j u hu => ?_⟩
  · subst ha
    rcases Nat.eq_zero_or_pos l.length with h0 | h0
    · exact List.eq_nil_of_length_eq_zero h0
    · obtain ⟨ad, e, _⟩ := h.2.2 h0
      cases e
  · subst ha
    have hj : j < l.length * E.sz := by
      have := (List.getElem?_eq_some_iff.1 hu).1
      rwa [E.all_len] at this
    have h0 : 0 < l.length := by
      rcases Nat.eq_zero_or_pos l.length with h0 | h0
      · rw [h0] at hj; omega
      · exact h0
    have hs0 : 0 < E.sz := by
      rcases Nat.eq_zero_or_pos E.sz with h0 | h0
      · rw [h0] at hj; omega
      · exact h0
    obtain ⟨ad, e, hx⟩ := h.2.2 h0
    cases e
    have hq : j / E.sz < l.length := (Nat.div_lt_iff_lt_mul hs0).2 hj
    have hr : j % E.sz < E.sz := Nat.mod_lt _ hs0
    have hjj : j / E.sz * E.sz + j % E.sz = j := by rw [Nat.mul_comm]; exact Nat.div_add_mod j E.sz
    obtain ⟨x, hx1⟩ : ∃ x, l[j / E.sz]? = some x := ⟨_, List.getElem?_eq_getElem hq⟩
    obtain ⟨cs, hl, hK, hcell⟩ := hx _ x hx1
    have h1 := E.all_get hx1 hr
    rw [hjj, hu, ← ho hK] at h1
    have h2 := hcell _ u h1.symm
    rw [hsz, hjj] at h2
    exact h2
theorem Src.nil : Src E w (.slice none 0 0) [] := ⟨none, 0, rfl, fun _ => rfl, fun a h => by cases h⟩
end
end Go.Proofs.Kb
end
section
namespace Go.Proofs.Kb
open Go Go.RowKit Go.Proofs.Ytnojcnmnkkgkgaa.Q Go.Proofs.YtnojcnmnkkgkgaaW.PrintWords
set_option linter.unusedVariables false
set_option linter.unusedSimpArgs false
theorem sz_nums (l : List Int) : (strOfNums l).size = l.length := by
  unfold strOfNums
  simp [ByteArray.size]
theorem show_l1 (x4 : List Int) (h : x4.length < 100) : ∀ (m : Nat) (x5 : List Int), m ≤ x4.length → x5.length + m < 1000 → ∃ k r, interlockref00_Show.l1 k x4 x5 ((m : Int) - 1) = some r ∧ r.size = x5.length + m
  | 0, x5, _, _ => ⟨1, strOfNums x5, by unfold interlockref00_Show.l1; rw [if_neg (by omega)], by rw [sz_nums]; rfl⟩
  | m + 1, x5, h1, h2 => by
    have e : ((m + 1 : Nat) : Int) - 1 = (m : Int) := by omega
    obtain ⟨k, r, hk, hr⟩ := show_l1 x4 h m (x5 ++ [rd x4 (m : Int)]) (by omega) (by simp; omega)
    refine ⟨k + 1, r, ?_, by rw [hr]; simp; omega⟩
    unfold interlockref00_Show.l1
    rw [e, if_pos (by omega), if_pos (by omega), if_pos (by omega), if_pos (by omega), IntWalk.wrap64_in _ (by omega)]
    exact hk
theorem show_l0 (x0 : Int) : ∀ (m : Nat) (x3 : Int) (x4 : List Int), x3 ≤ 0 → -(10 : Int) ^ (m + 1) < x3 → -9223372036854775808 ≤ x3 → x4.length + m < 50 → ∃ k r, interlockref00_Show.l0 k x0 x3 x4 = some r ∧ r.size ≤ x4.length + m + 2
  | m, x3, x4, h0, h1, h2, h3 => by
    have hd : Int.tdiv x3 10 = -((-x3) / 10) := by
      have h := Int.neg_tdiv (-x3) 10
      rw [Int.neg_neg] at h
      rw [h, Int.tdiv_eq_ediv_of_nonneg (by omega)]
    have hq : wrap64 (Int.tdiv x3 10) = Int.tdiv x3 10 := IntWalk.wrap64_in _ (by omega)
    obtain ⟨y, hy⟩ : ∃ y, x4 ++ [(wrap64 (48 - (Int.tmod x3 10))) % 256] = y := ⟨_, rfl⟩
    have hl : y.length = x4.length + 1 := by rw [← hy]; simp
    by_cases hz : Int.tdiv x3 10 = 0
    · have fin : ∀ z : List Int, z.length ≤ x4.length + 2 → ∃ k r, interlockref00_Show.j2 k z = some r ∧ r.size ≤ x4.length + m + 2 := fun z hz => by
        obtain ⟨k, r, hk, hr⟩ := show_l1 z (by omega) z.length [] (Nat.le_refl _) (by simp; omega)
        refine ⟨k + 1, r, ?_, by rw [hr]; simp; omega⟩
        show interlockref00_Show.l1 k z [] (wrap64 ((z.length : Int) - 1)) = some r
        rw [IntWalk.wrap64_in _ (by omega)]
        exact hk
      by_cases hn : x0 < 0
      · obtain ⟨k, r, hk, hr⟩ := fin (y ++ [45]) (by simp; omega)
        refine ⟨k + 1, r, ?_, hr⟩
        unfold interlockref00_Show.l0
        rw [if_pos (by omega), hy]
        simp only [Option.bind_some]
        rw [if_pos (by rw [hq]; exact hz), if_pos hn, if_pos (by omega)]
        exact hk
      · obtain ⟨k, r, hk, hr⟩ := fin y (by omega)
        refine ⟨k + 1, r, ?_, hr⟩
        unfold interlockref00_Show.l0
        rw [if_pos (by omega), hy]
        simp only [Option.bind_some]
        rw [if_pos (by rw [hq]; exact hz), if_neg hn]
        exact hk
    · cases m with
      | zero => exact absurd (show Int.tdiv x3 10 = 0 by simp only [Nat.zero_add, Int.pow_one] at h1; omega) hz
      | succ m =>
        obtain ⟨k, r, hk, hr⟩ := show_l0 x0 m (Int.tdiv x3 10) y (by omega) (by rw [Int.pow_succ] at h1; rw [hd]; omega) (by omega) (by omega)
        refine ⟨k + 1, r, ?_, by omega⟩
        unfold interlockref00_Show.l0
        rw [if_pos (by omega), hy]
        simp only [Option.bind_some]
        rw [if_neg (by rw [hq]; exact hz), hq]
        exact hk
theorem show_some (a : Int) (h : -9223372036854775808 ≤ a ∧ a ≤ 9223372036854775807) : ∃ k r, interlockref00_Show.f k a = some r ∧ r.size ≤ 30 := by
  by_cases h0 : a > 0
  · have e : wrap64 (-a) = -a := IntWalk.wrap64_in _ (by omega)
    obtain ⟨k, r, hk, hr⟩ := show_l0 a 20 (-a) [] (by omega) (by omega) (by omega) (by simp)
    refine ⟨k + 1, r, ?_, by simp at hr; omega⟩
    unfold interlockref00_Show.f
    rw [if_pos h0, e]
    exact hk
  · obtain ⟨k, r, hk, hr⟩ := show_l0 a 20 a [] (by omega) (by omega) (by omega) (by simp)
    refine ⟨k + 1, r, ?_, by simp at hr; omega⟩
    unfold interlockref00_Show.f
    rw [if_neg h0]
    exact hk
noncomputable def showB (a : Int) : ByteArray := if h : -9223372036854775808 ≤ a ∧ a ≤ 9223372036854775807 then Classical.choose (Classical.choose_spec (show_some a h)) else ⟨#[]⟩
theorem showB_size (a : Int) : (showB a).size ≤ 30 := by
  unfold showB
  split
  · next h => exact (Classical.choose_spec (Classical.choose_spec (show_some a h))).2
  · exact Nat.zero_le _
theorem show_calls (a : Int) (w : World) (h : (Lit.int .i64 a).wf = true) : Calls Try.prog 57 #[.int .i64 a] w fun e w' => e = .returned (.string (showB a)) ∧ Below w.heap.size w w' := by
  have hb := bounds_i64 h
  unfold showB
  rw [dif_pos hb]
  exact interlockref00_Show.calls _ a _ w (Classical.choose_spec (Classical.choose_spec (show_some a hb))).1
end Go.Proofs.Kb
end
section
namespace Go.Proofs.Kb
open Go Go.RowKit Go.Lib Go.Shelf
set_option linter.unusedVariables false
set_option linter.unusedSimpArgs false
set_option maxRecDepth 100000
set_option maxHeartbeats 2000000 in
theorem clone34 (w : World) (a : Addr) (n c : Nat) (xs : List Value) (hx : xs.length = n * 3) (hcell : ∀ j u, xs[j]? = some u → w.cell? (a.add j) = some u) (h1 : ∀ u ∈ xs, u.oneCell' = true) (hn : n < 1000000) :
    Calls Try.prog 34 #[.slice (some a) n c] w fun e w' => ∃ k cap, e = .returned (.slice (some ⟨k, 0, none⟩) n cap) ∧ w.heap.size ≤ k ∧ Row w' 60 3 (.slice (some ⟨k, 0, none⟩) n cap) n xs ∧ Below w.heap.size w w' := by
  have mixed : Try.prog.follows Departure.mixedOrders = true := by kernel_rfl
  have q22 : ∀ (w : World) (a : Option Addr) (n c n' c' : Nat), (binOp .eql 45 (.slice a n c) (.slice none n' c')).run Try.prog w = .ok (.bool a.isNone) w := fun w a n c n' c' => Lib.run_eql_slice_nil w _ _ a n c n' c' Try.underlying45
  obtain ⟨i0, hi0, hz0, hzs, hzb⟩ := info_parts valE_info
  obtain ⟨W0, hW0⟩ : ∃ W0, w.alloc (.cells #[] 60) = W0 := ⟨_, rfl⟩
  have hb0 : Below w.heap.size w W0 := by rw [← hW0]; exact (Below.refl _ _).alloc (Nat.le_refl _) _
  have hs0 : W0.heap.size = w.heap.size + 1 := by rw [← hW0]; simp
  have hH0 : W0.heap[w.heap.size]? = some (.cells #[] 60 (0, 0)) := by rw [← hW0]; exact heap_alloc_new w _
  have hcell0 : ∀ j u, xs[j]? = some u → W0.cell? (a.add j) = some u := fun j u hu => by
    have h := hcell j u hu
    exact (hb0.cell (World.block_lt_of_cell? w _ h)).trans h
  by_cases h0 : n = 0
  · subst h0
    have hx0 : xs = [] := List.eq_nil_of_length_eq_zero (by simpa using hx)
    subst hx0
    have hrun : ∀ ty, (Builtin.append_ #[45, 45] ty #[.slice (some ⟨w.heap.size, 0, none⟩) 0 0, .slice (some a) 0 c]).run Try.prog W0 = _ := fun ty =>
      run_append_room W0 45 ty 60 i0 Try.underlying45 hi0 w.heap.size 0 0 #[] hH0 a 0 c [] (by simp) (by simp) (by simp) (by simp) (by simp)
    go_enter Try.func34, Try.ntmps34
    go_wp2_with (first | (at_builtin; refine Lib.wpList_append_run _ rfl _ _ _ _ rfl _ _ rfl rfl _ _ (hrun _) ?_))
    go_ret
    refine ⟨_, _, rfl, Nat.le_refl _, ⟨by simp, by simp, .inr ⟨_, _, #[], rfl, ?_, Nat.le_refl _, by simp [maxLen], by simp, by simp⟩⟩, ?_⟩
    · exact setRow_heap W0 _ #[] _ 60 _ hH0
    · exact hb0.trans (Below.grown (Below.refl _ _) (grown_set W0 _ _) (by omega) (fun k e => by simp at e; omega))
  · have hrun : ∀ ty, (Builtin.append_ #[45, 45] ty #[.slice (some ⟨w.heap.size, 0, none⟩) 0 0, .slice (some a) n c]).run Try.prog W0 = _ := fun ty =>
      run_append_grow W0 45 ty 60 i0 _ Try.underlying45 hi0 hz0 ⟨w.heap.size, 0, none⟩ 0 0 [] (by simp) (by simp) a n c xs (by rw [hx, hzs]) hcell0 (by omega) (by omega) (by rw [hzb]; exact growslice_fits (by omega) (by omega))
    have hge := grownCap_ge W0 (0 + n) 0 60
    have hle := grownCap_le_maxLen W0 (0 + n) 0 60 (by simp only [maxLen]; omega)
    obtain ⟨C, hC⟩ : ∃ C, grownCap W0 (0 + n) 0 60 = C := ⟨_, rfl⟩
    rw [hC] at hge hle hrun
    obtain ⟨W1, hW1⟩ : ∃ W1, W0.drew.alloc (.cells (([] : List Value).toArray ++ xs.toArray ++ Builtin.zeroCells (.agg #[.int .i64 0, .int .i64 0, .string ⟨#[]⟩] : Value).cells (C - (0 + n))) 60) = W1 := ⟨_, rfl⟩
    rw [hW1, Nat.zero_add] at hrun
    rw [Nat.zero_add] at hge
    have hz5 : ¬ (n = 0) := h0
    go_enter Try.func34, Try.ntmps34
    go_wp2_with (first | (at_builtin; refine Lib.wpList_append_run _ rfl _ _ _ _ rfl _ _ rfl rfl _ _ (hrun _) ?_))
    go_ret
    refine ⟨_, _, rfl, by omega, ⟨hx, h1, .inr ⟨_, C, _, rfl, by rw [← hW1, show w.heap.size + 1 = W0.drew.heap.size by simp [hs0]]; exact heap_alloc_new W0.drew _, hge, hle, ?_, ?_⟩⟩, ?_⟩
    · simp [size_zeroCells, Value.cells, hx] <;> omega
    · simp only [Array.toList_append, List.nil_append]
      rw [← hx, List.take_left]
    · rw [← hW1]
      exact hb0.trans ((Below.refl _ W0).drew.alloc (by simp; omega) _)
set_option maxHeartbeats 2000000 in
theorem clone47 (w : World) (a : Addr) (n c : Nat) (xs : List Value) (hx : xs.length = n * 3) (hcell : ∀ j u, xs[j]? = some u → w.cell? (a.add j) = some u) (h1 : ∀ u ∈ xs, u.oneCell' = true) (hn : n < 1000000) :
    Calls Try.prog 47 #[.slice (some a) n c] w fun e w' => ∃ k cap, e = .returned (.slice (some ⟨k, 0, none⟩) n cap) ∧ w.heap.size ≤ k ∧ Row w' 60 3 (.slice (some ⟨k, 0, none⟩) n cap) n xs ∧ Below w.heap.size w w' := by
  have mixed : Try.prog.follows Departure.mixedOrders = true := by kernel_rfl
  have q22 : ∀ (w : World) (a : Option Addr) (n c n' c' : Nat), (binOp .eql 22 (.slice a n c) (.slice none n' c')).run Try.prog w = .ok (.bool a.isNone) w := fun w a n c n' c' => Lib.run_eql_slice_nil w _ _ a n c n' c' Try.underlying22
  obtain ⟨i0, hi0, hz0, hzs, hzb⟩ := info_parts valE_info
  obtain ⟨W0, hW0⟩ : ∃ W0, w.alloc (.cells #[] 60) = W0 := ⟨_, rfl⟩
  have hb0 : Below w.heap.size w W0 := by rw [← hW0]; exact (Below.refl _ _).alloc (Nat.le_refl _) _
  have hs0 : W0.heap.size = w.heap.size + 1 := by rw [← hW0]; simp
  have hH0 : W0.heap[w.heap.size]? = some (.cells #[] 60 (0, 0)) := by rw [← hW0]; exact heap_alloc_new w _
  have hcell0 : ∀ j u, xs[j]? = some u → W0.cell? (a.add j) = some u := fun j u hu => by
    have h := hcell j u hu
    exact (hb0.cell (World.block_lt_of_cell? w _ h)).trans h
  by_cases h0 : n = 0
  · subst h0
    have hx0 : xs = [] := List.eq_nil_of_length_eq_zero (by simpa using hx)
    subst hx0
    have hrun : ∀ ty, (Builtin.append_ #[22, 22] ty #[.slice (some ⟨w.heap.size, 0, none⟩) 0 0, .slice (some a) 0 c]).run Try.prog W0 = _ := fun ty =>
      run_append_room W0 22 ty 60 i0 Try.underlying22 hi0 w.heap.size 0 0 #[] hH0 a 0 c [] (by simp) (by simp) (by simp) (by simp) (by simp)
    go_enter Try.func47, Try.ntmps47
    go_wp2_with (first | (at_builtin; refine Lib.wpList_append_run _ rfl _ _ _ _ rfl _ _ rfl rfl _ _ (hrun _) ?_))
    go_ret
    refine ⟨_, _, rfl, Nat.le_refl _, ⟨by simp, by simp, .inr ⟨_, _, #[], rfl, ?_, Nat.le_refl _, by simp [maxLen], by simp, by simp⟩⟩, ?_⟩
    · exact setRow_heap W0 _ #[] _ 60 _ hH0
    · exact hb0.trans (Below.grown (Below.refl _ _) (grown_set W0 _ _) (by omega) (fun k e => by simp at e; omega))
  · have hrun : ∀ ty, (Builtin.append_ #[22, 22] ty #[.slice (some ⟨w.heap.size, 0, none⟩) 0 0, .slice (some a) n c]).run Try.prog W0 = _ := fun ty =>
      run_append_grow W0 22 ty 60 i0 _ Try.underlying22 hi0 hz0 ⟨w.heap.size, 0, none⟩ 0 0 [] (by simp) (by simp) a n c xs (by rw [hx, hzs]) hcell0 (by omega) (by omega) (by rw [hzb]; exact growslice_fits (by omega) (by omega))
    have hge := grownCap_ge W0 (0 + n) 0 60
    have hle := grownCap_le_maxLen W0 (0 + n) 0 60 (by simp only [maxLen]; omega)
    obtain ⟨C, hC⟩ : ∃ C, grownCap W0 (0 + n) 0 60 = C := ⟨_, rfl⟩
    rw [hC] at hge hle hrun
    obtain ⟨W1, hW1⟩ : ∃ W1, W0.drew.alloc (.cells (([] : List Value).toArray ++ xs.toArray ++ Builtin.zeroCells (.agg #[.int .i64 0, .int .i64 0, .string ⟨#[]⟩] : Value).cells (C - (0 + n))) 60) = W1 := ⟨_, rfl⟩
    rw [hW1, Nat.zero_add] at hrun
    rw [Nat.zero_add] at hge
    have hz5 : ¬ (n = 0) := h0
    go_enter Try.func47, Try.ntmps47
    go_wp2_with (first | (at_builtin; refine Lib.wpList_append_run _ rfl _ _ _ _ rfl _ _ rfl rfl _ _ (hrun _) ?_))
    go_ret
    refine ⟨_, _, rfl, by omega, ⟨hx, h1, .inr ⟨_, C, _, rfl, by rw [← hW1, show w.heap.size + 1 = W0.drew.heap.size by simp [hs0]]; exact heap_alloc_new W0.drew _, hge, hle, ?_, ?_⟩⟩, ?_⟩
    · simp [size_zeroCells, Value.cells, hx] <;> omega
    · simp only [Array.toList_append, List.nil_append]
      rw [← hx, List.take_left]
    · rw [← hW1]
      exact hb0.trans ((Below.refl _ W0).drew.alloc (by simp; omega) _)
set_option maxHeartbeats 2000000 in
theorem clone48 (w : World) (a : Addr) (n c : Nat) (xs : List Value) (hx : xs.length = n * 4) (hcell : ∀ j u, xs[j]? = some u → w.cell? (a.add j) = some u) (h1 : ∀ u ∈ xs, u.oneCell' = true) (hn : n < 1000000) :
    Calls Try.prog 48 #[.slice (some a) n c] w fun e w' => ∃ k cap, e = .returned (.slice (some ⟨k, 0, none⟩) n cap) ∧ w.heap.size ≤ k ∧ Row w' 62 4 (.slice (some ⟨k, 0, none⟩) n cap) n xs ∧ Below w.heap.size w w' := by
  have mixed : Try.prog.follows Departure.mixedOrders = true := by kernel_rfl
  have q22 : ∀ (w : World) (a : Option Addr) (n c n' c' : Nat), (binOp .eql 23 (.slice a n c) (.slice none n' c')).run Try.prog w = .ok (.bool a.isNone) w := fun w a n c n' c' => Lib.run_eql_slice_nil w _ _ a n c n' c' Try.underlying23
  obtain ⟨i0, hi0, hz0, hzs, hzb⟩ := info_parts setE_info
  obtain ⟨W0, hW0⟩ : ∃ W0, w.alloc (.cells #[] 62) = W0 := ⟨_, rfl⟩
  have hb0 : Below w.heap.size w W0 := by rw [← hW0]; exact (Below.refl _ _).alloc (Nat.le_refl _) _
  have hs0 : W0.heap.size = w.heap.size + 1 := by rw [← hW0]; simp
  have hH0 : W0.heap[w.heap.size]? = some (.cells #[] 62 (0, 0)) := by rw [← hW0]; exact heap_alloc_new w _
  have hcell0 : ∀ j u, xs[j]? = some u → W0.cell? (a.add j) = some u := fun j u hu => by
    have h := hcell j u hu
    exact (hb0.cell (World.block_lt_of_cell? w _ h)).trans h
  by_cases h0 : n = 0
  · subst h0
    have hx0 : xs = [] := List.eq_nil_of_length_eq_zero (by simpa using hx)
    subst hx0
    have hrun : ∀ ty, (Builtin.append_ #[23, 23] ty #[.slice (some ⟨w.heap.size, 0, none⟩) 0 0, .slice (some a) 0 c]).run Try.prog W0 = _ := fun ty =>
      run_append_room W0 23 ty 62 i0 Try.underlying23 hi0 w.heap.size 0 0 #[] hH0 a 0 c [] (by simp) (by simp) (by simp) (by simp) (by simp)
    go_enter Try.func48, Try.ntmps48
    go_wp2_with (first | (at_builtin; refine Lib.wpList_append_run _ rfl _ _ _ _ rfl _ _ rfl rfl _ _ (hrun _) ?_))
    go_ret
    refine ⟨_, _, rfl, Nat.le_refl _, ⟨by simp, by simp, .inr ⟨_, _, #[], rfl, ?_, Nat.le_refl _, by simp [maxLen], by simp, by simp⟩⟩, ?_⟩
    · exact setRow_heap W0 _ #[] _ 62 _ hH0
    · exact hb0.trans (Below.grown (Below.refl _ _) (grown_set W0 _ _) (by omega) (fun k e => by simp at e; omega))
  · have hrun : ∀ ty, (Builtin.append_ #[23, 23] ty #[.slice (some ⟨w.heap.size, 0, none⟩) 0 0, .slice (some a) n c]).run Try.prog W0 = _ := fun ty =>
      run_append_grow W0 23 ty 62 i0 _ Try.underlying23 hi0 hz0 ⟨w.heap.size, 0, none⟩ 0 0 [] (by simp) (by simp) a n c xs (by rw [hx, hzs]) hcell0 (by omega) (by omega) (by rw [hzb]; exact growslice_fits (by omega) (by omega))
    have hge := grownCap_ge W0 (0 + n) 0 62
    have hle := grownCap_le_maxLen W0 (0 + n) 0 62 (by simp only [maxLen]; omega)
    obtain ⟨C, hC⟩ : ∃ C, grownCap W0 (0 + n) 0 62 = C := ⟨_, rfl⟩
    rw [hC] at hge hle hrun
    obtain ⟨W1, hW1⟩ : ∃ W1, W0.drew.alloc (.cells (([] : List Value).toArray ++ xs.toArray ++ Builtin.zeroCells (.agg #[.string ⟨#[]⟩, .int .i64 0, .int .i64 0, .string ⟨#[]⟩] : Value).cells (C - (0 + n))) 62) = W1 := ⟨_, rfl⟩
    rw [hW1, Nat.zero_add] at hrun
    rw [Nat.zero_add] at hge
    have hz5 : ¬ (n = 0) := h0
    go_enter Try.func48, Try.ntmps48
    go_wp2_with (first | (at_builtin; refine Lib.wpList_append_run _ rfl _ _ _ _ rfl _ _ rfl rfl _ _ (hrun _) ?_))
    go_ret
    refine ⟨_, _, rfl, by omega, ⟨hx, h1, .inr ⟨_, C, _, rfl, by rw [← hW1, show w.heap.size + 1 = W0.drew.heap.size by simp [hs0]]; exact heap_alloc_new W0.drew _, hge, hle, ?_, ?_⟩⟩, ?_⟩
    · simp [size_zeroCells, Value.cells, hx] <;> omega
    · simp only [Array.toList_append, List.nil_append]
      rw [← hx, List.take_left]
    · rw [← hW1]
      exact hb0.trans ((Below.refl _ W0).drew.alloc (by simp; omega) _)
set_option maxHeartbeats 2000000 in
theorem clone49 (w : World) (a : Addr) (n c : Nat) (xs : List Value) (hx : xs.length = n * 5) (hcell : ∀ j u, xs[j]? = some u → w.cell? (a.add j) = some u) (h1 : ∀ u ∈ xs, u.oneCell' = true) (hn : n < 1000000) :
    Calls Try.prog 49 #[.slice (some a) n c] w fun e w' => ∃ k cap, e = .returned (.slice (some ⟨k, 0, none⟩) n cap) ∧ w.heap.size ≤ k ∧ Row w' 64 5 (.slice (some ⟨k, 0, none⟩) n cap) n xs ∧ Below w.heap.size w w' := by
  have mixed : Try.prog.follows Departure.mixedOrders = true := by kernel_rfl
  have q22 : ∀ (w : World) (a : Option Addr) (n c n' c' : Nat), (binOp .eql 24 (.slice a n c) (.slice none n' c')).run Try.prog w = .ok (.bool a.isNone) w := fun w a n c n' c' => Lib.run_eql_slice_nil w _ _ a n c n' c' Try.underlying24
  obtain ⟨i0, hi0, hz0, hzs, hzb⟩ := info_parts cndE_info
  obtain ⟨W0, hW0⟩ : ∃ W0, w.alloc (.cells #[] 64) = W0 := ⟨_, rfl⟩
  have hb0 : Below w.heap.size w W0 := by rw [← hW0]; exact (Below.refl _ _).alloc (Nat.le_refl _) _
  have hs0 : W0.heap.size = w.heap.size + 1 := by rw [← hW0]; simp
  have hH0 : W0.heap[w.heap.size]? = some (.cells #[] 64 (0, 0)) := by rw [← hW0]; exact heap_alloc_new w _
  have hcell0 : ∀ j u, xs[j]? = some u → W0.cell? (a.add j) = some u := fun j u hu => by
    have h := hcell j u hu
    exact (hb0.cell (World.block_lt_of_cell? w _ h)).trans h
  by_cases h0 : n = 0
  · subst h0
    have hx0 : xs = [] := List.eq_nil_of_length_eq_zero (by simpa using hx)
    subst hx0
    have hrun : ∀ ty, (Builtin.append_ #[24, 24] ty #[.slice (some ⟨w.heap.size, 0, none⟩) 0 0, .slice (some a) 0 c]).run Try.prog W0 = _ := fun ty =>
      run_append_room W0 24 ty 64 i0 Try.underlying24 hi0 w.heap.size 0 0 #[] hH0 a 0 c [] (by simp) (by simp) (by simp) (by simp) (by simp)
    go_enter Try.func49, Try.ntmps49
    go_wp2_with (first | (at_builtin; refine Lib.wpList_append_run _ rfl _ _ _ _ rfl _ _ rfl rfl _ _ (hrun _) ?_))
    go_ret
    refine ⟨_, _, rfl, Nat.le_refl _, ⟨by simp, by simp, .inr ⟨_, _, #[], rfl, ?_, Nat.le_refl _, by simp [maxLen], by simp, by simp⟩⟩, ?_⟩
    · exact setRow_heap W0 _ #[] _ 64 _ hH0
    · exact hb0.trans (Below.grown (Below.refl _ _) (grown_set W0 _ _) (by omega) (fun k e => by simp at e; omega))
  · have hrun : ∀ ty, (Builtin.append_ #[24, 24] ty #[.slice (some ⟨w.heap.size, 0, none⟩) 0 0, .slice (some a) n c]).run Try.prog W0 = _ := fun ty =>
      run_append_grow W0 24 ty 64 i0 _ Try.underlying24 hi0 hz0 ⟨w.heap.size, 0, none⟩ 0 0 [] (by simp) (by simp) a n c xs (by rw [hx, hzs]) hcell0 (by omega) (by omega) (by rw [hzb]; exact growslice_fits (by omega) (by omega))
    have hge := grownCap_ge W0 (0 + n) 0 64
    have hle := grownCap_le_maxLen W0 (0 + n) 0 64 (by simp only [maxLen]; omega)
    obtain ⟨C, hC⟩ : ∃ C, grownCap W0 (0 + n) 0 64 = C := ⟨_, rfl⟩
    rw [hC] at hge hle hrun
    obtain ⟨W1, hW1⟩ : ∃ W1, W0.drew.alloc (.cells (([] : List Value).toArray ++ xs.toArray ++ Builtin.zeroCells (.agg #[.string ⟨#[]⟩, .int .i64 0, .int .i64 0, .int .i64 0, .string ⟨#[]⟩] : Value).cells (C - (0 + n))) 64) = W1 := ⟨_, rfl⟩
    rw [hW1, Nat.zero_add] at hrun
    rw [Nat.zero_add] at hge
    have hz5 : ¬ (n = 0) := h0
    go_enter Try.func49, Try.ntmps49
    go_wp2_with (first | (at_builtin; refine Lib.wpList_append_run _ rfl _ _ _ _ rfl _ _ rfl rfl _ _ (hrun _) ?_))
    go_ret
    refine ⟨_, _, rfl, by omega, ⟨hx, h1, .inr ⟨_, C, _, rfl, by rw [← hW1, show w.heap.size + 1 = W0.drew.heap.size by simp [hs0]]; exact heap_alloc_new W0.drew _, hge, hle, ?_, ?_⟩⟩, ?_⟩
    · simp [size_zeroCells, Value.cells, hx] <;> omega
    · simp only [Array.toList_append, List.nil_append]
      rw [← hx, List.take_left]
    · rw [← hW1]
      exact hb0.trans ((Below.refl _ W0).drew.alloc (by simp; omega) _)
set_option maxHeartbeats 2000000 in
theorem clone50 (w : World) (a : Addr) (n c : Nat) (xs : List Value) (hx : xs.length = n * 3) (hcell : ∀ j u, xs[j]? = some u → w.cell? (a.add j) = some u) (h1 : ∀ u ∈ xs, u.oneCell' = true) (hn : n < 1000000) :
    Calls Try.prog 50 #[.slice (some a) n c] w fun e w' => ∃ k cap, e = .returned (.slice (some ⟨k, 0, none⟩) n cap) ∧ w.heap.size ≤ k ∧ Row w' 66 3 (.slice (some ⟨k, 0, none⟩) n cap) n xs ∧ Below w.heap.size w w' := by
  have mixed : Try.prog.follows Departure.mixedOrders = true := by kernel_rfl
  have q22 : ∀ (w : World) (a : Option Addr) (n c n' c' : Nat), (binOp .eql 25 (.slice a n c) (.slice none n' c')).run Try.prog w = .ok (.bool a.isNone) w := fun w a n c n' c' => Lib.run_eql_slice_nil w _ _ a n c n' c' Try.underlying25
  obtain ⟨i0, hi0, hz0, hzs, hzb⟩ := info_parts colE_info
  obtain ⟨W0, hW0⟩ : ∃ W0, w.alloc (.cells #[] 66) = W0 := ⟨_, rfl⟩
  have hb0 : Below w.heap.size w W0 := by rw [← hW0]; exact (Below.refl _ _).alloc (Nat.le_refl _) _
  have hs0 : W0.heap.size = w.heap.size + 1 := by rw [← hW0]; simp
  have hH0 : W0.heap[w.heap.size]? = some (.cells #[] 66 (0, 0)) := by rw [← hW0]; exact heap_alloc_new w _
  have hcell0 : ∀ j u, xs[j]? = some u → W0.cell? (a.add j) = some u := fun j u hu => by
    have h := hcell j u hu
    exact (hb0.cell (World.block_lt_of_cell? w _ h)).trans h
  by_cases h0 : n = 0
  · subst h0
    have hx0 : xs = [] := List.eq_nil_of_length_eq_zero (by simpa using hx)
    subst hx0
    have hrun : ∀ ty, (Builtin.append_ #[25, 25] ty #[.slice (some ⟨w.heap.size, 0, none⟩) 0 0, .slice (some a) 0 c]).run Try.prog W0 = _ := fun ty =>
      run_append_room W0 25 ty 66 i0 Try.underlying25 hi0 w.heap.size 0 0 #[] hH0 a 0 c [] (by simp) (by simp) (by simp) (by simp) (by simp)
    go_enter Try.func50, Try.ntmps50
    go_wp2_with (first | (at_builtin; refine Lib.wpList_append_run _ rfl _ _ _ _ rfl _ _ rfl rfl _ _ (hrun _) ?_))
    go_ret
    refine ⟨_, _, rfl, Nat.le_refl _, ⟨by simp, by simp, .inr ⟨_, _, #[], rfl, ?_, Nat.le_refl _, by simp [maxLen], by simp, by simp⟩⟩, ?_⟩
    · exact setRow_heap W0 _ #[] _ 66 _ hH0
    · exact hb0.trans (Below.grown (Below.refl _ _) (grown_set W0 _ _) (by omega) (fun k e => by simp at e; omega))
  · have hrun : ∀ ty, (Builtin.append_ #[25, 25] ty #[.slice (some ⟨w.heap.size, 0, none⟩) 0 0, .slice (some a) n c]).run Try.prog W0 = _ := fun ty =>
      run_append_grow W0 25 ty 66 i0 _ Try.underlying25 hi0 hz0 ⟨w.heap.size, 0, none⟩ 0 0 [] (by simp) (by simp) a n c xs (by rw [hx, hzs]) hcell0 (by omega) (by omega) (by rw [hzb]; exact growslice_fits (by omega) (by omega))
    have hge := grownCap_ge W0 (0 + n) 0 66
    have hle := grownCap_le_maxLen W0 (0 + n) 0 66 (by simp only [maxLen]; omega)
    obtain ⟨C, hC⟩ : ∃ C, grownCap W0 (0 + n) 0 66 = C := ⟨_, rfl⟩
    rw [hC] at hge hle hrun
    obtain ⟨W1, hW1⟩ : ∃ W1, W0.drew.alloc (.cells (([] : List Value).toArray ++ xs.toArray ++ Builtin.zeroCells (.agg #[.string ⟨#[]⟩, .int .i64 0, .bool false] : Value).cells (C - (0 + n))) 66) = W1 := ⟨_, rfl⟩
    rw [hW1, Nat.zero_add] at hrun
    rw [Nat.zero_add] at hge
    have hz5 : ¬ (n = 0) := h0
    go_enter Try.func50, Try.ntmps50
    go_wp2_with (first | (at_builtin; refine Lib.wpList_append_run _ rfl _ _ _ _ rfl _ _ rfl rfl _ _ (hrun _) ?_))
    go_ret
    refine ⟨_, _, rfl, by omega, ⟨hx, h1, .inr ⟨_, C, _, rfl, by rw [← hW1, show w.heap.size + 1 = W0.drew.heap.size by simp [hs0]]; exact heap_alloc_new W0.drew _, hge, hle, ?_, ?_⟩⟩, ?_⟩
    · simp [size_zeroCells, Value.cells, hx] <;> omega
    · simp only [Array.toList_append, List.nil_append]
      rw [← hx, List.take_left]
    · rw [← hW1]
      exact hb0.trans ((Below.refl _ W0).drew.alloc (by simp; omega) _)
set_option maxHeartbeats 2000000 in
theorem clone51 (w : World) (a : Addr) (n c : Nat) (xs : List Value) (hx : xs.length = n * 1) (hcell : ∀ j u, xs[j]? = some u → w.cell? (a.add j) = some u) (h1 : ∀ u ∈ xs, u.oneCell' = true) (hn : n < 1000000) :
    Calls Try.prog 51 #[.slice (some a) n c] w fun e w' => ∃ k cap, e = .returned (.slice (some ⟨k, 0, none⟩) n cap) ∧ w.heap.size ≤ k ∧ Row w' 9 1 (.slice (some ⟨k, 0, none⟩) n cap) n xs ∧ Below w.heap.size w w' := by
  have mixed : Try.prog.follows Departure.mixedOrders = true := by kernel_rfl
  have q22 : ∀ (w : World) (a : Option Addr) (n c n' c' : Nat), (binOp .eql 26 (.slice a n c) (.slice none n' c')).run Try.prog w = .ok (.bool a.isNone) w := fun w a n c n' c' => Lib.run_eql_slice_nil w _ _ a n c n' c' Try.underlying26
  obtain ⟨i0, hi0, hz0, hzs, hzb⟩ := info_parts txtE_info
  obtain ⟨W0, hW0⟩ : ∃ W0, w.alloc (.cells #[] 9) = W0 := ⟨_, rfl⟩
  have hb0 : Below w.heap.size w W0 := by rw [← hW0]; exact (Below.refl _ _).alloc (Nat.le_refl _) _
  have hs0 : W0.heap.size = w.heap.size + 1 := by rw [← hW0]; simp
  have hH0 : W0.heap[w.heap.size]? = some (.cells #[] 9 (0, 0)) := by rw [← hW0]; exact heap_alloc_new w _
  have hcell0 : ∀ j u, xs[j]? = some u → W0.cell? (a.add j) = some u := fun j u hu => by
    have h := hcell j u hu
    exact (hb0.cell (World.block_lt_of_cell? w _ h)).trans h
  by_cases h0 : n = 0
  · subst h0
    have hx0 : xs = [] := List.eq_nil_of_length_eq_zero (by simpa using hx)
    subst hx0
    have hrun : ∀ ty, (Builtin.append_ #[26, 26] ty #[.slice (some ⟨w.heap.size, 0, none⟩) 0 0, .slice (some a) 0 c]).run Try.prog W0 = _ := fun ty =>
      run_append_room W0 26 ty 9 i0 Try.underlying26 hi0 w.heap.size 0 0 #[] hH0 a 0 c [] (by simp) (by simp) (by simp) (by simp) (by simp)
    go_enter Try.func51, Try.ntmps51
    go_wp2_with (first | (at_builtin; refine Lib.wpList_append_run _ rfl _ _ _ _ rfl _ _ rfl rfl _ _ (hrun _) ?_))
    go_ret
    refine ⟨_, _, rfl, Nat.le_refl _, ⟨by simp, by simp, .inr ⟨_, _, #[], rfl, ?_, Nat.le_refl _, by simp [maxLen], by simp, by simp⟩⟩, ?_⟩
    · exact setRow_heap W0 _ #[] _ 9 _ hH0
    · exact hb0.trans (Below.grown (Below.refl _ _) (grown_set W0 _ _) (by omega) (fun k e => by simp at e; omega))
  · have hrun : ∀ ty, (Builtin.append_ #[26, 26] ty #[.slice (some ⟨w.heap.size, 0, none⟩) 0 0, .slice (some a) n c]).run Try.prog W0 = _ := fun ty =>
      run_append_grow W0 26 ty 9 i0 _ Try.underlying26 hi0 hz0 ⟨w.heap.size, 0, none⟩ 0 0 [] (by simp) (by simp) a n c xs (by rw [hx, hzs]) hcell0 (by omega) (by omega) (by rw [hzb]; exact growslice_fits (by omega) (by omega))
    have hge := grownCap_ge W0 (0 + n) 0 9
    have hle := grownCap_le_maxLen W0 (0 + n) 0 9 (by simp only [maxLen]; omega)
    obtain ⟨C, hC⟩ : ∃ C, grownCap W0 (0 + n) 0 9 = C := ⟨_, rfl⟩
    rw [hC] at hge hle hrun
    obtain ⟨W1, hW1⟩ : ∃ W1, W0.drew.alloc (.cells (([] : List Value).toArray ++ xs.toArray ++ Builtin.zeroCells (.string ⟨#[]⟩ : Value).cells (C - (0 + n))) 9) = W1 := ⟨_, rfl⟩
    rw [hW1, Nat.zero_add] at hrun
    rw [Nat.zero_add] at hge
    have hz5 : ¬ (n = 0) := h0
    go_enter Try.func51, Try.ntmps51
    go_wp2_with (first | (at_builtin; refine Lib.wpList_append_run _ rfl _ _ _ _ rfl _ _ rfl rfl _ _ (hrun _) ?_))
    go_ret
    refine ⟨_, _, rfl, by omega, ⟨hx, h1, .inr ⟨_, C, _, rfl, by rw [← hW1, show w.heap.size + 1 = W0.drew.heap.size by simp [hs0]]; exact heap_alloc_new W0.drew _, hge, hle, ?_, ?_⟩⟩, ?_⟩
    · simp [size_zeroCells, Value.cells, hx] <;> omega
    · simp only [Array.toList_append, List.nil_append]
      rw [← hx, List.take_left]
    · rw [← hW1]
      exact hb0.trans ((Below.refl _ W0).drew.alloc (by simp; omega) _)
end Go.Proofs.Kb
end
section
namespace Go.Proofs.Kb
open Go Go.RowKit Go.Proofs.Ytnojcnmnkkgkgaa.Q Go.Proofs.YtnojcnmnkkgkgaaW.PrintWords Go.Proofs.YtnojcnmnkkgkgaaW.PrintLast Go.Proofs.YtnojcnmnkkgkgaaW.PrintMore
set_option linter.unusedVariables false
set_option linter.unusedSimpArgs false
set_option maxRecDepth 100000
theorem clone34_none (w : World) (n c : Nat) : Calls Try.prog 34 #[.slice none n c] w fun e w' => e = .returned (.slice none 0 0) ∧ w' = w := by
  have q22 : ∀ (w : World) (a : Option Addr) (n c n' c' : Nat), (binOp .eql 45 (.slice a n c) (.slice none n' c')).run Try.prog w = .ok (.bool a.isNone) w := fun w a n c n' c' => Lib.run_eql_slice_nil w _ _ a n c n' c' Try.underlying45
  go_enter Try.func34, Try.ntmps34
  go_wp2
  go_ret
  exact ⟨rfl, rfl⟩
theorem cloneX34 (w : World) (v : Value) (l : List S60) (h : Src valE w v l) (hn : l.length < 1000000) :
    Calls Try.prog 34 #[v] w fun e w' => ∃ v', e = .returned v' ∧ RowX valE w' v' l ∧ Below w.heap.size w w' ∧ ∀ b ∈ bl v', w.heap.size ≤ b := by
  obtain ⟨A, c, rfl, h1, h2⟩ := h
  cases A with
  | none =>
    rw [h1 rfl]
    exact (clone34_none w _ c).mono fun e w' ⟨he, hw⟩ => ⟨_, he, by rw [hw]; exact RowX.nil, by rw [hw]; exact Below.refl _ _, fun b hb => by simp [bl, Value.ownBlock] at hb⟩
  | some a =>
    refine (clone34 w a l.length c (valE.all l) (valE.all_len l) (h2 a rfl) (valE.all_one l) hn).mono fun e w' ⟨k, cap, he, hk, hR, hb⟩ => ⟨_, he, hR, hb, fun b hb => ?_⟩
    rw [bl_slice] at hb
    simp at hb
    omega
theorem clone47_none (w : World) (n c : Nat) : Calls Try.prog 47 #[.slice none n c] w fun e w' => e = .returned (.slice none 0 0) ∧ w' = w := by
  have q22 : ∀ (w : World) (a : Option Addr) (n c n' c' : Nat), (binOp .eql 22 (.slice a n c) (.slice none n' c')).run Try.prog w = .ok (.bool a.isNone) w := fun w a n c n' c' => Lib.run_eql_slice_nil w _ _ a n c n' c' Try.underlying22
  go_enter Try.func47, Try.ntmps47
  go_wp2
  go_ret
  exact ⟨rfl, rfl⟩
theorem cloneX47 (w : World) (v : Value) (l : List S60) (h : Src valE w v l) (hn : l.length < 1000000) :
    Calls Try.prog 47 #[v] w fun e w' => ∃ v', e = .returned v' ∧ RowX valE w' v' l ∧ Below w.heap.size w w' ∧ ∀ b ∈ bl v', w.heap.size ≤ b := by
  obtain ⟨A, c, rfl, h1, h2⟩ := h
  cases A with
  | none =>
    rw [h1 rfl]
    exact (clone47_none w _ c).mono fun e w' ⟨he, hw⟩ => ⟨_, he, by rw [hw]; exact RowX.nil, by rw [hw]; exact Below.refl _ _, fun b hb => by simp [bl, Value.ownBlock] at hb⟩
  | some a =>
    refine (clone47 w a l.length c (valE.all l) (valE.all_len l) (h2 a rfl) (valE.all_one l) hn).mono fun e w' ⟨k, cap, he, hk, hR, hb⟩ => ⟨_, he, hR, hb, fun b hb => ?_⟩
    rw [bl_slice] at hb
    simp at hb
    omega
theorem clone48_none (w : World) (n c : Nat) : Calls Try.prog 48 #[.slice none n c] w fun e w' => e = .returned (.slice none 0 0) ∧ w' = w := by
  have q22 : ∀ (w : World) (a : Option Addr) (n c n' c' : Nat), (binOp .eql 23 (.slice a n c) (.slice none n' c')).run Try.prog w = .ok (.bool a.isNone) w := fun w a n c n' c' => Lib.run_eql_slice_nil w _ _ a n c n' c' Try.underlying23
  go_enter Try.func48, Try.ntmps48
  go_wp2
  go_ret
  exact ⟨rfl, rfl⟩
theorem cloneX48 (w : World) (v : Value) (l : List S62) (h : Src setE w v l) (hn : l.length < 1000000) :
    Calls Try.prog 48 #[v] w fun e w' => ∃ v', e = .returned v' ∧ RowX setE w' v' l ∧ Below w.heap.size w w' ∧ ∀ b ∈ bl v', w.heap.size ≤ b := by
  obtain ⟨A, c, rfl, h1, h2⟩ := h
  cases A with
  | none =>
    rw [h1 rfl]
    exact (clone48_none w _ c).mono fun e w' ⟨he, hw⟩ => ⟨_, he, by rw [hw]; exact RowX.nil, by rw [hw]; exact Below.refl _ _, fun b hb => by simp [bl, Value.ownBlock] at hb⟩
  | some a =>
    refine (clone48 w a l.length c (setE.all l) (setE.all_len l) (h2 a rfl) (setE.all_one l) hn).mono fun e w' ⟨k, cap, he, hk, hR, hb⟩ => ⟨_, he, hR, hb, fun b hb => ?_⟩
    rw [bl_slice] at hb
    simp at hb
    omega
theorem clone49_none (w : World) (n c : Nat) : Calls Try.prog 49 #[.slice none n c] w fun e w' => e = .returned (.slice none 0 0) ∧ w' = w := by
  have q22 : ∀ (w : World) (a : Option Addr) (n c n' c' : Nat), (binOp .eql 24 (.slice a n c) (.slice none n' c')).run Try.prog w = .ok (.bool a.isNone) w := fun w a n c n' c' => Lib.run_eql_slice_nil w _ _ a n c n' c' Try.underlying24
  go_enter Try.func49, Try.ntmps49
  go_wp2
  go_ret
  exact ⟨rfl, rfl⟩
theorem cloneX49 (w : World) (v : Value) (l : List S64) (h : Src cndE w v l) (hn : l.length < 1000000) :
    Calls Try.prog 49 #[v] w fun e w' => ∃ v', e = .returned v' ∧ RowX cndE w' v' l ∧ Below w.heap.size w w' ∧ ∀ b ∈ bl v', w.heap.size ≤ b := by
  obtain ⟨A, c, rfl, h1, h2⟩ := h
  cases A with
  | none =>
    rw [h1 rfl]
    exact (clone49_none w _ c).mono fun e w' ⟨he, hw⟩ => ⟨_, he, by rw [hw]; exact RowX.nil, by rw [hw]; exact Below.refl _ _, fun b hb => by simp [bl, Value.ownBlock] at hb⟩
  | some a =>
    refine (clone49 w a l.length c (cndE.all l) (cndE.all_len l) (h2 a rfl) (cndE.all_one l) hn).mono fun e w' ⟨k, cap, he, hk, hR, hb⟩ => ⟨_, he, hR, hb, fun b hb => ?_⟩
    rw [bl_slice] at hb
    simp at hb
    omega
theorem clone50_none (w : World) (n c : Nat) : Calls Try.prog 50 #[.slice none n c] w fun e w' => e = .returned (.slice none 0 0) ∧ w' = w := by
  have q22 : ∀ (w : World) (a : Option Addr) (n c n' c' : Nat), (binOp .eql 25 (.slice a n c) (.slice none n' c')).run Try.prog w = .ok (.bool a.isNone) w := fun w a n c n' c' => Lib.run_eql_slice_nil w _ _ a n c n' c' Try.underlying25
  go_enter Try.func50, Try.ntmps50
  go_wp2
  go_ret
  exact ⟨rfl, rfl⟩
theorem cloneX50 (w : World) (v : Value) (l : List S66) (h : Src colE w v l) (hn : l.length < 1000000) :
    Calls Try.prog 50 #[v] w fun e w' => ∃ v', e = .returned v' ∧ RowX colE w' v' l ∧ Below w.heap.size w w' ∧ ∀ b ∈ bl v', w.heap.size ≤ b := by
  obtain ⟨A, c, rfl, h1, h2⟩ := h
  cases A with
  | none =>
    rw [h1 rfl]
    exact (clone50_none w _ c).mono fun e w' ⟨he, hw⟩ => ⟨_, he, by rw [hw]; exact RowX.nil, by rw [hw]; exact Below.refl _ _, fun b hb => by simp [bl, Value.ownBlock] at hb⟩
  | some a =>
    refine (clone50 w a l.length c (colE.all l) (colE.all_len l) (h2 a rfl) (colE.all_one l) hn).mono fun e w' ⟨k, cap, he, hk, hR, hb⟩ => ⟨_, he, hR, hb, fun b hb => ?_⟩
    rw [bl_slice] at hb
    simp at hb
    omega
theorem clone51_none (w : World) (n c : Nat) : Calls Try.prog 51 #[.slice none n c] w fun e w' => e = .returned (.slice none 0 0) ∧ w' = w := by
  have q22 : ∀ (w : World) (a : Option Addr) (n c n' c' : Nat), (binOp .eql 26 (.slice a n c) (.slice none n' c')).run Try.prog w = .ok (.bool a.isNone) w := fun w a n c n' c' => Lib.run_eql_slice_nil w _ _ a n c n' c' Try.underlying26
  go_enter Try.func51, Try.ntmps51
  go_wp2
  go_ret
  exact ⟨rfl, rfl⟩
theorem cloneX51 (w : World) (v : Value) (l : List ByteArray) (h : Src txtE w v l) (hn : l.length < 1000000) :
    Calls Try.prog 51 #[v] w fun e w' => ∃ v', e = .returned v' ∧ RowX txtE w' v' l ∧ Below w.heap.size w w' ∧ ∀ b ∈ bl v', w.heap.size ≤ b := by
  obtain ⟨A, c, rfl, h1, h2⟩ := h
  cases A with
  | none =>
    rw [h1 rfl]
    exact (clone51_none w _ c).mono fun e w' ⟨he, hw⟩ => ⟨_, he, by rw [hw]; exact RowX.nil, by rw [hw]; exact Below.refl _ _, fun b hb => by simp [bl, Value.ownBlock] at hb⟩
  | some a =>
    refine (clone51 w a l.length c (txtE.all l) (txtE.all_len l) (h2 a rfl) (txtE.all_one l) hn).mono fun e w' ⟨k, cap, he, hk, hR, hb⟩ => ⟨_, he, hR, hb, fun b hb => ?_⟩
    rw [bl_slice] at hb
    simp at hb
    omega
end Go.Proofs.Kb
end
section
namespace Go.Proofs.Ytnojcnmnkkgkgaa.Q
open Go.RowKit Go.Proofs.YtnojcnmnkkgkgaaW.PrintWords Go.Proofs.YtnojcnmnkkgkgaaW.PrintLast Go.Proofs.YtnojcnmnkkgkgaaW.PrintMore
attribute [local go_sem] max2_int min2_int max_two min_two max_three min_three max_four min_four
set_option linter.unusedVariables false
set_option linter.unusedSimpArgs false
def interlockref22_errno.f (a0 : Int) : Option (Int) := if (Go.bits .and .i64 a0 3) = 3 then (some 12) else (some 0)
set_option maxHeartbeats 8000000 in
set_option maxRecDepth 100000 in
theorem interlockref22_errno.calls (a0 : Int) (r : Int) (w : World) (h : interlockref22_errno.f a0 = some r) :
    Calls Try.prog 60 #[.int .i64 a0] w fun e w' => e = .returned (.int .i64 r) ∧ Drawn0 w w' := by
  have H : (if (Go.bits .and .i64 a0 3) = 3 then (some 12) else (some 0)) = some r := h
  clear h
  by_cases c2 : (Go.bits .and .i64 a0 3) = 3
  · rw [if_pos c2] at H
    have c2b0 : ((Go.bits .and .i64 a0 3) == 3) = true := beq_iff_eq.mpr c2
    have c2b1 : ((Go.bits .and .i64 a0 3) != 3) = false := bne_eq_false_iff_eq.mpr c2
    clear c2
    obtain rfl := Option.some.inj H
    go_enter Try.func60, Try.ntmps60
    go_wp2
    go_ret
    exact ⟨by first | rfl | (simp; done) | (simp [*]; done), by repeat (first | exact Drawn0.refl _ | apply Drawn0.step)⟩
  · rw [if_neg c2] at H
    have c2b0 : ((Go.bits .and .i64 a0 3) == 3) = false := beq_eq_false_iff_ne.mpr c2
    have c2b1 : ((Go.bits .and .i64 a0 3) != 3) = true := bne_iff_ne.mpr c2
    obtain rfl := Option.some.inj H
    go_enter Try.func60, Try.ntmps60
    go_wp2
    go_ret
    exact ⟨by first | rfl | (simp; done) | (simp [*]; done), by repeat (first | exact Drawn0.refl _ | apply Drawn0.step)⟩
end Go.Proofs.Ytnojcnmnkkgkgaa.Q
end
section
namespace Go.Proofs.Kb
open Go Go.RowKit Go.Proofs.Ytnojcnmnkkgkgaa.Q Go.Proofs.YtnojcnmnkkgkgaaW.PrintWords Go.Proofs.YtnojcnmnkkgkgaaW.PrintLast Go.Proofs.YtnojcnmnkkgkgaaW.PrintMore
set_option linter.unusedVariables false
set_option linter.unusedSimpArgs false
set_option maxRecDepth 100000
noncomputable def txtI : InfoX Try.prog txtE 26 := Classical.choice (infoX_of Try.underlying26 txtE_info (by simp [Value.cells, txtE]) (by decide) (by decide))
noncomputable def wntI : InfoX Try.prog wntE 91 := Classical.choice (infoX_of Try.underlying91 wntE_info (by simp [Value.cells, wntE]) (by decide) (by decide))
theorem St.putBlk {w0 w : World} {F : Nat → Prop} {cs : List Chunk} {b : Nat} {C C' : Array Value} {t : TypeId} (s : St w0 F w cs) (i : Nat) (hi : cs[i]? = some (blkC b (.cells C t (0, 0)))) (j : Nat) (v : Value) (e : C.setIfInBounds j v = C') :
    St w0 F (w.setCell ⟨b, j, none⟩ v) (cs.set i (blkC b (.cells C' t (0, 0)))) :=
  s.upd i hi (blkC b (.cells C' t (0, 0))) (keep_set w b j _ _ (by simp [blkC])) (blk_put (s.blk i hi) j v e) (nd_one b) (fun x hx => .inl hx)
def Ans (w : World) (v : Value) (l : List Int) : Prop := (v = .slice none 0 0 ∧ l = []) ∨ ∃ g o c C t, v = .slice (some ⟨g, o, none⟩) l.length c ∧ l.length ≤ c ∧ w.heap[g]? = some (.cells C t (0, 0)) ∧ ∀ j x, l[j]? = some x → C[o + j]? = some (.int .i64 x)
def ab : Value → List Nat
  | .slice (some a) _ _ => [a.block]
  | _ => []
def ansC (v : Value) (l : List Int) : Chunk := ⟨fun w => Ans w v l, ab v, fun h b hb => by
  rcases h with ⟨rfl, _⟩ | ⟨g, o, c, C, t, rfl, _, hg, _⟩
  · simp [ab] at hb
  · simp [ab] at hb
    subst hb
    exact lt_of_some hg, fun h hm => by
  rcases h with h | ⟨g, o, c, C, t, rfl, hc, hg, hx⟩
  · exact .inl h
  · exact .inr ⟨g, o, c, C, t, rfl, hc, (hm g (by simp [ab])).trans hg, hx⟩⟩
theorem Ans.none_ {w : World} {v : Value} (h : Ans w v []) : ∃ A c, v = .slice A 0 c := by
  rcases h with ⟨rfl, _⟩ | ⟨g, o, c, C, t, rfl, _⟩
  · exact ⟨_, _, rfl⟩
  · exact ⟨_, _, rfl⟩
theorem Ans.cons_ {w : World} {v : Value} {x : Int} {l : List Int} (h : Ans w v (x :: l)) : ∃ g o c, v = .slice (some ⟨g, o, none⟩) (l.length + 1) (c + 1) ∧ l.length ≤ c ∧ w.cell? ⟨g, o, none⟩ = some (.int .i64 x) ∧ g < w.heap.size ∧
    Ans w (.slice (if c = 0 then some ⟨g, o, none⟩ else some ⟨g, o + 1, none⟩) l.length c) l := by
  rcases h with ⟨_, h⟩ | ⟨g, o, c, C, t, rfl, hc, hg, hx⟩
  · cases h
  · simp only [List.length_cons] at hc
    obtain ⟨c, rfl⟩ : ∃ k, c = k + 1 := ⟨c - 1, by omega⟩
    refine ⟨g, o, c, rfl, by omega, ?_, lt_of_some hg, ?_⟩
    · rw [blk_cell hg]
      exact hx 0 x rfl
    · by_cases h0 : c = 0
      · rw [if_pos h0]
        refine .inr ⟨g, o, c, C, t, rfl, by omega, hg, fun j y hy => ?_⟩
        have := (List.getElem?_eq_some_iff.1 hy).1
        omega
      · rw [if_neg h0]
        refine .inr ⟨g, o + 1, c, C, t, rfl, by omega, hg, fun j y hy => ?_⟩
        have := hx (j + 1) y hy
        rwa [show o + 1 + j = o + (j + 1) by omega]
theorem RowX.ans {w : World} {v : Value} {l : List Int} (h : RowX intE w v l) : Ans w v l := by
  rcases h.2.2 with ⟨rfl, h0⟩ | ⟨g, cap, cur, rfl, hg, hn, hm, hs, ht⟩
  · exact .inl ⟨rfl, List.eq_nil_of_length_eq_zero h0⟩
  · refine .inr ⟨g, 0, cap, cur, 3, rfl, hn, hg, fun j x hx => ?_⟩
    have h1 : (intE.all l)[j]? = some (.int .i64 x) := by
      have := intE.all_get hx (j := 0) (by decide)
      rw [show j * intE.sz + 0 = j from Nat.mul_one j] at this
      exact this.trans rfl
    rw [← ht, List.getElem?_take_of_lt (by have := (List.getElem?_eq_some_iff.1 hx).1; show j < l.length * 1; omega)] at h1
    rw [Nat.zero_add]
    simpa using h1
theorem ab_bl {v : Value} : ∀ b ∈ ab v, b ∈ bl v := by
  intro b hb
  unfold ab at hb
  split at hb
  · simp at hb
    subst hb
    simp [bl, Value.ownBlock]
  · simp at hb
def tpV (tp : Nat) : Value := .pointer (some ⟨tp, 0, none⟩)
def TL (w0 : World) (F : Nat → Prop) (tp : Nat) (ans : List Int) (txt : List ByteArray) (held : Int) (R : List Chunk) (W : World) : Prop :=
  ∃ av kv, St w0 F W (ansC av ans :: blkC tp (.cells #[av, kv, .int .i64 held] 36 (0, 0)) :: rowXC txtE kv txt :: R)
section
variable {w0 w w' : World} {F : Nat → Prop} {tp : Nat} {ans : List Int} {txt : List ByteArray} {held : Int} {R R' : List Chunk}
theorem TL.below (h : TL w0 F tp ans txt held R w) (hb : Below w.heap.size w w') : TL w0 F tp ans txt held R w' := by
  obtain ⟨av, kv, h⟩ := h
  exact ⟨av, kv, h.below hb⟩
theorem TL.drew (h : TL w0 F tp ans txt held R w) : TL w0 F tp ans txt held R w.drew := by
  obtain ⟨av, kv, h⟩ := h
  exact ⟨av, kv, h.drew⟩
theorem TL.rest (h : TL w0 F tp ans txt held R w) : St w0 F w R := by
  obtain ⟨av, kv, h⟩ := h
  exact St.drop (A := [_, _, _]) h
theorem TL.perm (h : TL w0 F tp ans txt held R w) (hp : R.Perm R') : TL w0 F tp ans txt held R' w := by
  obtain ⟨av, kv, h⟩ := h
  exact ⟨av, kv, h.perm (((hp.cons _).cons _).cons _)⟩
theorem TL.sub (h : TL w0 F tp ans txt held R w) (f : ∀ cs : List Chunk, St w0 F w (R ++ cs) → St w0 F w' (R' ++ cs)) : TL w0 F tp ans txt held R' w' := by
  obtain ⟨av, kv, h⟩ := h
  exact ⟨av, kv, (f [_, _, _] (h.perm (List.perm_append_comm (l₁ := [_, _, _]) (l₂ := R)))).perm (List.perm_append_comm (l₁ := R') (l₂ := [_, _, _]))⟩
theorem TL.drop (h : TL w0 F tp ans txt held (R ++ R') w) : TL w0 F tp ans txt held R' w :=
  h.sub fun cs hs => by rw [List.append_assoc] at hs; exact hs.drop
theorem TL.alloc (h : TL w0 F tp ans txt held R w) (C : Array Value) (T : TypeId) {n : Nat} (hn : w.heap.size = n) : TL w0 F tp ans txt held (R ++ [blkC n (.cells C T (0, 0))]) (w.alloc (.cells C T)) := by
  obtain ⟨av, kv, h⟩ := h
  exact ⟨av, kv, h.alloc C T hn⟩
end
set_option maxHeartbeats 2000000 in
theorem next_calls (w0 w : World) (F : Nat → Prop) (tp : Nat) (ans : List Int) (txt : List ByteArray) (held : Int) (R : List Chunk) (h : TL w0 F tp ans txt held R w) :
    Calls Try.prog 59 #[tpV tp] w fun E w' => E = .returned (.int .i64 (ans.headD 0)) ∧ TL w0 F tp ans.tail txt held R w' := by
  have hu31 := Try.underlying31
  have hu36 := Try.underlying36
  obtain ⟨av, kv, h⟩ := h
  have hb := h.blk 1 rfl
  have c0 : w.cell? ⟨tp, 0, none⟩ = some av := (blk_cell hb 0).trans rfl
  have pl := lt_of_some hb
  have fz := fun j => frozen_of_row w tp j _ _ hb
  unfold tpV
  cases ans with
  | nil =>
    obtain ⟨A, c, rfl⟩ := Ans.none_ (h.get 0 rfl)
    have HS := Aside0.mk h
    clear h hb
    go_enter Try.func59, Try.ntmps59
    go_wp2
    go_ret
    exact ⟨rfl, _, _, HS.out⟩
  | cons x l =>
    obtain ⟨g, o, c, rfl, hc, hcell, hg, ha⟩ := Ans.cons_ (h.get 0 rfl)
    obtain ⟨A2, hA2⟩ : ∃ A, (if c = 0 then some ⟨g, o, none⟩ else some ⟨g, o + 1, none⟩ : Option Addr) = A := ⟨_, rfl⟩
    rw [hA2] at ha
    have h2 : St w0 F w (ansC (.slice A2 l.length c) l :: blkC tp (.cells #[.slice (some ⟨g, o, none⟩) (l.length + 1) (c + 1), kv, .int .i64 held] 36 (0, 0)) :: rowXC txtE kv txt :: R) :=
      St.tell (A := [_]) (B := [_]) h (fun _ y hy => by
        obtain rfl := List.mem_singleton.1 hy
        exact ha) (fun b => by
        have e : ab (.slice A2 l.length c) = [g] := by
          rw [← hA2]
          split <;> rfl
        show ((ab (.slice A2 l.length c)) ++ []).count b ≤ _
        rw [e]
        exact Nat.le_refl _)
    have h3 := h2.putBlk 1 rfl 0 (.slice A2 l.length c) rfl
    have HS := Aside0.mk h3
    have HL : (l.length + 1 : Nat) ≠ 0 := by omega
    clear h h2 h3 hb ha
    by_cases h0 : c = 0
    · subst h0
      obtain rfl : l = [] := List.eq_nil_of_length_eq_zero (by omega)
      rw [if_pos rfl] at hA2
      subst hA2
      go_enter Try.func59, Try.ntmps59
      go_wp2
      go_ret
      exact ⟨rfl, _, _, HS.out⟩
    · rw [if_neg h0] at hA2
      subst hA2
      go_enter Try.func59, Try.ntmps59
      go_wp2
      go_ret
      exact ⟨rfl, _, _, HS.out⟩
end Go.Proofs.Kb
end
section
namespace Go.Proofs.Kb
open Go Go.RowKit Go.Proofs.Ytnojcnmnkkgkgaa.Q Go.Proofs.YtnojcnmnkkgkgaaW.PrintWords Go.Proofs.YtnojcnmnkkgkgaaW.PrintLast Go.Proofs.YtnojcnmnkkgkgaaW.PrintMore
set_option linter.unusedVariables false
set_option linter.unusedSimpArgs false
set_option maxRecDepth 100000
section
variable {w0 w : World} {F : Nat → Prop} {tp : Nat} {ans : List Int} {txt : List ByteArray} {held : Int} {R : List Chunk}
set_option maxHeartbeats 2000000 in
theorem note_calls (h : TL w0 F tp ans txt held R w) (s : ByteArray) (hn : txt.length < 999999) :
    Calls Try.prog 58 #[tpV tp, .string s] w fun E w' => E = .returned (.tuple #[]) ∧ TL w0 F tp ans (txt ++ [s]) held R w' := by
  have hu26 := Try.underlying26
  have hu36 := Try.underlying36
  obtain ⟨av, kv, h⟩ := h
  have hb := h.blk 1 rfl
  have c1 : w.cell? ⟨tp, 1, none⟩ = some kv := (blk_cell hb 1).trans rfl
  have pl := lt_of_some hb
  obtain ⟨n9, hn9⟩ : ∃ n, w.heap.size = n := ⟨_, rfl⟩
  have h9 := h.alloc #[.string s] 9 hn9
  obtain ⟨W9, hW9⟩ : ∃ W, w.alloc (.cells #[.string s] 9) = W := ⟨_, rfl⟩
  rw [hW9] at h9
  have h9p := h9.perm (B := ansC av ans :: blkC tp (.cells #[av, kv, .int .i64 held] 36 (0, 0)) :: rowXC txtE kv txt :: blkC n9 (.cells #[.string s] 9 (0, 0)) :: R) ((((List.perm_append_comm (l₁ := R) (l₂ := [_])).cons _).cons _).cons _)
  obtain ⟨g2, c2, w6, hrun, hrow, hgrow, hown⟩ := appendX txtI (l := txt) (v := kv) s n9 #[.string s] 26 (h9p.rowX 2 rfl) (h9p.blk 3 rfl) rfl hn
  have h6 := h9p.rowTo 2 rfl hrow hgrow hown
  have h7 := h6.putBlk 1 rfl 1 (.slice (some ⟨g2, 0, none⟩) (txt.length + 1) c2) rfl
  have hb6 := h6.blk 1 rfl
  have pl6 := lt_of_some hb6
  have c6 : w6.cell? ⟨tp, 1, none⟩ = some kv := (blk_cell hb6 1).trans rfl
  have fz := fun j => frozen_of_row w6 tp j _ _ hb6
  have HS := Aside0.mk h7
  unfold tpV
  clear h h9 h9p hrow hgrow hown h6 h7 hb hb6
  go_enter Try.func58, Try.ntmps58
  go_wp2_with (at_builtin; refine wpList_append_run rfl (.tmp 8) (.tmp 10) 26 26 rfl _ _ rfl rfl hrun ?_)
  go_end0
  have h8 : St w0 F _ ([ansC av ans, blkC tp _, rowXC txtE _ _] ++ (blkC n9 _ :: R)) := HS.out
  exact ⟨rfl, av, _, (h8.perm (B := blkC n9 _ :: ([ansC av ans, blkC tp _, rowXC txtE _ _] ++ R)) (List.perm_middle)).drop (A := [_])⟩
end
end Go.Proofs.Kb
end
section
namespace Go.Proofs.Kb
open Go Go.RowKit Go.Proofs.Ytnojcnmnkkgkgaa.Q Go.Proofs.YtnojcnmnkkgkgaaW.PrintWords Go.Proofs.YtnojcnmnkkgkgaaW.PrintLast Go.Proofs.YtnojcnmnkkgkgaaW.PrintMore
set_option linter.unusedVariables false
set_option linter.unusedSimpArgs false
set_option maxRecDepth 100000
def errN (x : Int) : Int := if bits .and .i64 x 3 = 3 then 12 else 0
theorem errno_calls (a : Int) (w : World) : Calls Try.prog 60 #[.int .i64 a] w fun E w' => E = .returned (.int .i64 (errN a)) ∧ Below w.heap.size w w' :=
  (interlockref22_errno.calls a (errN a) w (by unfold interlockref22_errno.f errN; split <;> rfl)).mono fun E w' ⟨e, h⟩ => ⟨e, h.below⟩
section
variable {w0 w : World} {F : Nat → Prop} {tp : Nat} {ans : List Int} {txt : List ByteArray} {held : Int} {R : List Chunk}
set_option maxHeartbeats 2000000
theorem free_calls (h : TL w0 F tp ans txt held R w) (hn : txt.length < 999999) (hh : -1000000 ≤ held ∧ held ≤ 1000000) :
    Calls Try.prog 40 #[tpV tp] w fun E w' => E = .returned (.tuple #[]) ∧ TL w0 F tp ans (txt ++ [(⟨#[102, 114, 101, 101]⟩ : ByteArray)]) (held - 1) R w' := by
  have hu36 := Try.underlying36
  have HS := Aside0.mk h
  clear h
  unfold tpV
  go_enter Try.func40, Try.ntmps40
  go_wp2_with (go_at_call 58; refine (note_calls HS.out (⟨#[102, 114, 101, 101]⟩ : ByteArray) hn).mono ?_; rintro E w1 ⟨rfl, av, kv, h⟩; have hb := h.blk 1 rfl; have c2 : w1.cell? ⟨tp, 2, none⟩ = some (.int .i64 held) := ((blk_cell hb 2).trans rfl); have pl := lt_of_some hb; have fz := (fun j => frozen_of_row w1 tp j _ _ hb); have HS1 := Aside0.mk (h.putBlk 1 rfl 2 (.int .i64 (held - 1)) rfl); clear h HS hb)
  go_end0
  exact ⟨rfl, _, _, HS1.out⟩
theorem freeD_calls (h : TL w0 F tp ans txt held R w) (hn : txt.length < 999999) (hh : -1000000 ≤ held ∧ held ≤ 1000000) (u : FrameMode) :
    CallsD Try.prog 40 #[tpV tp] u w fun E u' w' => u' = u ∧ (E = .returned (.tuple #[]) ∧ TL w0 F tp ans (txt ++ [(⟨#[102, 114, 101, 101]⟩ : ByteArray)]) (held - 1) R w') := by
  have hu36 := Try.underlying36
  have HS := Aside0.mk h
  clear h
  unfold tpV
  go_enter_d Try.func40, Try.ntmps40
  go_wp2_with (go_at_call 58; refine (note_calls HS.out (⟨#[102, 114, 101, 101]⟩ : ByteArray) hn).mono ?_; rintro E w1 ⟨rfl, av, kv, h⟩; have hb := h.blk 1 rfl; have c2 : w1.cell? ⟨tp, 2, none⟩ = some (.int .i64 held) := ((blk_cell hb 2).trans rfl); have pl := lt_of_some hb; have fz := (fun j => frozen_of_row w1 tp j _ _ hb); have HS1 := Aside0.mk (h.putBlk 1 rfl 2 (.int .i64 (held - 1)) rfl); clear h HS hb)
  go_end0
  exact ⟨rfl, _, _, HS1.out⟩
theorem elder_calls (h : TL w0 F tp ans txt held R w) (hn : txt.length < 999999) :
    Calls Try.prog 41 #[tpV tp] w fun E w' => E = .returned (.bool (bits .and .i64 (ans.headD 0) 1 == 1)) ∧ TL w0 F tp ans.tail (txt ++ [(⟨#[101, 108, 100, 101, 114]⟩ : ByteArray)]) held R w' := by
  have HS := Aside0.mk h
  obtain ⟨x, hx⟩ : ∃ x, ans.headD 0 = x := ⟨_, rfl⟩
  have HX := Aside0.mk hx
  rw [hx]
  clear h hx
  unfold tpV
  go_enter Try.func41, Try.ntmps41
  go_wp2_with (first
    | (go_at_call 58; refine (note_calls HS.out (⟨#[101, 108, 100, 101, 114]⟩ : ByteArray) hn).mono ?_; rintro E w1 ⟨rfl, h⟩; have HS1 := Aside0.mk h; clear h HS)
    | (go_at_call 59; refine (next_calls _ _ _ _ _ _ _ _ HS1.out).mono ?_; rintro E w2 ⟨rfl, h⟩; rw [HX.out]; have HS2 := Aside0.mk h; clear h HS1))
  go_ret
  exact ⟨rfl, HS2.out⟩
theorem token_calls (h : TL w0 F tp ans txt held R w) (hn : txt.length < 999999) :
    Calls Try.prog 42 #[tpV tp] w fun E w' => E = .returned (.bool (bits .and .i64 (ans.headD 0) 1 == 1)) ∧ TL w0 F tp ans.tail (txt ++ [(⟨#[116, 111, 107, 101, 110]⟩ : ByteArray)]) held R w' := by
  have HS := Aside0.mk h
  obtain ⟨x, hx⟩ : ∃ x, ans.headD 0 = x := ⟨_, rfl⟩
  have HX := Aside0.mk hx
  rw [hx]
  clear h hx
  unfold tpV
  go_enter Try.func42, Try.ntmps42
  go_wp2_with (first
    | (go_at_call 58; refine (note_calls HS.out (⟨#[116, 111, 107, 101, 110]⟩ : ByteArray) hn).mono ?_; rintro E w1 ⟨rfl, h⟩; have HS1 := Aside0.mk h; clear h HS)
    | (go_at_call 59; refine (next_calls _ _ _ _ _ _ _ _ HS1.out).mono ?_; rintro E w2 ⟨rfl, h⟩; rw [HX.out]; have HS2 := Aside0.mk h; clear h HS1))
  go_ret
  exact ⟨rfl, HS2.out⟩
theorem settle_calls (h : TL w0 F tp ans txt held R w) (hn : txt.length < 999999) (s : ByteArray) (hs : s.size ≤ 1000) :
    Calls Try.prog 44 #[tpV tp, .string s] w fun E w' => E = .returned (.int .i64 (errN (ans.headD 0))) ∧ TL w0 F tp ans.tail (txt ++ [(⟨#[115, 101, 116, 116, 108, 101, 32]⟩ : ByteArray) ++ s]) held R w' := by
  have HS := Aside0.mk h
  obtain ⟨x, hx⟩ : ∃ x, ans.headD 0 = x := ⟨_, rfl⟩
  have HX := Aside0.mk hx
  have hsz : ¬ ((⟨#[115, 101, 116, 116, 108, 101, 32]⟩ : ByteArray).size + s.size > 9223372036854775807) := by rw [show (⟨#[115, 101, 116, 116, 108, 101, 32]⟩ : ByteArray).size = 7 by rfl]; omega
  rw [hx]
  clear h hx
  unfold tpV
  go_enter Try.func44, Try.ntmps44
  go_wp2_with (first
    | (go_at_call 58; refine (note_calls HS.out _ hn).mono ?_; rintro E w1 ⟨rfl, h⟩; have HS1 := Aside0.mk h; clear h HS)
    | (go_at_call 59; refine (next_calls _ _ _ _ _ _ _ _ HS1.out).mono ?_; rintro E w2 ⟨rfl, h⟩; rw [HX.out]; have HS2 := Aside0.mk h; clear h HS1)
    | (go_at_call 60; refine (errno_calls _ _).mono ?_; rintro E w3 ⟨rfl, hb⟩; have HS3 := Aside0.mk (HS2.out.below hb); clear hb HS2))
  go_ret
  exact ⟨rfl, HS3.out⟩
theorem abandon_calls (h : TL w0 F tp ans txt held R w) (hn : txt.length < 999999) (s : ByteArray) (hs : s.size ≤ 1000) :
    Calls Try.prog 45 #[tpV tp, .string s] w fun E w' => E = .returned (.bool (!(bits .and .i64 (ans.headD 0) 3 == 3))) ∧ TL w0 F tp ans.tail (txt ++ [(⟨#[97, 98, 97, 110, 100, 111, 110, 32]⟩ : ByteArray) ++ s]) held R w' := by
  have HS := Aside0.mk h
  obtain ⟨x, hx⟩ : ∃ x, ans.headD 0 = x := ⟨_, rfl⟩
  have HX := Aside0.mk hx
  have hsz : ¬ ((⟨#[97, 98, 97, 110, 100, 111, 110, 32]⟩ : ByteArray).size + s.size > 9223372036854775807) := by rw [show (⟨#[97, 98, 97, 110, 100, 111, 110, 32]⟩ : ByteArray).size = 8 by rfl]; omega
  rw [hx]
  clear h hx
  unfold tpV
  go_enter Try.func45, Try.ntmps45
  go_wp2_with (first
    | (go_at_call 58; refine (note_calls HS.out _ hn).mono ?_; rintro E w1 ⟨rfl, h⟩; have HS1 := Aside0.mk h; clear h HS)
    | (go_at_call 59; refine (next_calls _ _ _ _ _ _ _ _ HS1.out).mono ?_; rintro E w2 ⟨rfl, h⟩; rw [HX.out]; have HS2 := Aside0.mk h; clear h HS1))
  go_ret
  exact ⟨rfl, HS2.out⟩
end
end Go.Proofs.Kb
end
section
namespace Go.Proofs.Kb
open Go Go.RowKit Go.Proofs.Ytnojcnmnkkgkgaa.Q Go.Proofs.YtnojcnmnkkgkgaaW.PrintWords Go.Proofs.YtnojcnmnkkgkgaaW.PrintLast Go.Proofs.YtnojcnmnkkgkgaaW.PrintMore
set_option linter.unusedVariables false
set_option linter.unusedSimpArgs false
set_option maxRecDepth 100000
structure Sl where
  A : Option Addr
  n : Nat
  c : Nat
def Sl.v (s : Sl) : Value := .slice s.A s.n s.c
structure SV where
  f0 : Int
  f1 : ByteArray
  f2 : ByteArray
  f3 : ByteArray
  f4 : Int
  f5 : Bool
  f6 : Sl
  f7 : Sl
  f8 : Sl
  f9 : Sl
  f10 : Sl
section
variable {w0 w : World} {F : Nat → Prop} {tp : Nat} {ans : List Int} {txt : List ByteArray} {held : Int} {R : List Chunk}
set_option maxHeartbeats 2000000
theorem register_calls (h : TL w0 F tp ans txt held R w) (hn : txt.length < 999999) (x : SV) (hs : x.f2.size ≤ 1000) :
    Calls Try.prog 39 #[tpV tp, .agg #[.int .i64 x.f0, .string x.f1, .string x.f2, .string x.f3, .int .i64 x.f4, .bool x.f5, .slice x.f6.A x.f6.n x.f6.c, .slice x.f7.A x.f7.n x.f7.c, .slice x.f8.A x.f8.n x.f8.c, .slice x.f9.A x.f9.n x.f9.c, .slice x.f10.A x.f10.n x.f10.c]] w fun E w' => E = .returned (.int .i64 (errN (ans.headD 0))) ∧ TL w0 F tp ans.tail (txt ++ [(⟨#[114, 101, 103, 105, 115, 116, 101, 114, 32]⟩ : ByteArray) ++ x.f2]) held R w' := by
  have hu28 := Try.underlying28
  obtain ⟨n9, hn9⟩ : ∃ n, w.heap.size = n := ⟨_, rfl⟩
  have h9 := h.alloc #[.int .i64 x.f0, .string x.f1, .string x.f2, .string x.f3, .int .i64 x.f4, .bool x.f5, .slice x.f6.A x.f6.n x.f6.c, .slice x.f7.A x.f7.n x.f7.c, .slice x.f8.A x.f8.n x.f8.c, .slice x.f9.A x.f9.n x.f9.c, .slice x.f10.A x.f10.n x.f10.c] 28 hn9
  obtain ⟨W9, hW9⟩ : ∃ W, w.alloc (.cells #[.int .i64 x.f0, .string x.f1, .string x.f2, .string x.f3, .int .i64 x.f4, .bool x.f5, .slice x.f6.A x.f6.n x.f6.c, .slice x.f7.A x.f7.n x.f7.c, .slice x.f8.A x.f8.n x.f8.c, .slice x.f9.A x.f9.n x.f9.c, .slice x.f10.A x.f10.n x.f10.c] 28) = W := ⟨_, rfl⟩
  rw [hW9] at h9
  have hb := h9.rest.get R.length (c := blkC n9 (.cells #[.int .i64 x.f0, .string x.f1, .string x.f2, .string x.f3, .int .i64 x.f4, .bool x.f5, .slice x.f6.A x.f6.n x.f6.c, .slice x.f7.A x.f7.n x.f7.c, .slice x.f8.A x.f8.n x.f8.c, .slice x.f9.A x.f9.n x.f9.c, .slice x.f10.A x.f10.n x.f10.c] 28 (0, 0))) (by simp)
  have p2 : W9.cell? ⟨n9, 2, none⟩ = some (.string x.f2) := (blk_cell hb 2).trans rfl
  have HS := Aside0.mk (show TL w0 F tp ans txt held R W9 from (h9.perm (R' := [blkC n9 _] ++ R) List.perm_append_comm).drop)
  obtain ⟨y, hy⟩ : ∃ y, ans.headD 0 = y := ⟨_, rfl⟩
  have HX := Aside0.mk hy
  have hsz : ¬ ((⟨#[114, 101, 103, 105, 115, 116, 101, 114, 32]⟩ : ByteArray).size + x.f2.size > 9223372036854775807) := by rw [show (⟨#[114, 101, 103, 105, 115, 116, 101, 114, 32]⟩ : ByteArray).size = 9 by rfl]; omega
  rw [hy]
  clear h h9 hb hy
  unfold tpV
  go_enter Try.func39, Try.ntmps39
  go_wp2_with (first
    | (go_at_call 58; refine (note_calls HS.out _ hn).mono ?_; rintro E w1 ⟨rfl, h⟩; have HS1 := Aside0.mk h; clear h HS p2)
    | (go_at_call 59; refine (next_calls _ _ _ _ _ _ _ _ HS1.out).mono ?_; rintro E w2 ⟨rfl, h⟩; rw [HX.out]; have HS2 := Aside0.mk h; clear h HS1)
    | (go_at_call 60; refine (errno_calls _ _).mono ?_; rintro E w3 ⟨rfl, hb⟩; have HS3 := Aside0.mk (HS2.out.below hb); clear hb HS2))
  go_ret
  exact ⟨rfl, HS3.out⟩
end
noncomputable def wantS (x : S97) : ByteArray := (⟨#[32]⟩ : ByteArray) ++ showB x.f0.f0 ++ x.f0.f1 ++ x.f0.f2 ++ (⟨#[58]⟩ : ByteArray) ++ showB x.f1
noncomputable def tryS (l : List S97) : ByteArray := l.foldl (fun s x => s ++ wantS x) (⟨#[116, 114, 121]⟩ : ByteArray)
theorem tryS_snoc (l : List S97) (x : S97) : tryS (l ++ [x]) = tryS l ++ wantS x := by
  unfold tryS
  rw [List.foldl_append]
  rfl
def WfW (x : S97) : Prop := (Lit.int .i64 x.f0.f0).wf = true ∧ x.f0.f1.size ≤ 1000 ∧ x.f0.f2.size ≤ 1000 ∧ (Lit.int .i64 x.f1).wf = true
theorem wantS_size {x : S97} (h : WfW x) : (wantS x).size ≤ 3000 := by
  obtain ⟨_, h1, h2, _⟩ := h
  have h3 := showB_size x.f0.f0
  have h4 := showB_size x.f1
  unfold wantS
  simp only [ByteArray.size_append]
  have e1 : (⟨#[32]⟩ : ByteArray).size = 1 := rfl
  have e2 : (⟨#[58]⟩ : ByteArray).size = 1 := rfl
  omega
theorem tryS_size_ : ∀ (l : List S97) (s : ByteArray), (∀ x ∈ l, WfW x) → (l.foldl (fun s x => s ++ wantS x) s).size ≤ s.size + 3000 * l.length
  | [], s, _ => by simp
  | x :: l, s, h => by
    have h1 := tryS_size_ l (s ++ wantS x) fun y hy => h y (by simp [hy])
    have h2 := wantS_size (h x (by simp))
    rw [ByteArray.size_append] at h1
    simp only [List.foldl_cons, List.length_cons]
    omega
theorem tryS_size (l : List S97) (h : ∀ x ∈ l, WfW x) : (tryS l).size ≤ 3 + 3000 * l.length := tryS_size_ l _ h
end Go.Proofs.Kb
end
section
namespace Go.Proofs.Kb
open Go Go.RowKit Go.Proofs.Ytnojcnmnkkgkgaa.Q Go.Proofs.YtnojcnmnkkgkgaaW.PrintWords Go.Proofs.YtnojcnmnkkgkgaaW.PrintLast Go.Proofs.YtnojcnmnkkgkgaaW.PrintMore
set_option linter.unusedVariables false
set_option linter.unusedSimpArgs false
set_option maxRecDepth 100000
theorem RowX.wnt {w : World} {g n c : Nat} {l : List S97} (h : RowX wntE w (.slice (some ⟨g, 0, none⟩) n c) l) {i : Nat} {x : S97} (hx : l[i]? = some x) :
    w.cell? ⟨g, i * 4, none⟩ = some (.int .i64 x.f0.f0) ∧ w.cell? ⟨g, i * 4 + 1, none⟩ = some (.string x.f0.f1) ∧ w.cell? ⟨g, i * 4 + 2, none⟩ = some (.string x.f0.f2) ∧ w.cell? ⟨g, i * 4 + 3, none⟩ = some (.int .i64 x.f1) :=
  ⟨h.cell hx 0 (by decide) _ rfl, h.cell hx 1 (by decide) _ rfl, h.cell hx 2 (by decide) _ rfl, h.cell hx 3 (by decide) _ rfl⟩
section
variable {w0 w : World} {F : Nat → Prop} {tp : Nat} {ans : List Int} {txt : List ByteArray} {held : Int} {R : List Chunk}
def Try36 (w0 : World) (F : Nat → Prop) (tp : Nat) (ans : List Int) (txt : List ByteArray) (held : Int) (R : List Chunk) (E : Ending) (W : World) : Prop :=
  E = .returned (.bool (bits .and .i64 (ans.headD 0) 1 == 1)) ∧ TL w0 F tp ans.tail txt (if (bits .and .i64 (ans.headD 0) 1 == 1) = true then held + 1 else held) R W
set_option maxHeartbeats 8000000 in
theorem try_calls (A : Option Addr) (c : Nat) (ws : List S97) (h : TL w0 F tp ans txt held (rowXC wntE (.slice A ws.length c) ws :: R) w) (hn : txt.length < 999999) (hh : -1000000 ≤ held ∧ held ≤ 1000000) (hw : ∀ x ∈ ws, WfW x) (hl : ws.length ≤ 10) :
    Calls Try.prog 36 #[tpV tp, .slice A ws.length c] w (Try36 w0 F tp ans (txt ++ [tryS ws]) held (rowXC wntE (.slice A ws.length c) ws :: R)) := by
  obtain ⟨Q, hQ⟩ : ∃ Q, Try36 w0 F tp ans (txt ++ [tryS ws]) held (rowXC wntE (.slice A ws.length c) ws :: R) = Q := ⟨_, rfl⟩
  have HQ := Aside0.mk hQ
  rw [hQ]
  have hu72 := Try.underlying72
  have hu97 := Try.underlying97
  have hu95 := Try.underlying95
  have hu36 := Try.underlying36
  have hz97 := Try.sizeOf97
  obtain ⟨n, hnn⟩ : ∃ n, ws.length = n := ⟨_, rfl⟩
  rw [hnn] at hl
  have HN := Aside0.mk hnn
  have HW := Aside0.mk hw
  have HS := Aside0.mk (show TL w0 F tp ans txt held (rowXC wntE (.slice A n c) ws :: R) w by rw [← hnn]; exact h)
  rw [hnn]
  clear h hQ hnn hw
  unfold tpV
  go_enter Try.func36, Try.ntmps36
  go_wp2
  go_loopg [5, 6] n (fun gq v5 v6 wx => ∃ i : Nat, v6 = .int .i64 i ∧ v5 = .string (tryS (ws.take i)) ∧ i + gq = n ∧ Aside0 (TL w0 F tp ans txt held (rowXC wntE (.slice A n c) ws :: R) wx))
  case atStart => exact ⟨0, rfl, rfl, by omega, HS⟩
  case round =>
    clear HS
    obtain ⟨i, rfl, rfl, hi, HS⟩ := hrel
    cases gk with
    | zero =>
      obtain rfl : i = n := by omega
      have ht : ws.take i = ws := List.take_of_length_le (by rw [HN.out]; exact Nat.le_refl _)
      rw [ht]
      have hin : ¬ (i : Int) < (i : Int) := by omega
      obtain ⟨x, hx⟩ : ∃ x, ans.headD 0 = x := ⟨_, rfl⟩
      have HX := Aside0.mk hx
      obtain ⟨s, hs⟩ : ∃ s, tryS ws = s := ⟨_, rfl⟩
      have HSS := Aside0.mk hs
      rw [hs]
      clear ht hx hs
      cases hb : (bits .and .i64 x 1 == 1) with
      | true =>
        go_wp2_with (first
          | (go_at_call 58; refine (note_calls HS.out s hn).mono ?_; rintro E w1 ⟨rfl, h⟩; have HS1 := Aside0.mk h; clear h HS)
          | (go_at_call 59; refine (next_calls _ _ _ _ _ _ _ _ HS1.out).mono ?_; rintro E w2 ⟨rfl, av, kv, h⟩; rw [HX.out]; have hb := h.blk 1 rfl; have c2 : w2.cell? ⟨tp, 2, none⟩ = some (.int .i64 held) := ((blk_cell hb 2).trans rfl); have pl := lt_of_some hb; have fz := (fun j => frozen_of_row w2 tp j _ _ hb); have HS2 := Aside0.mk (h.putBlk 1 rfl 2 (.int .i64 (held + 1)) rfl); clear h HS1 hb))
        rw [← HQ.out]
        refine ⟨by rw [HX.out, hb]; rfl, ?_⟩
        rw [HX.out, if_pos hb]
        exact ⟨_, _, (by rw [HN.out, HSS.out]; exact HS2.out)⟩
      | false =>
        go_wp2_with (first
          | (go_at_call 58; refine (note_calls HS.out s hn).mono ?_; rintro E w1 ⟨rfl, h⟩; have HS1 := Aside0.mk h; clear h HS)
          | (go_at_call 59; refine (next_calls _ _ _ _ _ _ _ _ HS1.out).mono ?_; rintro E w2 ⟨rfl, h⟩; rw [HX.out]; have HS2 := Aside0.mk h; clear h HS1))
        rw [← HQ.out]
        refine ⟨by rw [HX.out, hb]; rfl, ?_⟩
        rw [HX.out, if_neg (by rw [hb]; decide), HN.out, HSS.out]
        exact HS2.out
    | succ gq =>
      have hin : (i : Int) < (n : Int) := by omega
      have hi0 : (0 : Int) ≤ (i : Int) := by omega
      have hi9 : (i : Int) ≤ 1000000 := by omega
      obtain ⟨x, hx⟩ : ∃ x, ws[i]? = some x := ⟨_, List.getElem?_eq_getElem (by rw [HN.out]; omega)⟩
      have hrow := HS.out.rest.rowX 0 rfl
      obtain ⟨g, c', hv, _⟩ := row_slice (n := ws.length) (by rw [← HN.out] at hrow; exact hrow) (by rw [HN.out]; omega)
      obtain ⟨rfl, rfl⟩ : A = some ⟨g, 0, none⟩ ∧ c = c' := by
        injection hv with e1 e2 e3
        exact ⟨e1, e3⟩
      have hwx := HW.out x (List.mem_of_getElem? hx)
      have HX := Aside0.mk hx
      obtain ⟨s, hs⟩ : ∃ s, tryS (ws.take i) = s := ⟨_, rfl⟩
      have hss : s.size ≤ 100000 := by
        have h := tryS_size (ws.take i) fun y hy => HW.out y (List.mem_of_mem_take hy)
        rw [hs, List.length_take] at h
        omega
      have HT := Aside0.mk (show tryS (ws.take (i + 1)) = s ++ wantS x by rw [List.take_add_one, hx, ← hs]; exact tryS_snoc _ _)
      rw [hs]
      obtain ⟨⟨k0, t0, u0⟩, m0⟩ := x
      obtain ⟨z1, hz1⟩ : ∃ z, showB k0 = z := ⟨_, rfl⟩
      obtain ⟨z2, hz2⟩ : ∃ z, showB m0 = z := ⟨_, rfl⟩
      have hq1 := showB_size k0
      have hq2 := showB_size m0
      rw [hz1] at hq1
      rw [hz2] at hq2
      obtain ⟨hf1, hf2, hf3, hf4⟩ := hwx
      have HZ1 := Aside0.mk hz1
      have HZ2 := Aside0.mk hz2
      have HC1 := Aside0.mk (fun W => hz1 ▸ show_calls k0 W hf1)
      have HC2 := Aside0.mk (fun W => hz2 ▸ show_calls m0 W hf4)
      dsimp only at hf2 hf3
      have e1 : (⟨#[32]⟩ : ByteArray).size = 1 := rfl
      have e2 : (⟨#[58]⟩ : ByteArray).size = 1 := rfl
      have a1 : ¬ (9223372036854775807 < 1 + z1.size) := by omega
      have a2 : ¬ (9223372036854775807 < 1 + z1.size + t0.size) := by omega
      have a3 : ¬ (9223372036854775807 < 1 + z1.size + t0.size + u0.size) := by omega
      have a4 : ¬ (9223372036854775807 < 1 + z1.size + t0.size + u0.size + 1) := by omega
      have a5 : ¬ (9223372036854775807 < 1 + z1.size + t0.size + u0.size + 1 + z2.size) := by omega
      have a6 : ¬ (9223372036854775807 < s.size + (1 + z1.size + t0.size + u0.size + 1 + z2.size)) := by omega
      clear hx hrow hv hs hz1 hz2 hf1 hf4 e1 e2
      go_wp2
      refine start_ (n := 33) (S := fun w' => w'.cell? ⟨g, i * 4, none⟩ = some (.int .i64 k0) ∧ w'.cell? ⟨g, i * 4 + 1, none⟩ = some (.string t0) ∧ w'.cell? ⟨g, i * 4 + 2, none⟩ = some (.string u0) ∧ w'.cell? ⟨g, i * 4 + 3, none⟩ = some (.int .i64 m0)) (ds := []) #[false, false, false, false, false, false, false, false, false, false, false, false, false, false, false, false, false, false, false, false, false, false, false, false, false, false, false, false, false, false, false, false, false] (by kernel_rfl) rfl rfl ⟨((HS.out.rest.rowX 0 rfl).wnt HX.out).1, ((HS.out.rest.rowX 0 rfl).wnt HX.out).2.1, ((HS.out.rest.rowX 0 rfl).wnt HX.out).2.2.1, ((HS.out.rest.rowX 0 rfl).wnt HX.out).2.2.2⟩ (fun hHeld => ?_)
      have HS11 := Aside0.mk (HS.out.drew)
      clear HS
      generalize wr.drew = w11 at HS11 hHeld  ⊢
      refine pure_ (i := 0) (N := (some 13)) (v := ?_) (a' := ?_) #[true, false, false, false, false, false, false, false, false, false, false, false, false, false, false, false, false, false, false, false, false, false, false, false, false, false, false, false, false, false, false, false, false] rfl rfl (by kernel_rfl) (fun _ _ _ h => h) (Or.inl ⟨by rfl, ?_⟩) ?_ ?_
      rotate_left
      · intro w'
        go_simp
        with_reducible rfl
      rotate_left
      · simp only [Act.put, List.setIfInBounds_toArray, List.set_cons_zero, List.set_cons_succ, i64_w, i32_w]
        rfl
      refine pure_ (i := 1) (N := (some 14)) (v := ?_) (a' := ?_) #[true, true, false, false, false, false, false, false, false, false, false, false, false, false, false, false, false, false, false, false, false, false, false, false, false, false, false, false, false, false, false, false, false] rfl rfl (by kernel_rfl) (fun _ _ _ h => h) (Or.inl ⟨by rfl, ?_⟩) ?_ ?_
      rotate_left
      · intro w'
        go_simp
        with_reducible rfl
      rotate_left
      · simp only [Act.put, List.setIfInBounds_toArray, List.set_cons_zero, List.set_cons_succ, i64_w, i32_w]
        rfl
      refine pure_ (i := 2) (N := (some 15)) (v := ?_) (a' := ?_) #[true, true, true, false, false, false, false, false, false, false, false, false, false, false, false, false, false, false, false, false, false, false, false, false, false, false, false, false, false, false, false, false, false] rfl rfl (by kernel_rfl) (fun _ _ _ h => h) (Or.inl ⟨by rfl, ?_⟩) ?_ ?_
      rotate_left
      · intro w'
        go_simp
        with_reducible rfl
      rotate_left
      · simp only [Act.put, List.setIfInBounds_toArray, List.set_cons_zero, List.set_cons_succ, i64_w, i32_w]
        rfl
      refine pure_ (i := 3) (N := (some 16)) (v := ?_) (a' := ?_) #[true, true, true, true, false, false, false, false, false, false, false, false, false, false, false, false, false, false, false, false, false, false, false, false, false, false, false, false, false, false, false, false, false] rfl rfl (by kernel_rfl) (fun _ _ _ h => h) (Or.inl ⟨by rfl, ?_⟩) ?_ ?_
      rotate_left
      · intro w'
        go_simp
        with_reducible rfl
      rotate_left
      · simp only [Act.put, List.setIfInBounds_toArray, List.set_cons_zero, List.set_cons_succ, i64_w, i32_w]
        rfl
      refine pure_ (i := 4) (N := (some 17)) (v := ?_) (a' := ?_) #[true, true, true, true, true, false, false, false, false, false, false, false, false, false, false, false, false, false, false, false, false, false, false, false, false, false, false, false, false, false, false, false, false] rfl rfl (by kernel_rfl) (fun _ _ _ h => h) (Or.inl ⟨by rfl, ?_⟩) ?_ ?_
      rotate_left
      · intro w'
        go_simp
        with_reducible rfl
      rotate_left
      · simp only [Act.put, List.setIfInBounds_toArray, List.set_cons_zero, List.set_cons_succ, i64_w, i32_w]
        rfl
      refine pure_ (i := 5) (N := (some 18)) (v := ?_) (a' := ?_) #[true, true, true, true, true, true, false, false, false, false, false, false, false, false, false, false, false, false, false, false, false, false, false, false, false, false, false, false, false, false, false, false, false] rfl rfl (by kernel_rfl) (fun _ _ _ h => h) (Or.inl ⟨by rfl, ?_⟩) ?_ ?_
      rotate_left
      · intro w'
        go_simp
        with_reducible rfl
      rotate_left
      · simp only [Act.put, List.setIfInBounds_toArray, List.set_cons_zero, List.set_cons_succ, i64_w, i32_w]
        rfl
      refine pure_ (i := 9) (N := (some 22)) (v := ?_) (a' := ?_) #[true, true, true, true, true, true, false, false, false, true, false, false, false, false, false, false, false, false, false, false, false, false, false, false, false, false, false, false, false, false, false, false, false] rfl rfl (by kernel_rfl) (fun _ _ _ h => h) (Or.inl ⟨by rfl, ?_⟩) ?_ ?_
      rotate_left
      · intro w'
        go_simp
        with_reducible rfl
      rotate_left
      · simp only [Act.put, List.setIfInBounds_toArray, List.set_cons_zero, List.set_cons_succ, i64_w, i32_w]
        rfl
      refine pure_ (i := 10) (N := (some 23)) (v := ?_) (a' := ?_) #[true, true, true, true, true, true, false, false, false, true, true, false, false, false, false, false, false, false, false, false, false, false, false, false, false, false, false, false, false, false, false, false, false] rfl rfl (by kernel_rfl) (fun _ _ _ h => h) (Or.inl ⟨by rfl, ?_⟩) ?_ ?_
      rotate_left
      · intro w'
        go_simp
        with_reducible rfl
      rotate_left
      · simp only [Act.put, List.setIfInBounds_toArray, List.set_cons_zero, List.set_cons_succ, i64_w, i32_w]
        rfl
      refine pure_ (i := 11) (N := (some 24)) (v := ?_) (a' := ?_) #[true, true, true, true, true, true, false, false, false, true, true, true, false, false, false, false, false, false, false, false, false, false, false, false, false, false, false, false, false, false, false, false, false] rfl rfl (by kernel_rfl) (fun _ _ _ h => h) (Or.inl ⟨by rfl, ?_⟩) ?_ ?_
      rotate_left
      · intro w'
        go_simp
        with_reducible rfl
      rotate_left
      · simp only [Act.put, List.setIfInBounds_toArray, List.set_cons_zero, List.set_cons_succ, i64_w, i32_w]
        rfl
      refine pure_ (i := 12) (N := (some 25)) (v := ?_) (a' := ?_) #[true, true, true, true, true, true, false, false, false, true, true, true, true, false, false, false, false, false, false, false, false, false, false, false, false, false, false, false, false, false, false, false, false] rfl rfl (by kernel_rfl) (fun _ _ _ h => h) (Or.inl ⟨by rfl, ?_⟩) ?_ ?_
      rotate_left
      · intro w'
        go_simp
        with_reducible rfl
      rotate_left
      · simp only [Act.put, List.setIfInBounds_toArray, List.set_cons_zero, List.set_cons_succ, i64_w, i32_w]
        rfl
      refine pure_ (i := 13) (N := (some 26)) (v := ?_) (a' := ?_) #[true, true, true, true, true, true, false, false, false, true, true, true, true, true, false, false, false, false, false, false, false, false, false, false, false, false, false, false, false, false, false, false, false] rfl rfl (by kernel_rfl) (fun _ _ _ h => h) (Or.inl ⟨by rfl, ?_⟩) ?_ ?_
      rotate_left
      · intro w'
        go_simp
        with_reducible rfl
      rotate_left
      · simp only [Act.put, List.setIfInBounds_toArray, List.set_cons_zero, List.set_cons_succ, i64_w, i32_w]
        rfl
      refine pure_ (i := 16) (N := (some 29)) (v := ?_) (a' := ?_) #[true, true, true, true, true, true, false, false, false, true, true, true, true, true, false, false, true, false, false, false, false, false, false, false, false, false, false, false, false, false, false, false, false] rfl rfl (by kernel_rfl) (fun _ _ _ h => h) (Or.inl ⟨by rfl, ?_⟩) ?_ ?_
      rotate_left
      · intro w'
        go_simp
        with_reducible rfl
      rotate_left
      · simp only [Act.put, List.setIfInBounds_toArray, List.set_cons_zero, List.set_cons_succ, i64_w, i32_w]
        rfl
      refine pure_ (i := 17) (N := (some 30)) (v := ?_) (a' := ?_) #[true, true, true, true, true, true, false, false, false, true, true, true, true, true, false, false, true, true, false, false, false, false, false, false, false, false, false, false, false, false, false, false, false] rfl rfl (by kernel_rfl) (fun _ _ _ h => h) (Or.inl ⟨by rfl, ?_⟩) ?_ ?_
      rotate_left
      · intro w'
        go_simp
        with_reducible rfl
      rotate_left
      · simp only [Act.put, List.setIfInBounds_toArray, List.set_cons_zero, List.set_cons_succ, i64_w, i32_w]
        rfl
      refine pure_ (i := 18) (N := (some 31)) (v := ?_) (a' := ?_) #[true, true, true, true, true, true, false, false, false, true, true, true, true, true, false, false, true, true, true, false, false, false, false, false, false, false, false, false, false, false, false, false, false] rfl rfl (by kernel_rfl) (fun _ _ _ h => h) (Or.inl ⟨by rfl, ?_⟩) ?_ ?_
      rotate_left
      · intro w'
        go_simp
        with_reducible rfl
      rotate_left
      · simp only [Act.put, List.setIfInBounds_toArray, List.set_cons_zero, List.set_cons_succ, i64_w, i32_w]
        rfl
      refine pure_ (i := 19) (N := (some 32)) (v := ?_) (a' := ?_) #[true, true, true, true, true, true, false, false, false, true, true, true, true, true, false, false, true, true, true, true, false, false, false, false, false, false, false, false, false, false, false, false, false] rfl rfl (by kernel_rfl) (fun _ _ _ h => h) (Or.inl ⟨by rfl, ?_⟩) ?_ ?_
      rotate_left
      · intro w'
        go_simp
        with_reducible rfl
      rotate_left
      · simp only [Act.put, List.setIfInBounds_toArray, List.set_cons_zero, List.set_cons_succ, i64_w, i32_w]
        rfl
      refine pure_ (i := 20) (N := (some 33)) (v := ?_) (a' := ?_) #[true, true, true, true, true, true, false, false, false, true, true, true, true, true, false, false, true, true, true, true, true, false, false, false, false, false, false, false, false, false, false, false, false] rfl rfl (by kernel_rfl) (fun _ _ _ h => h) (Or.inl ⟨by rfl, ?_⟩) ?_ ?_
      rotate_left
      · intro w'
        go_simp
        with_reducible rfl
      rotate_left
      · simp only [Act.put, List.setIfInBounds_toArray, List.set_cons_zero, List.set_cons_succ, i64_w, i32_w]
        rfl
      refine pure_ (i := 24) (N := (some 37)) (v := ?_) (a' := ?_) #[true, true, true, true, true, true, false, false, false, true, true, true, true, true, false, false, true, true, true, true, true, false, false, false, true, false, false, false, false, false, false, false, false] rfl rfl (by kernel_rfl) (fun _ _ _ h => h) (Or.inl ⟨by rfl, ?_⟩) ?_ ?_
      rotate_left
      · intro w'
        go_simp
        with_reducible rfl
      rotate_left
      · simp only [Act.put, List.setIfInBounds_toArray, List.set_cons_zero, List.set_cons_succ, i64_w, i32_w]
        rfl
      refine pure_ (i := 25) (N := (some 38)) (v := ?_) (a' := ?_) #[true, true, true, true, true, true, false, false, false, true, true, true, true, true, false, false, true, true, true, true, true, false, false, false, true, true, false, false, false, false, false, false, false] rfl rfl (by kernel_rfl) (fun _ _ _ h => h) (Or.inl ⟨by rfl, ?_⟩) ?_ ?_
      rotate_left
      · intro w'
        go_simp
        with_reducible rfl
      rotate_left
      · simp only [Act.put, List.setIfInBounds_toArray, List.set_cons_zero, List.set_cons_succ, i64_w, i32_w]
        rfl
      refine pure_ (i := 26) (N := (some 39)) (v := ?_) (a' := ?_) #[true, true, true, true, true, true, false, false, false, true, true, true, true, true, false, false, true, true, true, true, true, false, false, false, true, true, true, false, false, false, false, false, false] rfl rfl (by kernel_rfl) (fun _ _ _ h => h) (Or.inl ⟨by rfl, ?_⟩) ?_ ?_
      rotate_left
      · intro w'
        go_simp
        with_reducible rfl
      rotate_left
      · simp only [Act.put, List.setIfInBounds_toArray, List.set_cons_zero, List.set_cons_succ, i64_w, i32_w]
        rfl
      refine pure_ (i := 27) (N := (some 40)) (v := ?_) (a' := ?_) #[true, true, true, true, true, true, false, false, false, true, true, true, true, true, false, false, true, true, true, true, true, false, false, false, true, true, true, true, false, false, false, false, false] rfl rfl (by kernel_rfl) (fun _ _ _ h => h) (Or.inl ⟨by rfl, ?_⟩) ?_ ?_
      rotate_left
      · intro w'
        go_simp
        with_reducible rfl
      rotate_left
      · simp only [Act.put, List.setIfInBounds_toArray, List.set_cons_zero, List.set_cons_succ, i64_w, i32_w]
        rfl
      refine take_ (i := 6) (N := (some 19)) (v := ?_) (a' := ?_) #[true, true, true, true, true, true, true, false, false, true, true, true, true, true, false, false, true, true, true, true, true, false, false, false, true, true, true, true, false, false, false, false, false] rfl rfl (by kernel_rfl) (fun _ _ _ h => h) (Or.inl ⟨by rfl, ?_⟩) hHeld ?_ ?_
      rotate_left
      · rintro w' ⟨s0, s1, s2, s3⟩
        go_simp
        with_reducible rfl
      rotate_left
      · simp only [Act.put, List.setIfInBounds_toArray, List.set_cons_zero, List.set_cons_succ, i64_w, i32_w]
        rfl
      refine take_ (i := 14) (N := (some 27)) (v := ?_) (a' := ?_) #[true, true, true, true, true, true, true, false, false, true, true, true, true, true, true, false, true, true, true, true, true, false, false, false, true, true, true, true, false, false, false, false, false] rfl rfl (by kernel_rfl) (fun _ _ _ h => h) (Or.inl ⟨by rfl, ?_⟩) hHeld ?_ ?_
      rotate_left
      · rintro w' ⟨s0, s1, s2, s3⟩
        go_simp
        with_reducible rfl
      rotate_left
      · simp only [Act.put, List.setIfInBounds_toArray, List.set_cons_zero, List.set_cons_succ, i64_w, i32_w]
        rfl
      refine take_ (i := 21) (N := (some 34)) (v := ?_) (a' := ?_) #[true, true, true, true, true, true, true, false, false, true, true, true, true, true, true, false, true, true, true, true, true, true, false, false, true, true, true, true, false, false, false, false, false] rfl rfl (by kernel_rfl) (fun _ _ _ h => h) (Or.inl ⟨by rfl, ?_⟩) hHeld ?_ ?_
      rotate_left
      · rintro w' ⟨s0, s1, s2, s3⟩
        go_simp
        with_reducible rfl
      rotate_left
      · simp only [Act.put, List.setIfInBounds_toArray, List.set_cons_zero, List.set_cons_succ, i64_w, i32_w]
        rfl
      refine take_ (i := 28) (N := (some 41)) (v := ?_) (a' := ?_) #[true, true, true, true, true, true, true, false, false, true, true, true, true, true, true, false, true, true, true, true, true, true, false, false, true, true, true, true, true, false, false, false, false] rfl rfl (by kernel_rfl) (fun _ _ _ h => h) (Or.inl ⟨by rfl, ?_⟩) hHeld ?_ ?_
      rotate_left
      · rintro w' ⟨s0, s1, s2, s3⟩
        go_simp
        with_reducible rfl
      rotate_left
      · simp only [Act.put, List.setIfInBounds_toArray, List.set_cons_zero, List.set_cons_succ, i64_w, i32_w]
        rfl
      refine one_ (i := 7) (N := (some 20)) #[true, true, true, true, true, true, true, true, false, true, true, true, true, true, true, false, true, true, true, true, true, true, false, false, true, true, true, true, true, false, false, false, false] rfl rfl (by kernel_rfl) (by decide) (fun K_ hK => ?_)
      refine goes_ Try.func57 (by kernel_rfl) rfl #[.int .i64 k0] (by rfl) rfl rfl (by (try simp only [List.map_toArray, List.map_cons, List.map_nil]); first | done | rfl) ?_
      refine (HC1.out _).mono ?_
      rintro E w12 ⟨rfl, hb⟩
      have HS12 := Aside0.mk (HS11.out.below hb)
      clear HS11
      clear hb
      refine ⟨_, rfl, ?_⟩
      clear hHeld
      refine hK.out _ _ ⟨((HS12.out.rest.rowX 0 rfl).wnt HX.out).1, ((HS12.out.rest.rowX 0 rfl).wnt HX.out).2.1, ((HS12.out.rest.rowX 0 rfl).wnt HX.out).2.2.1, ((HS12.out.rest.rowX 0 rfl).wnt HX.out).2.2.2⟩ (fun hHeld => ?_)
      clear hK K_
      refine norm_ (a' := ?_) ?_ ?_
      rotate_left
      · show Act.put _ (some 20) _ = _
        simp only [Act.put, List.setIfInBounds_toArray, List.set_cons_zero, List.set_cons_succ, i64_w, i32_w]
        rfl
      refine pure_ (i := 8) (N := (some 21)) (v := ?_) (a' := ?_) #[true, true, true, true, true, true, true, true, true, true, true, true, true, true, true, false, true, true, true, true, true, true, false, false, true, true, true, true, true, false, false, false, false] rfl rfl (by kernel_rfl) (fun _ _ _ h => h) (Or.inl ⟨by rfl, ?_⟩) ?_ ?_
      rotate_left
      · intro w'
        go_simp
        with_reducible rfl
      rotate_left
      · simp only [Act.put, List.setIfInBounds_toArray, List.set_cons_zero, List.set_cons_succ, i64_w, i32_w]
        rfl
      refine pure_ (i := 15) (N := (some 28)) (v := ?_) (a' := ?_) #[true, true, true, true, true, true, true, true, true, true, true, true, true, true, true, true, true, true, true, true, true, true, false, false, true, true, true, true, true, false, false, false, false] rfl rfl (by kernel_rfl) (fun _ _ _ h => h) (Or.inl ⟨by rfl, ?_⟩) ?_ ?_
      rotate_left
      · intro w'
        go_simp
        with_reducible rfl
      rotate_left
      · simp only [Act.put, List.setIfInBounds_toArray, List.set_cons_zero, List.set_cons_succ, i64_w, i32_w]
        rfl
      refine pure_ (i := 22) (N := (some 35)) (v := ?_) (a' := ?_) #[true, true, true, true, true, true, true, true, true, true, true, true, true, true, true, true, true, true, true, true, true, true, true, false, true, true, true, true, true, false, false, false, false] rfl rfl (by kernel_rfl) (fun _ _ _ h => h) (Or.inl ⟨by rfl, ?_⟩) ?_ ?_
      rotate_left
      · intro w'
        go_simp
        with_reducible rfl
      rotate_left
      · simp only [Act.put, List.setIfInBounds_toArray, List.set_cons_zero, List.set_cons_succ, i64_w, i32_w]
        rfl
      refine pure_ (i := 23) (N := (some 36)) (v := ?_) (a' := ?_) #[true, true, true, true, true, true, true, true, true, true, true, true, true, true, true, true, true, true, true, true, true, true, true, true, true, true, true, true, true, false, false, false, false] rfl rfl (by kernel_rfl) (fun _ _ _ h => h) (Or.inl ⟨by rfl, ?_⟩) ?_ ?_
      rotate_left
      · intro w'
        go_simp
        with_reducible rfl
      rotate_left
      · simp only [Act.put, List.setIfInBounds_toArray, List.set_cons_zero, List.set_cons_succ, i64_w, i32_w]
        rfl
      refine one_ (i := 29) (N := (some 42)) #[true, true, true, true, true, true, true, true, true, true, true, true, true, true, true, true, true, true, true, true, true, true, true, true, true, true, true, true, true, true, false, false, false] rfl rfl (by kernel_rfl) (by decide) (fun K_ hK => ?_)
      refine goes_ Try.func57 (by kernel_rfl) rfl #[.int .i64 m0] (by rfl) rfl rfl (by (try simp only [List.map_toArray, List.map_cons, List.map_nil]); first | done | rfl) ?_
      refine (HC2.out _).mono ?_
      rintro E w13 ⟨rfl, hb⟩
      have HS13 := Aside0.mk (HS12.out.below hb)
      clear HS12
      clear hb
      refine ⟨_, rfl, ?_⟩
      clear hHeld
      refine hK.out _ _ ⟨((HS13.out.rest.rowX 0 rfl).wnt HX.out).1, ((HS13.out.rest.rowX 0 rfl).wnt HX.out).2.1, ((HS13.out.rest.rowX 0 rfl).wnt HX.out).2.2.1, ((HS13.out.rest.rowX 0 rfl).wnt HX.out).2.2.2⟩ (fun hHeld => ?_)
      clear hK K_
      refine norm_ (a' := ?_) ?_ ?_
      rotate_left
      · show Act.put _ (some 42) _ = _
        simp only [Act.put, List.setIfInBounds_toArray, List.set_cons_zero, List.set_cons_succ, i64_w, i32_w]
        rfl
      refine pure_ (i := 30) (N := (some 43)) (v := ?_) (a' := ?_) #[true, true, true, true, true, true, true, true, true, true, true, true, true, true, true, true, true, true, true, true, true, true, true, true, true, true, true, true, true, true, true, false, false] rfl rfl (by kernel_rfl) (fun _ _ _ h => h) (Or.inl ⟨by rfl, ?_⟩) ?_ ?_
      rotate_left
      · intro w'
        go_simp
        with_reducible rfl
      rotate_left
      · simp only [Act.put, List.setIfInBounds_toArray, List.set_cons_zero, List.set_cons_succ, i64_w, i32_w]
        rfl
      refine pure_ (i := 31) (N := (some 44)) (v := ?_) (a' := ?_) #[true, true, true, true, true, true, true, true, true, true, true, true, true, true, true, true, true, true, true, true, true, true, true, true, true, true, true, true, true, true, true, true, false] rfl rfl (by kernel_rfl) (fun _ _ _ h => h) (Or.inl ⟨by rfl, ?_⟩) ?_ ?_
      rotate_left
      · intro w'
        go_simp
        with_reducible rfl
      rotate_left
      · simp only [Act.put, List.setIfInBounds_toArray, List.set_cons_zero, List.set_cons_succ, i64_w, i32_w]
        rfl
      refine pure_ (i := 32) (N := (some 5)) (v := ?_) (a' := ?_) #[true, true, true, true, true, true, true, true, true, true, true, true, true, true, true, true, true, true, true, true, true, true, true, true, true, true, true, true, true, true, true, true, true] rfl rfl (by kernel_rfl) (fun _ _ _ h => h) (Or.inl ⟨by rfl, ?_⟩) ?_ ?_
      rotate_left
      · intro w'
        go_simp
        with_reducible rfl
      rotate_left
      · simp only [Act.put, List.setIfInBounds_toArray, List.set_cons_zero, List.set_cons_succ, i64_w, i32_w]
        rfl
      refine done_ (by kernel_rfl) ?_
      clear hHeld
      go_wp2
      go_roundg gq
      case measure => omega
      case rel => exact ⟨i + 1, by go_num, by rw [HT.out]; unfold wantS; rw [HZ1.out, HZ2.out], by omega, HS13⟩
end
end Go.Proofs.Kb
end
