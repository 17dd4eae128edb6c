/- Packed by shake.py: YtjaddmflopahiaaQ0 YtjaddmflopahiaaB1 YtjaddmflopahiaaH66 YtjaddmflopahiaaQ65 YtjaddmflopahiaaQ72 YtjaddmflopahiaaQ67 YtjaddmflopahiaaQ57 YtjaddmflopahiaaB3 YtjaddmflopahiaaB4 YtjaddmflopahiaaBi42 YtjaddmflopahiaaBc45 YtjaddmflopahiaaBi44 YtjaddmflopahiaaBc46 YtjaddmflopahiaaB5 -/
import Derived.Test.YtjaddmflopahiaaProg
import Derived.Below
import Derived.Deep.Draws
import Derived.Deep.AppendLies
import Derived.Maps.AppendAt
import Derived.OwnWalk
import Derived.Laws.BytesArg
import Derived.Laws.MakeOwn
import Derived.Laws.OwnMore
import Derived.Deep.OwnRows
import Derived.Tactics
import Derived.Lib.ConvBytes
import Derived.Laws.Slices
import Derived.WalkKit
import Derived.KernelRfl
import Derived.RowKit3
import Derived.Deep.LoopGhost
import Derived.Deep.QuietTactic
import Derived.BigQuiet
import Derived.WideLaws
import Derived.Deep.DeepCutAuto
import Derived.Deep.CutBlock
import Derived.Deep.RegionHeld3
import Derived.Laws.Rows
import Derived.Lib.AppendStr
import Derived.ArgAppend
import Derived.Laws.IdiomCopy
import Derived.OrdersHeld
import Derived.Laws.BitsLemmas
import Derived.RowKit
import Derived.Test.YtjaddmflopahiaaVWWords
import Derived.Test.YtjaddmflopahiaaVWLast
import Derived.Test.YtjaddmflopahiaaVWTab
import Derived.Test.YtjaddmflopahiaaVWFour
import Derived.Test.YtjaddmflopahiaaVWQPut
import Derived.Test.YtjaddmflopahiaaVWApart
import Derived.Test.YtjaddmflopahiaaVWArr
import Derived.Test.YtjaddmflopahiaaVWZeros
import Derived.Test.YtjaddmflopahiaaVWFoot
import Derived.Test.YtjaddmflopahiaaVWKept
import Derived.Test.YtjaddmflopahiaaVWShare
import Derived.Test.YtjaddmflopahiaaVWN
import Derived.Test.YtjaddmflopahiaaVWFootNe
import Derived.Test.YtjaddmflopahiaaVWAt
import Derived.Test.YtjaddmflopahiaaVWEqStruct
import Derived.Test.YtjaddmflopahiaaVWRepsOne
import Derived.Test.YtjaddmflopahiaaVWInv
import Derived.Test.YtjaddmflopahiaaVWInvWords
import Derived.Test.YtjaddmflopahiaaVWGuard
import Derived.Test.YtjaddmflopahiaaVWNEv
import Derived.Test.YtjaddmflopahiaaVWMore
import Derived.Lib.AppendZeros
import Derived.Lib.SliceRun
import Derived.Lib.Overlaps
import Derived.Laws.Externs
import Derived.Laws.CopyRow
import Derived.Laws.Append
import Derived.Laws.Cover1
import Derived.Shelf.RegionOpenPlain
import Derived.Shelf.Spec.SlicesInsert
section
namespace Go.Proofs.Ytjaddmflopahiaa.Q
open Go.RowKit Go.Proofs.YtjaddmflopahiaaW.PrintWords Go.Proofs.YtjaddmflopahiaaW.PrintLast Go.Proofs.YtjaddmflopahiaaW.PrintMore
attribute [local go_sem] max2_int min2_int max_two min_two max_three min_three max_four min_four
set_option linter.unusedVariables false
set_option linter.unusedSimpArgs false
def errW : Option Int → Value
  | none => .nilIface
  | some c => .iface 0 (.int .i64 c)
theorem errW_none : errW none = .nilIface := rfl
theorem errW_some (c : Int) : errW (some c) = .iface 0 (.int .i64 c) := rfl
theorem info3 : (Try.prog.info? 3).map (fun i => (i.zero, i.size, i.bytes)) = some (some (.int .i64 0), 1, 8) := by kernel_rfl
structure S27 where
  f0 : Int
  f1 : Int
def z27 : S27 := ⟨(0 : Int), (0 : Int)⟩
def k27 : Kd S27 := Kd.iso (Kd.pair (Kd.int .i64) (Kd.int .i64)) (fun x : S27 => (x.f0, x.f1))
theorem k27_open {w : World} {x : S27} {cs : List Value} (h : k27.K w x cs) : cs = [.int .i64 x.f0, .int .i64 x.f1] := by
  obtain ⟨_, _, rfl, rfl, rfl⟩ := h
  exact rfl
theorem k27_mk (w : World) (x : S27)  : k27.K w x [.int .i64 x.f0, .int .i64 x.f1] := ⟨[.int .i64 x.f0], [.int .i64 x.f1], rfl, rfl, rfl⟩
def rd_T27 (xs : List S27) (i : Int) : S27 := xs.getD i.toNat z27
theorem at_T27 {w : World} {A : Option Addr} {n : Nat} {xs : List S27} (h : Kd.C k27 w A n xs) (i : Int) (h0 : 0 ≤ i) (h1 : i < n) : ∃ ad , A = some ad ∧ w.cell? (ad.add (i.toNat * 2)) = some (.int .i64 (rd_T27 xs i).f0) ∧ w.cell? ⟨(ad.add (i.toNat * 2)).block, (ad.add (i.toNat * 2)).off + 1, none⟩ = some (.int .i64 (rd_T27 xs i).f1) := by
  obtain ⟨ad, c, e, _, hK, hc0⟩ := Kd.C_get h z27 i h0 h1
  have hc : ∀ j u, c[j]? = some u → w.cell? (ad.add (i.toNat * 2 + j)) = some u := hc0
  obtain rfl := k27_open hK
  exact ⟨ad, e, hc 0 _ rfl, by rw [← add_field _ _ 1 (by omega)]; exact hc 1 _ rfl⟩
structure S29 where
  f0 : ByteArray
  f1 : S27
def z29 : S29 := ⟨(⟨#[]⟩ : ByteArray), z27⟩
def k29 : Kd S29 := Kd.iso (Kd.pair Kd.string k27) (fun x : S29 => (x.f0, x.f1))
theorem k29_open {w : World} {x : S29} {cs : List Value} (h : k29.K w x cs) : cs = [.string x.f0, .int .i64 x.f1.f0, .int .i64 x.f1.f1] := by
  obtain ⟨_, _, rfl, rfl, s1⟩ := h
  obtain rfl := k27_open s1
  exact rfl
theorem k29_mk (w : World) (x : S29)  : k29.K w x [.string x.f0, .int .i64 x.f1.f0, .int .i64 x.f1.f1] := ⟨[.string x.f0], [.int .i64 x.f1.f0, .int .i64 x.f1.f1], rfl, rfl, (k27_mk w x.f1 )⟩
def rd_T29 (xs : List S29) (i : Int) : S29 := xs.getD i.toNat z29
theorem at_T29 {w : World} {A : Option Addr} {n : Nat} {xs : List S29} (h : Kd.C k29 w A n xs) (i : Int) (h0 : 0 ≤ i) (h1 : i < n) : ∃ ad , A = some ad ∧ w.cell? (ad.add (i.toNat * 3)) = some (.string (rd_T29 xs i).f0) ∧ w.cell? ⟨(ad.add (i.toNat * 3)).block, (ad.add (i.toNat * 3)).off + 1, none⟩ = some (.int .i64 (rd_T29 xs i).f1.f0) ∧ w.cell? ⟨(ad.add (i.toNat * 3)).block, (ad.add (i.toNat * 3)).off + 2, none⟩ = some (.int .i64 (rd_T29 xs i).f1.f1) := by
  obtain ⟨ad, c, e, _, hK, hc0⟩ := Kd.C_get h z29 i h0 h1
  have hc : ∀ j u, c[j]? = some u → w.cell? (ad.add (i.toNat * 3 + j)) = some u := hc0
  obtain rfl := k29_open hK
  exact ⟨ad, e, hc 0 _ rfl, by rw [← add_field _ _ 1 (by omega)]; exact hc 1 _ rfl, by rw [← add_field _ _ 2 (by omega)]; exact hc 2 _ rfl⟩
structure S41 where
  f0 : Int
  f1 : Int
  f2 : S29
  f3 : ByteArray
def z41 : S41 := ⟨(0 : Int), (0 : Int), z29, (⟨#[]⟩ : ByteArray)⟩
def k41 : Kd S41 := Kd.iso (Kd.pair (Kd.int .i64) (Kd.pair (Kd.int .i64) (Kd.pair k29 Kd.string))) (fun x : S41 => (x.f0, x.f1, x.f2, x.f3))
theorem k41_open {w : World} {x : S41} {cs : List Value} (h : k41.K w x cs) : cs = [.int .i64 x.f0, .int .i64 x.f1, .string x.f2.f0, .int .i64 x.f2.f1.f0, .int .i64 x.f2.f1.f1, .string x.f3] := by
  obtain ⟨_, _, rfl, rfl, ⟨_, _, rfl, rfl, ⟨_, _, rfl, s2, rfl⟩⟩⟩ := h
  obtain rfl := k29_open s2
  exact rfl
def rd_T41 (xs : List S41) (i : Int) : S41 := xs.getD i.toNat z41
theorem at_T41 {w : World} {A : Option Addr} {n : Nat} {xs : List S41} (h : Kd.C k41 w A n xs) (i : Int) (h0 : 0 ≤ i) (h1 : i < n) : ∃ ad , A = some ad ∧ w.cell? (ad.add (i.toNat * 6)) = some (.int .i64 (rd_T41 xs i).f0) ∧ w.cell? ⟨(ad.add (i.toNat * 6)).block, (ad.add (i.toNat * 6)).off + 1, none⟩ = some (.int .i64 (rd_T41 xs i).f1) ∧ w.cell? ⟨(ad.add (i.toNat * 6)).block, (ad.add (i.toNat * 6)).off + 2, none⟩ = some (.string (rd_T41 xs i).f2.f0) ∧ w.cell? ⟨(ad.add (i.toNat * 6)).block, (ad.add (i.toNat * 6)).off + 3, none⟩ = some (.int .i64 (rd_T41 xs i).f2.f1.f0) ∧ w.cell? ⟨(ad.add (i.toNat * 6)).block, (ad.add (i.toNat * 6)).off + 4, none⟩ = some (.int .i64 (rd_T41 xs i).f2.f1.f1) ∧ w.cell? ⟨(ad.add (i.toNat * 6)).block, (ad.add (i.toNat * 6)).off + 5, none⟩ = some (.string (rd_T41 xs i).f3) := by
  obtain ⟨ad, c, e, _, hK, hc0⟩ := Kd.C_get h z41 i h0 h1
  have hc : ∀ j u, c[j]? = some u → w.cell? (ad.add (i.toNat * 6 + j)) = some u := hc0
  obtain rfl := k41_open hK
  exact ⟨ad, e, hc 0 _ rfl, by rw [← add_field _ _ 1 (by omega)]; exact hc 1 _ rfl, by rw [← add_field _ _ 2 (by omega)]; exact hc 2 _ rfl, by rw [← add_field _ _ 3 (by omega)]; exact hc 3 _ rfl, by rw [← add_field _ _ 4 (by omega)]; exact hc 4 _ rfl, by rw [← add_field _ _ 5 (by omega)]; exact hc 5 _ rfl⟩
structure S35 where
  f0 : Bool
  f1 : (List S29)
  f2 : (List Int)
end Go.Proofs.Ytjaddmflopahiaa.Q
end
section
namespace Go.Proofs.Bt
open Go Go.RowKit
set_option linter.unusedVariables false
set_option linter.unusedSimpArgs false
variable {P : Program}
def splice (cur : List Value) (o : Nat) (cs : List Value) : List Value := cur.take o ++ cs ++ cur.drop (o + cs.length)
theorem splice_len {cur : List Value} {o : Nat} {cs : List Value} (h : o + cs.length ≤ cur.length) : (splice cur o cs).length = cur.length := by
  simp only [splice, List.length_append, List.length_take, List.length_drop]
  omega
theorem splice_take {cur : List Value} {o : Nat} {cs : List Value} (k : Nat) (h : k ≤ o) (ho : o ≤ cur.length) : (splice cur o cs).take k = cur.take k := by
  unfold splice
  rw [List.append_assoc, List.take_append_of_le_length (by rw [List.length_take]; omega), List.take_take, Nat.min_eq_left h]
theorem splice_take_end {cur : List Value} {o : Nat} {cs : List Value} (ho : o ≤ cur.length) : (splice cur o cs).take (o + cs.length) = cur.take o ++ cs := by
  unfold splice
  rw [List.take_append_of_le_length (by simp only [List.length_append, List.length_take]; omega), List.take_of_length_le (by simp only [List.length_append, List.length_take]; omega)]
def Row (w : World) (e : TypeId) (sz : Nat) (v : Value) (n : Nat) (xs : List Value) : Prop :=
  xs.length = n * sz ∧ (∀ u ∈ xs, u.oneCell' = true) ∧
  ((v = .slice none 0 0 ∧ n = 0) ∨
   ∃ g cap cur, v = .slice (some ⟨g, 0, none⟩) n cap ∧ w.heap[g]? = some (.cells cur e (0, 0)) ∧ n ≤ cap ∧ cap ≤ maxLen ∧ cap * sz ≤ cur.size ∧ cur.toList.take (n * sz) = xs)
variable {w w' : World} {e : TypeId} {sz n : Nat} {v : Value} {xs : List Value}
theorem Row.nil (w : World) (e : TypeId) (sz : Nat) : Row w e sz (.slice none 0 0) 0 [] := ⟨by simp, by simp, .inl ⟨rfl, rfl⟩⟩
theorem Row.move (h : Row w e sz v n xs) (hm : ∀ k, v.ownBlock = some k → w'.heap[k]? = w.heap[k]?) : Row w' e sz v n xs := by
  obtain ⟨h0, h1, h2⟩ := h
  refine ⟨h0, h1, ?_⟩
  rcases h2 with h2 | ⟨g, cap, cur, rfl, hg, r⟩
  · exact .inl h2
  · exact .inr ⟨g, cap, cur, rfl, (hm g rfl).trans hg, r⟩
theorem Row.lt (h : Row w e sz v n xs) : ∀ k, v.ownBlock = some k → k < w.heap.size := by
  intro k hk
  rcases h.2.2 with ⟨rfl, _⟩ | ⟨g, cap, cur, rfl, hg, _⟩
  · simp [Value.ownBlock] at hk
  · simp [Value.ownBlock] at hk
    subst hk
    exact (Array.getElem?_eq_some_iff.1 hg).1
theorem Row.grown {row : Option Nat} (h : Row w e sz v n xs) (hg : w.grownBy w' row) (hne : ∀ k, v.ownBlock = some k → some k ≠ row) : Row w' e sz v n xs :=
  h.move fun k hk => hg.block k (h.lt k hk) (hne k hk)
theorem Row.below (h : Row w e sz v n xs) (hb : Below w.heap.size w w') : Row w' e sz v n xs := h.move fun k hk => hb.block k (h.lt k hk)
theorem Row.cell (h : Row w e sz v n xs) {g cap : Nat} (hv : v = .slice (some ⟨g, 0, none⟩) n cap) (j : Nat) (u : Value) (hu : xs[j]? = some u) : w.cell? ⟨g, j, none⟩ = some u := by
  obtain ⟨_, _, h2⟩ := h
  rcases h2 with ⟨rfl, _⟩ | ⟨g', cap', cur, rfl, hg, _, _, _, ht⟩
  · simp at hv
  · simp at hv
    obtain ⟨rfl, rfl⟩ := hv
    rw [cell_of_row w g' j cur e (0, 0) hg]
    rw [← ht, List.getElem?_take] at hu
    split at hu
    · simpa using hu
    · cases hu
theorem Row.frozen (h : Row w e sz v n xs) {g cap : Nat} (hv : v = .slice (some ⟨g, 0, none⟩) n cap) (j : Nat) : w.frozen? ⟨g, j, none⟩ = false := by
  obtain ⟨_, _, h2⟩ := h
  rcases h2 with ⟨rfl, _⟩ | ⟨g', cap', cur, rfl, hg, _⟩
  · simp at hv
  · simp at hv
    obtain ⟨rfl, rfl⟩ := hv
    exact frozen_of_row w g' j cur e hg
theorem grown_set (w : World) (g : Nat) (a : Array Value) : w.grownBy (w.setRow g a) (some g) :=
  ⟨rfl, rfl, rfl, by simp, fun k _ hk => setRow_other w g k a (fun e => hk (by rw [e]))⟩
theorem grown_alloc (w : World) (o : Obj) (row : Option Nat) : w.grownBy (w.drew.alloc o) row := ⟨rfl, rfl, rfl, by simp, fun k hk _ => heap_alloc_old w.drew o hk⟩
theorem run_copy_row (w : World) (dT sT ty e : TypeId) (i : TypeInfo) (ht : P.underlying dT = some (.slice e)) (hi : P.info? e = some i) (g o dLen dCap : Nat) (cur : Array Value) (hg : w.heap[g]? = some (.cells cur e (0, 0)))
    (a : Addr) (sLen sCap : Nat) (cs : List Value) (hn : cs.length = Nat.min sLen dLen * i.size) (hsrc : ∀ j u, cs[j]? = some u → w.cell? (a.add j) = some u) (hfit : o + cs.length ≤ cur.size) (h1 : ∀ u ∈ cs, u.oneCell' = true) :
    (Builtin.copy_ #[dT, sT] ty #[.slice (some ⟨g, o, none⟩) dLen dCap, .slice (some a) sLen sCap]).run P w = .ok (goInt (Nat.min sLen dLen)) (w.setRow g (splice cur.toList o cs).toArray) := by
  have hf := run_firstCells_some (P := P) w i.size (Nat.min sLen dLen) a sLen sCap cs hn hsrc
  have hst := run_storeCells_at P g o e cs 0 cur w hg (by simpa using hfit) h1
  simp only [Nat.add_zero] at hst
  simp [Builtin.copy_, run_underlying ht, Builtin.lenOf, sizeOf, typeInfo, hi, hf, hst, splice]
theorem size_zeroCells (z : Array Value) (n : Nat) : (Builtin.zeroCells z n).size = n * z.size := by simp [Builtin.zeroCells]
theorem zeroCells_one (z : Array Value) (n : Nat) (h : ∀ u ∈ z, u.oneCell' = true) : ∀ u ∈ (Builtin.zeroCells z n).toList, u.oneCell' = true := by
  intro u hu
  simp only [Builtin.zeroCells, Array.toList_map, List.mem_map] at hu
  obtain ⟨j, hj, rfl⟩ := hu
  have hj' : j < n * z.size := by simpa using hj
  have hz : 0 < z.size := by
    rcases Nat.eq_zero_or_pos z.size with h0 | h0
    · rw [h0] at hj'; omega
    · exact h0
  have hlt := Nat.mod_lt j hz
  rw [getElem!_pos z _ hlt]
  exact h _ (Array.getElem_mem hlt)
theorem run_clear_row (w : World) (t ty e : TypeId) (i : TypeInfo) (z : Value) (ht : P.underlying t = some (.slice e)) (hi : P.info? e = some i) (hz : i.zero = some z) (h1 : ∀ u ∈ z.cells, u.oneCell' = true) (g o n c : Nat) (hn : 0 < n) (cur : Array Value) (hg : w.heap[g]? = some (.cells cur e (0, 0)))
    (hfit : o + n * z.cells.size ≤ cur.size) :
    (Builtin.clear_ #[t] ty #[.slice (some ⟨g, o, none⟩) n c]).run P w = .ok (.tuple #[]) (w.setRow g (splice cur.toList o (Builtin.zeroCells z.cells n).toList).toArray) := by
  have hst := run_storeCells_at P g o e (Builtin.zeroCells z.cells n).toList 0 cur w hg (by simp [size_zeroCells]; exact hfit) (zeroCells_one _ _ h1)
  simp only [Nat.add_zero] at hst
  obtain ⟨m, rfl⟩ : ∃ m, n = m + 1 := ⟨n - 1, by omega⟩
  simp [Builtin.clear_, run_underlying ht, zeroValue, typeInfo, hi, hz, hst, splice]
theorem run_append_grow_zeros (w : World) (t tn ty e : TypeId) (i : TypeInfo) (z : Value) (k : IntKind) (ht : P.underlying t = some (.slice e)) (htn : P.underlying tn = some (.int k)) (hi : P.info? e = some i) (hz : i.zero = some z)
    (b : Addr) (sLen sCap n : Nat) (olds : List Value) (hlo : olds.length = sLen * i.size) (holds : ∀ j u, olds[j]? = some u → w.cell? (b.add j) = some u) (hs : 0 < i.size) (h0 : 0 < n)
    (hg : sCap < sLen + n) (h63 : sLen + n ≤ 9223372036854775807) (h48 : n * i.bytes ≤ 281474976710656) (hfit : Builtin.nextslicecap (sLen + n) sCap * i.bytes ≤ 281474976710656) :
    (Builtin.append_ #[t, tn] ty #[.slice (some b) sLen sCap, .int k n]).run P w =
      .ok (.slice (some ⟨w.heap.size, 0, none⟩) (sLen + n) (grownCap w (sLen + n) sCap e))
        (w.drew.alloc (.cells (olds.toArray ++ Builtin.zeroCells z.cells n ++ Builtin.zeroCells z.cells (grownCap w (sLen + n) sCap e - (sLen + n))) e)) := by
  have hn : ¬ (sLen + n ≤ sCap) := by omega
  have hw : IntKind.i64.wrap (n : Int) = n := by rw [IntKind.wrap_i64]; omega
  have h63' : ¬ (9223372036854775807 < ((sLen : Int) + (n : Int))) := by omega
  have h48' : ¬ (281474976710656 < Builtin.nextslicecap (sLen + n) sCap * i.bytes) := by omega
  have h48i : ¬ (281474976710656 < (n : Int) * (i.bytes : Int)) := by
    rw [← Int.natCast_mul]
    omega
  have hneg : ¬ ((n : Int) < 0) := by omega
  have hn0 : n ≠ 0 := by omega
  have hns : ¬ (n * i.size = 0) := Nat.mul_ne_zero hn0 (by omega)
  have hf := run_firstCells_some (P := P) w.drew i.size sLen b sLen sCap olds hlo (by simpa using holds)
  simp [Builtin.append_, run_underlying ht, run_underlying htn, sizeOf, typeInfo, zeroValue, hi, hz, asInt, asIntOf, hw, hn, hn0, hneg, hns, h63', h48', h48i, Question.forced, hf, newRow, grownCap]
theorem step_append_runI {ops : Array Oper} {o : Oper} {a : Act} {w : World} {K : Act → World → Prop} {Q : Exit → Act → World → Prop} {E : Prop}
    (hg : o.guard = none) (d x : Operand) (dT sT : TypeId) (hop : o.op = Op.call { callee := Callee.builtin Builtin.append, args := #[d, x], argTypes := #[dT, sT] })
    (v u : Value) (hd : a.eval d = v) (hx : a.eval x = u) {v' : Value} {w' : World} (hr : (Builtin.append_ #[dT, sT] o.type #[v, u]).run P w = .ok v' w') (hK : K (a.put o.dst v') w') :
    if Region.wanted o (yielded ops a.tmps) = true then Oper.wp P o a w K Q else E := by
  have hw : Region.wanted o (yielded ops a.tmps) = true := by simp [Region.wanted, hg]
  rw [if_pos hw]
  unfold Oper.wp
  simp [execOp, hop, resolve, invoke, builtin, hd, hx, hr, Result.andThen]
  exact hK
theorem wp_clear_run (w : World) {o : Oper} {a : Act} {K : Act → World → Prop} {Q : Exit → Act → World → Prop} (s : Operand) (t : TypeId)
    (ho : o.op = .call { callee := .builtin .clear, args := #[s], argTypes := #[t] }) (v : Value) (hs : a.eval s = v) {v' : Value} {w' : World}
    (hr : (Builtin.clear_ #[t] o.type #[v]).run P w = .ok v' w') (h : K (a.put o.dst v') w') : o.wp P a w K Q := by
  unfold Oper.wp execOp
  simp only [ho, resolve, invoke, builtin, Sem.run_bind, Sem.run_pure, Result.andThen_ok, List.map_toArray, List.map_cons, List.map_nil, hs, hr]
  exact h
theorem wpList_clear_run (w : World) {ops : Array Oper} {rest : List Oper} {o : Oper} {a : Act} {Q : Exit → Act → World → Prop} (hgd : o.guard = none) (s : Operand) (t : TypeId)
    (ho : o.op = .call { callee := .builtin .clear, args := #[s], argTypes := #[t] }) (v : Value) (hs : a.eval s = v) {v' : Value} {w' : World}
    (hr : (Builtin.clear_ #[t] o.type #[v]).run P w = .ok v' w') (h : wpList P ops Q rest (a.put o.dst v') w') : wpList P ops Q (o :: rest) a w :=
  wpList_plain hgd fun _ hK => wp_clear_run w s t ho v hs hr (hK _ _ h)
theorem Row.cut {w : World} {e : TypeId} {sz n g cap : Nat} {xs : List Value} (h : Row w e sz (.slice (some ⟨g, 0, none⟩) n cap) n xs) (k c : Nat) (hk : k ≤ n) (hkc : k ≤ c) (hc : c ≤ cap) : Row w e sz (.slice (some ⟨g, 0, none⟩) k c) k (xs.take (k * sz)) := by
  obtain ⟨h0, h1, h2⟩ := h
  rcases h2 with ⟨h2, _⟩ | ⟨g', cap', cur, hv, hg, hn, hm, hs, ht⟩
  · simp at h2
  · simp at hv
    obtain ⟨rfl, rfl⟩ := hv
    have hkn : k * sz ≤ n * sz := Nat.mul_le_mul_right _ hk
    have hcc : c * sz ≤ cap * sz := Nat.mul_le_mul_right _ hc
    refine ⟨by rw [List.length_take, h0, Nat.min_eq_left hkn], fun u hu => h1 u (List.mem_of_mem_take hu), .inr ⟨g, c, cur, rfl, hg, hkc, by omega, by omega, ?_⟩⟩
    rw [← ht, List.take_take, Nat.min_eq_left hkn]
theorem nmin {a b : Nat} (h : a ≤ b) : Nat.min a b = a := Nat.min_eq_left h
end Go.Proofs.Bt
end
section
namespace Go.Proofs.Ytjaddmflopahiaa.Q
open Go.RowKit Go.Proofs.YtjaddmflopahiaaW.PrintWords Go.Proofs.YtjaddmflopahiaaW.PrintLast Go.Proofs.YtjaddmflopahiaaW.PrintMore
set_option linter.unusedVariables false
set_option linter.unusedSimpArgs false
set_option maxRecDepth 100000
def cmpB (a b : ByteArray) : Int := if Op.bytesLess a.toList b.toList = true then -1 else if (a.toList == b.toList) = true then 0 else 1
def cmp_Compare_string.f (a0 : ByteArray) (a1 : ByteArray) : Option (Int) := some (cmpB a0 a1)
set_option maxHeartbeats 1000000 in
theorem cmp_Compare_string.calls (a0 : ByteArray) (a1 : ByteArray) (r : Int) (w : World) (h : cmp_Compare_string.f a0 a1 = some r) :
    Calls Try.prog 66 #[.string a0, .string a1] w fun e w' => e = .returned (.int .i64 r) ∧ Drawn0 w w' := by
  unfold cmp_Compare_string.f cmpB at h
  simp only [Option.some.injEq] at h
  subst h
  by_cases h1 : Op.bytesLess a0.toList a1.toList = true
  · rw [if_pos h1]
    go_enter Try.func66, Try.ntmps66
    go_wp2
    go_ret
    exact ⟨rfl, Drawn0.refl _⟩
  · have h1' : Op.bytesLess a0.toList a1.toList = false := by simpa using h1
    rw [if_neg h1]
    by_cases h2 : (a0.toList == a1.toList) = true
    · rw [if_pos h2]
      go_enter Try.func66, Try.ntmps66
      go_wp2
      go_ret
      exact ⟨rfl, Drawn0.refl _⟩
    · have h2' : (a0.toList == a1.toList) = false := by simpa using h2
      rw [if_neg h2]
      go_enter Try.func66, Try.ntmps66
      go_wp2
      go_ret
      exact ⟨rfl, Drawn0.refl _⟩
end Go.Proofs.Ytjaddmflopahiaa.Q
end
section
namespace Go.Proofs.Ytjaddmflopahiaa.Q
open Go.RowKit Go.Proofs.YtjaddmflopahiaaW.PrintWords Go.Proofs.YtjaddmflopahiaaW.PrintLast Go.Proofs.YtjaddmflopahiaaW.PrintMore
attribute [local go_sem] max2_int min2_int max_two min_two max_three min_three max_four min_four
set_option linter.unusedVariables false
set_option linter.unusedSimpArgs false
def cmp_Or_int.l0 : Nat → Int → List Int → Int → Int → Option (Int)
  | 0, _, _, _, _ => none
  | k + 1, x3, x6, x7, x8 => if x8 < x7 then (if 0 ≤ x8 then (if x8 < (x6.length : Int) then (if (rd x6 x8) = x3 then (cmp_Or_int.l0 k x3 x6 x7 (wrap64 (x8 + 1))) else (some (rd x6 x8))) else (none)) else (none)) else (some x3)
def cmp_Or_int.f (k : Nat) (l0 : List Int) : Option (Int) := cmp_Or_int.l0 k 0 l0 (l0.length : Int) 0
theorem cmp_Or_int.mono_l : ∀ k, (∀ y0 y1 y2 y3, LeO (cmp_Or_int.l0 k y0 y1 y2 y3) (cmp_Or_int.l0 (k + 1) y0 y1 y2 y3))
  | 0 => fun _ _ _ _ r h => by simp [cmp_Or_int.l0] at h
  | k + 1 => by
    have ih0 := cmp_Or_int.mono_l k
    · intro y0 y1 y2 y3
      unfold cmp_Or_int.l0
      repeat' first
      | (with_reducible exact ih0 _ _ _ _)
      | (with_reducible exact LeO.refl _)
      | (with_reducible exact LeO.none _)
      | (with_reducible refine LeO.ite ?_ ?_)
      | (with_reducible refine LeO.bind ?_ (fun _ => ?_))
      | exact ih0 _ _ _ _
      | exact LeO.none _
      | refine LeO.ite ?_ ?_
      | refine LeO.bind ?_ (fun _ => ?_)
theorem cmp_Or_int.mono : ∀ a0 k, LeO (cmp_Or_int.f k a0) (cmp_Or_int.f (k + 1) a0) := by
  intro a0 k
  have ih0 := cmp_Or_int.mono_l k
  unfold cmp_Or_int.f
  repeat' first
      | (with_reducible exact ih0 _ _ _ _)
      | (with_reducible exact LeO.refl _)
      | (with_reducible exact LeO.none _)
      | (with_reducible refine LeO.ite ?_ ?_)
      | (with_reducible refine LeO.bind ?_ (fun _ => ?_))
      | exact ih0 _ _ _ _
      | exact LeO.none _
      | refine LeO.ite ?_ ?_
      | refine LeO.bind ?_ (fun _ => ?_)
set_option maxHeartbeats 8000000 in
set_option maxRecDepth 100000 in
theorem cmp_Or_int.calls (k : Nat) (A0 : Option Addr) (c0 : Nat) (l0 : List Int) (r : Int) (w : World) (hr0 : Kd.C (Kd.int .i64) w A0 l0.length l0) (hc0 : l0.length ≤ c0) (h : cmp_Or_int.f k l0 = some r) :
    Calls Try.prog 65 #[.slice A0 l0.length c0] w fun e w' => e = .returned (.int .i64 r) ∧ Drawn0 w w' := by
  have HR0 := Aside0.mk hr0
  have HC0 := Aside0.mk hc0
  clear hr0 hc0
  have H : (cmp_Or_int.l0 k 0 l0 (l0.length : Int) 0) = some r := h
  clear h
  have H' := Aside0.mk H
  clear H
  go_enter Try.func65, Try.ntmps65
  go_wp2
  go_loopg [8] k (fun kq v8 w' => ∃ (x8_1 : Int), v8 = .int .i64 x8_1 ∧ Aside0 (cmp_Or_int.l0 kq 0 l0 (l0.length : Int) x8_1 = some r) ∧ Aside0 (kq ≤ k) ∧ Drawn0 w w')
  case atStart => exact ⟨(0), (by first | rfl | (simp; done) | (simp [*]; done)), H', ⟨Nat.le_refl _⟩, by repeat (first | exact Drawn0.refl _ | apply Drawn0.step)⟩
  case round =>
    clear H'
    obtain ⟨x8_1, rfl, HA, HK1, ⟨m1, rfl⟩⟩ := hrel
    cases gk with
    | zero => exact absurd HA.out (by simp [cmp_Or_int.l0])
    | succ k1 =>
      have H := HA.out
      clear HA
      simp only [cmp_Or_int.l0] at H
      by_cases c2 : x8_1 < (l0.length : Int)
      · rw [if_pos c2] at H
        have c2b0 : decide (x8_1 < (l0.length : Int)) = true := decide_eq_true c2
        clear c2
        by_cases c3 : 0 ≤ x8_1
        · rw [if_pos c3] at H
          have c3b0 : decide (0 ≤ x8_1) = true := decide_eq_true c3
          clear c3
          by_cases c4 : x8_1 < (l0.length : Int)
          · rw [if_pos c4] at H
            have c4b0 : decide (x8_1 < (l0.length : Int)) = true := decide_eq_true c4
            clear c4
            by_cases c5 : (rd l0 x8_1) = 0
            · rw [if_pos c5] at H
              have c5b0 : ((rd l0 x8_1) == 0) = true := beq_iff_eq.mpr c5
              have c5b1 : ((rd l0 x8_1) != 0) = false := bne_eq_false_iff_eq.mpr c5
              clear c5
              have H' := Aside0.mk H
              clear H
              have p101 : 0 ≤ (x8_1 : Int) := of_decide_eq_true (by first | (with_reducible assumption) | assumption)
              have q101 : x8_1 < (l0.length : Int) := of_decide_eq_true (by first | (with_reducible assumption) | assumption)
              obtain ⟨ad101, e101, hx101_0⟩ := Kd.at_int HR0.out x8_1 p101 q101
              cases e101
              replace p101 := eq_true p101
              replace q101 := eq_true q101
              go_wp2
              go_roundg k1
              case measure => have := HK1.out; omega
              case rel => exact ⟨(wrap64 (x8_1 + 1)), (by first | rfl | (simp; done) | (simp [*]; done)), H', ⟨by have := HK1.out; omega⟩, by repeat (first | exact Drawn0.refl _ | apply Drawn0.step)⟩
            · rw [if_neg c5] at H
              have c5b0 : ((rd l0 x8_1) == 0) = false := beq_eq_false_iff_ne.mpr c5
              have c5b1 : ((rd l0 x8_1) != 0) = true := bne_iff_ne.mpr c5
              obtain rfl := Option.some.inj H
              have p101 : 0 ≤ (x8_1 : Int) := of_decide_eq_true (by first | (with_reducible assumption) | assumption)
              have q101 : x8_1 < (l0.length : Int) := of_decide_eq_true (by first | (with_reducible assumption) | assumption)
              obtain ⟨ad101, e101, hx101_0⟩ := Kd.at_int HR0.out x8_1 p101 q101
              cases e101
              replace p101 := eq_true p101
              replace q101 := eq_true q101
              go_wp2
              go_ret
              exact ⟨by first | rfl | (simp; done) | (simp [*]; done), by repeat (first | exact Drawn0.refl _ | apply Drawn0.step)⟩
          · rw [if_neg c4] at H
            exact absurd H (by simp)
        · rw [if_neg c3] at H
          exact absurd H (by simp)
      · rw [if_neg c2] at H
        have c2b0 : decide (x8_1 < (l0.length : Int)) = false := decide_eq_false c2
        clear c2
        obtain rfl := Option.some.inj H
        go_wp2
        go_ret
        exact ⟨by first | rfl | (simp; done) | (simp [*]; done), by repeat (first | exact Drawn0.refl _ | apply Drawn0.step)⟩
end Go.Proofs.Ytjaddmflopahiaa.Q
end
section
namespace Go.Proofs.Ytjaddmflopahiaa.Q
open Go.RowKit Go.Proofs.YtjaddmflopahiaaW.PrintWords Go.Proofs.YtjaddmflopahiaaW.PrintLast Go.Proofs.YtjaddmflopahiaaW.PrintMore
attribute [local go_sem] max2_int min2_int max_two min_two max_three min_three max_four min_four
set_option linter.unusedVariables false
set_option linter.unusedSimpArgs false
def cmp_isNaN_int.f (a0 : Int) : Option (Bool) := some (a0 != a0)
set_option maxHeartbeats 8000000 in
set_option maxRecDepth 100000 in
theorem cmp_isNaN_int.calls (a0 : Int) (r : Bool) (w : World) (h : cmp_isNaN_int.f a0 = some r) :
    Calls Try.prog 72 #[.int .i64 a0] w fun e w' => e = .returned (.bool r) ∧ Drawn0 w w' := by
  have H : (some (a0 != a0)) = some r := h
  clear h
  obtain rfl := Option.some.inj H
  go_enter Try.func72, Try.ntmps72
  go_wp2
  go_ret
  exact ⟨by first | rfl | (simp; done) | (simp [*]; done), by repeat (first | exact Drawn0.refl _ | apply Drawn0.step)⟩
end Go.Proofs.Ytjaddmflopahiaa.Q
end
section
namespace Go.Proofs.Ytjaddmflopahiaa.Q
open Go.RowKit Go.Proofs.YtjaddmflopahiaaW.PrintWords Go.Proofs.YtjaddmflopahiaaW.PrintLast Go.Proofs.YtjaddmflopahiaaW.PrintMore
attribute [local go_sem] max2_int min2_int max_two min_two max_three min_three max_four min_four
set_option linter.unusedVariables false
set_option linter.unusedSimpArgs false
def cmp_Compare_int.f (a0 : Int) (a1 : Int) : Option (Int) := (cmp_isNaN_int.f a0).bind fun t102 => ((cmp_isNaN_int.f a1).bind fun t103 => (if t102 = true then (if t103 = true then (some 0) else (some (-1))) else (if t103 = true then (some 1) else (if a0 < a1 then (some (-1)) else (if a0 > a1 then (some 1) else (some 0))))))
set_option maxHeartbeats 8000000 in
set_option maxRecDepth 100000 in
theorem cmp_Compare_int.calls (a0 : Int) (a1 : Int) (r : Int) (w : World) (h : cmp_Compare_int.f a0 a1 = some r) :
    Calls Try.prog 67 #[.int .i64 a0, .int .i64 a1] w fun e w' => e = .returned (.int .i64 r) ∧ Drawn0 w w' := by
  have H : ((cmp_isNaN_int.f a0).bind fun t102 => ((cmp_isNaN_int.f a1).bind fun t103 => (if t102 = true then (if t103 = true then (some 0) else (some (-1))) else (if t103 = true then (some 1) else (if a0 < a1 then (some (-1)) else (if a0 > a1 then (some 1) else (some 0))))))) = some r := h
  clear h
  replace H := Option.bind_eq_some_iff.mp H
  obtain ⟨t102, A30, H⟩ := H
  replace H : ((cmp_isNaN_int.f a1).bind fun t103 => (if t102 = true then (if t103 = true then (some 0) else (some (-1))) else (if t103 = true then (some 1) else (if a0 < a1 then (some (-1)) else (if a0 > a1 then (some 1) else (some 0)))))) = some r := H
  have A3 := Aside0.mk A30
  clear A30
  replace H := Option.bind_eq_some_iff.mp H
  obtain ⟨t103, A40, H⟩ := H
  replace H : (if t102 = true then (if t103 = true then (some 0) else (some (-1))) else (if t103 = true then (some 1) else (if a0 < a1 then (some (-1)) else (if a0 > a1 then (some 1) else (some 0))))) = some r := H
  have A4 := Aside0.mk A40
  clear A40
  by_cases c5 : t102 = true
  · subst c5
    have H1 : (if t103 = true then (some 0) else (some (-1))) = some r := by rw [if_pos rfl] at H; exact H
    clear H
    have H := H1
    clear H1
    by_cases c6 : t103 = true
    · subst c6
      have H1 : (some 0) = some r := by rw [if_pos rfl] at H; exact H
      clear H
      have H := H1
      clear H1
      obtain rfl := Option.some.inj H
      go_enter Try.func67, Try.ntmps67
      go_wp2_with (first | ((with_reducible refine gate_callee (f := 72) rfl ?_); refine goesL_ (some 8) rfl rfl Try.func72 (by kernel_rfl) rfl #[.int .i64 a0] rfl (by (try simp only [List.map_toArray, List.map_cons, List.map_nil]); first | done | rfl | (simp only [List.length_drop, List.length_take]; rfl)) ?_; (with_reducible refine (cmp_isNaN_int.calls a0 true _ A3.out).mono ?_); rintro e w' ⟨rfl, ⟨nd, rfl⟩⟩; refine ⟨_, rfl, ?_⟩) | ((with_reducible refine gate_callee (f := 72) rfl ?_); refine goesL_ (some 10) rfl rfl Try.func72 (by kernel_rfl) rfl #[.int .i64 a1] rfl (by (try simp only [List.map_toArray, List.map_cons, List.map_nil]); first | done | rfl | (simp only [List.length_drop, List.length_take]; rfl)) ?_; (with_reducible refine (cmp_isNaN_int.calls a1 true _ A4.out).mono ?_); rintro e w' ⟨rfl, ⟨nd, rfl⟩⟩; refine ⟨_, rfl, ?_⟩))
      go_ret
      exact ⟨by first | rfl | (simp; done) | (simp [*]; done), by repeat (first | exact Drawn0.refl _ | apply Drawn0.step)⟩
    · replace c6 := Bool.eq_false_iff.mpr c6
      subst c6
      have H1 : (some (-1)) = some r := by rw [if_neg (show ¬ (false = true) by decide)] at H; exact H
      clear H
      have H := H1
      clear H1
      obtain rfl := Option.some.inj H
      go_enter Try.func67, Try.ntmps67
      go_wp2_with (first | ((with_reducible refine gate_callee (f := 72) rfl ?_); refine goesL_ (some 8) rfl rfl Try.func72 (by kernel_rfl) rfl #[.int .i64 a0] rfl (by (try simp only [List.map_toArray, List.map_cons, List.map_nil]); first | done | rfl | (simp only [List.length_drop, List.length_take]; rfl)) ?_; (with_reducible refine (cmp_isNaN_int.calls a0 true _ A3.out).mono ?_); rintro e w' ⟨rfl, ⟨nd, rfl⟩⟩; refine ⟨_, rfl, ?_⟩) | ((with_reducible refine gate_callee (f := 72) rfl ?_); refine goesL_ (some 10) rfl rfl Try.func72 (by kernel_rfl) rfl #[.int .i64 a1] rfl (by (try simp only [List.map_toArray, List.map_cons, List.map_nil]); first | done | rfl | (simp only [List.length_drop, List.length_take]; rfl)) ?_; (with_reducible refine (cmp_isNaN_int.calls a1 false _ A4.out).mono ?_); rintro e w' ⟨rfl, ⟨nd, rfl⟩⟩; refine ⟨_, rfl, ?_⟩))
      go_ret
      exact ⟨by first | rfl | (simp; done) | (simp [*]; done), by repeat (first | exact Drawn0.refl _ | apply Drawn0.step)⟩
  · replace c5 := Bool.eq_false_iff.mpr c5
    subst c5
    have H1 : (if t103 = true then (some 1) else (if a0 < a1 then (some (-1)) else (if a0 > a1 then (some 1) else (some 0)))) = some r := by rw [if_neg (show ¬ (false = true) by decide)] at H; exact H
    clear H
    have H := H1
    clear H1
    by_cases c7 : t103 = true
    · subst c7
      have H1 : (some 1) = some r := by rw [if_pos rfl] at H; exact H
      clear H
      have H := H1
      clear H1
      obtain rfl := Option.some.inj H
      go_enter Try.func67, Try.ntmps67
      go_wp2_with (first | ((with_reducible refine gate_callee (f := 72) rfl ?_); refine goesL_ (some 8) rfl rfl Try.func72 (by kernel_rfl) rfl #[.int .i64 a0] rfl (by (try simp only [List.map_toArray, List.map_cons, List.map_nil]); first | done | rfl | (simp only [List.length_drop, List.length_take]; rfl)) ?_; (with_reducible refine (cmp_isNaN_int.calls a0 false _ A3.out).mono ?_); rintro e w' ⟨rfl, ⟨nd, rfl⟩⟩; refine ⟨_, rfl, ?_⟩) | ((with_reducible refine gate_callee (f := 72) rfl ?_); refine goesL_ (some 10) rfl rfl Try.func72 (by kernel_rfl) rfl #[.int .i64 a1] rfl (by (try simp only [List.map_toArray, List.map_cons, List.map_nil]); first | done | rfl | (simp only [List.length_drop, List.length_take]; rfl)) ?_; (with_reducible refine (cmp_isNaN_int.calls a1 true _ A4.out).mono ?_); rintro e w' ⟨rfl, ⟨nd, rfl⟩⟩; refine ⟨_, rfl, ?_⟩))
      go_ret
      exact ⟨by first | rfl | (simp; done) | (simp [*]; done), by repeat (first | exact Drawn0.refl _ | apply Drawn0.step)⟩
    · replace c7 := Bool.eq_false_iff.mpr c7
      subst c7
      have H1 : (if a0 < a1 then (some (-1)) else (if a0 > a1 then (some 1) else (some 0))) = some r := by rw [if_neg (show ¬ (false = true) by decide)] at H; exact H
      clear H
      have H := H1
      clear H1
      by_cases c8 : a0 < a1
      · rw [if_pos c8] at H
        have c8b0 : decide (a0 < a1) = true := decide_eq_true c8
        clear c8
        obtain rfl := Option.some.inj H
        go_enter Try.func67, Try.ntmps67
        go_wp2_with (first | ((with_reducible refine gate_callee (f := 72) rfl ?_); refine goesL_ (some 8) rfl rfl Try.func72 (by kernel_rfl) rfl #[.int .i64 a0] rfl (by (try simp only [List.map_toArray, List.map_cons, List.map_nil]); first | done | rfl | (simp only [List.length_drop, List.length_take]; rfl)) ?_; (with_reducible refine (cmp_isNaN_int.calls a0 false _ A3.out).mono ?_); rintro e w' ⟨rfl, ⟨nd, rfl⟩⟩; refine ⟨_, rfl, ?_⟩) | ((with_reducible refine gate_callee (f := 72) rfl ?_); refine goesL_ (some 10) rfl rfl Try.func72 (by kernel_rfl) rfl #[.int .i64 a1] rfl (by (try simp only [List.map_toArray, List.map_cons, List.map_nil]); first | done | rfl | (simp only [List.length_drop, List.length_take]; rfl)) ?_; (with_reducible refine (cmp_isNaN_int.calls a1 false _ A4.out).mono ?_); rintro e w' ⟨rfl, ⟨nd, rfl⟩⟩; refine ⟨_, rfl, ?_⟩))
        go_ret
        exact ⟨by first | rfl | (simp; done) | (simp [*]; done), by repeat (first | exact Drawn0.refl _ | apply Drawn0.step)⟩
      · rw [if_neg c8] at H
        have c8b0 : decide (a0 < a1) = false := decide_eq_false c8
        clear c8
        by_cases c9 : a0 > a1
        · rw [if_pos c9] at H
          have c9b0 : decide (a1 < a0) = true := decide_eq_true c9
          clear c9
          obtain rfl := Option.some.inj H
          go_enter Try.func67, Try.ntmps67
          go_wp2_with (first | ((with_reducible refine gate_callee (f := 72) rfl ?_); refine goesL_ (some 8) rfl rfl Try.func72 (by kernel_rfl) rfl #[.int .i64 a0] rfl (by (try simp only [List.map_toArray, List.map_cons, List.map_nil]); first | done | rfl | (simp only [List.length_drop, List.length_take]; rfl)) ?_; (with_reducible refine (cmp_isNaN_int.calls a0 false _ A3.out).mono ?_); rintro e w' ⟨rfl, ⟨nd, rfl⟩⟩; refine ⟨_, rfl, ?_⟩) | ((with_reducible refine gate_callee (f := 72) rfl ?_); refine goesL_ (some 10) rfl rfl Try.func72 (by kernel_rfl) rfl #[.int .i64 a1] rfl (by (try simp only [List.map_toArray, List.map_cons, List.map_nil]); first | done | rfl | (simp only [List.length_drop, List.length_take]; rfl)) ?_; (with_reducible refine (cmp_isNaN_int.calls a1 false _ A4.out).mono ?_); rintro e w' ⟨rfl, ⟨nd, rfl⟩⟩; refine ⟨_, rfl, ?_⟩))
          go_ret
          exact ⟨by first | rfl | (simp; done) | (simp [*]; done), by repeat (first | exact Drawn0.refl _ | apply Drawn0.step)⟩
        · rw [if_neg c9] at H
          have c9b0 : decide (a1 < a0) = false := decide_eq_false c9
          clear c9
          obtain rfl := Option.some.inj H
          go_enter Try.func67, Try.ntmps67
          go_wp2_with (first | ((with_reducible refine gate_callee (f := 72) rfl ?_); refine goesL_ (some 8) rfl rfl Try.func72 (by kernel_rfl) rfl #[.int .i64 a0] rfl (by (try simp only [List.map_toArray, List.map_cons, List.map_nil]); first | done | rfl | (simp only [List.length_drop, List.length_take]; rfl)) ?_; (with_reducible refine (cmp_isNaN_int.calls a0 false _ A3.out).mono ?_); rintro e w' ⟨rfl, ⟨nd, rfl⟩⟩; refine ⟨_, rfl, ?_⟩) | ((with_reducible refine gate_callee (f := 72) rfl ?_); refine goesL_ (some 10) rfl rfl Try.func72 (by kernel_rfl) rfl #[.int .i64 a1] rfl (by (try simp only [List.map_toArray, List.map_cons, List.map_nil]); first | done | rfl | (simp only [List.length_drop, List.length_take]; rfl)) ?_; (with_reducible refine (cmp_isNaN_int.calls a1 false _ A4.out).mono ?_); rintro e w' ⟨rfl, ⟨nd, rfl⟩⟩; refine ⟨_, rfl, ?_⟩))
          go_ret
          exact ⟨by first | rfl | (simp; done) | (simp [*]; done), by repeat (first | exact Drawn0.refl _ | apply Drawn0.step)⟩
end Go.Proofs.Ytjaddmflopahiaa.Q
end
section
namespace Go.Proofs.Ytjaddmflopahiaa.Q
open Go.RowKit Go.Proofs.YtjaddmflopahiaaW.PrintWords Go.Proofs.YtjaddmflopahiaaW.PrintLast Go.Proofs.YtjaddmflopahiaaW.PrintMore
attribute [local go_sem] max2_int min2_int max_two min_two max_three min_three max_four min_four
set_option linter.unusedVariables false
set_option linter.unusedSimpArgs false
def btree_order.f (k : Nat) (a0_0 : ByteArray) (a0_1 : Int) (a0_2 : Int) (a1_0 : ByteArray) (a1_1 : Int) (a1_2 : Int) : Option (Int) := (cmp_Compare_string.f a0_0 a1_0).bind fun t106 => ((cmp_Compare_int.f a0_1 a1_1).bind fun t107 => ((cmp_Compare_int.f a0_2 a1_2).bind fun t108 => ((cmp_Or_int.f k (([t106, t107, t108] : List Int))).bind fun t112 => (some t112))))
theorem btree_order.mono : ∀ a0 a1 a2 a3 a4 a5 k, LeO (btree_order.f k a0 a1 a2 a3 a4 a5) (btree_order.f (k + 1) a0 a1 a2 a3 a4 a5) := by
  intro a0 a1 a2 a3 a4 a5 k
  unfold btree_order.f
  repeat' first
      | (with_reducible exact cmp_Or_int.mono _ _)
      | (with_reducible exact LeO.refl _)
      | (with_reducible exact LeO.none _)
      | (with_reducible refine LeO.ite ?_ ?_)
      | (with_reducible refine LeO.bind ?_ (fun _ => ?_))
      | exact cmp_Or_int.mono _ _
      | exact LeO.none _
      | refine LeO.ite ?_ ?_
      | refine LeO.bind ?_ (fun _ => ?_)
def btree_order.T1 : Bool × List (List Nat × List Nat) := (true, [([], []), ([0], [0]), ([], []), ([2], [2]), ([1, 3], [1, 3]), ([], []), ([5], [5]), ([6], [6]), ([], []), ([8], [8]), ([9], [9]), ([7, 10, 4], [7, 10]), ([], []), ([12], [12]), ([13], [13]), ([], []), ([15], [15]), ([16], [16]), ([14, 17, 11], [14, 17]), ([4, 11, 18], [4, 11, 18]), ([19, 18], [19]), ([20, 20, 0, 1, 2, 3, 4, 5, 6, 7, 8, 9, 10, 11, 12, 13, 14, 15, 16, 17, 18, 19, 20], [20])])
def btree_order.B1 : List Nat := [0, 1, 0, 4, 15, 0, 32, 96, 0, 256, 768, 2047, 0, 4096, 12288, 0, 32768, 98304, 262143, 524287, 1048575, 2097151]
theorem btree_order.tab1 : rtab .any (opsOf Try.f57 1) = btree_order.T1 := by kernel_rfl
theorem btree_order.bits1 : waitsOk btree_order.T1.2 btree_order.B1 = true := by kernel_rfl
set_option maxHeartbeats 8000000 in
set_option maxRecDepth 100000 in
theorem btree_order.calls (k : Nat) (a0_0 : ByteArray) (a0_1 : Int) (a0_2 : Int) (a1_0 : ByteArray) (a1_1 : Int) (a1_2 : Int) (r : Int) (w : World) (h : btree_order.f k a0_0 a0_1 a0_2 a1_0 a1_1 a1_2 = some r) :
    Calls Try.prog 57 #[.agg #[.string a0_0, .int .i64 a0_1, .int .i64 a0_2], .agg #[.string a1_0, .int .i64 a1_1, .int .i64 a1_2]] w fun e w' => e = .returned (.int .i64 r) ∧ Below w.heap.size w w' := by
  have hu29 := Try.underlying29
  have HB := Aside0.mk (Below.refl w.heap.size w)
  have H : ((cmp_Compare_string.f a0_0 a1_0).bind fun t106 => ((cmp_Compare_int.f a0_1 a1_1).bind fun t107 => ((cmp_Compare_int.f a0_2 a1_2).bind fun t108 => ((cmp_Or_int.f k (([t106, t107, t108] : List Int))).bind fun t112 => (some t112))))) = some r := h
  clear h
  replace H := Option.bind_eq_some_iff.mp H
  obtain ⟨t106, A30, H⟩ := H
  replace H : ((cmp_Compare_int.f a0_1 a1_1).bind fun t107 => ((cmp_Compare_int.f a0_2 a1_2).bind fun t108 => ((cmp_Or_int.f k (([t106, t107, t108] : List Int))).bind fun t112 => (some t112)))) = some r := H
  have A3 := Aside0.mk A30
  clear A30
  replace H := Option.bind_eq_some_iff.mp H
  obtain ⟨t107, A40, H⟩ := H
  replace H : ((cmp_Compare_int.f a0_2 a1_2).bind fun t108 => ((cmp_Or_int.f k (([t106, t107, t108] : List Int))).bind fun t112 => (some t112))) = some r := H
  have A4 := Aside0.mk A40
  clear A40
  replace H := Option.bind_eq_some_iff.mp H
  obtain ⟨t108, A50, H⟩ := H
  replace H : ((cmp_Or_int.f k (([t106, t107, t108] : List Int))).bind fun t112 => (some t112)) = some r := H
  have A5 := Aside0.mk A50
  clear A50
  obtain ⟨y109, hy109⟩ : ∃ y_ : List Int, y_ = (([t106, t107, t108] : List Int)) := ⟨_, rfl⟩
  replace H : ((cmp_Or_int.f k y109).bind fun t112 => (some t112)) = some r := by first | (rw [hy109]; with_reducible exact H) | (have H2_ := (Option.bind_some _ _).symm.trans H; rw [hy109]; with_reducible exact H2_) | (have H2_ := (Option.bind_some _ _).symm.trans H; with_reducible exact H2_) | with_reducible exact H | (rw [hy109]; exact H) | exact H
  have Ny109 := Aside0.mk hy109
  clear hy109
  replace H := Option.bind_eq_some_iff.mp H
  obtain ⟨t112, A60, H⟩ := H
  replace H : (some t112) = some r := H
  have A6 := Aside0.mk A60
  clear A60
  obtain rfl := Option.some.inj H
  go_enter Try.func57, Try.ntmps57
  try go_wp2_with (first | ((with_reducible refine gate_dst (N := 2) rfl ?_); refine box_event ?hg (N := 2) ?hd (cs := #[.string a0_0, .int .i64 a0_1, .int .i64 a0_2]) (t := 29) ?hr ?_; (case hd => rfl); (case hg => rfl); (case hr => first | (go_simp; done) | (go_simp; rfl)); intro gb104 hg w7 hbox hb; have n0_ := Aside0.mk (below_step (by repeat (first | (with_reducible first | exact HB.out | apply below_alloc | apply pw_below_drewN | apply below_drew1) | exact HB.out)) hb); have n1_ := Aside0.mk (hbox); have n2_ := Aside0.mk ((by rw [hg]; exact (below_size (by repeat (first | (with_reducible first | exact HB.out | apply below_alloc | apply pw_below_drewN | apply below_drew1) | exact HB.out))) : w.heap.size ≤ gb104)); have n3_ := Aside0.mk ((by rw [hg]; exact (below_size (by repeat (first | (with_reducible first | exact HB.out | apply below_alloc | apply pw_below_drewN | apply below_drew1) | exact HB.out))) : w.heap.size ≤ gb104)); clear HB; have HB := n0_; have BK104 := n1_; have GW104 := n2_; have GE104 := n3_; clear n0_ n1_ n2_ n3_; clear hb hbox hg) | ((with_reducible refine gate_dst (N := 3) rfl ?_); refine box_event ?hg (N := 3) ?hd (cs := #[.string a1_0, .int .i64 a1_1, .int .i64 a1_2]) (t := 29) ?hr ?_; (case hd => rfl); (case hg => rfl); (case hr => first | (go_simp; done) | (go_simp; rfl)); intro gb105 hg w8 hbox hb; have n0_ := Aside0.mk (blk_below (g := gb104) (o := .cells #[.string a0_0, .int .i64 a0_1, .int .i64 a0_2] 29 (0, 0)) (by (with_reducible repeat (first | refine blk_drewN ?_ _ | refine blk_drew ?_ | refine blk_alloc ?_ _)); exact BK104.out) hb); have n1_ := Aside0.mk (below_step (by repeat (first | (with_reducible first | exact HB.out | apply below_alloc | apply pw_below_drewN | apply below_drew1 | refine below_set ?_ GE104.out) | exact HB.out)) hb); have n2_ := Aside0.mk (hbox); have n3_ := Aside0.mk ((by rw [hg]; exact (below_size (by repeat (first | (with_reducible first | exact HB.out | apply below_alloc | apply pw_below_drewN | apply below_drew1 | refine below_set ?_ GE104.out) | exact HB.out))) : w.heap.size ≤ gb105)); have n4_ := Aside0.mk ((by rw [hg]; exact (below_size (by repeat (first | (with_reducible first | exact HB.out | apply below_alloc | apply pw_below_drewN | apply below_drew1 | refine below_set ?_ GE104.out) | exact HB.out))) : w.heap.size ≤ gb105)); have n5_ := Aside0.mk ((by rw [hg]; exact Nat.ne_of_lt (blk_lt (g := gb104) (o := .cells #[.string a0_0, .int .i64 a0_1, .int .i64 a0_2] 29 (0, 0)) (by (with_reducible repeat (first | refine blk_drewN ?_ _ | refine blk_drew ?_ | refine blk_alloc ?_ _)); exact BK104.out)) : gb104 ≠ gb105)); have n6_ := Aside0.mk ((by rw [hg]; exact Nat.ne_of_gt (blk_lt (g := gb104) (o := .cells #[.string a0_0, .int .i64 a0_1, .int .i64 a0_2] 29 (0, 0)) (by (with_reducible repeat (first | refine blk_drewN ?_ _ | refine blk_drew ?_ | refine blk_alloc ?_ _)); exact BK104.out)) : gb105 ≠ gb104)); clear BK104; clear HB; have BK104 := n0_; have HB := n1_; have BK105 := n2_; have GW105 := n3_; have GE105 := n4_; have NB104_105 := n5_; have NB105_104 := n6_; clear n0_ n1_ n2_ n3_ n4_ n5_ n6_; clear hb hbox hg))
  have n0_ := Aside0.mk (blk_drew BK104.out)
  have n1_ := Aside0.mk (blk_drew BK105.out)
  have n2_ := Aside0.mk (below_drew1 HB.out)
  clear BK104
  clear BK105
  clear HB
  have BK104 := n0_
  have BK105 := n1_
  have HB := n2_
  clear n0_ n1_ n2_
  refine start_ (n := 22) (S := fun w' => w'.cell? ⟨gb104, 0, none⟩ = some (.string a0_0) ∧ w'.cell? ⟨gb104, 1, none⟩ = some (.int .i64 a0_1) ∧ w'.cell? ⟨gb104, 2, none⟩ = some (.int .i64 a0_2) ∧ w'.cell? ⟨gb105, 0, none⟩ = some (.string a1_0) ∧ w'.cell? ⟨gb105, 1, none⟩ = some (.int .i64 a1_1) ∧ w'.cell? ⟨gb105, 2, none⟩ = some (.int .i64 a1_2)) (ds := []) #[false, false, false, false, false, false, false, false, false, false, false, false, false, false, false, false, false, false, false, false, false, false] (by kernel_rfl) rfl rfl ⟨(blk_cell BK104.out 0).trans rfl, (blk_cell BK104.out 1).trans rfl, (blk_cell BK104.out 2).trans rfl, (blk_cell BK105.out 0).trans rfl, (blk_cell BK105.out 1).trans rfl, (blk_cell BK105.out 2).trans rfl⟩ (fun hHeld => ?_); refine with_tabW btree_order.tab1 btree_order.bits1 (fun HT_ HW_ => ?_)
  generalize w8.drew = w9 at BK104 BK105 HB hHeld ⊢
  refine pure_ (i := 0) (N := some 5) (v := ?_) (a' := ?_) #[true, false, false, false, false, false, false, false, false, false, false, false, false, false, false, false, false, false, false, false, false, false] rfl rfl (any_of HT_.out (by kernel_rfl)) (fun _ _ _ h => h) (Or.inl ⟨by rfl, ?_⟩) ?_ ?_
  rotate_left
  · intro w'
    go_simp
    with_reducible rfl
  rotate_left
  · simp only [Act.put, List.setIfInBounds_toArray, List.set_cons_zero, List.set_cons_succ, i64_w, i32_w]
    rfl
  refine pure_ (i := 2) (N := some 7) (v := ?_) (a' := ?_) #[true, false, true, false, false, false, false, false, false, false, false, false, false, false, false, false, false, false, false, false, false, false] rfl rfl (any_of HT_.out (by kernel_rfl)) (fun _ _ _ h => h) (Or.inl ⟨by rfl, ?_⟩) ?_ ?_
  rotate_left
  · intro w'
    go_simp
    with_reducible rfl
  rotate_left
  · simp only [Act.put, List.setIfInBounds_toArray, List.set_cons_zero, List.set_cons_succ, i64_w, i32_w]
    rfl
  refine pure_ (i := 5) (N := some 10) (v := ?_) (a' := ?_) #[true, false, true, false, false, true, false, false, false, false, false, false, false, false, false, false, false, false, false, false, false, false] rfl rfl (any_of HT_.out (by kernel_rfl)) (fun _ _ _ h => h) (Or.inl ⟨by rfl, ?_⟩) ?_ ?_
  rotate_left
  · intro w'
    go_simp
    with_reducible rfl
  rotate_left
  · simp only [Act.put, List.setIfInBounds_toArray, List.set_cons_zero, List.set_cons_succ, i64_w, i32_w]
    rfl
  refine pure_ (i := 6) (N := some 11) (v := ?_) (a' := ?_) #[true, false, true, false, false, true, true, false, false, false, false, false, false, false, false, false, false, false, false, false, false, false] rfl rfl (any_of HT_.out (by kernel_rfl)) (fun _ _ _ h => h) (Or.inl ⟨by rfl, ?_⟩) ?_ ?_
  rotate_left
  · intro w'
    go_simp
    with_reducible rfl
  rotate_left
  · simp only [Act.put, List.setIfInBounds_toArray, List.set_cons_zero, List.set_cons_succ, i64_w, i32_w]
    rfl
  refine pure_ (i := 8) (N := some 13) (v := ?_) (a' := ?_) #[true, false, true, false, false, true, true, false, true, false, false, false, false, false, false, false, false, false, false, false, false, false] rfl rfl (any_of HT_.out (by kernel_rfl)) (fun _ _ _ h => h) (Or.inl ⟨by rfl, ?_⟩) ?_ ?_
  rotate_left
  · intro w'
    go_simp
    with_reducible rfl
  rotate_left
  · simp only [Act.put, List.setIfInBounds_toArray, List.set_cons_zero, List.set_cons_succ, i64_w, i32_w]
    rfl
  refine pure_ (i := 9) (N := some 14) (v := ?_) (a' := ?_) #[true, false, true, false, false, true, true, false, true, true, false, false, false, false, false, false, false, false, false, false, false, false] rfl rfl (any_of HT_.out (by kernel_rfl)) (fun _ _ _ h => h) (Or.inl ⟨by rfl, ?_⟩) ?_ ?_
  rotate_left
  · intro w'
    go_simp
    with_reducible rfl
  rotate_left
  · simp only [Act.put, List.setIfInBounds_toArray, List.set_cons_zero, List.set_cons_succ, i64_w, i32_w]
    rfl
  refine pure_ (i := 12) (N := some 17) (v := ?_) (a' := ?_) #[true, false, true, false, false, true, true, false, true, true, false, false, true, false, false, false, false, false, false, false, false, false] rfl rfl (any_of HT_.out (by kernel_rfl)) (fun _ _ _ h => h) (Or.inl ⟨by rfl, ?_⟩) ?_ ?_
  rotate_left
  · intro w'
    go_simp
    with_reducible rfl
  rotate_left
  · simp only [Act.put, List.setIfInBounds_toArray, List.set_cons_zero, List.set_cons_succ, i64_w, i32_w]
    rfl
  refine pure_ (i := 13) (N := some 18) (v := ?_) (a' := ?_) #[true, false, true, false, false, true, true, false, true, true, false, false, true, true, false, false, false, false, false, false, false, false] rfl rfl (any_of HT_.out (by kernel_rfl)) (fun _ _ _ h => h) (Or.inl ⟨by rfl, ?_⟩) ?_ ?_
  rotate_left
  · intro w'
    go_simp
    with_reducible rfl
  rotate_left
  · simp only [Act.put, List.setIfInBounds_toArray, List.set_cons_zero, List.set_cons_succ, i64_w, i32_w]
    rfl
  refine pure_ (i := 15) (N := some 20) (v := ?_) (a' := ?_) #[true, false, true, false, false, true, true, false, true, true, false, false, true, true, false, true, false, false, false, false, false, false] rfl rfl (any_of HT_.out (by kernel_rfl)) (fun _ _ _ h => h) (Or.inl ⟨by rfl, ?_⟩) ?_ ?_
  rotate_left
  · intro w'
    go_simp
    with_reducible rfl
  rotate_left
  · simp only [Act.put, List.setIfInBounds_toArray, List.set_cons_zero, List.set_cons_succ, i64_w, i32_w]
    rfl
  refine pure_ (i := 16) (N := some 21) (v := ?_) (a' := ?_) #[true, false, true, false, false, true, true, false, true, true, false, false, true, true, false, true, true, false, false, false, false, false] rfl rfl (any_of HT_.out (by kernel_rfl)) (fun _ _ _ h => h) (Or.inl ⟨by rfl, ?_⟩) ?_ ?_
  rotate_left
  · intro w'
    go_simp
    with_reducible rfl
  rotate_left
  · simp only [Act.put, List.setIfInBounds_toArray, List.set_cons_zero, List.set_cons_succ, i64_w, i32_w]
    rfl
  refine take_ (i := 1) (N := some 6) (v := ?_) (a' := ?_) #[true, true, true, false, false, true, true, false, true, true, false, false, true, true, false, true, true, false, false, false, false, false] rfl rfl (take_ofW HT_.out HW_.out (by kernel_rfl)) (fun _ _ _ h => h) (Or.inl ⟨by rfl, ?_⟩) hHeld ?_ ?_
  rotate_left
  · rintro w' ⟨s0, s1, s2, s3, s4, s5⟩
    go_simp
    with_reducible rfl
  rotate_left
  · simp only [Act.put, List.setIfInBounds_toArray, List.set_cons_zero, List.set_cons_succ, i64_w, i32_w]
    rfl
  refine take_ (i := 3) (N := some 8) (v := ?_) (a' := ?_) #[true, true, true, true, false, true, true, false, true, true, false, false, true, true, false, true, true, false, false, false, false, false] rfl rfl (take_ofW HT_.out HW_.out (by kernel_rfl)) (fun _ _ _ h => h) (Or.inl ⟨by rfl, ?_⟩) hHeld ?_ ?_
  rotate_left
  · rintro w' ⟨s0, s1, s2, s3, s4, s5⟩
    go_simp
    with_reducible rfl
  rotate_left
  · simp only [Act.put, List.setIfInBounds_toArray, List.set_cons_zero, List.set_cons_succ, i64_w, i32_w]
    rfl
  refine take_ (i := 7) (N := some 12) (v := ?_) (a' := ?_) #[true, true, true, true, false, true, true, true, true, true, false, false, true, true, false, true, true, false, false, false, false, false] rfl rfl (take_ofW HT_.out HW_.out (by kernel_rfl)) (fun _ _ _ h => h) (Or.inl ⟨by rfl, ?_⟩) hHeld ?_ ?_
  rotate_left
  · rintro w' ⟨s0, s1, s2, s3, s4, s5⟩
    go_simp
    with_reducible rfl
  rotate_left
  · simp only [Act.put, List.setIfInBounds_toArray, List.set_cons_zero, List.set_cons_succ, i64_w, i32_w]
    rfl
  refine take_ (i := 10) (N := some 15) (v := ?_) (a' := ?_) #[true, true, true, true, false, true, true, true, true, true, true, false, true, true, false, true, true, false, false, false, false, false] rfl rfl (take_ofW HT_.out HW_.out (by kernel_rfl)) (fun _ _ _ h => h) (Or.inl ⟨by rfl, ?_⟩) hHeld ?_ ?_
  rotate_left
  · rintro w' ⟨s0, s1, s2, s3, s4, s5⟩
    go_simp
    with_reducible rfl
  rotate_left
  · simp only [Act.put, List.setIfInBounds_toArray, List.set_cons_zero, List.set_cons_succ, i64_w, i32_w]
    rfl
  refine take_ (i := 14) (N := some 19) (v := ?_) (a' := ?_) #[true, true, true, true, false, true, true, true, true, true, true, false, true, true, true, true, true, false, false, false, false, false] rfl rfl (take_ofW HT_.out HW_.out (by kernel_rfl)) (fun _ _ _ h => h) (Or.inl ⟨by rfl, ?_⟩) hHeld ?_ ?_
  rotate_left
  · rintro w' ⟨s0, s1, s2, s3, s4, s5⟩
    go_simp
    with_reducible rfl
  rotate_left
  · simp only [Act.put, List.setIfInBounds_toArray, List.set_cons_zero, List.set_cons_succ, i64_w, i32_w]
    rfl
  refine take_ (i := 17) (N := some 22) (v := ?_) (a' := ?_) #[true, true, true, true, false, true, true, true, true, true, true, false, true, true, true, true, true, true, false, false, false, false] rfl rfl (take_ofW HT_.out HW_.out (by kernel_rfl)) (fun _ _ _ h => h) (Or.inl ⟨by rfl, ?_⟩) hHeld ?_ ?_
  rotate_left
  · rintro w' ⟨s0, s1, s2, s3, s4, s5⟩
    go_simp
    with_reducible rfl
  rotate_left
  · simp only [Act.put, List.setIfInBounds_toArray, List.set_cons_zero, List.set_cons_succ, i64_w, i32_w]
    rfl
  refine one_ (i := 4) (N := some 9) #[true, true, true, true, true, true, true, true, true, true, true, false, true, true, true, true, true, true, false, false, false, false] rfl rfl (one_of HT_.out (by kernel_rfl)) (by decide) (fun K hK => ?_)
  refine goes_ Try.func66 (by kernel_rfl) rfl #[.string a0_0, .string a1_0] (by rfl) rfl rfl (by (try simp only [List.map_toArray, List.map_cons, List.map_nil]); first | done | rfl | (simp only [List.length_drop, List.length_take]; rfl)) ?_
  with_reducible refine (cmp_Compare_string.calls a0_0 a1_0 t106 _ A3.out).mono ?_
  rintro e w' ⟨rfl, ⟨nd, rfl⟩⟩
  refine ⟨_, rfl, ?_⟩
  refine hK.out _ _ ⟨(blk_cell BK104.out 0).trans rfl, (blk_cell BK104.out 1).trans rfl, (blk_cell BK104.out 2).trans rfl, (blk_cell BK105.out 0).trans rfl, (blk_cell BK105.out 1).trans rfl, (blk_cell BK105.out 2).trans rfl⟩ (fun hHeld => ?_)
  clear hK K
  refine norm_ (a' := ?_) ?_ ?_
  rotate_left
  · show Act.put _ (some 9) _ = _
    simp only [Act.put, List.setIfInBounds_toArray, List.set_cons_zero, List.set_cons_succ, i64_w, i32_w]
    rfl
  refine one_ (i := 11) (N := some 16) #[true, true, true, true, true, true, true, true, true, true, true, true, true, true, true, true, true, true, false, false, false, false] rfl rfl (one_of HT_.out (by kernel_rfl)) (by decide) (fun K hK => ?_)
  refine goes_ Try.func67 (by kernel_rfl) rfl #[.int .i64 a0_1, .int .i64 a1_1] (by rfl) rfl rfl (by (try simp only [List.map_toArray, List.map_cons, List.map_nil]); first | done | rfl | (simp only [List.length_drop, List.length_take]; rfl)) ?_
  with_reducible refine (cmp_Compare_int.calls a0_1 a1_1 t107 _ A4.out).mono ?_
  rintro e w' ⟨rfl, ⟨nd, rfl⟩⟩
  refine ⟨_, rfl, ?_⟩
  refine hK.out _ _ ⟨(blk_cell BK104.out 0).trans rfl, (blk_cell BK104.out 1).trans rfl, (blk_cell BK104.out 2).trans rfl, (blk_cell BK105.out 0).trans rfl, (blk_cell BK105.out 1).trans rfl, (blk_cell BK105.out 2).trans rfl⟩ (fun hHeld => ?_)
  clear hK K
  refine norm_ (a' := ?_) ?_ ?_
  rotate_left
  · show Act.put _ (some 16) _ = _
    simp only [Act.put, List.setIfInBounds_toArray, List.set_cons_zero, List.set_cons_succ, i64_w, i32_w]
    rfl
  refine one_ (i := 18) (N := some 23) #[true, true, true, true, true, true, true, true, true, true, true, true, true, true, true, true, true, true, true, false, false, false] rfl rfl (one_of HT_.out (by kernel_rfl)) (by decide) (fun K hK => ?_)
  refine goes_ Try.func67 (by kernel_rfl) rfl #[.int .i64 a0_2, .int .i64 a1_2] (by rfl) rfl rfl (by (try simp only [List.map_toArray, List.map_cons, List.map_nil]); first | done | rfl | (simp only [List.length_drop, List.length_take]; rfl)) ?_
  with_reducible refine (cmp_Compare_int.calls a0_2 a1_2 t108 _ A5.out).mono ?_
  rintro e w' ⟨rfl, ⟨nd, rfl⟩⟩
  refine ⟨_, rfl, ?_⟩
  refine hK.out _ _ ⟨(blk_cell BK104.out 0).trans rfl, (blk_cell BK104.out 1).trans rfl, (blk_cell BK104.out 2).trans rfl, (blk_cell BK105.out 0).trans rfl, (blk_cell BK105.out 1).trans rfl, (blk_cell BK105.out 2).trans rfl⟩ (fun hHeld => ?_)
  clear hK K
  refine norm_ (a' := ?_) ?_ ?_
  rotate_left
  · show Act.put _ (some 23) _ = _
    simp only [Act.put, List.setIfInBounds_toArray, List.set_cons_zero, List.set_cons_succ, i64_w, i32_w]
    rfl
  refine one_ (i := 19) (N := some 24) #[true, true, true, true, true, true, true, true, true, true, true, true, true, true, true, true, true, true, true, true, false, false] rfl rfl (one_of HT_.out (by kernel_rfl)) (by decide) (fun K hK => ?_)
  refine Kd.R_lit_step (Kd.int .i64) _ 3 ?hg (N := 24) ?hd (xs := ([t106, t107, t108] : List Int)) (inner := [.int .i64 t106, .int .i64 t107, .int .i64 t108]) (ok := fun _ => True) (okp := fun _ => True) ?hr ?hp (fun _ hk => hk) trivial (Below.refl _ _) (Nat.le_refl _) (by simp) ?_; (case hd => rfl); (case hg => rfl); (case hr => first | (go_simp; done) | (go_simp; rfl)); (case hp => exact (Reps.one (show Kd.M (Kd.int .i64) _ _ _ t106 [.int .i64 t106] from rfl) (Reps.one (show Kd.M (Kd.int .i64) _ _ _ t107 [.int .i64 t107] from rfl) (Reps.one (show Kd.M (Kd.int .i64) _ _ _ t108 [.int .i64 t108] from rfl) (Reps.none _ _)))))
  intro v110 w10 ho11 hb hg_ hnew_
  clear hg_ hnew_
  (first | rw [← Ny109.out] at ho11 | (simp only [Int.reduceToNat] at ho11; rw [← Ny109.out] at ho11))
  have n0_ := Aside0.mk (Kd.R_lower ho11 (below_size (by repeat (first | (with_reducible first | exact HB.out | apply below_alloc | apply pw_below_drewN | apply below_drew1 | refine below_set ?_ GE104.out | refine below_set ?_ GE105.out) | exact HB.out))))
  have n1_ := Aside0.mk (blk_below (g := gb104) (o := .cells #[.string a0_0, .int .i64 a0_1, .int .i64 a0_2] 29 (0, 0)) (by (with_reducible repeat (first | refine blk_drewN ?_ _ | refine blk_drew ?_ | refine blk_alloc ?_ _)); exact BK104.out) hb)
  have n2_ := Aside0.mk (blk_below (g := gb105) (o := .cells #[.string a1_0, .int .i64 a1_1, .int .i64 a1_2] 29 (0, 0)) (by (with_reducible repeat (first | refine blk_drewN ?_ _ | refine blk_drew ?_ | refine blk_alloc ?_ _)); exact BK105.out) hb)
  have n3_ := Aside0.mk (below_step (by repeat (first | (with_reducible first | exact HB.out | apply below_alloc | apply pw_below_drewN | apply below_drew1 | refine below_set ?_ GE104.out | refine below_set ?_ GE105.out) | exact HB.out)) hb)
  clear BK104
  clear BK105
  clear HB
  have HO111 := n0_
  have BK104 := n1_
  have BK105 := n2_
  have HB := n3_
  clear n0_ n1_ n2_ n3_
  clear hb ho11
  obtain ⟨Ao12, co12, eo12⟩ := Kd.R_slice HO111.out
  (first | subst eo12 | (injection eo12 with f1_ f2_ f3_; have f4_ := f1_.symm; have f5_ := f3_.symm; clear f1_ f2_ f3_; subst f4_; subst f5_))
  refine hK.out _ _ ⟨(blk_cell BK104.out 0).trans rfl, (blk_cell BK104.out 1).trans rfl, (blk_cell BK104.out 2).trans rfl, (blk_cell BK105.out 0).trans rfl, (blk_cell BK105.out 1).trans rfl, (blk_cell BK105.out 2).trans rfl⟩ (fun hHeld => ?_)
  clear hK K
  refine norm_ (a' := ?_) ?_ ?_
  rotate_left
  · show Act.put _ (some 24) _ = _
    simp only [Act.put, List.setIfInBounds_toArray, List.set_cons_zero, List.set_cons_succ, i64_w, i32_w]
    rfl
  refine one_ (i := 20) (N := some 25) #[true, true, true, true, true, true, true, true, true, true, true, true, true, true, true, true, true, true, true, true, true, false] rfl rfl (one_of HT_.out (by kernel_rfl)) (by decide) (fun K hK => ?_)
  refine goes_ Try.func65 (by kernel_rfl) rfl #[.slice Ao12 y109.length co12] (by rfl) rfl rfl (by (try simp only [List.map_toArray, List.map_cons, List.map_nil]); first | done | rfl | (simp only [List.length_drop, List.length_take]; rfl)) ?_
  with_reducible refine (cmp_Or_int.calls k _ _ y109 t112 _ ?side1 ?side2 A6.out).mono ?_
  (case side1 => repeat (first | exact (Kd.R_reads' HO111.out).2.2 | (with_reducible refine Kd.C_alloc ?_ _) | (with_reducible refine Kd.C_drewN ?_ _) | (with_reducible refine Kd.C_drew ?_)))
  (case side2 => exact (Kd.R_reads' HO111.out).2.1)
  rintro e w' ⟨rfl, ⟨nd, rfl⟩⟩
  refine ⟨_, rfl, ?_⟩
  refine hK.out _ _ ⟨(blk_cell BK104.out 0).trans rfl, (blk_cell BK104.out 1).trans rfl, (blk_cell BK104.out 2).trans rfl, (blk_cell BK105.out 0).trans rfl, (blk_cell BK105.out 1).trans rfl, (blk_cell BK105.out 2).trans rfl⟩ (fun hHeld => ?_)
  clear hK K
  refine norm_ (a' := ?_) ?_ ?_
  rotate_left
  · show Act.put _ (some 25) _ = _
    simp only [Act.put, List.setIfInBounds_toArray, List.set_cons_zero, List.set_cons_succ, i64_w, i32_w]
    rfl
  refine pure_ (i := 21) (N := some 4) (v := ?_) (a' := ?_) #[true, true, true, true, true, true, true, true, true, true, true, true, true, true, true, true, true, true, true, true, true, true] rfl rfl (any_of HT_.out (by kernel_rfl)) (fun _ _ _ h => h) (Or.inl ⟨by rfl, ?_⟩) ?_ ?_
  rotate_left
  · intro w'
    go_simp
    with_reducible rfl
  rotate_left
  · simp only [Act.put, List.setIfInBounds_toArray, List.set_cons_zero, List.set_cons_succ, i64_w, i32_w]
    rfl
  refine done_ (done_of HT_.out (by kernel_rfl)) ?_
  try go_wp2
  go_ret
  exact ⟨by first | rfl | (simp [errW_none, errW_some] <;> rfl) | (simp [*, errW_none, errW_some] <;> rfl), by repeat (first | (with_reducible first | exact HB.out | apply below_alloc | apply pw_below_drewN | apply below_drew1 | refine below_set ?_ GE104.out | refine below_set ?_ GE105.out) | exact HB.out)⟩
end Go.Proofs.Ytjaddmflopahiaa.Q
end
section
namespace Go.Proofs.Bt
open Go Go.RowKit Go.Proofs.Ytjaddmflopahiaa.Q Go.Proofs.YtjaddmflopahiaaW.PrintWords Go.Proofs.YtjaddmflopahiaaW.PrintLast Go.Proofs.YtjaddmflopahiaaW.PrintMore
set_option linter.unusedVariables false
set_option linter.unusedSimpArgs false
set_option maxRecDepth 100000
def cmpI (a b : Int) : Int := if a < b then -1 else if a > b then 1 else 0
def ord (a b : S29) : Int := if cmpB a.f0 b.f0 = 0 then (if cmpI a.f1.f0 b.f1.f0 = 0 then cmpI a.f1.f1 b.f1.f1 else cmpI a.f1.f0 b.f1.f0) else cmpB a.f0 b.f0
theorem cmpInt_some (a b : Int) : cmp_Compare_int.f a b = some (cmpI a b) := by
  unfold cmp_Compare_int.f cmp_isNaN_int.f cmpI
  simp
  split <;> (try split) <;> rfl
theorem or_some (x y z : Int) : cmp_Or_int.f 4 [x, y, z] = some (if x = 0 then (if y = 0 then z else y) else x) := by
  have h0 : rd [x, y, z] 0 = x := rfl
  have h1 : rd [x, y, z] 1 = y := rfl
  have h2 : rd [x, y, z] 2 = z := rfl
  have w1 : wrap64 (0 + 1) = 1 := by unfold wrap64; omega
  have w2 : wrap64 (1 + 1) = 2 := by unfold wrap64; omega
  have w3 : wrap64 (2 + 1) = 3 := by unfold wrap64; omega
  have hl : (([x, y, z] : List Int).length : Int) = 3 := rfl
  unfold cmp_Or_int.f
  rw [hl]
  simp only [cmp_Or_int.l0, h0, h1, h2, w1, w2, w3, hl]
  by_cases hx : x = 0 <;> by_cases hy : y = 0 <;> by_cases hz : z = 0 <;> simp [hx, hy, hz]
theorem order_some (a b : S29) : btree_order.f 4 a.f0 a.f1.f0 a.f1.f1 b.f0 b.f1.f0 b.f1.f1 = some (ord a b) := by
  unfold btree_order.f cmp_Compare_string.f
  simp only [cmpInt_some, or_some, Option.bind_some]
  rfl
def encE (x : S29) : List Value := [.string x.f0, .int .i64 x.f1.f0, .int .i64 x.f1.f1]
def encEs (ks : List S29) : List Value := ks.flatMap encE
theorem encE_one (x : S29) : ∀ u ∈ encE x, u.oneCell' = true := by
  intro u hu
  simp only [encE, List.mem_cons, List.not_mem_nil, or_false] at hu
  rcases hu with rfl | rfl | rfl <;> rfl
theorem encEs_one (ks : List S29) : ∀ u ∈ encEs ks, u.oneCell' = true := by
  intro u hu
  obtain ⟨x, _, hx⟩ := List.mem_flatMap.1 hu
  exact encE_one x u hx
theorem encEs_cons (x : S29) (ks : List S29) : encEs (x :: ks) = encE x ++ encEs ks := rfl
theorem encEs_app (a b : List S29) : encEs (a ++ b) = encEs a ++ encEs b := by simp [encEs]
theorem encEs_len : ∀ (ks : List S29), (encEs ks).length = ks.length * 3
  | [] => rfl
  | x :: ks => by rw [encEs_cons, List.length_append, encEs_len ks]; simp [encE]; omega
theorem encEs_take (ks : List S29) (i : Nat) (h : i ≤ ks.length) : (encEs ks).take (i * 3) = encEs (ks.take i) := by
  conv => lhs; rw [← List.take_append_drop i ks, encEs_app]
  rw [List.take_append_of_le_length (by rw [encEs_len, List.length_take]; omega), List.take_of_length_le (by rw [encEs_len, List.length_take]; omega)]
theorem encEs_drop (ks : List S29) (i : Nat) (h : i ≤ ks.length) : (encEs ks).drop (i * 3) = encEs (ks.drop i) := by
  conv => lhs; rw [← List.take_append_drop i ks, encEs_app]
  rw [List.drop_append, List.drop_eq_nil_iff.2 (by rw [encEs_len, List.length_take]; omega), List.nil_append, encEs_len, List.length_take, Nat.min_eq_left h, Nat.sub_self, List.drop_zero]
theorem encEs_get (ks : List S29) (i : Nat) (h : i < ks.length) : (encEs ks)[i * 3]? = some (.string ks[i].f0) ∧ (encEs ks)[i * 3 + 1]? = some (.int .i64 ks[i].f1.f0) ∧ (encEs ks)[i * 3 + 2]? = some (.int .i64 ks[i].f1.f1) := by
  have hd : (encEs ks).drop (i * 3) = encE ks[i] ++ encEs (ks.drop (i + 1)) := by
    rw [encEs_drop ks i (by omega), List.drop_eq_getElem_cons h, encEs_cons]
  have hk : ∀ j, (encEs ks)[i * 3 + j]? = (encE ks[i] ++ encEs (ks.drop (i + 1)))[j]? := fun j => by rw [← hd, List.getElem?_drop]
  exact ⟨(hk 0).trans rfl, (hk 1).trans rfl, (hk 2).trans rfl⟩
def RowE (w : World) (v : Value) (ks : List S29) : Prop := Row w 29 3 v ks.length (encEs ks)
theorem RowE.cells {w : World} {g n cap : Nat} {ks : List S29} (h : RowE w (.slice (some ⟨g, 0, none⟩) n cap) ks) (i : Nat) (hi : i < ks.length) :
    w.cell? ⟨g, i * 3, none⟩ = some (.string ks[i].f0) ∧ w.cell? ⟨g, i * 3 + 1, none⟩ = some (.int .i64 ks[i].f1.f0) ∧ w.cell? ⟨g, i * 3 + 2, none⟩ = some (.int .i64 ks[i].f1.f1) := by
  have hv : Value.slice (some ⟨g, 0, none⟩) n cap = .slice (some ⟨g, 0, none⟩) ks.length cap := by
    rcases h.2.2 with ⟨hv, _⟩ | ⟨g', cap', cur, hv, _⟩
    · simp at hv
    · simp at hv
      simp [hv.2.1]
  obtain ⟨h0, h1, h2⟩ := encEs_get ks i hi
  exact ⟨h.cell hv _ _ h0, h.cell hv _ _ h1, h.cell hv _ _ h2⟩
def low (ks : List S29) (e : S29) : Nat := (ks.takeWhile fun x => decide (ord x e < 0)).length
theorem low_le (ks : List S29) (e : S29) : low ks e ≤ ks.length := (List.takeWhile_sublist _).length_le
theorem low_is : ∀ (ks : List S29) (e : S29) (i : Nat), i ≤ ks.length → (∀ a (h : a < ks.length), a < i → ord ks[a] e < 0) → (∀ a (h : a < ks.length), i ≤ a → ¬ ord ks[a] e < 0) → low ks e = i
  | [], e, i, hi, _, _ => by simp at hi; subst hi; rfl
  | x :: ks, e, 0, hi, h1, h2 => by
    have := h2 0 (by simp) (Nat.le_refl _)
    simp at this
    unfold low
    rw [List.takeWhile_cons, if_neg (by simp; omega)]
    rfl
  | x :: ks, e, i + 1, hi, h1, h2 => by
    have hx := h1 0 (by simp) (by omega)
    simp at hx
    have := low_is ks e i (by simp at hi; omega) (fun a h ha => by have := h1 (a + 1) (by simp; omega) (by omega); simpa using this) (fun a h ha => by have := h2 (a + 1) (by simp; omega) (by omega); simpa using this)
    unfold low at this ⊢
    rw [List.takeWhile_cons, if_pos (by simpa using hx), List.length_cons, this]
def found (ks : List S29) (e : S29) : Bool := if h : low ks e < ks.length then decide (ord ks[low ks e] e = 0) else false
def Mono (ks : List S29) (e : S29) : Prop := ∀ a b (hb : b < ks.length) (ha : a < ks.length), a ≤ b → ord ks[b] e < 0 → ord ks[a] e < 0
theorem order_calls (a b : S29) (w : World) : Calls Try.prog 57 #[.agg #[.string a.f0, .int .i64 a.f1.f0, .int .i64 a.f1.f1], .agg #[.string b.f0, .int .i64 b.f1.f0, .int .i64 b.f1.f1]] w fun e w' => e = .returned (.int .i64 (ord a b)) ∧ Below w.heap.size w w' :=
  btree_order.calls 4 _ _ _ _ _ _ _ w (order_some a b)
set_option maxHeartbeats 4000000 in
theorem bsearch (w : World) (v : Value) (ks : List S29) (e : S29) (hR : RowE w v ks) (hn : ks.length < 1000000) (hm : Mono ks e) :
    Calls Try.prog 56 #[v, .agg #[.string e.f0, .int .i64 e.f1.f0, .int .i64 e.f1.f1], .func (.func 57) #[] #[]] w fun E w' => E = .returned (.tuple #[.int .i64 (low ks e), .bool (found ks e)]) ∧ Below w.heap.size w w' := by
  have mixed : Try.prog.follows Departure.mixedOrders = true := by kernel_rfl
  have hu29 := Try.underlying29
  rcases hR.2.2 with ⟨rfl, hk⟩ | ⟨g, cap, cur, rfl, hg, hnc, hcm, hcs, htake⟩
  · have hk0 : ks = [] := List.eq_nil_of_length_eq_zero hk
    subst hk0
    go_enter Try.func56, Try.ntmps56
    go_wp2
    go_loopg [9, 10] 0 (fun gq v9 v10 wx => v9 = .int .i64 0 ∧ v10 = .int .i64 0 ∧ Aside0 (Below w.heap.size w wx))
    case atStart => exact ⟨rfl, rfl, ⟨(Below.refl _ w).alloc (Nat.le_refl _) _⟩⟩
    case round =>
      obtain ⟨rfl, rfl, HB⟩ := hrel
      go_wp2
      go_region
      go_wp2
      go_ret2
      exact ⟨rfl, HB.out.drew⟩
  · have HR := Aside0.mk hR
    have HM := Aside0.mk hm
    clear hR hm
    have hgl := (Array.getElem?_eq_some_iff.1 hg).1
    obtain ⟨n, hnk⟩ : ∃ n, ks.length = n := ⟨_, rfl⟩
    rw [hnk] at hn ⊢
    clear hg hnc hcm hcs htake
    go_enter Try.func56, Try.ntmps56
    go_wp2
    go_loopg [9, 10] n (fun gq v9 v10 wx => ∃ i j : Nat, v9 = .int .i64 i ∧ v10 = .int .i64 j ∧ i ≤ j ∧ j ≤ n ∧ j - i ≤ gq ∧ Aside0 (∀ a (h : a < ks.length), a < i → ord ks[a] e < 0) ∧ Aside0 (∀ a (h : a < ks.length), j ≤ a → ¬ ord ks[a] e < 0) ∧ Aside0 (Below w.heap.size w wx) ∧ Aside0 (wx.heap[w.heap.size]? = some (.cells #[.string e.f0, .int .i64 e.f1.f0, .int .i64 e.f1.f1] 29 (0, 0))))
    case atStart =>
      exact ⟨0, n, rfl, rfl, by omega, by omega, by omega, ⟨fun a h ha => by omega⟩, ⟨fun a h ha => by omega⟩, ⟨(Below.refl _ w).alloc (Nat.le_refl _) _⟩, ⟨heap_alloc_new w _⟩⟩
    case round =>
      obtain ⟨i, j, rfl, rfl, hij, hjn, hq, HL, HG, HB, HX⟩ := hrel
      have hxl : w.heap.size < wr.heap.size := (Array.getElem?_eq_some_iff.1 HX.out).1
      have hgl2 : g < wr.heap.size := by omega
      have b0 : wr.cell? ⟨w.heap.size, 0, none⟩ = some (.string e.f0) := (cell_of_row wr _ 0 _ 29 (0, 0) HX.out).trans rfl
      have b1 : wr.cell? ⟨w.heap.size, 1, none⟩ = some (.int .i64 e.f1.f0) := (cell_of_row wr _ 1 _ 29 (0, 0) HX.out).trans rfl
      have b2 : wr.cell? ⟨w.heap.size, 2, none⟩ = some (.int .i64 e.f1.f1) := (cell_of_row wr _ 2 _ 29 (0, 0) HX.out).trans rfl
      by_cases hlt : i < j
      · have hlt2 : (i : Int) < (j : Int) := by omega
        obtain ⟨h, hh⟩ : ∃ h : Nat, (i + j) / 2 = h := ⟨_, rfl⟩
        have hdiv : ((i : Int) + (j : Int)) / 2 = (h : Int) := by omega
        have hhn : h < ks.length := by omega
        have hi0 : (0 : Int) ≤ (h : Int) := by omega
        have hi1 : (h : Int) < (n : Int) := by omega
        have hc := HR.out.cells h hhn
        obtain ⟨x, hx⟩ : ∃ x, ks[h] = x := ⟨_, rfl⟩
        rw [hx] at hc
        obtain ⟨c0, c1, c2⟩ := hc
        replace c0 := (HB.out.cell (p := ⟨g, h * 3, none⟩) hgl).trans c0
        replace c1 := (HB.out.cell (p := ⟨g, h * 3 + 1, none⟩) hgl).trans c1
        replace c2 := (HB.out.cell (p := ⟨g, h * 3 + 2, none⟩) hgl).trans c2
        go_wp2
        go_region_held3 (fun w' => w'.cell? ⟨g, h * 3, none⟩ = some (.string x.f0) ∧ w'.cell? ⟨g, h * 3 + 1, none⟩ = some (.int .i64 x.f1.f0) ∧ w'.cell? ⟨g, h * 3 + 2, none⟩ = some (.int .i64 x.f1.f1) ∧ w'.cell? ⟨w.heap.size, 0, none⟩ = some (.string e.f0) ∧ w'.cell? ⟨w.heap.size, 1, none⟩ = some (.int .i64 e.f1.f0) ∧ w'.cell? ⟨w.heap.size, 2, none⟩ = some (.int .i64 e.f1.f1)) (go_keep)
          (first | (go_at_call 57; refine (order_calls x e _).mono ?_; rintro E w' ⟨rfl, hb⟩; have k0 := (hb.cell (p := ⟨g, h * 3, none⟩) hgl2).trans c0; have k1 := (hb.cell (p := ⟨g, h * 3 + 1, none⟩) hgl2).trans c1; have k2 := (hb.cell (p := ⟨g, h * 3 + 2, none⟩) hgl2).trans c2; have k3 := (hb.cell (p := ⟨w.heap.size, 0, none⟩) hxl).trans b0; have k4 := (hb.cell (p := ⟨w.heap.size, 1, none⟩) hxl).trans b1; have k5 := (hb.cell (p := ⟨w.heap.size, 2, none⟩) hxl).trans b2; have HB2 := Aside0.mk (HB.out.drew.trans (hb.mono (show w.heap.size ≤ wr.heap.size by omega))); have HX2 := Aside0.mk ((hb.block w.heap.size hxl).trans HX.out); clear hb))
        have HH := Aside0.mk hx
        obtain ⟨g1, rfl⟩ : ∃ g1, gk = g1 + 1 := ⟨gk - 1, by omega⟩
        go_wp2
        · have hneg : ord x e < 0 := by assumption
          go_roundg g1
          case measure => omega
          case rel =>
            refine ⟨h + 1, j, by go_num, rfl, by omega, by omega, by omega, ⟨fun a ha hal => ?_⟩, HG, HB2, HX2⟩
            exact HM.out a h (by omega) ha (by omega) (by rw [HH.out]; exact hneg)
        · have hneg : 0 ≤ ord x e := by assumption
          go_roundg g1
          case measure => omega
          case rel =>
            refine ⟨i, h, rfl, rfl, by omega, by omega, by omega, HL, ⟨fun a ha hal => Int.not_lt.1 fun hlt0 => ?_⟩, HB2, HX2⟩
            have := HM.out h a ha (by omega) hal hlt0
            rw [HH.out] at this
            omega
      · have hlt2 : ¬ (i : Int) < (j : Int) := by omega
        have hlow : low ks e = i := low_is ks e i (by omega) HL.out (fun a h ha => HG.out a h (by omega))
        have HLOW := Aside0.mk hlow
        clear hlow
        by_cases hin : i < n
        · have hin2 : (i : Int) < (n : Int) := by omega
          have hi0 : (0 : Int) ≤ (i : Int) := by omega
          have hik : i < ks.length := by omega
          have hc := HR.out.cells i hik
          have hf : found ks e = decide (ord ks[i] e = 0) := by
            unfold found
            simp only [low_is ks e i (by omega) HL.out (fun a h ha => HG.out a h (by omega))]
            rw [dif_pos hik]
          obtain ⟨x, hx⟩ : ∃ x, ks[i] = x := ⟨_, rfl⟩
          rw [hx] at hc hf
          have HF := Aside0.mk hf
          clear hf
          obtain ⟨c0, c1, c2⟩ := hc
          replace c0 := (HB.out.cell (p := ⟨g, i * 3, none⟩) hgl).trans c0
          replace c1 := (HB.out.cell (p := ⟨g, i * 3 + 1, none⟩) hgl).trans c1
          replace c2 := (HB.out.cell (p := ⟨g, i * 3 + 2, none⟩) hgl).trans c2
          go_wp2
          go_region_held3 (fun w' => w'.cell? ⟨g, i * 3, none⟩ = some (.string x.f0) ∧ w'.cell? ⟨g, i * 3 + 1, none⟩ = some (.int .i64 x.f1.f0) ∧ w'.cell? ⟨g, i * 3 + 2, none⟩ = some (.int .i64 x.f1.f1) ∧ w'.cell? ⟨w.heap.size, 0, none⟩ = some (.string e.f0) ∧ w'.cell? ⟨w.heap.size, 1, none⟩ = some (.int .i64 e.f1.f0) ∧ w'.cell? ⟨w.heap.size, 2, none⟩ = some (.int .i64 e.f1.f1)) (go_keep)
            (first | (go_at_call 57; refine (order_calls x e _).mono ?_; rintro E w' ⟨rfl, hb⟩; have k0 := (hb.cell (p := ⟨g, i * 3, none⟩) hgl2).trans c0; have k1 := (hb.cell (p := ⟨g, i * 3 + 1, none⟩) hgl2).trans c1; have k2 := (hb.cell (p := ⟨g, i * 3 + 2, none⟩) hgl2).trans c2; have k3 := (hb.cell (p := ⟨w.heap.size, 0, none⟩) hxl).trans b0; have k4 := (hb.cell (p := ⟨w.heap.size, 1, none⟩) hxl).trans b1; have k5 := (hb.cell (p := ⟨w.heap.size, 2, none⟩) hxl).trans b2; have HB2 := Aside0.mk (HB.out.drew.trans (hb.mono (show w.heap.size ≤ wr.heap.size by omega))); have HX2 := Aside0.mk ((hb.block w.heap.size hxl).trans HX.out); clear hb))
          go_wp2
          go_ret2
          exact ⟨by rw [HLOW.out, HF.out]; rfl, HB2.out⟩
        · have hin2 : ¬ (i : Int) < (n : Int) := by omega
          have hf : found ks e = false := by
            unfold found
            simp only [low_is ks e i (by omega) HL.out (fun a h ha => HG.out a h (by omega))]
            rw [dif_neg (by omega)]
          have HF := Aside0.mk hf
          clear hf
          go_wp2
          go_region
          go_wp2
          go_ret2
          exact ⟨by rw [HLOW.out, HF.out]; rfl, HB.out.drew⟩
end Go.Proofs.Bt
end
section
namespace Go.Proofs.Bt
open Go Go.RowKit Go.Proofs.Ytjaddmflopahiaa.Q Go.Proofs.YtjaddmflopahiaaW.PrintWords Go.Proofs.YtjaddmflopahiaaW.PrintLast Go.Proofs.YtjaddmflopahiaaW.PrintMore
set_option linter.unusedVariables false
set_option linter.unusedSimpArgs false
set_option maxRecDepth 100000
def NodeAt (w : World) (p : Nat) (K C : Value) : Prop := w.heap[p]? = some (.cells #[K, C] 62 (0, 0))
theorem NodeAt.c0 {w : World} {p : Nat} {K C : Value} (h : NodeAt w p K C) : w.cell? ⟨p, 0, none⟩ = some K := (cell_of_row w p 0 _ 62 (0, 0) h).trans rfl
theorem NodeAt.c1 {w : World} {p : Nat} {K C : Value} (h : NodeAt w p K C) : w.cell? ⟨p, 1, none⟩ = some C := (cell_of_row w p 1 _ 62 (0, 0) h).trans rfl
theorem NodeAt.lt {w : World} {p : Nat} {K C : Value} (h : NodeAt w p K C) : p < w.heap.size := (Array.getElem?_eq_some_iff.1 h).1
theorem NodeAt.fz {w : World} {p : Nat} {K C : Value} (h : NodeAt w p K C) (j : Nat) : w.frozen? ⟨p, j, none⟩ = false := frozen_of_row w p j _ 62 h
theorem NodeAt.below {w w' : World} {p : Nat} {K C : Value} (h : NodeAt w p K C) (hb : Below w.heap.size w w') : NodeAt w' p K C := (hb.block p h.lt).trans h
theorem leaf_calls (w : World) (p : Nat) (K : Value) (A : Option Addr) (n c : Nat) (h : NodeAt w p K (.slice A n c)) : Calls Try.prog 30 #[.pointer (some ⟨p, 0, none⟩)] w fun e w' => e = .returned (.bool (decide (n = 0))) ∧ w' = w := by
  have c1 := h.c1
  go_enter Try.func30, Try.ntmps30
  go_wp2
  go_ret
  refine ⟨?_, rfl⟩
  by_cases hn : n = 0
  · subst hn; rfl
  · simp [hn]
theorem RowE.slice {w : World} {v : Value} {ks : List S29} (h : RowE w v ks) : ∃ A c, v = .slice A ks.length c := by
  rcases h.2.2 with ⟨rfl, hk⟩ | ⟨g, cap, cur, rfl, _⟩
  · exact ⟨none, 0, by rw [hk]⟩
  · exact ⟨_, _, rfl⟩
set_option maxHeartbeats 2000000 in
theorem find_calls (w : World) (p : Nat) (K C : Value) (ks : List S29) (e : S29) (hN : NodeAt w p K C) (hR : RowE w K ks) (hn : ks.length < 1000000) (hm : Mono ks e) :
    Calls Try.prog 41 #[.pointer (some ⟨p, 0, none⟩), .agg #[.string e.f0, .int .i64 e.f1.f0, .int .i64 e.f1.f1]] w fun E w' => E = .returned (.tuple #[.int .i64 (low ks e), .bool (found ks e)]) ∧ Below w.heap.size w w' := by
  have mixed : Try.prog.follows Departure.mixedOrders = true := by kernel_rfl
  have hu29 := Try.underlying29
  have hpl := hN.lt
  have c0 := hN.c0
  obtain ⟨W0, hW0⟩ : ∃ W0, w.alloc (.cells #[.string e.f0, .int .i64 e.f1.f0, .int .i64 e.f1.f1] 29) = W0 := ⟨_, rfl⟩
  have hX : W0.heap[w.heap.size]? = some (.cells #[.string e.f0, .int .i64 e.f1.f0, .int .i64 e.f1.f1] 29 (0, 0)) := by rw [← hW0]; exact heap_alloc_new w _
  have hb0 : Below w.heap.size w W0 := by rw [← hW0]; exact (Below.refl _ w).alloc (Nat.le_refl _) _
  have b0 : W0.cell? ⟨w.heap.size, 0, none⟩ = some (.string e.f0) := (cell_of_row W0 _ 0 _ 29 (0, 0) hX).trans rfl
  have b1 : W0.cell? ⟨w.heap.size, 1, none⟩ = some (.int .i64 e.f1.f0) := (cell_of_row W0 _ 1 _ 29 (0, 0) hX).trans rfl
  have b2 : W0.cell? ⟨w.heap.size, 2, none⟩ = some (.int .i64 e.f1.f1) := (cell_of_row W0 _ 2 _ 29 (0, 0) hX).trans rfl
  have cc := (hb0.cell (p := ⟨p, 0, none⟩) hpl).trans c0
  have HRD := Aside0.mk (show RowE W0.drew K ks from (Row.below hR hb0).move fun _ _ => rfl)
  have HM := Aside0.mk hm
  have HB0 := Aside0.mk hb0
  have hs0 : w.heap.size ≤ W0.heap.size := hb0.size
  have hxl : w.heap.size < W0.heap.size := (Array.getElem?_eq_some_iff.1 hX).1
  have hpl2 : p < W0.heap.size := by omega
  clear hR hm hb0 hX hN c0
  go_enter Try.func41, Try.ntmps41
  go_wp2
  go_region_held3 (fun w' => w'.cell? ⟨p, 0, none⟩ = some K ∧ w'.cell? ⟨w.heap.size, 0, none⟩ = some (.string e.f0) ∧ w'.cell? ⟨w.heap.size, 1, none⟩ = some (.int .i64 e.f1.f0) ∧ w'.cell? ⟨w.heap.size, 2, none⟩ = some (.int .i64 e.f1.f1)) (go_keep)
    (first | (go_at_call 56; refine (bsearch _ K ks e HRD.out hn HM.out).mono ?_; rintro E w' ⟨rfl, hb⟩; have k0 := (hb.cell (p := ⟨p, 0, none⟩) hpl2).trans cc; have k1 := (hb.cell (p := ⟨w.heap.size, 0, none⟩) hxl).trans b0; have k2 := (hb.cell (p := ⟨w.heap.size, 1, none⟩) hxl).trans b1; have k3 := (hb.cell (p := ⟨w.heap.size, 2, none⟩) hxl).trans b2; have HB2 := Aside0.mk (HB0.out.drew.trans (hb.mono hs0)); clear hb))
  go_wp2
  go_ret2
  exact ⟨rfl, HB2.out⟩
def kidIx (ks : List S29) (e : S29) : Nat := low ks e + if found ks e then 1 else 0
set_option maxHeartbeats 2000000 in
theorem kid_calls (w : World) (p : Nat) (K C : Value) (ks : List S29) (e : S29) (hN : NodeAt w p K C) (hR : RowE w K ks) (hn : ks.length < 1000000) (hm : Mono ks e) :
    Calls Try.prog 43 #[.pointer (some ⟨p, 0, none⟩), .agg #[.string e.f0, .int .i64 e.f1.f0, .int .i64 e.f1.f1]] w fun E w' => E = .returned (.int .i64 (kidIx ks e)) ∧ Below w.heap.size w w' := by
  have hu29 := Try.underlying29
  obtain ⟨W0, hW0⟩ : ∃ W0, w.alloc (.cells #[.string e.f0, .int .i64 e.f1.f0, .int .i64 e.f1.f1] 29) = W0 := ⟨_, rfl⟩
  have hX : W0.heap[w.heap.size]? = some (.cells #[.string e.f0, .int .i64 e.f1.f0, .int .i64 e.f1.f1] 29 (0, 0)) := by rw [← hW0]; exact heap_alloc_new w _
  have hb0 : Below w.heap.size w W0 := by rw [← hW0]; exact (Below.refl _ w).alloc (Nat.le_refl _) _
  have b0 : W0.cell? ⟨w.heap.size, 0, none⟩ = some (.string e.f0) := (cell_of_row W0 _ 0 _ 29 (0, 0) hX).trans rfl
  have b1 : W0.cell? ⟨w.heap.size, 1, none⟩ = some (.int .i64 e.f1.f0) := (cell_of_row W0 _ 1 _ 29 (0, 0) hX).trans rfl
  have b2 : W0.cell? ⟨w.heap.size, 2, none⟩ = some (.int .i64 e.f1.f1) := (cell_of_row W0 _ 2 _ 29 (0, 0) hX).trans rfl
  have HF := Aside0.mk (find_calls W0 p K C ks e (hN.below hb0) (Row.below hR hb0) hn hm)
  have HB0 := Aside0.mk hb0
  have hs0 : w.heap.size ≤ W0.heap.size := hb0.size
  have hlow : low ks e < 1000000 := by have := low_le ks e; omega
  obtain ⟨i, hi⟩ : ∃ i, low ks e = i := ⟨_, rfl⟩
  obtain ⟨f, hf⟩ : ∃ f, found ks e = f := ⟨_, rfl⟩
  have hk : kidIx ks e = i + if f then 1 else 0 := by unfold kidIx; rw [hi, hf]
  rw [hk]
  rw [hi, hf] at HF
  rw [hi] at hlow
  clear hR hm hb0 hX hN hi hf hk
  cases f
  · go_enter Try.func43, Try.ntmps43
    go_wp2_with (first | (go_at_call 41; refine HF.out.mono ?_; rintro E w' ⟨rfl, hb⟩; have HB2 := Aside0.mk (HB0.out.trans (hb.mono hs0)); clear hb))
    go_ret
    exact ⟨rfl, HB2.out⟩
  · go_enter Try.func43, Try.ntmps43
    go_wp2_with (first | (go_at_call 41; refine HF.out.mono ?_; rintro E w' ⟨rfl, hb⟩; have HB2 := Aside0.mk (HB0.out.trans (hb.mono hs0)); clear hb))
    go_ret
    exact ⟨rfl, HB2.out⟩
end Go.Proofs.Bt
end
section
namespace Go.Proofs.Bt
open Go Go.RowKit Go.Lib Go.Shelf
set_option linter.unusedVariables false
set_option linter.unusedSimpArgs false
set_option maxRecDepth 100000
theorem ins42_info : (Try.prog.info? 29).map (fun i => (i.zero, i.size, i.bytes)) = some (some (.agg #[.string ⟨#[]⟩, .int .i64 0, .int .i64 0]), 3, 32) := by kernel_rfl
theorem ins42_over (w : World) (vb g o lb cb : Nat) (news cur : Array Value) (hne : vb ≠ g) (hv : w.heap[vb]? = some (.cells news 29 (0, 0))) (hg : w.heap[g]? = some (.cells cur 29 (0, 0))) (hc : 0 < cur.size) :
    (callFunc 58 #[.slice (some ⟨vb, 0, none⟩) 1 1, .slice (some ⟨g, o, none⟩) lb cb]).run Try.prog w = .ok (.value (.bool false)) w := by
  have hz : ∀ w, (Go.sizeOf 29).run Try.prog w = .ok 3 w := Try.sizeOf29
  rw [run_callFunc_extern Try.func58 (by kernel_rfl) (by kernel_rfl) (by kernel_rfl) (e := Extern.SlicesOverlaps.overlaps #[22, 22] #[4]) (by kernel_rfl),
    Lib.run_overlaps_apart w 22 4 29 Try.underlying22 3 hz ⟨vb, 0, none⟩ ⟨g, o, none⟩ 1 1 lb cb hne 29 29 news.size cur.size (by simp [World.shape?, hv]) (by simp [World.shape?, hg]) (by omega) (by simp [World.frozen?, hv]) (by simp [World.frozen?, hv])]
  rfl
set_option maxHeartbeats 4000000 in
set_option maxRecDepth 100000 in
theorem insert42 (w : World) (v : Value) (n i : Nat) (xs : List Value) (vb : Nat) (news : Array Value) (hR : Row w 29 3 v n xs) (hi : i ≤ n) (hn : n < 1000000) (hvb : w.heap[vb]? = some (.cells news 29 (0, 0))) (hns : news.size = 3)
    (h1 : ∀ u ∈ news.toList, u.oneCell' = true) (hne : v.ownBlock ≠ some vb) :
    Calls Try.prog 42 #[v, .int .i64 i, .slice (some ⟨vb, 0, none⟩) 1 1] w fun e w' => ∃ v', e = .returned v' ∧
      Row w' 29 3 v' (n + 1) (xs.take (i * 3) ++ news.toList ++ xs.drop (i * 3)) ∧ w.grownBy w' v.ownBlock ∧ (v'.ownBlock = v.ownBlock ∨ ∃ k, v'.ownBlock = some k ∧ w.heap.size ≤ k) ∧ v' ≠ .slice none 0 0 := by
  obtain ⟨i0, hi0, hz0, hzs, hzb⟩ := info_parts ins42_info
  have mixed : Try.prog.follows Departure.mixedOrders = true := by kernel_rfl
  have hRl := hR.1
  have hR1 := hR.2.1
  have hnl : news.toList.length = 3 := by simpa using hns
  have hnewc : ∀ W : World, W.heap[vb]? = w.heap[vb]? → ∀ j u, news.toList[j]? = some u → W.cell? ((⟨vb, 0, none⟩ : Addr).add j) = some u := fun W hW j u hu => by
    rw [Addr.add_lit, Nat.zero_add, cell_of_row W vb j news 29 (0, 0) (hW.trans hvb)]
    simpa using hu
  rcases hR.2.2 with ⟨rfl, rfl⟩ | ⟨g, cap, cur, rfl, hg, hnc, hcm, hcs, htake⟩
  · obtain rfl : i = 0 := by omega
    have hx : xs = [] := List.eq_nil_of_length_eq_zero (by simpa using hRl)
    subst hx
    have hrun : ∀ ty, (Builtin.append_ #[22, 22] ty #[.slice none 0 0, .slice (some ⟨vb, 0, none⟩) 1 1]).run Try.prog w = _ := fun ty =>
      run_append_nil w 22 ty 29 i0 _ Try.underlying22 hi0 hz0 ⟨vb, 0, none⟩ 1 1 news.toList (by rw [hnl, hzs]) (hnewc w rfl) (by omega) (by omega) (by rw [hzb]; omega)
    have hge := grownCap_ge w 1 0 29
    have hle := grownCap_le_maxLen w 1 0 29 (by decide)
    go_enter Try.func42, Try.ntmps42
    go_wp2_with (at_builtin; refine Lib.wpList_append_run _ rfl _ _ _ _ rfl _ _ rfl rfl _ _ (hrun _) ?_)
    go_ret
    refine ⟨_, rfl, ⟨by simp [hnl], by simpa using h1, .inr ⟨_, _, _, rfl, heap_alloc_new w.drew _, hge, hle, ?_, ?_⟩⟩, grown_alloc w _ _, .inr ⟨_, rfl, Nat.le_refl _⟩, by simp⟩
    · simp [size_zeroCells, hns, Value.cells] <;> omega
    · simp [hnl, List.take_append_of_le_length]
  · have hgv : vb ≠ g := fun e => hne (by rw [e]; rfl)
    by_cases hin : i = n
    · subst hin
      have hlast : xs.take (i * 3) ++ news.toList ++ xs.drop (i * 3) = xs ++ news.toList := by rw [List.take_of_length_le (by omega), List.drop_eq_nil_iff.2 (by omega), List.append_nil]
      rw [hlast]
      by_cases hroom : i + 1 ≤ cap
      · obtain ⟨W1, hW1⟩ : ∃ W1, w.setRow g (splice cur.toList (i * 3) news.toList).toArray = W1 := ⟨_, rfl⟩
        have hrun : ∀ ty, (Builtin.append_ #[22, 22] ty #[.slice (some ⟨g, 0, none⟩) i cap, .slice (some ⟨vb, 0, none⟩) 1 1]).run Try.prog w = .ok (.slice (some ⟨g, 0, none⟩) (i + 1) cap) W1 := fun ty => by
          have := run_append_room w 22 ty 29 i0 Try.underlying22 hi0 g i cap cur hg ⟨vb, 0, none⟩ 1 1 news.toList (by rw [hnl, hzs]) (hnewc w rfl) h1 hroom (by rw [hzs, hnl]; omega)
          rw [hzs] at this
          rw [← hW1]
          exact this
        go_enter Try.func42, Try.ntmps42
        go_wp2_with (at_builtin; refine Lib.wpList_append_run _ rfl _ _ _ _ rfl _ _ rfl rfl _ _ (hrun _) ?_)
        go_ret
        refine ⟨_, rfl, ⟨by simp [hnl, hRl] <;> omega, ?_, .inr ⟨g, cap, (splice cur.toList (i * 3) news.toList).toArray, rfl, by rw [← hW1]; exact setRow_heap w g cur _ 29 _ hg, hroom, hcm, ?_, ?_⟩⟩, by rw [← hW1]; exact grown_set w g _, .inl rfl, by simp⟩
        · intro u hu
          rcases List.mem_append.1 hu with hu | hu
          · exact hR1 u hu
          · exact h1 u hu
        · rw [List.size_toArray, splice_len (by rw [hnl]; simp <;> omega)]
          simpa using hcs
        · show (splice cur.toList (i * 3) news.toList).take ((i + 1) * 3) = _
          rw [show (i + 1) * 3 = i * 3 + news.toList.length by rw [hnl]; omega, splice_take_end (by simp <;> omega), htake]
      · have holds : ∀ j u, xs[j]? = some u → w.cell? ((⟨g, 0, none⟩ : Addr).add j) = some u := fun j u hu => by
          rw [Addr.add_lit, Nat.zero_add]
          exact hR.cell rfl j u hu
        have hrun : ∀ ty, (Builtin.append_ #[22, 22] ty #[.slice (some ⟨g, 0, none⟩) i cap, .slice (some ⟨vb, 0, none⟩) 1 1]).run Try.prog w = _ := fun ty =>
          run_append_grow w 22 ty 29 i0 _ Try.underlying22 hi0 hz0 ⟨g, 0, none⟩ i cap xs (by rw [hRl, hzs]) holds ⟨vb, 0, none⟩ 1 1 news.toList (by rw [hnl, hzs]) (hnewc w rfl) (by omega) (by omega) (by rw [hzb]; exact growslice_fits (by omega) (by omega))
        have hge := grownCap_ge w (i + 1) cap 29
        have hle := grownCap_le_maxLen w (i + 1) cap 29 (by simp only [maxLen]; omega)
        go_enter Try.func42, Try.ntmps42
        go_wp2_with (at_builtin; refine Lib.wpList_append_run _ rfl _ _ _ _ rfl _ _ rfl rfl _ _ (hrun _) ?_)
        go_ret
        refine ⟨_, rfl, ⟨by simp [hnl, hRl] <;> omega, ?_, .inr ⟨_, _, _, rfl, heap_alloc_new w.drew _, hge, hle, ?_, ?_⟩⟩, grown_alloc w _ _, .inr ⟨_, rfl, Nat.le_refl _⟩, by simp⟩
        · intro u hu
          rcases List.mem_append.1 hu with hu | hu
          · exact hR1 u hu
          · exact h1 u hu
        · simp [size_zeroCells, hns, hRl, Value.cells] <;> omega
        · simp only [Array.toList_append]
          rw [show (i + 1) * 3 = (xs ++ news.toList).length by simp [hRl, hns] <;> omega, ← List.append_assoc, List.take_left]
    · have hlt : i < n := by omega
      have hz1 : ¬ ((i : Int) = (n : Int)) := by omega
      have hw1 : IntKind.i64.wrap ((n : Int) + 1) = (n : Int) + 1 := by rw [IntKind.wrap_i64]; omega
      have hw2 : IntKind.i64.wrap ((i : Int) + 1) = (i : Int) + 1 := by rw [IntKind.wrap_i64]; omega
      have hw3 : IntKind.i64.wrap ((n : Int) + 1 - (i : Int)) = ((n + 1 - i : Nat) : Int) := by rw [IntKind.wrap_i64]; omega
      have hin2 : i ≤ n := by omega
      have hl1 : (xs.take (i * 3)).length = i * 3 := by rw [List.length_take, hRl]; omega
      have hl2 : (xs.drop (i * 3)).length = (n - i) * 3 := by rw [List.length_drop, hRl]; omega
      have hcurs : cur.toList.length = cur.size := by simp
      by_cases hroom : n + 1 ≤ cap
      · obtain ⟨cur1, hcur1⟩ : ∃ c, splice cur.toList ((i + 1) * 3) (xs.drop (i * 3)) = c := ⟨_, rfl⟩
        have hs1 : cur1.length = cur.size := by rw [← hcur1, splice_len (by rw [hl2]; simp <;> omega)]; simp
        obtain ⟨W1, hW1⟩ : ∃ W1, w.drew.setRow g cur1.toArray = W1 := ⟨_, rfl⟩
        have hH1 : W1.heap[g]? = some (.cells cur1.toArray 29 (0, 0)) := by rw [← hW1]; exact setRow_heap w.drew g cur _ 29 _ hg
        have hold1 : ∀ k, k ≠ g → W1.heap[k]? = w.heap[k]? := fun k hk => by rw [← hW1, setRow_other _ _ _ _ hk]; rfl
        obtain ⟨W2, hW2⟩ : ∃ W2, W1.setRow g (splice cur1 (i * 3) news.toList).toArray = W2 := ⟨_, rfl⟩
        have hcp1 : ∀ ty, (Builtin.copy_ #[22, 22] ty #[.slice (some ⟨g, (i + 1) * 3, none⟩) (n + 1 - (i + 1)) (cap - (i + 1)), .slice (some ⟨g, i * 3, none⟩) (n + 1 - i) (cap - i)]).run Try.prog w.drew = .ok (goInt (Nat.min (n + 1 - i) (n + 1 - (i + 1)))) W1 := fun ty => by
          rw [← hW1, ← hcur1]
          have := run_copy_row w.drew 22 22 ty 29 i0 Try.underlying22 hi0 g ((i + 1) * 3) (n + 1 - (i + 1)) (cap - (i + 1)) cur hg ⟨g, i * 3, none⟩ (n + 1 - i) (cap - i) (xs.drop (i * 3)) (by rw [hl2, hzs, show Nat.min (n + 1 - i) (n + 1 - (i + 1)) = n - i from (Nat.min_eq_right (by omega)).trans (by omega)])
            (fun j u hu => by
              rw [Addr.add_lit, cell_of_row w.drew g _ cur 29 (0, 0) hg, ← cell_of_row w g _ cur 29 (0, 0) hg]
              exact hR.cell rfl _ u (by rwa [List.getElem?_drop] at hu))
            (by rw [hl2]; omega) (fun u hu => hR1 u (List.mem_of_mem_drop hu))
          try simp only [Nat.mul_one] at this ⊢
          exact this
        have hcp2 : ∀ ty, (Builtin.copy_ #[22, 22] ty #[.slice (some ⟨g, i * 3, none⟩) (n + 1 - i) (cap - i), .slice (some ⟨vb, 0, none⟩) 1 1]).run Try.prog W1 = .ok (goInt (Nat.min 1 (n + 1 - i))) W2 := fun ty => by
          rw [← hW2]
          have := run_copy_row W1 22 22 ty 29 i0 Try.underlying22 hi0 g (i * 3) (n + 1 - i) (cap - i) cur1.toArray hH1 ⟨vb, 0, none⟩ 1 1 news.toList (by rw [hnl, hzs, nmin (by omega)]) (hnewc W1 (hold1 vb hgv)) (by rw [hnl]; simp [hs1] <;> omega) h1
          try simp only [Nat.mul_one] at this ⊢
          exact this
        have hov : ∀ lb cb, (callFunc 58 #[.slice (some ⟨vb, 0, none⟩) 1 1, .slice (some ⟨g, (i + 1) * 3, none⟩) lb cb]).run Try.prog w = .ok (.value (.bool false)) w := fun lb cb =>
          ins42_over w vb g _ lb cb news cur hgv hvb hg (by omega)
        have hb1 : (0 : Int) ≤ (i : Int) + 1 := by omega
        have hb2 : ¬ (cap = i + 1) := by omega
        have hb3 : (i : Int) ≤ (n : Int) := by omega
        have hb4 : ¬ (cap = i) := by omega
        have htn : ((i : Int) + 1).toNat = i + 1 := by omega
        have htn2 : ((n : Int) + 1).toNat = n + 1 := by omega
        have hb5 : (i : Int) ≤ (n : Int) + 1 := by omega
        have hb6 : (n : Int) + 1 ≤ (cap : Int) := by omega
        have hb7 : i ≤ n + 1 := by omega
        go_enter Try.func42, Try.ntmps42
        go_wp2_with (simp only [hov])
        go_region_law_o (refine step_copy_runI rfl _ _ 22 22 rfl _ _ (by simp [Act.eval, Act.put]) (by simp [Act.eval, Act.put]) (hcp1 _) ?_)
        go_wp2_with (at_builtin; refine wpList_copy_runI _ rfl _ _ 22 22 rfl _ _ rfl rfl (hcp2 _) ?_)
        go_ret
        have hl3 : (xs.take (i * 3) ++ news.toList ++ xs.drop (i * 3)).length = (n + 1) * 3 := by
          rw [List.length_append, List.length_append, hl1, hl2, hnl]
          omega
        refine ⟨_, rfl, ⟨hl3, ?_, .inr ⟨g, cap, (splice cur1 (i * 3) news.toList).toArray, rfl, ?_, hroom, hcm, ?_, ?_⟩⟩, ⟨?_, ?_, ?_, ?_, ?_⟩, .inl rfl, by simp⟩
        · intro u hu
          rcases List.mem_append.1 hu with hu | hu
          · rcases List.mem_append.1 hu with hu | hu
            · exact hR1 u (List.mem_of_mem_take hu)
            · exact h1 u hu
          · exact hR1 u (List.mem_of_mem_drop hu)
        · rw [← hW2]
          exact setRow_heap W1 g cur1.toArray _ 29 _ hH1
        · rw [List.size_toArray, splice_len (by rw [hnl, hs1]; omega), hs1]
          exact hcs
        · show (splice cur1 (i * 3) news.toList).take ((n + 1) * 3) = _
          have hsp : splice cur1 (i * 3) news.toList = cur1.take (i * 3) ++ news.toList ++ cur1.drop ((i + 1) * 3) := by
            unfold splice
            rw [hnl, show i * 3 + 3 = (i + 1) * 3 by omega]
          have hd : cur1.drop ((i + 1) * 3) = xs.drop (i * 3) ++ cur.toList.drop ((n + 1) * 3) := by
            rw [← hcur1]
            unfold splice
            rw [List.append_assoc, List.drop_append_of_le_length (by rw [List.length_take]; omega), List.drop_eq_nil_iff.2 (by rw [List.length_take]; omega), List.nil_append, hl2, show (i + 1) * 3 + (n - i) * 3 = (n + 1) * 3 by omega]
          have ht : cur1.take (i * 3) = xs.take (i * 3) := by
            rw [← hcur1, splice_take _ (by omega) (by omega), ← htake, List.take_take, Nat.min_eq_left (by omega)]
          rw [hsp, hd, ht, ← List.append_assoc, ← hl3, List.take_left]
        · rw [← hW2, ← hW1]; rfl
        · rw [← hW2, ← hW1]; rfl
        · rw [← hW2, ← hW1]; rfl
        · rw [← hW2, ← hW1]; simp
        · intro k hk hkg
          have hk2 : k ≠ g := fun e => hkg (by rw [e]; rfl)
          rw [← hW2, setRow_other _ _ _ _ hk2]
          exact hold1 k hk2
      · obtain ⟨C, hC⟩ : ∃ C, grownCap w (n + 1) cap 29 = C := ⟨_, rfl⟩
        have hge := grownCap_ge w (n + 1) cap 29
        have hle := grownCap_le_maxLen w (n + 1) cap 29 (by simp only [maxLen]; omega)
        rw [hC] at hge hle
        have hsum : i + (n + 1 - i) = n + 1 := by omega
        have holds : ∀ j u, (xs.take (i * 3))[j]? = some u → w.cell? ((⟨g, 0, none⟩ : Addr).add j) = some u := fun j u hu => by
          rw [Addr.add_lit, Nat.zero_add]
          refine hR.cell rfl j u ?_
          rw [List.getElem?_take] at hu
          split at hu
          · exact hu
          · cases hu
        obtain ⟨cur1, hcur1⟩ : ∃ c : Array Value, ((xs.take (i * 3)).toArray ++ Builtin.zeroCells (.agg #[.string ⟨#[]⟩, .int .i64 0, .int .i64 0] : Value).cells (n + 1 - i) ++ Builtin.zeroCells (.agg #[.string ⟨#[]⟩, .int .i64 0, .int .i64 0] : Value).cells (C - (n + 1))) = c := ⟨_, rfl⟩
        have hs1 : cur1.size = C * 3 := by
          rw [← hcur1]
          simp [size_zeroCells, Value.cells, hl1, hRl] <;> omega
        have ht1 : cur1.toList.take (i * 3) = xs.take (i * 3) := by
          rw [← hcur1]
          simp only [Array.toList_append, List.append_assoc]
          rw [List.take_append_of_le_length (by omega), List.take_of_length_le (by omega)]
        obtain ⟨W1, hW1⟩ : ∃ W1, w.drew.alloc (.cells cur1 29) = W1 := ⟨_, rfl⟩
        have hrun : ∀ ty, (Builtin.append_ #[22, 3] ty #[.slice (some ⟨g, 0, none⟩) i cap, .int .i64 ((n + 1 - i : Nat) : Int)]).run Try.prog w = .ok (.slice (some ⟨w.heap.size, 0, none⟩) (n + 1) C) W1 := fun ty => by
          have := run_append_grow_zeros w 22 3 ty 29 i0 _ .i64 Try.underlying22 Try.underlying3 hi0 hz0 ⟨g, 0, none⟩ i cap (n + 1 - i) (xs.take (i * 3)) (by rw [hl1, hzs]) holds (by omega) (by omega) (by omega) (by omega) (by rw [hzb]; omega) (by rw [hzb, hsum]; exact growslice_fits (by omega) (by omega))
          rw [hsum, hC, hcur1, hW1] at this
          exact this
        have hH : W1.heap[w.heap.size]? = some (.cells cur1 29 (0, 0)) := by rw [← hW1]; exact heap_alloc_new w.drew _
        have hold : ∀ k, k < w.heap.size → W1.heap[k]? = w.heap[k]? := fun k hk => by rw [← hW1]; exact heap_alloc_old w.drew _ hk
        have hgl := (Array.getElem?_eq_some_iff.1 hg).1
        have hvl := (Array.getElem?_eq_some_iff.1 hvb).1
        obtain ⟨W2, hW2⟩ : ∃ W2, W1.setRow w.heap.size (splice cur1.toList (i * 3) news.toList).toArray = W2 := ⟨_, rfl⟩
        have hcp1 : ∀ ty, (Builtin.copy_ #[22, 22] ty #[.slice (some ⟨w.heap.size, i * 3, none⟩) (n + 1 - i) (C - i), .slice (some ⟨vb, 0, none⟩) 1 1]).run Try.prog W1 = .ok (goInt (Nat.min 1 (n + 1 - i))) W2 := fun ty => by
          rw [← hW2]
          have := run_copy_row W1 22 22 ty 29 i0 Try.underlying22 hi0 w.heap.size (i * 3) (n + 1 - i) (C - i) cur1 hH ⟨vb, 0, none⟩ 1 1 news.toList (by rw [hnl, hzs, nmin (by omega)]) (hnewc W1 (hold vb hvl)) (by rw [hnl, hs1]; omega) h1
          try simp only [Nat.mul_one] at this ⊢
          exact this
        have hH2 : W2.heap[w.heap.size]? = some (.cells (splice cur1.toList (i * 3) news.toList).toArray 29 (0, 0)) := by rw [← hW2]; exact setRow_heap W1 _ cur1 _ 29 _ hH
        have hold2 : ∀ k, k < w.heap.size → W2.heap[k]? = w.heap[k]? := fun k hk => by rw [← hW2, setRow_other _ _ _ _ (by omega)]; exact hold k hk
        obtain ⟨cur2, hcur2⟩ : ∃ c, (splice cur1.toList (i * 3) news.toList) = c := ⟨_, rfl⟩
        rw [hcur2] at hH2
        have hs2 : cur2.length = C * 3 := by rw [← hcur2, splice_len (by rw [hnl]; simp [hs1] <;> omega)]; simp [hs1]
        obtain ⟨W3, hW3⟩ : ∃ W3, W2.drew.setRow w.heap.size (splice cur2 ((i + 1) * 3) (xs.drop (i * 3))).toArray = W3 := ⟨_, rfl⟩
        have hcp2 : ∀ ty, (Builtin.copy_ #[22, 22] ty #[.slice (some ⟨w.heap.size, (i + 1) * 3, none⟩) (n + 1 - (i + 1)) (C - (i + 1)), .slice (some ⟨g, i * 3, none⟩) (n - i) (cap - i)]).run Try.prog W2.drew = .ok (goInt (Nat.min (n - i) (n + 1 - (i + 1)))) W3 := fun ty => by
          have := run_copy_row W2.drew 22 22 ty 29 i0 Try.underlying22 hi0 w.heap.size ((i + 1) * 3) (n + 1 - (i + 1)) (C - (i + 1)) cur2.toArray hH2 ⟨g, i * 3, none⟩ (n - i) (cap - i) (xs.drop (i * 3)) (by rw [hl2, hzs, nmin (by omega)])
            (fun j u hu => by
              rw [Addr.add_lit, cell_of_row W2.drew g _ cur 29 (0, 0) ((hold2 g hgl).trans hg), ← cell_of_row w g _ cur 29 (0, 0) hg]
              exact hR.cell rfl _ u (by rwa [List.getElem?_drop] at hu))
            (by rw [hl2]; simp [hs2] <;> omega) (fun u hu => hR1 u (List.mem_of_mem_drop hu))
          rw [← hW3]
          try simp only [Nat.mul_one] at this ⊢
          exact this
        have hnr : ¬ (n + 1 ≤ cap) := hroom
        go_enter Try.func42, Try.ntmps42
        go_wp2_with (first | (at_builtin; refine Lib.wpList_append_run _ rfl _ _ _ _ rfl _ _ rfl rfl _ _ (hrun _) ?_) | (at_builtin; refine wpList_copy_runI _ rfl _ _ 22 22 rfl _ _ rfl rfl (hcp1 _) ?_))
        have hb1 : (0 : Int) ≤ (i : Int) + 1 := by omega
        have hb2 : ¬ (C = i + 1) := by omega
        have hb3 : (i : Int) ≤ (n : Int) := by omega
        have hb4 : ¬ (cap = i) := by omega
        have htn : ((i : Int) + 1).toNat = i + 1 := by omega
        go_region_law_o (refine step_copy_runI rfl _ _ 22 22 rfl _ _ (by simp [Act.eval, Act.put]) (by simp [Act.eval, Act.put]) (hcp2 _) ?_)
        go_wp2
        go_ret
        have hl3 : (xs.take (i * 3) ++ news.toList ++ xs.drop (i * 3)).length = (n + 1) * 3 := by
          rw [List.length_append, List.length_append, hl1, hl2, hnl]
          omega
        refine ⟨_, rfl, ⟨hl3, ?_, .inr ⟨_, C, (splice cur2 ((i + 1) * 3) (xs.drop (i * 3))).toArray, rfl, ?_, hge, hle, ?_, ?_⟩⟩, ⟨?_, ?_, ?_, ?_, ?_⟩, .inr ⟨_, rfl, Nat.le_refl _⟩, by simp⟩
        · intro u hu
          rcases List.mem_append.1 hu with hu | hu
          · rcases List.mem_append.1 hu with hu | hu
            · exact hR1 u (List.mem_of_mem_take hu)
            · exact h1 u hu
          · exact hR1 u (List.mem_of_mem_drop hu)
        · rw [← hW3]
          exact setRow_heap W2.drew _ cur2.toArray _ 29 _ hH2
        · rw [List.size_toArray, splice_len (by rw [hl2, hs2]; omega), hs2]
          exact Nat.le_refl _
        · show (splice cur2 ((i + 1) * 3) (xs.drop (i * 3))).take ((n + 1) * 3) = _
          rw [show (n + 1) * 3 = (i + 1) * 3 + (xs.drop (i * 3)).length by rw [hl2]; omega, splice_take_end (by rw [hs2]; omega), ← hcur2,
            show (i + 1) * 3 = i * 3 + news.toList.length by rw [hnl]; omega, splice_take_end (by simp [hs1] <;> omega), ht1]
        · rw [← hW3, ← hW2, ← hW1]; rfl
        · rw [← hW3, ← hW2, ← hW1]; rfl
        · rw [← hW3, ← hW2, ← hW1]; rfl
        · rw [← hW3, ← hW2, ← hW1]; simp
        · intro k hk _
          rw [← hW3, setRow_other _ _ _ _ (by omega)]
          exact hold2 k hk
end Go.Proofs.Bt
end
section
namespace Go.Proofs.Bt
open Go Go.RowKit Go.Lib Go.Shelf
set_option linter.unusedVariables false
set_option linter.unusedSimpArgs false
set_option maxRecDepth 100000
set_option maxHeartbeats 2000000 in
theorem clone45 (w : World) (a : Addr) (n c : Nat) (xs : List Value) (hx : xs.length = n * 3) (hcell : ∀ j u, xs[j]? = some u → w.cell? (a.add j) = some u) (h1 : ∀ u ∈ xs, u.oneCell' = true) (hn : n < 1000000) :
    Calls Try.prog 45 #[.slice (some a) n c] w fun e w' => ∃ k cap, e = .returned (.slice (some ⟨k, 0, none⟩) n cap) ∧ w.heap.size ≤ k ∧ Row w' 29 3 (.slice (some ⟨k, 0, none⟩) n cap) n xs ∧ Below w.heap.size w w' := by
  have mixed : Try.prog.follows Departure.mixedOrders = true := by kernel_rfl
  have q22 : ∀ (w : World) (a : Option Addr) (n c n' c' : Nat), (binOp .eql 22 (.slice a n c) (.slice none n' c')).run Try.prog w = .ok (.bool a.isNone) w := fun w a n c n' c' => Lib.run_eql_slice_nil w _ _ a n c n' c' Try.underlying22
  obtain ⟨i0, hi0, hz0, hzs, hzb⟩ := info_parts ins42_info
  obtain ⟨W0, hW0⟩ : ∃ W0, w.alloc (.cells #[] 29) = W0 := ⟨_, rfl⟩
  have hb0 : Below w.heap.size w W0 := by rw [← hW0]; exact (Below.refl _ _).alloc (Nat.le_refl _) _
  have hs0 : W0.heap.size = w.heap.size + 1 := by rw [← hW0]; simp
  have hH0 : W0.heap[w.heap.size]? = some (.cells #[] 29 (0, 0)) := by rw [← hW0]; exact heap_alloc_new w _
  have hcell0 : ∀ j u, xs[j]? = some u → W0.cell? (a.add j) = some u := fun j u hu => by
    have h := hcell j u hu
    exact (hb0.cell (World.block_lt_of_cell? w _ h)).trans h
  by_cases h0 : n = 0
  · subst h0
    have hx0 : xs = [] := List.eq_nil_of_length_eq_zero (by simpa using hx)
    subst hx0
    have hrun : ∀ ty, (Builtin.append_ #[22, 22] ty #[.slice (some ⟨w.heap.size, 0, none⟩) 0 0, .slice (some a) 0 c]).run Try.prog W0 = _ := fun ty =>
      run_append_room W0 22 ty 29 i0 Try.underlying22 hi0 w.heap.size 0 0 #[] hH0 a 0 c [] (by simp) (by simp) (by simp) (by simp) (by simp)
    go_enter Try.func45, Try.ntmps45
    go_wp2_with (first | (at_builtin; refine Lib.wpList_append_run _ rfl _ _ _ _ rfl _ _ rfl rfl _ _ (hrun _) ?_))
    go_ret
    refine ⟨_, _, rfl, Nat.le_refl _, ⟨by simp, by simp, .inr ⟨_, _, #[], rfl, ?_, Nat.le_refl _, by simp [maxLen], by simp, by simp⟩⟩, ?_⟩
    · exact setRow_heap W0 _ #[] _ 29 _ hH0
    · exact hb0.trans (Below.grown (Below.refl _ _) (grown_set W0 _ _) (by omega) (fun k e => by simp at e; omega))
  · have hrun : ∀ ty, (Builtin.append_ #[22, 22] ty #[.slice (some ⟨w.heap.size, 0, none⟩) 0 0, .slice (some a) n c]).run Try.prog W0 = _ := fun ty =>
      run_append_grow W0 22 ty 29 i0 _ Try.underlying22 hi0 hz0 ⟨w.heap.size, 0, none⟩ 0 0 [] (by simp) (by simp) a n c xs (by rw [hx, hzs]) hcell0 (by omega) (by omega) (by rw [hzb]; exact growslice_fits (by omega) (by omega))
    have hge := grownCap_ge W0 (0 + n) 0 29
    have hle := grownCap_le_maxLen W0 (0 + n) 0 29 (by simp only [maxLen]; omega)
    obtain ⟨C, hC⟩ : ∃ C, grownCap W0 (0 + n) 0 29 = C := ⟨_, rfl⟩
    rw [hC] at hge hle hrun
    obtain ⟨W1, hW1⟩ : ∃ W1, W0.drew.alloc (.cells (([] : List Value).toArray ++ xs.toArray ++ Builtin.zeroCells (.agg #[.string ⟨#[]⟩, .int .i64 0, .int .i64 0] : Value).cells (C - (0 + n))) 29) = W1 := ⟨_, rfl⟩
    rw [hW1, Nat.zero_add] at hrun
    rw [Nat.zero_add] at hge
    have hz5 : ¬ (n = 0) := h0
    go_enter Try.func45, Try.ntmps45
    go_wp2_with (first | (at_builtin; refine Lib.wpList_append_run _ rfl _ _ _ _ rfl _ _ rfl rfl _ _ (hrun _) ?_))
    go_ret
    refine ⟨_, _, rfl, by omega, ⟨hx, h1, .inr ⟨_, C, _, rfl, by rw [← hW1, show w.heap.size + 1 = W0.drew.heap.size by simp [hs0]]; exact heap_alloc_new W0.drew _, hge, hle, ?_, ?_⟩⟩, ?_⟩
    · simp [size_zeroCells, Value.cells, hx] <;> omega
    · simp only [Array.toList_append, List.nil_append]
      rw [← hx, List.take_left]
    · rw [← hW1]
      exact hb0.trans ((Below.refl _ W0).drew.alloc (by simp; omega) _)
theorem clone45_nil (w : World) : Calls Try.prog 45 #[.slice none 0 0] w fun e w' => e = .returned (.slice none 0 0) ∧ w' = w := by
  have q22 : ∀ (w : World) (a : Option Addr) (n c n' c' : Nat), (binOp .eql 22 (.slice a n c) (.slice none n' c')).run Try.prog w = .ok (.bool a.isNone) w := fun w a n c n' c' => Lib.run_eql_slice_nil w _ _ a n c n' c' Try.underlying22
  go_enter Try.func45, Try.ntmps45
  go_wp2
  go_ret
  exact ⟨rfl, rfl⟩
theorem clip48 (w : World) (g n c : Nat) (hc : n ≤ c) : Calls Try.prog 48 #[.slice (some ⟨g, 0, none⟩) n c] w fun e w' => e = .returned (.slice (some ⟨g, 0, none⟩) n n) ∧ w' = w := by
  have hz := Try.sizeOf29
  go_enter Try.func48, Try.ntmps48
  go_wp2
  go_ret
  exact ⟨rfl, rfl⟩
end Go.Proofs.Bt
end
section
namespace Go.Proofs.Bt
open Go Go.RowKit Go.Lib Go.Shelf
set_option linter.unusedVariables false
set_option linter.unusedSimpArgs false
set_option maxRecDepth 100000
theorem ins44_info : (Try.prog.info? 59).map (fun i => (i.zero, i.size, i.bytes)) = some (some (.pointer none), 1, 8) := by kernel_rfl
theorem ins44_over (w : World) (vb g o lb cb : Nat) (news cur : Array Value) (hne : vb ≠ g) (hv : w.heap[vb]? = some (.cells news 59 (0, 0))) (hg : w.heap[g]? = some (.cells cur 59 (0, 0))) (hc : 0 < cur.size) :
    (callFunc 60 #[.slice (some ⟨vb, 0, none⟩) 1 1, .slice (some ⟨g, o, none⟩) lb cb]).run Try.prog w = .ok (.value (.bool false)) w := by
  have hz : ∀ w, (Go.sizeOf 59).run Try.prog w = .ok 1 w := Try.sizeOf59
  rw [run_callFunc_extern Try.func60 (by kernel_rfl) (by kernel_rfl) (by kernel_rfl) (e := Extern.SlicesOverlaps.overlaps #[60, 60] #[4]) (by kernel_rfl),
    Lib.run_overlaps_apart w 60 4 59 Try.underlying60 1 hz ⟨vb, 0, none⟩ ⟨g, o, none⟩ 1 1 lb cb hne 59 59 news.size cur.size (by simp [World.shape?, hv]) (by simp [World.shape?, hg]) (by omega) (by simp [World.frozen?, hv]) (by simp [World.frozen?, hv])]
  rfl
set_option maxHeartbeats 4000000 in
set_option maxRecDepth 100000 in
theorem insert44 (w : World) (v : Value) (n i : Nat) (xs : List Value) (vb : Nat) (news : Array Value) (hR : Row w 59 1 v n xs) (hi : i ≤ n) (hn : n < 1000000) (hvb : w.heap[vb]? = some (.cells news 59 (0, 0))) (hns : news.size = 1)
    (h1 : ∀ u ∈ news.toList, u.oneCell' = true) (hne : v.ownBlock ≠ some vb) :
    Calls Try.prog 44 #[v, .int .i64 i, .slice (some ⟨vb, 0, none⟩) 1 1] w fun e w' => ∃ v', e = .returned v' ∧
      Row w' 59 1 v' (n + 1) (xs.take (i * 1) ++ news.toList ++ xs.drop (i * 1)) ∧ w.grownBy w' v.ownBlock ∧ (v'.ownBlock = v.ownBlock ∨ ∃ k, v'.ownBlock = some k ∧ w.heap.size ≤ k) ∧ v' ≠ .slice none 0 0 := by
  obtain ⟨i0, hi0, hz0, hzs, hzb⟩ := info_parts ins44_info
  have mixed : Try.prog.follows Departure.mixedOrders = true := by kernel_rfl
  have hRl := hR.1
  have hR1 := hR.2.1
  have hnl : news.toList.length = 1 := by simpa using hns
  have hnewc : ∀ W : World, W.heap[vb]? = w.heap[vb]? → ∀ j u, news.toList[j]? = some u → W.cell? ((⟨vb, 0, none⟩ : Addr).add j) = some u := fun W hW j u hu => by
    rw [Addr.add_lit, Nat.zero_add, cell_of_row W vb j news 59 (0, 0) (hW.trans hvb)]
    simpa using hu
  rcases hR.2.2 with ⟨rfl, rfl⟩ | ⟨g, cap, cur, rfl, hg, hnc, hcm, hcs, htake⟩
  · obtain rfl : i = 0 := by omega
    have hx : xs = [] := List.eq_nil_of_length_eq_zero (by simpa using hRl)
    subst hx
    have hrun : ∀ ty, (Builtin.append_ #[60, 60] ty #[.slice none 0 0, .slice (some ⟨vb, 0, none⟩) 1 1]).run Try.prog w = _ := fun ty =>
      run_append_nil w 60 ty 59 i0 _ Try.underlying60 hi0 hz0 ⟨vb, 0, none⟩ 1 1 news.toList (by rw [hnl, hzs]) (hnewc w rfl) (by omega) (by omega) (by rw [hzb]; omega)
    have hge := grownCap_ge w 1 0 59
    have hle := grownCap_le_maxLen w 1 0 59 (by decide)
    go_enter Try.func44, Try.ntmps44
    go_wp2_with (at_builtin; refine Lib.wpList_append_run _ rfl _ _ _ _ rfl _ _ rfl rfl _ _ (hrun _) ?_)
    go_ret
    refine ⟨_, rfl, ⟨by simp [hnl], by simpa using h1, .inr ⟨_, _, _, rfl, heap_alloc_new w.drew _, hge, hle, ?_, ?_⟩⟩, grown_alloc w _ _, .inr ⟨_, rfl, Nat.le_refl _⟩, by simp⟩
    · simp [size_zeroCells, hns, Value.cells] <;> omega
    · simp [hnl, List.take_append_of_le_length]
  · have hgv : vb ≠ g := fun e => hne (by rw [e]; rfl)
    by_cases hin : i = n
    · subst hin
      have hlast : xs.take (i * 1) ++ news.toList ++ xs.drop (i * 1) = xs ++ news.toList := by rw [List.take_of_length_le (by omega), List.drop_eq_nil_iff.2 (by omega), List.append_nil]
      rw [hlast]
      by_cases hroom : i + 1 ≤ cap
      · obtain ⟨W1, hW1⟩ : ∃ W1, w.setRow g (splice cur.toList (i * 1) news.toList).toArray = W1 := ⟨_, rfl⟩
        have hrun : ∀ ty, (Builtin.append_ #[60, 60] ty #[.slice (some ⟨g, 0, none⟩) i cap, .slice (some ⟨vb, 0, none⟩) 1 1]).run Try.prog w = .ok (.slice (some ⟨g, 0, none⟩) (i + 1) cap) W1 := fun ty => by
          have := run_append_room w 60 ty 59 i0 Try.underlying60 hi0 g i cap cur hg ⟨vb, 0, none⟩ 1 1 news.toList (by rw [hnl, hzs]) (hnewc w rfl) h1 hroom (by rw [hzs, hnl]; omega)
          rw [hzs] at this
          rw [← hW1]
          exact this
        go_enter Try.func44, Try.ntmps44
        go_wp2_with (at_builtin; refine Lib.wpList_append_run _ rfl _ _ _ _ rfl _ _ rfl rfl _ _ (hrun _) ?_)
        go_ret
        refine ⟨_, rfl, ⟨by simp [hnl, hRl] <;> omega, ?_, .inr ⟨g, cap, (splice cur.toList (i * 1) news.toList).toArray, rfl, by rw [← hW1]; exact setRow_heap w g cur _ 59 _ hg, hroom, hcm, ?_, ?_⟩⟩, by rw [← hW1]; exact grown_set w g _, .inl rfl, by simp⟩
        · intro u hu
          rcases List.mem_append.1 hu with hu | hu
          · exact hR1 u hu
          · exact h1 u hu
        · rw [List.size_toArray, splice_len (by rw [hnl]; simp <;> omega)]
          simpa using hcs
        · show (splice cur.toList (i * 1) news.toList).take ((i + 1) * 1) = _
          rw [show (i + 1) * 1 = i * 1 + news.toList.length by rw [hnl]; omega, splice_take_end (by simp <;> omega), htake]
      · have holds : ∀ j u, xs[j]? = some u → w.cell? ((⟨g, 0, none⟩ : Addr).add j) = some u := fun j u hu => by
          rw [Addr.add_lit, Nat.zero_add]
          exact hR.cell rfl j u hu
        have hrun : ∀ ty, (Builtin.append_ #[60, 60] ty #[.slice (some ⟨g, 0, none⟩) i cap, .slice (some ⟨vb, 0, none⟩) 1 1]).run Try.prog w = _ := fun ty =>
          run_append_grow w 60 ty 59 i0 _ Try.underlying60 hi0 hz0 ⟨g, 0, none⟩ i cap xs (by rw [hRl, hzs]) holds ⟨vb, 0, none⟩ 1 1 news.toList (by rw [hnl, hzs]) (hnewc w rfl) (by omega) (by omega) (by rw [hzb]; exact growslice_fits (by omega) (by omega))
        have hge := grownCap_ge w (i + 1) cap 59
        have hle := grownCap_le_maxLen w (i + 1) cap 59 (by simp only [maxLen]; omega)
        go_enter Try.func44, Try.ntmps44
        go_wp2_with (at_builtin; refine Lib.wpList_append_run _ rfl _ _ _ _ rfl _ _ rfl rfl _ _ (hrun _) ?_)
        go_ret
        refine ⟨_, rfl, ⟨by simp [hnl, hRl] <;> omega, ?_, .inr ⟨_, _, _, rfl, heap_alloc_new w.drew _, hge, hle, ?_, ?_⟩⟩, grown_alloc w _ _, .inr ⟨_, rfl, Nat.le_refl _⟩, by simp⟩
        · intro u hu
          rcases List.mem_append.1 hu with hu | hu
          · exact hR1 u hu
          · exact h1 u hu
        · simp [size_zeroCells, hns, hRl, Value.cells] <;> omega
        · simp only [Array.toList_append]
          rw [show (i + 1) * 1 = (xs ++ news.toList).length by simp [hRl, hns] <;> omega, ← List.append_assoc, List.take_left]
    · have hlt : i < n := by omega
      have hz1 : ¬ ((i : Int) = (n : Int)) := by omega
      have hw1 : IntKind.i64.wrap ((n : Int) + 1) = (n : Int) + 1 := by rw [IntKind.wrap_i64]; omega
      have hw2 : IntKind.i64.wrap ((i : Int) + 1) = (i : Int) + 1 := by rw [IntKind.wrap_i64]; omega
      have hw3 : IntKind.i64.wrap ((n : Int) + 1 - (i : Int)) = ((n + 1 - i : Nat) : Int) := by rw [IntKind.wrap_i64]; omega
      have hin2 : i ≤ n := by omega
      have hl1 : (xs.take (i * 1)).length = i * 1 := by rw [List.length_take, hRl]; omega
      have hl2 : (xs.drop (i * 1)).length = (n - i) * 1 := by rw [List.length_drop, hRl]; omega
      have hcurs : cur.toList.length = cur.size := by simp
      by_cases hroom : n + 1 ≤ cap
      · obtain ⟨cur1, hcur1⟩ : ∃ c, splice cur.toList ((i + 1) * 1) (xs.drop (i * 1)) = c := ⟨_, rfl⟩
        have hs1 : cur1.length = cur.size := by rw [← hcur1, splice_len (by rw [hl2]; simp <;> omega)]; simp
        obtain ⟨W1, hW1⟩ : ∃ W1, w.drew.setRow g cur1.toArray = W1 := ⟨_, rfl⟩
        have hH1 : W1.heap[g]? = some (.cells cur1.toArray 59 (0, 0)) := by rw [← hW1]; exact setRow_heap w.drew g cur _ 59 _ hg
        have hold1 : ∀ k, k ≠ g → W1.heap[k]? = w.heap[k]? := fun k hk => by rw [← hW1, setRow_other _ _ _ _ hk]; rfl
        obtain ⟨W2, hW2⟩ : ∃ W2, W1.setRow g (splice cur1 (i * 1) news.toList).toArray = W2 := ⟨_, rfl⟩
        have hcp1 : ∀ ty, (Builtin.copy_ #[60, 60] ty #[.slice (some ⟨g, i + 1, none⟩) (n + 1 - (i + 1)) (cap - (i + 1)), .slice (some ⟨g, i, none⟩) (n + 1 - i) (cap - i)]).run Try.prog w.drew = .ok (goInt (Nat.min (n + 1 - i) (n + 1 - (i + 1)))) W1 := fun ty => by
          rw [← hW1, ← hcur1]
          have := run_copy_row w.drew 60 60 ty 59 i0 Try.underlying60 hi0 g ((i + 1) * 1) (n + 1 - (i + 1)) (cap - (i + 1)) cur hg ⟨g, i * 1, none⟩ (n + 1 - i) (cap - i) (xs.drop (i * 1)) (by rw [hl2, hzs, show Nat.min (n + 1 - i) (n + 1 - (i + 1)) = n - i from (Nat.min_eq_right (by omega)).trans (by omega)])
            (fun j u hu => by
              rw [Addr.add_lit, cell_of_row w.drew g _ cur 59 (0, 0) hg, ← cell_of_row w g _ cur 59 (0, 0) hg]
              exact hR.cell rfl _ u (by rwa [List.getElem?_drop] at hu))
            (by rw [hl2]; omega) (fun u hu => hR1 u (List.mem_of_mem_drop hu))
          try simp only [Nat.mul_one] at this ⊢
          exact this
        have hcp2 : ∀ ty, (Builtin.copy_ #[60, 60] ty #[.slice (some ⟨g, i, none⟩) (n + 1 - i) (cap - i), .slice (some ⟨vb, 0, none⟩) 1 1]).run Try.prog W1 = .ok (goInt (Nat.min 1 (n + 1 - i))) W2 := fun ty => by
          rw [← hW2]
          have := run_copy_row W1 60 60 ty 59 i0 Try.underlying60 hi0 g (i * 1) (n + 1 - i) (cap - i) cur1.toArray hH1 ⟨vb, 0, none⟩ 1 1 news.toList (by rw [hnl, hzs, nmin (by omega)]) (hnewc W1 (hold1 vb hgv)) (by rw [hnl]; simp [hs1] <;> omega) h1
          try simp only [Nat.mul_one] at this ⊢
          exact this
        have hov : ∀ lb cb, (callFunc 60 #[.slice (some ⟨vb, 0, none⟩) 1 1, .slice (some ⟨g, i + 1, none⟩) lb cb]).run Try.prog w = .ok (.value (.bool false)) w := fun lb cb =>
          ins44_over w vb g _ lb cb news cur hgv hvb hg (by omega)
        have hb1 : (0 : Int) ≤ (i : Int) + 1 := by omega
        have hb2 : ¬ (cap = i + 1) := by omega
        have hb3 : (i : Int) ≤ (n : Int) := by omega
        have hb4 : ¬ (cap = i) := by omega
        have htn : ((i : Int) + 1).toNat = i + 1 := by omega
        have htn2 : ((n : Int) + 1).toNat = n + 1 := by omega
        have hb5 : (i : Int) ≤ (n : Int) + 1 := by omega
        have hb6 : (n : Int) + 1 ≤ (cap : Int) := by omega
        have hb7 : i ≤ n + 1 := by omega
        go_enter Try.func44, Try.ntmps44
        go_wp2_with (simp only [hov])
        go_region_law_o (refine step_copy_runI rfl _ _ 60 60 rfl _ _ (by simp [Act.eval, Act.put]) (by simp [Act.eval, Act.put]) (hcp1 _) ?_)
        go_wp2_with (at_builtin; refine wpList_copy_runI _ rfl _ _ 60 60 rfl _ _ rfl rfl (hcp2 _) ?_)
        go_ret
        have hl3 : (xs.take (i * 1) ++ news.toList ++ xs.drop (i * 1)).length = (n + 1) * 1 := by
          rw [List.length_append, List.length_append, hl1, hl2, hnl]
          omega
        refine ⟨_, rfl, ⟨hl3, ?_, .inr ⟨g, cap, (splice cur1 (i * 1) news.toList).toArray, rfl, ?_, hroom, hcm, ?_, ?_⟩⟩, ⟨?_, ?_, ?_, ?_, ?_⟩, .inl rfl, by simp⟩
        · intro u hu
          rcases List.mem_append.1 hu with hu | hu
          · rcases List.mem_append.1 hu with hu | hu
            · exact hR1 u (List.mem_of_mem_take hu)
            · exact h1 u hu
          · exact hR1 u (List.mem_of_mem_drop hu)
        · rw [← hW2]
          exact setRow_heap W1 g cur1.toArray _ 59 _ hH1
        · rw [List.size_toArray, splice_len (by rw [hnl, hs1]; omega), hs1]
          exact hcs
        · show (splice cur1 (i * 1) news.toList).take ((n + 1) * 1) = _
          have hsp : splice cur1 (i * 1) news.toList = cur1.take (i * 1) ++ news.toList ++ cur1.drop ((i + 1) * 1) := by
            unfold splice
            rw [hnl, show i * 1 + 1 = (i + 1) * 1 by omega]
          have hd : cur1.drop ((i + 1) * 1) = xs.drop (i * 1) ++ cur.toList.drop ((n + 1) * 1) := by
            rw [← hcur1]
            unfold splice
            rw [List.append_assoc, List.drop_append_of_le_length (by rw [List.length_take]; omega), List.drop_eq_nil_iff.2 (by rw [List.length_take]; omega), List.nil_append, hl2, show (i + 1) * 1 + (n - i) * 1 = (n + 1) * 1 by omega]
          have ht : cur1.take (i * 1) = xs.take (i * 1) := by
            rw [← hcur1, splice_take _ (by omega) (by omega), ← htake, List.take_take, Nat.min_eq_left (by omega)]
          rw [hsp, hd, ht, ← List.append_assoc, ← hl3, List.take_left]
        · rw [← hW2, ← hW1]; rfl
        · rw [← hW2, ← hW1]; rfl
        · rw [← hW2, ← hW1]; rfl
        · rw [← hW2, ← hW1]; simp
        · intro k hk hkg
          have hk2 : k ≠ g := fun e => hkg (by rw [e]; rfl)
          rw [← hW2, setRow_other _ _ _ _ hk2]
          exact hold1 k hk2
      · obtain ⟨C, hC⟩ : ∃ C, grownCap w (n + 1) cap 59 = C := ⟨_, rfl⟩
        have hge := grownCap_ge w (n + 1) cap 59
        have hle := grownCap_le_maxLen w (n + 1) cap 59 (by simp only [maxLen]; omega)
        rw [hC] at hge hle
        have hsum : i + (n + 1 - i) = n + 1 := by omega
        have holds : ∀ j u, (xs.take (i * 1))[j]? = some u → w.cell? ((⟨g, 0, none⟩ : Addr).add j) = some u := fun j u hu => by
          rw [Addr.add_lit, Nat.zero_add]
          refine hR.cell rfl j u ?_
          rw [List.getElem?_take] at hu
          split at hu
          · exact hu
          · cases hu
        obtain ⟨cur1, hcur1⟩ : ∃ c : Array Value, ((xs.take (i * 1)).toArray ++ Builtin.zeroCells (.pointer none : Value).cells (n + 1 - i) ++ Builtin.zeroCells (.pointer none : Value).cells (C - (n + 1))) = c := ⟨_, rfl⟩
        have hs1 : cur1.size = C * 1 := by
          rw [← hcur1]
          simp [size_zeroCells, Value.cells, hl1, hRl] <;> omega
        have ht1 : cur1.toList.take (i * 1) = xs.take (i * 1) := by
          rw [← hcur1]
          simp only [Array.toList_append, List.append_assoc]
          rw [List.take_append_of_le_length (by omega), List.take_of_length_le (by omega)]
        obtain ⟨W1, hW1⟩ : ∃ W1, w.drew.alloc (.cells cur1 59) = W1 := ⟨_, rfl⟩
        have hrun : ∀ ty, (Builtin.append_ #[60, 3] ty #[.slice (some ⟨g, 0, none⟩) i cap, .int .i64 ((n + 1 - i : Nat) : Int)]).run Try.prog w = .ok (.slice (some ⟨w.heap.size, 0, none⟩) (n + 1) C) W1 := fun ty => by
          have := run_append_grow_zeros w 60 3 ty 59 i0 _ .i64 Try.underlying60 Try.underlying3 hi0 hz0 ⟨g, 0, none⟩ i cap (n + 1 - i) (xs.take (i * 1)) (by rw [hl1, hzs]) holds (by omega) (by omega) (by omega) (by omega) (by rw [hzb]; omega) (by rw [hzb, hsum]; exact growslice_fits (by omega) (by omega))
          rw [hsum, hC, hcur1, hW1] at this
          exact this
        have hH : W1.heap[w.heap.size]? = some (.cells cur1 59 (0, 0)) := by rw [← hW1]; exact heap_alloc_new w.drew _
        have hold : ∀ k, k < w.heap.size → W1.heap[k]? = w.heap[k]? := fun k hk => by rw [← hW1]; exact heap_alloc_old w.drew _ hk
        have hgl := (Array.getElem?_eq_some_iff.1 hg).1
        have hvl := (Array.getElem?_eq_some_iff.1 hvb).1
        obtain ⟨W2, hW2⟩ : ∃ W2, W1.setRow w.heap.size (splice cur1.toList (i * 1) news.toList).toArray = W2 := ⟨_, rfl⟩
        have hcp1 : ∀ ty, (Builtin.copy_ #[60, 60] ty #[.slice (some ⟨w.heap.size, i, none⟩) (n + 1 - i) (C - i), .slice (some ⟨vb, 0, none⟩) 1 1]).run Try.prog W1 = .ok (goInt (Nat.min 1 (n + 1 - i))) W2 := fun ty => by
          rw [← hW2]
          have := run_copy_row W1 60 60 ty 59 i0 Try.underlying60 hi0 w.heap.size (i * 1) (n + 1 - i) (C - i) cur1 hH ⟨vb, 0, none⟩ 1 1 news.toList (by rw [hnl, hzs, nmin (by omega)]) (hnewc W1 (hold vb hvl)) (by rw [hnl, hs1]; omega) h1
          try simp only [Nat.mul_one] at this ⊢
          exact this
        have hH2 : W2.heap[w.heap.size]? = some (.cells (splice cur1.toList (i * 1) news.toList).toArray 59 (0, 0)) := by rw [← hW2]; exact setRow_heap W1 _ cur1 _ 59 _ hH
        have hold2 : ∀ k, k < w.heap.size → W2.heap[k]? = w.heap[k]? := fun k hk => by rw [← hW2, setRow_other _ _ _ _ (by omega)]; exact hold k hk
        obtain ⟨cur2, hcur2⟩ : ∃ c, (splice cur1.toList (i * 1) news.toList) = c := ⟨_, rfl⟩
        rw [hcur2] at hH2
        have hs2 : cur2.length = C * 1 := by rw [← hcur2, splice_len (by rw [hnl]; simp [hs1] <;> omega)]; simp [hs1]
        obtain ⟨W3, hW3⟩ : ∃ W3, W2.drew.setRow w.heap.size (splice cur2 ((i + 1) * 1) (xs.drop (i * 1))).toArray = W3 := ⟨_, rfl⟩
        have hcp2 : ∀ ty, (Builtin.copy_ #[60, 60] ty #[.slice (some ⟨w.heap.size, i + 1, none⟩) (n + 1 - (i + 1)) (C - (i + 1)), .slice (some ⟨g, i, none⟩) (n - i) (cap - i)]).run Try.prog W2.drew = .ok (goInt (Nat.min (n - i) (n + 1 - (i + 1)))) W3 := fun ty => by
          have := run_copy_row W2.drew 60 60 ty 59 i0 Try.underlying60 hi0 w.heap.size ((i + 1) * 1) (n + 1 - (i + 1)) (C - (i + 1)) cur2.toArray hH2 ⟨g, i * 1, none⟩ (n - i) (cap - i) (xs.drop (i * 1)) (by rw [hl2, hzs, nmin (by omega)])
            (fun j u hu => by
              rw [Addr.add_lit, cell_of_row W2.drew g _ cur 59 (0, 0) ((hold2 g hgl).trans hg), ← cell_of_row w g _ cur 59 (0, 0) hg]
              exact hR.cell rfl _ u (by rwa [List.getElem?_drop] at hu))
            (by rw [hl2]; simp [hs2] <;> omega) (fun u hu => hR1 u (List.mem_of_mem_drop hu))
          rw [← hW3]
          try simp only [Nat.mul_one] at this ⊢
          exact this
        have hnr : ¬ (n + 1 ≤ cap) := hroom
        go_enter Try.func44, Try.ntmps44
        go_wp2_with (first | (at_builtin; refine Lib.wpList_append_run _ rfl _ _ _ _ rfl _ _ rfl rfl _ _ (hrun _) ?_) | (at_builtin; refine wpList_copy_runI _ rfl _ _ 60 60 rfl _ _ rfl rfl (hcp1 _) ?_))
        have hb1 : (0 : Int) ≤ (i : Int) + 1 := by omega
        have hb2 : ¬ (C = i + 1) := by omega
        have hb3 : (i : Int) ≤ (n : Int) := by omega
        have hb4 : ¬ (cap = i) := by omega
        have htn : ((i : Int) + 1).toNat = i + 1 := by omega
        go_region_law_o (refine step_copy_runI rfl _ _ 60 60 rfl _ _ (by simp [Act.eval, Act.put]) (by simp [Act.eval, Act.put]) (hcp2 _) ?_)
        go_wp2
        go_ret
        have hl3 : (xs.take (i * 1) ++ news.toList ++ xs.drop (i * 1)).length = (n + 1) * 1 := by
          rw [List.length_append, List.length_append, hl1, hl2, hnl]
          omega
        refine ⟨_, rfl, ⟨hl3, ?_, .inr ⟨_, C, (splice cur2 ((i + 1) * 1) (xs.drop (i * 1))).toArray, rfl, ?_, hge, hle, ?_, ?_⟩⟩, ⟨?_, ?_, ?_, ?_, ?_⟩, .inr ⟨_, rfl, Nat.le_refl _⟩, by simp⟩
        · intro u hu
          rcases List.mem_append.1 hu with hu | hu
          · rcases List.mem_append.1 hu with hu | hu
            · exact hR1 u (List.mem_of_mem_take hu)
            · exact h1 u hu
          · exact hR1 u (List.mem_of_mem_drop hu)
        · rw [← hW3]
          exact setRow_heap W2.drew _ cur2.toArray _ 59 _ hH2
        · rw [List.size_toArray, splice_len (by rw [hl2, hs2]; omega), hs2]
          exact Nat.le_refl _
        · show (splice cur2 ((i + 1) * 1) (xs.drop (i * 1))).take ((n + 1) * 1) = _
          rw [show (n + 1) * 1 = (i + 1) * 1 + (xs.drop (i * 1)).length by rw [hl2]; omega, splice_take_end (by rw [hs2]; omega), ← hcur2,
            show (i + 1) * 1 = i * 1 + news.toList.length by rw [hnl]; omega, splice_take_end (by simp [hs1] <;> omega), ht1]
        · rw [← hW3, ← hW2, ← hW1]; rfl
        · rw [← hW3, ← hW2, ← hW1]; rfl
        · rw [← hW3, ← hW2, ← hW1]; rfl
        · rw [← hW3, ← hW2, ← hW1]; simp
        · intro k hk _
          rw [← hW3, setRow_other _ _ _ _ (by omega)]
          exact hold2 k hk
end Go.Proofs.Bt
end
section
namespace Go.Proofs.Bt
open Go Go.RowKit Go.Lib Go.Shelf
set_option linter.unusedVariables false
set_option linter.unusedSimpArgs false
set_option maxRecDepth 100000
set_option maxHeartbeats 2000000 in
theorem clone46 (w : World) (a : Addr) (n c : Nat) (xs : List Value) (hx : xs.length = n * 1) (hcell : ∀ j u, xs[j]? = some u → w.cell? (a.add j) = some u) (h1 : ∀ u ∈ xs, u.oneCell' = true) (hn : n < 1000000) :
    Calls Try.prog 46 #[.slice (some a) n c] w fun e w' => ∃ k cap, e = .returned (.slice (some ⟨k, 0, none⟩) n cap) ∧ w.heap.size ≤ k ∧ Row w' 59 1 (.slice (some ⟨k, 0, none⟩) n cap) n xs ∧ Below w.heap.size w w' := by
  have mixed : Try.prog.follows Departure.mixedOrders = true := by kernel_rfl
  have q22 : ∀ (w : World) (a : Option Addr) (n c n' c' : Nat), (binOp .eql 60 (.slice a n c) (.slice none n' c')).run Try.prog w = .ok (.bool a.isNone) w := fun w a n c n' c' => Lib.run_eql_slice_nil w _ _ a n c n' c' Try.underlying60
  obtain ⟨i0, hi0, hz0, hzs, hzb⟩ := info_parts ins44_info
  obtain ⟨W0, hW0⟩ : ∃ W0, w.alloc (.cells #[] 59) = W0 := ⟨_, rfl⟩
  have hb0 : Below w.heap.size w W0 := by rw [← hW0]; exact (Below.refl _ _).alloc (Nat.le_refl _) _
  have hs0 : W0.heap.size = w.heap.size + 1 := by rw [← hW0]; simp
  have hH0 : W0.heap[w.heap.size]? = some (.cells #[] 59 (0, 0)) := by rw [← hW0]; exact heap_alloc_new w _
  have hcell0 : ∀ j u, xs[j]? = some u → W0.cell? (a.add j) = some u := fun j u hu => by
    have h := hcell j u hu
    exact (hb0.cell (World.block_lt_of_cell? w _ h)).trans h
  by_cases h0 : n = 0
  · subst h0
    have hx0 : xs = [] := List.eq_nil_of_length_eq_zero (by simpa using hx)
    subst hx0
    have hrun : ∀ ty, (Builtin.append_ #[60, 60] ty #[.slice (some ⟨w.heap.size, 0, none⟩) 0 0, .slice (some a) 0 c]).run Try.prog W0 = _ := fun ty =>
      run_append_room W0 60 ty 59 i0 Try.underlying60 hi0 w.heap.size 0 0 #[] hH0 a 0 c [] (by simp) (by simp) (by simp) (by simp) (by simp)
    go_enter Try.func46, Try.ntmps46
    go_wp2_with (first | (at_builtin; refine Lib.wpList_append_run _ rfl _ _ _ _ rfl _ _ rfl rfl _ _ (hrun _) ?_))
    go_ret
    refine ⟨_, _, rfl, Nat.le_refl _, ⟨by simp, by simp, .inr ⟨_, _, #[], rfl, ?_, Nat.le_refl _, by simp [maxLen], by simp, by simp⟩⟩, ?_⟩
    · exact setRow_heap W0 _ #[] _ 59 _ hH0
    · exact hb0.trans (Below.grown (Below.refl _ _) (grown_set W0 _ _) (by omega) (fun k e => by simp at e; omega))
  · have hrun : ∀ ty, (Builtin.append_ #[60, 60] ty #[.slice (some ⟨w.heap.size, 0, none⟩) 0 0, .slice (some a) n c]).run Try.prog W0 = _ := fun ty =>
      run_append_grow W0 60 ty 59 i0 _ Try.underlying60 hi0 hz0 ⟨w.heap.size, 0, none⟩ 0 0 [] (by simp) (by simp) a n c xs (by rw [hx, hzs]) hcell0 (by omega) (by omega) (by rw [hzb]; exact growslice_fits (by omega) (by omega))
    have hge := grownCap_ge W0 (0 + n) 0 59
    have hle := grownCap_le_maxLen W0 (0 + n) 0 59 (by simp only [maxLen]; omega)
    obtain ⟨C, hC⟩ : ∃ C, grownCap W0 (0 + n) 0 59 = C := ⟨_, rfl⟩
    rw [hC] at hge hle hrun
    obtain ⟨W1, hW1⟩ : ∃ W1, W0.drew.alloc (.cells (([] : List Value).toArray ++ xs.toArray ++ Builtin.zeroCells (.pointer none : Value).cells (C - (0 + n))) 59) = W1 := ⟨_, rfl⟩
    rw [hW1, Nat.zero_add] at hrun
    rw [Nat.zero_add] at hge
    have hz5 : ¬ (n = 0) := h0
    go_enter Try.func46, Try.ntmps46
    go_wp2_with (first | (at_builtin; refine Lib.wpList_append_run _ rfl _ _ _ _ rfl _ _ rfl rfl _ _ (hrun _) ?_))
    go_ret
    refine ⟨_, _, rfl, by omega, ⟨hx, h1, .inr ⟨_, C, _, rfl, by rw [← hW1, show w.heap.size + 1 = W0.drew.heap.size by simp [hs0]]; exact heap_alloc_new W0.drew _, hge, hle, ?_, ?_⟩⟩, ?_⟩
    · simp [size_zeroCells, Value.cells, hx] <;> omega
    · simp only [Array.toList_append, List.nil_append]
      rw [← hx, List.take_left]
    · rw [← hW1]
      exact hb0.trans ((Below.refl _ W0).drew.alloc (by simp; omega) _)
theorem clip47 (w : World) (g n c : Nat) (hc : n ≤ c) : Calls Try.prog 47 #[.slice (some ⟨g, 0, none⟩) n c] w fun e w' => e = .returned (.slice (some ⟨g, 0, none⟩) n n) ∧ w' = w := by
  have hz := Try.sizeOf59
  go_enter Try.func47, Try.ntmps47
  go_wp2
  go_ret
  exact ⟨rfl, rfl⟩
end Go.Proofs.Bt
end
section
namespace Go.Proofs.Bt
open Go Go.RowKit Go.Proofs.Ytjaddmflopahiaa.Q Go.Proofs.YtjaddmflopahiaaW.PrintWords Go.Proofs.YtjaddmflopahiaaW.PrintLast Go.Proofs.YtjaddmflopahiaaW.PrintMore
set_option linter.unusedVariables false
set_option linter.unusedSimpArgs false
set_option maxRecDepth 100000
theorem RowE.block {w : World} {v : Value} {ks : List S29} (h : RowE w v ks) (h0 : 0 < ks.length) : ∃ g cap, v = .slice (some ⟨g, 0, none⟩) ks.length cap ∧ ks.length ≤ cap ∧ g < w.heap.size := by
  rcases h.2.2 with ⟨rfl, hk⟩ | ⟨g, cap, cur, rfl, hg, hn, _⟩
  · omega
  · exact ⟨g, cap, rfl, hn, (Array.getElem?_eq_some_iff.1 hg).1⟩
theorem RowE.cut {w : World} {g n cap : Nat} {ks : List S29} (h : RowE w (.slice (some ⟨g, 0, none⟩) n cap) ks) (k c : Nat) (hk : k ≤ ks.length) (hkc : k ≤ c) (hc : c ≤ cap) : RowE w (.slice (some ⟨g, 0, none⟩) k c) (ks.take k) := by
  have hn : n = ks.length := by
    rcases h.2.2 with ⟨hv, _⟩ | ⟨g', cap', cur, hv, _⟩
    · simp at hv
    · simp at hv; exact hv.2.1
  subst hn
  have := Row.cut h k c hk hkc hc
  unfold RowE
  rw [List.length_take, Nat.min_eq_left hk, ← encEs_take ks k hk]
  exact this
theorem RowE.of {w : World} {v : Value} {n : Nat} {ks : List S29} (h : Row w 29 3 v n (encEs ks)) (hn : n = ks.length) : RowE w v ks := by subst hn; exact h
theorem RowE.tail {w : World} {g n cap : Nat} {ks : List S29} (h : RowE w (.slice (some ⟨g, 0, none⟩) n cap) ks) (i : Nat) (hi : i ≤ ks.length) : ∀ j u, (encEs (ks.drop i))[j]? = some u → w.cell? ((⟨g, i * 3, none⟩ : Addr).add j) = some u := by
  intro j u hu
  have hn : n = ks.length := by
    rcases h.2.2 with ⟨hv, _⟩ | ⟨g', cap', cur, hv, _⟩
    · simp at hv
    · simp at hv; exact hv.2.1
  subst hn
  rw [Addr.add_lit]
  refine Row.cell h rfl _ u ?_
  rw [← encEs_drop ks i hi, List.getElem?_drop] at hu
  exact hu
theorem grown_refl (w : World) (row : Option Nat) : w.grownBy w row := ⟨rfl, rfl, rfl, Nat.le_refl _, fun _ _ _ => rfl⟩
theorem grown_below {w W W1 : World} {row : Option Nat} (h : w.grownBy W row) (hb : Below W.heap.size W W1) : w.grownBy W1 row :=
  ⟨hb.os.trans h.os, hb.tape.trans h.tape, hb.output.trans h.output, Nat.le_trans h.size hb.size, fun k hk hr => (hb.block k (Nat.lt_of_lt_of_le hk h.size)).trans (h.block k hk hr)⟩
theorem grown_cell {w W : World} {row : Option Nat} (h : w.grownBy W row) {p : Addr} (hp : row = some p.block ∨ w.heap.size ≤ p.block) (u : Value) : w.grownBy (W.setCell p u) row :=
  ⟨h.os, h.tape, h.output, by simpa [World.setCell] using h.size, fun k hk hr => (Below.heap_setCell W p u k (by
    rintro rfl
    rcases hp with hp | hp
    · exact hr hp.symm
    · omega)).trans (h.block k hk hr)⟩
set_option maxHeartbeats 4000000 in
theorem split_leaf (w : World) (p g cap : Nat) (ks : List S29) (hN : NodeAt w p (.slice (some ⟨g, 0, none⟩) 5 cap) (.slice none 0 0)) (hR : RowE w (.slice (some ⟨g, 0, none⟩) 5 cap) ks) (h5 : ks.length = 5) (hcap : 5 ≤ cap) (hgp : g ≠ p) :
    Calls Try.prog 27 #[.pointer (some ⟨p, 0, none⟩)] w fun E w' => ∃ q k c, E = .returned (.tuple #[.agg #[.string ks[2].f0, .int .i64 ks[2].f1.f0, .int .i64 ks[2].f1.f1], .pointer (some ⟨q, 0, none⟩)]) ∧
      NodeAt w' p (.slice (some ⟨g, 0, none⟩) 2 2) (.slice none 0 0) ∧ RowE w' (.slice (some ⟨g, 0, none⟩) 2 2) (ks.take 2) ∧
      NodeAt w' q (.slice (some ⟨k, 0, none⟩) 3 c) (.slice none 0 0) ∧ RowE w' (.slice (some ⟨k, 0, none⟩) 3 c) (ks.drop 2) ∧ w.heap.size ≤ q ∧ w.heap.size ≤ k ∧ q ≠ k ∧ w.grownBy w' (some p) := by
  have hu29 := Try.underlying29
  have hu62 := Try.underlying62
  have hz29 := Try.sizeOf29
  have hpl := hN.lt
  have hgl : g < w.heap.size := by
    rcases hR.2.2 with ⟨hv, _⟩ | ⟨g', cap', cur, hv, hg, _⟩
    · simp at hv
    · simp at hv
      rw [hv.1]
      exact (Array.getElem?_eq_some_iff.1 hg).1
  obtain ⟨x, hx⟩ : ∃ x, ks[2] = x := ⟨_, rfl⟩
  rw [hx]
  have HN := Aside0.mk hN
  have HR := Aside0.mk hR
  have HG := Aside0.mk (grown_refl w (some p))
  have HX := Aside0.mk hx
  clear hN hR hx
  have hcells : ∀ W, RowE W (.slice (some ⟨g, 0, none⟩) 5 cap) ks → W.cell? ⟨g, 2 * 3, none⟩ = some (.string x.f0) ∧ W.cell? ⟨g, 2 * 3 + 1, none⟩ = some (.int .i64 x.f1.f0) ∧ W.cell? ⟨g, 2 * 3 + 2, none⟩ = some (.int .i64 x.f1.f1) := fun W hW => by
    have := hW.cells 2 (by omega)
    rw [HX.out] at this
    exact this
  have HC := Aside0.mk hcells
  clear hcells
  go_enter Try.func27, Try.ntmps27
  go_wp2_with (first
    | ((with_reducible refine gate_dst (N := 2) rfl ?_); refine box_event ?hg (N := 2) ?hd (cs := #[.string (⟨#[]⟩ : ByteArray), .int .i64 0, .int .i64 0]) (t := 29) ?hr ?_; (case hd => rfl); (case hg => rfl); (case hr => first | (go_simp; done) | (go_simp; rfl)); intro q2 hg w2 hbox hb; have n1 := Aside0.mk (HN.out.below hb); have n2 := Aside0.mk (show RowE _ _ _ from Row.below HR.out hb); have n3 := Aside0.mk (grown_below HG.out hb); have HQ2 := Aside0.mk hbox; have HE2 := Aside0.mk hg; have hl2 := blk_lt HQ2.out; have hs2 := Aside0.mk hb.size; clear hbox hg; clear HN HR HG; have HN := n1; have HR := n2; have HG := n3; clear n1 n2 n3; have c0 := HN.out.c0; have c1 := HN.out.c1; have f0 := HN.out.fz 0; have f1 := HN.out.fz 1; have dd := HC.out _ HR.out; obtain ⟨d0, d1, d2⟩ := dd; clear hb)
    | ((with_reducible refine gate_dst (N := 21) rfl ?_); refine box_event ?hg (N := 21) ?hd (cs := #[.slice none 0 0, .slice none 0 0]) (t := 62) ?hr ?_; (case hd => rfl); (case hg => rfl); (case hr => first | (go_simp; done) | (go_simp; rfl)); intro q6 hg w6 hbox hb; have hbB := hb; clear hb; have hb : Below w2.heap.size w2 w6 := ((Below.refl _ w2).alloc (Nat.le_refl _) _).trans (hbB.mono (by simp)); have HQ5 := Aside0.mk (blk_below (blk_new w2 _) hbB); have hq6 : q6 = w2.heap.size + 1 := (by simp [hg]); obtain ⟨q5, hq5⟩ : ∃ q5, w2.heap.size = q5 := ⟨_, rfl⟩; rw [hq5] at HQ5 hq6 hl2 ⊢; have HS2 := hs2.out; rw [hq5] at HS2; have HE := HE2.out; have n4 := Aside0.mk (blk_below HQ2.out hb); have HQ6 := Aside0.mk hbox; have hl6 := blk_lt HQ6.out; clear HQ2 hbox hg c0 c1 f0 f1 d0 d1 d2; have HQ2 := n4; clear n4; have n1 := Aside0.mk (HN.out.below hb); have n2 := Aside0.mk (show RowE _ _ _ from Row.below HR.out hb); have n3 := Aside0.mk (grown_below HG.out hb); have hn_p_q2 : p ≠ q2 := (by omega); have hn_p_q5 : p ≠ q5 := (by omega); have hn_p_q6 : p ≠ q6 := (by omega); have hn_q2_p : q2 ≠ p := (by omega); have hn_q2_q5 : q2 ≠ q5 := (by omega); have hn_q2_q6 : q2 ≠ q6 := (by omega); have hn_q5_p : q5 ≠ p := (by omega); have hn_q5_q2 : q5 ≠ q2 := (by omega); have hn_q5_q6 : q5 ≠ q6 := (by omega); have hn_q6_p : q6 ≠ p := (by omega); have hn_q6_q2 : q6 ≠ q2 := (by omega); have hn_q6_q5 : q6 ≠ q5 := (by omega); have hm_g_q2 : g ≠ q2 := (by omega); have hm_q2_g : q2 ≠ g := (by omega); have hm_g_q6 : g ≠ q6 := (by omega); have hm_q6_g : q6 ≠ g := (by omega); have hm_g_q5 : g ≠ q5 := (by omega); have hm_q5_g : q5 ≠ g := (by omega); have HN0 := Aside0.mk (show w.heap.size ≤ q6 by omega); obtain ⟨m6, hm6⟩ : ∃ m, w6.heap.size = m := ⟨_, rfl⟩; have HM6 := Aside0.mk hm6; have HK := Aside0.mk (show w.heap.size ≤ m6 by omega); have HQL := Aside0.mk (show q2 < m6 ∧ q5 < m6 ∧ q6 < m6 by omega); clear hm6; have HQ2N := Aside0.mk (show w.heap.size ≤ q2 by omega); clear hq6 HE HS2 hq5 hs2 HE2 hbB; clear HN HR HG; have HN := n1; have HR := n2; have HG := n3; clear n1 n2 n3; have c0 := HN.out.c0; have c1 := HN.out.c1; have f0 := HN.out.fz 0; have f1 := HN.out.fz 1; have dd := HC.out _ HR.out; obtain ⟨d0, d1, d2⟩ := dd; clear hb)
    | (go_at_call 30; refine (leaf_calls _ p _ none 0 0 HN.out).mono ?_; rintro E w' ⟨rfl, rfl⟩)
    | (go_at_call 45; refine (clone45 _ ⟨g, 6, none⟩ 3 (cap - 2) (encEs (ks.drop 2)) (by rw [encEs_len, List.length_drop, h5]) (RowE.tail HR.out 2 (by omega)) (encEs_one _) (by omega)).mono ?_; rintro E w9 ⟨k, c, rfl, hk, hrow, hb⟩; have hn9 := HN.out.lt; have n4 := Aside0.mk (blk_below HQ2.out hb); have n5 := Aside0.mk (blk_below HQ5.out hb); have n6 := Aside0.mk (blk_below HQ6.out hb); clear HQ2 HQ5 HQ6; have HQ2 := n4; have HQ5 := n5; have HQ6 := n6; clear n4 n5 n6 c0 c1 f0 f1 d0 d1 d2; have HROW := Aside0.mk hrow; have HKK := Aside0.mk (show m6 ≤ k from HM6.out ▸ hk); have n1 := Aside0.mk (HN.out.below hb); have n2 := Aside0.mk (show RowE _ _ _ from Row.below HR.out hb); have n3 := Aside0.mk (grown_below HG.out hb); clear HN HR HG; have HN := n1; have HR := n2; have HG := n3; clear n1 n2 n3; have c0 := HN.out.c0; have c1 := HN.out.c1; have f0 := HN.out.fz 0; have f1 := HN.out.fz 1; have dd := HC.out _ HR.out; obtain ⟨d0, d1, d2⟩ := dd; clear hrow hb; have e60 := blk_cell HQ6.out 0; have g60 := blk_frozen HQ6.out 0; have e20 := blk_cell HQ2.out 0; have e21 := blk_cell HQ2.out 1; have e22 := blk_cell HQ2.out 2; have g20 := blk_frozen HQ2.out 0; have g21 := blk_frozen HQ2.out 1; have g22 := blk_frozen HQ2.out 2; have e50 := blk_cell HQ5.out 0; have e51 := blk_cell HQ5.out 1; have e52 := blk_cell HQ5.out 2)
    | (go_at_call 48; refine (clip48 _ g 2 cap (by omega)).mono ?_; rintro E w' ⟨rfl, rfl⟩))
  have hkq : ∀ q, q < m6 → k ≠ q := fun q hq => by have := HKK.out; omega
  have hk2 := hkq _ HQL.out.1
  have hk6 := hkq _ HQL.out.2.2
  have hw6 := HK.out
  have hkp : k ≠ p := by have := HKK.out; omega
  refine bodyPost_ret (results_ct rfl _ _ q2 29 #[.string x.f0, .int .i64 x.f1.f0, .int .i64 x.f1.f1] (0, 0) _ rfl ?_ hu29 rfl (by kernel_rfl)) rfl ?_
  · exact blk_put (blk_put (blk_put (blk_far (blk_far HQ2.out hn_q2_q6 _) hn_q2_p _) 0 (.string x.f0) rfl) 1 (.int .i64 x.f1.f0) rfl) 2 (.int .i64 x.f1.f1) rfl
  · refine ⟨q6, k, c, rfl, ?_, ?_, ?_, ?_, HN0.out, Nat.le_trans hw6 HKK.out, Ne.symm hk6, ?_⟩
    · exact blk_far (blk_far (blk_far (blk_put (blk_far HN.out hn_p_q6 _) 0 (.slice (some ⟨g, 0, none⟩) 2 2) rfl) hn_p_q2 _) hn_p_q2 _) hn_p_q2 _
    · refine (RowE.cut HR.out 2 2 (by omega) (by omega) (by omega)).move fun i hi => ?_
      simp [Value.ownBlock] at hi
      subst hi
      rw [Below.heap_setCell _ _ _ _ hm_g_q2, Below.heap_setCell _ _ _ _ hm_g_q2, Below.heap_setCell _ _ _ _ hm_g_q2, Below.heap_setCell _ _ _ _ hgp, Below.heap_setCell _ _ _ _ hm_g_q6]
    · exact blk_far (blk_far (blk_far (blk_far (blk_put HQ6.out 0 (.slice (some ⟨k, 0, none⟩) 3 c) rfl) hn_q6_p _) hn_q6_q2 _) hn_q6_q2 _) hn_q6_q2 _
    · refine RowE.of (Row.move HROW.out fun i hi => ?_) (by rw [List.length_drop, h5])
      simp [Value.ownBlock] at hi
      subst hi
      rw [Below.heap_setCell _ _ _ _ hk2, Below.heap_setCell _ _ _ _ hk2, Below.heap_setCell _ _ _ _ hk2, Below.heap_setCell _ _ _ _ hkp, Below.heap_setCell _ _ _ _ hk6]
    · exact grown_cell (grown_cell (grown_cell (grown_cell (grown_cell HG.out (.inr HN0.out) _) (.inl rfl) _) (.inr HQ2N.out) _) (.inr HQ2N.out) _) (.inr HQ2N.out) _
end Go.Proofs.Bt
end
