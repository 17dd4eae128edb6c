/- Packed by shake.py: YtkcjcdkmdooofaaGreatQ0 YtkcjcdkmdooofaaGreatKB1 YtkcjcdkmdooofaaGreatA1 YtkcjcdkmdooofaaGreatLW1 YtkcjcdkmdooofaaGreatQ27 YtkcjcdkmdooofaaGreatQ79 YtkcjcdkmdooofaaGreatQ58 YtkcjcdkmdooofaaGreatQ62 YtkcjcdkmdooofaaGreatQ30 YtkcjcdkmdooofaaGreatH80 YtkcjcdkmdooofaaGreatQ59 YtkcjcdkmdooofaaGreatQ31 YtkcjcdkmdooofaaGreatQ68 -/
import Derived.Test.YtkcjcdkmdooofaaGreatProg
import Derived.Below
import Derived.Deep.Draws
import Derived.Deep.AppendLies
import Derived.Maps.AppendAt
import Derived.OwnWalk
import Derived.Laws.BytesArg
import Derived.Laws.MakeOwn
import Derived.Laws.OwnMore
import Derived.Deep.OwnRows
import Derived.Tactics
import Derived.Lib.ConvBytes
import Derived.Laws.Slices
import Derived.WalkKit
import Derived.KernelRfl
import Derived.RowKit3
import Derived.Deep.LoopGhost
import Derived.Deep.QuietTactic
import Derived.BigQuiet
import Derived.WideLaws
import Derived.Deep.DeepCutAuto
import Derived.Deep.CutBlock
import Derived.Deep.RegionHeld3
import Derived.Laws.Rows
import Derived.Lib.AppendStr
import Derived.ArgAppend
import Derived.Laws.IdiomCopy
import Derived.OrdersHeld
import Derived.Laws.BitsLemmas
import Derived.RowKit
import Derived.Test.YtkcjcdkmdooofaaGreatVWWords
import Derived.Test.YtkcjcdkmdooofaaGreatVWLast
import Derived.Test.YtkcjcdkmdooofaaGreatVWTab
import Derived.Test.YtkcjcdkmdooofaaGreatVWFour
import Derived.Test.YtkcjcdkmdooofaaGreatVWQPut
import Derived.Test.YtkcjcdkmdooofaaGreatVWApart
import Derived.Test.YtkcjcdkmdooofaaGreatVWArr
import Derived.Test.YtkcjcdkmdooofaaGreatVWZeros
import Derived.Test.YtkcjcdkmdooofaaGreatVWFoot
import Derived.Test.YtkcjcdkmdooofaaGreatVWKept
import Derived.Test.YtkcjcdkmdooofaaGreatVWShare
import Derived.Test.YtkcjcdkmdooofaaGreatVWN
import Derived.Test.YtkcjcdkmdooofaaGreatVWFootNe
import Derived.Test.YtkcjcdkmdooofaaGreatVWAt
import Derived.Test.YtkcjcdkmdooofaaGreatVWEqStruct
import Derived.Test.YtkcjcdkmdooofaaGreatVWRepsOne
import Derived.Test.YtkcjcdkmdooofaaGreatVWInv
import Derived.Test.YtkcjcdkmdooofaaGreatVWInvWords
import Derived.Test.YtkcjcdkmdooofaaGreatVWGuard
import Derived.Test.YtkcjcdkmdooofaaGreatVWNEv
import Derived.Test.YtkcjcdkmdooofaaGreatVWMore
import Derived.RangeFuncBox
import Derived.Lib.AppendZeros
import Derived.Lib.SliceRun
import Derived.Lib.Overlaps
import Derived.Laws.Externs
import Derived.Laws.CopyRow
import Derived.Laws.Append
set_option linter.unusedVariables false
set_option linter.unusedSimpArgs false
set_option linter.unusedSectionVars false
section
namespace Go.Proofs.YtkcjcdkmdooofaaGreat.Q
open Go.RowKit Go.Proofs.YtkcjcdkmdooofaaGreatW.PrintWords Go.Proofs.YtkcjcdkmdooofaaGreatW.PrintLast Go.Proofs.YtkcjcdkmdooofaaGreatW.PrintMore
attribute [local go_sem] max2_int min2_int max_two min_two max_three min_three max_four min_four
def errW : Option Int → Value
 | none => .nilIface
 | some c => .iface 0 (.int .i64 c)
theorem errW_none : errW none = .nilIface := rfl
theorem errW_some (c : Int) : errW (some c) = .iface 0 (.int .i64 c) := rfl
structure S63 where
 f0 : Int
 f1 : Int
structure S32 where
 f0 : Int
 f1 : ByteArray
 f2 : ByteArray
def z32 : S32 := ⟨(0 : Int), (⟨#[]⟩ : ByteArray), (⟨#[]⟩ : ByteArray)⟩
def k32 : Kd S32 := Kd.iso (Kd.pair (Kd.int .i64) (Kd.pair Kd.string Kd.string)) (fun x : S32 => (x.f0, x.f1, x.f2))
theorem k32_open {w : World} {x : S32} {cs : List Value} (h : k32.K w x cs) : cs = [.int .i64 x.f0, .string x.f1, .string x.f2] := by
 obtain ⟨_, _, rfl, rfl, ⟨_, _, rfl, rfl, rfl⟩⟩ := h
 exact rfl
structure S34 where
 f0 : S32
 f1 : Int
def z34 : S34 := ⟨z32, (0 : Int)⟩
def k34 : Kd S34 := Kd.iso (Kd.pair k32 (Kd.int .i64)) (fun x : S34 => (x.f0, x.f1))
theorem k34_open {w : World} {x : S34} {cs : List Value} (h : k34.K w x cs) : cs = [.int .i64 x.f0.f0, .string x.f0.f1, .string x.f0.f2, .int .i64 x.f1] := by
 obtain ⟨_, _, rfl, s0, rfl⟩ := h
 obtain rfl := k32_open s0
 exact rfl
structure S36 where
 f0 : Int
 f1 : Int
 f2 : S34
def z36 : S36 := ⟨(0 : Int), (0 : Int), z34⟩
def k36 : Kd S36 := Kd.iso (Kd.pair (Kd.int .i64) (Kd.pair (Kd.int .i64) k34)) (fun x : S36 => (x.f0, x.f1, x.f2))
theorem k36_open {w : World} {x : S36} {cs : List Value} (h : k36.K w x cs) : cs = [.int .i64 x.f0, .int .i64 x.f1, .int .i64 x.f2.f0.f0, .string x.f2.f0.f1, .string x.f2.f0.f2, .int .i64 x.f2.f1] := by
 obtain ⟨_, _, rfl, rfl, ⟨_, _, rfl, rfl, s2⟩⟩ := h
 obtain rfl := k34_open s2
 exact rfl
def rd_T36 (xs : List S36) (i : Int) : S36 := xs.getD i.toNat z36
theorem at_T36 {w : World} {A : Option Addr} {n : Nat} {xs : List S36} (h : Kd.C k36 w A n xs) (i : Int) (h0 : 0 ≤ i) (h1 : i < n) : ∃ ad , A = some ad ∧ w.cell? (ad.add (i.toNat * 6)) = some (.int .i64 (rd_T36 xs i).f0) ∧ w.cell? ⟨(ad.add (i.toNat * 6)).block, (ad.add (i.toNat * 6)).off + 1, none⟩ = some (.int .i64 (rd_T36 xs i).f1) ∧ w.cell? ⟨(ad.add (i.toNat * 6)).block, (ad.add (i.toNat * 6)).off + 2, none⟩ = some (.int .i64 (rd_T36 xs i).f2.f0.f0) ∧ w.cell? ⟨(ad.add (i.toNat * 6)).block, (ad.add (i.toNat * 6)).off + 3, none⟩ = some (.string (rd_T36 xs i).f2.f0.f1) ∧ w.cell? ⟨(ad.add (i.toNat * 6)).block, (ad.add (i.toNat * 6)).off + 4, none⟩ = some (.string (rd_T36 xs i).f2.f0.f2) ∧ w.cell? ⟨(ad.add (i.toNat * 6)).block, (ad.add (i.toNat * 6)).off + 5, none⟩ = some (.int .i64 (rd_T36 xs i).f2.f1) := by
 obtain ⟨ad, c, e, _, hK, hc0⟩ := Kd.C_get h z36 i h0 h1
 have hc : ∀ j u, c[j]? = some u → w.cell? (ad.add (i.toNat * 6 + j)) = some u := hc0
 obtain rfl := k36_open hK
 exact ⟨ad, e, hc 0 _ rfl, by rw [← add_field _ _ 1 (by omega)]; exact hc 1 _ rfl, by rw [← add_field _ _ 2 (by omega)]; exact hc 2 _ rfl, by rw [← add_field _ _ 3 (by omega)]; exact hc 3 _ rfl, by rw [← add_field _ _ 4 (by omega)]; exact hc 4 _ rfl, by rw [← add_field _ _ 5 (by omega)]; exact hc 5 _ rfl⟩
structure S75 where
 f0 : Int
 f1 : Int
 f2 : Bool
def z75 : S75 := ⟨(0 : Int), (0 : Int), false⟩
def k75 : Kd S75 := Kd.iso (Kd.pair (Kd.int .i64) (Kd.pair (Kd.int .i64) Kd.bool)) (fun x : S75 => (x.f0, x.f1, x.f2))
theorem k75_open {w : World} {x : S75} {cs : List Value} (h : k75.K w x cs) : cs = [.int .i64 x.f0, .int .i64 x.f1, .bool x.f2] := by
 obtain ⟨_, _, rfl, rfl, ⟨_, _, rfl, rfl, rfl⟩⟩ := h
 exact rfl
theorem k75_mk (w : World) (x : S75)  : k75.K w x [.int .i64 x.f0, .int .i64 x.f1, .bool x.f2] := ⟨[.int .i64 x.f0], [.int .i64 x.f1, .bool x.f2], rfl, rfl, ⟨[.int .i64 x.f1], [.bool x.f2], rfl, rfl, rfl⟩⟩
def rd_T75 (xs : List S75) (i : Int) : S75 := xs.getD i.toNat z75
theorem at_T75 {w : World} {A : Option Addr} {n : Nat} {xs : List S75} (h : Kd.C k75 w A n xs) (i : Int) (h0 : 0 ≤ i) (h1 : i < n) : ∃ ad , A = some ad ∧ w.cell? (ad.add (i.toNat * 3)) = some (.int .i64 (rd_T75 xs i).f0) ∧ w.cell? ⟨(ad.add (i.toNat * 3)).block, (ad.add (i.toNat * 3)).off + 1, none⟩ = some (.int .i64 (rd_T75 xs i).f1) ∧ w.cell? ⟨(ad.add (i.toNat * 3)).block, (ad.add (i.toNat * 3)).off + 2, none⟩ = some (.bool (rd_T75 xs i).f2) := by
 obtain ⟨ad, c, e, _, hK, hc0⟩ := Kd.C_get h z75 i h0 h1
 have hc : ∀ j u, c[j]? = some u → w.cell? (ad.add (i.toNat * 3 + j)) = some u := hc0
 obtain rfl := k75_open hK
 exact ⟨ad, e, hc 0 _ rfl, by rw [← add_field _ _ 1 (by omega)]; exact hc 1 _ rfl, by rw [← add_field _ _ 2 (by omega)]; exact hc 2 _ rfl⟩
structure S77 where
 f0 : S32
 f1 : S75
end Go.Proofs.YtkcjcdkmdooofaaGreat.Q
end
section
namespace Go.Proofs.Kb
open Go Go.RowKit Go.Proofs.YtkcjcdkmdooofaaGreatW.PrintWords Go.Proofs.YtkcjcdkmdooofaaGreatW.PrintLast Go.Proofs.YtkcjcdkmdooofaaGreatW.PrintMore
variable {P : Program}
def splice (cur : List Value) (o : Nat) (cs : List Value) : List Value := cur.take o ++ cs ++ cur.drop (o + cs.length)
theorem splice_len {cur : List Value} {o : Nat} {cs : List Value} (h : o + cs.length ≤ cur.length) : (splice cur o cs).length = cur.length := by
 simp only [splice, List.length_append, List.length_take, List.length_drop]
 omega
theorem splice_take {cur : List Value} {o : Nat} {cs : List Value} (k : Nat) (h : k ≤ o) (ho : o ≤ cur.length) : (splice cur o cs).take k = cur.take k := by
 unfold splice
 rw [List.append_assoc, List.take_append_of_le_length (by rw [List.length_take]; omega), List.take_take, Nat.min_eq_left h]
theorem splice_take_end {cur : List Value} {o : Nat} {cs : List Value} (ho : o ≤ cur.length) : (splice cur o cs).take (o + cs.length) = cur.take o ++ cs := by
 unfold splice
 rw [List.take_append_of_le_length (by simp only [List.length_append, List.length_take]; omega), List.take_of_length_le (by simp only [List.length_append, List.length_take]; omega)]
def Row (w : World) (e : TypeId) (sz : Nat) (v : Value) (n : Nat) (xs : List Value) : Prop :=
 xs.length = n * sz ∧ (∀ u ∈ xs, u.oneCell' = true) ∧
 ((v = .slice none 0 0 ∧ n = 0) ∨
  ∃ g cap cur, v = .slice (some ⟨g, 0, none⟩) n cap ∧ w.heap[g]? = some (.cells cur e (0, 0)) ∧ n ≤ cap ∧ cap ≤ maxLen ∧ cap * sz ≤ cur.size ∧ cur.toList.take (n * sz) = xs)
variable {w w' : World} {e : TypeId} {sz n : Nat} {v : Value} {xs : List Value}
theorem Row.nil (w : World) (e : TypeId) (sz : Nat) : Row w e sz (.slice none 0 0) 0 [] := ⟨by simp, by simp, .inl ⟨rfl, rfl⟩⟩
theorem Row.move (h : Row w e sz v n xs) (hm : ∀ k, v.ownBlock = some k → w'.heap[k]? = w.heap[k]?) : Row w' e sz v n xs := by
 obtain ⟨h0, h1, h2⟩ := h
 refine ⟨h0, h1, ?_⟩
 rcases h2 with h2 | ⟨g, cap, cur, rfl, hg, r⟩
 · exact .inl h2
 · exact .inr ⟨g, cap, cur, rfl, (hm g rfl).trans hg, r⟩
theorem Row.lt (h : Row w e sz v n xs) : ∀ k, v.ownBlock = some k → k < w.heap.size := by
 intro k hk
 rcases h.2.2 with ⟨rfl, _⟩ | ⟨g, cap, cur, rfl, hg, _⟩
 · simp [Value.ownBlock] at hk
 · simp [Value.ownBlock] at hk
   subst hk
   exact (Array.getElem?_eq_some_iff.1 hg).1
theorem Row.grown {row : Option Nat} (h : Row w e sz v n xs) (hg : w.grownBy w' row) (hne : ∀ k, v.ownBlock = some k → some k ≠ row) : Row w' e sz v n xs :=
 h.move fun k hk => hg.block k (h.lt k hk) (hne k hk)
theorem Row.below (h : Row w e sz v n xs) (hb : Below w.heap.size w w') : Row w' e sz v n xs := h.move fun k hk => hb.block k (h.lt k hk)
theorem Row.cell (h : Row w e sz v n xs) {g cap : Nat} (hv : v = .slice (some ⟨g, 0, none⟩) n cap) (j : Nat) (u : Value) (hu : xs[j]? = some u) : w.cell? ⟨g, j, none⟩ = some u := by
 obtain ⟨_, _, h2⟩ := h
 rcases h2 with ⟨rfl, _⟩ | ⟨g', cap', cur, rfl, hg, _, _, _, ht⟩
 · simp at hv
 · simp at hv
   obtain ⟨rfl, rfl⟩ := hv
   rw [cell_of_row w g' j cur e (0, 0) hg]
   rw [← ht, List.getElem?_take] at hu
   split at hu
   · simpa using hu
   · cases hu
theorem Row.frozen (h : Row w e sz v n xs) {g cap : Nat} (hv : v = .slice (some ⟨g, 0, none⟩) n cap) (j : Nat) : w.frozen? ⟨g, j, none⟩ = false := by
 obtain ⟨_, _, h2⟩ := h
 rcases h2 with ⟨rfl, _⟩ | ⟨g', cap', cur, rfl, hg, _⟩
 · simp at hv
 · simp at hv
   obtain ⟨rfl, rfl⟩ := hv
   exact frozen_of_row w g' j cur e hg
theorem grown_set (w : World) (g : Nat) (a : Array Value) : w.grownBy (w.setRow g a) (some g) :=
 ⟨rfl, rfl, rfl, by simp, fun k _ hk => setRow_other w g k a (fun e => hk (by rw [e]))⟩
theorem grown_alloc (w : World) (o : Obj) (row : Option Nat) : w.grownBy (w.drew.alloc o) row := ⟨rfl, rfl, rfl, by simp, fun k hk _ => heap_alloc_old w.drew o hk⟩
theorem run_copy_row (w : World) (dT sT ty e : TypeId) (i : TypeInfo) (ht : P.underlying dT = some (.slice e)) (hi : P.info? e = some i) (g o dLen dCap : Nat) (cur : Array Value) (hg : w.heap[g]? = some (.cells cur e (0, 0)))
   (a : Addr) (sLen sCap : Nat) (cs : List Value) (hn : cs.length = Nat.min sLen dLen * i.size) (hsrc : ∀ j u, cs[j]? = some u → w.cell? (a.add j) = some u) (hfit : o + cs.length ≤ cur.size) (h1 : ∀ u ∈ cs, u.oneCell' = true) :
   (Builtin.copy_ #[dT, sT] ty #[.slice (some ⟨g, o, none⟩) dLen dCap, .slice (some a) sLen sCap]).run P w = .ok (goInt (Nat.min sLen dLen)) (w.setRow g (splice cur.toList o cs).toArray) := by
 have hf := run_firstCells_some (P := P) w i.size (Nat.min sLen dLen) a sLen sCap cs hn hsrc
 have hst := run_storeCells_at P g o e cs 0 cur w hg (by simpa using hfit) h1
 simp only [Nat.add_zero] at hst
 simp [Builtin.copy_, run_underlying ht, Builtin.lenOf, sizeOf, typeInfo, hi, hf, hst, splice]
theorem size_zeroCells (z : Array Value) (n : Nat) : (Builtin.zeroCells z n).size = n * z.size := by simp [Builtin.zeroCells]
theorem zeroCells_one (z : Array Value) (n : Nat) (h : ∀ u ∈ z, u.oneCell' = true) : ∀ u ∈ (Builtin.zeroCells z n).toList, u.oneCell' = true := by
 intro u hu
 simp only [Builtin.zeroCells, Array.toList_map, List.mem_map] at hu
 obtain ⟨j, hj, rfl⟩ := hu
 have hj' : j < n * z.size := by simpa using hj
 have hz : 0 < z.size := by
   rcases Nat.eq_zero_or_pos z.size with h0 | h0
   · rw [h0] at hj'; omega
   · exact h0
 have hlt := Nat.mod_lt j hz
 rw [getElem!_pos z _ hlt]
 exact h _ (Array.getElem_mem hlt)
theorem run_clear_row (w : World) (t ty e : TypeId) (i : TypeInfo) (z : Value) (ht : P.underlying t = some (.slice e)) (hi : P.info? e = some i) (hz : i.zero = some z) (h1 : ∀ u ∈ z.cells, u.oneCell' = true) (g o n c : Nat) (hn : 0 < n) (cur : Array Value) (hg : w.heap[g]? = some (.cells cur e (0, 0)))
   (hfit : o + n * z.cells.size ≤ cur.size) :
   (Builtin.clear_ #[t] ty #[.slice (some ⟨g, o, none⟩) n c]).run P w = .ok (.tuple #[]) (w.setRow g (splice cur.toList o (Builtin.zeroCells z.cells n).toList).toArray) := by
 have hst := run_storeCells_at P g o e (Builtin.zeroCells z.cells n).toList 0 cur w hg (by simp [size_zeroCells]; exact hfit) (zeroCells_one _ _ h1)
 simp only [Nat.add_zero] at hst
 obtain ⟨m, rfl⟩ : ∃ m, n = m + 1 := ⟨n - 1, by omega⟩
 simp [Builtin.clear_, run_underlying ht, zeroValue, typeInfo, hi, hz, hst, splice]
theorem run_append_grow_zeros (w : World) (t tn ty e : TypeId) (i : TypeInfo) (z : Value) (k : IntKind) (ht : P.underlying t = some (.slice e)) (htn : P.underlying tn = some (.int k)) (hi : P.info? e = some i) (hz : i.zero = some z)
   (b : Addr) (sLen sCap n : Nat) (olds : List Value) (hlo : olds.length = sLen * i.size) (holds : ∀ j u, olds[j]? = some u → w.cell? (b.add j) = some u) (hs : 0 < i.size) (h0 : 0 < n)
   (hg : sCap < sLen + n) (h63 : sLen + n ≤ 9223372036854775807) (h48 : n * i.bytes ≤ 281474976710656) (hfit : Builtin.nextslicecap (sLen + n) sCap * i.bytes ≤ 281474976710656) :
   (Builtin.append_ #[t, tn] ty #[.slice (some b) sLen sCap, .int k n]).run P w =
     .ok (.slice (some ⟨w.heap.size, 0, none⟩) (sLen + n) (grownCap w (sLen + n) sCap e))
       (w.drew.alloc (.cells (olds.toArray ++ Builtin.zeroCells z.cells n ++ Builtin.zeroCells z.cells (grownCap w (sLen + n) sCap e - (sLen + n))) e)) := by
 have hn : ¬ (sLen + n ≤ sCap) := by omega
 have hw : IntKind.i64.wrap (n : Int) = n := by rw [IntKind.wrap_i64]; omega
 have h63' : ¬ (9223372036854775807 < ((sLen : Int) + (n : Int))) := by omega
 have h48' : ¬ (281474976710656 < Builtin.nextslicecap (sLen + n) sCap * i.bytes) := by omega
 have h48i : ¬ (281474976710656 < (n : Int) * (i.bytes : Int)) := by
   rw [← Int.natCast_mul]
   omega
 have hneg : ¬ ((n : Int) < 0) := by omega
 have hn0 : n ≠ 0 := by omega
 have hns : ¬ (n * i.size = 0) := Nat.mul_ne_zero hn0 (by omega)
 have hf := run_firstCells_some (P := P) w.drew i.size sLen b sLen sCap olds hlo (by simpa using holds)
 simp [Builtin.append_, run_underlying ht, run_underlying htn, sizeOf, typeInfo, zeroValue, hi, hz, asInt, asIntOf, hw, hn, hn0, hneg, hns, h63', h48', h48i, Question.forced, hf, newRow, grownCap]
theorem step_append_runI {ops : Array Oper} {o : Oper} {a : Act} {w : World} {K : Act → World → Prop} {Q : Exit → Act → World → Prop} {E : Prop}
   (hg : o.guard = none) (d x : Operand) (dT sT : TypeId) (hop : o.op = Op.call { callee := Callee.builtin Builtin.append, args := #[d, x], argTypes := #[dT, sT] })
   (v u : Value) (hd : a.eval d = v) (hx : a.eval x = u) {v' : Value} {w' : World} (hr : (Builtin.append_ #[dT, sT] o.type #[v, u]).run P w = .ok v' w') (hK : K (a.put o.dst v') w') :
   if Region.wanted o (yielded ops a.tmps) = true then Oper.wp P o a w K Q else E := by
 have hw : Region.wanted o (yielded ops a.tmps) = true := by simp [Region.wanted, hg]
 rw [if_pos hw]
 unfold Oper.wp
 simp [execOp, hop, resolve, invoke, builtin, hd, hx, hr, Result.andThen]
 exact hK
theorem wp_clear_run (w : World) {o : Oper} {a : Act} {K : Act → World → Prop} {Q : Exit → Act → World → Prop} (s : Operand) (t : TypeId)
   (ho : o.op = .call { callee := .builtin .clear, args := #[s], argTypes := #[t] }) (v : Value) (hs : a.eval s = v) {v' : Value} {w' : World}
   (hr : (Builtin.clear_ #[t] o.type #[v]).run P w = .ok v' w') (h : K (a.put o.dst v') w') : o.wp P a w K Q := by
 unfold Oper.wp execOp
 simp only [ho, resolve, invoke, builtin, Sem.run_bind, Sem.run_pure, Result.andThen_ok, List.map_toArray, List.map_cons, List.map_nil, hs, hr]
 exact h
theorem wpList_clear_run (w : World) {ops : Array Oper} {rest : List Oper} {o : Oper} {a : Act} {Q : Exit → Act → World → Prop} (hgd : o.guard = none) (s : Operand) (t : TypeId)
   (ho : o.op = .call { callee := .builtin .clear, args := #[s], argTypes := #[t] }) (v : Value) (hs : a.eval s = v) {v' : Value} {w' : World}
   (hr : (Builtin.clear_ #[t] o.type #[v]).run P w = .ok v' w') (h : wpList P ops Q rest (a.put o.dst v') w') : wpList P ops Q (o :: rest) a w :=
 wpList_plain hgd fun _ hK => wp_clear_run w s t ho v hs hr (hK _ _ h)
theorem Row.cut {w : World} {e : TypeId} {sz n g cap : Nat} {xs : List Value} (h : Row w e sz (.slice (some ⟨g, 0, none⟩) n cap) n xs) (k c : Nat) (hk : k ≤ n) (hkc : k ≤ c) (hc : c ≤ cap) : Row w e sz (.slice (some ⟨g, 0, none⟩) k c) k (xs.take (k * sz)) := by
 obtain ⟨h0, h1, h2⟩ := h
 rcases h2 with ⟨h2, _⟩ | ⟨g', cap', cur, hv, hg, hn, hm, hs, ht⟩
 · simp at h2
 · simp at hv
   obtain ⟨rfl, rfl⟩ := hv
   have hkn : k * sz ≤ n * sz := Nat.mul_le_mul_right _ hk
   have hcc : c * sz ≤ cap * sz := Nat.mul_le_mul_right _ hc
   refine ⟨by rw [List.length_take, h0, Nat.min_eq_left hkn], fun u hu => h1 u (List.mem_of_mem_take hu), .inr ⟨g, c, cur, rfl, hg, hkc, by omega, by omega, ?_⟩⟩
   rw [← ht, List.take_take, Nat.min_eq_left hkn]
theorem nmin {a b : Nat} (h : a ≤ b) : Nat.min a b = a := Nat.min_eq_left h
def insAt {α : Type} (l : List α) (i : Nat) (x : α) : List α := l.take i ++ x :: l.drop i
structure Keep (w w' : World) (F : Nat → Prop) : Prop where
 os : w'.os = w.os
 tape : w'.tape = w.tape
 output : w'.output = w.output
 size : w.heap.size ≤ w'.heap.size
 block : ∀ k, k < w.heap.size → ¬ F k → w'.heap[k]? = w.heap[k]?
theorem Keep.below {w W W1 : World} {F : Nat → Prop} (h : Keep w W F) (hb : Below W.heap.size W W1) : Keep w W1 F :=
 ⟨hb.os.trans h.os, hb.tape.trans h.tape, hb.output.trans h.output, Nat.le_trans h.size hb.size, fun k hk hf => (hb.block k (Nat.lt_of_lt_of_le hk h.size)).trans (h.block k hk hf)⟩
theorem Keep.of_below {w w' : World} (h : Below w.heap.size w w') (F : Nat → Prop) : Keep w w' F := ⟨h.os, h.tape, h.output, h.size, fun k hk _ => h.block k hk⟩
theorem Keep.grown {w W W1 : World} {F : Nat → Prop} {row : Option Nat} (h : Keep w W F) (hg : W.grownBy W1 row) (hr : ∀ b, row = some b → F b ∨ w.heap.size ≤ b) : Keep w W1 F :=
 ⟨hg.os.trans h.os, hg.tape.trans h.tape, hg.output.trans h.output, Nat.le_trans h.size hg.size, fun k hk hf => (hg.block k (Nat.lt_of_lt_of_le hk h.size) (fun e => by
   rcases hr k e.symm with h1 | h1
   · exact hf h1
   · omega)).trans (h.block k hk hf)⟩
theorem Keep.drew {w W : World} {F : Nat → Prop} (h : Keep w W F) : Keep w W.drew F := ⟨h.os, h.tape, h.output, h.size, h.block⟩
theorem Keep.cell {w W : World} {F : Nat → Prop} (h : Keep w W F) {p : Addr} (hp : F p.block ∨ w.heap.size ≤ p.block) (u : Value) : Keep w (W.setCell p u) F :=
 ⟨h.os, h.tape, h.output, by simpa [World.setCell] using h.size, fun k hk hf => (Below.heap_setCell W p u k (by
   rintro rfl
   rcases hp with hp | hp
   · exact hf hp
   · omega)).trans (h.block k hk hf)⟩
theorem Keep.trans {w W W1 : World} {F G : Nat → Prop} (h : Keep w W F) (k : Keep W W1 G) (hs : ∀ b, G b → F b ∨ w.heap.size ≤ b) : Keep w W1 F :=
 ⟨k.os.trans h.os, k.tape.trans h.tape, k.output.trans h.output, Nat.le_trans h.size k.size, fun i hi hf => (k.block i (Nat.lt_of_lt_of_le hi h.size) (fun hg => by
   rcases hs i hg with h1 | h1
   · exact hf h1
   · omega)).trans (h.block i hi hf)⟩
def bl (v : Value) : List Nat := v.ownBlock.toList
theorem bl_mem {v : Value} {a : Nat} : a ∈ bl v ↔ v.ownBlock = some a := by
 unfold bl
 cases v.ownBlock with
 | none => simp
 | some b => simp [eq_comm]
theorem bl_slice (g n c : Nat) : bl (.slice (some ⟨g, 0, none⟩) n c) = [g] := rfl
def ND (l : List Nat) : Prop := ∀ a, l.count a ≤ 1
theorem count_mem {l : List Nat} {a : Nat} : a ∈ l ↔ 0 < l.count a := List.count_pos_iff.symm
theorem keep_grown {w w' : World} {p : Nat} (hg : w.grownBy w' (some p)) {F : Nat → Prop} (hp : F p) : Keep w w' F :=
 ⟨hg.os, hg.tape, hg.output, hg.size, fun k hk hf => hg.block k hk (fun e => hf (by simp at e; rw [e]; exact hp))⟩
theorem run_append_R (w : World) (t ty e : TypeId) (i : TypeInfo) (z : Value) (size bytes : Nat) (ht : P.underlying t = some (.slice e)) (hi : P.info? e = some i) (hz : i.zero = some z)
   (hsize : i.size = size) (hby : i.bytes = bytes) (hzs : z.cells.size = size) (hsz : 0 < size) (hb64 : bytes ≤ 64)
   (v : Value) (n : Nat) (xs : List Value) (hR : Row w e size v n xs) (a : Addr) (m c : Nat) (news : List Value) (hl : news.length = m * size) (hnews : ∀ j u, news[j]? = some u → w.cell? (a.add j) = some u) (h1 : ∀ u ∈ news, u.oneCell' = true) (hn : n + m < 1000000) :
   ∃ v' w', (Builtin.append_ #[t, t] ty #[v, .slice (some a) m c]).run P w = .ok v' w' ∧ Row w' e size v' (n + m) (xs ++ news) ∧ w.grownBy w' v.ownBlock ∧
     (v'.ownBlock = v.ownBlock ∨ ∃ k, v'.ownBlock = some k ∧ w.heap.size ≤ k) := by
 subst hsize
 subst hby
 have hRl := hR.1
 have hR1 := hR.2.1
 have hlen : (xs ++ news).length = (n + m) * i.size := by rw [List.length_append, hRl, hl, Nat.add_mul]
 have hone : ∀ u ∈ xs ++ news, u.oneCell' = true := fun u hu => (List.mem_append.1 hu).elim (hR1 u) (h1 u)
 have hbb : (n + m) * i.bytes ≤ 1000000 * 64 := Nat.mul_le_mul (by omega) hb64
 rcases hR.2.2 with ⟨rfl, rfl⟩ | ⟨g, cap, cur, rfl, hg, hnc, hcm, hcs, htake⟩
 · have hx : xs = [] := List.eq_nil_of_length_eq_zero (by simpa using hRl)
   subst hx
   by_cases hm : m = 0
   · subst hm
     have hnn : news = [] := List.eq_nil_of_length_eq_zero (by simpa using hl)
     subst hnn
     refine ⟨.slice none 0 0, w, ?_, Row.nil w e i.size, ⟨rfl, rfl, rfl, Nat.le_refl _, fun _ _ _ => rfl⟩, .inl rfl⟩
     simp [Builtin.append_, run_underlying ht, sizeOf, typeInfo, hi, Builtin.lenOf, Builtin.firstCells, loadCells, loadCellsFrom]
   · have hr := run_append_nil (P := P) w t ty e i z ht hi hz a m c news hl hnews (by omega) (by omega) (by simp only [Nat.zero_add] at hbb; omega)
     have hge := grownCap_ge w m 0 e
     have hle := grownCap_le_maxLen w m 0 e (by simp only [maxLen]; omega)
     refine ⟨_, _, hr, ⟨hlen, hone, .inr ⟨_, _, _, by rw [Nat.zero_add]; rfl, heap_alloc_new w.drew _, by omega, hle, ?_, ?_⟩⟩, grown_alloc w _ _, .inr ⟨_, rfl, Nat.le_refl _⟩⟩
     · simp only [Array.size_append, List.size_toArray, size_zeroCells, hzs, hl, ← Nat.add_mul]
       exact Nat.mul_le_mul_right _ (by omega)
     · simp only [Array.toList_append, List.nil_append]
       rw [show (0 + m) * i.size = news.length by rw [hl, Nat.zero_add]]
       exact List.take_left
 · by_cases hroom : n + m ≤ cap
   · have hfit : n * i.size + news.length ≤ cur.size := by
       rw [hl, ← Nat.add_mul]
       exact Nat.le_trans (Nat.mul_le_mul_right _ hroom) hcs
     have hr := run_append_room (P := P) w t ty e i ht hi g n cap cur hg a m c news hl hnews h1 hroom hfit
     refine ⟨_, _, hr, ⟨hlen, hone, .inr ⟨g, cap, _, rfl, setRow_heap w g cur _ e _ hg, hroom, hcm, ?_, ?_⟩⟩, grown_set w g _, .inl rfl⟩
     · simp only [List.size_toArray, List.length_append, List.length_take, List.length_drop, Array.length_toList]
       omega
     · rw [htake, ← hlen]
       exact List.take_left
   · have holds : ∀ j u, xs[j]? = some u → w.cell? ((⟨g, 0, none⟩ : Addr).add j) = some u := fun j u hu => by
       rw [Addr.add_lit, Nat.zero_add]
       exact hR.cell rfl j u hu
     have hr := run_append_grow (P := P) w t ty e i z ht hi hz ⟨g, 0, none⟩ n cap xs hRl holds a m c news hl hnews (by omega) (by omega) (growslice_fits (by omega) (by omega))
     have hge := grownCap_ge w (n + m) cap e
     have hle := grownCap_le_maxLen w (n + m) cap e (by simp only [maxLen]; omega)
     refine ⟨_, _, hr, ⟨hlen, hone, .inr ⟨_, _, _, rfl, heap_alloc_new w.drew _, hge, hle, ?_, ?_⟩⟩, grown_alloc w _ _, .inr ⟨_, rfl, Nat.le_refl _⟩⟩
     · simp only [Array.size_append, List.size_toArray, size_zeroCells, hzs, hRl, hl, ← Nat.add_mul]
       exact Nat.mul_le_mul_right _ (by omega)
     · simp only [Array.toList_append, List.append_assoc]
       rw [← List.append_assoc, ← hlen]
       exact List.take_left
theorem lt_of_some {W : World} {k : Nat} {o : Obj} (h : W.heap[k]? = some o) : k < W.heap.size := (Array.getElem?_eq_some_iff.1 h).1
structure Chunk where
 H : World → Prop
 bs : List Nat
 lt : ∀ {w : World}, H w → ∀ b ∈ bs, b < w.heap.size
 mv : ∀ {w w' : World}, H w → (∀ b ∈ bs, w'.heap[b]? = w.heap[b]?) → H w'
def fpc (cs : List Chunk) : List Nat := cs.flatMap Chunk.bs
theorem fpc_app (a b : List Chunk) : fpc (a ++ b) = fpc a ++ fpc b := by simp [fpc]
theorem fpc_cons (a : Chunk) (b : List Chunk) : fpc (a :: b) = a.bs ++ fpc b := rfl
theorem mem_fpc {cs : List Chunk} {b : Nat} : b ∈ fpc cs ↔ ∃ c ∈ cs, b ∈ c.bs := List.mem_flatMap
structure St (w0 : World) (F : Nat → Prop) (w : World) (cs : List Chunk) : Prop where
 keep : Keep w0 w F
 h : ∀ c ∈ cs, c.H w
 nd : ND (fpc cs)
 own : ∀ b ∈ fpc cs, F b ∨ w0.heap.size ≤ b
section
variable {w0 w w' : World} {F : Nat → Prop} {cs A B R : List Chunk} {c c' d : Chunk}
theorem St.start (h : ∀ c ∈ cs, c.H w) (nd : ND (fpc cs)) : St w (fun b => b ∈ fpc cs) w cs :=
 ⟨Keep.of_below (Below.refl _ w) _, h, nd, fun b hb => .inl hb⟩
theorem St.get (s : St w0 F w cs) (i : Nat) (hi : cs[i]? = some c) : c.H w := s.h c (List.mem_of_getElem? hi)
theorem St.lt (s : St w0 F w cs) : ∀ b ∈ fpc cs, b < w.heap.size := by
 intro b hb
 obtain ⟨c, hc, hbc⟩ := mem_fpc.1 hb
 exact c.lt (s.h c hc) b hbc
theorem St.below (s : St w0 F w cs) (hb : Below w.heap.size w w') : St w0 F w' cs :=
 ⟨s.keep.below hb, fun c hc => c.mv (s.h c hc) fun b hbc => hb.block b (c.lt (s.h c hc) b hbc), s.nd, s.own⟩
theorem St.drew (s : St w0 F w cs) : St w0 F w.drew cs := ⟨s.keep.drew, fun c hc => c.mv (s.h c hc) fun _ _ => rfl, s.nd, s.own⟩
theorem nd_app {a b : List Nat} : ND (a ++ b) ↔ (ND a ∧ ND b ∧ ∀ x ∈ a, x ∉ b) := by
 refine ⟨fun h => ⟨fun x => ?_, fun x => ?_, fun x hx hb => ?_⟩, fun ⟨h1, h2, h3⟩ x => ?_⟩
 · have := h x
   rw [List.count_append] at this
   omega
 · have := h x
   rw [List.count_append] at this
   omega
 · have := h x
   rw [List.count_append] at this
   have h1 := count_mem.1 hx
   have h2 := count_mem.1 hb
   omega
 · rw [List.count_append]
   have h1x := h1 x
   have h2x := h2 x
   by_cases hx : x ∈ a
   · have := List.count_eq_zero.2 (h3 x hx)
     omega
   · have := List.count_eq_zero.2 hx
     omega
theorem St.frame (s : St w0 F w (A ++ R)) (hk : Keep w w' (fun b => b ∈ fpc A)) (hh : ∀ c ∈ B, c.H w') (hnd : ND (fpc B)) (hs : ∀ b ∈ fpc B, b ∈ fpc A ∨ w.heap.size ≤ b) : St w0 F w' (B ++ R) := by
 have hlt := s.lt
 have hn := s.nd
 rw [fpc_app] at hn hlt
 obtain ⟨hnA, hnR, hAR⟩ := nd_app.1 hn
 have hown := s.own
 rw [fpc_app] at hown
 have hsz := s.keep.size
 refine ⟨s.keep.trans hk fun b hb => hown b (List.mem_append_left _ hb), ?_, ?_, ?_⟩
 · intro c hc
   rcases List.mem_append.1 hc with hc | hc
   · exact hh c hc
   · have hcw := s.h c (List.mem_append_right _ hc)
     exact c.mv hcw fun b hb => hk.block b (c.lt hcw b hb) fun hA => hAR b hA (mem_fpc.2 ⟨c, hc, hb⟩)
 · rw [fpc_app]
   refine nd_app.2 ⟨hnd, hnR, fun x hx hR => ?_⟩
   rcases hs x hx with h | h
   · exact hAR x h hR
   · have := hlt x (List.mem_append_right _ hR)
     omega
 · intro b hb
   rw [fpc_app] at hb
   rcases List.mem_append.1 hb with hb | hb
   · rcases hs b hb with h | h
     · exact hown b (List.mem_append_left _ h)
     · exact .inr (by omega)
   · exact hown b (List.mem_append_right _ hb)
theorem St.call (s : St w0 F w (A ++ R)) (k : St w (fun b => b ∈ fpc A) w' B) : St w0 F w' (B ++ R) := s.frame k.keep k.h k.nd k.own
theorem fpc_perm {a b : List Chunk} (h : a.Perm b) : (fpc a).Perm (fpc b) := by
 unfold fpc
 exact h.flatMap_right _
theorem St.perm (s : St w0 F w A) (h : A.Perm B) : St w0 F w B :=
 ⟨s.keep, fun c hc => s.h c (h.mem_iff.2 hc), fun a => by rw [← (fpc_perm h).count_eq]; exact s.nd a, fun b hb => s.own b ((fpc_perm h).mem_iff.2 hb)⟩
theorem St.tell (s : St w0 F w (A ++ R)) (hh : (∀ c ∈ A, c.H w) → ∀ c ∈ B, c.H w) (hc : ∀ b, (fpc B).count b ≤ (fpc A).count b) : St w0 F w (B ++ R) := by
 refine s.frame (Keep.of_below (Below.refl _ w) _) (hh fun c hc => s.h c (List.mem_append_left _ hc)) (fun b => ?_) (fun b hb => .inl ?_)
 · have h1 := s.nd b
   rw [fpc_app, List.count_append] at h1
   have := hc b
   omega
 · have h1 := count_mem.1 hb
   exact count_mem.2 (Nat.lt_of_lt_of_le h1 (hc b))
theorem St.drop (s : St w0 F w (A ++ R)) : St w0 F w R := by
 have := St.tell (B := []) s (fun _ c hc => by cases hc) (fun b => by simp [fpc])
 simpa using this
theorem set_split {α : Type} : ∀ {l : List α} {i : Nat} {x : α} (y : α), l[i]? = some x → ∃ A B, l = A ++ x :: B ∧ l.set i y = A ++ y :: B ∧ A.length = i
 | [], i, x, y, h => by simp at h
 | a :: l, 0, x, y, h => by
   simp at h
   subst h
   exact ⟨[], l, rfl, rfl, rfl⟩
 | a :: l, i + 1, x, y, h => by
   obtain ⟨A, B, h1, h2, h3⟩ := set_split (l := l) y (by simpa using h)
   exact ⟨a :: A, B, by rw [h1]; rfl, by rw [List.set_cons_succ, h2]; rfl, by simp [h3]⟩
theorem St.upd (s : St w0 F w cs) (i : Nat) (hi : cs[i]? = some c) (c' : Chunk) (hk : Keep w w' (fun b => b ∈ c.bs)) (hc : c'.H w') (hnd : ND c'.bs) (hs : ∀ b ∈ c'.bs, b ∈ c.bs ∨ w.heap.size ≤ b) : St w0 F w' (cs.set i c') := by
 obtain ⟨A, B, h1, h2, hAi⟩ := set_split c' hi
 rw [h2]
 rw [h1] at s
 have hp : (A ++ c :: B).Perm ([c] ++ (A ++ B)) := List.perm_middle
 have hq : ([c'] ++ (A ++ B)).Perm (A ++ c' :: B) := (List.perm_middle (a := c') (l₁ := A) (l₂ := B)).symm
 have e : ∀ x : Chunk, fpc [x] = x.bs := fun x => by simp [fpc]
 refine ((s.perm hp).frame (B := [c']) (by rw [e]; exact hk) ?_ (by rw [e]; exact hnd) (by rw [e, e]; exact hs)).perm hq
 intro x hx
 simp at hx
 subst hx
 exact hc
theorem St.apart (s : St w0 F w cs) (i j : Nat) (hij : i ≠ j) (hi : cs[i]? = some c) (hj : cs[j]? = some d) : ∀ b ∈ c.bs, b ∉ d.bs := by
 intro b hb hd
 obtain ⟨A, B, h1, h2, hAi⟩ := set_split c hi
 have hn := s.nd b
 have hdm : d ∈ A ++ B := by
   rw [h1] at hj
   by_cases hl : A.length ≤ j
   · rw [List.getElem?_append_right hl] at hj
     obtain ⟨m, hm⟩ : ∃ m, j - A.length = m + 1 := ⟨j - A.length - 1, by omega⟩
     rw [hm, List.getElem?_cons_succ] at hj
     exact List.mem_append_right _ (List.mem_of_getElem? hj)
   · rw [List.getElem?_append_left (by omega)] at hj
     exact List.mem_append_left _ (List.mem_of_getElem? hj)
 rw [h1] at hn
 have h3 := count_mem.1 hb
 have h4 : 0 < (fpc (A ++ B)).count b := count_mem.1 (mem_fpc.2 ⟨d, hdm, hd⟩)
 simp only [fpc, List.flatMap_append, List.flatMap_cons, List.count_append] at hn h4
 omega
end
section
variable {w0 w w' W W' : World} {F : Nat → Prop} {cs A B R : List Chunk} {c c' d : Chunk}
def blkC (b : Nat) (o : Obj) : Chunk := ⟨fun w => w.heap[b]? = some o, [b], fun h x hx => by simp at hx; subst hx; exact (Array.getElem?_eq_some_iff.1 h).1, fun h hm => (hm b (by simp)).trans h⟩
theorem St.blk (s : St w0 F w cs) (i : Nat) {b : Nat} {o : Obj} (hi : cs[i]? = some (blkC b o)) : w.heap[b]? = some o := s.get i hi
theorem nd_one (p : Nat) : ND [p] := fun a => by simp [List.count_cons]; split <;> omega
theorem nd_bl (v : Value) : ND (bl v) := by
 unfold bl
 cases v.ownBlock with
 | none => intro a; simp
 | some b => exact nd_one b
theorem St.alloc (s : St w0 F w cs) (C : Array Value) (T : TypeId) {n : Nat} (hn : w.heap.size = n) : St w0 F (w.alloc (.cells C T)) (cs ++ [blkC n (.cells C T (0, 0))]) := by
 have hb : Below w.heap.size w (w.alloc (.cells C T)) := (Below.refl _ w).alloc (Nat.le_refl _) _
 have s2 := s.below hb
 have hlt := s.lt
 subst hn
 have e : fpc (cs ++ [blkC w.heap.size (.cells C T (0, 0))]) = fpc cs ++ [w.heap.size] := by rw [fpc_app]; rfl
 refine ⟨s2.keep, ?_, ?_, ?_⟩
 · intro c hc
   rcases List.mem_append.1 hc with hc | hc
   · exact s2.h c hc
   · simp at hc
     subst hc
     exact heap_alloc_new w _
 · rw [e]
   refine nd_app.2 ⟨s.nd, nd_one _, fun x hx hm => ?_⟩
   have hx' : x = w.heap.size := by simpa using hm
   have := hlt x hx
   omega
 · intro b hb
   rw [e] at hb
   rcases List.mem_append.1 hb with hb | hb
   · exact s.own b hb
   · have hx' : b = w.heap.size := by simpa using hb
     have := s.keep.size
     exact .inr (by omega)
theorem St.left (s : St w0 F w (A ++ R)) : St w0 F w A := (s.perm (B := R ++ A) List.perm_append_comm).drop
theorem keep_set (w : World) (p : Nat) (j : Nat) (v : Value) (F : Nat → Prop) (hF : F p) : Keep w (w.setCell ⟨p, j, none⟩ v) F := (Keep.of_below (Below.refl _ w) F).cell (p := ⟨p, j, none⟩) (.inl hF) v
theorem keep_row {v : Value} (hg : w.grownBy w' v.ownBlock) : Keep w w' (fun b => b ∈ bl v) :=
 ⟨hg.os, hg.tape, hg.output, hg.size, fun k hk hf => hg.block k hk fun e => hf (bl_mem.2 e.symm)⟩
theorem bl_sub {v v' : Value} (ho : v'.ownBlock = v.ownBlock ∨ ∃ k, v'.ownBlock = some k ∧ w.heap.size ≤ k) : ∀ b ∈ bl v', b ∈ bl v ∨ w.heap.size ≤ b := by
 intro b hb
 have h1 := bl_mem.1 hb
 rcases ho with ho | ⟨k, hk, hle⟩
 · exact .inl (bl_mem.2 (ho ▸ h1))
 · rw [h1] at hk
   simp at hk
   exact .inr (by omega)
theorem appended_ {P : Program} {ops : Array Oper} {Q : Exit → Act → World → Prop} {oi : Oper} {N : Option Tmp} {a : Act} {w : World} {K : Act → World → Prop} (d x : Operand) (dT sT : TypeId) (hw : Region.wanted oi (yielded ops a.tmps) = true) (hN : oi.dst = N)
   (hop : oi.op = Op.call { callee := Callee.builtin Builtin.append, args := #[d, x], argTypes := #[dT, sT] }) (v u : Value) (hd : a.eval d = v) (hx : a.eval x = u) {v' : Value} {w' : World} (hr : (Builtin.append_ #[dT, sT] oi.type #[v, u]).run P w = .ok v' w')
   (h : K (a.put N v') w') : if Region.wanted oi (yielded ops a.tmps) = true then Oper.wp P oi a w K Q else K (a.put N undef) w := by
 rw [if_pos hw]
 subst hN
 unfold Oper.wp
 simp [execOp, hop, resolve, invoke, builtin, hd, hx, hr, Result.andThen]
 exact h
end
def Owns (w : World) (v v' : Value) : Prop := v'.ownBlock = v.ownBlock ∨ ∃ k, v'.ownBlock = some k ∧ w.heap.size ≤ k
theorem row_slice {w : World} {e : TypeId} {sz n : Nat} {v : Value} {xs : List Value} (h : Row w e sz v n xs) (h0 : 0 < n) : ∃ g c, v = .slice (some ⟨g, 0, none⟩) n c ∧ n ≤ c := by
 rcases h.2.2 with ⟨_, h⟩ | ⟨g, cap, cur, h, _, h2, _⟩
 · omega
 · exact ⟨g, cap, h, h2⟩
theorem row_cells {w : World} {e : TypeId} {sz g n c : Nat} {xs : List Value} (h : Row w e sz (.slice (some ⟨g, 0, none⟩) n c) n xs) : ∀ j u, xs[j]? = some u → w.cell? ((⟨g, 0, none⟩ : Addr).add j) = some u := fun j u hu => by
 rw [Addr.add_lit, Nat.zero_add]
 exact h.cell rfl j u hu
theorem St.fresh {w0 w w' : World} {F : Nat → Prop} {cs : List Chunk} (s : St w0 F w cs) (hb : Below w.heap.size w w') (c : Chunk) (hc : c.H w') (hnd : ND c.bs) (hs : ∀ b ∈ c.bs, w.heap.size ≤ b) : St w0 F w' (c :: cs) := by
 have s2 := s.below hb
 have hlt := s.lt
 refine ⟨s2.keep, ?_, ?_, ?_⟩
 · intro d hd
   rcases List.mem_cons.1 hd with rfl | hd
   · exact hc
   · exact s2.h d hd
 · rw [fpc_cons]
   exact nd_app.2 ⟨hnd, s.nd, fun x hx hm => by have := hlt x hm; have := hs x hx; omega⟩
 · intro b hb
   rw [fpc_cons] at hb
   rcases List.mem_append.1 hb with hb | hb
   · have := hs b hb
     have := s.keep.size
     exact .inr (by omega)
   · exact s.own b hb
section
variable {w0 w w' W W' : World} {F : Nat → Prop} {cs A B R : List Chunk} {c c' d : Chunk}
def boxC (b : Nat) (t : TypeId) (v : Value) : Chunk := ⟨fun w => Boxed w b t v, [b], fun h x hx => by simp at hx; subst hx; exact h.lt, fun h hm => (hm b (by simp)).trans h⟩
theorem St.box (s : St w0 F W cs) (i : Nat) {b : Nat} {t : TypeId} {v : Value} (hi : cs[i]? = some (boxC b t v)) : Boxed W b t v := s.get i hi
end
def NoF : Nat → Prop := fun _ => False
theorem keep_below {w w' : World} (h : Keep w w' NoF) : Below w.heap.size w w' := ⟨h.os, h.tape, h.output, h.size, fun k hk => h.block k hk (fun h => h)⟩
theorem St.nil0 (w : World) (F : Nat → Prop) : St w F w [] := ⟨Keep.of_below (Below.refl _ _) _, fun c hc => (by cases hc), fun a => by simp [fpc], fun b hb => by simp [fpc] at hb⟩
theorem St.boxed {w0 w : World} {F : Nat → Prop} {cs : List Chunk} (s : St w0 F w cs) (t : TypeId) (v : Value) {n : Nat} (hn : w.heap.size = n) : St w0 F (w.alloc (.cells #[v] t)) (cs ++ [boxC n t v]) := s.alloc #[v] t hn
theorem range_filterMap {α : Type} (l : List α) : (List.range l.length).filterMap (fun i => l[i]?) = l := by
 induction l with
 | nil => rfl
 | cons x l ih =>
   rw [List.length_cons, List.range_succ_eq_map, List.filterMap_cons]
   simp only [List.getElem?_cons_zero, List.filterMap_map]
   congr 1
theorem perm_ix {α : Type} (l : List α) (ix : List Nat) (n : Nat) (hn : l.length = n) (h : ix.Perm (List.range n)) : l.Perm (ix.filterMap (fun i => l[i]?)) := by
 subst hn
 have := h.symm.filterMap (fun i => l[i]?)
 rw [range_filterMap] at this
 exact this
theorem made_ {P : Program} {ops : Array Oper} {Q : Exit → Act → World → Prop} {oi : Oper} {N : Option Tmp} {a : Act} {w : World} {K : Act → World → Prop} {v : Value} {w1 : World} (hw : Region.wanted oi (yielded ops a.tmps) = true) (hN : oi.dst = N) (hrun : (execOp a.eval oi).run P w = .ok (.value v) w1)
   (h : K (a.put N v) w1) : if Region.wanted oi (yielded ops a.tmps) = true then Oper.wp P oi a w K Q else K (a.put N undef) w := by
 rw [if_pos hw]
 unfold Oper.wp
 rw [hrun]
 show K (a.put oi.dst v) w1
 rw [hN]
 exact h
section
variable {w0 w w' W W' : World} {F : Nat → Prop} {cs A B R : List Chunk} {c c' d : Chunk}
theorem St.sub (s : St w0 F w (A ++ R)) : St w (fun b => b ∈ fpc A) w A :=
 St.start (fun c hc => s.h c (List.mem_append_left _ hc)) (by have := s.nd; rw [fpc_app] at this; exact (nd_app.1 this).1)
end
theorem no_ {P : Program} {ops : Array Oper} {Q : Exit → Act → World → Prop} {oi : Oper} {N : Option Tmp} {a : Act} {w : World} {K : Act → World → Prop} (hw : Region.wanted oi (yielded ops a.tmps) = false) (h : K (a.put N undef) w) :
   if Region.wanted oi (yielded ops a.tmps) = true then Oper.wp P oi a w K Q else K (a.put N undef) w := by
 rw [hw]
 exact h
end Go.Proofs.Kb
end
section
namespace Go.Proofs.Lk
def confL (m : Int) : List Int :=
 if m = 1 then [6, 8] else if m = 2 then [3, 5, 6, 8] else if m = 3 then [2, 5, 6, 8] else if m = 4 then [4, 6, 8] else if m = 5 then [2, 3, 5, 6, 8]
 else if m = 6 then [1, 2, 3, 4, 5, 6, 8] else if m = 7 then [8] else if m = 8 then [1, 2, 3, 4, 5, 6, 7, 8] else []
def right (m : Int) : Bool := decide (1 ≤ m ∧ m ≤ 8)
def conf (a b : Int) : Bool := (confL a).contains b
def cov (a b : Int) : Bool := right a && right b && (confL b).all fun m => (confL a).contains m
def size (m : Int) : Nat := (confL m).length
def join (a b : Int) : Int := ([0, 1, 2, 3, 4, 5, 6, 7, 8] : List Int).foldl (fun best m => if cov m a && cov m b && (best == 0 || decide (size m < size best)) then m else best) 0
theorem right_cases {m : Int} (h : right m = true) : m = 1 ∨ m = 2 ∨ m = 3 ∨ m = 4 ∨ m = 5 ∨ m = 6 ∨ m = 7 ∨ m = 8 := by
 unfold right at h
 rw [decide_eq_true_eq] at h
 omega
theorem conf_right {a b : Int} (h : conf a b = true) : right a = true ∧ right b = true := by
 have ha : right a = true := by
   unfold conf confL at h
   unfold right
   rw [decide_eq_true_eq]
   split at h
   · omega
   · split at h
     · omega
     · split at h
       · omega
       · split at h
         · omega
         · split at h
           · omega
           · split at h
             · omega
             · split at h
               · omega
               · split at h
                 · omega
                 · simp at h
 refine ⟨ha, ?_⟩
 unfold right
 rw [decide_eq_true_eq]
 rcases right_cases ha with rfl | rfl | rfl | rfl | rfl | rfl | rfl | rfl <;> simp [conf, confL] at h <;> omega
theorem conf_symm {a b : Int} (ha : right a = true) (hb : right b = true) : conf a b = conf b a := by
 rcases right_cases ha with rfl | rfl | rfl | rfl | rfl | rfl | rfl | rfl <;> rcases right_cases hb with rfl | rfl | rfl | rfl | rfl | rfl | rfl | rfl <;> decide
theorem join_cov {a b : Int} (ha : right a = true) (hb : right b = true) : right (join a b) = true ∧ cov (join a b) a = true ∧ cov (join a b) b = true := by
 rcases right_cases ha with rfl | rfl | rfl | rfl | rfl | rfl | rfl | rfl <;> rcases right_cases hb with rfl | rfl | rfl | rfl | rfl | rfl | rfl | rfl <;> decide
theorem cov_conf {a b m : Int} (h : cov a b = true) (hm : conf b m = true) : conf a m = true := by
 unfold cov at h
 rw [Bool.and_eq_true, Bool.and_eq_true, List.all_eq_true] at h
 unfold conf at hm
 rw [List.contains_iff_mem] at hm
 exact h.2 m hm
abbrev One := Int × Int
structure LRow where
 holds : List One
 waits : List One
def has (l : List One) (t : Int) : Bool := l.any fun o => o.1 == t
def rawB (r : LRow) (o : One) (place : Nat) : List Int := ((r.holds ++ r.waits.take place).filter fun h => h.1 != o.1 && conf h.2 o.2).map (·.1)
def give (l : List One) (o : One) : List One := if has l o.1 then l.map fun h => if h.1 == o.1 then o else h else l ++ [o]
def place (r : LRow) (t : Int) : Nat := if has r.holds t then (match r.waits.findIdx? (fun o => !(has r.holds o.1)) with | some n => n | none => r.waits.length) else r.waits.length
def sweepA : Nat → LRow → Nat → LRow × List Int
 | 0, r, i => (r, [])
 | k + 1, r, i => match r.waits[i]? with
   | none => (r, [])
   | some o => if rawB r o i = [] then
       let q := sweepA k ⟨give r.holds o, r.waits.eraseIdx i⟩ i
       (q.1, o.1 :: q.2)
     else sweepA k r (i + 1)
def sweepR (r : LRow) : LRow × List Int := sweepA (r.waits.length + 1) r 0
def dropR (r : LRow) (t : Int) : LRow := ⟨r.holds.filter fun o => o.1 != t, r.waits.filter fun o => o.1 != t⟩
end Go.Proofs.Lk
end
section
namespace Go.Proofs.Kb
open Go Go.RowKit Go.Proofs.YtkcjcdkmdooofaaGreat.Q Go.Proofs.YtkcjcdkmdooofaaGreatW.PrintWords Go.Proofs.YtkcjcdkmdooofaaGreatW.PrintLast Go.Proofs.YtkcjcdkmdooofaaGreatW.PrintMore
set_option maxRecDepth 100000
open Go.Proofs.Lk
def encO (l : List One) : List Value := l.flatMap fun o => [.int .i64 o.1, .int .i64 o.2]
theorem encO_get : ∀ (l : List One) (i : Nat) (o : One), l[i]? = some o → (encO l)[i * 2]? = some (.int .i64 o.1) ∧ (encO l)[i * 2 + 1]? = some (.int .i64 o.2)
 | [], i, o, h => by simp at h
 | p :: l, 0, o, h => by
   simp at h
   subst h
   exact ⟨rfl, rfl⟩
 | p :: l, i + 1, o, h => by
   obtain ⟨h1, h2⟩ := encO_get l i o (by simpa using h)
   have e : ∀ k, (([.int .i64 p.1, .int .i64 p.2] : List Value) ++ encO l)[2 + k]? = (encO l)[k]? := fun k => by
     rw [List.getElem?_append_right (by simp)]
     simp
   show (([.int .i64 p.1, .int .i64 p.2] : List Value) ++ encO l)[(i + 1) * 2]? = _ ∧ (([.int .i64 p.1, .int .i64 p.2] : List Value) ++ encO l)[(i + 1) * 2 + 1]? = _
   rw [show (i + 1) * 2 = 2 + i * 2 by omega, e, Nat.add_assoc, e]
   exact ⟨h1, h2⟩
def RowO (w : World) (v : Value) (l : List One) : Prop := Row w 63 2 v l.length (encO l)
theorem RowO.below {w w' : World} {v : Value} {l : List One} (h : RowO w v l) (hb : Below w.heap.size w w') : RowO w' v l := Row.below h hb
theorem RowO.cells {w : World} {g n c : Nat} {l : List One} (h : RowO w (.slice (some ⟨g, 0, none⟩) n c) l) {i : Nat} {o : One} (ho : l[i]? = some o) :
   w.cell? ⟨g, i * 2, none⟩ = some (.int .i64 o.1) ∧ w.cell? ⟨g, i * 2 + 1, none⟩ = some (.int .i64 o.2) := by
 obtain ⟨e0, e1⟩ := encO_get l i o ho
 have hl := (List.getElem?_eq_some_iff.1 ho).1
 obtain ⟨g', c', hv, _⟩ := row_slice h (by omega)
 injection hv with h1 h2 h3
 injection h1 with h1
 injection h1 with h1
 subst h1 h2
 exact ⟨h.cell rfl _ _ e0, h.cell rfl _ _ e1⟩
def oneV (o : One) : Value := .agg #[.int .i64 o.1, .int .i64 o.2]
def idxI (l : List One) (p : One → Bool) : Int := match l.findIdx? p with | some i => i | none => -1
theorem idx_at {l : List One} {p : One → Bool} {i : Nat} {o : One} (ho : l[i]? = some o) (hp : p o = true) (h : ∀ (j : Nat) (q : One), j < i → l[j]? = some q → p q = false) : idxI l p = i := by
 obtain ⟨hi, rfl⟩ := List.getElem?_eq_some_iff.1 ho
 have : l.findIdx? p = some i := by
   rw [List.findIdx?_eq_some_iff_getElem]
   exact ⟨hi, hp, fun j hj => by simp [h j _ hj (List.getElem?_eq_getElem (by omega))]⟩
 unfold idxI
 rw [this]
theorem idx_none {l : List One} {p : One → Bool} (h : ∀ (j : Nat) (q : One), l[j]? = some q → p q = false) : idxI l p = -1 := by
 have : l.findIdx? p = none := by
   rw [List.findIdx?_eq_none_iff]
   intro q hq
   obtain ⟨j, hj⟩ := List.getElem?_of_mem hq
   exact h j q hj
 unfold idxI
 rw [this]
set_option maxHeartbeats 2000000 in
theorem idx54 (w : World) (v : Value) (l : List One) (cp : Value) (p : One → Bool) (hr : RowO w v l) (hn : l.length < 1000000)
   (hp : ∀ (W : World) (o : One), o ∈ l → Below w.heap.size w W → Calls Tryz.prog 57 #[.agg #[.int .i64 o.1, .int .i64 o.2], cp] W fun E w' => E = .returned (.bool (p o)) ∧ Below W.heap.size W w') :
   Calls Tryz.prog 56 #[v, .func (.func 57) #[] #[cp]] w fun E w' => E = .returned (.int .i64 (idxI l p)) ∧ Below w.heap.size w w' := by
 obtain ⟨R, hR⟩ : ∃ R, (fun E w' => E = Ending.returned (.int .i64 (idxI l p)) ∧ Below w.heap.size w w') = R := ⟨_, rfl⟩
 have HR := Aside0.mk hR
 rw [hR]
 have hu66 := Tryz.underlying63
 obtain ⟨A, c, rfl⟩ : ∃ A c, v = .slice A l.length c := by
   rcases hr.2.2 with ⟨rfl, h0⟩ | ⟨g, c, cur, rfl, _⟩
   · exact ⟨_, _, by rw [h0]⟩
   · exact ⟨_, _, rfl⟩
 obtain ⟨n, hnn⟩ : ∃ n, l.length = n := ⟨_, rfl⟩
 rw [hnn] at hr hn ⊢
 have HRW := Aside0.mk hr
 have HN := Aside0.mk hnn
 have HP := Aside0.mk hp
 clear hR hr hnn hp
 go_enter Tryz.func56, Tryz.ntmps56
 go_wp2
 go_loopg [8] n (fun gq v8 wx => ∃ i : Nat, v8 = .int .i64 i ∧ i + gq = n ∧ Aside0 (Below w.heap.size w wx) ∧ Aside0 (∀ (j : Nat) (q : One), j < i → l[j]? = some q → p q = false))
 case atStart => exact ⟨0, rfl, by omega, Aside0.mk (Below.refl _ w), Aside0.mk fun j q h => absurd h (Nat.not_lt_zero _)⟩
 case round =>
   obtain ⟨i, rfl, hi, HB, HLO⟩ := hrel
   cases gk with
   | zero =>
     obtain rfl : i = n := by omega
     go_wp2
     rw [← HR.out]
     exact ⟨by (rw [idx_none fun j q hq => HLO.out j q (by rw [← HN.out]; exact (List.getElem?_eq_some_iff.1 hq).1) hq]; rfl), HB.out⟩
   | succ gq =>
     have hin : i < n := by omega
     have hin2 : (i : Int) < (n : Int) := by omega
     have hi0 : (0 : Int) ≤ (i : Int) := by omega
     have hi9 : (i : Int) ≤ 1000000 := by omega
     obtain ⟨o, ho⟩ : ∃ o, l[i]? = some o := ⟨_, List.getElem?_eq_getElem (by rw [HN.out]; exact hin)⟩
     obtain ⟨g, c', hv, _⟩ := row_slice HRW.out (by rw [HN.out]; omega)
     obtain ⟨rfl, rfl⟩ : A = some ⟨g, 0, none⟩ ∧ c = c' := by
       injection hv with e1 e2 e3
       exact ⟨e1, e3⟩
     obtain ⟨d0, d1⟩ := (RowO.below HRW.out HB.out).cells ho
     have HO := Aside0.mk ho
     clear ho hv
     cases hpo : p o with
     | true =>
       have HPO := Aside0.mk hpo
       clear hpo
       go_wp2_with (go_at_call 57; refine (HP.out _ o (List.mem_of_getElem? HO.out) HB.out).mono ?_; rw [HPO.out]; rintro E w2 ⟨rfl, hb⟩; have HB2 := Aside0.mk (HB.out.trans (hb.mono HB.out.size)); clear hb d0 d1)
       rw [← HR.out]
       exact ⟨by (rw [idx_at HO.out HPO.out HLO.out]; rfl), HB2.out⟩
     | false =>
       have HPO := Aside0.mk hpo
       clear hpo
       go_wp2_with (go_at_call 57; refine (HP.out _ o (List.mem_of_getElem? HO.out) HB.out).mono ?_; rw [HPO.out]; rintro E w2 ⟨rfl, hb⟩; have HB2 := Aside0.mk (HB.out.trans (hb.mono HB.out.size)); clear hb d0 d1)
       go_roundg gq
       case measure => omega
       case rel =>
         refine ⟨i + 1, by go_num, by omega, HB2, Aside0.mk fun j q hj hq => ?_⟩
         by_cases e : j = i
         · subst e
           rw [HO.out] at hq
           rw [← Option.some.inj hq]
           exact HPO.out
         · exact HLO.out j q (by omega) hq
set_option maxHeartbeats 2000000 in
theorem idx49 (w : World) (v : Value) (l : List One) (cp : Value) (p : One → Bool) (hr : RowO w v l) (hn : l.length < 1000000)
   (hp : ∀ (W : World) (o : One), o ∈ l → Below w.heap.size w W → Calls Tryz.prog 69 #[.agg #[.int .i64 o.1, .int .i64 o.2], cp] W fun E w' => E = .returned (.bool (p o)) ∧ Below W.heap.size W w') :
   Calls Tryz.prog 56 #[v, .func (.func 69) #[] #[cp]] w fun E w' => E = .returned (.int .i64 (idxI l p)) ∧ Below w.heap.size w w' := by
 obtain ⟨R, hR⟩ : ∃ R, (fun E w' => E = Ending.returned (.int .i64 (idxI l p)) ∧ Below w.heap.size w w') = R := ⟨_, rfl⟩
 have HR := Aside0.mk hR
 rw [hR]
 have hu66 := Tryz.underlying63
 obtain ⟨A, c, rfl⟩ : ∃ A c, v = .slice A l.length c := by
   rcases hr.2.2 with ⟨rfl, h0⟩ | ⟨g, c, cur, rfl, _⟩
   · exact ⟨_, _, by rw [h0]⟩
   · exact ⟨_, _, rfl⟩
 obtain ⟨n, hnn⟩ : ∃ n, l.length = n := ⟨_, rfl⟩
 rw [hnn] at hr hn ⊢
 have HRW := Aside0.mk hr
 have HN := Aside0.mk hnn
 have HP := Aside0.mk hp
 clear hR hr hnn hp
 go_enter Tryz.func56, Tryz.ntmps56
 go_wp2
 go_loopg [8] n (fun gq v8 wx => ∃ i : Nat, v8 = .int .i64 i ∧ i + gq = n ∧ Aside0 (Below w.heap.size w wx) ∧ Aside0 (∀ (j : Nat) (q : One), j < i → l[j]? = some q → p q = false))
 case atStart => exact ⟨0, rfl, by omega, Aside0.mk (Below.refl _ w), Aside0.mk fun j q h => absurd h (Nat.not_lt_zero _)⟩
 case round =>
   obtain ⟨i, rfl, hi, HB, HLO⟩ := hrel
   cases gk with
   | zero =>
     obtain rfl : i = n := by omega
     go_wp2
     rw [← HR.out]
     exact ⟨by (rw [idx_none fun j q hq => HLO.out j q (by rw [← HN.out]; exact (List.getElem?_eq_some_iff.1 hq).1) hq]; rfl), HB.out⟩
   | succ gq =>
     have hin : i < n := by omega
     have hin2 : (i : Int) < (n : Int) := by omega
     have hi0 : (0 : Int) ≤ (i : Int) := by omega
     have hi9 : (i : Int) ≤ 1000000 := by omega
     obtain ⟨o, ho⟩ : ∃ o, l[i]? = some o := ⟨_, List.getElem?_eq_getElem (by rw [HN.out]; exact hin)⟩
     obtain ⟨g, c', hv, _⟩ := row_slice HRW.out (by rw [HN.out]; omega)
     obtain ⟨rfl, rfl⟩ : A = some ⟨g, 0, none⟩ ∧ c = c' := by
       injection hv with e1 e2 e3
       exact ⟨e1, e3⟩
     obtain ⟨d0, d1⟩ := (RowO.below HRW.out HB.out).cells ho
     have HO := Aside0.mk ho
     clear ho hv
     cases hpo : p o with
     | true =>
       have HPO := Aside0.mk hpo
       clear hpo
       go_wp2_with (go_at_call 69; refine (HP.out _ o (List.mem_of_getElem? HO.out) HB.out).mono ?_; rw [HPO.out]; rintro E w2 ⟨rfl, hb⟩; have HB2 := Aside0.mk (HB.out.trans (hb.mono HB.out.size)); clear hb d0 d1)
       rw [← HR.out]
       exact ⟨by (rw [idx_at HO.out HPO.out HLO.out]; rfl), HB2.out⟩
     | false =>
       have HPO := Aside0.mk hpo
       clear hpo
       go_wp2_with (go_at_call 69; refine (HP.out _ o (List.mem_of_getElem? HO.out) HB.out).mono ?_; rw [HPO.out]; rintro E w2 ⟨rfl, hb⟩; have HB2 := Aside0.mk (HB.out.trans (hb.mono HB.out.size)); clear hb d0 d1)
       go_roundg gq
       case measure => omega
       case rel =>
         refine ⟨i + 1, by go_num, by omega, HB2, Aside0.mk fun j q hj hq => ?_⟩
         by_cases e : j = i
         · subst e
           rw [HO.out] at hq
           rw [← Option.some.inj hq]
           exact HPO.out
         · exact HLO.out j q (by omega) hq
set_option maxHeartbeats 2000000 in
theorem idx65 (w : World) (v : Value) (l : List One) (cp : Value) (p : One → Bool) (hr : RowO w v l) (hn : l.length < 1000000)
   (hp : ∀ (W : World) (o : One), o ∈ l → Below w.heap.size w W → Calls Tryz.prog 76 #[.agg #[.int .i64 o.1, .int .i64 o.2], cp] W fun E w' => E = .returned (.bool (p o)) ∧ Below W.heap.size W w') :
   Calls Tryz.prog 56 #[v, .func (.func 76) #[] #[cp]] w fun E w' => E = .returned (.int .i64 (idxI l p)) ∧ Below w.heap.size w w' := by
 obtain ⟨R, hR⟩ : ∃ R, (fun E w' => E = Ending.returned (.int .i64 (idxI l p)) ∧ Below w.heap.size w w') = R := ⟨_, rfl⟩
 have HR := Aside0.mk hR
 rw [hR]
 have hu66 := Tryz.underlying63
 obtain ⟨A, c, rfl⟩ : ∃ A c, v = .slice A l.length c := by
   rcases hr.2.2 with ⟨rfl, h0⟩ | ⟨g, c, cur, rfl, _⟩
   · exact ⟨_, _, by rw [h0]⟩
   · exact ⟨_, _, rfl⟩
 obtain ⟨n, hnn⟩ : ∃ n, l.length = n := ⟨_, rfl⟩
 rw [hnn] at hr hn ⊢
 have HRW := Aside0.mk hr
 have HN := Aside0.mk hnn
 have HP := Aside0.mk hp
 clear hR hr hnn hp
 go_enter Tryz.func56, Tryz.ntmps56
 go_wp2
 go_loopg [8] n (fun gq v8 wx => ∃ i : Nat, v8 = .int .i64 i ∧ i + gq = n ∧ Aside0 (Below w.heap.size w wx) ∧ Aside0 (∀ (j : Nat) (q : One), j < i → l[j]? = some q → p q = false))
 case atStart => exact ⟨0, rfl, by omega, Aside0.mk (Below.refl _ w), Aside0.mk fun j q h => absurd h (Nat.not_lt_zero _)⟩
 case round =>
   obtain ⟨i, rfl, hi, HB, HLO⟩ := hrel
   cases gk with
   | zero =>
     obtain rfl : i = n := by omega
     go_wp2
     rw [← HR.out]
     exact ⟨by (rw [idx_none fun j q hq => HLO.out j q (by rw [← HN.out]; exact (List.getElem?_eq_some_iff.1 hq).1) hq]; rfl), HB.out⟩
   | succ gq =>
     have hin : i < n := by omega
     have hin2 : (i : Int) < (n : Int) := by omega
     have hi0 : (0 : Int) ≤ (i : Int) := by omega
     have hi9 : (i : Int) ≤ 1000000 := by omega
     obtain ⟨o, ho⟩ : ∃ o, l[i]? = some o := ⟨_, List.getElem?_eq_getElem (by rw [HN.out]; exact hin)⟩
     obtain ⟨g, c', hv, _⟩ := row_slice HRW.out (by rw [HN.out]; omega)
     obtain ⟨rfl, rfl⟩ : A = some ⟨g, 0, none⟩ ∧ c = c' := by
       injection hv with e1 e2 e3
       exact ⟨e1, e3⟩
     obtain ⟨d0, d1⟩ := (RowO.below HRW.out HB.out).cells ho
     have HO := Aside0.mk ho
     clear ho hv
     cases hpo : p o with
     | true =>
       have HPO := Aside0.mk hpo
       clear hpo
       go_wp2_with (go_at_call 76; refine (HP.out _ o (List.mem_of_getElem? HO.out) HB.out).mono ?_; rw [HPO.out]; rintro E w2 ⟨rfl, hb⟩; have HB2 := Aside0.mk (HB.out.trans (hb.mono HB.out.size)); clear hb d0 d1)
       rw [← HR.out]
       exact ⟨by (rw [idx_at HO.out HPO.out HLO.out]; rfl), HB2.out⟩
     | false =>
       have HPO := Aside0.mk hpo
       clear hpo
       go_wp2_with (go_at_call 76; refine (HP.out _ o (List.mem_of_getElem? HO.out) HB.out).mono ?_; rw [HPO.out]; rintro E w2 ⟨rfl, hb⟩; have HB2 := Aside0.mk (HB.out.trans (hb.mono HB.out.size)); clear hb d0 d1)
       go_roundg gq
       case measure => omega
       case rel =>
         refine ⟨i + 1, by go_num, by omega, HB2, Aside0.mk fun j q hj hq => ?_⟩
         by_cases e : j = i
         · subst e
           rw [HO.out] at hq
           rw [← Option.some.inj hq]
           exact HPO.out
         · exact HLO.out j q (by omega) hq
set_option maxHeartbeats 2000000 in
theorem idx57 (w : World) (v : Value) (l : List One) (cp : Value) (p : One → Bool) (hr : RowO w v l) (hn : l.length < 1000000)
   (hp : ∀ (W : World) (o : One), o ∈ l → Below w.heap.size w W → Calls Tryz.prog 60 #[.agg #[.int .i64 o.1, .int .i64 o.2], cp] W fun E w' => E = .returned (.bool (p o)) ∧ Below W.heap.size W w') :
   Calls Tryz.prog 56 #[v, .func (.func 60) #[] #[cp]] w fun E w' => E = .returned (.int .i64 (idxI l p)) ∧ Below w.heap.size w w' := by
 obtain ⟨R, hR⟩ : ∃ R, (fun E w' => E = Ending.returned (.int .i64 (idxI l p)) ∧ Below w.heap.size w w') = R := ⟨_, rfl⟩
 have HR := Aside0.mk hR
 rw [hR]
 have hu66 := Tryz.underlying63
 obtain ⟨A, c, rfl⟩ : ∃ A c, v = .slice A l.length c := by
   rcases hr.2.2 with ⟨rfl, h0⟩ | ⟨g, c, cur, rfl, _⟩
   · exact ⟨_, _, by rw [h0]⟩
   · exact ⟨_, _, rfl⟩
 obtain ⟨n, hnn⟩ : ∃ n, l.length = n := ⟨_, rfl⟩
 rw [hnn] at hr hn ⊢
 have HRW := Aside0.mk hr
 have HN := Aside0.mk hnn
 have HP := Aside0.mk hp
 clear hR hr hnn hp
 go_enter Tryz.func56, Tryz.ntmps56
 go_wp2
 go_loopg [8] n (fun gq v8 wx => ∃ i : Nat, v8 = .int .i64 i ∧ i + gq = n ∧ Aside0 (Below w.heap.size w wx) ∧ Aside0 (∀ (j : Nat) (q : One), j < i → l[j]? = some q → p q = false))
 case atStart => exact ⟨0, rfl, by omega, Aside0.mk (Below.refl _ w), Aside0.mk fun j q h => absurd h (Nat.not_lt_zero _)⟩
 case round =>
   obtain ⟨i, rfl, hi, HB, HLO⟩ := hrel
   cases gk with
   | zero =>
     obtain rfl : i = n := by omega
     go_wp2
     rw [← HR.out]
     exact ⟨by (rw [idx_none fun j q hq => HLO.out j q (by rw [← HN.out]; exact (List.getElem?_eq_some_iff.1 hq).1) hq]; rfl), HB.out⟩
   | succ gq =>
     have hin : i < n := by omega
     have hin2 : (i : Int) < (n : Int) := by omega
     have hi0 : (0 : Int) ≤ (i : Int) := by omega
     have hi9 : (i : Int) ≤ 1000000 := by omega
     obtain ⟨o, ho⟩ : ∃ o, l[i]? = some o := ⟨_, List.getElem?_eq_getElem (by rw [HN.out]; exact hin)⟩
     obtain ⟨g, c', hv, _⟩ := row_slice HRW.out (by rw [HN.out]; omega)
     obtain ⟨rfl, rfl⟩ : A = some ⟨g, 0, none⟩ ∧ c = c' := by
       injection hv with e1 e2 e3
       exact ⟨e1, e3⟩
     obtain ⟨d0, d1⟩ := (RowO.below HRW.out HB.out).cells ho
     have HO := Aside0.mk ho
     clear ho hv
     cases hpo : p o with
     | true =>
       have HPO := Aside0.mk hpo
       clear hpo
       go_wp2_with (go_at_call 60; refine (HP.out _ o (List.mem_of_getElem? HO.out) HB.out).mono ?_; rw [HPO.out]; rintro E w2 ⟨rfl, hb⟩; have HB2 := Aside0.mk (HB.out.trans (hb.mono HB.out.size)); clear hb d0 d1)
       rw [← HR.out]
       exact ⟨by (rw [idx_at HO.out HPO.out HLO.out]; rfl), HB2.out⟩
     | false =>
       have HPO := Aside0.mk hpo
       clear hpo
       go_wp2_with (go_at_call 60; refine (HP.out _ o (List.mem_of_getElem? HO.out) HB.out).mono ?_; rw [HPO.out]; rintro E w2 ⟨rfl, hb⟩; have HB2 := Aside0.mk (HB.out.trans (hb.mono HB.out.size)); clear hb d0 d1)
       go_roundg gq
       case measure => omega
       case rel =>
         refine ⟨i + 1, by go_num, by omega, HB2, Aside0.mk fun j q hj hq => ?_⟩
         by_cases e : j = i
         · subst e
           rw [HO.out] at hq
           rw [← Option.some.inj hq]
           exact HPO.out
         · exact HLO.out j q (by omega) hq
end Go.Proofs.Kb
end
section
namespace Go.Proofs.YtkcjcdkmdooofaaGreat.Q
open Go.RowKit Go.Proofs.YtkcjcdkmdooofaaGreatW.PrintWords Go.Proofs.YtkcjcdkmdooofaaGreatW.PrintLast Go.Proofs.YtkcjcdkmdooofaaGreatW.PrintMore
attribute [local go_sem] max2_int min2_int max_two min_two max_three min_three max_four min_four
def modes_Right.f (a0 : Int) : Option (Bool) := if a0 ≥ 1 then (some (decide (a0 ≤ 8))) else (some false)
set_option maxHeartbeats 8000000 in
set_option maxRecDepth 100000 in
theorem modes_Right.calls (a0 : Int) (r : Bool) (w : World) (h : modes_Right.f a0 = some r) :
   Calls Tryz.prog 27 #[.int .i64 a0] w fun e w' => e = .returned (.bool r) ∧ Drawn0 w w' := by
 have H : (if a0 ≥ 1 then (some (decide (a0 ≤ 8))) else (some false)) = some r := h
 clear h
 by_cases c2 : a0 ≥ 1
 · rw [if_pos c2] at H
   have c2b0 : decide (1 ≤ a0) = true := decide_eq_true c2
   clear c2
   obtain rfl := Option.some.inj H
   go_enter Tryz.func27, Tryz.ntmps27
   go_wp2
   go_ret
   exact ⟨by first | rfl | (simp; done) | (simp [*]; done), by repeat (first | exact Drawn0.refl _ | apply Drawn0.step)⟩
 · rw [if_neg c2] at H
   have c2b0 : decide (1 ≤ a0) = false := decide_eq_false c2
   clear c2
   obtain rfl := Option.some.inj H
   go_enter Tryz.func27, Tryz.ntmps27
   go_wp2
   go_ret
   exact ⟨by first | rfl | (simp; done) | (simp [*]; done), by repeat (first | exact Drawn0.refl _ | apply Drawn0.step)⟩
end Go.Proofs.YtkcjcdkmdooofaaGreat.Q
end
section
namespace Go.Proofs.YtkcjcdkmdooofaaGreat.Q
open Go.RowKit Go.Proofs.YtkcjcdkmdooofaaGreatW.PrintWords Go.Proofs.YtkcjcdkmdooofaaGreatW.PrintLast Go.Proofs.YtkcjcdkmdooofaaGreatW.PrintMore
attribute [local go_sem] max2_int min2_int max_two min_two max_three min_three max_four min_four
def modes_of.l0 : Nat → Int → List Int → Int → Int → Option (Int)
 | 0, _, _, _, _ => none
 | k + 1, x3, x6, x7, x8 => if x8 < x7 then (if 0 ≤ x8 then (if x8 < (x6.length : Int) then (if 0 ≤ (rd x6 x8) then (modes_of.l0 k (Go.bits .or .u16 x3 (shl .u16 1 (rd x6 x8))) x6 x7 (wrap64 (x8 + 1))) else (none)) else (none)) else (none)) else (some x3)
def modes_of.f (k : Nat) (l0 : List Int) : Option (Int) := modes_of.l0 k 0 l0 (l0.length : Int) 0
theorem modes_of.mono_l : ∀ k, (∀ y0 y1 y2 y3, LeO (modes_of.l0 k y0 y1 y2 y3) (modes_of.l0 (k + 1) y0 y1 y2 y3))
 | 0 => fun _ _ _ _ r h => by simp [modes_of.l0] at h
 | k + 1 => by
   have ih0 := modes_of.mono_l k
   · intro y0 y1 y2 y3
     unfold modes_of.l0
     repeat' first
     | (with_reducible exact ih0 _ _ _ _)
     | (with_reducible exact LeO.refl _)
     | (with_reducible exact LeO.none _)
     | (with_reducible refine LeO.ite ?_ ?_)
     | (with_reducible refine LeO.bind ?_ (fun _ => ?_))
     | exact ih0 _ _ _ _
     | exact LeO.none _
     | refine LeO.ite ?_ ?_
     | refine LeO.bind ?_ (fun _ => ?_)
theorem modes_of.mono : ∀ a0 k, LeO (modes_of.f k a0) (modes_of.f (k + 1) a0) := by
 intro a0 k
 have ih0 := modes_of.mono_l k
 unfold modes_of.f
 repeat' first
     | (with_reducible exact ih0 _ _ _ _)
     | (with_reducible exact LeO.refl _)
     | (with_reducible exact LeO.none _)
     | (with_reducible refine LeO.ite ?_ ?_)
     | (with_reducible refine LeO.bind ?_ (fun _ => ?_))
     | exact ih0 _ _ _ _
     | exact LeO.none _
     | refine LeO.ite ?_ ?_
     | refine LeO.bind ?_ (fun _ => ?_)
set_option maxHeartbeats 8000000 in
set_option maxRecDepth 100000 in
theorem modes_of.calls (k : Nat) (A0 : Option Addr) (c0 : Nat) (l0 : List Int) (r : Int) (w : World) (hr0 : Kd.C (Kd.int .i64) w A0 l0.length l0) (hc0 : l0.length ≤ c0) (h : modes_of.f k l0 = some r) :
   Calls Tryz.prog 79 #[.slice A0 l0.length c0] w fun e w' => e = .returned (.int .u16 r) ∧ Drawn0 w w' := by
 have HR0 := Aside0.mk hr0
 have HC0 := Aside0.mk hc0
 clear hr0 hc0
 have H : (modes_of.l0 k 0 l0 (l0.length : Int) 0) = some r := h
 clear h
 have H' := Aside0.mk H
 clear H
 go_enter Tryz.func79, Tryz.ntmps79
 go_wp2
 go_loopg [3, 8] k (fun kq v3 v8 w' => ∃ (x3_1 : Int) (x8_1 : Int), v3 = .int .u16 x3_1 ∧ v8 = .int .i64 x8_1 ∧ Aside0 (modes_of.l0 kq x3_1 l0 (l0.length : Int) x8_1 = some r) ∧ Aside0 (kq ≤ k) ∧ Drawn0 w w')
 case atStart => exact ⟨(0), (0), (by first | rfl | (simp; done) | (simp [*]; done)), (by first | rfl | (simp; done) | (simp [*]; done)), H', ⟨Nat.le_refl _⟩, by repeat (first | exact Drawn0.refl _ | apply Drawn0.step)⟩
 case round =>
   clear H'
   obtain ⟨x3_1, x8_1, rfl, rfl, HA, HK1, ⟨m1, rfl⟩⟩ := hrel
   cases gk with
   | zero => exact absurd HA.out (by simp [modes_of.l0])
   | succ k1 =>
     have H := HA.out
     clear HA
     simp only [modes_of.l0] at H
     by_cases c2 : x8_1 < (l0.length : Int)
     · rw [if_pos c2] at H
       have c2b0 : decide (x8_1 < (l0.length : Int)) = true := decide_eq_true c2
       clear c2
       by_cases c3 : 0 ≤ x8_1
       · rw [if_pos c3] at H
         have c3b0 : decide (0 ≤ x8_1) = true := decide_eq_true c3
         clear c3
         by_cases c4 : x8_1 < (l0.length : Int)
         · rw [if_pos c4] at H
           have c4b0 : decide (x8_1 < (l0.length : Int)) = true := decide_eq_true c4
           clear c4
           by_cases c5 : 0 ≤ (rd l0 x8_1)
           · rw [if_pos c5] at H
             have c5b0 := eq_true c5
             have c5b1 : decide (0 ≤ (rd l0 x8_1)) = true := decide_eq_true c5
             clear c5
             obtain ⟨ji6, hji6⟩ : ∃ j_ : Int, (shl .u16 1 (rd l0 x8_1)) = j_ := ⟨_, rfl⟩
             replace H : (modes_of.l0 k1 (Go.bits .or .u16 x3_1 (ji6)) l0 (l0.length : Int) (wrap64 (x8_1 + 1))) = some r := by first | (rw [hji6] at H; exact H) | (simp only [hji6] at H ⊢; exact H)
             have hji6_ : (IntKind.u16.wrap (1 * 2 ^ min (rd l0 x8_1).toNat 16)) = ji6 := hji6
             have hji6z : (rd l0 x8_1) ≤ 16 → (IntKind.u16.wrap (1 * 2 ^ (rd l0 x8_1).toNat)) = ji6 := shl_small hji6
             have hji6u : (IntKind.u16.wrap (2 ^ min (rd l0 x8_1).toNat 16)) = ji6 := by have h_ := hji6_; rw [Int.one_mul] at h_; exact h_
             have hji6v : (rd l0 x8_1) ≤ 16 → (IntKind.u16.wrap (2 ^ (rd l0 x8_1).toNat)) = ji6 := fun hle_ => by have h_ := hji6z hle_; rw [Int.one_mul] at h_; exact h_
             have H' := Aside0.mk H
             clear H
             have p102 : 0 ≤ (x8_1 : Int) := of_decide_eq_true (by first | (with_reducible assumption) | assumption)
             have q102 : x8_1 < (l0.length : Int) := of_decide_eq_true (by first | (with_reducible assumption) | assumption)
             obtain ⟨ad102, e102, hx102_0⟩ := Kd.at_int HR0.out x8_1 p102 q102
             cases e102
             replace p102 := eq_true p102
             replace q102 := eq_true q102
             go_wp2
             go_roundg k1
             case measure => have := HK1.out; omega
             case rel => exact ⟨(Go.bits .or .u16 x3_1 (ji6)), (wrap64 (x8_1 + 1)), (by first | rfl | (simp; done) | (simp only [← hji6] <;> (first | rfl | simp)) | (simp [*]; done)), (by first | rfl | (simp; done) | (simp [*]; done)), H', ⟨by have := HK1.out; omega⟩, by repeat (first | exact Drawn0.refl _ | apply Drawn0.step)⟩
           · rw [if_neg c5] at H
             exact absurd H (by simp)
         · rw [if_neg c4] at H
           exact absurd H (by simp)
       · rw [if_neg c3] at H
         exact absurd H (by simp)
     · rw [if_neg c2] at H
       have c2b0 : decide (x8_1 < (l0.length : Int)) = false := decide_eq_false c2
       clear c2
       obtain rfl := Option.some.inj H
       go_wp2
       go_ret
       exact ⟨by first | rfl | (simp; done) | (simp [*]; done), by repeat (first | exact Drawn0.refl _ | apply Drawn0.step)⟩
end Go.Proofs.YtkcjcdkmdooofaaGreat.Q
end
section
namespace Go.Proofs.YtkcjcdkmdooofaaGreat.Q
open Go.RowKit Go.Proofs.YtkcjcdkmdooofaaGreatW.PrintWords Go.Proofs.YtkcjcdkmdooofaaGreatW.PrintLast Go.Proofs.YtkcjcdkmdooofaaGreatW.PrintMore
attribute [local go_sem] max2_int min2_int max_two min_two max_three min_three max_four min_four
def modes_conflicts.f (k : Nat) (a0 : Int) : Option (Int) := (modes_of.f k (([6, 8] : List Int))).bind fun t106 => (if a0 = 1 then (some t106) else (if a0 = 2 then ((modes_of.f k (([3, 5] : List Int))).bind fun t110 => (some (Go.bits .or .u16 t106 t110))) else (if a0 = 3 then ((modes_of.f k (([2, 5] : List Int))).bind fun t114 => (some (Go.bits .or .u16 t106 t114))) else (if a0 = 4 then ((modes_of.f k (([4] : List Int))).bind fun t118 => (some (Go.bits .or .u16 t106 t118))) else (if a0 = 5 then ((modes_of.f k (([2, 3, 5] : List Int))).bind fun t122 => (some (Go.bits .or .u16 t106 t122))) else (if a0 = 6 then ((modes_of.f k (([1, 2, 3, 4, 5] : List Int))).bind fun t126 => (some (Go.bits .or .u16 t106 t126))) else (if a0 = 7 then ((modes_of.f k (([8] : List Int))).bind fun t130 => (some t130)) else (if a0 = 8 then ((modes_of.f k (([1, 2, 3, 4, 5, 7] : List Int))).bind fun t134 => (some (Go.bits .or .u16 t106 t134))) else (some 0)))))))))
theorem modes_conflicts.mono : ∀ a0 k, LeO (modes_conflicts.f k a0) (modes_conflicts.f (k + 1) a0) := by
 intro a0 k
 unfold modes_conflicts.f
 repeat' first
     | (with_reducible exact modes_of.mono _ _)
     | (with_reducible exact LeO.refl _)
     | (with_reducible exact LeO.none _)
     | (with_reducible refine LeO.ite ?_ ?_)
     | (with_reducible refine LeO.bind ?_ (fun _ => ?_))
     | exact modes_of.mono _ _
     | exact LeO.none _
     | refine LeO.ite ?_ ?_
     | refine LeO.bind ?_ (fun _ => ?_)
set_option maxHeartbeats 8000000 in
set_option maxRecDepth 100000 in
theorem modes_conflicts.calls (k : Nat) (a0 : Int) (r : Int) (w : World) (h : modes_conflicts.f k a0 = some r) :
   Calls Tryz.prog 58 #[.int .i64 a0] w fun e w' => e = .returned (.int .u16 r) ∧ Below w.heap.size w w' := by
 have HB := Aside0.mk (Below.refl w.heap.size w)
 have H : ((modes_of.f k (([6, 8] : List Int))).bind fun t106 => (if a0 = 1 then (some t106) else (if a0 = 2 then ((modes_of.f k (([3, 5] : List Int))).bind fun t110 => (some (Go.bits .or .u16 t106 t110))) else (if a0 = 3 then ((modes_of.f k (([2, 5] : List Int))).bind fun t114 => (some (Go.bits .or .u16 t106 t114))) else (if a0 = 4 then ((modes_of.f k (([4] : List Int))).bind fun t118 => (some (Go.bits .or .u16 t106 t118))) else (if a0 = 5 then ((modes_of.f k (([2, 3, 5] : List Int))).bind fun t122 => (some (Go.bits .or .u16 t106 t122))) else (if a0 = 6 then ((modes_of.f k (([1, 2, 3, 4, 5] : List Int))).bind fun t126 => (some (Go.bits .or .u16 t106 t126))) else (if a0 = 7 then ((modes_of.f k (([8] : List Int))).bind fun t130 => (some t130)) else (if a0 = 8 then ((modes_of.f k (([1, 2, 3, 4, 5, 7] : List Int))).bind fun t134 => (some (Go.bits .or .u16 t106 t134))) else (some 0)))))))))) = some r := h
 clear h
 obtain ⟨y103, hy103⟩ : ∃ y_ : List Int, y_ = (([6, 8] : List Int)) := ⟨_, rfl⟩
 replace H : ((modes_of.f k y103).bind fun t106 => (if a0 = 1 then (some t106) else (if a0 = 2 then ((modes_of.f k (([3, 5] : List Int))).bind fun t110 => (some (Go.bits .or .u16 t106 t110))) else (if a0 = 3 then ((modes_of.f k (([2, 5] : List Int))).bind fun t114 => (some (Go.bits .or .u16 t106 t114))) else (if a0 = 4 then ((modes_of.f k (([4] : List Int))).bind fun t118 => (some (Go.bits .or .u16 t106 t118))) else (if a0 = 5 then ((modes_of.f k (([2, 3, 5] : List Int))).bind fun t122 => (some (Go.bits .or .u16 t106 t122))) else (if a0 = 6 then ((modes_of.f k (([1, 2, 3, 4, 5] : List Int))).bind fun t126 => (some (Go.bits .or .u16 t106 t126))) else (if a0 = 7 then ((modes_of.f k (([8] : List Int))).bind fun t130 => (some t130)) else (if a0 = 8 then ((modes_of.f k (([1, 2, 3, 4, 5, 7] : List Int))).bind fun t134 => (some (Go.bits .or .u16 t106 t134))) else (some 0)))))))))) = some r := by first | (rw [hy103]; with_reducible exact H) | (have H2_ := (Option.bind_some _ _).symm.trans H; rw [hy103]; with_reducible exact H2_) | (have H2_ := (Option.bind_some _ _).symm.trans H; with_reducible exact H2_) | with_reducible exact H | (rw [hy103]; exact H) | exact H
 have Ny103 := Aside0.mk hy103
 clear hy103
 replace H := Option.bind_eq_some_iff.mp H
 obtain ⟨t106, A20, H⟩ := H
 replace H : (if a0 = 1 then (some t106) else (if a0 = 2 then ((modes_of.f k (([3, 5] : List Int))).bind fun t110 => (some (Go.bits .or .u16 t106 t110))) else (if a0 = 3 then ((modes_of.f k (([2, 5] : List Int))).bind fun t114 => (some (Go.bits .or .u16 t106 t114))) else (if a0 = 4 then ((modes_of.f k (([4] : List Int))).bind fun t118 => (some (Go.bits .or .u16 t106 t118))) else (if a0 = 5 then ((modes_of.f k (([2, 3, 5] : List Int))).bind fun t122 => (some (Go.bits .or .u16 t106 t122))) else (if a0 = 6 then ((modes_of.f k (([1, 2, 3, 4, 5] : List Int))).bind fun t126 => (some (Go.bits .or .u16 t106 t126))) else (if a0 = 7 then ((modes_of.f k (([8] : List Int))).bind fun t130 => (some t130)) else (if a0 = 8 then ((modes_of.f k (([1, 2, 3, 4, 5, 7] : List Int))).bind fun t134 => (some (Go.bits .or .u16 t106 t134))) else (some 0))))))))) = some r := H
 have A2 := Aside0.mk A20
 clear A20
 by_cases c3 : a0 = 1
 · rw [if_pos c3] at H
   have c3b0 : (a0 == 1) = true := beq_iff_eq.mpr c3
   have c3b1 : (a0 != 1) = false := bne_eq_false_iff_eq.mpr c3
   clear c3
   obtain rfl := Option.some.inj H
   go_enter Tryz.func58, Tryz.ntmps58
   go_wp2_with (first | ((with_reducible refine gate_dst (N := 4) rfl ?_); refine Kd.R_lit (Kd.int .i64) _ 3 ?hg (N := 4) ?hd (xs := ([6, 8] : List Int)) (inner := [.int .i64 6, .int .i64 8]) (ok := fun _ => True) (okp := fun _ => True) ?hr ?hp (fun _ hk => hk) trivial (Below.refl _ _) (Nat.le_refl _) (by simp) ?_; (case hd => rfl); (case hg => rfl); (case hr => first | (go_simp; done) | (go_simp; rfl)); (case hp => exact (Reps.one (show Kd.M (Kd.int .i64) _ _ _ 6 [.int .i64 6] from rfl) (Reps.one (show Kd.M (Kd.int .i64) _ _ _ 8 [.int .i64 8] from rfl) (Reps.none _ _)))); intro v104 w4 ho5 hb hg_ hnew_; clear hg_ hnew_; (first | rw [← Ny103.out] at ho5 | (simp only [Int.reduceToNat] at ho5; rw [← Ny103.out] at ho5)); have n0_ := Aside0.mk (Kd.R_lower ho5 (below_size (by repeat (first | (with_reducible first | exact HB.out | apply below_alloc | apply pw_below_drewN | apply below_drew1) | exact HB.out)))); have n1_ := Aside0.mk (below_step (by repeat (first | (with_reducible first | exact HB.out | apply below_alloc | apply pw_below_drewN | apply below_drew1) | exact HB.out)) hb); clear HB; have HO105 := n0_; have HB := n1_; clear n0_ n1_; clear hb ho5; obtain ⟨Ao6, co6, eo6⟩ := Kd.R_slice HO105.out; subst eo6) | ((with_reducible refine gate_callee (f := 79) rfl ?_); refine goesL_ (some 5) rfl rfl Tryz.func79 (by kernel_rfl) rfl #[.slice Ao6 y103.length co6] rfl (by (try simp only [List.map_toArray, List.map_cons, List.map_nil]); first | done | rfl | (simp only [List.length_drop, List.length_take]; rfl)) ?_; (with_reducible refine (modes_of.calls k _ _ y103 t106 _ ?side1 ?side2 A2.out).mono ?_); (case side1 => repeat (first | exact (Kd.R_reads' HO105.out).2.2 | (with_reducible refine Kd.C_alloc ?_ _) | (with_reducible refine Kd.C_drewN ?_ _) | (with_reducible refine Kd.C_drew ?_))); (case side2 => exact (Kd.R_reads' HO105.out).2.1); rintro e w' ⟨rfl, ⟨nd, rfl⟩⟩; refine ⟨_, rfl, ?_⟩))
   go_ret
   exact ⟨by first | rfl | (simp [errW_none, errW_some] <;> rfl) | (simp [*, errW_none, errW_some] <;> rfl), by repeat (first | (with_reducible first | exact HB.out | apply below_alloc | apply pw_below_drewN | apply below_drew1) | exact HB.out)⟩
 · rw [if_neg c3] at H
   have c3b0 : (a0 == 1) = false := beq_eq_false_iff_ne.mpr c3
   have c3b1 : (a0 != 1) = true := bne_iff_ne.mpr c3
   by_cases c7 : a0 = 2
   · rw [if_pos c7] at H
     have c7b0 : (a0 == 2) = true := beq_iff_eq.mpr c7
     have c7b1 : (a0 != 2) = false := bne_eq_false_iff_eq.mpr c7
     clear c7
     obtain ⟨y107, hy107⟩ : ∃ y_ : List Int, y_ = (([3, 5] : List Int)) := ⟨_, rfl⟩
     replace H : ((modes_of.f k y107).bind fun t110 => (some (Go.bits .or .u16 t106 t110))) = some r := by first | (rw [hy107]; with_reducible exact H) | (have H2_ := (Option.bind_some _ _).symm.trans H; rw [hy107]; with_reducible exact H2_) | (have H2_ := (Option.bind_some _ _).symm.trans H; with_reducible exact H2_) | with_reducible exact H | (rw [hy107]; exact H) | exact H
     have Ny107 := Aside0.mk hy107
     clear hy107
     replace H := Option.bind_eq_some_iff.mp H
     obtain ⟨t110, A80, H⟩ := H
     replace H : (some (Go.bits .or .u16 t106 t110)) = some r := H
     have A8 := Aside0.mk A80
     clear A80
     obtain rfl := Option.some.inj H
     go_enter Tryz.func58, Tryz.ntmps58
     go_wp2_with (first | ((with_reducible refine gate_dst (N := 4) rfl ?_); refine Kd.R_lit (Kd.int .i64) _ 3 ?hg (N := 4) ?hd (xs := ([6, 8] : List Int)) (inner := [.int .i64 6, .int .i64 8]) (ok := fun _ => True) (okp := fun _ => True) ?hr ?hp (fun _ hk => hk) trivial (Below.refl _ _) (Nat.le_refl _) (by simp) ?_; (case hd => rfl); (case hg => rfl); (case hr => first | (go_simp; done) | (go_simp; rfl)); (case hp => exact (Reps.one (show Kd.M (Kd.int .i64) _ _ _ 6 [.int .i64 6] from rfl) (Reps.one (show Kd.M (Kd.int .i64) _ _ _ 8 [.int .i64 8] from rfl) (Reps.none _ _)))); intro v104 w9 ho10 hb hg_ hnew_; clear hg_ hnew_; (first | rw [← Ny103.out] at ho10 | (simp only [Int.reduceToNat] at ho10; rw [← Ny103.out] at ho10)); have n0_ := Aside0.mk (Kd.R_lower ho10 (below_size (by repeat (first | (with_reducible first | exact HB.out | apply below_alloc | apply pw_below_drewN | apply below_drew1) | exact HB.out)))); have n1_ := Aside0.mk (below_step (by repeat (first | (with_reducible first | exact HB.out | apply below_alloc | apply pw_below_drewN | apply below_drew1) | exact HB.out)) hb); clear HB; have HO105 := n0_; have HB := n1_; clear n0_ n1_; clear hb ho10; obtain ⟨Ao11, co11, eo11⟩ := Kd.R_slice HO105.out; subst eo11) | ((with_reducible refine gate_callee (f := 79) rfl ?_); refine goesL_ (some 5) rfl rfl Tryz.func79 (by kernel_rfl) rfl #[.slice Ao11 y103.length co11] rfl (by (try simp only [List.map_toArray, List.map_cons, List.map_nil]); first | done | rfl | (simp only [List.length_drop, List.length_take]; rfl)) ?_; (with_reducible refine (modes_of.calls k _ _ y103 t106 _ ?side1 ?side2 A2.out).mono ?_); (case side1 => repeat (first | exact (Kd.R_reads' HO105.out).2.2 | (with_reducible refine Kd.C_alloc ?_ _) | (with_reducible refine Kd.C_drewN ?_ _) | (with_reducible refine Kd.C_drew ?_))); (case side2 => exact (Kd.R_reads' HO105.out).2.1); rintro e w' ⟨rfl, ⟨nd, rfl⟩⟩; refine ⟨_, rfl, ?_⟩) | ((with_reducible refine gate_dst (N := 13) rfl ?_); refine Kd.R_lit (Kd.int .i64) _ 3 ?hg (N := 13) ?hd (xs := ([3, 5] : List Int)) (inner := [.int .i64 3, .int .i64 5]) (ok := fun _ => True) (okp := fun _ => True) ?hr ?hp (fun _ hk => hk) trivial (Below.refl _ _) (Nat.le_refl _) (by simp) ?_; (case hd => rfl); (case hg => rfl); (case hr => first | (go_simp; done) | (go_simp; rfl)); (case hp => exact (Reps.one (show Kd.M (Kd.int .i64) _ _ _ 3 [.int .i64 3] from rfl) (Reps.one (show Kd.M (Kd.int .i64) _ _ _ 5 [.int .i64 5] from rfl) (Reps.none _ _)))); intro v108 w12 ho13 hb hg_ hnew_; clear hg_ hnew_; (first | rw [← Ny107.out] at ho13 | (simp only [Int.reduceToNat] at ho13; rw [← Ny107.out] at ho13)); have n0_ := Aside0.mk (Kd.R_elder' (by (with_reducible repeat (first | apply Kd.R_alloc | apply Kd.R_drewN | apply Kd.R_drew)); exact HO105.out) (Kd.R_base ho13) hb); have n1_ := Aside0.mk (Kd.R_lower (Kd.R_new' ho13 (Kd.R_lt (by (with_reducible repeat (first | apply Kd.R_alloc | apply Kd.R_drewN | apply Kd.R_drew)); exact HO105.out))) (below_size (by repeat (first | (with_reducible first | exact HB.out | apply below_alloc | apply pw_below_drewN | apply below_drew1) | exact HB.out)))); have n2_ := Aside0.mk (below_step (by repeat (first | (with_reducible first | exact HB.out | apply below_alloc | apply pw_below_drewN | apply below_drew1) | exact HB.out)) hb); clear HO105; clear HB; have HO105 := n0_; have HO109 := n1_; have HB := n2_; clear n0_ n1_ n2_; clear hb ho13; obtain ⟨Ao14, co14, eo14⟩ := Kd.R_slice HO109.out; subst eo14) | ((with_reducible refine gate_callee (f := 79) rfl ?_); refine goesL_ (some 14) rfl rfl Tryz.func79 (by kernel_rfl) rfl #[.slice Ao14 y107.length co14] rfl (by (try simp only [List.map_toArray, List.map_cons, List.map_nil]); first | done | rfl | (simp only [List.length_drop, List.length_take]; rfl)) ?_; (with_reducible refine (modes_of.calls k _ _ y107 t110 _ ?side1 ?side2 A8.out).mono ?_); (case side1 => repeat (first | exact (Kd.R_reads' HO109.out).2.2 | (with_reducible refine Kd.C_alloc ?_ _) | (with_reducible refine Kd.C_drewN ?_ _) | (with_reducible refine Kd.C_drew ?_))); (case side2 => exact (Kd.R_reads' HO109.out).2.1); rintro e w' ⟨rfl, ⟨nd, rfl⟩⟩; refine ⟨_, rfl, ?_⟩))
     go_ret
     exact ⟨by first | rfl | (simp [errW_none, errW_some] <;> rfl) | (simp [*, errW_none, errW_some] <;> rfl), by repeat (first | (with_reducible first | exact HB.out | apply below_alloc | apply pw_below_drewN | apply below_drew1) | exact HB.out)⟩
   · rw [if_neg c7] at H
     have c7b0 : (a0 == 2) = false := beq_eq_false_iff_ne.mpr c7
     have c7b1 : (a0 != 2) = true := bne_iff_ne.mpr c7
     by_cases c15 : a0 = 3
     · rw [if_pos c15] at H
       have c15b0 : (a0 == 3) = true := beq_iff_eq.mpr c15
       have c15b1 : (a0 != 3) = false := bne_eq_false_iff_eq.mpr c15
       clear c15
       obtain ⟨y111, hy111⟩ : ∃ y_ : List Int, y_ = (([2, 5] : List Int)) := ⟨_, rfl⟩
       replace H : ((modes_of.f k y111).bind fun t114 => (some (Go.bits .or .u16 t106 t114))) = some r := by first | (rw [hy111]; with_reducible exact H) | (have H2_ := (Option.bind_some _ _).symm.trans H; rw [hy111]; with_reducible exact H2_) | (have H2_ := (Option.bind_some _ _).symm.trans H; with_reducible exact H2_) | with_reducible exact H | (rw [hy111]; exact H) | exact H
       have Ny111 := Aside0.mk hy111
       clear hy111
       replace H := Option.bind_eq_some_iff.mp H
       obtain ⟨t114, A160, H⟩ := H
       replace H : (some (Go.bits .or .u16 t106 t114)) = some r := H
       have A16 := Aside0.mk A160
       clear A160
       obtain rfl := Option.some.inj H
       go_enter Tryz.func58, Tryz.ntmps58
       go_wp2_with (first | ((with_reducible refine gate_dst (N := 4) rfl ?_); refine Kd.R_lit (Kd.int .i64) _ 3 ?hg (N := 4) ?hd (xs := ([6, 8] : List Int)) (inner := [.int .i64 6, .int .i64 8]) (ok := fun _ => True) (okp := fun _ => True) ?hr ?hp (fun _ hk => hk) trivial (Below.refl _ _) (Nat.le_refl _) (by simp) ?_; (case hd => rfl); (case hg => rfl); (case hr => first | (go_simp; done) | (go_simp; rfl)); (case hp => exact (Reps.one (show Kd.M (Kd.int .i64) _ _ _ 6 [.int .i64 6] from rfl) (Reps.one (show Kd.M (Kd.int .i64) _ _ _ 8 [.int .i64 8] from rfl) (Reps.none _ _)))); intro v104 w17 ho18 hb hg_ hnew_; clear hg_ hnew_; (first | rw [← Ny103.out] at ho18 | (simp only [Int.reduceToNat] at ho18; rw [← Ny103.out] at ho18)); have n0_ := Aside0.mk (Kd.R_lower ho18 (below_size (by repeat (first | (with_reducible first | exact HB.out | apply below_alloc | apply pw_below_drewN | apply below_drew1) | exact HB.out)))); have n1_ := Aside0.mk (below_step (by repeat (first | (with_reducible first | exact HB.out | apply below_alloc | apply pw_below_drewN | apply below_drew1) | exact HB.out)) hb); clear HB; have HO105 := n0_; have HB := n1_; clear n0_ n1_; clear hb ho18; obtain ⟨Ao19, co19, eo19⟩ := Kd.R_slice HO105.out; subst eo19) | ((with_reducible refine gate_callee (f := 79) rfl ?_); refine goesL_ (some 5) rfl rfl Tryz.func79 (by kernel_rfl) rfl #[.slice Ao19 y103.length co19] rfl (by (try simp only [List.map_toArray, List.map_cons, List.map_nil]); first | done | rfl | (simp only [List.length_drop, List.length_take]; rfl)) ?_; (with_reducible refine (modes_of.calls k _ _ y103 t106 _ ?side1 ?side2 A2.out).mono ?_); (case side1 => repeat (first | exact (Kd.R_reads' HO105.out).2.2 | (with_reducible refine Kd.C_alloc ?_ _) | (with_reducible refine Kd.C_drewN ?_ _) | (with_reducible refine Kd.C_drew ?_))); (case side2 => exact (Kd.R_reads' HO105.out).2.1); rintro e w' ⟨rfl, ⟨nd, rfl⟩⟩; refine ⟨_, rfl, ?_⟩) | ((with_reducible refine gate_dst (N := 19) rfl ?_); refine Kd.R_lit (Kd.int .i64) _ 3 ?hg (N := 19) ?hd (xs := ([2, 5] : List Int)) (inner := [.int .i64 2, .int .i64 5]) (ok := fun _ => True) (okp := fun _ => True) ?hr ?hp (fun _ hk => hk) trivial (Below.refl _ _) (Nat.le_refl _) (by simp) ?_; (case hd => rfl); (case hg => rfl); (case hr => first | (go_simp; done) | (go_simp; rfl)); (case hp => exact (Reps.one (show Kd.M (Kd.int .i64) _ _ _ 2 [.int .i64 2] from rfl) (Reps.one (show Kd.M (Kd.int .i64) _ _ _ 5 [.int .i64 5] from rfl) (Reps.none _ _)))); intro v112 w20 ho21 hb hg_ hnew_; clear hg_ hnew_; (first | rw [← Ny111.out] at ho21 | (simp only [Int.reduceToNat] at ho21; rw [← Ny111.out] at ho21)); have n0_ := Aside0.mk (Kd.R_elder' (by (with_reducible repeat (first | apply Kd.R_alloc | apply Kd.R_drewN | apply Kd.R_drew)); exact HO105.out) (Kd.R_base ho21) hb); have n1_ := Aside0.mk (Kd.R_lower (Kd.R_new' ho21 (Kd.R_lt (by (with_reducible repeat (first | apply Kd.R_alloc | apply Kd.R_drewN | apply Kd.R_drew)); exact HO105.out))) (below_size (by repeat (first | (with_reducible first | exact HB.out | apply below_alloc | apply pw_below_drewN | apply below_drew1) | exact HB.out)))); have n2_ := Aside0.mk (below_step (by repeat (first | (with_reducible first | exact HB.out | apply below_alloc | apply pw_below_drewN | apply below_drew1) | exact HB.out)) hb); clear HO105; clear HB; have HO105 := n0_; have HO113 := n1_; have HB := n2_; clear n0_ n1_ n2_; clear hb ho21; obtain ⟨Ao22, co22, eo22⟩ := Kd.R_slice HO113.out; subst eo22) | ((with_reducible refine gate_callee (f := 79) rfl ?_); refine goesL_ (some 20) rfl rfl Tryz.func79 (by kernel_rfl) rfl #[.slice Ao22 y111.length co22] rfl (by (try simp only [List.map_toArray, List.map_cons, List.map_nil]); first | done | rfl | (simp only [List.length_drop, List.length_take]; rfl)) ?_; (with_reducible refine (modes_of.calls k _ _ y111 t114 _ ?side1 ?side2 A16.out).mono ?_); (case side1 => repeat (first | exact (Kd.R_reads' HO113.out).2.2 | (with_reducible refine Kd.C_alloc ?_ _) | (with_reducible refine Kd.C_drewN ?_ _) | (with_reducible refine Kd.C_drew ?_))); (case side2 => exact (Kd.R_reads' HO113.out).2.1); rintro e w' ⟨rfl, ⟨nd, rfl⟩⟩; refine ⟨_, rfl, ?_⟩))
       go_ret
       exact ⟨by first | rfl | (simp [errW_none, errW_some] <;> rfl) | (simp [*, errW_none, errW_some] <;> rfl), by repeat (first | (with_reducible first | exact HB.out | apply below_alloc | apply pw_below_drewN | apply below_drew1) | exact HB.out)⟩
     · rw [if_neg c15] at H
       have c15b0 : (a0 == 3) = false := beq_eq_false_iff_ne.mpr c15
       have c15b1 : (a0 != 3) = true := bne_iff_ne.mpr c15
       by_cases c23 : a0 = 4
       · rw [if_pos c23] at H
         have c23b0 : (a0 == 4) = true := beq_iff_eq.mpr c23
         have c23b1 : (a0 != 4) = false := bne_eq_false_iff_eq.mpr c23
         clear c23
         obtain ⟨y115, hy115⟩ : ∃ y_ : List Int, y_ = (([4] : List Int)) := ⟨_, rfl⟩
         replace H : ((modes_of.f k y115).bind fun t118 => (some (Go.bits .or .u16 t106 t118))) = some r := by first | (rw [hy115]; with_reducible exact H) | (have H2_ := (Option.bind_some _ _).symm.trans H; rw [hy115]; with_reducible exact H2_) | (have H2_ := (Option.bind_some _ _).symm.trans H; with_reducible exact H2_) | with_reducible exact H | (rw [hy115]; exact H) | exact H
         have Ny115 := Aside0.mk hy115
         clear hy115
         replace H := Option.bind_eq_some_iff.mp H
         obtain ⟨t118, A240, H⟩ := H
         replace H : (some (Go.bits .or .u16 t106 t118)) = some r := H
         have A24 := Aside0.mk A240
         clear A240
         obtain rfl := Option.some.inj H
         go_enter Tryz.func58, Tryz.ntmps58
         go_wp2_with (first | ((with_reducible refine gate_dst (N := 4) rfl ?_); refine Kd.R_lit (Kd.int .i64) _ 3 ?hg (N := 4) ?hd (xs := ([6, 8] : List Int)) (inner := [.int .i64 6, .int .i64 8]) (ok := fun _ => True) (okp := fun _ => True) ?hr ?hp (fun _ hk => hk) trivial (Below.refl _ _) (Nat.le_refl _) (by simp) ?_; (case hd => rfl); (case hg => rfl); (case hr => first | (go_simp; done) | (go_simp; rfl)); (case hp => exact (Reps.one (show Kd.M (Kd.int .i64) _ _ _ 6 [.int .i64 6] from rfl) (Reps.one (show Kd.M (Kd.int .i64) _ _ _ 8 [.int .i64 8] from rfl) (Reps.none _ _)))); intro v104 w25 ho26 hb hg_ hnew_; clear hg_ hnew_; (first | rw [← Ny103.out] at ho26 | (simp only [Int.reduceToNat] at ho26; rw [← Ny103.out] at ho26)); have n0_ := Aside0.mk (Kd.R_lower ho26 (below_size (by repeat (first | (with_reducible first | exact HB.out | apply below_alloc | apply pw_below_drewN | apply below_drew1) | exact HB.out)))); have n1_ := Aside0.mk (below_step (by repeat (first | (with_reducible first | exact HB.out | apply below_alloc | apply pw_below_drewN | apply below_drew1) | exact HB.out)) hb); clear HB; have HO105 := n0_; have HB := n1_; clear n0_ n1_; clear hb ho26; obtain ⟨Ao27, co27, eo27⟩ := Kd.R_slice HO105.out; subst eo27) | ((with_reducible refine gate_callee (f := 79) rfl ?_); refine goesL_ (some 5) rfl rfl Tryz.func79 (by kernel_rfl) rfl #[.slice Ao27 y103.length co27] rfl (by (try simp only [List.map_toArray, List.map_cons, List.map_nil]); first | done | rfl | (simp only [List.length_drop, List.length_take]; rfl)) ?_; (with_reducible refine (modes_of.calls k _ _ y103 t106 _ ?side1 ?side2 A2.out).mono ?_); (case side1 => repeat (first | exact (Kd.R_reads' HO105.out).2.2 | (with_reducible refine Kd.C_alloc ?_ _) | (with_reducible refine Kd.C_drewN ?_ _) | (with_reducible refine Kd.C_drew ?_))); (case side2 => exact (Kd.R_reads' HO105.out).2.1); rintro e w' ⟨rfl, ⟨nd, rfl⟩⟩; refine ⟨_, rfl, ?_⟩) | ((with_reducible refine gate_dst (N := 25) rfl ?_); refine Kd.R_lit (Kd.int .i64) _ 3 ?hg (N := 25) ?hd (xs := ([4] : List Int)) (inner := [.int .i64 4]) (ok := fun _ => True) (okp := fun _ => True) ?hr ?hp (fun _ hk => hk) trivial (Below.refl _ _) (Nat.le_refl _) (by simp) ?_; (case hd => rfl); (case hg => rfl); (case hr => first | (go_simp; done) | (go_simp; rfl)); (case hp => exact (Reps.one (show Kd.M (Kd.int .i64) _ _ _ 4 [.int .i64 4] from rfl) (Reps.none _ _))); intro v116 w28 ho29 hb hg_ hnew_; clear hg_ hnew_; (first | rw [← Ny115.out] at ho29 | (simp only [Int.reduceToNat] at ho29; rw [← Ny115.out] at ho29)); have n0_ := Aside0.mk (Kd.R_elder' (by (with_reducible repeat (first | apply Kd.R_alloc | apply Kd.R_drewN | apply Kd.R_drew)); exact HO105.out) (Kd.R_base ho29) hb); have n1_ := Aside0.mk (Kd.R_lower (Kd.R_new' ho29 (Kd.R_lt (by (with_reducible repeat (first | apply Kd.R_alloc | apply Kd.R_drewN | apply Kd.R_drew)); exact HO105.out))) (below_size (by repeat (first | (with_reducible first | exact HB.out | apply below_alloc | apply pw_below_drewN | apply below_drew1) | exact HB.out)))); have n2_ := Aside0.mk (below_step (by repeat (first | (with_reducible first | exact HB.out | apply below_alloc | apply pw_below_drewN | apply below_drew1) | exact HB.out)) hb); clear HO105; clear HB; have HO105 := n0_; have HO117 := n1_; have HB := n2_; clear n0_ n1_ n2_; clear hb ho29; obtain ⟨Ao30, co30, eo30⟩ := Kd.R_slice HO117.out; subst eo30) | ((with_reducible refine gate_callee (f := 79) rfl ?_); refine goesL_ (some 26) rfl rfl Tryz.func79 (by kernel_rfl) rfl #[.slice Ao30 y115.length co30] rfl (by (try simp only [List.map_toArray, List.map_cons, List.map_nil]); first | done | rfl | (simp only [List.length_drop, List.length_take]; rfl)) ?_; (with_reducible refine (modes_of.calls k _ _ y115 t118 _ ?side1 ?side2 A24.out).mono ?_); (case side1 => repeat (first | exact (Kd.R_reads' HO117.out).2.2 | (with_reducible refine Kd.C_alloc ?_ _) | (with_reducible refine Kd.C_drewN ?_ _) | (with_reducible refine Kd.C_drew ?_))); (case side2 => exact (Kd.R_reads' HO117.out).2.1); rintro e w' ⟨rfl, ⟨nd, rfl⟩⟩; refine ⟨_, rfl, ?_⟩))
         go_ret
         exact ⟨by first | rfl | (simp [errW_none, errW_some] <;> rfl) | (simp [*, errW_none, errW_some] <;> rfl), by repeat (first | (with_reducible first | exact HB.out | apply below_alloc | apply pw_below_drewN | apply below_drew1) | exact HB.out)⟩
       · rw [if_neg c23] at H
         have c23b0 : (a0 == 4) = false := beq_eq_false_iff_ne.mpr c23
         have c23b1 : (a0 != 4) = true := bne_iff_ne.mpr c23
         by_cases c31 : a0 = 5
         · rw [if_pos c31] at H
           have c31b0 : (a0 == 5) = true := beq_iff_eq.mpr c31
           have c31b1 : (a0 != 5) = false := bne_eq_false_iff_eq.mpr c31
           clear c31
           obtain ⟨y119, hy119⟩ : ∃ y_ : List Int, y_ = (([2, 3, 5] : List Int)) := ⟨_, rfl⟩
           replace H : ((modes_of.f k y119).bind fun t122 => (some (Go.bits .or .u16 t106 t122))) = some r := by first | (rw [hy119]; with_reducible exact H) | (have H2_ := (Option.bind_some _ _).symm.trans H; rw [hy119]; with_reducible exact H2_) | (have H2_ := (Option.bind_some _ _).symm.trans H; with_reducible exact H2_) | with_reducible exact H | (rw [hy119]; exact H) | exact H
           have Ny119 := Aside0.mk hy119
           clear hy119
           replace H := Option.bind_eq_some_iff.mp H
           obtain ⟨t122, A320, H⟩ := H
           replace H : (some (Go.bits .or .u16 t106 t122)) = some r := H
           have A32 := Aside0.mk A320
           clear A320
           obtain rfl := Option.some.inj H
           go_enter Tryz.func58, Tryz.ntmps58
           go_wp2_with (first | ((with_reducible refine gate_dst (N := 4) rfl ?_); refine Kd.R_lit (Kd.int .i64) _ 3 ?hg (N := 4) ?hd (xs := ([6, 8] : List Int)) (inner := [.int .i64 6, .int .i64 8]) (ok := fun _ => True) (okp := fun _ => True) ?hr ?hp (fun _ hk => hk) trivial (Below.refl _ _) (Nat.le_refl _) (by simp) ?_; (case hd => rfl); (case hg => rfl); (case hr => first | (go_simp; done) | (go_simp; rfl)); (case hp => exact (Reps.one (show Kd.M (Kd.int .i64) _ _ _ 6 [.int .i64 6] from rfl) (Reps.one (show Kd.M (Kd.int .i64) _ _ _ 8 [.int .i64 8] from rfl) (Reps.none _ _)))); intro v104 w33 ho34 hb hg_ hnew_; clear hg_ hnew_; (first | rw [← Ny103.out] at ho34 | (simp only [Int.reduceToNat] at ho34; rw [← Ny103.out] at ho34)); have n0_ := Aside0.mk (Kd.R_lower ho34 (below_size (by repeat (first | (with_reducible first | exact HB.out | apply below_alloc | apply pw_below_drewN | apply below_drew1) | exact HB.out)))); have n1_ := Aside0.mk (below_step (by repeat (first | (with_reducible first | exact HB.out | apply below_alloc | apply pw_below_drewN | apply below_drew1) | exact HB.out)) hb); clear HB; have HO105 := n0_; have HB := n1_; clear n0_ n1_; clear hb ho34; obtain ⟨Ao35, co35, eo35⟩ := Kd.R_slice HO105.out; subst eo35) | ((with_reducible refine gate_callee (f := 79) rfl ?_); refine goesL_ (some 5) rfl rfl Tryz.func79 (by kernel_rfl) rfl #[.slice Ao35 y103.length co35] rfl (by (try simp only [List.map_toArray, List.map_cons, List.map_nil]); first | done | rfl | (simp only [List.length_drop, List.length_take]; rfl)) ?_; (with_reducible refine (modes_of.calls k _ _ y103 t106 _ ?side1 ?side2 A2.out).mono ?_); (case side1 => repeat (first | exact (Kd.R_reads' HO105.out).2.2 | (with_reducible refine Kd.C_alloc ?_ _) | (with_reducible refine Kd.C_drewN ?_ _) | (with_reducible refine Kd.C_drew ?_))); (case side2 => exact (Kd.R_reads' HO105.out).2.1); rintro e w' ⟨rfl, ⟨nd, rfl⟩⟩; refine ⟨_, rfl, ?_⟩) | ((with_reducible refine gate_dst (N := 31) rfl ?_); refine Kd.R_lit (Kd.int .i64) _ 3 ?hg (N := 31) ?hd (xs := ([2, 3, 5] : List Int)) (inner := [.int .i64 2, .int .i64 3, .int .i64 5]) (ok := fun _ => True) (okp := fun _ => True) ?hr ?hp (fun _ hk => hk) trivial (Below.refl _ _) (Nat.le_refl _) (by simp) ?_; (case hd => rfl); (case hg => rfl); (case hr => first | (go_simp; done) | (go_simp; rfl)); (case hp => exact (Reps.one (show Kd.M (Kd.int .i64) _ _ _ 2 [.int .i64 2] from rfl) (Reps.one (show Kd.M (Kd.int .i64) _ _ _ 3 [.int .i64 3] from rfl) (Reps.one (show Kd.M (Kd.int .i64) _ _ _ 5 [.int .i64 5] from rfl) (Reps.none _ _))))); intro v120 w36 ho37 hb hg_ hnew_; clear hg_ hnew_; (first | rw [← Ny119.out] at ho37 | (simp only [Int.reduceToNat] at ho37; rw [← Ny119.out] at ho37)); have n0_ := Aside0.mk (Kd.R_elder' (by (with_reducible repeat (first | apply Kd.R_alloc | apply Kd.R_drewN | apply Kd.R_drew)); exact HO105.out) (Kd.R_base ho37) hb); have n1_ := Aside0.mk (Kd.R_lower (Kd.R_new' ho37 (Kd.R_lt (by (with_reducible repeat (first | apply Kd.R_alloc | apply Kd.R_drewN | apply Kd.R_drew)); exact HO105.out))) (below_size (by repeat (first | (with_reducible first | exact HB.out | apply below_alloc | apply pw_below_drewN | apply below_drew1) | exact HB.out)))); have n2_ := Aside0.mk (below_step (by repeat (first | (with_reducible first | exact HB.out | apply below_alloc | apply pw_below_drewN | apply below_drew1) | exact HB.out)) hb); clear HO105; clear HB; have HO105 := n0_; have HO121 := n1_; have HB := n2_; clear n0_ n1_ n2_; clear hb ho37; obtain ⟨Ao38, co38, eo38⟩ := Kd.R_slice HO121.out; subst eo38) | ((with_reducible refine gate_callee (f := 79) rfl ?_); refine goesL_ (some 32) rfl rfl Tryz.func79 (by kernel_rfl) rfl #[.slice Ao38 y119.length co38] rfl (by (try simp only [List.map_toArray, List.map_cons, List.map_nil]); first | done | rfl | (simp only [List.length_drop, List.length_take]; rfl)) ?_; (with_reducible refine (modes_of.calls k _ _ y119 t122 _ ?side1 ?side2 A32.out).mono ?_); (case side1 => repeat (first | exact (Kd.R_reads' HO121.out).2.2 | (with_reducible refine Kd.C_alloc ?_ _) | (with_reducible refine Kd.C_drewN ?_ _) | (with_reducible refine Kd.C_drew ?_))); (case side2 => exact (Kd.R_reads' HO121.out).2.1); rintro e w' ⟨rfl, ⟨nd, rfl⟩⟩; refine ⟨_, rfl, ?_⟩))
           go_ret
           exact ⟨by first | rfl | (simp [errW_none, errW_some] <;> rfl) | (simp [*, errW_none, errW_some] <;> rfl), by repeat (first | (with_reducible first | exact HB.out | apply below_alloc | apply pw_below_drewN | apply below_drew1) | exact HB.out)⟩
         · rw [if_neg c31] at H
           have c31b0 : (a0 == 5) = false := beq_eq_false_iff_ne.mpr c31
           have c31b1 : (a0 != 5) = true := bne_iff_ne.mpr c31
           by_cases c39 : a0 = 6
           · rw [if_pos c39] at H
             have c39b0 : (a0 == 6) = true := beq_iff_eq.mpr c39
             have c39b1 : (a0 != 6) = false := bne_eq_false_iff_eq.mpr c39
             clear c39
             obtain ⟨y123, hy123⟩ : ∃ y_ : List Int, y_ = (([1, 2, 3, 4, 5] : List Int)) := ⟨_, rfl⟩
             replace H : ((modes_of.f k y123).bind fun t126 => (some (Go.bits .or .u16 t106 t126))) = some r := by first | (rw [hy123]; with_reducible exact H) | (have H2_ := (Option.bind_some _ _).symm.trans H; rw [hy123]; with_reducible exact H2_) | (have H2_ := (Option.bind_some _ _).symm.trans H; with_reducible exact H2_) | with_reducible exact H | (rw [hy123]; exact H) | exact H
             have Ny123 := Aside0.mk hy123
             clear hy123
             replace H := Option.bind_eq_some_iff.mp H
             obtain ⟨t126, A400, H⟩ := H
             replace H : (some (Go.bits .or .u16 t106 t126)) = some r := H
             have A40 := Aside0.mk A400
             clear A400
             obtain rfl := Option.some.inj H
             go_enter Tryz.func58, Tryz.ntmps58
             go_wp2_with (first | ((with_reducible refine gate_dst (N := 4) rfl ?_); refine Kd.R_lit (Kd.int .i64) _ 3 ?hg (N := 4) ?hd (xs := ([6, 8] : List Int)) (inner := [.int .i64 6, .int .i64 8]) (ok := fun _ => True) (okp := fun _ => True) ?hr ?hp (fun _ hk => hk) trivial (Below.refl _ _) (Nat.le_refl _) (by simp) ?_; (case hd => rfl); (case hg => rfl); (case hr => first | (go_simp; done) | (go_simp; rfl)); (case hp => exact (Reps.one (show Kd.M (Kd.int .i64) _ _ _ 6 [.int .i64 6] from rfl) (Reps.one (show Kd.M (Kd.int .i64) _ _ _ 8 [.int .i64 8] from rfl) (Reps.none _ _)))); intro v104 w41 ho42 hb hg_ hnew_; clear hg_ hnew_; (first | rw [← Ny103.out] at ho42 | (simp only [Int.reduceToNat] at ho42; rw [← Ny103.out] at ho42)); have n0_ := Aside0.mk (Kd.R_lower ho42 (below_size (by repeat (first | (with_reducible first | exact HB.out | apply below_alloc | apply pw_below_drewN | apply below_drew1) | exact HB.out)))); have n1_ := Aside0.mk (below_step (by repeat (first | (with_reducible first | exact HB.out | apply below_alloc | apply pw_below_drewN | apply below_drew1) | exact HB.out)) hb); clear HB; have HO105 := n0_; have HB := n1_; clear n0_ n1_; clear hb ho42; obtain ⟨Ao43, co43, eo43⟩ := Kd.R_slice HO105.out; subst eo43) | ((with_reducible refine gate_callee (f := 79) rfl ?_); refine goesL_ (some 5) rfl rfl Tryz.func79 (by kernel_rfl) rfl #[.slice Ao43 y103.length co43] rfl (by (try simp only [List.map_toArray, List.map_cons, List.map_nil]); first | done | rfl | (simp only [List.length_drop, List.length_take]; rfl)) ?_; (with_reducible refine (modes_of.calls k _ _ y103 t106 _ ?side1 ?side2 A2.out).mono ?_); (case side1 => repeat (first | exact (Kd.R_reads' HO105.out).2.2 | (with_reducible refine Kd.C_alloc ?_ _) | (with_reducible refine Kd.C_drewN ?_ _) | (with_reducible refine Kd.C_drew ?_))); (case side2 => exact (Kd.R_reads' HO105.out).2.1); rintro e w' ⟨rfl, ⟨nd, rfl⟩⟩; refine ⟨_, rfl, ?_⟩) | ((with_reducible refine gate_dst (N := 37) rfl ?_); refine Kd.R_lit (Kd.int .i64) _ 3 ?hg (N := 37) ?hd (xs := ([1, 2, 3, 4, 5] : List Int)) (inner := [.int .i64 1, .int .i64 2, .int .i64 3, .int .i64 4, .int .i64 5]) (ok := fun _ => True) (okp := fun _ => True) ?hr ?hp (fun _ hk => hk) trivial (Below.refl _ _) (Nat.le_refl _) (by simp) ?_; (case hd => rfl); (case hg => rfl); (case hr => first | (go_simp; done) | (go_simp; rfl)); (case hp => exact (Reps.one (show Kd.M (Kd.int .i64) _ _ _ 1 [.int .i64 1] from rfl) (Reps.one (show Kd.M (Kd.int .i64) _ _ _ 2 [.int .i64 2] from rfl) (Reps.one (show Kd.M (Kd.int .i64) _ _ _ 3 [.int .i64 3] from rfl) (Reps.one (show Kd.M (Kd.int .i64) _ _ _ 4 [.int .i64 4] from rfl) (Reps.one (show Kd.M (Kd.int .i64) _ _ _ 5 [.int .i64 5] from rfl) (Reps.none _ _))))))); intro v124 w44 ho45 hb hg_ hnew_; clear hg_ hnew_; (first | rw [← Ny123.out] at ho45 | (simp only [Int.reduceToNat] at ho45; rw [← Ny123.out] at ho45)); have n0_ := Aside0.mk (Kd.R_elder' (by (with_reducible repeat (first | apply Kd.R_alloc | apply Kd.R_drewN | apply Kd.R_drew)); exact HO105.out) (Kd.R_base ho45) hb); have n1_ := Aside0.mk (Kd.R_lower (Kd.R_new' ho45 (Kd.R_lt (by (with_reducible repeat (first | apply Kd.R_alloc | apply Kd.R_drewN | apply Kd.R_drew)); exact HO105.out))) (below_size (by repeat (first | (with_reducible first | exact HB.out | apply below_alloc | apply pw_below_drewN | apply below_drew1) | exact HB.out)))); have n2_ := Aside0.mk (below_step (by repeat (first | (with_reducible first | exact HB.out | apply below_alloc | apply pw_below_drewN | apply below_drew1) | exact HB.out)) hb); clear HO105; clear HB; have HO105 := n0_; have HO125 := n1_; have HB := n2_; clear n0_ n1_ n2_; clear hb ho45; obtain ⟨Ao46, co46, eo46⟩ := Kd.R_slice HO125.out; subst eo46) | ((with_reducible refine gate_callee (f := 79) rfl ?_); refine goesL_ (some 38) rfl rfl Tryz.func79 (by kernel_rfl) rfl #[.slice Ao46 y123.length co46] rfl (by (try simp only [List.map_toArray, List.map_cons, List.map_nil]); first | done | rfl | (simp only [List.length_drop, List.length_take]; rfl)) ?_; (with_reducible refine (modes_of.calls k _ _ y123 t126 _ ?side1 ?side2 A40.out).mono ?_); (case side1 => repeat (first | exact (Kd.R_reads' HO125.out).2.2 | (with_reducible refine Kd.C_alloc ?_ _) | (with_reducible refine Kd.C_drewN ?_ _) | (with_reducible refine Kd.C_drew ?_))); (case side2 => exact (Kd.R_reads' HO125.out).2.1); rintro e w' ⟨rfl, ⟨nd, rfl⟩⟩; refine ⟨_, rfl, ?_⟩))
             go_ret
             exact ⟨by first | rfl | (simp [errW_none, errW_some] <;> rfl) | (simp [*, errW_none, errW_some] <;> rfl), by repeat (first | (with_reducible first | exact HB.out | apply below_alloc | apply pw_below_drewN | apply below_drew1) | exact HB.out)⟩
           · rw [if_neg c39] at H
             have c39b0 : (a0 == 6) = false := beq_eq_false_iff_ne.mpr c39
             have c39b1 : (a0 != 6) = true := bne_iff_ne.mpr c39
             by_cases c47 : a0 = 7
             · rw [if_pos c47] at H
               have c47b0 : (a0 == 7) = true := beq_iff_eq.mpr c47
               have c47b1 : (a0 != 7) = false := bne_eq_false_iff_eq.mpr c47
               clear c47
               obtain ⟨y127, hy127⟩ : ∃ y_ : List Int, y_ = (([8] : List Int)) := ⟨_, rfl⟩
               replace H : ((modes_of.f k y127).bind fun t130 => (some t130)) = some r := by first | (rw [hy127]; with_reducible exact H) | (have H2_ := (Option.bind_some _ _).symm.trans H; rw [hy127]; with_reducible exact H2_) | (have H2_ := (Option.bind_some _ _).symm.trans H; with_reducible exact H2_) | with_reducible exact H | (rw [hy127]; exact H) | exact H
               have Ny127 := Aside0.mk hy127
               clear hy127
               replace H := Option.bind_eq_some_iff.mp H
               obtain ⟨t130, A480, H⟩ := H
               replace H : (some t130) = some r := H
               have A48 := Aside0.mk A480
               clear A480
               obtain rfl := Option.some.inj H
               go_enter Tryz.func58, Tryz.ntmps58
               go_wp2_with (first | ((with_reducible refine gate_dst (N := 4) rfl ?_); refine Kd.R_lit (Kd.int .i64) _ 3 ?hg (N := 4) ?hd (xs := ([6, 8] : List Int)) (inner := [.int .i64 6, .int .i64 8]) (ok := fun _ => True) (okp := fun _ => True) ?hr ?hp (fun _ hk => hk) trivial (Below.refl _ _) (Nat.le_refl _) (by simp) ?_; (case hd => rfl); (case hg => rfl); (case hr => first | (go_simp; done) | (go_simp; rfl)); (case hp => exact (Reps.one (show Kd.M (Kd.int .i64) _ _ _ 6 [.int .i64 6] from rfl) (Reps.one (show Kd.M (Kd.int .i64) _ _ _ 8 [.int .i64 8] from rfl) (Reps.none _ _)))); intro v104 w49 ho50 hb hg_ hnew_; clear hg_ hnew_; (first | rw [← Ny103.out] at ho50 | (simp only [Int.reduceToNat] at ho50; rw [← Ny103.out] at ho50)); have n0_ := Aside0.mk (Kd.R_lower ho50 (below_size (by repeat (first | (with_reducible first | exact HB.out | apply below_alloc | apply pw_below_drewN | apply below_drew1) | exact HB.out)))); have n1_ := Aside0.mk (below_step (by repeat (first | (with_reducible first | exact HB.out | apply below_alloc | apply pw_below_drewN | apply below_drew1) | exact HB.out)) hb); clear HB; have HO105 := n0_; have HB := n1_; clear n0_ n1_; clear hb ho50; obtain ⟨Ao51, co51, eo51⟩ := Kd.R_slice HO105.out; subst eo51) | ((with_reducible refine gate_callee (f := 79) rfl ?_); refine goesL_ (some 5) rfl rfl Tryz.func79 (by kernel_rfl) rfl #[.slice Ao51 y103.length co51] rfl (by (try simp only [List.map_toArray, List.map_cons, List.map_nil]); first | done | rfl | (simp only [List.length_drop, List.length_take]; rfl)) ?_; (with_reducible refine (modes_of.calls k _ _ y103 t106 _ ?side1 ?side2 A2.out).mono ?_); (case side1 => repeat (first | exact (Kd.R_reads' HO105.out).2.2 | (with_reducible refine Kd.C_alloc ?_ _) | (with_reducible refine Kd.C_drewN ?_ _) | (with_reducible refine Kd.C_drew ?_))); (case side2 => exact (Kd.R_reads' HO105.out).2.1); rintro e w' ⟨rfl, ⟨nd, rfl⟩⟩; refine ⟨_, rfl, ?_⟩) | ((with_reducible refine gate_dst (N := 42) rfl ?_); refine Kd.R_lit (Kd.int .i64) _ 3 ?hg (N := 42) ?hd (xs := ([8] : List Int)) (inner := [.int .i64 8]) (ok := fun _ => True) (okp := fun _ => True) ?hr ?hp (fun _ hk => hk) trivial (Below.refl _ _) (Nat.le_refl _) (by simp) ?_; (case hd => rfl); (case hg => rfl); (case hr => first | (go_simp; done) | (go_simp; rfl)); (case hp => exact (Reps.one (show Kd.M (Kd.int .i64) _ _ _ 8 [.int .i64 8] from rfl) (Reps.none _ _))); intro v128 w52 ho53 hb hg_ hnew_; clear hg_ hnew_; (first | rw [← Ny127.out] at ho53 | (simp only [Int.reduceToNat] at ho53; rw [← Ny127.out] at ho53)); have n0_ := Aside0.mk (Kd.R_elder' (by (with_reducible repeat (first | apply Kd.R_alloc | apply Kd.R_drewN | apply Kd.R_drew)); exact HO105.out) (Kd.R_base ho53) hb); have n1_ := Aside0.mk (Kd.R_lower (Kd.R_new' ho53 (Kd.R_lt (by (with_reducible repeat (first | apply Kd.R_alloc | apply Kd.R_drewN | apply Kd.R_drew)); exact HO105.out))) (below_size (by repeat (first | (with_reducible first | exact HB.out | apply below_alloc | apply pw_below_drewN | apply below_drew1) | exact HB.out)))); have n2_ := Aside0.mk (below_step (by repeat (first | (with_reducible first | exact HB.out | apply below_alloc | apply pw_below_drewN | apply below_drew1) | exact HB.out)) hb); clear HO105; clear HB; have HO105 := n0_; have HO129 := n1_; have HB := n2_; clear n0_ n1_ n2_; clear hb ho53; obtain ⟨Ao54, co54, eo54⟩ := Kd.R_slice HO129.out; subst eo54) | ((with_reducible refine gate_callee (f := 79) rfl ?_); refine goesL_ (some 43) rfl rfl Tryz.func79 (by kernel_rfl) rfl #[.slice Ao54 y127.length co54] rfl (by (try simp only [List.map_toArray, List.map_cons, List.map_nil]); first | done | rfl | (simp only [List.length_drop, List.length_take]; rfl)) ?_; (with_reducible refine (modes_of.calls k _ _ y127 t130 _ ?side1 ?side2 A48.out).mono ?_); (case side1 => repeat (first | exact (Kd.R_reads' HO129.out).2.2 | (with_reducible refine Kd.C_alloc ?_ _) | (with_reducible refine Kd.C_drewN ?_ _) | (with_reducible refine Kd.C_drew ?_))); (case side2 => exact (Kd.R_reads' HO129.out).2.1); rintro e w' ⟨rfl, ⟨nd, rfl⟩⟩; refine ⟨_, rfl, ?_⟩))
               go_ret
               exact ⟨by first | rfl | (simp [errW_none, errW_some] <;> rfl) | (simp [*, errW_none, errW_some] <;> rfl), by repeat (first | (with_reducible first | exact HB.out | apply below_alloc | apply pw_below_drewN | apply below_drew1) | exact HB.out)⟩
             · rw [if_neg c47] at H
               have c47b0 : (a0 == 7) = false := beq_eq_false_iff_ne.mpr c47
               have c47b1 : (a0 != 7) = true := bne_iff_ne.mpr c47
               by_cases c55 : a0 = 8
               · rw [if_pos c55] at H
                 have c55b0 : (a0 == 8) = true := beq_iff_eq.mpr c55
                 have c55b1 : (a0 != 8) = false := bne_eq_false_iff_eq.mpr c55
                 clear c55
                 obtain ⟨y131, hy131⟩ : ∃ y_ : List Int, y_ = (([1, 2, 3, 4, 5, 7] : List Int)) := ⟨_, rfl⟩
                 replace H : ((modes_of.f k y131).bind fun t134 => (some (Go.bits .or .u16 t106 t134))) = some r := by first | (rw [hy131]; with_reducible exact H) | (have H2_ := (Option.bind_some _ _).symm.trans H; rw [hy131]; with_reducible exact H2_) | (have H2_ := (Option.bind_some _ _).symm.trans H; with_reducible exact H2_) | with_reducible exact H | (rw [hy131]; exact H) | exact H
                 have Ny131 := Aside0.mk hy131
                 clear hy131
                 replace H := Option.bind_eq_some_iff.mp H
                 obtain ⟨t134, A560, H⟩ := H
                 replace H : (some (Go.bits .or .u16 t106 t134)) = some r := H
                 have A56 := Aside0.mk A560
                 clear A560
                 obtain rfl := Option.some.inj H
                 go_enter Tryz.func58, Tryz.ntmps58
                 go_wp2_with (first | ((with_reducible refine gate_dst (N := 4) rfl ?_); refine Kd.R_lit (Kd.int .i64) _ 3 ?hg (N := 4) ?hd (xs := ([6, 8] : List Int)) (inner := [.int .i64 6, .int .i64 8]) (ok := fun _ => True) (okp := fun _ => True) ?hr ?hp (fun _ hk => hk) trivial (Below.refl _ _) (Nat.le_refl _) (by simp) ?_; (case hd => rfl); (case hg => rfl); (case hr => first | (go_simp; done) | (go_simp; rfl)); (case hp => exact (Reps.one (show Kd.M (Kd.int .i64) _ _ _ 6 [.int .i64 6] from rfl) (Reps.one (show Kd.M (Kd.int .i64) _ _ _ 8 [.int .i64 8] from rfl) (Reps.none _ _)))); intro v104 w57 ho58 hb hg_ hnew_; clear hg_ hnew_; (first | rw [← Ny103.out] at ho58 | (simp only [Int.reduceToNat] at ho58; rw [← Ny103.out] at ho58)); have n0_ := Aside0.mk (Kd.R_lower ho58 (below_size (by repeat (first | (with_reducible first | exact HB.out | apply below_alloc | apply pw_below_drewN | apply below_drew1) | exact HB.out)))); have n1_ := Aside0.mk (below_step (by repeat (first | (with_reducible first | exact HB.out | apply below_alloc | apply pw_below_drewN | apply below_drew1) | exact HB.out)) hb); clear HB; have HO105 := n0_; have HB := n1_; clear n0_ n1_; clear hb ho58; obtain ⟨Ao59, co59, eo59⟩ := Kd.R_slice HO105.out; subst eo59) | ((with_reducible refine gate_callee (f := 79) rfl ?_); refine goesL_ (some 5) rfl rfl Tryz.func79 (by kernel_rfl) rfl #[.slice Ao59 y103.length co59] rfl (by (try simp only [List.map_toArray, List.map_cons, List.map_nil]); first | done | rfl | (simp only [List.length_drop, List.length_take]; rfl)) ?_; (with_reducible refine (modes_of.calls k _ _ y103 t106 _ ?side1 ?side2 A2.out).mono ?_); (case side1 => repeat (first | exact (Kd.R_reads' HO105.out).2.2 | (with_reducible refine Kd.C_alloc ?_ _) | (with_reducible refine Kd.C_drewN ?_ _) | (with_reducible refine Kd.C_drew ?_))); (case side2 => exact (Kd.R_reads' HO105.out).2.1); rintro e w' ⟨rfl, ⟨nd, rfl⟩⟩; refine ⟨_, rfl, ?_⟩) | ((with_reducible refine gate_dst (N := 47) rfl ?_); refine Kd.R_lit (Kd.int .i64) _ 3 ?hg (N := 47) ?hd (xs := ([1, 2, 3, 4, 5, 7] : List Int)) (inner := [.int .i64 1, .int .i64 2, .int .i64 3, .int .i64 4, .int .i64 5, .int .i64 7]) (ok := fun _ => True) (okp := fun _ => True) ?hr ?hp (fun _ hk => hk) trivial (Below.refl _ _) (Nat.le_refl _) (by simp) ?_; (case hd => rfl); (case hg => rfl); (case hr => first | (go_simp; done) | (go_simp; rfl)); (case hp => exact (Reps.one (show Kd.M (Kd.int .i64) _ _ _ 1 [.int .i64 1] from rfl) (Reps.one (show Kd.M (Kd.int .i64) _ _ _ 2 [.int .i64 2] from rfl) (Reps.one (show Kd.M (Kd.int .i64) _ _ _ 3 [.int .i64 3] from rfl) (Reps.one (show Kd.M (Kd.int .i64) _ _ _ 4 [.int .i64 4] from rfl) (Reps.one (show Kd.M (Kd.int .i64) _ _ _ 5 [.int .i64 5] from rfl) (Reps.one (show Kd.M (Kd.int .i64) _ _ _ 7 [.int .i64 7] from rfl) (Reps.none _ _)))))))); intro v132 w60 ho61 hb hg_ hnew_; clear hg_ hnew_; (first | rw [← Ny131.out] at ho61 | (simp only [Int.reduceToNat] at ho61; rw [← Ny131.out] at ho61)); have n0_ := Aside0.mk (Kd.R_elder' (by (with_reducible repeat (first | apply Kd.R_alloc | apply Kd.R_drewN | apply Kd.R_drew)); exact HO105.out) (Kd.R_base ho61) hb); have n1_ := Aside0.mk (Kd.R_lower (Kd.R_new' ho61 (Kd.R_lt (by (with_reducible repeat (first | apply Kd.R_alloc | apply Kd.R_drewN | apply Kd.R_drew)); exact HO105.out))) (below_size (by repeat (first | (with_reducible first | exact HB.out | apply below_alloc | apply pw_below_drewN | apply below_drew1) | exact HB.out)))); have n2_ := Aside0.mk (below_step (by repeat (first | (with_reducible first | exact HB.out | apply below_alloc | apply pw_below_drewN | apply below_drew1) | exact HB.out)) hb); clear HO105; clear HB; have HO105 := n0_; have HO133 := n1_; have HB := n2_; clear n0_ n1_ n2_; clear hb ho61; obtain ⟨Ao62, co62, eo62⟩ := Kd.R_slice HO133.out; subst eo62) | ((with_reducible refine gate_callee (f := 79) rfl ?_); refine goesL_ (some 48) rfl rfl Tryz.func79 (by kernel_rfl) rfl #[.slice Ao62 y131.length co62] rfl (by (try simp only [List.map_toArray, List.map_cons, List.map_nil]); first | done | rfl | (simp only [List.length_drop, List.length_take]; rfl)) ?_; (with_reducible refine (modes_of.calls k _ _ y131 t134 _ ?side1 ?side2 A56.out).mono ?_); (case side1 => repeat (first | exact (Kd.R_reads' HO133.out).2.2 | (with_reducible refine Kd.C_alloc ?_ _) | (with_reducible refine Kd.C_drewN ?_ _) | (with_reducible refine Kd.C_drew ?_))); (case side2 => exact (Kd.R_reads' HO133.out).2.1); rintro e w' ⟨rfl, ⟨nd, rfl⟩⟩; refine ⟨_, rfl, ?_⟩))
                 go_ret
                 exact ⟨by first | rfl | (simp [errW_none, errW_some] <;> rfl) | (simp [*, errW_none, errW_some] <;> rfl), by repeat (first | (with_reducible first | exact HB.out | apply below_alloc | apply pw_below_drewN | apply below_drew1) | exact HB.out)⟩
               · rw [if_neg c55] at H
                 have c55b0 : (a0 == 8) = false := beq_eq_false_iff_ne.mpr c55
                 have c55b1 : (a0 != 8) = true := bne_iff_ne.mpr c55
                 obtain rfl := Option.some.inj H
                 go_enter Tryz.func58, Tryz.ntmps58
                 go_wp2_with (first | ((with_reducible refine gate_dst (N := 4) rfl ?_); refine Kd.R_lit (Kd.int .i64) _ 3 ?hg (N := 4) ?hd (xs := ([6, 8] : List Int)) (inner := [.int .i64 6, .int .i64 8]) (ok := fun _ => True) (okp := fun _ => True) ?hr ?hp (fun _ hk => hk) trivial (Below.refl _ _) (Nat.le_refl _) (by simp) ?_; (case hd => rfl); (case hg => rfl); (case hr => first | (go_simp; done) | (go_simp; rfl)); (case hp => exact (Reps.one (show Kd.M (Kd.int .i64) _ _ _ 6 [.int .i64 6] from rfl) (Reps.one (show Kd.M (Kd.int .i64) _ _ _ 8 [.int .i64 8] from rfl) (Reps.none _ _)))); intro v104 w63 ho64 hb hg_ hnew_; clear hg_ hnew_; (first | rw [← Ny103.out] at ho64 | (simp only [Int.reduceToNat] at ho64; rw [← Ny103.out] at ho64)); have n0_ := Aside0.mk (Kd.R_lower ho64 (below_size (by repeat (first | (with_reducible first | exact HB.out | apply below_alloc | apply pw_below_drewN | apply below_drew1) | exact HB.out)))); have n1_ := Aside0.mk (below_step (by repeat (first | (with_reducible first | exact HB.out | apply below_alloc | apply pw_below_drewN | apply below_drew1) | exact HB.out)) hb); clear HB; have HO105 := n0_; have HB := n1_; clear n0_ n1_; clear hb ho64; obtain ⟨Ao65, co65, eo65⟩ := Kd.R_slice HO105.out; subst eo65) | ((with_reducible refine gate_callee (f := 79) rfl ?_); refine goesL_ (some 5) rfl rfl Tryz.func79 (by kernel_rfl) rfl #[.slice Ao65 y103.length co65] rfl (by (try simp only [List.map_toArray, List.map_cons, List.map_nil]); first | done | rfl | (simp only [List.length_drop, List.length_take]; rfl)) ?_; (with_reducible refine (modes_of.calls k _ _ y103 t106 _ ?side1 ?side2 A2.out).mono ?_); (case side1 => repeat (first | exact (Kd.R_reads' HO105.out).2.2 | (with_reducible refine Kd.C_alloc ?_ _) | (with_reducible refine Kd.C_drewN ?_ _) | (with_reducible refine Kd.C_drew ?_))); (case side2 => exact (Kd.R_reads' HO105.out).2.1); rintro e w' ⟨rfl, ⟨nd, rfl⟩⟩; refine ⟨_, rfl, ?_⟩))
                 go_ret
                 exact ⟨by first | rfl | (simp [errW_none, errW_some] <;> rfl) | (simp [*, errW_none, errW_some] <;> rfl), by repeat (first | (with_reducible first | exact HB.out | apply below_alloc | apply pw_below_drewN | apply below_drew1) | exact HB.out)⟩
end Go.Proofs.YtkcjcdkmdooofaaGreat.Q
end
section
namespace Go.Proofs.YtkcjcdkmdooofaaGreat.Q
open Go.RowKit Go.Proofs.YtkcjcdkmdooofaaGreatW.PrintWords Go.Proofs.YtkcjcdkmdooofaaGreatW.PrintLast Go.Proofs.YtkcjcdkmdooofaaGreatW.PrintMore
attribute [local go_sem] max2_int min2_int max_two min_two max_three min_three max_four min_four
def modes_Conflict.f (k : Nat) (a0 : Int) (a1 : Int) : Option (Bool) := (modes_Right.f a0).bind fun t146 => (if t146 = true then ((modes_Right.f a1).bind fun t147 => (if t147 = true then ((modes_conflicts.f k a0).bind fun t148 => ((modes_of.f k (([a1] : List Int))).bind fun t152 => (some ((Go.bits .and .u16 t148 t152) != 0)))) else (some false))) else (some false))
theorem modes_Conflict.mono : ∀ a0 a1 k, LeO (modes_Conflict.f k a0 a1) (modes_Conflict.f (k + 1) a0 a1) := by
 intro a0 a1 k
 unfold modes_Conflict.f
 repeat' first
     | (with_reducible exact modes_conflicts.mono _ _)
     | (with_reducible exact modes_of.mono _ _)
     | (with_reducible exact LeO.refl _)
     | (with_reducible exact LeO.none _)
     | (with_reducible refine LeO.ite ?_ ?_)
     | (with_reducible refine LeO.bind ?_ (fun _ => ?_))
     | exact modes_conflicts.mono _ _
     | exact modes_of.mono _ _
     | exact LeO.none _
     | refine LeO.ite ?_ ?_
     | refine LeO.bind ?_ (fun _ => ?_)
set_option maxHeartbeats 8000000 in
set_option maxRecDepth 100000 in
theorem modes_Conflict.calls (k : Nat) (a0 : Int) (a1 : Int) (r : Bool) (w : World) (h : modes_Conflict.f k a0 a1 = some r) :
   Calls Tryz.prog 62 #[.int .i64 a0, .int .i64 a1] w fun e w' => e = .returned (.bool r) ∧ Below w.heap.size w w' := by
 have HB := Aside0.mk (Below.refl w.heap.size w)
 have H : ((modes_Right.f a0).bind fun t146 => (if t146 = true then ((modes_Right.f a1).bind fun t147 => (if t147 = true then ((modes_conflicts.f k a0).bind fun t148 => ((modes_of.f k (([a1] : List Int))).bind fun t152 => (some ((Go.bits .and .u16 t148 t152) != 0)))) else (some false))) else (some false))) = some r := h
 clear h
 replace H := Option.bind_eq_some_iff.mp H
 obtain ⟨t146, A30, H⟩ := H
 replace H : (if t146 = true then ((modes_Right.f a1).bind fun t147 => (if t147 = true then ((modes_conflicts.f k a0).bind fun t148 => ((modes_of.f k (([a1] : List Int))).bind fun t152 => (some ((Go.bits .and .u16 t148 t152) != 0)))) else (some false))) else (some false)) = some r := H
 have A3 := Aside0.mk A30
 clear A30
 by_cases c4 : t146 = true
 · subst c4
   have H1 : ((modes_Right.f a1).bind fun t147 => (if t147 = true then ((modes_conflicts.f k a0).bind fun t148 => ((modes_of.f k (([a1] : List Int))).bind fun t152 => (some ((Go.bits .and .u16 t148 t152) != 0)))) else (some false))) = some r := by rw [if_pos rfl] at H; exact H
   clear H
   have H := H1
   clear H1
   replace H := Option.bind_eq_some_iff.mp H
   obtain ⟨t147, A50, H⟩ := H
   replace H : (if t147 = true then ((modes_conflicts.f k a0).bind fun t148 => ((modes_of.f k (([a1] : List Int))).bind fun t152 => (some ((Go.bits .and .u16 t148 t152) != 0)))) else (some false)) = some r := H
   have A5 := Aside0.mk A50
   clear A50
   by_cases c6 : t147 = true
   · subst c6
     have H1 : ((modes_conflicts.f k a0).bind fun t148 => ((modes_of.f k (([a1] : List Int))).bind fun t152 => (some ((Go.bits .and .u16 t148 t152) != 0)))) = some r := by rw [if_pos rfl] at H; exact H
     clear H
     have H := H1
     clear H1
     replace H := Option.bind_eq_some_iff.mp H
     obtain ⟨t148, A70, H⟩ := H
     replace H : ((modes_of.f k (([a1] : List Int))).bind fun t152 => (some ((Go.bits .and .u16 t148 t152) != 0))) = some r := H
     have A7 := Aside0.mk A70
     clear A70
     obtain ⟨y149, hy149⟩ : ∃ y_ : List Int, y_ = (([a1] : List Int)) := ⟨_, rfl⟩
     replace H : ((modes_of.f k y149).bind fun t152 => (some ((Go.bits .and .u16 t148 t152) != 0))) = some r := by first | (rw [hy149]; with_reducible exact H) | (have H2_ := (Option.bind_some _ _).symm.trans H; rw [hy149]; with_reducible exact H2_) | (have H2_ := (Option.bind_some _ _).symm.trans H; with_reducible exact H2_) | with_reducible exact H | (rw [hy149]; exact H) | exact H
     have Ny149 := Aside0.mk hy149
     clear hy149
     replace H := Option.bind_eq_some_iff.mp H
     obtain ⟨t152, A80, H⟩ := H
     replace H : (some ((Go.bits .and .u16 t148 t152) != 0)) = some r := H
     have A8 := Aside0.mk A80
     clear A80
     obtain rfl := Option.some.inj H
     go_enter Tryz.func62, Tryz.ntmps62
     go_wp2_with (first | ((with_reducible refine gate_callee (f := 27) rfl ?_); refine goesL_ (some 6) rfl rfl Tryz.func27 (by kernel_rfl) rfl #[.int .i64 a0] rfl (by (try simp only [List.map_toArray, List.map_cons, List.map_nil]); first | done | rfl | (simp only [List.length_drop, List.length_take]; rfl)) ?_; (with_reducible refine (modes_Right.calls a0 true _ A3.out).mono ?_); rintro e w' ⟨rfl, ⟨nd, rfl⟩⟩; refine ⟨_, rfl, ?_⟩) | (go_at_call 27; (with_reducible refine (modes_Right.calls a1 true _ A5.out).mono ?_); rintro e w' ⟨rfl, ⟨nd, rfl⟩⟩) | (go_at_call 58; (with_reducible refine (modes_conflicts.calls k a0 t148 _ A7.out).mono ?_); rintro e w9 ⟨rfl, hb⟩; have n0_ := Aside0.mk (below_step (by repeat (first | (with_reducible first | exact HB.out | apply below_alloc | apply pw_below_drewN | apply below_drew1) | exact HB.out)) hb); clear HB; have HB := n0_; clear n0_; (try clear hb); (try clear hb2); (try clear hk); (try clear hi)) | ((with_reducible refine gate_dst (N := 15) rfl ?_); (try (refine gate_guard (by rfl) ?_; dsimp only)); refine Kd.R_lit (Kd.int .i64) _ 3 ?hg (N := 15) ?hd (xs := ([a1] : List Int)) (inner := [.int .i64 a1]) (ok := fun _ => True) (okp := fun _ => True) ?hr ?hp (fun _ hk => hk) trivial (Below.refl _ _) (Nat.le_refl _) (by simp) ?_; (case hd => rfl); (case hg => rfl); (case hr => first | (go_simp; done) | (go_simp; rfl)); (case hp => exact (Reps.one (show Kd.M (Kd.int .i64) _ _ _ a1 [.int .i64 a1] from rfl) (Reps.none _ _))); intro v150 w10 ho11 hb hg_ hnew_; clear hg_ hnew_; (first | rw [← Ny149.out] at ho11 | (simp only [Int.reduceToNat] at ho11; rw [← Ny149.out] at ho11)); have n0_ := Aside0.mk (Kd.R_lower ho11 (below_size (by repeat (first | (with_reducible first | exact HB.out | apply below_alloc | apply pw_below_drewN | apply below_drew1) | exact HB.out)))); have n1_ := Aside0.mk (below_step (by repeat (first | (with_reducible first | exact HB.out | apply below_alloc | apply pw_below_drewN | apply below_drew1) | exact HB.out)) hb); clear HB; have HO151 := n0_; have HB := n1_; clear n0_ n1_; clear hb ho11; obtain ⟨Ao12, co12, eo12⟩ := Kd.R_slice HO151.out; subst eo12) | (go_at_call 79; (with_reducible refine (modes_of.calls k _ _ y149 t152 _ ?side1 ?side2 A8.out).mono ?_); (case side1 => repeat (first | exact (Kd.R_reads' HO151.out).2.2 | (with_reducible refine Kd.C_alloc ?_ _) | (with_reducible refine Kd.C_drewN ?_ _) | (with_reducible refine Kd.C_drew ?_))); (case side2 => exact (Kd.R_reads' HO151.out).2.1); rintro e w' ⟨rfl, ⟨nd, rfl⟩⟩))
     go_ret
     exact ⟨by first | rfl | (simp [errW_none, errW_some] <;> rfl) | (simp [*, errW_none, errW_some] <;> rfl), by repeat (first | (with_reducible first | exact HB.out | apply below_alloc | apply pw_below_drewN | apply below_drew1) | exact HB.out)⟩
   · replace c6 := Bool.eq_false_iff.mpr c6
     subst c6
     have H1 : (some false) = some r := by rw [if_neg (show ¬ (false = true) by decide)] at H; exact H
     clear H
     have H := H1
     clear H1
     obtain rfl := Option.some.inj H
     go_enter Tryz.func62, Tryz.ntmps62
     go_wp2_with (first | ((with_reducible refine gate_callee (f := 27) rfl ?_); refine goesL_ (some 6) rfl rfl Tryz.func27 (by kernel_rfl) rfl #[.int .i64 a0] rfl (by (try simp only [List.map_toArray, List.map_cons, List.map_nil]); first | done | rfl | (simp only [List.length_drop, List.length_take]; rfl)) ?_; (with_reducible refine (modes_Right.calls a0 true _ A3.out).mono ?_); rintro e w' ⟨rfl, ⟨nd, rfl⟩⟩; refine ⟨_, rfl, ?_⟩) | (go_at_call 27; (with_reducible refine (modes_Right.calls a1 false _ A5.out).mono ?_); rintro e w' ⟨rfl, ⟨nd, rfl⟩⟩))
     go_ret
     exact ⟨by first | rfl | (simp [errW_none, errW_some] <;> rfl) | (simp [*, errW_none, errW_some] <;> rfl), by repeat (first | (with_reducible first | exact HB.out | apply below_alloc | apply pw_below_drewN | apply below_drew1) | exact HB.out)⟩
 · replace c4 := Bool.eq_false_iff.mpr c4
   subst c4
   have H1 : (some false) = some r := by rw [if_neg (show ¬ (false = true) by decide)] at H; exact H
   clear H
   have H := H1
   clear H1
   obtain rfl := Option.some.inj H
   go_enter Tryz.func62, Tryz.ntmps62
   go_wp2_with (first | ((with_reducible refine gate_callee (f := 27) rfl ?_); refine goesL_ (some 6) rfl rfl Tryz.func27 (by kernel_rfl) rfl #[.int .i64 a0] rfl (by (try simp only [List.map_toArray, List.map_cons, List.map_nil]); first | done | rfl | (simp only [List.length_drop, List.length_take]; rfl)) ?_; (with_reducible refine (modes_Right.calls a0 false _ A3.out).mono ?_); rintro e w' ⟨rfl, ⟨nd, rfl⟩⟩; refine ⟨_, rfl, ?_⟩))
   go_ret
   exact ⟨by first | rfl | (simp [errW_none, errW_some] <;> rfl) | (simp [*, errW_none, errW_some] <;> rfl), by repeat (first | (with_reducible first | exact HB.out | apply below_alloc | apply pw_below_drewN | apply below_drew1) | exact HB.out)⟩
end Go.Proofs.YtkcjcdkmdooofaaGreat.Q
end
section
namespace Go.Proofs.YtkcjcdkmdooofaaGreat.Q
open Go.RowKit Go.Proofs.YtkcjcdkmdooofaaGreatW.PrintWords Go.Proofs.YtkcjcdkmdooofaaGreatW.PrintLast Go.Proofs.YtkcjcdkmdooofaaGreatW.PrintMore
attribute [local go_sem] max2_int min2_int max_two min_two max_three min_three max_four min_four
def modes_Covers.f (k : Nat) (a0 : Int) (a1 : Int) : Option (Bool) := (modes_Right.f a0).bind fun t135 => (if t135 = true then ((modes_Right.f a1).bind fun t136 => (if t136 = true then ((modes_conflicts.f k a1).bind fun t137 => ((modes_conflicts.f k a0).bind fun t138 => (some ((Go.bits .andNot .u16 t137 t138) == 0)))) else (some false))) else (some false))
theorem modes_Covers.mono : ∀ a0 a1 k, LeO (modes_Covers.f k a0 a1) (modes_Covers.f (k + 1) a0 a1) := by
 intro a0 a1 k
 unfold modes_Covers.f
 repeat' first
     | (with_reducible exact modes_conflicts.mono _ _)
     | (with_reducible exact LeO.refl _)
     | (with_reducible exact LeO.none _)
     | (with_reducible refine LeO.ite ?_ ?_)
     | (with_reducible refine LeO.bind ?_ (fun _ => ?_))
     | exact modes_conflicts.mono _ _
     | exact LeO.none _
     | refine LeO.ite ?_ ?_
     | refine LeO.bind ?_ (fun _ => ?_)
set_option maxHeartbeats 8000000 in
set_option maxRecDepth 100000 in
theorem modes_Covers.calls (k : Nat) (a0 : Int) (a1 : Int) (r : Bool) (w : World) (h : modes_Covers.f k a0 a1 = some r) :
   Calls Tryz.prog 30 #[.int .i64 a0, .int .i64 a1] w fun e w' => e = .returned (.bool r) ∧ Below w.heap.size w w' := by
 have HB := Aside0.mk (Below.refl w.heap.size w)
 have H : ((modes_Right.f a0).bind fun t135 => (if t135 = true then ((modes_Right.f a1).bind fun t136 => (if t136 = true then ((modes_conflicts.f k a1).bind fun t137 => ((modes_conflicts.f k a0).bind fun t138 => (some ((Go.bits .andNot .u16 t137 t138) == 0)))) else (some false))) else (some false))) = some r := h
 clear h
 replace H := Option.bind_eq_some_iff.mp H
 obtain ⟨t135, A30, H⟩ := H
 replace H : (if t135 = true then ((modes_Right.f a1).bind fun t136 => (if t136 = true then ((modes_conflicts.f k a1).bind fun t137 => ((modes_conflicts.f k a0).bind fun t138 => (some ((Go.bits .andNot .u16 t137 t138) == 0)))) else (some false))) else (some false)) = some r := H
 have A3 := Aside0.mk A30
 clear A30
 by_cases c4 : t135 = true
 · subst c4
   have H1 : ((modes_Right.f a1).bind fun t136 => (if t136 = true then ((modes_conflicts.f k a1).bind fun t137 => ((modes_conflicts.f k a0).bind fun t138 => (some ((Go.bits .andNot .u16 t137 t138) == 0)))) else (some false))) = some r := by rw [if_pos rfl] at H; exact H
   clear H
   have H := H1
   clear H1
   replace H := Option.bind_eq_some_iff.mp H
   obtain ⟨t136, A50, H⟩ := H
   replace H : (if t136 = true then ((modes_conflicts.f k a1).bind fun t137 => ((modes_conflicts.f k a0).bind fun t138 => (some ((Go.bits .andNot .u16 t137 t138) == 0)))) else (some false)) = some r := H
   have A5 := Aside0.mk A50
   clear A50
   by_cases c6 : t136 = true
   · subst c6
     have H1 : ((modes_conflicts.f k a1).bind fun t137 => ((modes_conflicts.f k a0).bind fun t138 => (some ((Go.bits .andNot .u16 t137 t138) == 0)))) = some r := by rw [if_pos rfl] at H; exact H
     clear H
     have H := H1
     clear H1
     replace H := Option.bind_eq_some_iff.mp H
     obtain ⟨t137, A70, H⟩ := H
     replace H : ((modes_conflicts.f k a0).bind fun t138 => (some ((Go.bits .andNot .u16 t137 t138) == 0))) = some r := H
     have A7 := Aside0.mk A70
     clear A70
     replace H := Option.bind_eq_some_iff.mp H
     obtain ⟨t138, A80, H⟩ := H
     replace H : (some ((Go.bits .andNot .u16 t137 t138) == 0)) = some r := H
     have A8 := Aside0.mk A80
     clear A80
     obtain rfl := Option.some.inj H
     go_enter Tryz.func30, Tryz.ntmps30
     go_wp2_with (first | ((with_reducible refine gate_callee (f := 27) rfl ?_); refine goesL_ (some 6) rfl rfl Tryz.func27 (by kernel_rfl) rfl #[.int .i64 a0] rfl (by (try simp only [List.map_toArray, List.map_cons, List.map_nil]); first | done | rfl | (simp only [List.length_drop, List.length_take]; rfl)) ?_; (with_reducible refine (modes_Right.calls a0 true _ A3.out).mono ?_); rintro e w' ⟨rfl, ⟨nd, rfl⟩⟩; refine ⟨_, rfl, ?_⟩) | (go_at_call 27; (with_reducible refine (modes_Right.calls a1 true _ A5.out).mono ?_); rintro e w' ⟨rfl, ⟨nd, rfl⟩⟩) | (go_at_call 58; (with_reducible refine (modes_conflicts.calls k a1 t137 _ A7.out).mono ?_); rintro e w9 ⟨rfl, hb⟩; have n0_ := Aside0.mk (below_step (by repeat (first | (with_reducible first | exact HB.out | apply below_alloc | apply pw_below_drewN | apply below_drew1) | exact HB.out)) hb); clear HB; have HB := n0_; clear n0_; (try clear hb); (try clear hb2); (try clear hk); (try clear hi)) | (go_at_call 58; (with_reducible refine (modes_conflicts.calls k a0 t138 _ A8.out).mono ?_); rintro e w10 ⟨rfl, hb⟩; have n0_ := Aside0.mk (below_step (by repeat (first | (with_reducible first | exact HB.out | apply below_alloc | apply pw_below_drewN | apply below_drew1) | exact HB.out)) hb); clear HB; have HB := n0_; clear n0_; (try clear hb); (try clear hb2); (try clear hk); (try clear hi)))
     go_ret
     exact ⟨by first | rfl | (simp [errW_none, errW_some] <;> rfl) | (simp [*, errW_none, errW_some] <;> rfl), by repeat (first | (with_reducible first | exact HB.out | apply below_alloc | apply pw_below_drewN | apply below_drew1) | exact HB.out)⟩
   · replace c6 := Bool.eq_false_iff.mpr c6
     subst c6
     have H1 : (some false) = some r := by rw [if_neg (show ¬ (false = true) by decide)] at H; exact H
     clear H
     have H := H1
     clear H1
     obtain rfl := Option.some.inj H
     go_enter Tryz.func30, Tryz.ntmps30
     go_wp2_with (first | ((with_reducible refine gate_callee (f := 27) rfl ?_); refine goesL_ (some 6) rfl rfl Tryz.func27 (by kernel_rfl) rfl #[.int .i64 a0] rfl (by (try simp only [List.map_toArray, List.map_cons, List.map_nil]); first | done | rfl | (simp only [List.length_drop, List.length_take]; rfl)) ?_; (with_reducible refine (modes_Right.calls a0 true _ A3.out).mono ?_); rintro e w' ⟨rfl, ⟨nd, rfl⟩⟩; refine ⟨_, rfl, ?_⟩) | (go_at_call 27; (with_reducible refine (modes_Right.calls a1 false _ A5.out).mono ?_); rintro e w' ⟨rfl, ⟨nd, rfl⟩⟩))
     go_ret
     exact ⟨by first | rfl | (simp [errW_none, errW_some] <;> rfl) | (simp [*, errW_none, errW_some] <;> rfl), by repeat (first | (with_reducible first | exact HB.out | apply below_alloc | apply pw_below_drewN | apply below_drew1) | exact HB.out)⟩
 · replace c4 := Bool.eq_false_iff.mpr c4
   subst c4
   have H1 : (some false) = some r := by rw [if_neg (show ¬ (false = true) by decide)] at H; exact H
   clear H
   have H := H1
   clear H1
   obtain rfl := Option.some.inj H
   go_enter Tryz.func30, Tryz.ntmps30
   go_wp2_with (first | ((with_reducible refine gate_callee (f := 27) rfl ?_); refine goesL_ (some 6) rfl rfl Tryz.func27 (by kernel_rfl) rfl #[.int .i64 a0] rfl (by (try simp only [List.map_toArray, List.map_cons, List.map_nil]); first | done | rfl | (simp only [List.length_drop, List.length_take]; rfl)) ?_; (with_reducible refine (modes_Right.calls a0 false _ A3.out).mono ?_); rintro e w' ⟨rfl, ⟨nd, rfl⟩⟩; refine ⟨_, rfl, ?_⟩))
   go_ret
   exact ⟨by first | rfl | (simp [errW_none, errW_some] <;> rfl) | (simp [*, errW_none, errW_some] <;> rfl), by repeat (first | (with_reducible first | exact HB.out | apply below_alloc | apply pw_below_drewN | apply below_drew1) | exact HB.out)⟩
end Go.Proofs.YtkcjcdkmdooofaaGreat.Q
end
section
namespace Go.Proofs.YtkcjcdkmdooofaaGreat.Q
open Go.RowKit Go.Proofs.YtkcjcdkmdooofaaGreatW.PrintWords Go.Proofs.YtkcjcdkmdooofaaGreatW.PrintLast Go.Proofs.YtkcjcdkmdooofaaGreatW.PrintMore
set_option maxRecDepth 100000
def bits_OnesCount16.f (x : Int) : Option Int := if x = 0 then some 0 else if x = 320 then some 2 else if x = 360 then some 4 else if x = 356 then some 4 else if x = 336 then some 3 else if x = 364 then some 5 else if x = 382 then some 7 else if x = 256 then some 1 else if x = 510 then some 8 else none
set_option maxHeartbeats 1000000 in
theorem ones_0 (w : World) : Calls Tryz.prog 80 #[.int .u16 0] w fun e w' => e = .returned (.int .i64 0) ∧ Drawn0 w w' := by
 have mixed : Tryz.prog.follows Departure.mixedOrders = true := by kernel_rfl
 have hb : Go.bits .and .u16 0 255 = 0 := by decide
 go_enter Tryz.func80, Tryz.ntmps80
 go_wp2
 refine start_ (n := 9) (S := fun w' => True) (ds := []) #[false, false, false, false, false, false, false, false, false] (by kernel_rfl) rfl rfl trivial (fun hHeld => ?_)
 refine pu_ 0 3 (bs_ 9 1) ?_; refine pu_ 1 4 (bs_ 9 3) ?_; refine pu_ 2 5 (bs_ 9 7) ?_; refine pu_ 3 6 (bs_ 9 15) ?_; refine pu_ 4 7 (bs_ 9 31) ?_; refine pu_ 5 8 (bs_ 9 63) ?_; refine pu_ 6 9 (bs_ 9 127) ?_; refine pu_ 7 10 (bs_ 9 255) ?_; refine pu_ 8 2 (bs_ 9 511) ?_
 refine done_ (by kernel_rfl) ?_
 go_wp2
 go_ret
 exact ⟨by first | kernel_rfl | rfl | (congr 2; decide +kernel), by repeat (first | exact Drawn0.refl _ | apply Drawn0.step)⟩
set_option maxHeartbeats 1000000 in
theorem ones_320 (w : World) : Calls Tryz.prog 80 #[.int .u16 320] w fun e w' => e = .returned (.int .i64 2) ∧ Drawn0 w w' := by
 have mixed : Tryz.prog.follows Departure.mixedOrders = true := by kernel_rfl
 have hb : Go.bits .and .u16 320 255 = 64 := by decide
 go_enter Tryz.func80, Tryz.ntmps80
 go_wp2
 refine start_ (n := 9) (S := fun w' => True) (ds := []) #[false, false, false, false, false, false, false, false, false] (by kernel_rfl) rfl rfl trivial (fun hHeld => ?_)
 refine pu_ 0 3 (bs_ 9 1) ?_; refine pu_ 1 4 (bs_ 9 3) ?_; refine pu_ 2 5 (bs_ 9 7) ?_; refine pu_ 3 6 (bs_ 9 15) ?_; refine pu_ 4 7 (bs_ 9 31) ?_; refine pu_ 5 8 (bs_ 9 63) ?_; refine pu_ 6 9 (bs_ 9 127) ?_; refine pu_ 7 10 (bs_ 9 255) ?_; refine pu_ 8 2 (bs_ 9 511) ?_
 refine done_ (by kernel_rfl) ?_
 go_wp2
 go_ret
 exact ⟨by first | kernel_rfl | rfl | (congr 2; decide +kernel), by repeat (first | exact Drawn0.refl _ | apply Drawn0.step)⟩
set_option maxHeartbeats 1000000 in
theorem ones_360 (w : World) : Calls Tryz.prog 80 #[.int .u16 360] w fun e w' => e = .returned (.int .i64 4) ∧ Drawn0 w w' := by
 have mixed : Tryz.prog.follows Departure.mixedOrders = true := by kernel_rfl
 have hb : Go.bits .and .u16 360 255 = 104 := by decide
 go_enter Tryz.func80, Tryz.ntmps80
 go_wp2
 refine start_ (n := 9) (S := fun w' => True) (ds := []) #[false, false, false, false, false, false, false, false, false] (by kernel_rfl) rfl rfl trivial (fun hHeld => ?_)
 refine pu_ 0 3 (bs_ 9 1) ?_; refine pu_ 1 4 (bs_ 9 3) ?_; refine pu_ 2 5 (bs_ 9 7) ?_; refine pu_ 3 6 (bs_ 9 15) ?_; refine pu_ 4 7 (bs_ 9 31) ?_; refine pu_ 5 8 (bs_ 9 63) ?_; refine pu_ 6 9 (bs_ 9 127) ?_; refine pu_ 7 10 (bs_ 9 255) ?_; refine pu_ 8 2 (bs_ 9 511) ?_
 refine done_ (by kernel_rfl) ?_
 go_wp2
 go_ret
 exact ⟨by first | kernel_rfl | rfl | (congr 2; decide +kernel), by repeat (first | exact Drawn0.refl _ | apply Drawn0.step)⟩
set_option maxHeartbeats 1000000 in
theorem ones_356 (w : World) : Calls Tryz.prog 80 #[.int .u16 356] w fun e w' => e = .returned (.int .i64 4) ∧ Drawn0 w w' := by
 have mixed : Tryz.prog.follows Departure.mixedOrders = true := by kernel_rfl
 have hb : Go.bits .and .u16 356 255 = 100 := by decide
 go_enter Tryz.func80, Tryz.ntmps80
 go_wp2
 refine start_ (n := 9) (S := fun w' => True) (ds := []) #[false, false, false, false, false, false, false, false, false] (by kernel_rfl) rfl rfl trivial (fun hHeld => ?_)
 refine pu_ 0 3 (bs_ 9 1) ?_; refine pu_ 1 4 (bs_ 9 3) ?_; refine pu_ 2 5 (bs_ 9 7) ?_; refine pu_ 3 6 (bs_ 9 15) ?_; refine pu_ 4 7 (bs_ 9 31) ?_; refine pu_ 5 8 (bs_ 9 63) ?_; refine pu_ 6 9 (bs_ 9 127) ?_; refine pu_ 7 10 (bs_ 9 255) ?_; refine pu_ 8 2 (bs_ 9 511) ?_
 refine done_ (by kernel_rfl) ?_
 go_wp2
 go_ret
 exact ⟨by first | kernel_rfl | rfl | (congr 2; decide +kernel), by repeat (first | exact Drawn0.refl _ | apply Drawn0.step)⟩
set_option maxHeartbeats 1000000 in
theorem ones_336 (w : World) : Calls Tryz.prog 80 #[.int .u16 336] w fun e w' => e = .returned (.int .i64 3) ∧ Drawn0 w w' := by
 have mixed : Tryz.prog.follows Departure.mixedOrders = true := by kernel_rfl
 have hb : Go.bits .and .u16 336 255 = 80 := by decide
 go_enter Tryz.func80, Tryz.ntmps80
 go_wp2
 refine start_ (n := 9) (S := fun w' => True) (ds := []) #[false, false, false, false, false, false, false, false, false] (by kernel_rfl) rfl rfl trivial (fun hHeld => ?_)
 refine pu_ 0 3 (bs_ 9 1) ?_; refine pu_ 1 4 (bs_ 9 3) ?_; refine pu_ 2 5 (bs_ 9 7) ?_; refine pu_ 3 6 (bs_ 9 15) ?_; refine pu_ 4 7 (bs_ 9 31) ?_; refine pu_ 5 8 (bs_ 9 63) ?_; refine pu_ 6 9 (bs_ 9 127) ?_; refine pu_ 7 10 (bs_ 9 255) ?_; refine pu_ 8 2 (bs_ 9 511) ?_
 refine done_ (by kernel_rfl) ?_
 go_wp2
 go_ret
 exact ⟨by first | kernel_rfl | rfl | (congr 2; decide +kernel), by repeat (first | exact Drawn0.refl _ | apply Drawn0.step)⟩
set_option maxHeartbeats 1000000 in
theorem ones_364 (w : World) : Calls Tryz.prog 80 #[.int .u16 364] w fun e w' => e = .returned (.int .i64 5) ∧ Drawn0 w w' := by
 have mixed : Tryz.prog.follows Departure.mixedOrders = true := by kernel_rfl
 have hb : Go.bits .and .u16 364 255 = 108 := by decide
 go_enter Tryz.func80, Tryz.ntmps80
 go_wp2
 refine start_ (n := 9) (S := fun w' => True) (ds := []) #[false, false, false, false, false, false, false, false, false] (by kernel_rfl) rfl rfl trivial (fun hHeld => ?_)
 refine pu_ 0 3 (bs_ 9 1) ?_; refine pu_ 1 4 (bs_ 9 3) ?_; refine pu_ 2 5 (bs_ 9 7) ?_; refine pu_ 3 6 (bs_ 9 15) ?_; refine pu_ 4 7 (bs_ 9 31) ?_; refine pu_ 5 8 (bs_ 9 63) ?_; refine pu_ 6 9 (bs_ 9 127) ?_; refine pu_ 7 10 (bs_ 9 255) ?_; refine pu_ 8 2 (bs_ 9 511) ?_
 refine done_ (by kernel_rfl) ?_
 go_wp2
 go_ret
 exact ⟨by first | kernel_rfl | rfl | (congr 2; decide +kernel), by repeat (first | exact Drawn0.refl _ | apply Drawn0.step)⟩
set_option maxHeartbeats 1000000 in
theorem ones_382 (w : World) : Calls Tryz.prog 80 #[.int .u16 382] w fun e w' => e = .returned (.int .i64 7) ∧ Drawn0 w w' := by
 have mixed : Tryz.prog.follows Departure.mixedOrders = true := by kernel_rfl
 have hb : Go.bits .and .u16 382 255 = 126 := by decide
 go_enter Tryz.func80, Tryz.ntmps80
 go_wp2
 refine start_ (n := 9) (S := fun w' => True) (ds := []) #[false, false, false, false, false, false, false, false, false] (by kernel_rfl) rfl rfl trivial (fun hHeld => ?_)
 refine pu_ 0 3 (bs_ 9 1) ?_; refine pu_ 1 4 (bs_ 9 3) ?_; refine pu_ 2 5 (bs_ 9 7) ?_; refine pu_ 3 6 (bs_ 9 15) ?_; refine pu_ 4 7 (bs_ 9 31) ?_; refine pu_ 5 8 (bs_ 9 63) ?_; refine pu_ 6 9 (bs_ 9 127) ?_; refine pu_ 7 10 (bs_ 9 255) ?_; refine pu_ 8 2 (bs_ 9 511) ?_
 refine done_ (by kernel_rfl) ?_
 go_wp2
 go_ret
 exact ⟨by first | kernel_rfl | rfl | (congr 2; decide +kernel), by repeat (first | exact Drawn0.refl _ | apply Drawn0.step)⟩
set_option maxHeartbeats 1000000 in
theorem ones_256 (w : World) : Calls Tryz.prog 80 #[.int .u16 256] w fun e w' => e = .returned (.int .i64 1) ∧ Drawn0 w w' := by
 have mixed : Tryz.prog.follows Departure.mixedOrders = true := by kernel_rfl
 have hb : Go.bits .and .u16 256 255 = 0 := by decide
 go_enter Tryz.func80, Tryz.ntmps80
 go_wp2
 refine start_ (n := 9) (S := fun w' => True) (ds := []) #[false, false, false, false, false, false, false, false, false] (by kernel_rfl) rfl rfl trivial (fun hHeld => ?_)
 refine pu_ 0 3 (bs_ 9 1) ?_; refine pu_ 1 4 (bs_ 9 3) ?_; refine pu_ 2 5 (bs_ 9 7) ?_; refine pu_ 3 6 (bs_ 9 15) ?_; refine pu_ 4 7 (bs_ 9 31) ?_; refine pu_ 5 8 (bs_ 9 63) ?_; refine pu_ 6 9 (bs_ 9 127) ?_; refine pu_ 7 10 (bs_ 9 255) ?_; refine pu_ 8 2 (bs_ 9 511) ?_
 refine done_ (by kernel_rfl) ?_
 go_wp2
 go_ret
 exact ⟨by first | kernel_rfl | rfl | (congr 2; decide +kernel), by repeat (first | exact Drawn0.refl _ | apply Drawn0.step)⟩
set_option maxHeartbeats 1000000 in
theorem ones_510 (w : World) : Calls Tryz.prog 80 #[.int .u16 510] w fun e w' => e = .returned (.int .i64 8) ∧ Drawn0 w w' := by
 have mixed : Tryz.prog.follows Departure.mixedOrders = true := by kernel_rfl
 have hb : Go.bits .and .u16 510 255 = 254 := by decide
 go_enter Tryz.func80, Tryz.ntmps80
 go_wp2
 refine start_ (n := 9) (S := fun w' => True) (ds := []) #[false, false, false, false, false, false, false, false, false] (by kernel_rfl) rfl rfl trivial (fun hHeld => ?_)
 refine pu_ 0 3 (bs_ 9 1) ?_; refine pu_ 1 4 (bs_ 9 3) ?_; refine pu_ 2 5 (bs_ 9 7) ?_; refine pu_ 3 6 (bs_ 9 15) ?_; refine pu_ 4 7 (bs_ 9 31) ?_; refine pu_ 5 8 (bs_ 9 63) ?_; refine pu_ 6 9 (bs_ 9 127) ?_; refine pu_ 7 10 (bs_ 9 255) ?_; refine pu_ 8 2 (bs_ 9 511) ?_
 refine done_ (by kernel_rfl) ?_
 go_wp2
 go_ret
 exact ⟨by first | kernel_rfl | rfl | (congr 2; decide +kernel), by repeat (first | exact Drawn0.refl _ | apply Drawn0.step)⟩
theorem bits_OnesCount16.calls (a0 r : Int) (w : World) (h : bits_OnesCount16.f a0 = some r) : Calls Tryz.prog 80 #[.int .u16 a0] w fun e w' => e = .returned (.int .i64 r) ∧ Drawn0 w w' := by
 unfold bits_OnesCount16.f at h
 by_cases h0 : a0 = 0
 · rw [if_pos h0] at h
   subst h0
   obtain rfl := Option.some.inj h
   exact ones_0 w
 rw [if_neg h0] at h
 by_cases h320 : a0 = 320
 · rw [if_pos h320] at h
   subst h320
   obtain rfl := Option.some.inj h
   exact ones_320 w
 rw [if_neg h320] at h
 by_cases h360 : a0 = 360
 · rw [if_pos h360] at h
   subst h360
   obtain rfl := Option.some.inj h
   exact ones_360 w
 rw [if_neg h360] at h
 by_cases h356 : a0 = 356
 · rw [if_pos h356] at h
   subst h356
   obtain rfl := Option.some.inj h
   exact ones_356 w
 rw [if_neg h356] at h
 by_cases h336 : a0 = 336
 · rw [if_pos h336] at h
   subst h336
   obtain rfl := Option.some.inj h
   exact ones_336 w
 rw [if_neg h336] at h
 by_cases h364 : a0 = 364
 · rw [if_pos h364] at h
   subst h364
   obtain rfl := Option.some.inj h
   exact ones_364 w
 rw [if_neg h364] at h
 by_cases h382 : a0 = 382
 · rw [if_pos h382] at h
   subst h382
   obtain rfl := Option.some.inj h
   exact ones_382 w
 rw [if_neg h382] at h
 by_cases h256 : a0 = 256
 · rw [if_pos h256] at h
   subst h256
   obtain rfl := Option.some.inj h
   exact ones_256 w
 rw [if_neg h256] at h
 by_cases h510 : a0 = 510
 · rw [if_pos h510] at h
   subst h510
   obtain rfl := Option.some.inj h
   exact ones_510 w
 rw [if_neg h510] at h
 cases h
end Go.Proofs.YtkcjcdkmdooofaaGreat.Q
end
section
namespace Go.Proofs.YtkcjcdkmdooofaaGreat.Q
open Go.RowKit Go.Proofs.YtkcjcdkmdooofaaGreatW.PrintWords Go.Proofs.YtkcjcdkmdooofaaGreatW.PrintLast Go.Proofs.YtkcjcdkmdooofaaGreatW.PrintMore
attribute [local go_sem] max2_int min2_int max_two min_two max_three min_three max_four min_four
def modes_size.f (k : Nat) (a0 : Int) : Option (Int) := (modes_conflicts.f k a0).bind fun t139 => ((bits_OnesCount16.f t139).bind fun t140 => (some t140))
theorem modes_size.mono : ∀ a0 k, LeO (modes_size.f k a0) (modes_size.f (k + 1) a0) := by
 intro a0 k
 unfold modes_size.f
 repeat' first
     | (with_reducible exact modes_conflicts.mono _ _)
     | (with_reducible exact LeO.refl _)
     | (with_reducible exact LeO.none _)
     | (with_reducible refine LeO.ite ?_ ?_)
     | (with_reducible refine LeO.bind ?_ (fun _ => ?_))
     | exact modes_conflicts.mono _ _
     | exact LeO.none _
     | refine LeO.ite ?_ ?_
     | refine LeO.bind ?_ (fun _ => ?_)
set_option maxHeartbeats 8000000 in
set_option maxRecDepth 100000 in
theorem modes_size.calls (k : Nat) (a0 : Int) (r : Int) (w : World) (h : modes_size.f k a0 = some r) :
   Calls Tryz.prog 59 #[.int .i64 a0] w fun e w' => e = .returned (.int .i64 r) ∧ Below w.heap.size w w' := by
 have HB := Aside0.mk (Below.refl w.heap.size w)
 have H : ((modes_conflicts.f k a0).bind fun t139 => ((bits_OnesCount16.f t139).bind fun t140 => (some t140))) = some r := h
 clear h
 replace H := Option.bind_eq_some_iff.mp H
 obtain ⟨t139, A20, H⟩ := H
 replace H : ((bits_OnesCount16.f t139).bind fun t140 => (some t140)) = some r := H
 have A2 := Aside0.mk A20
 clear A20
 replace H := Option.bind_eq_some_iff.mp H
 obtain ⟨t140, A30, H⟩ := H
 replace H : (some t140) = some r := H
 have A3 := Aside0.mk A30
 clear A30
 obtain rfl := Option.some.inj H
 go_enter Tryz.func59, Tryz.ntmps59
 go_wp2_with (first | ((with_reducible refine gate_callee (f := 58) rfl ?_); refine goesL_ (some 4) rfl rfl Tryz.func58 (by kernel_rfl) rfl #[.int .i64 a0] rfl (by (try simp only [List.map_toArray, List.map_cons, List.map_nil]); first | done | rfl | (simp only [List.length_drop, List.length_take]; rfl)) ?_; (with_reducible refine (modes_conflicts.calls k a0 t139 _ A2.out).mono ?_); rintro e w4 ⟨rfl, hb⟩; refine ⟨_, rfl, ?_⟩; have n0_ := Aside0.mk (below_step (by repeat (first | (with_reducible first | exact HB.out | apply below_alloc | apply pw_below_drewN | apply below_drew1) | exact HB.out)) hb); clear HB; have HB := n0_; clear n0_; (try clear hb); (try clear hb2); (try clear hk); (try clear hi)) | ((with_reducible refine gate_callee (f := 80) rfl ?_); refine goesL_ (some 5) rfl rfl Tryz.func80 (by kernel_rfl) rfl #[.int .u16 t139] rfl (by (try simp only [List.map_toArray, List.map_cons, List.map_nil]); first | done | rfl | (simp only [List.length_drop, List.length_take]; rfl)) ?_; (with_reducible refine (bits_OnesCount16.calls t139 t140 _ A3.out).mono ?_); rintro e w' ⟨rfl, ⟨nd, rfl⟩⟩; refine ⟨_, rfl, ?_⟩))
 go_ret
 exact ⟨by first | rfl | (simp [errW_none, errW_some] <;> rfl) | (simp [*, errW_none, errW_some] <;> rfl), by repeat (first | (with_reducible first | exact HB.out | apply below_alloc | apply pw_below_drewN | apply below_drew1) | exact HB.out)⟩
end Go.Proofs.YtkcjcdkmdooofaaGreat.Q
end
section
namespace Go.Proofs.YtkcjcdkmdooofaaGreat.Q
open Go.RowKit Go.Proofs.YtkcjcdkmdooofaaGreatW.PrintWords Go.Proofs.YtkcjcdkmdooofaaGreatW.PrintLast Go.Proofs.YtkcjcdkmdooofaaGreatW.PrintMore
attribute [local go_sem] max2_int min2_int max_two min_two max_three min_three max_four min_four
def modes_Join.l0 : Nat → Int → Int → Int → Int → Option (Int)
 | 0, _, _, _, _ => none
 | k + 1, x0, x1, x5, x7 => if x7 < 9 then ((modes_Covers.f k x7 x0).bind fun t141 => (if t141 = true then ((modes_Covers.f k x7 x1).bind fun t142 => (if t142 = true then (if x5 = 0 then (modes_Join.l0 k x0 x1 x7 (wrap64 (x7 + 1))) else ((modes_size.f k x7).bind fun t143 => ((modes_size.f k x5).bind fun t144 => (if t143 < t144 then (modes_Join.l0 k x0 x1 x7 (wrap64 (x7 + 1))) else (modes_Join.l0 k x0 x1 x5 (wrap64 (x7 + 1))))))) else (modes_Join.l0 k x0 x1 x5 (wrap64 (x7 + 1))))) else (modes_Join.l0 k x0 x1 x5 (wrap64 (x7 + 1))))) else (some x5)
def modes_Join.f (k : Nat) (a0 : Int) (a1 : Int) : Option (Int) := modes_Join.l0 k a0 a1 0 0
theorem modes_Join.mono_l : ∀ k, (∀ y0 y1 y2 y3, LeO (modes_Join.l0 k y0 y1 y2 y3) (modes_Join.l0 (k + 1) y0 y1 y2 y3))
 | 0 => fun _ _ _ _ r h => by simp [modes_Join.l0] at h
 | k + 1 => by
   have ih0 := modes_Join.mono_l k
   · intro y0 y1 y2 y3
     unfold modes_Join.l0
     repeat' first
     | (with_reducible exact ih0 _ _ _ _)
     | (with_reducible exact modes_Covers.mono _ _ _)
     | (with_reducible exact modes_size.mono _ _)
     | (with_reducible exact LeO.refl _)
     | (with_reducible exact LeO.none _)
     | (with_reducible refine LeO.ite ?_ ?_)
     | (with_reducible refine LeO.bind ?_ (fun _ => ?_))
     | exact ih0 _ _ _ _
     | exact modes_Covers.mono _ _ _
     | exact modes_size.mono _ _
     | exact LeO.none _
     | refine LeO.ite ?_ ?_
     | refine LeO.bind ?_ (fun _ => ?_)
theorem modes_Join.mono : ∀ a0 a1 k, LeO (modes_Join.f k a0 a1) (modes_Join.f (k + 1) a0 a1) := by
 intro a0 a1 k
 have ih0 := modes_Join.mono_l k
 unfold modes_Join.f
 repeat' first
     | (with_reducible exact ih0 _ _ _ _)
     | (with_reducible exact modes_Covers.mono _ _ _)
     | (with_reducible exact modes_size.mono _ _)
     | (with_reducible exact LeO.refl _)
     | (with_reducible exact LeO.none _)
     | (with_reducible refine LeO.ite ?_ ?_)
     | (with_reducible refine LeO.bind ?_ (fun _ => ?_))
     | exact ih0 _ _ _ _
     | exact modes_Covers.mono _ _ _
     | exact modes_size.mono _ _
     | exact LeO.none _
     | refine LeO.ite ?_ ?_
     | refine LeO.bind ?_ (fun _ => ?_)
set_option maxHeartbeats 8000000 in
set_option maxRecDepth 100000 in
theorem modes_Join.calls (k : Nat) (a0 : Int) (a1 : Int) (r : Int) (w : World) (h : modes_Join.f k a0 a1 = some r) :
   Calls Tryz.prog 31 #[.int .i64 a0, .int .i64 a1] w fun e w' => e = .returned (.int .i64 r) ∧ Below w.heap.size w w' := by
 have HB := Aside0.mk (Below.refl w.heap.size w)
 have H : (modes_Join.l0 k a0 a1 0 0) = some r := h
 clear h
 have H' := Aside0.mk H
 clear H
 go_enter Tryz.func31, Tryz.ntmps31
 go_wp2
 go_loopg [5, 7] k (fun kq v5 v7 w' => ∃ (x5_1 : Int) (x7_1 : Int), v5 = .int .i64 x5_1 ∧ v7 = .int .i64 x7_1 ∧ Aside0 (modes_Join.l0 kq a0 a1 x5_1 x7_1 = some r) ∧ Aside0 (kq ≤ k) ∧ Aside0 (Below w.heap.size w w'))
 case atStart => exact ⟨(0), (0), (by first | rfl | (simp; done) | (simp [*]; done)), (by first | rfl | (simp; done) | (simp [*]; done)), H', ⟨Nat.le_refl _⟩, ⟨by repeat (first | (with_reducible first | exact HB.out | apply below_alloc | apply pw_below_drewN | apply below_drew1) | exact HB.out)⟩⟩
 case round =>
   clear H'
   try clear p2
   obtain ⟨x5_1, x7_1, rfl, rfl, HA, HK1, HB⟩ := hrel
   cases gk with
   | zero => exact absurd HA.out (by simp [modes_Join.l0])
   | succ k1 =>
     have H := HA.out
     clear HA
     simp only [modes_Join.l0] at H
     by_cases c3 : x7_1 < 9
     · rw [if_pos c3] at H
       have c3b0 : decide (x7_1 < 9) = true := decide_eq_true c3
       clear c3
       replace H := Option.bind_eq_some_iff.mp H
       obtain ⟨t141, A40, H⟩ := H
       replace H : (if t141 = true then ((modes_Covers.f k1 x7_1 a1).bind fun t142 => (if t142 = true then (if x5_1 = 0 then (modes_Join.l0 k1 a0 a1 x7_1 (wrap64 (x7_1 + 1))) else ((modes_size.f k1 x7_1).bind fun t143 => ((modes_size.f k1 x5_1).bind fun t144 => (if t143 < t144 then (modes_Join.l0 k1 a0 a1 x7_1 (wrap64 (x7_1 + 1))) else (modes_Join.l0 k1 a0 a1 x5_1 (wrap64 (x7_1 + 1))))))) else (modes_Join.l0 k1 a0 a1 x5_1 (wrap64 (x7_1 + 1))))) else (modes_Join.l0 k1 a0 a1 x5_1 (wrap64 (x7_1 + 1)))) = some r := H
       have A4 := Aside0.mk A40
       clear A40
       by_cases c5 : t141 = true
       · subst c5
         have H1 : ((modes_Covers.f k1 x7_1 a1).bind fun t142 => (if t142 = true then (if x5_1 = 0 then (modes_Join.l0 k1 a0 a1 x7_1 (wrap64 (x7_1 + 1))) else ((modes_size.f k1 x7_1).bind fun t143 => ((modes_size.f k1 x5_1).bind fun t144 => (if t143 < t144 then (modes_Join.l0 k1 a0 a1 x7_1 (wrap64 (x7_1 + 1))) else (modes_Join.l0 k1 a0 a1 x5_1 (wrap64 (x7_1 + 1))))))) else (modes_Join.l0 k1 a0 a1 x5_1 (wrap64 (x7_1 + 1))))) = some r := by rw [if_pos rfl] at H; exact H
         clear H
         have H := H1
         clear H1
         replace H := Option.bind_eq_some_iff.mp H
         obtain ⟨t142, A60, H⟩ := H
         replace H : (if t142 = true then (if x5_1 = 0 then (modes_Join.l0 k1 a0 a1 x7_1 (wrap64 (x7_1 + 1))) else ((modes_size.f k1 x7_1).bind fun t143 => ((modes_size.f k1 x5_1).bind fun t144 => (if t143 < t144 then (modes_Join.l0 k1 a0 a1 x7_1 (wrap64 (x7_1 + 1))) else (modes_Join.l0 k1 a0 a1 x5_1 (wrap64 (x7_1 + 1))))))) else (modes_Join.l0 k1 a0 a1 x5_1 (wrap64 (x7_1 + 1)))) = some r := H
         have A6 := Aside0.mk A60
         clear A60
         by_cases c7 : t142 = true
         · subst c7
           have H1 : (if x5_1 = 0 then (modes_Join.l0 k1 a0 a1 x7_1 (wrap64 (x7_1 + 1))) else ((modes_size.f k1 x7_1).bind fun t143 => ((modes_size.f k1 x5_1).bind fun t144 => (if t143 < t144 then (modes_Join.l0 k1 a0 a1 x7_1 (wrap64 (x7_1 + 1))) else (modes_Join.l0 k1 a0 a1 x5_1 (wrap64 (x7_1 + 1))))))) = some r := by rw [if_pos rfl] at H; exact H
           clear H
           have H := H1
           clear H1
           by_cases c8 : x5_1 = 0
           · rw [if_pos c8] at H
             have c8b0 : (x5_1 == 0) = true := beq_iff_eq.mpr c8
             have c8b1 : (x5_1 != 0) = false := bne_eq_false_iff_eq.mpr c8
             clear c8
             have H' := Aside0.mk H
             clear H
             go_wp2_with (first | ((with_reducible refine gate_callee (f := 30) rfl ?_); refine goesL_ (some 12) rfl rfl Tryz.func30 (by kernel_rfl) rfl #[.int .i64 x7_1, .int .i64 a0] rfl (by (try simp only [List.map_toArray, List.map_cons, List.map_nil]); first | done | rfl | (simp only [List.length_drop, List.length_take]; rfl)) ?_; (with_reducible refine (modes_Covers.calls k1 x7_1 a0 true _ A4.out).mono ?_); rintro e w9 ⟨rfl, hb⟩; refine ⟨_, rfl, ?_⟩; have n0_ := Aside0.mk (below_step (by repeat (first | (with_reducible first | exact HB.out | apply below_alloc | apply pw_below_drewN | apply below_drew1) | exact HB.out)) hb); clear HB; have HB := n0_; clear n0_; (try clear hb); (try clear hb2); (try clear hk); (try clear hi)) | (go_at_call 30; (with_reducible refine (modes_Covers.calls k1 x7_1 a1 true _ A6.out).mono ?_); rintro e w10 ⟨rfl, hb⟩; have n0_ := Aside0.mk (below_step (by repeat (first | (with_reducible first | exact HB.out | apply below_alloc | apply pw_below_drewN | apply below_drew1) | exact HB.out)) hb); clear HB; have HB := n0_; clear n0_; (try clear hb); (try clear hb2); (try clear hk); (try clear hi)))
             go_roundg k1
             case measure => have := HK1.out; omega
             case rel => exact ⟨(x7_1), (wrap64 (x7_1 + 1)), (by first | rfl | (simp; done) | (simp [*]; done)), (by first | rfl | (simp; done) | (simp [*]; done)), H', ⟨by have := HK1.out; omega⟩, ⟨by repeat (first | (with_reducible first | exact HB.out | apply below_alloc | apply pw_below_drewN | apply below_drew1) | exact HB.out)⟩⟩
           · rw [if_neg c8] at H
             have c8b0 : (x5_1 == 0) = false := beq_eq_false_iff_ne.mpr c8
             have c8b1 : (x5_1 != 0) = true := bne_iff_ne.mpr c8
             replace H := Option.bind_eq_some_iff.mp H
             obtain ⟨t143, A110, H⟩ := H
             replace H : ((modes_size.f k1 x5_1).bind fun t144 => (if t143 < t144 then (modes_Join.l0 k1 a0 a1 x7_1 (wrap64 (x7_1 + 1))) else (modes_Join.l0 k1 a0 a1 x5_1 (wrap64 (x7_1 + 1))))) = some r := H
             have A11 := Aside0.mk A110
             clear A110
             replace H := Option.bind_eq_some_iff.mp H
             obtain ⟨t144, A120, H⟩ := H
             replace H : (if t143 < t144 then (modes_Join.l0 k1 a0 a1 x7_1 (wrap64 (x7_1 + 1))) else (modes_Join.l0 k1 a0 a1 x5_1 (wrap64 (x7_1 + 1)))) = some r := H
             have A12 := Aside0.mk A120
             clear A120
             by_cases c13 : t143 < t144
             · rw [if_pos c13] at H
               have c13b0 : decide (t143 < t144) = true := decide_eq_true c13
               clear c13
               have H' := Aside0.mk H
               clear H
               go_wp2_with (first | ((with_reducible refine gate_callee (f := 30) rfl ?_); refine goesL_ (some 12) rfl rfl Tryz.func30 (by kernel_rfl) rfl #[.int .i64 x7_1, .int .i64 a0] rfl (by (try simp only [List.map_toArray, List.map_cons, List.map_nil]); first | done | rfl | (simp only [List.length_drop, List.length_take]; rfl)) ?_; (with_reducible refine (modes_Covers.calls k1 x7_1 a0 true _ A4.out).mono ?_); rintro e w14 ⟨rfl, hb⟩; refine ⟨_, rfl, ?_⟩; have n0_ := Aside0.mk (below_step (by repeat (first | (with_reducible first | exact HB.out | apply below_alloc | apply pw_below_drewN | apply below_drew1) | exact HB.out)) hb); clear HB; have HB := n0_; clear n0_; (try clear hb); (try clear hb2); (try clear hk); (try clear hi)) | (go_at_call 30; (with_reducible refine (modes_Covers.calls k1 x7_1 a1 true _ A6.out).mono ?_); rintro e w15 ⟨rfl, hb⟩; have n0_ := Aside0.mk (below_step (by repeat (first | (with_reducible first | exact HB.out | apply below_alloc | apply pw_below_drewN | apply below_drew1) | exact HB.out)) hb); clear HB; have HB := n0_; clear n0_; (try clear hb); (try clear hb2); (try clear hk); (try clear hi)) | (go_at_call 59; (with_reducible refine (modes_size.calls k1 x7_1 t143 _ A11.out).mono ?_); rintro e w16 ⟨rfl, hb⟩; have n0_ := Aside0.mk (below_step (by repeat (first | (with_reducible first | exact HB.out | apply below_alloc | apply pw_below_drewN | apply below_drew1) | exact HB.out)) hb); clear HB; have HB := n0_; clear n0_; (try clear hb); (try clear hb2); (try clear hk); (try clear hi)) | (go_at_call 59; (with_reducible refine (modes_size.calls k1 x5_1 t144 _ A12.out).mono ?_); rintro e w17 ⟨rfl, hb⟩; have n0_ := Aside0.mk (below_step (by repeat (first | (with_reducible first | exact HB.out | apply below_alloc | apply pw_below_drewN | apply below_drew1) | exact HB.out)) hb); clear HB; have HB := n0_; clear n0_; (try clear hb); (try clear hb2); (try clear hk); (try clear hi)))
               go_roundg k1
               case measure => have := HK1.out; omega
               case rel => exact ⟨(x7_1), (wrap64 (x7_1 + 1)), (by first | rfl | (simp; done) | (simp [*]; done)), (by first | rfl | (simp; done) | (simp [*]; done)), H', ⟨by have := HK1.out; omega⟩, ⟨by repeat (first | (with_reducible first | exact HB.out | apply below_alloc | apply pw_below_drewN | apply below_drew1) | exact HB.out)⟩⟩
             · rw [if_neg c13] at H
               have c13b0 : decide (t143 < t144) = false := decide_eq_false c13
               clear c13
               have H' := Aside0.mk H
               clear H
               go_wp2_with (first | ((with_reducible refine gate_callee (f := 30) rfl ?_); refine goesL_ (some 12) rfl rfl Tryz.func30 (by kernel_rfl) rfl #[.int .i64 x7_1, .int .i64 a0] rfl (by (try simp only [List.map_toArray, List.map_cons, List.map_nil]); first | done | rfl | (simp only [List.length_drop, List.length_take]; rfl)) ?_; (with_reducible refine (modes_Covers.calls k1 x7_1 a0 true _ A4.out).mono ?_); rintro e w18 ⟨rfl, hb⟩; refine ⟨_, rfl, ?_⟩; have n0_ := Aside0.mk (below_step (by repeat (first | (with_reducible first | exact HB.out | apply below_alloc | apply pw_below_drewN | apply below_drew1) | exact HB.out)) hb); clear HB; have HB := n0_; clear n0_; (try clear hb); (try clear hb2); (try clear hk); (try clear hi)) | (go_at_call 30; (with_reducible refine (modes_Covers.calls k1 x7_1 a1 true _ A6.out).mono ?_); rintro e w19 ⟨rfl, hb⟩; have n0_ := Aside0.mk (below_step (by repeat (first | (with_reducible first | exact HB.out | apply below_alloc | apply pw_below_drewN | apply below_drew1) | exact HB.out)) hb); clear HB; have HB := n0_; clear n0_; (try clear hb); (try clear hb2); (try clear hk); (try clear hi)) | (go_at_call 59; (with_reducible refine (modes_size.calls k1 x7_1 t143 _ A11.out).mono ?_); rintro e w20 ⟨rfl, hb⟩; have n0_ := Aside0.mk (below_step (by repeat (first | (with_reducible first | exact HB.out | apply below_alloc | apply pw_below_drewN | apply below_drew1) | exact HB.out)) hb); clear HB; have HB := n0_; clear n0_; (try clear hb); (try clear hb2); (try clear hk); (try clear hi)) | (go_at_call 59; (with_reducible refine (modes_size.calls k1 x5_1 t144 _ A12.out).mono ?_); rintro e w21 ⟨rfl, hb⟩; have n0_ := Aside0.mk (below_step (by repeat (first | (with_reducible first | exact HB.out | apply below_alloc | apply pw_below_drewN | apply below_drew1) | exact HB.out)) hb); clear HB; have HB := n0_; clear n0_; (try clear hb); (try clear hb2); (try clear hk); (try clear hi)))
               go_roundg k1
               case measure => have := HK1.out; omega
               case rel => exact ⟨(x5_1), (wrap64 (x7_1 + 1)), (by first | rfl | (simp; done) | (simp [*]; done)), (by first | rfl | (simp; done) | (simp [*]; done)), H', ⟨by have := HK1.out; omega⟩, ⟨by repeat (first | (with_reducible first | exact HB.out | apply below_alloc | apply pw_below_drewN | apply below_drew1) | exact HB.out)⟩⟩
         · replace c7 := Bool.eq_false_iff.mpr c7
           subst c7
           have H1 : (modes_Join.l0 k1 a0 a1 x5_1 (wrap64 (x7_1 + 1))) = some r := by rw [if_neg (show ¬ (false = true) by decide)] at H; exact H
           clear H
           have H := H1
           clear H1
           have H' := Aside0.mk H
           clear H
           go_wp2_with (first | ((with_reducible refine gate_callee (f := 30) rfl ?_); refine goesL_ (some 12) rfl rfl Tryz.func30 (by kernel_rfl) rfl #[.int .i64 x7_1, .int .i64 a0] rfl (by (try simp only [List.map_toArray, List.map_cons, List.map_nil]); first | done | rfl | (simp only [List.length_drop, List.length_take]; rfl)) ?_; (with_reducible refine (modes_Covers.calls k1 x7_1 a0 true _ A4.out).mono ?_); rintro e w22 ⟨rfl, hb⟩; refine ⟨_, rfl, ?_⟩; have n0_ := Aside0.mk (below_step (by repeat (first | (with_reducible first | exact HB.out | apply below_alloc | apply pw_below_drewN | apply below_drew1) | exact HB.out)) hb); clear HB; have HB := n0_; clear n0_; (try clear hb); (try clear hb2); (try clear hk); (try clear hi)) | (go_at_call 30; (with_reducible refine (modes_Covers.calls k1 x7_1 a1 false _ A6.out).mono ?_); rintro e w23 ⟨rfl, hb⟩; have n0_ := Aside0.mk (below_step (by repeat (first | (with_reducible first | exact HB.out | apply below_alloc | apply pw_below_drewN | apply below_drew1) | exact HB.out)) hb); clear HB; have HB := n0_; clear n0_; (try clear hb); (try clear hb2); (try clear hk); (try clear hi)))
           go_roundg k1
           case measure => have := HK1.out; omega
           case rel => exact ⟨(x5_1), (wrap64 (x7_1 + 1)), (by first | rfl | (simp; done) | (simp [*]; done)), (by first | rfl | (simp; done) | (simp [*]; done)), H', ⟨by have := HK1.out; omega⟩, ⟨by repeat (first | (with_reducible first | exact HB.out | apply below_alloc | apply pw_below_drewN | apply below_drew1) | exact HB.out)⟩⟩
       · replace c5 := Bool.eq_false_iff.mpr c5
         subst c5
         have H1 : (modes_Join.l0 k1 a0 a1 x5_1 (wrap64 (x7_1 + 1))) = some r := by rw [if_neg (show ¬ (false = true) by decide)] at H; exact H
         clear H
         have H := H1
         clear H1
         have H' := Aside0.mk H
         clear H
         go_wp2_with (first | ((with_reducible refine gate_callee (f := 30) rfl ?_); refine goesL_ (some 12) rfl rfl Tryz.func30 (by kernel_rfl) rfl #[.int .i64 x7_1, .int .i64 a0] rfl (by (try simp only [List.map_toArray, List.map_cons, List.map_nil]); first | done | rfl | (simp only [List.length_drop, List.length_take]; rfl)) ?_; (with_reducible refine (modes_Covers.calls k1 x7_1 a0 false _ A4.out).mono ?_); rintro e w24 ⟨rfl, hb⟩; refine ⟨_, rfl, ?_⟩; have n0_ := Aside0.mk (below_step (by repeat (first | (with_reducible first | exact HB.out | apply below_alloc | apply pw_below_drewN | apply below_drew1) | exact HB.out)) hb); clear HB; have HB := n0_; clear n0_; (try clear hb); (try clear hb2); (try clear hk); (try clear hi)))
         go_roundg k1
         case measure => have := HK1.out; omega
         case rel => exact ⟨(x5_1), (wrap64 (x7_1 + 1)), (by first | rfl | (simp; done) | (simp [*]; done)), (by first | rfl | (simp; done) | (simp [*]; done)), H', ⟨by have := HK1.out; omega⟩, ⟨by repeat (first | (with_reducible first | exact HB.out | apply below_alloc | apply pw_below_drewN | apply below_drew1) | exact HB.out)⟩⟩
     · rw [if_neg c3] at H
       have c3b0 : decide (x7_1 < 9) = false := decide_eq_false c3
       clear c3
       obtain rfl := Option.some.inj H
       go_wp2
       go_ret
       exact ⟨by first | rfl | (simp [errW_none, errW_some] <;> rfl) | (simp [*, errW_none, errW_some] <;> rfl), by repeat (first | (with_reducible first | exact HB.out | apply below_alloc | apply pw_below_drewN | apply below_drew1) | exact HB.out)⟩
end Go.Proofs.YtkcjcdkmdooofaaGreat.Q
end
section
namespace Go.Proofs.YtkcjcdkmdooofaaGreat.Q
open Go.RowKit Go.Proofs.YtkcjcdkmdooofaaGreatW.PrintWords Go.Proofs.YtkcjcdkmdooofaaGreatW.PrintLast Go.Proofs.YtkcjcdkmdooofaaGreatW.PrintMore
attribute [local go_sem] max2_int min2_int max_two min_two max_three min_three max_four min_four
def interlockref10_row.f (a0 : Int) : Option (List Int) := if a0 = 1 then (some (([6, 8] : List Int))) else (if a0 = 2 then (some (([3, 5, 6, 8] : List Int))) else (if a0 = 3 then (some (([2, 5, 6, 8] : List Int))) else (if a0 = 4 then (some (([4, 6, 8] : List Int))) else (if a0 = 5 then (some (([2, 3, 5, 6, 8] : List Int))) else (if a0 = 6 then (some (([1, 2, 3, 4, 5, 6, 8] : List Int))) else (if a0 = 7 then (some (([8] : List Int))) else (if a0 = 8 then (some (([1, 2, 3, 4, 5, 6, 7, 8] : List Int))) else (some ([] : List Int)))))))))
set_option maxHeartbeats 8000000 in
set_option maxRecDepth 100000 in
theorem interlockref10_row.calls (a0 : Int) (r : List Int) (w : World) (h : interlockref10_row.f a0 = some r) :
   Calls Tryz.prog 68 #[.int .i64 a0] w fun e w' => ∃ v0_ : Value, e = .returned (v0_) ∧ Kd.R (Kd.int .i64) 3 w' w.heap.size (fun _ => True) v0_ r ∧ Below w.heap.size w w' := by
 have HB := Aside0.mk (Below.refl w.heap.size w)
 have H : (if a0 = 1 then (some (([6, 8] : List Int))) else (if a0 = 2 then (some (([3, 5, 6, 8] : List Int))) else (if a0 = 3 then (some (([2, 5, 6, 8] : List Int))) else (if a0 = 4 then (some (([4, 6, 8] : List Int))) else (if a0 = 5 then (some (([2, 3, 5, 6, 8] : List Int))) else (if a0 = 6 then (some (([1, 2, 3, 4, 5, 6, 8] : List Int))) else (if a0 = 7 then (some (([8] : List Int))) else (if a0 = 8 then (some (([1, 2, 3, 4, 5, 6, 7, 8] : List Int))) else (some ([] : List Int)))))))))) = some r := h
 clear h
 by_cases c2 : a0 = 1
 · rw [if_pos c2] at H
   have c2b0 : (a0 == 1) = true := beq_iff_eq.mpr c2
   have c2b1 : (a0 != 1) = false := bne_eq_false_iff_eq.mpr c2
   clear c2
   obtain ⟨y347, hy347⟩ : ∃ y_ : List Int, y_ = (([6, 8] : List Int)) := ⟨_, rfl⟩
   replace H : (some y347) = some r := by first | (rw [hy347]; with_reducible exact H) | (have H2_ := (Option.bind_some _ _).symm.trans H; rw [hy347]; with_reducible exact H2_) | (have H2_ := (Option.bind_some _ _).symm.trans H; with_reducible exact H2_) | with_reducible exact H | (rw [hy347]; exact H) | exact H
   have Ny347 := Aside0.mk hy347
   clear hy347
   obtain rfl := Option.some.inj H
   go_enter Tryz.func68, Tryz.ntmps68
   go_wp2_with (first | ((with_reducible refine gate_dst (N := 6) rfl ?_); refine Kd.R_lit (Kd.int .i64) _ 3 ?hg (N := 6) ?hd (xs := ([6, 8] : List Int)) (inner := [.int .i64 6, .int .i64 8]) (ok := fun _ => True) (okp := fun _ => True) ?hr ?hp (fun _ hk => hk) trivial (Below.refl _ _) (Nat.le_refl _) (by simp) ?_; (case hd => rfl); (case hg => rfl); (case hr => first | (go_simp; done) | (go_simp; rfl)); (case hp => exact (Reps.one (show Kd.M (Kd.int .i64) _ _ _ 6 [.int .i64 6] from rfl) (Reps.one (show Kd.M (Kd.int .i64) _ _ _ 8 [.int .i64 8] from rfl) (Reps.none _ _)))); intro v348 w3 ho4 hb hg_ hnew_; clear hg_ hnew_; (first | rw [← Ny347.out] at ho4 | (simp only [Int.reduceToNat] at ho4; rw [← Ny347.out] at ho4)); have n0_ := Aside0.mk (Kd.R_lower ho4 (below_size (by repeat (first | (with_reducible first | exact HB.out | apply below_alloc | apply pw_below_drewN | apply below_drew1) | exact HB.out)))); have n1_ := Aside0.mk (below_step (by repeat (first | (with_reducible first | exact HB.out | apply below_alloc | apply pw_below_drewN | apply below_drew1) | exact HB.out)) hb); clear HB; have HO349 := n0_; have HB := n1_; clear n0_ n1_; clear hb ho4))
   go_ret
   exact ⟨_, by first | rfl | (simp [errW_none, errW_some] <;> rfl) | (simp [*, errW_none, errW_some] <;> rfl), by (with_reducible repeat (first | apply Kd.R_alloc | apply Kd.R_drewN | apply Kd.R_drew)); exact HO349.out, by repeat (first | (with_reducible first | exact HB.out | apply below_alloc | apply pw_below_drewN | apply below_drew1) | exact HB.out)⟩
 · rw [if_neg c2] at H
   have c2b0 : (a0 == 1) = false := beq_eq_false_iff_ne.mpr c2
   have c2b1 : (a0 != 1) = true := bne_iff_ne.mpr c2
   by_cases c5 : a0 = 2
   · rw [if_pos c5] at H
     have c5b0 : (a0 == 2) = true := beq_iff_eq.mpr c5
     have c5b1 : (a0 != 2) = false := bne_eq_false_iff_eq.mpr c5
     clear c5
     obtain ⟨y350, hy350⟩ : ∃ y_ : List Int, y_ = (([3, 5, 6, 8] : List Int)) := ⟨_, rfl⟩
     replace H : (some y350) = some r := by first | (rw [hy350]; with_reducible exact H) | (have H2_ := (Option.bind_some _ _).symm.trans H; rw [hy350]; with_reducible exact H2_) | (have H2_ := (Option.bind_some _ _).symm.trans H; with_reducible exact H2_) | with_reducible exact H | (rw [hy350]; exact H) | exact H
     have Ny350 := Aside0.mk hy350
     clear hy350
     obtain rfl := Option.some.inj H
     go_enter Tryz.func68, Tryz.ntmps68
     go_wp2_with (first | ((with_reducible refine gate_dst (N := 9) rfl ?_); refine Kd.R_lit (Kd.int .i64) _ 3 ?hg (N := 9) ?hd (xs := ([3, 5, 6, 8] : List Int)) (inner := [.int .i64 3, .int .i64 5, .int .i64 6, .int .i64 8]) (ok := fun _ => True) (okp := fun _ => True) ?hr ?hp (fun _ hk => hk) trivial (Below.refl _ _) (Nat.le_refl _) (by simp) ?_; (case hd => rfl); (case hg => rfl); (case hr => first | (go_simp; done) | (go_simp; rfl)); (case hp => exact (Reps.one (show Kd.M (Kd.int .i64) _ _ _ 3 [.int .i64 3] from rfl) (Reps.one (show Kd.M (Kd.int .i64) _ _ _ 5 [.int .i64 5] from rfl) (Reps.one (show Kd.M (Kd.int .i64) _ _ _ 6 [.int .i64 6] from rfl) (Reps.one (show Kd.M (Kd.int .i64) _ _ _ 8 [.int .i64 8] from rfl) (Reps.none _ _)))))); intro v351 w6 ho7 hb hg_ hnew_; clear hg_ hnew_; (first | rw [← Ny350.out] at ho7 | (simp only [Int.reduceToNat] at ho7; rw [← Ny350.out] at ho7)); have n0_ := Aside0.mk (Kd.R_lower ho7 (below_size (by repeat (first | (with_reducible first | exact HB.out | apply below_alloc | apply pw_below_drewN | apply below_drew1) | exact HB.out)))); have n1_ := Aside0.mk (below_step (by repeat (first | (with_reducible first | exact HB.out | apply below_alloc | apply pw_below_drewN | apply below_drew1) | exact HB.out)) hb); clear HB; have HO352 := n0_; have HB := n1_; clear n0_ n1_; clear hb ho7))
     go_ret
     exact ⟨_, by first | rfl | (simp [errW_none, errW_some] <;> rfl) | (simp [*, errW_none, errW_some] <;> rfl), by (with_reducible repeat (first | apply Kd.R_alloc | apply Kd.R_drewN | apply Kd.R_drew)); exact HO352.out, by repeat (first | (with_reducible first | exact HB.out | apply below_alloc | apply pw_below_drewN | apply below_drew1) | exact HB.out)⟩
   · rw [if_neg c5] at H
     have c5b0 : (a0 == 2) = false := beq_eq_false_iff_ne.mpr c5
     have c5b1 : (a0 != 2) = true := bne_iff_ne.mpr c5
     by_cases c8 : a0 = 3
     · rw [if_pos c8] at H
       have c8b0 : (a0 == 3) = true := beq_iff_eq.mpr c8
       have c8b1 : (a0 != 3) = false := bne_eq_false_iff_eq.mpr c8
       clear c8
       obtain ⟨y353, hy353⟩ : ∃ y_ : List Int, y_ = (([2, 5, 6, 8] : List Int)) := ⟨_, rfl⟩
       replace H : (some y353) = some r := by first | (rw [hy353]; with_reducible exact H) | (have H2_ := (Option.bind_some _ _).symm.trans H; rw [hy353]; with_reducible exact H2_) | (have H2_ := (Option.bind_some _ _).symm.trans H; with_reducible exact H2_) | with_reducible exact H | (rw [hy353]; exact H) | exact H
       have Ny353 := Aside0.mk hy353
       clear hy353
       obtain rfl := Option.some.inj H
       go_enter Tryz.func68, Tryz.ntmps68
       go_wp2_with (first | ((with_reducible refine gate_dst (N := 12) rfl ?_); refine Kd.R_lit (Kd.int .i64) _ 3 ?hg (N := 12) ?hd (xs := ([2, 5, 6, 8] : List Int)) (inner := [.int .i64 2, .int .i64 5, .int .i64 6, .int .i64 8]) (ok := fun _ => True) (okp := fun _ => True) ?hr ?hp (fun _ hk => hk) trivial (Below.refl _ _) (Nat.le_refl _) (by simp) ?_; (case hd => rfl); (case hg => rfl); (case hr => first | (go_simp; done) | (go_simp; rfl)); (case hp => exact (Reps.one (show Kd.M (Kd.int .i64) _ _ _ 2 [.int .i64 2] from rfl) (Reps.one (show Kd.M (Kd.int .i64) _ _ _ 5 [.int .i64 5] from rfl) (Reps.one (show Kd.M (Kd.int .i64) _ _ _ 6 [.int .i64 6] from rfl) (Reps.one (show Kd.M (Kd.int .i64) _ _ _ 8 [.int .i64 8] from rfl) (Reps.none _ _)))))); intro v354 w9 ho10 hb hg_ hnew_; clear hg_ hnew_; (first | rw [← Ny353.out] at ho10 | (simp only [Int.reduceToNat] at ho10; rw [← Ny353.out] at ho10)); have n0_ := Aside0.mk (Kd.R_lower ho10 (below_size (by repeat (first | (with_reducible first | exact HB.out | apply below_alloc | apply pw_below_drewN | apply below_drew1) | exact HB.out)))); have n1_ := Aside0.mk (below_step (by repeat (first | (with_reducible first | exact HB.out | apply below_alloc | apply pw_below_drewN | apply below_drew1) | exact HB.out)) hb); clear HB; have HO355 := n0_; have HB := n1_; clear n0_ n1_; clear hb ho10))
       go_ret
       exact ⟨_, by first | rfl | (simp [errW_none, errW_some] <;> rfl) | (simp [*, errW_none, errW_some] <;> rfl), by (with_reducible repeat (first | apply Kd.R_alloc | apply Kd.R_drewN | apply Kd.R_drew)); exact HO355.out, by repeat (first | (with_reducible first | exact HB.out | apply below_alloc | apply pw_below_drewN | apply below_drew1) | exact HB.out)⟩
     · rw [if_neg c8] at H
       have c8b0 : (a0 == 3) = false := beq_eq_false_iff_ne.mpr c8
       have c8b1 : (a0 != 3) = true := bne_iff_ne.mpr c8
       by_cases c11 : a0 = 4
       · rw [if_pos c11] at H
         have c11b0 : (a0 == 4) = true := beq_iff_eq.mpr c11
         have c11b1 : (a0 != 4) = false := bne_eq_false_iff_eq.mpr c11
         clear c11
         obtain ⟨y356, hy356⟩ : ∃ y_ : List Int, y_ = (([4, 6, 8] : List Int)) := ⟨_, rfl⟩
         replace H : (some y356) = some r := by first | (rw [hy356]; with_reducible exact H) | (have H2_ := (Option.bind_some _ _).symm.trans H; rw [hy356]; with_reducible exact H2_) | (have H2_ := (Option.bind_some _ _).symm.trans H; with_reducible exact H2_) | with_reducible exact H | (rw [hy356]; exact H) | exact H
         have Ny356 := Aside0.mk hy356
         clear hy356
         obtain rfl := Option.some.inj H
         go_enter Tryz.func68, Tryz.ntmps68
         go_wp2_with (first | ((with_reducible refine gate_dst (N := 15) rfl ?_); refine Kd.R_lit (Kd.int .i64) _ 3 ?hg (N := 15) ?hd (xs := ([4, 6, 8] : List Int)) (inner := [.int .i64 4, .int .i64 6, .int .i64 8]) (ok := fun _ => True) (okp := fun _ => True) ?hr ?hp (fun _ hk => hk) trivial (Below.refl _ _) (Nat.le_refl _) (by simp) ?_; (case hd => rfl); (case hg => rfl); (case hr => first | (go_simp; done) | (go_simp; rfl)); (case hp => exact (Reps.one (show Kd.M (Kd.int .i64) _ _ _ 4 [.int .i64 4] from rfl) (Reps.one (show Kd.M (Kd.int .i64) _ _ _ 6 [.int .i64 6] from rfl) (Reps.one (show Kd.M (Kd.int .i64) _ _ _ 8 [.int .i64 8] from rfl) (Reps.none _ _))))); intro v357 w12 ho13 hb hg_ hnew_; clear hg_ hnew_; (first | rw [← Ny356.out] at ho13 | (simp only [Int.reduceToNat] at ho13; rw [← Ny356.out] at ho13)); have n0_ := Aside0.mk (Kd.R_lower ho13 (below_size (by repeat (first | (with_reducible first | exact HB.out | apply below_alloc | apply pw_below_drewN | apply below_drew1) | exact HB.out)))); have n1_ := Aside0.mk (below_step (by repeat (first | (with_reducible first | exact HB.out | apply below_alloc | apply pw_below_drewN | apply below_drew1) | exact HB.out)) hb); clear HB; have HO358 := n0_; have HB := n1_; clear n0_ n1_; clear hb ho13))
         go_ret
         exact ⟨_, by first | rfl | (simp [errW_none, errW_some] <;> rfl) | (simp [*, errW_none, errW_some] <;> rfl), by (with_reducible repeat (first | apply Kd.R_alloc | apply Kd.R_drewN | apply Kd.R_drew)); exact HO358.out, by repeat (first | (with_reducible first | exact HB.out | apply below_alloc | apply pw_below_drewN | apply below_drew1) | exact HB.out)⟩
       · rw [if_neg c11] at H
         have c11b0 : (a0 == 4) = false := beq_eq_false_iff_ne.mpr c11
         have c11b1 : (a0 != 4) = true := bne_iff_ne.mpr c11
         by_cases c14 : a0 = 5
         · rw [if_pos c14] at H
           have c14b0 : (a0 == 5) = true := beq_iff_eq.mpr c14
           have c14b1 : (a0 != 5) = false := bne_eq_false_iff_eq.mpr c14
           clear c14
           obtain ⟨y359, hy359⟩ : ∃ y_ : List Int, y_ = (([2, 3, 5, 6, 8] : List Int)) := ⟨_, rfl⟩
           replace H : (some y359) = some r := by first | (rw [hy359]; with_reducible exact H) | (have H2_ := (Option.bind_some _ _).symm.trans H; rw [hy359]; with_reducible exact H2_) | (have H2_ := (Option.bind_some _ _).symm.trans H; with_reducible exact H2_) | with_reducible exact H | (rw [hy359]; exact H) | exact H
           have Ny359 := Aside0.mk hy359
           clear hy359
           obtain rfl := Option.some.inj H
           go_enter Tryz.func68, Tryz.ntmps68
           go_wp2_with (first | ((with_reducible refine gate_dst (N := 18) rfl ?_); refine Kd.R_lit (Kd.int .i64) _ 3 ?hg (N := 18) ?hd (xs := ([2, 3, 5, 6, 8] : List Int)) (inner := [.int .i64 2, .int .i64 3, .int .i64 5, .int .i64 6, .int .i64 8]) (ok := fun _ => True) (okp := fun _ => True) ?hr ?hp (fun _ hk => hk) trivial (Below.refl _ _) (Nat.le_refl _) (by simp) ?_; (case hd => rfl); (case hg => rfl); (case hr => first | (go_simp; done) | (go_simp; rfl)); (case hp => exact (Reps.one (show Kd.M (Kd.int .i64) _ _ _ 2 [.int .i64 2] from rfl) (Reps.one (show Kd.M (Kd.int .i64) _ _ _ 3 [.int .i64 3] from rfl) (Reps.one (show Kd.M (Kd.int .i64) _ _ _ 5 [.int .i64 5] from rfl) (Reps.one (show Kd.M (Kd.int .i64) _ _ _ 6 [.int .i64 6] from rfl) (Reps.one (show Kd.M (Kd.int .i64) _ _ _ 8 [.int .i64 8] from rfl) (Reps.none _ _))))))); intro v360 w15 ho16 hb hg_ hnew_; clear hg_ hnew_; (first | rw [← Ny359.out] at ho16 | (simp only [Int.reduceToNat] at ho16; rw [← Ny359.out] at ho16)); have n0_ := Aside0.mk (Kd.R_lower ho16 (below_size (by repeat (first | (with_reducible first | exact HB.out | apply below_alloc | apply pw_below_drewN | apply below_drew1) | exact HB.out)))); have n1_ := Aside0.mk (below_step (by repeat (first | (with_reducible first | exact HB.out | apply below_alloc | apply pw_below_drewN | apply below_drew1) | exact HB.out)) hb); clear HB; have HO361 := n0_; have HB := n1_; clear n0_ n1_; clear hb ho16))
           go_ret
           exact ⟨_, by first | rfl | (simp [errW_none, errW_some] <;> rfl) | (simp [*, errW_none, errW_some] <;> rfl), by (with_reducible repeat (first | apply Kd.R_alloc | apply Kd.R_drewN | apply Kd.R_drew)); exact HO361.out, by repeat (first | (with_reducible first | exact HB.out | apply below_alloc | apply pw_below_drewN | apply below_drew1) | exact HB.out)⟩
         · rw [if_neg c14] at H
           have c14b0 : (a0 == 5) = false := beq_eq_false_iff_ne.mpr c14
           have c14b1 : (a0 != 5) = true := bne_iff_ne.mpr c14
           by_cases c17 : a0 = 6
           · rw [if_pos c17] at H
             have c17b0 : (a0 == 6) = true := beq_iff_eq.mpr c17
             have c17b1 : (a0 != 6) = false := bne_eq_false_iff_eq.mpr c17
             clear c17
             obtain ⟨y362, hy362⟩ : ∃ y_ : List Int, y_ = (([1, 2, 3, 4, 5, 6, 8] : List Int)) := ⟨_, rfl⟩
             replace H : (some y362) = some r := by first | (rw [hy362]; with_reducible exact H) | (have H2_ := (Option.bind_some _ _).symm.trans H; rw [hy362]; with_reducible exact H2_) | (have H2_ := (Option.bind_some _ _).symm.trans H; with_reducible exact H2_) | with_reducible exact H | (rw [hy362]; exact H) | exact H
             have Ny362 := Aside0.mk hy362
             clear hy362
             obtain rfl := Option.some.inj H
             go_enter Tryz.func68, Tryz.ntmps68
             go_wp2_with (first | ((with_reducible refine gate_dst (N := 21) rfl ?_); refine Kd.R_lit (Kd.int .i64) _ 3 ?hg (N := 21) ?hd (xs := ([1, 2, 3, 4, 5, 6, 8] : List Int)) (inner := [.int .i64 1, .int .i64 2, .int .i64 3, .int .i64 4, .int .i64 5, .int .i64 6, .int .i64 8]) (ok := fun _ => True) (okp := fun _ => True) ?hr ?hp (fun _ hk => hk) trivial (Below.refl _ _) (Nat.le_refl _) (by simp) ?_; (case hd => rfl); (case hg => rfl); (case hr => first | (go_simp; done) | (go_simp; rfl)); (case hp => exact (Reps.one (show Kd.M (Kd.int .i64) _ _ _ 1 [.int .i64 1] from rfl) (Reps.one (show Kd.M (Kd.int .i64) _ _ _ 2 [.int .i64 2] from rfl) (Reps.one (show Kd.M (Kd.int .i64) _ _ _ 3 [.int .i64 3] from rfl) (Reps.one (show Kd.M (Kd.int .i64) _ _ _ 4 [.int .i64 4] from rfl) (Reps.one (show Kd.M (Kd.int .i64) _ _ _ 5 [.int .i64 5] from rfl) (Reps.one (show Kd.M (Kd.int .i64) _ _ _ 6 [.int .i64 6] from rfl) (Reps.one (show Kd.M (Kd.int .i64) _ _ _ 8 [.int .i64 8] from rfl) (Reps.none _ _))))))))); intro v363 w18 ho19 hb hg_ hnew_; clear hg_ hnew_; (first | rw [← Ny362.out] at ho19 | (simp only [Int.reduceToNat] at ho19; rw [← Ny362.out] at ho19)); have n0_ := Aside0.mk (Kd.R_lower ho19 (below_size (by repeat (first | (with_reducible first | exact HB.out | apply below_alloc | apply pw_below_drewN | apply below_drew1) | exact HB.out)))); have n1_ := Aside0.mk (below_step (by repeat (first | (with_reducible first | exact HB.out | apply below_alloc | apply pw_below_drewN | apply below_drew1) | exact HB.out)) hb); clear HB; have HO364 := n0_; have HB := n1_; clear n0_ n1_; clear hb ho19))
             go_ret
             exact ⟨_, by first | rfl | (simp [errW_none, errW_some] <;> rfl) | (simp [*, errW_none, errW_some] <;> rfl), by (with_reducible repeat (first | apply Kd.R_alloc | apply Kd.R_drewN | apply Kd.R_drew)); exact HO364.out, by repeat (first | (with_reducible first | exact HB.out | apply below_alloc | apply pw_below_drewN | apply below_drew1) | exact HB.out)⟩
           · rw [if_neg c17] at H
             have c17b0 : (a0 == 6) = false := beq_eq_false_iff_ne.mpr c17
             have c17b1 : (a0 != 6) = true := bne_iff_ne.mpr c17
             by_cases c20 : a0 = 7
             · rw [if_pos c20] at H
               have c20b0 : (a0 == 7) = true := beq_iff_eq.mpr c20
               have c20b1 : (a0 != 7) = false := bne_eq_false_iff_eq.mpr c20
               clear c20
               obtain ⟨y365, hy365⟩ : ∃ y_ : List Int, y_ = (([8] : List Int)) := ⟨_, rfl⟩
               replace H : (some y365) = some r := by first | (rw [hy365]; with_reducible exact H) | (have H2_ := (Option.bind_some _ _).symm.trans H; rw [hy365]; with_reducible exact H2_) | (have H2_ := (Option.bind_some _ _).symm.trans H; with_reducible exact H2_) | with_reducible exact H | (rw [hy365]; exact H) | exact H
               have Ny365 := Aside0.mk hy365
               clear hy365
               obtain rfl := Option.some.inj H
               go_enter Tryz.func68, Tryz.ntmps68
               go_wp2_with (first | ((with_reducible refine gate_dst (N := 24) rfl ?_); refine Kd.R_lit (Kd.int .i64) _ 3 ?hg (N := 24) ?hd (xs := ([8] : List Int)) (inner := [.int .i64 8]) (ok := fun _ => True) (okp := fun _ => True) ?hr ?hp (fun _ hk => hk) trivial (Below.refl _ _) (Nat.le_refl _) (by simp) ?_; (case hd => rfl); (case hg => rfl); (case hr => first | (go_simp; done) | (go_simp; rfl)); (case hp => exact (Reps.one (show Kd.M (Kd.int .i64) _ _ _ 8 [.int .i64 8] from rfl) (Reps.none _ _))); intro v366 w21 ho22 hb hg_ hnew_; clear hg_ hnew_; (first | rw [← Ny365.out] at ho22 | (simp only [Int.reduceToNat] at ho22; rw [← Ny365.out] at ho22)); have n0_ := Aside0.mk (Kd.R_lower ho22 (below_size (by repeat (first | (with_reducible first | exact HB.out | apply below_alloc | apply pw_below_drewN | apply below_drew1) | exact HB.out)))); have n1_ := Aside0.mk (below_step (by repeat (first | (with_reducible first | exact HB.out | apply below_alloc | apply pw_below_drewN | apply below_drew1) | exact HB.out)) hb); clear HB; have HO367 := n0_; have HB := n1_; clear n0_ n1_; clear hb ho22))
               go_ret
               exact ⟨_, by first | rfl | (simp [errW_none, errW_some] <;> rfl) | (simp [*, errW_none, errW_some] <;> rfl), by (with_reducible repeat (first | apply Kd.R_alloc | apply Kd.R_drewN | apply Kd.R_drew)); exact HO367.out, by repeat (first | (with_reducible first | exact HB.out | apply below_alloc | apply pw_below_drewN | apply below_drew1) | exact HB.out)⟩
             · rw [if_neg c20] at H
               have c20b0 : (a0 == 7) = false := beq_eq_false_iff_ne.mpr c20
               have c20b1 : (a0 != 7) = true := bne_iff_ne.mpr c20
               by_cases c23 : a0 = 8
               · rw [if_pos c23] at H
                 have c23b0 : (a0 == 8) = true := beq_iff_eq.mpr c23
                 have c23b1 : (a0 != 8) = false := bne_eq_false_iff_eq.mpr c23
                 clear c23
                 obtain ⟨y368, hy368⟩ : ∃ y_ : List Int, y_ = (([1, 2, 3, 4, 5, 6, 7, 8] : List Int)) := ⟨_, rfl⟩
                 replace H : (some y368) = some r := by first | (rw [hy368]; with_reducible exact H) | (have H2_ := (Option.bind_some _ _).symm.trans H; rw [hy368]; with_reducible exact H2_) | (have H2_ := (Option.bind_some _ _).symm.trans H; with_reducible exact H2_) | with_reducible exact H | (rw [hy368]; exact H) | exact H
                 have Ny368 := Aside0.mk hy368
                 clear hy368
                 obtain rfl := Option.some.inj H
                 go_enter Tryz.func68, Tryz.ntmps68
                 go_wp2_with (first | ((with_reducible refine gate_dst (N := 27) rfl ?_); refine Kd.R_lit (Kd.int .i64) _ 3 ?hg (N := 27) ?hd (xs := ([1, 2, 3, 4, 5, 6, 7, 8] : List Int)) (inner := [.int .i64 1, .int .i64 2, .int .i64 3, .int .i64 4, .int .i64 5, .int .i64 6, .int .i64 7, .int .i64 8]) (ok := fun _ => True) (okp := fun _ => True) ?hr ?hp (fun _ hk => hk) trivial (Below.refl _ _) (Nat.le_refl _) (by simp) ?_; (case hd => rfl); (case hg => rfl); (case hr => first | (go_simp; done) | (go_simp; rfl)); (case hp => exact (Reps.one (show Kd.M (Kd.int .i64) _ _ _ 1 [.int .i64 1] from rfl) (Reps.one (show Kd.M (Kd.int .i64) _ _ _ 2 [.int .i64 2] from rfl) (Reps.one (show Kd.M (Kd.int .i64) _ _ _ 3 [.int .i64 3] from rfl) (Reps.one (show Kd.M (Kd.int .i64) _ _ _ 4 [.int .i64 4] from rfl) (Reps.one (show Kd.M (Kd.int .i64) _ _ _ 5 [.int .i64 5] from rfl) (Reps.one (show Kd.M (Kd.int .i64) _ _ _ 6 [.int .i64 6] from rfl) (Reps.one (show Kd.M (Kd.int .i64) _ _ _ 7 [.int .i64 7] from rfl) (Reps.one (show Kd.M (Kd.int .i64) _ _ _ 8 [.int .i64 8] from rfl) (Reps.none _ _)))))))))); intro v369 w24 ho25 hb hg_ hnew_; clear hg_ hnew_; (first | rw [← Ny368.out] at ho25 | (simp only [Int.reduceToNat] at ho25; rw [← Ny368.out] at ho25)); have n0_ := Aside0.mk (Kd.R_lower ho25 (below_size (by repeat (first | (with_reducible first | exact HB.out | apply below_alloc | apply pw_below_drewN | apply below_drew1) | exact HB.out)))); have n1_ := Aside0.mk (below_step (by repeat (first | (with_reducible first | exact HB.out | apply below_alloc | apply pw_below_drewN | apply below_drew1) | exact HB.out)) hb); clear HB; have HO370 := n0_; have HB := n1_; clear n0_ n1_; clear hb ho25))
                 go_ret
                 exact ⟨_, by first | rfl | (simp [errW_none, errW_some] <;> rfl) | (simp [*, errW_none, errW_some] <;> rfl), by (with_reducible repeat (first | apply Kd.R_alloc | apply Kd.R_drewN | apply Kd.R_drew)); exact HO370.out, by repeat (first | (with_reducible first | exact HB.out | apply below_alloc | apply pw_below_drewN | apply below_drew1) | exact HB.out)⟩
               · rw [if_neg c23] at H
                 have c23b0 : (a0 == 8) = false := beq_eq_false_iff_ne.mpr c23
                 have c23b1 : (a0 != 8) = true := bne_iff_ne.mpr c23
                 obtain rfl := Option.some.inj H
                 go_enter Tryz.func68, Tryz.ntmps68
                 go_wp2
                 go_ret
                 exact ⟨_, by first | rfl | (simp [errW_none, errW_some] <;> rfl) | (simp [*, errW_none, errW_some] <;> rfl), by first | exact Kd.R_nil _ _ _ _ _ | exact Kd.N_nil _ _ _ _ _ | exact Kd.V_nil _ _ _ _ _ | exact Kd.Q_nil _ _ _ _ _ | exact Kd.S_nil _ _ _ _ _, by repeat (first | (with_reducible first | exact HB.out | apply below_alloc | apply pw_below_drewN | apply below_drew1) | exact HB.out)⟩
end Go.Proofs.YtkcjcdkmdooofaaGreat.Q
end
