/- Packed by shake.py: YtnojcnmnkkgkgaaJV1 YtnojcnmnkkgkgaaJV2 YtnojcnmnkkgkgaaJV3 YtnojcnmnkkgkgaaR YtnojcnmnkkgkgaaJL6 -/
import Derived.Deep.Slices
import Derived.ChangeArms
import Derived.DataReads
import Derived.OpenShut
import Derived.Test.YtnojcnmnkkgkgaaV6
set_option linter.unusedSectionVars false
section
namespace Go.Proofs.Kb
open Go Go.RowKit Go.Proofs.Ytnojcnmnkkgkgaa.Q Go.Proofs.YtnojcnmnkkgkgaaW.PrintWords Go.Proofs.YtnojcnmnkkgkgaaW.PrintLast Go.Proofs.YtnojcnmnkkgkgaaW.PrintMore
set_option linter.unusedVariables false
set_option linter.unusedSimpArgs false
set_option maxRecDepth 100000
theorem sr_l0 (l : List S60) (hl : l.length ≤ 1000000) : ∀ (m : Nat) (i : Int) (k : Nat), 0 ≤ i → i + m = l.length → interlockref00_SameRow.l0 (k + m + 1) l l i = some true
  | 0, i, k, h0, hm => by
    unfold interlockref00_SameRow.l0
    rw [if_neg (by omega)]
  | m + 1, i, k, h0, hm => by
    have ih := sr_l0 l hl m (i + 1) k (by omega) (by omega)
    unfold interlockref00_SameRow.l0
    rw [if_pos (by omega), if_pos h0, if_pos (by omega), if_neg (by simp), IntWalk.wrap64_in _ (by omega)]
    exact ih
theorem sr_f (l : List S60) (hl : l.length ≤ 1000000) (K : Nat) (hK : l.length + 1 ≤ K) : interlockref00_SameRow.f K l l = some true := by
  obtain ⟨k, rfl⟩ : ∃ k, K = k + l.length + 1 := ⟨K - l.length - 1, by omega⟩
  unfold interlockref00_SameRow.f
  rw [if_pos rfl]
  exact sr_l0 l hl l.length 0 k (Int.le_refl _) (by omega)
theorem sc_l0 (l : List S64) (hl : l.length ≤ 1000000) : ∀ (m : Nat) (i : Int) (k : Nat), 0 ≤ i → i + m = l.length → interlockref00_SameConds.l0 (k + m + 1) l l i = some true
  | 0, i, k, h0, hm => by
    unfold interlockref00_SameConds.l0
    rw [if_neg (by omega)]
  | m + 1, i, k, h0, hm => by
    have ih := sc_l0 l hl m (i + 1) k (by omega) (by omega)
    unfold interlockref00_SameConds.l0
    rw [if_pos (by omega), if_pos h0, if_pos (by omega), if_neg (by simp), IntWalk.wrap64_in _ (by omega)]
    exact ih
theorem sc_f (l : List S64) (hl : l.length ≤ 1000000) (K : Nat) (hK : l.length + 1 ≤ K) : interlockref00_SameConds.f K l l = some true := by
  obtain ⟨k, rfl⟩ : ∃ k, K = k + l.length + 1 := ⟨K - l.length - 1, by omega⟩
  unfold interlockref00_SameConds.f
  rw [if_pos rfl]
  exact sc_l0 l hl l.length 0 k (Int.le_refl _) (by omega)
theorem st_l0 (l : List ByteArray) (hl : l.length ≤ 1000000) : ∀ (m : Nat) (i : Int) (k : Nat), 0 ≤ i → i + m = l.length → interlockref00_SameTexts.l0 (k + m + 1) l l i = some true
  | 0, i, k, h0, hm => by
    unfold interlockref00_SameTexts.l0
    rw [if_neg (by omega)]
  | m + 1, i, k, h0, hm => by
    have ih := st_l0 l hl m (i + 1) k (by omega) (by omega)
    unfold interlockref00_SameTexts.l0
    rw [if_pos (by omega), if_pos h0, if_pos (by omega), if_pos rfl, IntWalk.wrap64_in _ (by omega)]
    exact ih
theorem st_f (l : List ByteArray) (hl : l.length ≤ 1000000) (K : Nat) (hK : l.length + 1 ≤ K) : interlockref00_SameTexts.f K l l = some true := by
  obtain ⟨k, rfl⟩ : ∃ k, K = k + l.length + 1 := ⟨K - l.length - 1, by omega⟩
  unfold interlockref00_SameTexts.f
  rw [if_pos rfl]
  exact st_l0 l hl l.length 0 k (Int.le_refl _) (by omega)
section
variable (a0 : Int) (a1 a2 a3 : ByteArray) (a4 : Int) (a5 : Bool) (l6 : List S60) (l7 : List S62) (l8 : List S64) (l9 : List S66) (l10 : List ByteArray)
theorem ss_l1 (hl : l9.length ≤ 1000000) : ∀ (m : Nat) (i : Int) (k : Nat), 0 ≤ i → i + m = l9.length → interlockref00_SameStmt.l1 (k + m + 1) i a0 a1 a2 a3 a4 a5 l6 l7 l8 l9 l10 a0 a1 a2 a3 a4 a5 l6 l7 l8 l9 l10 = some true
  | 0, i, k, h0, hm => by
    unfold interlockref00_SameStmt.l1
    rw [if_neg (by omega)]
  | m + 1, i, k, h0, hm => by
    have ih := ss_l1 hl m (i + 1) k (by omega) (by omega)
    unfold interlockref00_SameStmt.l1
    rw [if_pos (by omega), if_pos h0, if_pos (by omega), if_neg (by simp), IntWalk.wrap64_in _ (by omega)]
    exact ih
theorem ss_l0 (hl7 : l7.length ≤ 1000000) (hl9 : l9.length ≤ 1000000) : ∀ (m : Nat) (i : Int) (k : Nat), 0 ≤ i → i + m = l7.length → interlockref00_SameStmt.l0 ((k + l9.length + 1) + m + 1) i a0 a1 a2 a3 a4 a5 l6 l7 l8 l9 l10 a0 a1 a2 a3 a4 a5 l6 l7 l8 l9 l10 = some true
  | 0, i, k, h0, hm => by
    have ih := ss_l1 a0 a1 a2 a3 a4 a5 l6 l7 l8 l9 l10 hl9 l9.length 0 k (Int.le_refl _) (by omega)
    unfold interlockref00_SameStmt.l0
    rw [if_neg (by omega)]
    exact ih
  | m + 1, i, k, h0, hm => by
    have ih := ss_l0 hl7 hl9 m (i + 1) k (by omega) (by omega)
    unfold interlockref00_SameStmt.l0
    rw [if_pos (by omega), if_pos h0, if_pos (by omega), if_neg (by simp), IntWalk.wrap64_in _ (by omega)]
    exact ih
theorem ss_f (h6 : l6.length ≤ 1000000) (h7 : l7.length ≤ 1000000) (h8 : l8.length ≤ 1000000) (h9 : l9.length ≤ 1000000) (h10 : l10.length ≤ 1000000) : ∃ K, interlockref00_SameStmt.f K a0 a1 a2 a3 a4 a5 l6 l7 l8 l9 l10 a0 a1 a2 a3 a4 a5 l6 l7 l8 l9 l10 = some true := by
  obtain ⟨k, hk⟩ : ∃ k, k = l6.length + l8.length + l10.length + 3 := ⟨_, rfl⟩
  refine ⟨((k + l9.length + 1) + l7.length + 1) + 1, ?_⟩
  unfold interlockref00_SameStmt.f
  rw [if_pos rfl, if_pos rfl, if_pos rfl, if_pos rfl, if_pos rfl, if_neg (by simp), sr_f l6 h6 _ (by omega)]
  simp only [Option.bind_some, ↓reduceIte]
  rw [sc_f l8 h8 _ (by omega)]
  simp only [Option.bind_some, ↓reduceIte]
  rw [st_f l10 h10 _ (by omega)]
  simp only [Option.bind_some, ↓reduceIte]
  have e : ((l9.length : Int) != (l9.length : Int)) = false := by simp
  rw [e]
  exact ss_l0 a0 a1 a2 a3 a4 a5 l6 l7 l8 l9 l10 h7 h9 l7.length 0 k (Int.le_refl _) (by omega)
end
theorem sameRow_calls (w : World) (A : Option Addr) (c : Nat) (A' : Option Addr) (c' : Nat) (l : List S60) (hl : l.length ≤ 1000000) (h : Kd.C k60 w A l.length l) (hc : l.length ≤ c) (h' : Kd.C k60 w A' l.length l) (hc' : l.length ≤ c') :
    Calls Try.prog 18 #[.slice A l.length c, .slice A' l.length c'] w fun E w' => E = .returned (.bool true) ∧ Below w.heap.size w w' :=
  (interlockref00_SameRow.calls _ A c l A' c' l true w h hc h' hc' (sr_f l hl _ (Nat.le_refl _))).mono fun E w' ⟨e, hb⟩ => ⟨e, hb.below⟩
theorem sameTexts_calls (w : World) (A : Option Addr) (c : Nat) (A' : Option Addr) (c' : Nat) (l : List ByteArray) (hl : l.length ≤ 1000000) (h : Kd.C Kd.string w A l.length l) (hc : l.length ≤ c) (h' : Kd.C Kd.string w A' l.length l) (hc' : l.length ≤ c') :
    Calls Try.prog 20 #[.slice A l.length c, .slice A' l.length c'] w fun E w' => E = .returned (.bool true) ∧ Below w.heap.size w w' :=
  (interlockref00_SameTexts.calls _ A c l A' c' l true w h hc h' hc' (st_f l hl _ (Nat.le_refl _))).mono fun E w' ⟨e, hb⟩ => ⟨e, hb.below⟩
def SameN (y x : SV) : Prop := y.f0 = x.f0 ∧ y.f1 = x.f1 ∧ y.f2 = x.f2 ∧ y.f3 = x.f3 ∧ y.f4 = x.f4 ∧ y.f5 = x.f5
theorem sameStmt_calls (w : World) (x y : SV) (l6 : List S60) (l7 : List S62) (l8 : List S64) (l9 : List S66) (l10 : List ByteArray) (hn : SN l6 l7 l8 l9 l10) (he : SameN y x) (h : CK w y l6 l7 l8 l9 l10) (h' : CK w x l6 l7 l8 l9 l10) :
    Calls Try.prog 21 #[.agg #[.int .i64 y.f0, .string y.f1, .string y.f2, .string y.f3, .int .i64 y.f4, .bool y.f5, .slice y.f6.A y.f6.n y.f6.c, .slice y.f7.A y.f7.n y.f7.c, .slice y.f8.A y.f8.n y.f8.c, .slice y.f9.A y.f9.n y.f9.c, .slice y.f10.A y.f10.n y.f10.c], .agg #[.int .i64 x.f0, .string x.f1, .string x.f2, .string x.f3, .int .i64 x.f4, .bool x.f5, .slice x.f6.A x.f6.n x.f6.c, .slice x.f7.A x.f7.n x.f7.c, .slice x.f8.A x.f8.n x.f8.c, .slice x.f9.A x.f9.n x.f9.c, .slice x.f10.A x.f10.n x.f10.c]] w fun E w' => E = .returned (.bool true) ∧ Below w.heap.size w w' := by
  obtain ⟨k, hk⟩ := ss_f x.f0 x.f1 x.f2 x.f3 x.f4 x.f5 l6 l7 l8 l9 l10 (Nat.le_of_lt hn.n6) (Nat.le_of_lt hn.n7) (Nat.le_of_lt hn.n8) (Nat.le_of_lt hn.n9) (Nat.le_of_lt hn.n10)
  obtain ⟨e0, e1, e2, e3, e4, e5⟩ := he
  have h1 := interlockref00_SameStmt.calls k x.f0 x.f1 x.f2 x.f3 x.f4 x.f5 y.f6.A y.f6.c l6 y.f7.A y.f7.c l7 y.f8.A y.f8.c l8 y.f9.A y.f9.c l9 y.f10.A y.f10.c l10 x.f0 x.f1 x.f2 x.f3 x.f4 x.f5 x.f6.A x.f6.c l6 x.f7.A x.f7.c l7 x.f8.A x.f8.c l8 x.f9.A x.f9.c l9 x.f10.A x.f10.c l10 true w h.n6.2.2 h.n6.2.1 h.n7.2.2 h.n7.2.1 h.n8.2.2 h.n8.2.1 h.n9.2.2 h.n9.2.1 h.n10.2.2 h.n10.2.1 h'.n6.2.2 h'.n6.2.1 h'.n7.2.2 h'.n7.2.1 h'.n8.2.2 h'.n8.2.1 h'.n9.2.2 h'.n9.2.1 h'.n10.2.2 h'.n10.2.1 hk
  rw [e0, e1, e2, e3, e4, e5, h.n6.1, h.n7.1, h.n8.1, h.n9.1, h.n10.1, h'.n6.1, h'.n7.1, h'.n8.1, h'.n9.1, h'.n10.1]
  exact h1
theorem copyRow_calls (w : World) (A : Option Addr) (c : Nat) (l : List S60) (hl : l.length ≤ 1000000) (h : Kd.C k60 w A l.length l) (hc : l.length ≤ c) :
    Calls Try.prog 15 #[.slice A l.length c] w fun E w' => ∃ A' c', E = .returned (.slice A' l.length c') ∧ RowX valE w' (.slice A' l.length c') l ∧ Below w.heap.size w w' ∧ ∀ b ∈ bl (.slice A' l.length c'), w.heap.size ≤ b :=
  (interlockref00_CopyRow.calls A c l l w h hc (by
    unfold interlockref00_CopyRow.f
    simp only [Option.bind_some, List.length_nil, List.nil_append]
    rw [if_pos (by omega)])).mono fun E w' ⟨v, e, hr, hb⟩ => by
      obtain ⟨A', c', rfl⟩ := Kd.R_slice hr
      obtain ⟨h1, h2⟩ := RowX.of_R (E := valE) rfl (fun h => k60_openM h) hr
      exact ⟨A', c', e, h1, hb, h2⟩
theorem copyStmt_calls (w : World) (x : SV) (l6 : List S60) (l7 : List S62) (l8 : List S64) (l9 : List S66) (l10 : List ByteArray) (hn : SN l6 l7 l8 l9 l10) (h : CK w x l6 l7 l8 l9 l10) :
    Calls Try.prog 14 #[.agg #[.int .i64 x.f0, .string x.f1, .string x.f2, .string x.f3, .int .i64 x.f4, .bool x.f5, .slice x.f6.A x.f6.n x.f6.c, .slice x.f7.A x.f7.n x.f7.c, .slice x.f8.A x.f8.n x.f8.c, .slice x.f9.A x.f9.n x.f9.c, .slice x.f10.A x.f10.n x.f10.c]] w fun E w' => ∃ y : SV, SameN y x ∧ E = .returned (.agg #[.int .i64 y.f0, .string y.f1, .string y.f2, .string y.f3, .int .i64 y.f4, .bool y.f5, .slice y.f6.A y.f6.n y.f6.c, .slice y.f7.A y.f7.n y.f7.c, .slice y.f8.A y.f8.n y.f8.c, .slice y.f9.A y.f9.n y.f9.c, .slice y.f10.A y.f10.n y.f10.c]) ∧ CK w' y l6 l7 l8 l9 l10 ∧ Below w.heap.size w w' := by
  have h1 := interlockref00_CopyStmt.calls x.f0 x.f1 x.f2 x.f3 x.f4 x.f5 x.f6.A x.f6.c l6 x.f7.A x.f7.c l7 x.f8.A x.f8.c l8 x.f9.A x.f9.c l9 x.f10.A x.f10.c l10 x.f0 x.f1 x.f2 x.f3 x.f4 x.f5 l6 l7 l8 l9 l10 w h.n6.2.2 h.n6.2.1 h.n7.2.2 h.n7.2.1 h.n8.2.2 h.n8.2.1 h.n9.2.2 h.n9.2.1 h.n10.2.2 h.n10.2.1 (by
    have n6 := hn.n6
    have n7 := hn.n7
    have n8 := hn.n8
    have n9 := hn.n9
    have n10 := hn.n10
    unfold interlockref00_CopyStmt.f interlockref00_CopyRow.f interlockref00_CopyConds.f interlockref00_CopyTexts.f
    simp only [Option.bind_some, List.length_nil, List.nil_append, Nat.zero_add]
    rw [if_pos (by omega)]
    simp only [Option.bind_some]
    rw [if_pos (by omega), if_pos (by omega)]
    simp only [Option.bind_some]
    rw [if_pos (by omega), if_pos (by omega)]
    rfl)
  rw [h.n6.1, h.n7.1, h.n8.1, h.n9.1, h.n10.1]
  refine h1.mono fun E w' ⟨v6, v7, v8, v9, v10, e, r6, r7, r8, r9, r10, hb⟩ => ?_
  obtain ⟨A6, c6, e6, q6, k6⟩ := Kd.R_reads r6
  obtain ⟨A7, c7, e7, q7, k7⟩ := Kd.R_reads r7
  obtain ⟨A8, c8, e8, q8, k8⟩ := Kd.R_reads r8
  obtain ⟨A9, c9, e9, q9, k9⟩ := Kd.R_reads r9
  obtain ⟨A10, c10, e10, q10, k10⟩ := Kd.R_reads r10
  subst e6 e7 e8 e9 e10
  exact ⟨⟨x.f0, x.f1, x.f2, x.f3, x.f4, x.f5, ⟨A6, l6.length, c6⟩, ⟨A7, l7.length, c7⟩, ⟨A8, l8.length, c8⟩, ⟨A9, l9.length, c9⟩, ⟨A10, l10.length, c10⟩⟩, ⟨rfl, rfl, rfl, rfl, rfl, rfl⟩, e, ⟨⟨rfl, q6, k6⟩, ⟨rfl, q7, k7⟩, ⟨rfl, q8, k8⟩, ⟨rfl, q9, k9⟩, ⟨rfl, q10, k10⟩⟩, hb⟩
theorem ck_sr {w0 w : World} {F : Nat → Prop} {y : SV} {l6 : List S60} {l7 : List S62} {l8 : List S64} {l9 : List S66} {l10 : List ByteArray} {R : List Chunk} (h : St w0 F w (srC y l6 l7 l8 l9 l10 ++ R)) : CK w y l6 l7 l8 l9 l10 := by
  have r6 := (show St w0 F w (rowXC valE y.f6.v l6 :: rowXC setE y.f7.v l7 :: rowXC cndE y.f8.v l8 :: rowXC colE y.f9.v l9 :: rowXC txtE y.f10.v l10 :: R) from h)
  have go : ∀ {α : Type} {E : EncT α} {s : Sl} {l : List α} (d : Kd α) (hsz : d.sz = E.sz) (hmk : ∀ x, d.K w x (E.enc x)), RowX E w s.v l → s.n = l.length ∧ l.length ≤ s.c ∧ Kd.C d w s.A l.length l := fun {α E s l} d hsz hmk hr => by
    obtain ⟨a, b, c⟩ := RowX.capOk (A := s.A) (n := s.n) (c := s.c) hr
    refine ⟨a, b, ?_⟩
    have h2 := hr.src
    unfold Sl.v at h2
    rw [a] at h2
    exact Src.toC d hsz hmk h2 c
  exact ⟨go k60 rfl (fun x => k60_mk w x) (r6.rowX 0 rfl), go k62 rfl (fun x => k62_mk w x) (r6.rowX 1 rfl), go k64 rfl (fun x => k64_mk w x) (r6.rowX 2 rfl), go k66 rfl (fun x => k66_mk w x) (r6.rowX 3 rfl), go (E := txtE) Kd.string rfl (fun x => rfl) (r6.rowX 4 rfl)⟩
end Go.Proofs.Kb
end
section
namespace Go.Proofs.Kb
open Go Go.RowKit Go.Proofs.Ytnojcnmnkkgkgaa.Q Go.Proofs.YtnojcnmnkkgkgaaW.PrintWords Go.Proofs.YtnojcnmnkkgkgaaW.PrintLast Go.Proofs.YtnojcnmnkkgkgaaW.PrintMore
set_option linter.unusedVariables false
set_option linter.unusedSimpArgs false
set_option maxRecDepth 100000
attribute [local go_sem] max2_int min2_int max_two min_two max_three min_three max_four min_four
def Res16 (w : World) (x : SV) (af : List S60) (t : Int) (l6 : List S60) (l7 : List S62) (l8 : List S64) (l9 : List S66) (l10 : List ByteArray) (E : Ending) (w' : World) : Prop :=
  ∃ (jp : Nat) (y : SV) (A : Option Addr) (c : Nat), SameN y x ∧ E = .returned (.pointer (some ⟨jp, 0, none⟩)) ∧ St w NoF w' (blkC jp (.cells #[.int .i64 y.f0, .string y.f1, .string y.f2, .string y.f3, .int .i64 y.f4, .bool y.f5, .slice y.f6.A y.f6.n y.f6.c, .slice y.f7.A y.f7.n y.f7.c, .slice y.f8.A y.f8.n y.f8.c, .slice y.f9.A y.f9.n y.f9.c, .slice y.f10.A y.f10.n y.f10.c, .int .i64 3, .slice A af.length c, .int .i64 (maxT t), .int .i64 0] 68 (0, 0)) :: rowXC valE (.slice A af.length c) af :: srC y l6 l7 l8 l9 l10)
set_option maxHeartbeats 8000000 in
theorem resume_calls (w : World) (x : SV) (A1 : Option Addr) (c1 : Nat) (af : List S60) (t : Int) (l6 : List S60) (l7 : List S62) (l8 : List S64) (l9 : List S66) (l10 : List ByteArray) (h : SR w x l6 l7 l8 l9 l10) (hn : SN l6 l7 l8 l9 l10) (ha : Src valE w (.slice A1 af.length c1) af) (hal : af.length < 1000000) :
    Calls Try.prog 16 #[.agg #[.int .i64 x.f0, .string x.f1, .string x.f2, .string x.f3, .int .i64 x.f4, .bool x.f5, .slice x.f6.A x.f6.n x.f6.c, .slice x.f7.A x.f7.n x.f7.c, .slice x.f8.A x.f8.n x.f8.c, .slice x.f9.A x.f9.n x.f9.c, .slice x.f10.A x.f10.n x.f10.c], .slice A1 af.length c1, .int .i64 t] w (Res16 w x af t l6 l7 l8 l9 l10) := by
  obtain ⟨Q, hQ⟩ : ∃ Q, Res16 w x af t l6 l7 l8 l9 l10 = Q := ⟨_, rfl⟩
  have HQ := Aside0.mk hQ
  rw [hQ]
  have hu28 := Try.underlying28
  obtain ⟨n0, hn0⟩ : ∃ n, w.heap.size = n := ⟨_, rfl⟩
  have h1 := (St.nil0 w NoF).alloc #[.int .i64 x.f0, .string x.f1, .string x.f2, .string x.f3, .int .i64 x.f4, .bool x.f5, .slice x.f6.A x.f6.n x.f6.c, .slice x.f7.A x.f7.n x.f7.c, .slice x.f8.A x.f8.n x.f8.c, .slice x.f9.A x.f9.n x.f9.c, .slice x.f10.A x.f10.n x.f10.c] 28 hn0
  obtain ⟨W1, hW1⟩ : ∃ W, w.alloc (.cells #[.int .i64 x.f0, .string x.f1, .string x.f2, .string x.f3, .int .i64 x.f4, .bool x.f5, .slice x.f6.A x.f6.n x.f6.c, .slice x.f7.A x.f7.n x.f7.c, .slice x.f8.A x.f8.n x.f8.c, .slice x.f9.A x.f9.n x.f9.c, .slice x.f10.A x.f10.n x.f10.c] 28) = W := ⟨_, rfl⟩
  rw [hW1] at h1
  have hb := h1.blk 0 rfl
  obtain ⟨p0, p1, p2, p3, p4, p5, p6, p7, p8, p9, p10⟩ := box11 hb
  have hbl := keep_below h1.keep
  have HB := Aside0.mk hbl
  have A23 := Aside0.mk (cloned_calls W1 x l6 l7 l8 l9 l10 (h.below hbl) hn)
  have A34 := Aside0.mk (fun W (hb : Below w.heap.size w W) => cloneX34 W _ af (ha.below hb) hal)
  clear h hn h1 hQ hb hbl ha
  go_enter Try.func16, Try.ntmps16
  go_wp2_with (first
    | (go_at_call 23; refine A23.out.mono ?_; rintro E w2 ⟨y, hy, rfl, h⟩; have HY := Aside0.mk hy; have HS := Aside0.mk (h.base HB.out); clear h hy A23 p0 p1 p2 p3 p4 p5 p6 p7 p8 p9 p10)
    | (go_at_call 34; refine (A34.out _ (keep_below HS.out.keep)).mono ?_; rintro E w3 ⟨v, rfl, hr, hbb, hf⟩; obtain ⟨A2, c2, rfl⟩ := hr.form; obtain ⟨n9, hn9⟩ : ∃ n, w3.heap.size = n := ⟨_, rfl⟩; have HS3 := Aside0.mk ((HS.out.fresh hbb (rowXC valE _ _) hr (nd_bl _) hf).alloc #[.int .i64 y.f0, .string y.f1, .string y.f2, .string y.f3, .int .i64 y.f4, .bool y.f5, .slice y.f6.A y.f6.n y.f6.c, .slice y.f7.A y.f7.n y.f7.c, .slice y.f8.A y.f8.n y.f8.c, .slice y.f9.A y.f9.n y.f9.c, .slice y.f10.A y.f10.n y.f10.c, .int .i64 3, .slice A2 af.length c2, .int .i64 (maxT t), .int .i64 0] 68 hn9); clear hr hbb hf A34))
  all_goals
    rw [← HQ.out]
    refine ⟨n9, y, A2, c2, HY.out, rfl, ?_⟩
    first
      | (have e : maxT t = t := (by unfold maxT; split <;> omega)
         rw [e] at HS3 ⊢
         exact HS3.out.perm (List.perm_append_comm (l₂ := [_])))
      | (have e : maxT t = 1 := (by unfold maxT; split <;> omega)
         rw [e] at HS3 ⊢
         exact HS3.out.perm (List.perm_append_comm (l₂ := [_])))
section
variable {w0 w : World} {F : Nat → Prop} {jp tp : Nat} {x : SV} {s : JS} {R : List Chunk}
theorem store28 {U0 : World} {n1 : Nat} (y : SV) (h0 : U0.heap[n1]? = some (.cells #[.int .i64 0, .string ⟨#[]⟩, .string ⟨#[]⟩, .string ⟨#[]⟩, .int .i64 0, .bool false, .slice none 0 0, .slice none 0 0, .slice none 0 0, .slice none 0 0, .slice none 0 0] 28 (0, 0))) : ∃ U1 U2 U3 U4 U5 U6 U7 U8 U9 U10 U11 : World, (U0.setCell ⟨n1, 0, none⟩ (.int .i64 y.f0) = U1 ∧ U1.setCell ⟨n1, 1, none⟩ (.string y.f1) = U2 ∧ U2.setCell ⟨n1, 2, none⟩ (.string y.f2) = U3 ∧ U3.setCell ⟨n1, 3, none⟩ (.string y.f3) = U4 ∧ U4.setCell ⟨n1, 4, none⟩ (.int .i64 y.f4) = U5 ∧ U5.setCell ⟨n1, 5, none⟩ (.bool y.f5) = U6 ∧ U6.setCell ⟨n1, 6, none⟩ (.slice y.f6.A y.f6.n y.f6.c) = U7 ∧ U7.setCell ⟨n1, 7, none⟩ (.slice y.f7.A y.f7.n y.f7.c) = U8 ∧ U8.setCell ⟨n1, 8, none⟩ (.slice y.f8.A y.f8.n y.f8.c) = U9 ∧ U9.setCell ⟨n1, 9, none⟩ (.slice y.f9.A y.f9.n y.f9.c) = U10 ∧ U10.setCell ⟨n1, 10, none⟩ (.slice y.f10.A y.f10.n y.f10.c) = U11) ∧ (U0.cell? ⟨n1, 0, none⟩ = some (.int .i64 0) ∧ U0.frozen? ⟨n1, 0, none⟩ = false ∧ n1 < U0.heap.size ∧ U1.cell? ⟨n1, 1, none⟩ = some (.string ⟨#[]⟩) ∧ U1.frozen? ⟨n1, 1, none⟩ = false ∧ n1 < U1.heap.size ∧ U2.cell? ⟨n1, 2, none⟩ = some (.string ⟨#[]⟩) ∧ U2.frozen? ⟨n1, 2, none⟩ = false ∧ n1 < U2.heap.size ∧ U3.cell? ⟨n1, 3, none⟩ = some (.string ⟨#[]⟩) ∧ U3.frozen? ⟨n1, 3, none⟩ = false ∧ n1 < U3.heap.size ∧ U4.cell? ⟨n1, 4, none⟩ = some (.int .i64 0) ∧ U4.frozen? ⟨n1, 4, none⟩ = false ∧ n1 < U4.heap.size ∧ U5.cell? ⟨n1, 5, none⟩ = some (.bool false) ∧ U5.frozen? ⟨n1, 5, none⟩ = false ∧ n1 < U5.heap.size ∧ U6.cell? ⟨n1, 6, none⟩ = some (.slice none 0 0) ∧ U6.frozen? ⟨n1, 6, none⟩ = false ∧ n1 < U6.heap.size ∧ U7.cell? ⟨n1, 7, none⟩ = some (.slice none 0 0) ∧ U7.frozen? ⟨n1, 7, none⟩ = false ∧ n1 < U7.heap.size ∧ U8.cell? ⟨n1, 8, none⟩ = some (.slice none 0 0) ∧ U8.frozen? ⟨n1, 8, none⟩ = false ∧ n1 < U8.heap.size ∧ U9.cell? ⟨n1, 9, none⟩ = some (.slice none 0 0) ∧ U9.frozen? ⟨n1, 9, none⟩ = false ∧ n1 < U9.heap.size ∧ U10.cell? ⟨n1, 10, none⟩ = some (.slice none 0 0) ∧ U10.frozen? ⟨n1, 10, none⟩ = false ∧ n1 < U10.heap.size) ∧ U11.heap[n1]? = some (.cells #[.int .i64 y.f0, .string y.f1, .string y.f2, .string y.f3, .int .i64 y.f4, .bool y.f5, .slice y.f6.A y.f6.n y.f6.c, .slice y.f7.A y.f7.n y.f7.c, .slice y.f8.A y.f8.n y.f8.c, .slice y.f9.A y.f9.n y.f9.c, .slice y.f10.A y.f10.n y.f10.c] 28 (0, 0)) ∧ Keep U0 U11 (fun b => b ∈ [n1]) := by
  have c0 : U0.cell? ⟨n1, 0, none⟩ = some (.int .i64 0) := (blk_cell h0 0).trans rfl
  have g0 := frozen_of_row U0 n1 0 _ _ h0
  have e0 := lt_of_some h0
  obtain ⟨U1, hU1⟩ : ∃ U, U0.setCell ⟨n1, 0, none⟩ (.int .i64 y.f0) = U := ⟨_, rfl⟩
  have h1 : U1.heap[n1]? = some (.cells #[.int .i64 y.f0, .string ⟨#[]⟩, .string ⟨#[]⟩, .string ⟨#[]⟩, .int .i64 0, .bool false, .slice none 0 0, .slice none 0 0, .slice none 0 0, .slice none 0 0, .slice none 0 0] 28 (0, 0)) := by rw [← hU1]; exact blk_put h0 0 _ rfl
  have m1 : Keep U0 U1 (fun b => b ∈ [n1]) := by rw [← hU1]; exact (Keep.of_below (Below.refl U0.heap.size U0) _).cell (p := ⟨n1, 0, none⟩) (.inl (List.mem_singleton.2 rfl)) _
  have c1 : U1.cell? ⟨n1, 1, none⟩ = some (.string ⟨#[]⟩) := (blk_cell h1 1).trans rfl
  have g1 := frozen_of_row U1 n1 1 _ _ h1
  have e1 := lt_of_some h1
  obtain ⟨U2, hU2⟩ : ∃ U, U1.setCell ⟨n1, 1, none⟩ (.string y.f1) = U := ⟨_, rfl⟩
  have h2 : U2.heap[n1]? = some (.cells #[.int .i64 y.f0, .string y.f1, .string ⟨#[]⟩, .string ⟨#[]⟩, .int .i64 0, .bool false, .slice none 0 0, .slice none 0 0, .slice none 0 0, .slice none 0 0, .slice none 0 0] 28 (0, 0)) := by rw [← hU2]; exact blk_put h1 1 _ rfl
  have m2 : Keep U0 U2 (fun b => b ∈ [n1]) := by rw [← hU2]; exact (m1).cell (p := ⟨n1, 1, none⟩) (.inl (List.mem_singleton.2 rfl)) _
  have c2 : U2.cell? ⟨n1, 2, none⟩ = some (.string ⟨#[]⟩) := (blk_cell h2 2).trans rfl
  have g2 := frozen_of_row U2 n1 2 _ _ h2
  have e2 := lt_of_some h2
  obtain ⟨U3, hU3⟩ : ∃ U, U2.setCell ⟨n1, 2, none⟩ (.string y.f2) = U := ⟨_, rfl⟩
  have h3 : U3.heap[n1]? = some (.cells #[.int .i64 y.f0, .string y.f1, .string y.f2, .string ⟨#[]⟩, .int .i64 0, .bool false, .slice none 0 0, .slice none 0 0, .slice none 0 0, .slice none 0 0, .slice none 0 0] 28 (0, 0)) := by rw [← hU3]; exact blk_put h2 2 _ rfl
  have m3 : Keep U0 U3 (fun b => b ∈ [n1]) := by rw [← hU3]; exact (m2).cell (p := ⟨n1, 2, none⟩) (.inl (List.mem_singleton.2 rfl)) _
  have c3 : U3.cell? ⟨n1, 3, none⟩ = some (.string ⟨#[]⟩) := (blk_cell h3 3).trans rfl
  have g3 := frozen_of_row U3 n1 3 _ _ h3
  have e3 := lt_of_some h3
  obtain ⟨U4, hU4⟩ : ∃ U, U3.setCell ⟨n1, 3, none⟩ (.string y.f3) = U := ⟨_, rfl⟩
  have h4 : U4.heap[n1]? = some (.cells #[.int .i64 y.f0, .string y.f1, .string y.f2, .string y.f3, .int .i64 0, .bool false, .slice none 0 0, .slice none 0 0, .slice none 0 0, .slice none 0 0, .slice none 0 0] 28 (0, 0)) := by rw [← hU4]; exact blk_put h3 3 _ rfl
  have m4 : Keep U0 U4 (fun b => b ∈ [n1]) := by rw [← hU4]; exact (m3).cell (p := ⟨n1, 3, none⟩) (.inl (List.mem_singleton.2 rfl)) _
  have c4 : U4.cell? ⟨n1, 4, none⟩ = some (.int .i64 0) := (blk_cell h4 4).trans rfl
  have g4 := frozen_of_row U4 n1 4 _ _ h4
  have e4 := lt_of_some h4
  obtain ⟨U5, hU5⟩ : ∃ U, U4.setCell ⟨n1, 4, none⟩ (.int .i64 y.f4) = U := ⟨_, rfl⟩
  have h5 : U5.heap[n1]? = some (.cells #[.int .i64 y.f0, .string y.f1, .string y.f2, .string y.f3, .int .i64 y.f4, .bool false, .slice none 0 0, .slice none 0 0, .slice none 0 0, .slice none 0 0, .slice none 0 0] 28 (0, 0)) := by rw [← hU5]; exact blk_put h4 4 _ rfl
  have m5 : Keep U0 U5 (fun b => b ∈ [n1]) := by rw [← hU5]; exact (m4).cell (p := ⟨n1, 4, none⟩) (.inl (List.mem_singleton.2 rfl)) _
  have c5 : U5.cell? ⟨n1, 5, none⟩ = some (.bool false) := (blk_cell h5 5).trans rfl
  have g5 := frozen_of_row U5 n1 5 _ _ h5
  have e5 := lt_of_some h5
  obtain ⟨U6, hU6⟩ : ∃ U, U5.setCell ⟨n1, 5, none⟩ (.bool y.f5) = U := ⟨_, rfl⟩
  have h6 : U6.heap[n1]? = some (.cells #[.int .i64 y.f0, .string y.f1, .string y.f2, .string y.f3, .int .i64 y.f4, .bool y.f5, .slice none 0 0, .slice none 0 0, .slice none 0 0, .slice none 0 0, .slice none 0 0] 28 (0, 0)) := by rw [← hU6]; exact blk_put h5 5 _ rfl
  have m6 : Keep U0 U6 (fun b => b ∈ [n1]) := by rw [← hU6]; exact (m5).cell (p := ⟨n1, 5, none⟩) (.inl (List.mem_singleton.2 rfl)) _
  have c6 : U6.cell? ⟨n1, 6, none⟩ = some (.slice none 0 0) := (blk_cell h6 6).trans rfl
  have g6 := frozen_of_row U6 n1 6 _ _ h6
  have e6 := lt_of_some h6
  obtain ⟨U7, hU7⟩ : ∃ U, U6.setCell ⟨n1, 6, none⟩ (.slice y.f6.A y.f6.n y.f6.c) = U := ⟨_, rfl⟩
  have h7 : U7.heap[n1]? = some (.cells #[.int .i64 y.f0, .string y.f1, .string y.f2, .string y.f3, .int .i64 y.f4, .bool y.f5, .slice y.f6.A y.f6.n y.f6.c, .slice none 0 0, .slice none 0 0, .slice none 0 0, .slice none 0 0] 28 (0, 0)) := by rw [← hU7]; exact blk_put h6 6 _ rfl
  have m7 : Keep U0 U7 (fun b => b ∈ [n1]) := by rw [← hU7]; exact (m6).cell (p := ⟨n1, 6, none⟩) (.inl (List.mem_singleton.2 rfl)) _
  have c7 : U7.cell? ⟨n1, 7, none⟩ = some (.slice none 0 0) := (blk_cell h7 7).trans rfl
  have g7 := frozen_of_row U7 n1 7 _ _ h7
  have e7 := lt_of_some h7
  obtain ⟨U8, hU8⟩ : ∃ U, U7.setCell ⟨n1, 7, none⟩ (.slice y.f7.A y.f7.n y.f7.c) = U := ⟨_, rfl⟩
  have h8 : U8.heap[n1]? = some (.cells #[.int .i64 y.f0, .string y.f1, .string y.f2, .string y.f3, .int .i64 y.f4, .bool y.f5, .slice y.f6.A y.f6.n y.f6.c, .slice y.f7.A y.f7.n y.f7.c, .slice none 0 0, .slice none 0 0, .slice none 0 0] 28 (0, 0)) := by rw [← hU8]; exact blk_put h7 7 _ rfl
  have m8 : Keep U0 U8 (fun b => b ∈ [n1]) := by rw [← hU8]; exact (m7).cell (p := ⟨n1, 7, none⟩) (.inl (List.mem_singleton.2 rfl)) _
  have c8 : U8.cell? ⟨n1, 8, none⟩ = some (.slice none 0 0) := (blk_cell h8 8).trans rfl
  have g8 := frozen_of_row U8 n1 8 _ _ h8
  have e8 := lt_of_some h8
  obtain ⟨U9, hU9⟩ : ∃ U, U8.setCell ⟨n1, 8, none⟩ (.slice y.f8.A y.f8.n y.f8.c) = U := ⟨_, rfl⟩
  have h9 : U9.heap[n1]? = some (.cells #[.int .i64 y.f0, .string y.f1, .string y.f2, .string y.f3, .int .i64 y.f4, .bool y.f5, .slice y.f6.A y.f6.n y.f6.c, .slice y.f7.A y.f7.n y.f7.c, .slice y.f8.A y.f8.n y.f8.c, .slice none 0 0, .slice none 0 0] 28 (0, 0)) := by rw [← hU9]; exact blk_put h8 8 _ rfl
  have m9 : Keep U0 U9 (fun b => b ∈ [n1]) := by rw [← hU9]; exact (m8).cell (p := ⟨n1, 8, none⟩) (.inl (List.mem_singleton.2 rfl)) _
  have c9 : U9.cell? ⟨n1, 9, none⟩ = some (.slice none 0 0) := (blk_cell h9 9).trans rfl
  have g9 := frozen_of_row U9 n1 9 _ _ h9
  have e9 := lt_of_some h9
  obtain ⟨U10, hU10⟩ : ∃ U, U9.setCell ⟨n1, 9, none⟩ (.slice y.f9.A y.f9.n y.f9.c) = U := ⟨_, rfl⟩
  have h10 : U10.heap[n1]? = some (.cells #[.int .i64 y.f0, .string y.f1, .string y.f2, .string y.f3, .int .i64 y.f4, .bool y.f5, .slice y.f6.A y.f6.n y.f6.c, .slice y.f7.A y.f7.n y.f7.c, .slice y.f8.A y.f8.n y.f8.c, .slice y.f9.A y.f9.n y.f9.c, .slice none 0 0] 28 (0, 0)) := by rw [← hU10]; exact blk_put h9 9 _ rfl
  have m10 : Keep U0 U10 (fun b => b ∈ [n1]) := by rw [← hU10]; exact (m9).cell (p := ⟨n1, 9, none⟩) (.inl (List.mem_singleton.2 rfl)) _
  have c10 : U10.cell? ⟨n1, 10, none⟩ = some (.slice none 0 0) := (blk_cell h10 10).trans rfl
  have g10 := frozen_of_row U10 n1 10 _ _ h10
  have e10 := lt_of_some h10
  obtain ⟨U11, hU11⟩ : ∃ U, U10.setCell ⟨n1, 10, none⟩ (.slice y.f10.A y.f10.n y.f10.c) = U := ⟨_, rfl⟩
  have h11 : U11.heap[n1]? = some (.cells #[.int .i64 y.f0, .string y.f1, .string y.f2, .string y.f3, .int .i64 y.f4, .bool y.f5, .slice y.f6.A y.f6.n y.f6.c, .slice y.f7.A y.f7.n y.f7.c, .slice y.f8.A y.f8.n y.f8.c, .slice y.f9.A y.f9.n y.f9.c, .slice y.f10.A y.f10.n y.f10.c] 28 (0, 0)) := by rw [← hU11]; exact blk_put h10 10 _ rfl
  have m11 : Keep U0 U11 (fun b => b ∈ [n1]) := by rw [← hU11]; exact (m10).cell (p := ⟨n1, 10, none⟩) (.inl (List.mem_singleton.2 rfl)) _
  exact ⟨U1, U2, U3, U4, U5, U6, U7, U8, U9, U10, U11, ⟨hU1, hU2, hU3, hU4, hU5, hU6, hU7, hU8, hU9, hU10, hU11⟩, ⟨c0, g0, e0, c1, g1, e1, c2, g2, e2, c3, g3, e3, c4, g4, e4, c5, g5, e5, c6, g6, e6, c7, g7, e7, c8, g8, e8, c9, g9, e9, c10, g10, e10⟩, h11, m11⟩
theorem ck_put {w0 w : World} {F : Nat → Prop} {y : SV} {l6 : List S60} {l7 : List S62} {l8 : List S64} {l9 : List S66} {l10 : List ByteArray} {R : List Chunk} (h : St w0 F w (srC y l6 l7 l8 l9 l10 ++ R)) (w'' : World) (hk : Keep w w'' (fun b => b ∈ fpc R)) : CK w'' y l6 l7 l8 l9 l10 := by
  have h1 : St w0 F w (R ++ srC y l6 l7 l8 l9 l10) := h.perm List.perm_append_comm
  have h2 : St w0 F w'' ([] ++ srC y l6 l7 l8 l9 l10) := h1.frame hk (fun c hc => by cases hc) (fun a => by simp [fpc]) (fun b hb => by simp [fpc] at hb)
  exact ck_sr (R := []) (by rw [List.append_nil]; exact h2)
set_option maxHeartbeats 8000000 in
theorem stmt_calls {l6 : List S60} {l7 : List S62} {l8 : List S64} {l9 : List S66} {l10 : List ByteArray} (h : JT w0 F jp tp x s R w) (hc : CK w x l6 l7 l8 l9 l10) (hn : SN l6 l7 l8 l9 l10) :
    Calls Try.prog 22 #[.pointer (some ⟨jp, 0, none⟩)] w fun E w' => ∃ z : SV, SameN z x ∧ E = .returned (.agg #[.int .i64 z.f0, .string z.f1, .string z.f2, .string z.f3, .int .i64 z.f4, .bool z.f5, .slice z.f6.A z.f6.n z.f6.c, .slice z.f7.A z.f7.n z.f7.c, .slice z.f8.A z.f8.n z.f8.c, .slice z.f9.A z.f9.n z.f9.c, .slice z.f10.A z.f10.n z.f10.c]) ∧ CK w' z l6 l7 l8 l9 l10 ∧ Below w.heap.size w w' := by
  obtain ⟨Q, hQ⟩ : ∃ Q, (fun E w' => ∃ z : SV, SameN z x ∧ E = Ending.returned (.agg #[.int .i64 z.f0, .string z.f1, .string z.f2, .string z.f3, .int .i64 z.f4, .bool z.f5, .slice z.f6.A z.f6.n z.f6.c, .slice z.f7.A z.f7.n z.f7.c, .slice z.f8.A z.f8.n z.f8.c, .slice z.f9.A z.f9.n z.f9.c, .slice z.f10.A z.f10.n z.f10.c]) ∧ CK w' z l6 l7 l8 l9 l10 ∧ Below w.heap.size w w') = Q := ⟨_, rfl⟩
  have HQ := Aside0.mk hQ
  rw [hQ]
  clear hQ
  have hu68 := Try.underlying68
  have hu28 := Try.underlying28
  obtain ⟨n1, hn1⟩ : ∃ n, w.heap.size = n := ⟨_, rfl⟩
  have h1 := (St.nil0 w NoF).alloc #[.int .i64 0, .string ⟨#[]⟩, .string ⟨#[]⟩, .string ⟨#[]⟩, .int .i64 0, .bool false, .slice none 0 0, .slice none 0 0, .slice none 0 0, .slice none 0 0, .slice none 0 0] 28 hn1
  obtain ⟨W1, hW1⟩ : ∃ W, w.alloc (.cells #[.int .i64 0, .string ⟨#[]⟩, .string ⟨#[]⟩, .string ⟨#[]⟩, .int .i64 0, .bool false, .slice none 0 0, .slice none 0 0, .slice none 0 0, .slice none 0 0, .slice none 0 0] 28) = W := ⟨_, rfl⟩
  rw [hW1] at h1
  have hbl := keep_below h1.keep
  obtain ⟨p0, p1, p2, p3, p4, p5, p6, p7, p8, p9, p10⟩ := (h.below hbl).stmt
  have pl := (h.below hbl).lt
  have A23 := Aside0.mk (cloned_calls W1 x l6 l7 l8 l9 l10 (hc.below hbl).sr hn)
  have HS := Aside0.mk h1
  clear h h1 hc hn hbl
  go_enter Try.func22, Try.ntmps22
  go_wp2_with (go_at_call 23; refine A23.out.mono ?_; rintro E w2 ⟨y, hy, rfl, h⟩; have HJ := Aside0.mk (HS.out.join h); have HY := Aside0.mk hy; have hz := HJ.out.blk 5 rfl; clear h hy A23 HS p0 p1 p2 p3 p4 p5 p6 p7 p8 p9 p10 pl; obtain ⟨U1, U2, U3, U4, U5, U6, U7, U8, U9, U10, U11, ⟨hU1, hU2, hU3, hU4, hU5, hU6, hU7, hU8, hU9, hU10, hU11⟩, ⟨fc0, fg0, fe0, fc1, fg1, fe1, fc2, fg2, fe2, fc3, fg3, fe3, fc4, fg4, fe4, fc5, fg5, fe5, fc6, fg6, fe6, fc7, fg7, fe7, fc8, fg8, fe8, fc9, fg9, fe9, fc10, fg10, fe10⟩, hblk, hkp⟩ := store28 y hz; have HB := Aside0.mk hblk; have HKP := Aside0.mk hkp; clear hz hblk hkp)
  refine bodyPost_ret (results_cell_row rfl _ _ n1 28 #[.int .i64 y.f0, .string y.f1, .string y.f2, .string y.f3, .int .i64 y.f4, .bool y.f5, .slice y.f6.A y.f6.n y.f6.c, .slice y.f7.A y.f7.n y.f7.c, .slice y.f8.A y.f8.n y.f8.c, .slice y.f9.A y.f9.n y.f9.c, .slice y.f10.A y.f10.n y.f10.c] (0, 0) _ rfl HB.out Try.underlying28 rfl (by kernel_rfl)) rfl ?_
  rw [← HQ.out]
  refine ⟨y, HY.out, rfl, ck_put (R := [blkC n1 (.cells #[.int .i64 0, .string ⟨#[]⟩, .string ⟨#[]⟩, .string ⟨#[]⟩, .int .i64 0, .bool false, .slice none 0 0, .slice none 0 0, .slice none 0 0, .slice none 0 0, .slice none 0 0] 28 (0, 0))]) HJ.out U11 HKP.out, ?_⟩
  exact keep_below (HJ.out.keep.trans HKP.out (fun b hb => .inr (by obtain rfl := List.mem_singleton.1 hb; omega)))
end
end Go.Proofs.Kb
end
section
namespace Go.Proofs.Kb
open Go Go.RowKit Go.Proofs.Ytnojcnmnkkgkgaa.Q Go.Proofs.YtnojcnmnkkgkgaaW.PrintWords Go.Proofs.YtnojcnmnkkgkgaaW.PrintLast Go.Proofs.YtnojcnmnkkgkgaaW.PrintMore
set_option linter.unusedVariables false
set_option linter.unusedSimpArgs false
set_option maxRecDepth 100000
def ownL (A : Option Addr) (c : Nat) (av kv : Value) (jp tp : Nat) (x : SV) (s : JS) : List Chunk := [ansC av s.ans, blkC tp (.cells #[av, kv, .int .i64 s.held] 36 (0, 0)), rowXC txtE kv s.txt, blkC jp (.cells #[.int .i64 x.f0, .string x.f1, .string x.f2, .string x.f3, .int .i64 x.f4, .bool x.f5, .slice x.f6.A x.f6.n x.f6.c, .slice x.f7.A x.f7.n x.f7.c, .slice x.f8.A x.f8.n x.f8.c, .slice x.f9.A x.f9.n x.f9.c, .slice x.f10.A x.f10.n x.f10.c, .int .i64 s.ph, .slice A s.af.length c, .int .i64 s.tr, .int .i64 s.er] 68 (0, 0)), rowXC valE (.slice A s.af.length c) s.af]
def refL (A : Option Addr) (c : Nat) (av kv : Value) (jp tp : Nat) (x : SV) (s : JS) : List Chunk := [ansC av s.ans, blkC tp (.cells #[av, kv, .int .i64 s.held] 36 (0, 0)), rowXC txtE kv s.txt, blkC jp (.cells #[.int .i64 x.f0, .string x.f1, .string x.f2, .string x.f3, .int .i64 x.f4, .bool x.f5, .slice x.f6.A x.f6.n x.f6.c, .slice x.f7.A x.f7.n x.f7.c, .slice x.f8.A x.f8.n x.f8.c, .slice x.f9.A x.f9.n x.f9.c, .slice x.f10.A x.f10.n x.f10.c, .int .i64 s.ph, .slice A s.af.length c, .int .i64 s.tr, .int .i64 s.er] 50 (0, 0)), rowXC valE (.slice A s.af.length c) s.af]
def JJ (w0 : World) (F : Nat → Prop) (jp tp : Nat) (y : SV) (rp up : Nat) (x : SV) (s : JS) (s2 : JS) (R : List Chunk) (W : World) : Prop :=
  ∃ A c av kv A2 c2 av2 kv2, St w0 F W (ownL A c av kv jp tp y s ++ (refL A2 c2 av2 kv2 rp up x s2 ++ R))
section
variable {w0 w w' : World} {F : Nat → Prop} {jp tp rp up : Nat} {x y : SV} {s s2 : JS} {R : List Chunk}
theorem JJ.below (h : JJ w0 F jp tp y rp up x s s2 R w) (hb : Below w.heap.size w w') : JJ w0 F jp tp y rp up x s s2 R w' := by
  obtain ⟨A, c, av, kv, A2, c2, av2, kv2, h⟩ := h
  exact ⟨A, c, av, kv, A2, c2, av2, kv2, h.below hb⟩
theorem JJ.keep (h : JJ w0 F jp tp y rp up x s s2 R w) : Keep w0 w F := by
  obtain ⟨A, c, av, kv, A2, c2, av2, kv2, h⟩ := h
  exact h.keep
theorem JJ.step (h : JJ w0 F jp tp y rp up x s s2 R w) (ok : OkJ s y) :
    Calls Try.prog 10 #[.pointer (some ⟨jp, 0, none⟩), .iface 34 (.pointer (some ⟨tp, 0, none⟩))] w fun E w' => E = StepE (s.step y) ∧ JJ w0 F jp tp y rp up x (s.step y) s2 R w' := by
  obtain ⟨A, c, av, kv, A2, c2, av2, kv2, h⟩ := h
  exact (step_calls (R := refL A2 c2 av2 kv2 rp up x s2 ++ R) ⟨A, c, av, kv, h⟩ ok).mono fun E w' ⟨e, A', c', av', kv', h'⟩ => ⟨e, A', c', av', kv', A2, c2, av2, kv2, h'⟩
theorem JJ.rstep (h : JJ w0 F jp tp y rp up x s s2 R w) (ok : OkJ s2 x) (htr : s2.ph = 1 ∨ s2.ph = 4 → 1 ≤ s2.tr) :
    Calls Try.prog 17 #[.pointer (some ⟨rp, 0, none⟩), .pointer (some ⟨up, 0, none⟩)] w fun E w' => E = StepE (s2.step x) ∧ JJ w0 F jp tp y rp up x s (s2.step x) R w' := by
  obtain ⟨A, c, av, kv, A2, c2, av2, kv2, h⟩ := h
  have h1 := h.perm (List.perm_append_comm_assoc (ownL A c av kv jp tp y s) (refL A2 c2 av2 kv2 rp up x s2) R)
  refine (rstep_calls (R := ownL A c av kv jp tp y s ++ R) ⟨A2, c2, av2, kv2, h1⟩ ok htr).mono fun E w' ⟨e, A', c', av', kv', h'⟩ => ⟨e, A, c, av, kv, A', c', av', kv', ?_⟩
  have h2 : St w0 F w' (refL A' c' av' kv' rp up x (s2.step x) ++ (ownL A c av kv jp tp y s ++ R)) := h'
  exact h2.perm (List.perm_append_comm_assoc _ _ _)
theorem JJ.mk {w0 W : World} {jp tp rp up : Nat} {y x : SV} {ph tr : Int} {af : List S60} {A A2 : Option Addr} {c c2 : Nat} {av av2 : Value} {ans : List Int} {R : List Chunk}
    (h : St w0 NoF W (ansC av ans :: blkC tp (.cells #[av, .slice none 0 0, .int .i64 0] 36 (0, 0)) :: blkC jp (.cells #[.int .i64 y.f0, .string y.f1, .string y.f2, .string y.f3, .int .i64 y.f4, .bool y.f5, .slice y.f6.A y.f6.n y.f6.c, .slice y.f7.A y.f7.n y.f7.c, .slice y.f8.A y.f8.n y.f8.c, .slice y.f9.A y.f9.n y.f9.c, .slice y.f10.A y.f10.n y.f10.c, .int .i64 ph, .slice A af.length c, .int .i64 tr, .int .i64 0] 68 (0, 0)) :: rowXC valE (.slice A af.length c) af :: ansC av2 ans :: blkC up (.cells #[av2, .slice none 0 0, .int .i64 0] 36 (0, 0)) :: blkC rp (.cells #[.int .i64 x.f0, .string x.f1, .string x.f2, .string x.f3, .int .i64 x.f4, .bool x.f5, .slice x.f6.A x.f6.n x.f6.c, .slice x.f7.A x.f7.n x.f7.c, .slice x.f8.A x.f8.n x.f8.c, .slice x.f9.A x.f9.n x.f9.c, .slice x.f10.A x.f10.n x.f10.c, .int .i64 ph, .slice A2 af.length c2, .int .i64 tr, .int .i64 0] 50 (0, 0)) :: rowXC valE (.slice A2 af.length c2) af :: R)) :
    JJ w0 NoF jp tp y rp up x ⟨ph, af, tr, 0, ans, [], 0⟩ ⟨ph, af, tr, 0, ans, [], 0⟩ R W := by
  refine ⟨A, c, av, .slice none 0 0, A2, c2, av2, .slice none 0 0, ?_⟩
  have fr := fun {L : List Chunk} (h : St w0 NoF W L) => St.fresh h (Below.refl _ _) (rowXC txtE (.slice none 0 0) []) RowX.nil (nd_bl (.slice none 0 0)) (fun b hb => by simp [rowXC, bl] at hb; cases hb)
  refine (fr (fr h)).perm ?_
  refine List.Perm.append_right R (l₁ := [_, _, _, _, _, _, _, _, _, _]) (l₂ := [_, _, _, _, _, _, _, _, _, _]) ?_
  exact perm_ix _ [2, 3, 0, 4, 5, 6, 7, 1, 8, 9] 10 rfl (by decide)
theorem after2_calls {jp tp : Nat} {x : SV} (h : JT w0 F jp tp x s R w) (hl : s.af.length < 1000000) :
    Calls Try.prog 19 #[.pointer (some ⟨jp, 0, none⟩)] w fun E w' => ∃ A c, E = .returned (.slice A s.af.length c) ∧ RowX valE w' (.slice A s.af.length c) s.af ∧ Below w.heap.size w w' ∧ ∀ b ∈ bl (.slice A s.af.length c), w.heap.size ≤ b := by
  have hu68 := Try.underlying68
  obtain ⟨A, c, h0⟩ := h
  have hb := h0.rest.blk 0 rfl
  have c12 : w.cell? ⟨jp, 12, none⟩ = some (.slice A s.af.length c) := (blk_cell hb 12).trans rfl
  have pl := lt_of_some hb
  have A34 := Aside0.mk (cloneX34 w _ s.af (RowX.src (h0.rest.rowX 1 rfl)) hl)
  clear h0 hb
  go_enter Try.func19, Try.ntmps19
  go_wp2_with (go_at_call 34; refine A34.out.mono ?_; rintro E w3 ⟨v, rfl, hr, hbb, hf⟩; obtain ⟨A2, c2, rfl⟩ := hr.form; have HT := Aside0.mk (And.intro hr (And.intro hbb hf)); clear hr hbb hf A34)
  go_ret
  exact ⟨A2, c2, rfl, HT.out.1, HT.out.2.1, HT.out.2.2⟩
theorem step_names (s : JS) (h1 : y.f1 = x.f1) (h2 : y.f2 = x.f2) : s.step y = s.step x := by
  unfold JS.step JS.fill JS.register JS.settle JS.abandon
  rw [h1, h2]
theorem step_tr (h : s.ph ≤ 4 → 1 ≤ s.tr) (hp : 1 ≤ s.ph) : (s.step x).ph ≤ 4 → 1 ≤ (s.step x).tr := by
  have fl : ∀ (t : JS) (p : Int), 4 < p → 1 ≤ t.tr → (t.failed p).ph ≤ 4 → 1 ≤ (t.failed p).tr := fun t p h4 ht => by
    unfold JS.failed
    split
    · intro hq
      exact absurd hq (by show ¬ p ≤ 4; omega)
    · intro _
      show 1 ≤ t.tr - 1
      omega
  unfold JS.step
  split
  · next h1 =>
    have hw := (with_r (s := s) (planW x.f1 4) (fun s => s.register x) register_f).2.2.1
    split
    · intro _
      rw [hw]
      exact h (by omega)
    · exact fl _ 6 (by decide) (by rw [hw]; exact h (by omega))
  split
  · split
    · intro hq; exact h hq
    · intro _; exact h (by omega)
  split
  · split
    · unfold JS.fill
      split
      · intro _; exact h (by omega)
      · intro _; exact h (by omega)
    · intro hq; exact h hq
  split
  · next h4 =>
    have hw := (with_r (s := s) (planW x.f1 3) (fun s => s.settle x) settle_f).2.2.1
    split
    · intro _
      rw [hw]
      exact h (by omega)
    · exact fl _ 5 (by decide) (by rw [hw]; exact h (by omega))
  split
  · next h5 =>
    intro hq
    have := (step_ph (s := s) (x := x) (by omega)).1
    unfold JS.step at this
    rw [if_neg (by omega), if_neg (by omega), if_neg (by omega), if_neg (by omega), if_pos h5] at this
    omega
  · intro hq; exact h hq
theorem steps_inv (h : 1 ≤ s.ph ∧ s.ph ≤ 6) (ht : 1 ≤ s.tr) : ∀ n, (1 ≤ (s.steps x n).ph ∧ (s.steps x n).ph ≤ 6) ∧ ((s.steps x n).ph ≤ 4 → 1 ≤ (s.steps x n).tr)
  | 0 => ⟨h, fun _ => ht⟩
  | n + 1 => by
    obtain ⟨h1, h2⟩ := steps_inv h ht n
    have h3 := step_ph (s := s.steps x n) (x := x) h1
    exact ⟨by show 1 ≤ ((s.steps x n).step x).ph ∧ ((s.steps x n).step x).ph ≤ 6; omega, step_tr h2 h1.1⟩
end
end Go.Proofs.Kb
end
section
namespace Go.Proofs.Ytnojcnmnkkgkgaa.Q
open Go.RowKit Go.Proofs.YtnojcnmnkkgkgaaW.PrintWords Go.Proofs.YtnojcnmnkkgkgaaW.PrintLast Go.Proofs.YtnojcnmnkkgkgaaW.PrintMore
attribute [local go_sem] max2_int min2_int max_two min_two max_three min_three max_four min_four
set_option linter.unusedVariables false
set_option linter.unusedSimpArgs false
set_option maxRecDepth 100000
def Rd {α : Type} (P : Program) (d : Kd α) (t : TypeId) (wf : α → Prop) : Prop :=
  ∀ {H : Type} (enc : TypeId × Value → H) (w : World) (base : Nat) (spare : Nat → Bool) (held : Bool) (fuel : Nat) (cs : List Value) (x : DataW H × List MemPlace),
    DataW.trod enc P w base spare held fuel t cs = some x → ∃ a, d.K w a cs ∧ wf a
theorem Rd.int {P : Program} {t : TypeId} {k : IntKind} (ht : P.underlying t = some (.int k)) : Rd P (Kd.int k) t (fun n => (Lit.int k n).wf = true) := by
  intro H enc w base spare held fuel cs x h
  obtain ⟨n, rfl, _, hw⟩ := DataW.trod_int ht h
  exact ⟨n, rfl, hw⟩
theorem Rd.bool {P : Program} {t : TypeId} (ht : P.underlying t = some .bool) : Rd P Kd.bool t (fun _ => True) := by
  intro H enc w base spare held fuel cs x h
  obtain ⟨n, rfl, _⟩ := DataW.trod_bool ht h
  exact ⟨n, rfl, trivial⟩
theorem Rd.string {P : Program} {t : TypeId} (ht : P.underlying t = some .string) : Rd P Kd.string t (fun s => s.size ≤ maxLen) := by
  intro H enc w base spare held fuel cs x h
  obtain ⟨n, rfl, _, hs⟩ := DataW.trod_string ht h
  exact ⟨n, rfl, hs⟩
theorem Rd.slice {α : Type} {P : Program} {d : Kd α} {t e : TypeId} {wf : α → Prop} (ht : P.underlying t = some (.slice e)) (hc : P.cellsOf e = d.sz) (hd : Rd P d e wf) :
    Rd P (Kd.slice e d) t (fun l => l.length ≤ maxLen ∧ ∀ a ∈ l, wf a) := by
  intro H enc w base spare held fuel cs x h
  rcases Go.Deep.open_slice ht h with ⟨rfl, _⟩ | ⟨a, len, cap, m, n, D, Pl, rfl, _, hl, hm, hmm, _, hi⟩
  · exact ⟨[], ⟨none, 0, rfl, Nat.le_refl _, rfl, Nat.zero_le _, fun h => absurd h (Nat.lt_irrefl _)⟩, Nat.zero_le _, fun _ h => by cases h⟩
  · have hlm : len ≤ m := by rw [hmm]; split <;> omega
    have hex : ∀ i, i < len → ∃ v, wf v ∧ ∃ c, c.length = d.sz ∧ d.K w v c ∧ ∀ j u, c[j]? = some u → w.cell? (a.add (i * d.sz + j)) = some u := by
      intro i hilt
      obtain ⟨cs', hcs, ht'⟩ := hi i (by omega)
      obtain ⟨v, hK, hw⟩ := hd enc w base spare held n cs' _ ht'
      rw [hc] at hcs
      obtain ⟨_, hlen, hat⟩ := World.cells?_some hcs
      refine ⟨v, hw, cs', hlen, hK, fun j u hj => ?_⟩
      have hjl : j < d.sz := by rw [← hlen]; exact (List.getElem?_eq_some_iff.1 hj).1
      have := hat j hjl
      rw [Go.Deep.add_add] at this
      rw [this, hj]
    have hex' : ∀ i : Fin len, ∃ v, wf v ∧ ∃ c, c.length = d.sz ∧ d.K w v c ∧ ∀ j u, c[j]? = some u → w.cell? (a.add (i.val * d.sz + j)) = some u := fun i => hex i.val i.isLt
    have hch : ∃ g : Fin len → α, ∀ i : Fin len, wf (g i) ∧ ∃ c, c.length = d.sz ∧ d.K w (g i) c ∧ ∀ j u, c[j]? = some u → w.cell? (a.add (i.val * d.sz + j)) = some u := ⟨fun i => Classical.choose (hex' i), fun i => Classical.choose_spec (hex' i)⟩
    obtain ⟨g, hg⟩ := hch
    have hlen : (List.ofFn g).length = len := List.length_ofFn
    refine ⟨List.ofFn g, ⟨some a, cap, by rw [hlen], by rw [hlen]; exact hl, rfl, by rw [hlen]; simp only [maxLen] at hm; omega, fun _ => ⟨a, rfl, fun j p hp => ?_⟩⟩, by rw [hlen]; omega, fun v hv => ?_⟩
    · obtain ⟨hj, he⟩ := List.getElem?_eq_some_iff.1 hp
      rw [List.getElem_ofFn] at he
      subst he
      exact (hg ⟨j, by omega⟩).2
    · obtain ⟨i, rfl⟩ := List.mem_ofFn.1 hv
      exact (hg i).1
theorem Rd.arg_slice {α : Type} {P : Program} {d : Kd α} {t e : TypeId} {wf : α → Prop} (hd : Rd P (Kd.slice e d) t (fun l => l.length ≤ maxLen ∧ ∀ a ∈ l, wf a)) {H : Type} {enc : TypeId × Value → H} {w : World} {base : Nat} {spare : Nat → Bool} {held : Bool} {A : Option Addr} {n c : Nat} {x : DataW H} {p : List MemPlace}
    (h : DataW.Trod enc P w base spare held t (.slice A n c) x p) : ∃ l : List α, l.length = n ∧ d.C w A l.length l ∧ l.length ≤ c ∧ l.length ≤ maxLen ∧ ∀ a ∈ l, wf a := by
  obtain ⟨fuel, hf⟩ := h
  obtain ⟨l, ⟨A', c', he, hl, hC⟩, hm, hw⟩ := hd enc w base spare held fuel _ _ hf
  have he' : [Value.slice A n c] = [.slice A' l.length c'] := he
  injection he' with he' _
  injection he' with h1 h2 h3
  subst h1; subst h3
  exact ⟨l, h2.symm, hC, hl, hm, hw⟩
theorem some_of_len {α : Type} {xs : List α} {n j : Nat} (h : xs.length = n) (hj : j < n) : ∃ y, xs[j]? = some y := ⟨_, List.getElem?_eq_getElem (by omega)⟩
def wf60 (v : S60) : Prop := (fun n => (Lit.int .i64 n).wf = true) v.f0 ∧ (fun n => (Lit.int .i64 n).wf = true) v.f1 ∧ (fun s => s.size ≤ maxLen) v.f2
theorem rd60 : Rd Try.prog k60 60 wf60 := by
  intro H enc w base spare held fuel cs x h
  obtain ⟨xs, n, _, _, hlen, hl, hf⟩ := DataW.trod_struct Try.underlying60 h
  rw [show Try.prog.cellsOf 60 = 3 by kernel_rfl] at hlen
  obtain ⟨c0, c1, c2, rfl⟩ : ∃ c0 c1 c2, cs = [c0, c1, c2] := by
    match cs, hlen with
    | [c0, c1, c2], _ => exact ⟨c0, c1, c2, rfl⟩
  obtain ⟨y0, hy0⟩ := some_of_len hl (j := 0) (by decide)
  have g0 : DataW.trod enc Try.prog w base spare held n 3 ((([c0, c1, c2] : List Value).drop 0).take (Try.prog.cellsOf 3)) = some y0 := (hf 0 _ rfl).trans hy0
  rw [show Try.prog.cellsOf 3 = 1 by kernel_rfl] at g0
  obtain ⟨a0, K0, w0⟩ := (Rd.int Try.underlying3) enc w base spare held n _ _ g0
  obtain ⟨y1, hy1⟩ := some_of_len hl (j := 1) (by decide)
  have g1 : DataW.trod enc Try.prog w base spare held n 3 ((([c0, c1, c2] : List Value).drop 1).take (Try.prog.cellsOf 3)) = some y1 := (hf 1 _ rfl).trans hy1
  rw [show Try.prog.cellsOf 3 = 1 by kernel_rfl] at g1
  obtain ⟨a1, K1, w1⟩ := (Rd.int Try.underlying3) enc w base spare held n _ _ g1
  obtain ⟨y2, hy2⟩ := some_of_len hl (j := 2) (by decide)
  have g2 : DataW.trod enc Try.prog w base spare held n 9 ((([c0, c1, c2] : List Value).drop 2).take (Try.prog.cellsOf 9)) = some y2 := (hf 2 _ rfl).trans hy2
  rw [show Try.prog.cellsOf 9 = 1 by kernel_rfl] at g2
  obtain ⟨a2, K2, w2⟩ := (Rd.string Try.underlying9) enc w base spare held n _ _ g2
  exact ⟨⟨a0, a1, a2⟩, ⟨[c0], [c1, c2], rfl, K0, ⟨[c1], [c2], rfl, K1, K2⟩⟩, ⟨w0, w1, w2⟩⟩
def wf62 (v : S62) : Prop := (fun s => s.size ≤ maxLen) v.f0 ∧ wf60 v.f1
theorem rd62 : Rd Try.prog k62 62 wf62 := by
  intro H enc w base spare held fuel cs x h
  obtain ⟨xs, n, _, _, hlen, hl, hf⟩ := DataW.trod_struct Try.underlying62 h
  rw [show Try.prog.cellsOf 62 = 4 by kernel_rfl] at hlen
  obtain ⟨c0, c1, c2, c3, rfl⟩ : ∃ c0 c1 c2 c3, cs = [c0, c1, c2, c3] := by
    match cs, hlen with
    | [c0, c1, c2, c3], _ => exact ⟨c0, c1, c2, c3, rfl⟩
  obtain ⟨y0, hy0⟩ := some_of_len hl (j := 0) (by decide)
  have g0 : DataW.trod enc Try.prog w base spare held n 9 ((([c0, c1, c2, c3] : List Value).drop 0).take (Try.prog.cellsOf 9)) = some y0 := (hf 0 _ rfl).trans hy0
  rw [show Try.prog.cellsOf 9 = 1 by kernel_rfl] at g0
  obtain ⟨a0, K0, w0⟩ := (Rd.string Try.underlying9) enc w base spare held n _ _ g0
  obtain ⟨y1, hy1⟩ := some_of_len hl (j := 1) (by decide)
  have g1 : DataW.trod enc Try.prog w base spare held n 60 ((([c0, c1, c2, c3] : List Value).drop 1).take (Try.prog.cellsOf 60)) = some y1 := (hf 1 _ rfl).trans hy1
  rw [show Try.prog.cellsOf 60 = 3 by kernel_rfl] at g1
  obtain ⟨a1, K1, w1⟩ := rd60 enc w base spare held n _ _ g1
  exact ⟨⟨a0, a1⟩, ⟨[c0], [c1, c2, c3], rfl, K0, K1⟩, ⟨w0, w1⟩⟩
def wf64 (v : S64) : Prop := (fun s => s.size ≤ maxLen) v.f0 ∧ (fun n => (Lit.int .i64 n).wf = true) v.f1 ∧ wf60 v.f2
theorem rd64 : Rd Try.prog k64 64 wf64 := by
  intro H enc w base spare held fuel cs x h
  obtain ⟨xs, n, _, _, hlen, hl, hf⟩ := DataW.trod_struct Try.underlying64 h
  rw [show Try.prog.cellsOf 64 = 5 by kernel_rfl] at hlen
  obtain ⟨c0, c1, c2, c3, c4, rfl⟩ : ∃ c0 c1 c2 c3 c4, cs = [c0, c1, c2, c3, c4] := by
    match cs, hlen with
    | [c0, c1, c2, c3, c4], _ => exact ⟨c0, c1, c2, c3, c4, rfl⟩
  obtain ⟨y0, hy0⟩ := some_of_len hl (j := 0) (by decide)
  have g0 : DataW.trod enc Try.prog w base spare held n 9 ((([c0, c1, c2, c3, c4] : List Value).drop 0).take (Try.prog.cellsOf 9)) = some y0 := (hf 0 _ rfl).trans hy0
  rw [show Try.prog.cellsOf 9 = 1 by kernel_rfl] at g0
  obtain ⟨a0, K0, w0⟩ := (Rd.string Try.underlying9) enc w base spare held n _ _ g0
  obtain ⟨y1, hy1⟩ := some_of_len hl (j := 1) (by decide)
  have g1 : DataW.trod enc Try.prog w base spare held n 3 ((([c0, c1, c2, c3, c4] : List Value).drop 1).take (Try.prog.cellsOf 3)) = some y1 := (hf 1 _ rfl).trans hy1
  rw [show Try.prog.cellsOf 3 = 1 by kernel_rfl] at g1
  obtain ⟨a1, K1, w1⟩ := (Rd.int Try.underlying3) enc w base spare held n _ _ g1
  obtain ⟨y2, hy2⟩ := some_of_len hl (j := 2) (by decide)
  have g2 : DataW.trod enc Try.prog w base spare held n 60 ((([c0, c1, c2, c3, c4] : List Value).drop 2).take (Try.prog.cellsOf 60)) = some y2 := (hf 2 _ rfl).trans hy2
  rw [show Try.prog.cellsOf 60 = 3 by kernel_rfl] at g2
  obtain ⟨a2, K2, w2⟩ := rd60 enc w base spare held n _ _ g2
  exact ⟨⟨a0, a1, a2⟩, ⟨[c0], [c1, c2, c3, c4], rfl, K0, ⟨[c1], [c2, c3, c4], rfl, K1, K2⟩⟩, ⟨w0, w1, w2⟩⟩
def wf66 (v : S66) : Prop := (fun s => s.size ≤ maxLen) v.f0 ∧ (fun n => (Lit.int .i64 n).wf = true) v.f1 ∧ (fun _ => True) v.f2
theorem rd66 : Rd Try.prog k66 66 wf66 := by
  intro H enc w base spare held fuel cs x h
  obtain ⟨xs, n, _, _, hlen, hl, hf⟩ := DataW.trod_struct Try.underlying66 h
  rw [show Try.prog.cellsOf 66 = 3 by kernel_rfl] at hlen
  obtain ⟨c0, c1, c2, rfl⟩ : ∃ c0 c1 c2, cs = [c0, c1, c2] := by
    match cs, hlen with
    | [c0, c1, c2], _ => exact ⟨c0, c1, c2, rfl⟩
  obtain ⟨y0, hy0⟩ := some_of_len hl (j := 0) (by decide)
  have g0 : DataW.trod enc Try.prog w base spare held n 9 ((([c0, c1, c2] : List Value).drop 0).take (Try.prog.cellsOf 9)) = some y0 := (hf 0 _ rfl).trans hy0
  rw [show Try.prog.cellsOf 9 = 1 by kernel_rfl] at g0
  obtain ⟨a0, K0, w0⟩ := (Rd.string Try.underlying9) enc w base spare held n _ _ g0
  obtain ⟨y1, hy1⟩ := some_of_len hl (j := 1) (by decide)
  have g1 : DataW.trod enc Try.prog w base spare held n 3 ((([c0, c1, c2] : List Value).drop 1).take (Try.prog.cellsOf 3)) = some y1 := (hf 1 _ rfl).trans hy1
  rw [show Try.prog.cellsOf 3 = 1 by kernel_rfl] at g1
  obtain ⟨a1, K1, w1⟩ := (Rd.int Try.underlying3) enc w base spare held n _ _ g1
  obtain ⟨y2, hy2⟩ := some_of_len hl (j := 2) (by decide)
  have g2 : DataW.trod enc Try.prog w base spare held n 4 ((([c0, c1, c2] : List Value).drop 2).take (Try.prog.cellsOf 4)) = some y2 := (hf 2 _ rfl).trans hy2
  rw [show Try.prog.cellsOf 4 = 1 by kernel_rfl] at g2
  obtain ⟨a2, K2, w2⟩ := (Rd.bool Try.underlying4) enc w base spare held n _ _ g2
  exact ⟨⟨a0, a1, a2⟩, ⟨[c0], [c1, c2], rfl, K0, ⟨[c1], [c2], rfl, K1, K2⟩⟩, ⟨w0, w1, w2⟩⟩
end Go.Proofs.Ytnojcnmnkkgkgaa.Q
end
section
namespace Go.Proofs.Kb
open Go Go.RowKit Go.Proofs.Ytnojcnmnkkgkgaa.Q Go.Proofs.YtnojcnmnkkgkgaaW.PrintWords Go.Proofs.YtnojcnmnkkgkgaaW.PrintLast Go.Proofs.YtnojcnmnkkgkgaaW.PrintMore
set_option linter.unusedVariables false
set_option linter.unusedSimpArgs false
set_option maxRecDepth 100000
theorem OkJ.names {s : JS} {x y : SV} (h : OkJ s x) (h1 : y.f1 = x.f1) (h2 : y.f2 = x.f2) : OkJ s y := ⟨h.n, h.h, h.t, by rw [h1]; exact h.x1, by rw [h2]; exact h.x2, h.a, h.l⟩
theorem SameN.trans {x y z : SV} (h : SameN z y) (k : SameN y x) : SameN z x := ⟨h.1.trans k.1, h.2.1.trans k.2.1, h.2.2.1.trans k.2.2.1, h.2.2.2.1.trans k.2.2.2.1, h.2.2.2.2.1.trans k.2.2.2.2.1, h.2.2.2.2.2.trans k.2.2.2.2.2⟩
theorem RowX.kc60 {w : World} {A : Option Addr} {c : Nat} {l : List S60} (h : RowX valE w (.slice A l.length c) l) : Kd.C k60 w A l.length l ∧ l.length ≤ c := by
  obtain ⟨_, hc, hm⟩ := h.capOk
  exact ⟨Src.toC (E := valE) k60 rfl (fun x => k60_mk w x) h.src hm, hc⟩
theorem RowX.kcT {w : World} {A : Option Addr} {c : Nat} {l : List ByteArray} (h : RowX txtE w (.slice A l.length c) l) : Kd.C Kd.string w A l.length l ∧ l.length ≤ c := by
  obtain ⟨_, hc, hm⟩ := h.capOk
  exact ⟨Src.toC (E := txtE) Kd.string rfl (fun x => rfl) h.src hm, hc⟩
theorem ck_own {w0 w : World} {F : Nat → Prop} {A B Q : List Chunk} {y : SV} {l6 : List S60} {l7 : List S62} {l8 : List S64} {l9 : List S66} {l10 : List ByteArray} (h : St w0 F w (A ++ (B ++ (srC y l6 l7 l8 l9 l10 ++ Q)))) : CK w y l6 l7 l8 l9 l10 := by
  have h1 := h.drop
  have h2 := h1.drop
  exact ck_sr h2
theorem base_at {B W : World} {k : Nat} {C : Array Value} {t : TypeId} (hb : Below B.heap.size B W) (h : B.heap[k]? = some (.cells C t (0, 0))) : W.heap[k]? = some (.cells C t (0, 0)) := (hb.block k (lt_of_some h)).trans h
theorem base_below {w W3 U : World} {n1 : Nat} {c0 : Chunk} {o : Obj} (h3 : St w NoF W3 ([c0] ++ [blkC n1 o])) (hkp : Keep W3 U (fun b => b ∈ [n1])) : Below w.heap.size w U :=
  keep_below (h3.keep.trans hkp (fun b hb => (h3.own b (by rw [mem_fpc]; exact ⟨blkC n1 o, by simp, hb⟩))))
theorem base_blk0 {w W3 U : World} {n0 n1 : Nat} {o o' : Obj} (h3 : St w NoF W3 ([blkC n0 o'] ++ [blkC n1 o])) (hkp : Keep W3 U (fun b => b ∈ [n1])) : U.heap[n0]? = some o' := by
  have h0 : W3.heap[n0]? = some o' := h3.blk 0 rfl
  rw [← h0]
  exact hkp.block n0 (lt_of_some h0) (h3.apart 0 1 (by decide) rfl rfl n0 (List.mem_singleton.2 rfl))
theorem base_below3 {w3 W3 U : World} {n1 : Nat} (hb : Below w3.heap.size w3 W3) (hkp : Keep W3 U (fun b => b ∈ [n1])) (hn : w3.heap.size = n1) : Below w3.heap.size w3 U :=
  keep_below ((Keep.of_below hb NoF).trans hkp (fun b hb => .inr (by obtain rfl := List.mem_singleton.1 hb; omega)))
theorem jj_nil {w W : World} {c0 c1 c2 c3 c4 c5 : Chunk} {R : List Chunk} (h : St w NoF W (c0 :: c1 :: c2 :: c3 :: c4 :: c5 :: R)) : St w NoF W (c3 :: c2 :: c5 :: rowXC valE (.slice none 0 0) [] :: c1 :: c0 :: c4 :: rowXC valE (.slice none 0 0) [] :: R) := by
  have fr := fun {L : List Chunk} (h : St w NoF W L) => St.fresh h (Below.refl _ _) (rowXC valE (.slice none 0 0) []) RowX.nil (nd_bl (.slice none 0 0)) (fun b hb => by simp [rowXC, bl] at hb; cases hb)
  refine (fr (fr h)).perm ?_
  refine List.Perm.append_right R (l₁ := [_, _, _, _, _, _, _, _]) (l₂ := [_, _, _, _, _, _, _, _]) ?_
  exact perm_ix _ [5, 4, 7, 0, 3, 2, 6, 1] 8 rfl (by decide)
theorem jj_rp {w W : World} {a b c : Chunk} {S R : List Chunk} (h : St w NoF W ((a :: b :: S) ++ (c :: R))) : St w NoF W (c :: a :: b :: (S ++ R)) := h.perm (List.perm_middle (l₁ := a :: b :: S))
theorem jj_row {w W : World} {c0 c1 c2 c3 c4 c5 c6 c7 : Chunk} {R : List Chunk} (h : St w NoF W (c0 :: c1 :: c2 :: c3 :: c4 :: c5 :: c6 :: c7 :: R)) : St w NoF W (c3 :: c2 :: c6 :: c7 :: c1 :: c0 :: c5 :: c4 :: R) := by
  refine h.perm ?_
  refine List.Perm.append_right R (l₁ := [_, _, _, _, _, _, _, _]) (l₂ := [_, _, _, _, _, _, _, _]) ?_
  exact perm_ix _ [3, 2, 6, 7, 1, 0, 5, 4] 8 rfl (by decide)
set_option maxHeartbeats 32000000 in
theorem steps_row (w : World) (x : SV) (l6 : List S60) (l7 : List S62) (l8 : List S64) (l9 : List S66) (l10 : List ByteArray) (A1 : Option Addr) (c1 : Nat) (af : List S60) (tries : Int) (A3 : Option Addr) (c3 : Nat) (an : List Int) (res : Bool) (hx : CK w x l6 l7 l8 l9 l10) (hC1 : Kd.C k60 w A1 af.length af) (hcap1 : af.length ≤ c1) (hC3 : Kd.C (Kd.int .i64) w A3 an.length an) (hcap3 : an.length ≤ c3) (hwf1 : af.length ≤ maxLen ∧ ∀ a ∈ af, wf60 a) (hti : (Lit.int .i64 tries).wf = true) (hwf3 : an.length ≤ maxLen ∧ ∀ a ∈ an, (Lit.int .i64 a).wf = true) :
    Calls Try.prog 6 #[.agg #[.int .i64 x.f0, .string x.f1, .string x.f2, .string x.f3, .int .i64 x.f4, .bool x.f5, .slice x.f6.A x.f6.n x.f6.c, .slice x.f7.A x.f7.n x.f7.c, .slice x.f8.A x.f8.n x.f8.c, .slice x.f9.A x.f9.n x.f9.c, .slice x.f10.A x.f10.n x.f10.c], .slice A1 af.length c1, .int .i64 tries, .slice A3 an.length c3, .bool res] w fun E w' => E = .returned (.bool true) ∧ Below w.heap.size w w' := by
  obtain ⟨Q, hQ⟩ : ∃ Q, (fun E w' => E = Ending.returned (.bool true) ∧ Below w.heap.size w w') = Q := ⟨_, rfl⟩
  have HQ := Aside0.mk hQ
  rw [hQ]
  clear hQ
  have hu28 := Try.underlying28
  have hu50 := Try.underlying50
  have hu36 := Try.underlying36
  have hu34 := Try.underlying34
  have hu32 := Try.underlying32
  have hu48 := Try.underlying48
  have hu31 := Try.underlying31
  have hu45 := Try.underlying45
  obtain ⟨n0, hn0⟩ : ∃ n, w.heap.size = n := ⟨_, rfl⟩
  have h1 := (St.nil0 w NoF).alloc #[.int .i64 x.f0, .string x.f1, .string x.f2, .string x.f3, .int .i64 x.f4, .bool x.f5, .slice x.f6.A x.f6.n x.f6.c, .slice x.f7.A x.f7.n x.f7.c, .slice x.f8.A x.f8.n x.f8.c, .slice x.f9.A x.f9.n x.f9.c, .slice x.f10.A x.f10.n x.f10.c] 28 hn0
  obtain ⟨W1, hW1⟩ : ∃ W, w.alloc (.cells #[.int .i64 x.f0, .string x.f1, .string x.f2, .string x.f3, .int .i64 x.f4, .bool x.f5, .slice x.f6.A x.f6.n x.f6.c, .slice x.f7.A x.f7.n x.f7.c, .slice x.f8.A x.f8.n x.f8.c, .slice x.f9.A x.f9.n x.f9.c, .slice x.f10.A x.f10.n x.f10.c] 28) = W := ⟨_, rfl⟩
  rw [hW1] at h1
  have HS0 := Aside0.mk (show St w NoF W1 [blkC n0 (.cells #[.int .i64 x.f0, .string x.f1, .string x.f2, .string x.f3, .int .i64 x.f4, .bool x.f5, .slice x.f6.A x.f6.n x.f6.c, .slice x.f7.A x.f7.n x.f7.c, .slice x.f8.A x.f8.n x.f8.c, .slice x.f9.A x.f9.n x.f9.c, .slice x.f10.A x.f10.n x.f10.c] 28 (0, 0))] from h1)
  obtain ⟨b, hb, hsm⟩ : ∃ b, (∃ k, interlocklaw22_great.f k x.f0 x.f1 x.f2 x.f3 x.f4 x.f5 l6 l7 l8 l9 l10 af an = some b) ∧ (b = false → Small x.f1 x.f2 x.f3 l6 l7 l8 l9 l10 ∧ af.length ≤ 10 ∧ an.length ≤ 200) := by
    obtain ⟨k, r, h, h2⟩ := great_some x l6 l7 l8 l9 l10 af an
    exact ⟨r, ⟨k, h⟩, h2⟩
  have A12 := Aside0.mk (fun W (h : St w NoF W [blkC n0 (.cells #[.int .i64 x.f0, .string x.f1, .string x.f2, .string x.f3, .int .i64 x.f4, .bool x.f5, .slice x.f6.A x.f6.n x.f6.c, .slice x.f7.A x.f7.n x.f7.c, .slice x.f8.A x.f8.n x.f8.c, .slice x.f9.A x.f9.n x.f9.c, .slice x.f10.A x.f10.n x.f10.c] 28 (0, 0))]) => great_calls b hb (hx.below (keep_below h.keep)) A1 c1 (Kd.C_below hC1 (keep_below h.keep)) hcap1 A3 c3 (Kd.C_below hC3 (keep_below h.keep)) hcap3)
  have HX := Aside0.mk (fun W (hb : Below w.heap.size w W) => hx.below hb)
  have HC1 := Aside0.mk (fun W (hb : Below w.heap.size w W) => Kd.C_below hC1 hb)
  have HC3 := Aside0.mk (fun W (hb : Below w.heap.size w W) => Kd.C_below hC3 hb)
  have HWF1 := Aside0.mk hwf1.2
  have HWF3 := Aside0.mk hwf3.2
  have HCP1 := Aside0.mk hcap1
  have HCP3 := Aside0.mk hcap3
  obtain ⟨mt, hmt⟩ : ∃ m, maxT tries = m := ⟨_, rfl⟩
  have hmt1 : 1 ≤ mt ∧ mt ≤ 9223372036854775807 ∧ max tries 1 = mt := by
    have := bounds_i64 hti
    rw [← hmt]
    unfold maxT
    split <;> omega
  obtain ⟨hmt1, hmt2, hmax⟩ := hmt1
  have HMT := Aside0.mk hmt
  obtain ⟨n, hnn⟩ : ∃ n, an.length = n := ⟨_, rfl⟩
  obtain ⟨m, hmm⟩ : ∃ m, af.length = m := ⟨_, rfl⟩
  have HN := Aside0.mk hnn
  have HM := Aside0.mk hmm
  rw [hnn, hmm] at A12 hsm
  rw [hnn, hmm]
  clear h1 hx hb hC1 hcap1 hC3 hcap3 hwf1 hwf3 hti hmt hnn hmm
  have G1 : True := trivial
  have G2 : True := trivial
  cases b with
  | true =>
    clear hsm hmax
    go_enter Try.func6, Try.ntmps6
    go_wp2_with (first | (go_at_call 7; refine (alive_calls _).mono ?_; rintro E w1 ⟨rfl, hb⟩; have h := HS0.out.below hb; obtain ⟨p0, p1, p2, p3, p4, p5, p6, p7, p8, p9, p10⟩ := box11 (h.blk 0 rfl); have HS1 := Aside0.mk h; clear h hb HS0) | (go_at_call 12; refine (A12.out _ HS1.out).mono ?_; rintro E w2 ⟨rfl, hb⟩; have h := HS1.out.below hb; clear p0 p1 p2 p3 p4 p5 p6 p7 p8 p9 p10; obtain ⟨p0, p1, p2, p3, p4, p5, p6, p7, p8, p9, p10⟩ := box11 (h.blk 0 rfl); have HS2 := Aside0.mk h; clear h hb HS1 A12))
    rw [← HQ.out]
    exact ⟨rfl, keep_below HS2.out.keep⟩
  | false =>
    obtain ⟨hsm1, hm10, hn200⟩ := hsm rfl
    have HSM := Aside0.mk hsm1
    clear hsm hsm1
    have A14 := Aside0.mk (fun W (hb : Below w.heap.size w W) => copyStmt_calls W x l6 l7 l8 l9 l10 HSM.out.sn (HX.out W hb))
    have A15 := Aside0.mk (fun W (hb : Below w.heap.size w W) => copyRow_calls W A1 c1 af (by rw [HM.out]; omega) (HC1.out W hb) HCP1.out)
    have A13 := Aside0.mk (fun W (hb : Below w.heap.size w W) => copyInts_calls W A3 c3 an (HC3.out W hb) HCP3.out (by rw [HN.out]; omega))
    have A16 := Aside0.mk (fun W o Ar cr (h1 : SR W o l6 l7 l8 l9 l10) (h2 : Src valE W (.slice Ar af.length cr) af) => resume_calls W o Ar cr af tries l6 l7 l8 l9 l10 h1 HSM.out.sn h2 (by rw [HM.out]; omega))
    unfold Res16 at A16
    rw [HM.out, HMT.out] at A16
    rw [HM.out] at A15
    rw [HN.out] at A13
    cases res with
    | false =>
      go_enter Try.func6, Try.ntmps6
      go_wp2_with (first | (go_at_call 7; refine (alive_calls _).mono ?_; rintro E w1 ⟨rfl, hb⟩; have h := HS0.out.below hb; obtain ⟨p0, p1, p2, p3, p4, p5, p6, p7, p8, p9, p10⟩ := box11 (h.blk 0 rfl); have HS1 := Aside0.mk h; clear h hb HS0) | (go_at_call 12; refine (A12.out _ HS1.out).mono ?_; rintro E w2 ⟨rfl, hb⟩; have h := HS1.out.below hb; clear p0 p1 p2 p3 p4 p5 p6 p7 p8 p9 p10; obtain ⟨p0, p1, p2, p3, p4, p5, p6, p7, p8, p9, p10⟩ := box11 (h.blk 0 rfl); have HS2 := Aside0.mk h; clear h hb HS1 A12) | (go_at_call 14; refine (A14.out _ (keep_below HS2.out.keep)).mono ?_; rintro E w3 ⟨o, ho, rfl, hck, hb⟩; clear p0 p1 p2 p3 p4 p5 p6 p7 p8 p9 p10; have h := HS2.out.below hb; obtain ⟨n1, hn1⟩ : ∃ n, w3.heap.size = n := ⟨_, rfl⟩; have h3 := h.alloc #[.int .i64 0, .string ⟨#[]⟩, .string ⟨#[]⟩, .string ⟨#[]⟩, .int .i64 0, .bool false, .slice none 0 0, .slice none 0 0, .slice none 0 0, .slice none 0 0, .slice none 0 0] 28 hn1; have hb3 := keep_below ((St.nil0 w3 NoF).alloc #[.int .i64 0, .string ⟨#[]⟩, .string ⟨#[]⟩, .string ⟨#[]⟩, .int .i64 0, .bool false, .slice none 0 0, .slice none 0 0, .slice none 0 0, .slice none 0 0, .slice none 0 0] 28 hn1).keep; obtain ⟨W3, hW3⟩ : ∃ W, w3.alloc (.cells #[.int .i64 0, .string ⟨#[]⟩, .string ⟨#[]⟩, .string ⟨#[]⟩, .int .i64 0, .bool false, .slice none 0 0, .slice none 0 0, .slice none 0 0, .slice none 0 0, .slice none 0 0] 28) = W := ⟨_, rfl⟩; rw [hW3] at h3 hb3; have hz := h3.blk 1 rfl; obtain ⟨U1, U2, U3, U4, U5, U6, U7, U8, U9, U10, U11, ⟨hU1, hU2, hU3, hU4, hU5, hU6, hU7, hU8, hU9, hU10, hU11⟩, ⟨fc0, fg0, fe0, fc1, fg1, fe1, fc2, fg2, fe2, fc3, fg3, fe3, fc4, fg4, fe4, fc5, fg5, fe5, fc6, fg6, fe6, fc7, fg7, fe7, fc8, fg8, fe8, fc9, fg9, fe9, fc10, fg10, fe10⟩, hblk, hkp⟩ := store28 (y := o) hz; have hbel := base_below h3 hkp; have hx0 := base_blk0 h3 hkp; have hck2 := hck.below (base_below3 hb3 hkp hn1); have HO := Aside0.mk ho; have HB := Aside0.mk (And.intro hbel (And.intro hx0 (And.intro hblk hck2))); have h7 := St.nil0 U11 NoF; have HS3 := Aside0.mk h7; clear h h3 hb3 hz hblk hkp hbel hx0 hck hck2 hb ho h7 HS2 A14) | (clear G1; go_at_call 15; refine (A15.out _ HB.out.1).mono ?_; rintro E w4 ⟨Ar, cr, rfl, hr, hb, hf⟩; clear fc0 fg0 fe0 fc1 fg1 fe1 fc2 fg2 fe2 fc3 fg3 fe3 fc4 fg4 fe4 fc5 fg5 fe5 fc6 fg6 fe6 fc7 fg7 fe7 fc8 fg8 fe8 fc9 fg9 fe9 fc10 fg10 fe10 hU1 hU2 hU3 hU4 hU5 hU6 hU7 hU8 hU9 hU10 hU11; have h := HS3.out.fresh hb (rowXC valE _ _) hr (nd_bl _) hf; obtain ⟨o0, o1, o2, o3, o4, o5, o6, o7, o8, o9, o10⟩ := box11 ((HB.out.2.2.1 : U11.heap[n1]? = _) |> base_at (keep_below h.keep)); have HS4 := Aside0.mk h; clear h hr hb hf HS3) | (go_at_call 9; refine (new_calls _ o tries l6 l7 l8 l9 l10 (HB.out.2.2.2.below (keep_below HS4.out.keep)).sr HSM.out.sn).mono ?_; rintro E w5 ⟨jp, y, hy, rfl, h⟩; rw [HMT.out] at h; clear o0 o1 o2 o3 o4 o5 o6 o7 o8 o9 o10; have h5 := HS4.out.join h; have HY := Aside0.mk (SameN.trans (show SameN y o from hy) HO.out); obtain ⟨rp, hrp⟩ : ∃ n, w5.heap.size = n := ⟨_, rfl⟩; obtain ⟨p0, p1, p2, p3, p4, p5, p6, p7, p8, p9, p10⟩ := box11 ((HB.out.2.1 : U11.heap[n0]? = _) |> base_at (keep_below h5.keep)); have h6 := (h5.alloc #[.int .i64 x.f0, .string x.f1, .string x.f2, .string x.f3, .int .i64 x.f4, .bool x.f5, .slice x.f6.A x.f6.n x.f6.c, .slice x.f7.A x.f7.n x.f7.c, .slice x.f8.A x.f8.n x.f8.c, .slice x.f9.A x.f9.n x.f9.c, .slice x.f10.A x.f10.n x.f10.c, .int .i64 1, .slice none 0 0, .int .i64 mt, .int .i64 0] 50 hrp).perm (B := blkC rp (.cells #[.int .i64 x.f0, .string x.f1, .string x.f2, .string x.f3, .int .i64 x.f4, .bool x.f5, .slice x.f6.A x.f6.n x.f6.c, .slice x.f7.A x.f7.n x.f7.c, .slice x.f8.A x.f8.n x.f8.c, .slice x.f9.A x.f9.n x.f9.c, .slice x.f10.A x.f10.n x.f10.c, .int .i64 1, .slice none 0 0, .int .i64 mt, .int .i64 0] 50 (0, 0)) :: blkC jp _ :: (srC y l6 l7 l8 l9 l10 ++ [rowXC valE (.slice Ar m cr) af])) (List.perm_append_comm (l₂ := [_])); obtain ⟨W6, hW6⟩ : ∃ W, w5.alloc (.cells #[.int .i64 x.f0, .string x.f1, .string x.f2, .string x.f3, .int .i64 x.f4, .bool x.f5, .slice x.f6.A x.f6.n x.f6.c, .slice x.f7.A x.f7.n x.f7.c, .slice x.f8.A x.f8.n x.f8.c, .slice x.f9.A x.f9.n x.f9.c, .slice x.f10.A x.f10.n x.f10.c, .int .i64 1, .slice none 0 0, .int .i64 mt, .int .i64 0] 50) = W := ⟨_, rfl⟩; rw [hW6] at h6; obtain ⟨o0, o1, o2, o3, o4, o5, o6, o7, o8, o9, o10⟩ := box11 ((HB.out.2.2.1 : U11.heap[n1]? = _) |> base_at (keep_below h6.keep)); have HS6 := Aside0.mk h6; clear h h5 h6 hy HS4) | (clear G2; go_at_call 13; refine (A13.out _ (HB.out.1.trans ((keep_below HS6.out.keep).mono HB.out.1.size))).mono ?_; rintro E w7 ⟨va, rfl, hr, hb, hf⟩; obtain ⟨vaA, vac, rfl⟩ := hr.form; clear p0 p1 p2 p3 p4 p5 p6 p7 p8 p9 p10 o0 o1 o2 o3 o4 o5 o6 o7 o8 o9 o10; have h := (HS6.out.fresh hb (ansC _ an) hr.ans (nd_ab _) (fun b hb => hf b (ab_bl b hb))); obtain ⟨tp, htp⟩ : ∃ n, w7.heap.size = n := ⟨_, rfl⟩; have h2 := (h.alloc #[.slice vaA an.length vac, .slice none 0 0, .int .i64 0] 36 htp).perm (List.perm_append_comm (l₂ := [_])); rw [HN.out] at h2 ⊢; obtain ⟨vaW, hvaW⟩ : ∃ W, w7.alloc (.cells #[.slice vaA n vac, .slice none 0 0, .int .i64 0] 36) = W := ⟨_, rfl⟩; rw [hvaW] at h2; have HS8 := Aside0.mk h2; clear h h2 hr hb hf HS6) | (go_at_call 13; refine (A13.out _ (HB.out.1.trans ((keep_below HS8.out.keep).mono HB.out.1.size))).mono ?_; rintro E w9 ⟨vb, rfl, hr, hb, hf⟩; obtain ⟨vbA, vbc, rfl⟩ := hr.form;  have h := (HS8.out.fresh hb (ansC _ an) hr.ans (nd_ab _) (fun b hb => hf b (ab_bl b hb))); obtain ⟨up, hup⟩ : ∃ n, w9.heap.size = n := ⟨_, rfl⟩; have h2 := (h.alloc #[.slice vbA an.length vbc, .slice none 0 0, .int .i64 0] 36 hup).perm (List.perm_append_comm (l₂ := [_])); rw [HN.out] at h2 ⊢; obtain ⟨vbW, hvbW⟩ : ∃ W, w9.alloc (.cells #[.slice vbA n vbc, .slice none 0 0, .int .i64 0] 36) = W := ⟨_, rfl⟩; rw [hvbW] at h2; have HS10 := Aside0.mk h2; clear h h2 hr hb hf HS8))
      obtain ⟨s0, hs0⟩ : ∃ s0, (⟨1, [], mt, 0, an, [], 0⟩ : JS) = s0 := ⟨_, rfl⟩
      have HJ := Aside0.mk (show JJ U11 NoF jp tp y rp up x s0 s0 (srC y l6 l7 l8 l9 l10 ++ [rowXC valE (.slice Ar m cr) af]) _ from by rw [← hs0]; exact JJ.mk (A := none) (c := 0) (A2 := none) (c2 := 0) (jj_nil HS10.out))
      have HG := Aside0.mk (show Beg s0 x from by rw [← hs0]; exact ⟨rfl, rfl, ⟨hmt1, hmt2⟩, (by have := HSM.out.s1; omega), (by have := HSM.out.s2; omega), HWF3.out, fun a ha => (by cases ha), Nat.zero_le _⟩)
      have HP := Aside0.mk (show 1 ≤ s0.ph ∧ s0.ph ≤ 6 by rw [← hs0]; exact (by decide : (1 : Int) ≤ 1 ∧ (1 : Int) ≤ 6))
      have HT1 := Aside0.mk (show 1 ≤ s0.tr by rw [← hs0]; exact hmt1)
      clear hs0 HS10 A13 A15
      go_loopg [17] (n + 6) (fun gq v17 wx => ∃ i : Nat, v17 = .int .i64 i ∧ i + gq = n + 6 ∧ Aside0 (JJ U11 NoF jp tp y rp up x (s0.steps x i) (s0.steps x i) (srC y l6 l7 l8 l9 l10 ++ [rowXC valE (.slice Ar m cr) af]) wx))
      case atStart => exact ⟨0, rfl, by omega, HJ⟩
      case round =>
        clear HJ
        obtain ⟨i, rfl, hi, HS⟩ := hrel
        cases gk with
        | zero =>
          obtain rfl : i = n + 6 := by omega
          have hin : ¬ ((n + 6 : Nat) : Int) < (n : Int) + 6 := by omega
          obtain ⟨S1, hS1⟩ : ∃ S, s0.steps x (n + 6) = S := ⟨_, rfl⟩
          rw [hS1] at HS
          obtain ⟨A, c, av, kv, A2, c2, av2, kv2, h⟩ := HS.out
          have HSt := Aside0.mk h
          clear hS1 h HS
          go_wp2
          refine start_ (n := 15) (S := fun w' => w'.cell? ⟨n0, 0, none⟩ = some (.int .i64 x.f0) ∧ w'.cell? ⟨n0, 1, none⟩ = some (.string x.f1) ∧ w'.cell? ⟨n0, 2, none⟩ = some (.string x.f2) ∧ w'.cell? ⟨n0, 3, none⟩ = some (.string x.f3) ∧ w'.cell? ⟨n0, 4, none⟩ = some (.int .i64 x.f4) ∧ w'.cell? ⟨n0, 5, none⟩ = some (.bool x.f5) ∧ w'.cell? ⟨n0, 6, none⟩ = some (.slice x.f6.A x.f6.n x.f6.c) ∧ w'.cell? ⟨n0, 7, none⟩ = some (.slice x.f7.A x.f7.n x.f7.c) ∧ w'.cell? ⟨n0, 8, none⟩ = some (.slice x.f8.A x.f8.n x.f8.c) ∧ w'.cell? ⟨n0, 9, none⟩ = some (.slice x.f9.A x.f9.n x.f9.c) ∧ w'.cell? ⟨n0, 10, none⟩ = some (.slice x.f10.A x.f10.n x.f10.c) ∧ w'.cell? ⟨n1, 0, none⟩ = some (.int .i64 o.f0) ∧ w'.cell? ⟨n1, 1, none⟩ = some (.string o.f1) ∧ w'.cell? ⟨n1, 2, none⟩ = some (.string o.f2) ∧ w'.cell? ⟨n1, 3, none⟩ = some (.string o.f3) ∧ w'.cell? ⟨n1, 4, none⟩ = some (.int .i64 o.f4) ∧ w'.cell? ⟨n1, 5, none⟩ = some (.bool o.f5) ∧ w'.cell? ⟨n1, 6, none⟩ = some (.slice o.f6.A o.f6.n o.f6.c) ∧ w'.cell? ⟨n1, 7, none⟩ = some (.slice o.f7.A o.f7.n o.f7.c) ∧ w'.cell? ⟨n1, 8, none⟩ = some (.slice o.f8.A o.f8.n o.f8.c) ∧ w'.cell? ⟨n1, 9, none⟩ = some (.slice o.f9.A o.f9.n o.f9.c) ∧ w'.cell? ⟨n1, 10, none⟩ = some (.slice o.f10.A o.f10.n o.f10.c)) (ds := []) #[false, false, false, false, false, false, false, false, false, false, false, false, false, false, false] (by kernel_rfl) rfl rfl ⟨(box11 (base_at (keep_below HSt.out.keep) (HB.out.2.1 : U11.heap[n0]? = _))).1, (box11 (base_at (keep_below HSt.out.keep) (HB.out.2.1 : U11.heap[n0]? = _))).2.1, (box11 (base_at (keep_below HSt.out.keep) (HB.out.2.1 : U11.heap[n0]? = _))).2.2.1, (box11 (base_at (keep_below HSt.out.keep) (HB.out.2.1 : U11.heap[n0]? = _))).2.2.2.1, (box11 (base_at (keep_below HSt.out.keep) (HB.out.2.1 : U11.heap[n0]? = _))).2.2.2.2.1, (box11 (base_at (keep_below HSt.out.keep) (HB.out.2.1 : U11.heap[n0]? = _))).2.2.2.2.2.1, (box11 (base_at (keep_below HSt.out.keep) (HB.out.2.1 : U11.heap[n0]? = _))).2.2.2.2.2.2.1, (box11 (base_at (keep_below HSt.out.keep) (HB.out.2.1 : U11.heap[n0]? = _))).2.2.2.2.2.2.2.1, (box11 (base_at (keep_below HSt.out.keep) (HB.out.2.1 : U11.heap[n0]? = _))).2.2.2.2.2.2.2.2.1, (box11 (base_at (keep_below HSt.out.keep) (HB.out.2.1 : U11.heap[n0]? = _))).2.2.2.2.2.2.2.2.2.1, (box11 (base_at (keep_below HSt.out.keep) (HB.out.2.1 : U11.heap[n0]? = _))).2.2.2.2.2.2.2.2.2.2, (box11 (base_at (keep_below HSt.out.keep) (HB.out.2.2.1 : U11.heap[n1]? = _))).1, (box11 (base_at (keep_below HSt.out.keep) (HB.out.2.2.1 : U11.heap[n1]? = _))).2.1, (box11 (base_at (keep_below HSt.out.keep) (HB.out.2.2.1 : U11.heap[n1]? = _))).2.2.1, (box11 (base_at (keep_below HSt.out.keep) (HB.out.2.2.1 : U11.heap[n1]? = _))).2.2.2.1, (box11 (base_at (keep_below HSt.out.keep) (HB.out.2.2.1 : U11.heap[n1]? = _))).2.2.2.2.1, (box11 (base_at (keep_below HSt.out.keep) (HB.out.2.2.1 : U11.heap[n1]? = _))).2.2.2.2.2.1, (box11 (base_at (keep_below HSt.out.keep) (HB.out.2.2.1 : U11.heap[n1]? = _))).2.2.2.2.2.2.1, (box11 (base_at (keep_below HSt.out.keep) (HB.out.2.2.1 : U11.heap[n1]? = _))).2.2.2.2.2.2.2.1, (box11 (base_at (keep_below HSt.out.keep) (HB.out.2.2.1 : U11.heap[n1]? = _))).2.2.2.2.2.2.2.2.1, (box11 (base_at (keep_below HSt.out.keep) (HB.out.2.2.1 : U11.heap[n1]? = _))).2.2.2.2.2.2.2.2.2.1, (box11 (base_at (keep_below HSt.out.keep) (HB.out.2.2.1 : U11.heap[n1]? = _))).2.2.2.2.2.2.2.2.2.2⟩ (fun hHeld => ?_)
          have HS41 := Aside0.mk (HSt.out.drew)
          clear HSt
          generalize wr.drew = wrd at HS41 hHeld  ⊢
          refine pure_ (i := 0) (N := (some 129)) (v := ?_) (a' := ?_) #[true, false, false, false, false, false, false, false, false, false, false, false, false, false, false] rfl rfl (by kernel_rfl) (fun _ _ _ h => h) (Or.inl ⟨by rfl, ?_⟩) ?_ ?_
          rotate_left
          · intro w'
            go_simp
            with_reducible rfl
          rotate_left
          · simp only [Act.put, List.setIfInBounds_toArray, List.set_cons_zero, List.set_cons_succ, i64_w, i32_w]
            rfl
          refine take_ (i := 2) (N := (some 131)) (v := ?_) (a' := ?_) #[true, false, true, false, false, false, false, false, false, false, false, false, false, false, false] rfl rfl (by kernel_rfl) (fun _ _ _ h => h) (Or.inl ⟨by rfl, ?_⟩) hHeld ?_ ?_
          rotate_left
          · rintro w' ⟨s0, s1, s2, s3, s4, s5, s6, s7, s8, s9, s10, s11, s12, s13, s14, s15, s16, s17, s18, s19, s20, s21⟩
            go_simp
            with_reducible rfl
          rotate_left
          · simp only [Act.put, List.setIfInBounds_toArray, List.set_cons_zero, List.set_cons_succ, i64_w, i32_w]
            rfl
          refine one_ (i := 1) (N := (some 130)) #[true, true, true, false, false, false, false, false, false, false, false, false, false, false, false] rfl rfl (by kernel_rfl) (by decide) (fun K_ hK => ?_)
          refine goes_ Try.func22 (by kernel_rfl) rfl #[.pointer (some ⟨jp, 0, none⟩)] (by rfl) rfl rfl (by (try simp only [List.map_toArray, List.map_cons, List.map_nil]); first | done | rfl) ?_
          refine (stmt_calls (show JT U11 NoF jp tp y S1 (refL A2 c2 av2 _ rp up x S1 ++ (srC y l6 l7 l8 l9 l10 ++ [rowXC valE (.slice Ar m cr) af])) _ from ⟨A, c, av, _, HS41.out⟩) (ck_own HS41.out) HSM.out.sn).mono ?_
          rintro E w31 ⟨z, hz, rfl, hck, hb⟩
          have HZ := Aside0.mk hz
          have HCZ := Aside0.mk hck
          have HS42 := Aside0.mk (HS41.out.below hb)
          clear HS41
          clear hz hck hb
          refine ⟨_, rfl, ?_⟩
          clear hHeld
          refine hK.out _ _ ⟨(box11 (base_at (keep_below HS42.out.keep) (HB.out.2.1 : U11.heap[n0]? = _))).1, (box11 (base_at (keep_below HS42.out.keep) (HB.out.2.1 : U11.heap[n0]? = _))).2.1, (box11 (base_at (keep_below HS42.out.keep) (HB.out.2.1 : U11.heap[n0]? = _))).2.2.1, (box11 (base_at (keep_below HS42.out.keep) (HB.out.2.1 : U11.heap[n0]? = _))).2.2.2.1, (box11 (base_at (keep_below HS42.out.keep) (HB.out.2.1 : U11.heap[n0]? = _))).2.2.2.2.1, (box11 (base_at (keep_below HS42.out.keep) (HB.out.2.1 : U11.heap[n0]? = _))).2.2.2.2.2.1, (box11 (base_at (keep_below HS42.out.keep) (HB.out.2.1 : U11.heap[n0]? = _))).2.2.2.2.2.2.1, (box11 (base_at (keep_below HS42.out.keep) (HB.out.2.1 : U11.heap[n0]? = _))).2.2.2.2.2.2.2.1, (box11 (base_at (keep_below HS42.out.keep) (HB.out.2.1 : U11.heap[n0]? = _))).2.2.2.2.2.2.2.2.1, (box11 (base_at (keep_below HS42.out.keep) (HB.out.2.1 : U11.heap[n0]? = _))).2.2.2.2.2.2.2.2.2.1, (box11 (base_at (keep_below HS42.out.keep) (HB.out.2.1 : U11.heap[n0]? = _))).2.2.2.2.2.2.2.2.2.2, (box11 (base_at (keep_below HS42.out.keep) (HB.out.2.2.1 : U11.heap[n1]? = _))).1, (box11 (base_at (keep_below HS42.out.keep) (HB.out.2.2.1 : U11.heap[n1]? = _))).2.1, (box11 (base_at (keep_below HS42.out.keep) (HB.out.2.2.1 : U11.heap[n1]? = _))).2.2.1, (box11 (base_at (keep_below HS42.out.keep) (HB.out.2.2.1 : U11.heap[n1]? = _))).2.2.2.1, (box11 (base_at (keep_below HS42.out.keep) (HB.out.2.2.1 : U11.heap[n1]? = _))).2.2.2.2.1, (box11 (base_at (keep_below HS42.out.keep) (HB.out.2.2.1 : U11.heap[n1]? = _))).2.2.2.2.2.1, (box11 (base_at (keep_below HS42.out.keep) (HB.out.2.2.1 : U11.heap[n1]? = _))).2.2.2.2.2.2.1, (box11 (base_at (keep_below HS42.out.keep) (HB.out.2.2.1 : U11.heap[n1]? = _))).2.2.2.2.2.2.2.1, (box11 (base_at (keep_below HS42.out.keep) (HB.out.2.2.1 : U11.heap[n1]? = _))).2.2.2.2.2.2.2.2.1, (box11 (base_at (keep_below HS42.out.keep) (HB.out.2.2.1 : U11.heap[n1]? = _))).2.2.2.2.2.2.2.2.2.1, (box11 (base_at (keep_below HS42.out.keep) (HB.out.2.2.1 : U11.heap[n1]? = _))).2.2.2.2.2.2.2.2.2.2⟩ (fun hHeld => ?_)
          clear hK K_
          refine norm_ (a' := ?_) ?_ ?_
          rotate_left
          · show Act.put _ (some 130) _ = _
            simp only [Act.put, List.setIfInBounds_toArray, List.set_cons_zero, List.set_cons_succ, i64_w, i32_w]
            rfl
          refine one_ (i := 3) (N := (some 132)) #[true, true, true, true, false, false, false, false, false, false, false, false, false, false, false] rfl rfl (by kernel_rfl) (by decide) (fun K_ hK => ?_)
          refine goes_ Try.func21 (by kernel_rfl) rfl #[.agg #[.int .i64 z.f0, .string z.f1, .string z.f2, .string z.f3, .int .i64 z.f4, .bool z.f5, .slice z.f6.A z.f6.n z.f6.c, .slice z.f7.A z.f7.n z.f7.c, .slice z.f8.A z.f8.n z.f8.c, .slice z.f9.A z.f9.n z.f9.c, .slice z.f10.A z.f10.n z.f10.c], .agg #[.int .i64 x.f0, .string x.f1, .string x.f2, .string x.f3, .int .i64 x.f4, .bool x.f5, .slice x.f6.A x.f6.n x.f6.c, .slice x.f7.A x.f7.n x.f7.c, .slice x.f8.A x.f8.n x.f8.c, .slice x.f9.A x.f9.n x.f9.c, .slice x.f10.A x.f10.n x.f10.c]] (by rfl) rfl rfl (by (try simp only [List.map_toArray, List.map_cons, List.map_nil]); first | done | rfl) ?_
          refine (sameStmt_calls _ x z l6 l7 l8 l9 l10 HSM.out.sn (SameN.trans HZ.out HY.out) HCZ.out (HX.out _ (HB.out.1.trans ((keep_below HS42.out.keep).mono HB.out.1.size)))).mono ?_
          rintro E w32 ⟨rfl, hb⟩
          have HS43 := Aside0.mk (HS42.out.below hb)
          clear HS42
          clear hb
          refine ⟨_, rfl, ?_⟩
          clear hHeld
          refine hK.out _ _ ⟨(box11 (base_at (keep_below HS43.out.keep) (HB.out.2.1 : U11.heap[n0]? = _))).1, (box11 (base_at (keep_below HS43.out.keep) (HB.out.2.1 : U11.heap[n0]? = _))).2.1, (box11 (base_at (keep_below HS43.out.keep) (HB.out.2.1 : U11.heap[n0]? = _))).2.2.1, (box11 (base_at (keep_below HS43.out.keep) (HB.out.2.1 : U11.heap[n0]? = _))).2.2.2.1, (box11 (base_at (keep_below HS43.out.keep) (HB.out.2.1 : U11.heap[n0]? = _))).2.2.2.2.1, (box11 (base_at (keep_below HS43.out.keep) (HB.out.2.1 : U11.heap[n0]? = _))).2.2.2.2.2.1, (box11 (base_at (keep_below HS43.out.keep) (HB.out.2.1 : U11.heap[n0]? = _))).2.2.2.2.2.2.1, (box11 (base_at (keep_below HS43.out.keep) (HB.out.2.1 : U11.heap[n0]? = _))).2.2.2.2.2.2.2.1, (box11 (base_at (keep_below HS43.out.keep) (HB.out.2.1 : U11.heap[n0]? = _))).2.2.2.2.2.2.2.2.1, (box11 (base_at (keep_below HS43.out.keep) (HB.out.2.1 : U11.heap[n0]? = _))).2.2.2.2.2.2.2.2.2.1, (box11 (base_at (keep_below HS43.out.keep) (HB.out.2.1 : U11.heap[n0]? = _))).2.2.2.2.2.2.2.2.2.2, (box11 (base_at (keep_below HS43.out.keep) (HB.out.2.2.1 : U11.heap[n1]? = _))).1, (box11 (base_at (keep_below HS43.out.keep) (HB.out.2.2.1 : U11.heap[n1]? = _))).2.1, (box11 (base_at (keep_below HS43.out.keep) (HB.out.2.2.1 : U11.heap[n1]? = _))).2.2.1, (box11 (base_at (keep_below HS43.out.keep) (HB.out.2.2.1 : U11.heap[n1]? = _))).2.2.2.1, (box11 (base_at (keep_below HS43.out.keep) (HB.out.2.2.1 : U11.heap[n1]? = _))).2.2.2.2.1, (box11 (base_at (keep_below HS43.out.keep) (HB.out.2.2.1 : U11.heap[n1]? = _))).2.2.2.2.2.1, (box11 (base_at (keep_below HS43.out.keep) (HB.out.2.2.1 : U11.heap[n1]? = _))).2.2.2.2.2.2.1, (box11 (base_at (keep_below HS43.out.keep) (HB.out.2.2.1 : U11.heap[n1]? = _))).2.2.2.2.2.2.2.1, (box11 (base_at (keep_below HS43.out.keep) (HB.out.2.2.1 : U11.heap[n1]? = _))).2.2.2.2.2.2.2.2.1, (box11 (base_at (keep_below HS43.out.keep) (HB.out.2.2.1 : U11.heap[n1]? = _))).2.2.2.2.2.2.2.2.2.1, (box11 (base_at (keep_below HS43.out.keep) (HB.out.2.2.1 : U11.heap[n1]? = _))).2.2.2.2.2.2.2.2.2.2⟩ (fun hHeld => ?_)
          clear hK K_
          refine norm_ (a' := ?_) ?_ ?_
          rotate_left
          · show Act.put _ (some 132) _ = _
            simp only [Act.put, List.setIfInBounds_toArray, List.set_cons_zero, List.set_cons_succ, i64_w, i32_w]
            rfl
          refine pure_ (i := 4) (N := (some 133)) (v := ?_) (a' := ?_) #[true, true, true, true, true, false, false, false, false, false, false, false, false, false, false] rfl rfl (by kernel_rfl) (fun _ _ _ h => h) (Or.inl ⟨by rfl, ?_⟩) ?_ ?_
          rotate_left
          · intro w'
            go_simp
            with_reducible rfl
          rotate_left
          · simp only [Act.put, List.setIfInBounds_toArray, List.set_cons_zero, List.set_cons_succ, i64_w, i32_w]
            rfl
          refine take_ (i := 5) (N := (some 134)) (v := ?_) (a' := ?_) #[true, true, true, true, true, true, false, false, false, false, false, false, false, false, false] rfl rfl (by kernel_rfl) (fun _ _ _ h => h) (Or.inl ⟨by rfl, ?_⟩) hHeld ?_ ?_
          rotate_left
          · rintro w' ⟨s0, s1, s2, s3, s4, s5, s6, s7, s8, s9, s10, s11, s12, s13, s14, s15, s16, s17, s18, s19, s20, s21⟩
            go_simp
            with_reducible rfl
          rotate_left
          · simp only [Act.put, List.setIfInBounds_toArray, List.set_cons_zero, List.set_cons_succ, i64_w, i32_w]
            rfl
          refine take_ (i := 6) (N := (some 135)) (v := ?_) (a' := ?_) #[true, true, true, true, true, true, true, false, false, false, false, false, false, false, false] rfl rfl (by kernel_rfl) (fun _ _ _ h => h) (Or.inl ⟨by rfl, ?_⟩) hHeld ?_ ?_
          rotate_left
          · rintro w' ⟨s0, s1, s2, s3, s4, s5, s6, s7, s8, s9, s10, s11, s12, s13, s14, s15, s16, s17, s18, s19, s20, s21⟩
            go_simp
            with_reducible rfl
          rotate_left
          · simp only [Act.put, List.setIfInBounds_toArray, List.set_cons_zero, List.set_cons_succ, i64_w, i32_w]
            rfl
          refine one_ (i := 7) (N := (some 136)) #[true, true, true, true, true, true, true, true, false, false, false, false, false, false, false] rfl rfl (by kernel_rfl) (by decide) (fun K_ hK => ?_)
          refine goes_ Try.func21 (by kernel_rfl) rfl #[.agg #[.int .i64 o.f0, .string o.f1, .string o.f2, .string o.f3, .int .i64 o.f4, .bool o.f5, .slice o.f6.A o.f6.n o.f6.c, .slice o.f7.A o.f7.n o.f7.c, .slice o.f8.A o.f8.n o.f8.c, .slice o.f9.A o.f9.n o.f9.c, .slice o.f10.A o.f10.n o.f10.c], .agg #[.int .i64 x.f0, .string x.f1, .string x.f2, .string x.f3, .int .i64 x.f4, .bool x.f5, .slice x.f6.A x.f6.n x.f6.c, .slice x.f7.A x.f7.n x.f7.c, .slice x.f8.A x.f8.n x.f8.c, .slice x.f9.A x.f9.n x.f9.c, .slice x.f10.A x.f10.n x.f10.c]] (by rfl) rfl rfl (by (try simp only [List.map_toArray, List.map_cons, List.map_nil]); first | done | rfl) ?_
          refine (sameStmt_calls _ x o l6 l7 l8 l9 l10 HSM.out.sn HO.out (HB.out.2.2.2.below (keep_below HS43.out.keep)) (HX.out _ (HB.out.1.trans ((keep_below HS43.out.keep).mono HB.out.1.size)))).mono ?_
          rintro E w33 ⟨rfl, hb⟩
          have HS44 := Aside0.mk (HS43.out.below hb)
          clear HS43
          clear hb
          refine ⟨_, rfl, ?_⟩
          clear hHeld
          refine hK.out _ _ ⟨(box11 (base_at (keep_below HS44.out.keep) (HB.out.2.1 : U11.heap[n0]? = _))).1, (box11 (base_at (keep_below HS44.out.keep) (HB.out.2.1 : U11.heap[n0]? = _))).2.1, (box11 (base_at (keep_below HS44.out.keep) (HB.out.2.1 : U11.heap[n0]? = _))).2.2.1, (box11 (base_at (keep_below HS44.out.keep) (HB.out.2.1 : U11.heap[n0]? = _))).2.2.2.1, (box11 (base_at (keep_below HS44.out.keep) (HB.out.2.1 : U11.heap[n0]? = _))).2.2.2.2.1, (box11 (base_at (keep_below HS44.out.keep) (HB.out.2.1 : U11.heap[n0]? = _))).2.2.2.2.2.1, (box11 (base_at (keep_below HS44.out.keep) (HB.out.2.1 : U11.heap[n0]? = _))).2.2.2.2.2.2.1, (box11 (base_at (keep_below HS44.out.keep) (HB.out.2.1 : U11.heap[n0]? = _))).2.2.2.2.2.2.2.1, (box11 (base_at (keep_below HS44.out.keep) (HB.out.2.1 : U11.heap[n0]? = _))).2.2.2.2.2.2.2.2.1, (box11 (base_at (keep_below HS44.out.keep) (HB.out.2.1 : U11.heap[n0]? = _))).2.2.2.2.2.2.2.2.2.1, (box11 (base_at (keep_below HS44.out.keep) (HB.out.2.1 : U11.heap[n0]? = _))).2.2.2.2.2.2.2.2.2.2, (box11 (base_at (keep_below HS44.out.keep) (HB.out.2.2.1 : U11.heap[n1]? = _))).1, (box11 (base_at (keep_below HS44.out.keep) (HB.out.2.2.1 : U11.heap[n1]? = _))).2.1, (box11 (base_at (keep_below HS44.out.keep) (HB.out.2.2.1 : U11.heap[n1]? = _))).2.2.1, (box11 (base_at (keep_below HS44.out.keep) (HB.out.2.2.1 : U11.heap[n1]? = _))).2.2.2.1, (box11 (base_at (keep_below HS44.out.keep) (HB.out.2.2.1 : U11.heap[n1]? = _))).2.2.2.2.1, (box11 (base_at (keep_below HS44.out.keep) (HB.out.2.2.1 : U11.heap[n1]? = _))).2.2.2.2.2.1, (box11 (base_at (keep_below HS44.out.keep) (HB.out.2.2.1 : U11.heap[n1]? = _))).2.2.2.2.2.2.1, (box11 (base_at (keep_below HS44.out.keep) (HB.out.2.2.1 : U11.heap[n1]? = _))).2.2.2.2.2.2.2.1, (box11 (base_at (keep_below HS44.out.keep) (HB.out.2.2.1 : U11.heap[n1]? = _))).2.2.2.2.2.2.2.2.1, (box11 (base_at (keep_below HS44.out.keep) (HB.out.2.2.1 : U11.heap[n1]? = _))).2.2.2.2.2.2.2.2.2.1, (box11 (base_at (keep_below HS44.out.keep) (HB.out.2.2.1 : U11.heap[n1]? = _))).2.2.2.2.2.2.2.2.2.2⟩ (fun hHeld => ?_)
          clear hK K_
          refine norm_ (a' := ?_) ?_ ?_
          rotate_left
          · show Act.put _ (some 136) _ = _
            simp only [Act.put, List.setIfInBounds_toArray, List.set_cons_zero, List.set_cons_succ, i64_w, i32_w]
            rfl
          refine pure_ (i := 8) (N := (some 137)) (v := ?_) (a' := ?_) #[true, true, true, true, true, true, true, true, true, false, false, false, false, false, false] rfl rfl (by kernel_rfl) (fun _ _ _ h => h) (Or.inl ⟨by rfl, ?_⟩) ?_ ?_
          rotate_left
          · intro w'
            go_simp
            with_reducible rfl
          rotate_left
          · simp only [Act.put, List.setIfInBounds_toArray, List.set_cons_zero, List.set_cons_succ, i64_w, i32_w]
            rfl
          refine pure_ (i := 9) (N := (some 138)) (v := ?_) (a' := ?_) #[true, true, true, true, true, true, true, true, true, true, false, false, false, false, false] rfl rfl (by kernel_rfl) (fun _ _ _ h => h) (Or.inl ⟨by rfl, ?_⟩) ?_ ?_
          rotate_left
          · intro w'
            go_simp
            with_reducible rfl
          rotate_left
          · simp only [Act.put, List.setIfInBounds_toArray, List.set_cons_zero, List.set_cons_succ, i64_w, i32_w]
            rfl
          refine pure_ (i := 10) (N := (some 139)) (v := ?_) (a' := ?_) #[true, true, true, true, true, true, true, true, true, true, true, false, false, false, false] rfl rfl (by kernel_rfl) (fun _ _ _ h => h) (Or.inl ⟨by rfl, ?_⟩) ?_ ?_
          rotate_left
          · intro w'
            go_simp
            with_reducible rfl
          rotate_left
          · simp only [Act.put, List.setIfInBounds_toArray, List.set_cons_zero, List.set_cons_succ, i64_w, i32_w]
            rfl
          refine pure_ (i := 11) (N := (some 140)) (v := ?_) (a' := ?_) #[true, true, true, true, true, true, true, true, true, true, true, true, false, false, false] rfl rfl (by kernel_rfl) (fun _ _ _ h => h) (Or.inl ⟨by rfl, ?_⟩) ?_ ?_
          rotate_left
          · intro w'
            go_simp
            with_reducible rfl
          rotate_left
          · simp only [Act.put, List.setIfInBounds_toArray, List.set_cons_zero, List.set_cons_succ, i64_w, i32_w]
            rfl
          refine one_ (i := 12) (N := (some 141)) #[true, true, true, true, true, true, true, true, true, true, true, true, true, false, false] rfl rfl (by kernel_rfl) (by decide) (fun K_ hK => ?_)
          have hrw : RowX valE _ (.slice Ar m cr) af := HS44.out.h (rowXC valE (.slice Ar m cr) af) (List.mem_append_right _ (List.mem_append_right _ (List.mem_append_right _ List.mem_cons_self)))
          rw [← HM.out] at hrw
          have hq := sameRow_calls _ Ar cr A1 c1 af (by rw [HM.out]; omega) hrw.kc60.1 hrw.kc60.2 (HC1.out _ (HB.out.1.trans ((keep_below HS44.out.keep).mono HB.out.1.size))) HCP1.out
          rw [HM.out] at hq
          refine goes_ Try.func18 (by kernel_rfl) rfl #[.slice Ar m cr, .slice A1 m c1] (by rfl) rfl rfl (by (try simp only [List.map_toArray, List.map_cons, List.map_nil]); first | done | rfl) ?_
          refine (hq).mono ?_
          rintro E w34 ⟨rfl, hb⟩
          have HS45 := Aside0.mk (HS44.out.below hb)
          clear HS44
          clear hb hrw hq
          refine ⟨_, rfl, ?_⟩
          clear hHeld
          refine hK.out _ _ ⟨(box11 (base_at (keep_below HS45.out.keep) (HB.out.2.1 : U11.heap[n0]? = _))).1, (box11 (base_at (keep_below HS45.out.keep) (HB.out.2.1 : U11.heap[n0]? = _))).2.1, (box11 (base_at (keep_below HS45.out.keep) (HB.out.2.1 : U11.heap[n0]? = _))).2.2.1, (box11 (base_at (keep_below HS45.out.keep) (HB.out.2.1 : U11.heap[n0]? = _))).2.2.2.1, (box11 (base_at (keep_below HS45.out.keep) (HB.out.2.1 : U11.heap[n0]? = _))).2.2.2.2.1, (box11 (base_at (keep_below HS45.out.keep) (HB.out.2.1 : U11.heap[n0]? = _))).2.2.2.2.2.1, (box11 (base_at (keep_below HS45.out.keep) (HB.out.2.1 : U11.heap[n0]? = _))).2.2.2.2.2.2.1, (box11 (base_at (keep_below HS45.out.keep) (HB.out.2.1 : U11.heap[n0]? = _))).2.2.2.2.2.2.2.1, (box11 (base_at (keep_below HS45.out.keep) (HB.out.2.1 : U11.heap[n0]? = _))).2.2.2.2.2.2.2.2.1, (box11 (base_at (keep_below HS45.out.keep) (HB.out.2.1 : U11.heap[n0]? = _))).2.2.2.2.2.2.2.2.2.1, (box11 (base_at (keep_below HS45.out.keep) (HB.out.2.1 : U11.heap[n0]? = _))).2.2.2.2.2.2.2.2.2.2, (box11 (base_at (keep_below HS45.out.keep) (HB.out.2.2.1 : U11.heap[n1]? = _))).1, (box11 (base_at (keep_below HS45.out.keep) (HB.out.2.2.1 : U11.heap[n1]? = _))).2.1, (box11 (base_at (keep_below HS45.out.keep) (HB.out.2.2.1 : U11.heap[n1]? = _))).2.2.1, (box11 (base_at (keep_below HS45.out.keep) (HB.out.2.2.1 : U11.heap[n1]? = _))).2.2.2.1, (box11 (base_at (keep_below HS45.out.keep) (HB.out.2.2.1 : U11.heap[n1]? = _))).2.2.2.2.1, (box11 (base_at (keep_below HS45.out.keep) (HB.out.2.2.1 : U11.heap[n1]? = _))).2.2.2.2.2.1, (box11 (base_at (keep_below HS45.out.keep) (HB.out.2.2.1 : U11.heap[n1]? = _))).2.2.2.2.2.2.1, (box11 (base_at (keep_below HS45.out.keep) (HB.out.2.2.1 : U11.heap[n1]? = _))).2.2.2.2.2.2.2.1, (box11 (base_at (keep_below HS45.out.keep) (HB.out.2.2.1 : U11.heap[n1]? = _))).2.2.2.2.2.2.2.2.1, (box11 (base_at (keep_below HS45.out.keep) (HB.out.2.2.1 : U11.heap[n1]? = _))).2.2.2.2.2.2.2.2.2.1, (box11 (base_at (keep_below HS45.out.keep) (HB.out.2.2.1 : U11.heap[n1]? = _))).2.2.2.2.2.2.2.2.2.2⟩ (fun hHeld => ?_)
          clear hK K_
          refine norm_ (a' := ?_) ?_ ?_
          rotate_left
          · show Act.put _ (some 141) _ = _
            simp only [Act.put, List.setIfInBounds_toArray, List.set_cons_zero, List.set_cons_succ, i64_w, i32_w]
            rfl
          refine pure_ (i := 13) (N := (some 142)) (v := ?_) (a' := ?_) #[true, true, true, true, true, true, true, true, true, true, true, true, true, true, false] rfl rfl (by kernel_rfl) (fun _ _ _ h => h) (Or.inl ⟨by rfl, ?_⟩) ?_ ?_
          rotate_left
          · intro w'
            go_simp
            with_reducible rfl
          rotate_left
          · simp only [Act.put, List.setIfInBounds_toArray, List.set_cons_zero, List.set_cons_succ, i64_w, i32_w]
            rfl
          refine pure_ (i := 14) (N := (some 10)) (v := ?_) (a' := ?_) #[true, true, true, true, true, true, true, true, true, true, true, true, true, true, true] rfl rfl (by kernel_rfl) (fun _ _ _ h => h) (Or.inl ⟨by rfl, ?_⟩) ?_ ?_
          rotate_left
          · intro w'
            go_simp
            with_reducible rfl
          rotate_left
          · simp only [Act.put, List.setIfInBounds_toArray, List.set_cons_zero, List.set_cons_succ, i64_w, i32_w]
            rfl
          refine done_ (by kernel_rfl) ?_
          clear hHeld
          go_wp2
          rw [← HQ.out]
          exact ⟨rfl, HB.out.1.trans ((keep_below HS45.out.keep).mono HB.out.1.size)⟩
        | succ gq =>
          have hin : (i : Int) < (n : Int) + 6 := by omega
          have hi0 : (0 : Int) ≤ (i : Int) := by omega
          have hi9 : (i : Int) ≤ 1000000 := by omega
          have hn0' : (0 : Int) ≤ (n : Int) := by omega
          have hn9 : (n : Int) ≤ 1000000 := by omega
          have ok := steps_ok HG.out i (by omega)
          have hinv := steps_inv (x := x) HP.out HT1.out i
          have hst := steps_r HG.out (i + 1)
          have A10 := Aside0.mk (JJ.step HS.out (ok.names HY.out.2.1 HY.out.2.2.1))
          have A17 := Aside0.mk (fun W s (h : JJ U11 NoF jp tp y rp up x s (s0.steps x i) (srC y l6 l7 l8 l9 l10 ++ [rowXC valE (.slice Ar m cr) af]) W) => JJ.rstep h ok (fun hq => hinv.2 (by omega)))
          rw [step_names _ HY.out.2.1 HY.out.2.2.1] at A10
          rw [show (s0.steps x i).step x = s0.steps x (i + 1) from rfl] at A10 A17
          obtain ⟨S1, hS1⟩ : ∃ S, s0.steps x (i + 1) = S := ⟨_, rfl⟩
          have HS1' := Aside0.mk hS1
          rw [hS1] at A10 A17 hst
          obtain ⟨ee, bb, hE⟩ : ∃ e b, StepE S1 = .returned (.tuple #[.int .i64 e, .bool b]) := ⟨_, _, rfl⟩
          rw [hE] at A10 A17
          have HH0 := Aside0.mk hst.1
          have HAL := Aside0.mk (show S1.af.length < 1000000 by have := hst.2.2.2.2.2; omega)
          have HTL := Aside0.mk (show S1.txt.length ≤ 1000000 by have := hst.2.1; omega)
          have hee : (ee != ee) = false := by simp
          have hbb : (bb != bb) = false := by simp
          have hpp : (S1.ph != S1.ph) = false := by simp
          clear hst hE hS1 hinv ok HS
          go_wp2_with (first
            | (go_at_call 10; refine A10.out.mono ?_; rintro E w20 ⟨rfl, h⟩; have HT := Aside0.mk h; clear h A10)
            | (go_at_call 17; refine (A17.out _ _ HT.out).mono ?_; rintro E w21 ⟨rfl, h⟩; have HU := Aside0.mk h; clear h HT A17))
          obtain ⟨A, c, av, kv, A2, c2, av2, kv2, h⟩ := HU.out
          obtain ⟨Ak, ck, rfl⟩ := (h.rowX 2 rfl).form
          obtain ⟨Ak2, ck2, rfl⟩ := (h.rowX 7 rfl).form
          have HSt := Aside0.mk h
          clear h HU
          refine start_ (n := 46) (S := fun w' => w'.cell? ⟨rp, 11, none⟩ = some (.int .i64 S1.ph) ∧ w'.cell? ⟨rp, 12, none⟩ = some (.slice A2 S1.af.length c2) ∧ w'.cell? ⟨tp, 1, none⟩ = some (.slice Ak S1.txt.length ck) ∧ w'.cell? ⟨up, 1, none⟩ = some (.slice Ak2 S1.txt.length ck2) ∧ w'.cell? ⟨tp, 2, none⟩ = some (.int .i64 0)) (ds := []) #[false, false, false, false, false, false, false, false, false, false, false, false, false, false, false, false, false, false, false, false, false, false, false, false, false, false, false, false, false, false, false, false, false, false, false, false, false, false, false, false, false, false, false, false, false, false] (by kernel_rfl) rfl rfl ⟨(blk_cell (HSt.out.blk 8 rfl) 11).trans rfl, (blk_cell (HSt.out.blk 8 rfl) 12).trans rfl, (blk_cell (HSt.out.blk 1 rfl) 1).trans rfl, (blk_cell (HSt.out.blk 6 rfl) 1).trans rfl, ((blk_cell (HSt.out.blk 1 rfl) 2).trans rfl).trans (congrArg (fun z => some (Value.int .i64 z)) HH0.out)⟩ (fun hHeld => ?_)
          have HS21 := Aside0.mk (HSt.out.drew)
          clear HSt
          generalize w21.drew = w21d at HS21 hHeld  ⊢
          refine pure_ (i := 0) (N := (some 83)) (v := ?_) (a' := ?_) #[true, false, false, false, false, false, false, false, false, false, false, false, false, false, false, false, false, false, false, false, false, false, false, false, false, false, false, false, false, false, false, false, false, false, false, false, false, false, false, false, false, false, false, false, false, false] rfl rfl (by kernel_rfl) (fun _ _ _ h => h) (Or.inl ⟨by rfl, ?_⟩) ?_ ?_
          rotate_left
          · intro w'
            go_simp
            with_reducible rfl
          rotate_left
          · simp only [Act.put, List.setIfInBounds_toArray, List.set_cons_zero, List.set_cons_succ, i64_w, i32_w]
            rfl
          refine pure_ (i := 1) (N := (some 84)) (v := ?_) (a' := ?_) #[true, true, false, false, false, false, false, false, false, false, false, false, false, false, false, false, false, false, false, false, false, false, false, false, false, false, false, false, false, false, false, false, false, false, false, false, false, false, false, false, false, false, false, false, false, false] rfl rfl (by kernel_rfl) (fun _ _ _ h => h) (Or.inl ⟨by rfl, ?_⟩) ?_ ?_
          rotate_left
          · intro w'
            go_simp
            with_reducible rfl
          rotate_left
          · simp only [Act.put, List.setIfInBounds_toArray, List.set_cons_zero, List.set_cons_succ, i64_w, i32_w]
            rfl
          refine pure_ (i := 2) (N := (some 85)) (v := ?_) (a' := ?_) #[true, true, true, false, false, false, false, false, false, false, false, false, false, false, false, false, false, false, false, false, false, false, false, false, false, false, false, false, false, false, false, false, false, false, false, false, false, false, false, false, false, false, false, false, false, false] rfl rfl (by kernel_rfl) (fun _ _ _ h => h) (Or.inl ⟨by rfl, ?_⟩) ?_ ?_
          rotate_left
          · intro w'
            go_simp
            with_reducible rfl
          rotate_left
          · simp only [Act.put, List.setIfInBounds_toArray, List.set_cons_zero, List.set_cons_succ, i64_w, i32_w]
            rfl
          refine pure_ (i := 3) (N := (some 86)) (v := ?_) (a' := ?_) #[true, true, true, true, false, false, false, false, false, false, false, false, false, false, false, false, false, false, false, false, false, false, false, false, false, false, false, false, false, false, false, false, false, false, false, false, false, false, false, false, false, false, false, false, false, false] rfl rfl (by kernel_rfl) (fun _ _ _ h => h) (Or.inl ⟨by rfl, ?_⟩) ?_ ?_
          rotate_left
          · intro w'
            go_simp
            with_reducible rfl
          rotate_left
          · simp only [Act.put, List.setIfInBounds_toArray, List.set_cons_zero, List.set_cons_succ, i64_w, i32_w]
            rfl
          refine pure_ (i := 4) (N := (some 87)) (v := ?_) (a' := ?_) #[true, true, true, true, true, false, false, false, false, false, false, false, false, false, false, false, false, false, false, false, false, false, false, false, false, false, false, false, false, false, false, false, false, false, false, false, false, false, false, false, false, false, false, false, false, false] rfl rfl (by kernel_rfl) (fun _ _ _ h => h) (Or.inl ⟨by rfl, ?_⟩) ?_ ?_
          rotate_left
          · intro w'
            go_simp
            with_reducible rfl
          rotate_left
          · simp only [Act.put, List.setIfInBounds_toArray, List.set_cons_zero, List.set_cons_succ, i64_w, i32_w]
            rfl
          refine pure_ (i := 5) (N := (some 88)) (v := ?_) (a' := ?_) #[true, true, true, true, true, true, false, false, false, false, false, false, false, false, false, false, false, false, false, false, false, false, false, false, false, false, false, false, false, false, false, false, false, false, false, false, false, false, false, false, false, false, false, false, false, false] rfl rfl (by kernel_rfl) (fun _ _ _ h => h) (Or.inl ⟨by rfl, ?_⟩) ?_ ?_
          rotate_left
          · intro w'
            go_simp
            with_reducible rfl
          rotate_left
          · simp only [Act.put, List.setIfInBounds_toArray, List.set_cons_zero, List.set_cons_succ, i64_w, i32_w]
            rfl
          refine pure_ (i := 6) (N := (some 89)) (v := ?_) (a' := ?_) #[true, true, true, true, true, true, true, false, false, false, false, false, false, false, false, false, false, false, false, false, false, false, false, false, false, false, false, false, false, false, false, false, false, false, false, false, false, false, false, false, false, false, false, false, false, false] rfl rfl (by kernel_rfl) (fun _ _ _ h => h) (Or.inl ⟨by rfl, ?_⟩) ?_ ?_
          rotate_left
          · intro w'
            go_simp
            with_reducible rfl
          rotate_left
          · simp only [Act.put, List.setIfInBounds_toArray, List.set_cons_zero, List.set_cons_succ, i64_w, i32_w]
            rfl
          refine pure_ (i := 7) (N := (some 90)) (v := ?_) (a' := ?_) #[true, true, true, true, true, true, true, true, false, false, false, false, false, false, false, false, false, false, false, false, false, false, false, false, false, false, false, false, false, false, false, false, false, false, false, false, false, false, false, false, false, false, false, false, false, false] rfl rfl (by kernel_rfl) (fun _ _ _ h => h) (Or.inl ⟨by rfl, ?_⟩) ?_ ?_
          rotate_left
          · intro w'
            go_simp
            with_reducible rfl
          rotate_left
          · simp only [Act.put, List.setIfInBounds_toArray, List.set_cons_zero, List.set_cons_succ, i64_w, i32_w]
            rfl
          refine pure_ (i := 8) (N := (some 91)) (v := ?_) (a' := ?_) #[true, true, true, true, true, true, true, true, true, false, false, false, false, false, false, false, false, false, false, false, false, false, false, false, false, false, false, false, false, false, false, false, false, false, false, false, false, false, false, false, false, false, false, false, false, false] rfl rfl (by kernel_rfl) (fun _ _ _ h => h) (Or.inl ⟨by rfl, ?_⟩) ?_ ?_
          rotate_left
          · intro w'
            go_simp
            with_reducible rfl
          rotate_left
          · simp only [Act.put, List.setIfInBounds_toArray, List.set_cons_zero, List.set_cons_succ, i64_w, i32_w]
            rfl
          refine pure_ (i := 9) (N := (some 92)) (v := ?_) (a' := ?_) #[true, true, true, true, true, true, true, true, true, true, false, false, false, false, false, false, false, false, false, false, false, false, false, false, false, false, false, false, false, false, false, false, false, false, false, false, false, false, false, false, false, false, false, false, false, false] rfl rfl (by kernel_rfl) (fun _ _ _ h => h) (Or.inl ⟨by rfl, ?_⟩) ?_ ?_
          rotate_left
          · intro w'
            go_simp
            with_reducible rfl
          rotate_left
          · simp only [Act.put, List.setIfInBounds_toArray, List.set_cons_zero, List.set_cons_succ, i64_w, i32_w]
            rfl
          refine pure_ (i := 11) (N := (some 94)) (v := ?_) (a' := ?_) #[true, true, true, true, true, true, true, true, true, true, false, true, false, false, false, false, false, false, false, false, false, false, false, false, false, false, false, false, false, false, false, false, false, false, false, false, false, false, false, false, false, false, false, false, false, false] rfl rfl (by kernel_rfl) (fun _ _ _ h => h) (Or.inl ⟨by rfl, ?_⟩) ?_ ?_
          rotate_left
          · intro w'
            go_simp
            with_reducible rfl
          rotate_left
          · simp only [Act.put, List.setIfInBounds_toArray, List.set_cons_zero, List.set_cons_succ, i64_w, i32_w]
            rfl
          refine pure_ (i := 12) (N := (some 95)) (v := ?_) (a' := ?_) #[true, true, true, true, true, true, true, true, true, true, false, true, true, false, false, false, false, false, false, false, false, false, false, false, false, false, false, false, false, false, false, false, false, false, false, false, false, false, false, false, false, false, false, false, false, false] rfl rfl (by kernel_rfl) (fun _ _ _ h => h) (Or.inl ⟨by rfl, ?_⟩) ?_ ?_
          rotate_left
          · intro w'
            go_simp
            with_reducible rfl
          rotate_left
          · simp only [Act.put, List.setIfInBounds_toArray, List.set_cons_zero, List.set_cons_succ, i64_w, i32_w]
            rfl
          refine pure_ (i := 13) (N := (some 96)) (v := ?_) (a' := ?_) #[true, true, true, true, true, true, true, true, true, true, false, true, true, true, false, false, false, false, false, false, false, false, false, false, false, false, false, false, false, false, false, false, false, false, false, false, false, false, false, false, false, false, false, false, false, false] rfl rfl (by kernel_rfl) (fun _ _ _ h => h) (Or.inl ⟨by rfl, ?_⟩) ?_ ?_
          rotate_left
          · intro w'
            go_simp
            with_reducible rfl
          rotate_left
          · simp only [Act.put, List.setIfInBounds_toArray, List.set_cons_zero, List.set_cons_succ, i64_w, i32_w]
            rfl
          refine take_ (i := 14) (N := (some 97)) (v := ?_) (a' := ?_) #[true, true, true, true, true, true, true, true, true, true, false, true, true, true, true, false, false, false, false, false, false, false, false, false, false, false, false, false, false, false, false, false, false, false, false, false, false, false, false, false, false, false, false, false, false, false] rfl rfl (by kernel_rfl) (fun _ _ _ h => h) (Or.inl ⟨by rfl, ?_⟩) hHeld ?_ ?_
          rotate_left
          · rintro w' ⟨s0, s1, s2, s3, s4⟩
            go_simp
            with_reducible rfl
          rotate_left
          · simp only [Act.put, List.setIfInBounds_toArray, List.set_cons_zero, List.set_cons_succ, i64_w, i32_w]
            rfl
          refine one_ (i := 10) (N := (some 93)) #[true, true, true, true, true, true, true, true, true, true, true, true, true, true, true, false, false, false, false, false, false, false, false, false, false, false, false, false, false, false, false, false, false, false, false, false, false, false, false, false, false, false, false, false, false, false] rfl rfl (by kernel_rfl) (by decide) (fun K_ hK => ?_)
          refine goes_ Try.func11 (by kernel_rfl) rfl #[.pointer (some ⟨jp, 0, none⟩)] (by rfl) rfl rfl (by (try simp only [List.map_toArray, List.map_cons, List.map_nil]); first | done | rfl) ?_
          refine (phase_calls (show JT U11 NoF jp tp y S1 (refL A2 c2 av2 _ rp up x S1 ++ (srC y l6 l7 l8 l9 l10 ++ [rowXC valE (.slice Ar m cr) af])) _ from ⟨A, c, av, _, HS21.out⟩)).mono ?_
          rintro E w22 ⟨rfl, rfl⟩
          refine ⟨_, rfl, ?_⟩
          clear hHeld
          refine hK.out _ _ ⟨(blk_cell (HS21.out.blk 8 rfl) 11).trans rfl, (blk_cell (HS21.out.blk 8 rfl) 12).trans rfl, (blk_cell (HS21.out.blk 1 rfl) 1).trans rfl, (blk_cell (HS21.out.blk 6 rfl) 1).trans rfl, ((blk_cell (HS21.out.blk 1 rfl) 2).trans rfl).trans (congrArg (fun z => some (Value.int .i64 z)) HH0.out)⟩ (fun hHeld => ?_)
          clear hK K_
          refine norm_ (a' := ?_) ?_ ?_
          rotate_left
          · show Act.put _ (some 93) _ = _
            simp only [Act.put, List.setIfInBounds_toArray, List.set_cons_zero, List.set_cons_succ, i64_w, i32_w]
            rfl
          refine pure_ (i := 15) (N := (some 98)) (v := ?_) (a' := ?_) #[true, true, true, true, true, true, true, true, true, true, true, true, true, true, true, true, false, false, false, false, false, false, false, false, false, false, false, false, false, false, false, false, false, false, false, false, false, false, false, false, false, false, false, false, false, false] rfl rfl (by kernel_rfl) (fun _ _ _ h => h) (Or.inl ⟨by rfl, ?_⟩) ?_ ?_
          rotate_left
          · intro w'
            go_simp
            with_reducible rfl
          rotate_left
          · simp only [Act.put, List.setIfInBounds_toArray, List.set_cons_zero, List.set_cons_succ, i64_w, i32_w]
            rfl
          refine pure_ (i := 16) (N := (some 99)) (v := ?_) (a' := ?_) #[true, true, true, true, true, true, true, true, true, true, true, true, true, true, true, true, true, false, false, false, false, false, false, false, false, false, false, false, false, false, false, false, false, false, false, false, false, false, false, false, false, false, false, false, false, false] rfl rfl (by kernel_rfl) (fun _ _ _ h => h) (Or.inl ⟨by rfl, ?_⟩) ?_ ?_
          rotate_left
          · intro w'
            go_simp
            with_reducible rfl
          rotate_left
          · simp only [Act.put, List.setIfInBounds_toArray, List.set_cons_zero, List.set_cons_succ, i64_w, i32_w]
            rfl
          refine pure_ (i := 17) (N := (some 100)) (v := ?_) (a' := ?_) #[true, true, true, true, true, true, true, true, true, true, true, true, true, true, true, true, true, true, false, false, false, false, false, false, false, false, false, false, false, false, false, false, false, false, false, false, false, false, false, false, false, false, false, false, false, false] rfl rfl (by kernel_rfl) (fun _ _ _ h => h) (Or.inl ⟨by rfl, ?_⟩) ?_ ?_
          rotate_left
          · intro w'
            go_simp
            with_reducible rfl
          rotate_left
          · simp only [Act.put, List.setIfInBounds_toArray, List.set_cons_zero, List.set_cons_succ, i64_w, i32_w]
            rfl
          refine pure_ (i := 18) (N := (some 101)) (v := ?_) (a' := ?_) #[true, true, true, true, true, true, true, true, true, true, true, true, true, true, true, true, true, true, true, false, false, false, false, false, false, false, false, false, false, false, false, false, false, false, false, false, false, false, false, false, false, false, false, false, false, false] rfl rfl (by kernel_rfl) (fun _ _ _ h => h) (Or.inl ⟨by rfl, ?_⟩) ?_ ?_
          rotate_left
          · intro w'
            go_simp
            with_reducible rfl
          rotate_left
          · simp only [Act.put, List.setIfInBounds_toArray, List.set_cons_zero, List.set_cons_succ, i64_w, i32_w]
            rfl
          refine pure_ (i := 20) (N := (some 103)) (v := ?_) (a' := ?_) #[true, true, true, true, true, true, true, true, true, true, true, true, true, true, true, true, true, true, true, false, true, false, false, false, false, false, false, false, false, false, false, false, false, false, false, false, false, false, false, false, false, false, false, false, false, false] rfl rfl (by kernel_rfl) (fun _ _ _ h => h) (Or.inl ⟨by rfl, ?_⟩) ?_ ?_
          rotate_left
          · intro w'
            go_simp
            with_reducible rfl
          rotate_left
          · simp only [Act.put, List.setIfInBounds_toArray, List.set_cons_zero, List.set_cons_succ, i64_w, i32_w]
            rfl
          refine pure_ (i := 21) (N := (some 104)) (v := ?_) (a' := ?_) #[true, true, true, true, true, true, true, true, true, true, true, true, true, true, true, true, true, true, true, false, true, true, false, false, false, false, false, false, false, false, false, false, false, false, false, false, false, false, false, false, false, false, false, false, false, false] rfl rfl (by kernel_rfl) (fun _ _ _ h => h) (Or.inl ⟨by rfl, ?_⟩) ?_ ?_
          rotate_left
          · intro w'
            go_simp
            with_reducible rfl
          rotate_left
          · simp only [Act.put, List.setIfInBounds_toArray, List.set_cons_zero, List.set_cons_succ, i64_w, i32_w]
            rfl
          refine pure_ (i := 22) (N := (some 105)) (v := ?_) (a' := ?_) #[true, true, true, true, true, true, true, true, true, true, true, true, true, true, true, true, true, true, true, false, true, true, true, false, false, false, false, false, false, false, false, false, false, false, false, false, false, false, false, false, false, false, false, false, false, false] rfl rfl (by kernel_rfl) (fun _ _ _ h => h) (Or.inl ⟨by rfl, ?_⟩) ?_ ?_
          rotate_left
          · intro w'
            go_simp
            with_reducible rfl
          rotate_left
          · simp only [Act.put, List.setIfInBounds_toArray, List.set_cons_zero, List.set_cons_succ, i64_w, i32_w]
            rfl
          refine take_ (i := 23) (N := (some 106)) (v := ?_) (a' := ?_) #[true, true, true, true, true, true, true, true, true, true, true, true, true, true, true, true, true, true, true, false, true, true, true, true, false, false, false, false, false, false, false, false, false, false, false, false, false, false, false, false, false, false, false, false, false, false] rfl rfl (by kernel_rfl) (fun _ _ _ h => h) (Or.inl ⟨by rfl, ?_⟩) hHeld ?_ ?_
          rotate_left
          · rintro w' ⟨s0, s1, s2, s3, s4⟩
            go_simp
            with_reducible rfl
          rotate_left
          · simp only [Act.put, List.setIfInBounds_toArray, List.set_cons_zero, List.set_cons_succ, i64_w, i32_w]
            rfl
          refine one_ (i := 19) (N := (some 102)) #[true, true, true, true, true, true, true, true, true, true, true, true, true, true, true, true, true, true, true, true, true, true, true, true, false, false, false, false, false, false, false, false, false, false, false, false, false, false, false, false, false, false, false, false, false, false] rfl rfl (by kernel_rfl) (by decide) (fun K_ hK => ?_)
          refine goes_ Try.func19 (by kernel_rfl) rfl #[.pointer (some ⟨jp, 0, none⟩)] (by rfl) rfl rfl (by (try simp only [List.map_toArray, List.map_cons, List.map_nil]); first | done | rfl) ?_
          refine (after2_calls (show JT U11 NoF jp tp y S1 (refL A2 c2 av2 _ rp up x S1 ++ (srC y l6 l7 l8 l9 l10 ++ [rowXC valE (.slice Ar m cr) af])) _ from ⟨A, c, av, _, HS21.out⟩) HAL.out).mono ?_
          rintro E w23 ⟨A5, c5, rfl, hr, hb, hf⟩
          have HRW := Aside0.mk hr
          have HS22 := Aside0.mk (HS21.out.below hb)
          clear HS21
          clear hr hb hf
          refine ⟨_, rfl, ?_⟩
          clear hHeld
          refine hK.out _ _ ⟨(blk_cell (HS22.out.blk 8 rfl) 11).trans rfl, (blk_cell (HS22.out.blk 8 rfl) 12).trans rfl, (blk_cell (HS22.out.blk 1 rfl) 1).trans rfl, (blk_cell (HS22.out.blk 6 rfl) 1).trans rfl, ((blk_cell (HS22.out.blk 1 rfl) 2).trans rfl).trans (congrArg (fun z => some (Value.int .i64 z)) HH0.out)⟩ (fun hHeld => ?_)
          clear hK K_
          refine norm_ (a' := ?_) ?_ ?_
          rotate_left
          · show Act.put _ (some 102) _ = _
            simp only [Act.put, List.setIfInBounds_toArray, List.set_cons_zero, List.set_cons_succ, i64_w, i32_w]
            rfl
          refine one_ (i := 24) (N := (some 107)) #[true, true, true, true, true, true, true, true, true, true, true, true, true, true, true, true, true, true, true, true, true, true, true, true, true, false, false, false, false, false, false, false, false, false, false, false, false, false, false, false, false, false, false, false, false, false] rfl rfl (by kernel_rfl) (by decide) (fun K_ hK => ?_)
          refine goes_ Try.func18 (by kernel_rfl) rfl #[.slice A5 S1.af.length c5, .slice A2 S1.af.length c2] (by rfl) rfl rfl (by (try simp only [List.map_toArray, List.map_cons, List.map_nil]); first | done | rfl) ?_
          refine (sameRow_calls _ A5 c5 A2 c2 S1.af (Nat.le_of_lt HAL.out) HRW.out.kc60.1 HRW.out.kc60.2 (HS22.out.rowX 9 rfl).kc60.1 (HS22.out.rowX 9 rfl).kc60.2).mono ?_
          rintro E w24 ⟨rfl, hb⟩
          have HS23 := Aside0.mk (HS22.out.below hb)
          clear HS22
          clear hb
          refine ⟨_, rfl, ?_⟩
          clear hHeld
          refine hK.out _ _ ⟨(blk_cell (HS23.out.blk 8 rfl) 11).trans rfl, (blk_cell (HS23.out.blk 8 rfl) 12).trans rfl, (blk_cell (HS23.out.blk 1 rfl) 1).trans rfl, (blk_cell (HS23.out.blk 6 rfl) 1).trans rfl, ((blk_cell (HS23.out.blk 1 rfl) 2).trans rfl).trans (congrArg (fun z => some (Value.int .i64 z)) HH0.out)⟩ (fun hHeld => ?_)
          clear hK K_
          refine norm_ (a' := ?_) ?_ ?_
          rotate_left
          · show Act.put _ (some 107) _ = _
            simp only [Act.put, List.setIfInBounds_toArray, List.set_cons_zero, List.set_cons_succ, i64_w, i32_w]
            rfl
          refine pure_ (i := 25) (N := (some 108)) (v := ?_) (a' := ?_) #[true, true, true, true, true, true, true, true, true, true, true, true, true, true, true, true, true, true, true, true, true, true, true, true, true, true, false, false, false, false, false, false, false, false, false, false, false, false, false, false, false, false, false, false, false, false] rfl rfl (by kernel_rfl) (fun _ _ _ h => h) (Or.inl ⟨by rfl, ?_⟩) ?_ ?_
          rotate_left
          · intro w'
            go_simp
            with_reducible rfl
          rotate_left
          · simp only [Act.put, List.setIfInBounds_toArray, List.set_cons_zero, List.set_cons_succ, i64_w, i32_w]
            rfl
          refine pure_ (i := 26) (N := (some 109)) (v := ?_) (a' := ?_) #[true, true, true, true, true, true, true, true, true, true, true, true, true, true, true, true, true, true, true, true, true, true, true, true, true, true, true, false, false, false, false, false, false, false, false, false, false, false, false, false, false, false, false, false, false, false] rfl rfl (by kernel_rfl) (fun _ _ _ h => h) (Or.inl ⟨by rfl, ?_⟩) ?_ ?_
          rotate_left
          · intro w'
            go_simp
            with_reducible rfl
          rotate_left
          · simp only [Act.put, List.setIfInBounds_toArray, List.set_cons_zero, List.set_cons_succ, i64_w, i32_w]
            rfl
          refine pure_ (i := 27) (N := (some 110)) (v := ?_) (a' := ?_) #[true, true, true, true, true, true, true, true, true, true, true, true, true, true, true, true, true, true, true, true, true, true, true, true, true, true, true, true, false, false, false, false, false, false, false, false, false, false, false, false, false, false, false, false, false, false] rfl rfl (by kernel_rfl) (fun _ _ _ h => h) (Or.inl ⟨by rfl, ?_⟩) ?_ ?_
          rotate_left
          · intro w'
            go_simp
            with_reducible rfl
          rotate_left
          · simp only [Act.put, List.setIfInBounds_toArray, List.set_cons_zero, List.set_cons_succ, i64_w, i32_w]
            rfl
          refine pure_ (i := 28) (N := (some 111)) (v := ?_) (a' := ?_) #[true, true, true, true, true, true, true, true, true, true, true, true, true, true, true, true, true, true, true, true, true, true, true, true, true, true, true, true, true, false, false, false, false, false, false, false, false, false, false, false, false, false, false, false, false, false] rfl rfl (by kernel_rfl) (fun _ _ _ h => h) (Or.inl ⟨by rfl, ?_⟩) ?_ ?_
          rotate_left
          · intro w'
            go_simp
            with_reducible rfl
          rotate_left
          · simp only [Act.put, List.setIfInBounds_toArray, List.set_cons_zero, List.set_cons_succ, i64_w, i32_w]
            rfl
          refine pure_ (i := 29) (N := (some 112)) (v := ?_) (a' := ?_) #[true, true, true, true, true, true, true, true, true, true, true, true, true, true, true, true, true, true, true, true, true, true, true, true, true, true, true, true, true, true, false, false, false, false, false, false, false, false, false, false, false, false, false, false, false, false] rfl rfl (by kernel_rfl) (fun _ _ _ h => h) (Or.inl ⟨by rfl, ?_⟩) ?_ ?_
          rotate_left
          · intro w'
            go_simp
            with_reducible rfl
          rotate_left
          · simp only [Act.put, List.setIfInBounds_toArray, List.set_cons_zero, List.set_cons_succ, i64_w, i32_w]
            rfl
          refine pure_ (i := 30) (N := (some 113)) (v := ?_) (a' := ?_) #[true, true, true, true, true, true, true, true, true, true, true, true, true, true, true, true, true, true, true, true, true, true, true, true, true, true, true, true, true, true, true, false, false, false, false, false, false, false, false, false, false, false, false, false, false, false] rfl rfl (by kernel_rfl) (fun _ _ _ h => h) (Or.inl ⟨by rfl, ?_⟩) ?_ ?_
          rotate_left
          · intro w'
            go_simp
            with_reducible rfl
          rotate_left
          · simp only [Act.put, List.setIfInBounds_toArray, List.set_cons_zero, List.set_cons_succ, i64_w, i32_w]
            rfl
          refine pure_ (i := 32) (N := (some 115)) (v := ?_) (a' := ?_) #[true, true, true, true, true, true, true, true, true, true, true, true, true, true, true, true, true, true, true, true, true, true, true, true, true, true, true, true, true, true, true, false, true, false, false, false, false, false, false, false, false, false, false, false, false, false] rfl rfl (by kernel_rfl) (fun _ _ _ h => h) (Or.inl ⟨by rfl, ?_⟩) ?_ ?_
          rotate_left
          · intro w'
            go_simp
            with_reducible rfl
          rotate_left
          · simp only [Act.put, List.setIfInBounds_toArray, List.set_cons_zero, List.set_cons_succ, i64_w, i32_w]
            rfl
          refine pure_ (i := 33) (N := (some 116)) (v := ?_) (a' := ?_) #[true, true, true, true, true, true, true, true, true, true, true, true, true, true, true, true, true, true, true, true, true, true, true, true, true, true, true, true, true, true, true, false, true, true, false, false, false, false, false, false, false, false, false, false, false, false] rfl rfl (by kernel_rfl) (fun _ _ _ h => h) (Or.inl ⟨by rfl, ?_⟩) ?_ ?_
          rotate_left
          · intro w'
            go_simp
            with_reducible rfl
          rotate_left
          · simp only [Act.put, List.setIfInBounds_toArray, List.set_cons_zero, List.set_cons_succ, i64_w, i32_w]
            rfl
          refine pure_ (i := 34) (N := (some 117)) (v := ?_) (a' := ?_) #[true, true, true, true, true, true, true, true, true, true, true, true, true, true, true, true, true, true, true, true, true, true, true, true, true, true, true, true, true, true, true, false, true, true, true, false, false, false, false, false, false, false, false, false, false, false] rfl rfl (by kernel_rfl) (fun _ _ _ h => h) (Or.inl ⟨by rfl, ?_⟩) ?_ ?_
          rotate_left
          · intro w'
            go_simp
            with_reducible rfl
          rotate_left
          · simp only [Act.put, List.setIfInBounds_toArray, List.set_cons_zero, List.set_cons_succ, i64_w, i32_w]
            rfl
          refine take_ (i := 31) (N := (some 114)) (v := ?_) (a' := ?_) #[true, true, true, true, true, true, true, true, true, true, true, true, true, true, true, true, true, true, true, true, true, true, true, true, true, true, true, true, true, true, true, true, true, true, true, false, false, false, false, false, false, false, false, false, false, false] rfl rfl (by kernel_rfl) (fun _ _ _ h => h) (Or.inl ⟨by rfl, ?_⟩) hHeld ?_ ?_
          rotate_left
          · rintro w' ⟨s0, s1, s2, s3, s4⟩
            go_simp
            with_reducible rfl
          rotate_left
          · simp only [Act.put, List.setIfInBounds_toArray, List.set_cons_zero, List.set_cons_succ, i64_w, i32_w]
            rfl
          refine take_ (i := 35) (N := (some 118)) (v := ?_) (a' := ?_) #[true, true, true, true, true, true, true, true, true, true, true, true, true, true, true, true, true, true, true, true, true, true, true, true, true, true, true, true, true, true, true, true, true, true, true, true, false, false, false, false, false, false, false, false, false, false] rfl rfl (by kernel_rfl) (fun _ _ _ h => h) (Or.inl ⟨by rfl, ?_⟩) hHeld ?_ ?_
          rotate_left
          · rintro w' ⟨s0, s1, s2, s3, s4⟩
            go_simp
            with_reducible rfl
          rotate_left
          · simp only [Act.put, List.setIfInBounds_toArray, List.set_cons_zero, List.set_cons_succ, i64_w, i32_w]
            rfl
          refine one_ (i := 36) (N := (some 119)) #[true, true, true, true, true, true, true, true, true, true, true, true, true, true, true, true, true, true, true, true, true, true, true, true, true, true, true, true, true, true, true, true, true, true, true, true, true, false, false, false, false, false, false, false, false, false] rfl rfl (by kernel_rfl) (by decide) (fun K_ hK => ?_)
          refine goes_ Try.func20 (by kernel_rfl) rfl #[.slice Ak S1.txt.length ck, .slice Ak2 S1.txt.length ck2] (by rfl) rfl rfl (by (try simp only [List.map_toArray, List.map_cons, List.map_nil]); first | done | rfl) ?_
          refine (sameTexts_calls _ Ak ck Ak2 ck2 S1.txt HTL.out (HS23.out.rowX 2 rfl).kcT.1 (HS23.out.rowX 2 rfl).kcT.2 (HS23.out.rowX 7 rfl).kcT.1 (HS23.out.rowX 7 rfl).kcT.2).mono ?_
          rintro E w25 ⟨rfl, hb⟩
          have HS24 := Aside0.mk (HS23.out.below hb)
          clear HS23
          clear hb
          refine ⟨_, rfl, ?_⟩
          clear hHeld
          refine hK.out _ _ ⟨(blk_cell (HS24.out.blk 8 rfl) 11).trans rfl, (blk_cell (HS24.out.blk 8 rfl) 12).trans rfl, (blk_cell (HS24.out.blk 1 rfl) 1).trans rfl, (blk_cell (HS24.out.blk 6 rfl) 1).trans rfl, ((blk_cell (HS24.out.blk 1 rfl) 2).trans rfl).trans (congrArg (fun z => some (Value.int .i64 z)) HH0.out)⟩ (fun hHeld => ?_)
          clear hK K_
          refine norm_ (a' := ?_) ?_ ?_
          rotate_left
          · show Act.put _ (some 119) _ = _
            simp only [Act.put, List.setIfInBounds_toArray, List.set_cons_zero, List.set_cons_succ, i64_w, i32_w]
            rfl
          refine pure_ (i := 37) (N := (some 120)) (v := ?_) (a' := ?_) #[true, true, true, true, true, true, true, true, true, true, true, true, true, true, true, true, true, true, true, true, true, true, true, true, true, true, true, true, true, true, true, true, true, true, true, true, true, true, false, false, false, false, false, false, false, false] rfl rfl (by kernel_rfl) (fun _ _ _ h => h) (Or.inl ⟨by rfl, ?_⟩) ?_ ?_
          rotate_left
          · intro w'
            go_simp
            with_reducible rfl
          rotate_left
          · simp only [Act.put, List.setIfInBounds_toArray, List.set_cons_zero, List.set_cons_succ, i64_w, i32_w]
            rfl
          refine pure_ (i := 38) (N := (some 121)) (v := ?_) (a' := ?_) #[true, true, true, true, true, true, true, true, true, true, true, true, true, true, true, true, true, true, true, true, true, true, true, true, true, true, true, true, true, true, true, true, true, true, true, true, true, true, true, false, false, false, false, false, false, false] rfl rfl (by kernel_rfl) (fun _ _ _ h => h) (Or.inl ⟨by rfl, ?_⟩) ?_ ?_
          rotate_left
          · intro w'
            go_simp
            with_reducible rfl
          rotate_left
          · simp only [Act.put, List.setIfInBounds_toArray, List.set_cons_zero, List.set_cons_succ, i64_w, i32_w]
            rfl
          refine pure_ (i := 39) (N := (some 122)) (v := ?_) (a' := ?_) #[true, true, true, true, true, true, true, true, true, true, true, true, true, true, true, true, true, true, true, true, true, true, true, true, true, true, true, true, true, true, true, true, true, true, true, true, true, true, true, true, false, false, false, false, false, false] rfl rfl (by kernel_rfl) (fun _ _ _ h => h) (Or.inl ⟨by rfl, ?_⟩) ?_ ?_
          rotate_left
          · intro w'
            go_simp
            with_reducible rfl
          rotate_left
          · simp only [Act.put, List.setIfInBounds_toArray, List.set_cons_zero, List.set_cons_succ, i64_w, i32_w]
            rfl
          refine pure_ (i := 40) (N := (some 123)) (v := ?_) (a' := ?_) #[true, true, true, true, true, true, true, true, true, true, true, true, true, true, true, true, true, true, true, true, true, true, true, true, true, true, true, true, true, true, true, true, true, true, true, true, true, true, true, true, true, false, false, false, false, false] rfl rfl (by kernel_rfl) (fun _ _ _ h => h) (Or.inl ⟨by rfl, ?_⟩) ?_ ?_
          rotate_left
          · intro w'
            go_simp
            with_reducible rfl
          rotate_left
          · simp only [Act.put, List.setIfInBounds_toArray, List.set_cons_zero, List.set_cons_succ, i64_w, i32_w]
            rfl
          refine pure_ (i := 41) (N := (some 124)) (v := ?_) (a' := ?_) #[true, true, true, true, true, true, true, true, true, true, true, true, true, true, true, true, true, true, true, true, true, true, true, true, true, true, true, true, true, true, true, true, true, true, true, true, true, true, true, true, true, true, false, false, false, false] rfl rfl (by kernel_rfl) (fun _ _ _ h => h) (Or.inl ⟨by rfl, ?_⟩) ?_ ?_
          rotate_left
          · intro w'
            go_simp
            with_reducible rfl
          rotate_left
          · simp only [Act.put, List.setIfInBounds_toArray, List.set_cons_zero, List.set_cons_succ, i64_w, i32_w]
            rfl
          refine pure_ (i := 42) (N := (some 125)) (v := ?_) (a' := ?_) #[true, true, true, true, true, true, true, true, true, true, true, true, true, true, true, true, true, true, true, true, true, true, true, true, true, true, true, true, true, true, true, true, true, true, true, true, true, true, true, true, true, true, true, false, false, false] rfl rfl (by kernel_rfl) (fun _ _ _ h => h) (Or.inl ⟨by rfl, ?_⟩) ?_ ?_
          rotate_left
          · intro w'
            go_simp
            with_reducible rfl
          rotate_left
          · simp only [Act.put, List.setIfInBounds_toArray, List.set_cons_zero, List.set_cons_succ, i64_w, i32_w]
            rfl
          refine take_ (i := 43) (N := (some 126)) (v := ?_) (a' := ?_) #[true, true, true, true, true, true, true, true, true, true, true, true, true, true, true, true, true, true, true, true, true, true, true, true, true, true, true, true, true, true, true, true, true, true, true, true, true, true, true, true, true, true, true, true, false, false] rfl rfl (by kernel_rfl) (fun _ _ _ h => h) (Or.inl ⟨by rfl, ?_⟩) hHeld ?_ ?_
          rotate_left
          · rintro w' ⟨s0, s1, s2, s3, s4⟩
            go_simp
            with_reducible rfl
          rotate_left
          · simp only [Act.put, List.setIfInBounds_toArray, List.set_cons_zero, List.set_cons_succ, i64_w, i32_w]
            rfl
          refine pure_ (i := 44) (N := (some 127)) (v := ?_) (a' := ?_) #[true, true, true, true, true, true, true, true, true, true, true, true, true, true, true, true, true, true, true, true, true, true, true, true, true, true, true, true, true, true, true, true, true, true, true, true, true, true, true, true, true, true, true, true, true, false] rfl rfl (by kernel_rfl) (fun _ _ _ h => h) (Or.inl ⟨by rfl, ?_⟩) ?_ ?_
          rotate_left
          · intro w'
            go_simp
            with_reducible rfl
          rotate_left
          · simp only [Act.put, List.setIfInBounds_toArray, List.set_cons_zero, List.set_cons_succ, i64_w, i32_w]
            rfl
          refine pure_ (i := 45) (N := (some 128)) (v := ?_) (a' := ?_) #[true, true, true, true, true, true, true, true, true, true, true, true, true, true, true, true, true, true, true, true, true, true, true, true, true, true, true, true, true, true, true, true, true, true, true, true, true, true, true, true, true, true, true, true, true, true] rfl rfl (by kernel_rfl) (fun _ _ _ h => h) (Or.inl ⟨by rfl, ?_⟩) ?_ ?_
          rotate_left
          · intro w'
            go_simp
            with_reducible rfl
          rotate_left
          · simp only [Act.put, List.setIfInBounds_toArray, List.set_cons_zero, List.set_cons_succ, i64_w, i32_w]
            rfl
          refine done_ (by kernel_rfl) ?_
          clear hHeld
          go_wp2
          go_roundg gq
          case measure => omega
          case rel => exact ⟨i + 1, by go_num, by omega, Aside0.mk (by rw [HS1'.out]; exact ⟨A, c, av, _, A2, c2, av2, _, HS24.out⟩)⟩
    | true =>
      go_enter Try.func6, Try.ntmps6
      go_wp2_with (first | (go_at_call 7; refine (alive_calls _).mono ?_; rintro E w1 ⟨rfl, hb⟩; have h := HS0.out.below hb; obtain ⟨p0, p1, p2, p3, p4, p5, p6, p7, p8, p9, p10⟩ := box11 (h.blk 0 rfl); have HS1 := Aside0.mk h; clear h hb HS0) | (go_at_call 12; refine (A12.out _ HS1.out).mono ?_; rintro E w2 ⟨rfl, hb⟩; have h := HS1.out.below hb; clear p0 p1 p2 p3 p4 p5 p6 p7 p8 p9 p10; obtain ⟨p0, p1, p2, p3, p4, p5, p6, p7, p8, p9, p10⟩ := box11 (h.blk 0 rfl); have HS2 := Aside0.mk h; clear h hb HS1 A12) | (go_at_call 14; refine (A14.out _ (keep_below HS2.out.keep)).mono ?_; rintro E w3 ⟨o, ho, rfl, hck, hb⟩; clear p0 p1 p2 p3 p4 p5 p6 p7 p8 p9 p10; have h := HS2.out.below hb; obtain ⟨n1, hn1⟩ : ∃ n, w3.heap.size = n := ⟨_, rfl⟩; have h3 := h.alloc #[.int .i64 0, .string ⟨#[]⟩, .string ⟨#[]⟩, .string ⟨#[]⟩, .int .i64 0, .bool false, .slice none 0 0, .slice none 0 0, .slice none 0 0, .slice none 0 0, .slice none 0 0] 28 hn1; have hb3 := keep_below ((St.nil0 w3 NoF).alloc #[.int .i64 0, .string ⟨#[]⟩, .string ⟨#[]⟩, .string ⟨#[]⟩, .int .i64 0, .bool false, .slice none 0 0, .slice none 0 0, .slice none 0 0, .slice none 0 0, .slice none 0 0] 28 hn1).keep; obtain ⟨W3, hW3⟩ : ∃ W, w3.alloc (.cells #[.int .i64 0, .string ⟨#[]⟩, .string ⟨#[]⟩, .string ⟨#[]⟩, .int .i64 0, .bool false, .slice none 0 0, .slice none 0 0, .slice none 0 0, .slice none 0 0, .slice none 0 0] 28) = W := ⟨_, rfl⟩; rw [hW3] at h3 hb3; have hz := h3.blk 1 rfl; obtain ⟨U1, U2, U3, U4, U5, U6, U7, U8, U9, U10, U11, ⟨hU1, hU2, hU3, hU4, hU5, hU6, hU7, hU8, hU9, hU10, hU11⟩, ⟨fc0, fg0, fe0, fc1, fg1, fe1, fc2, fg2, fe2, fc3, fg3, fe3, fc4, fg4, fe4, fc5, fg5, fe5, fc6, fg6, fe6, fc7, fg7, fe7, fc8, fg8, fe8, fc9, fg9, fe9, fc10, fg10, fe10⟩, hblk, hkp⟩ := store28 (y := o) hz; have hbel := base_below h3 hkp; have hx0 := base_blk0 h3 hkp; have hck2 := hck.below (base_below3 hb3 hkp hn1); have HO := Aside0.mk ho; have HB := Aside0.mk (And.intro hbel (And.intro hx0 (And.intro hblk hck2))); have h7 := St.nil0 U11 NoF; have HS3 := Aside0.mk h7; clear h h3 hb3 hz hblk hkp hbel hx0 hck hck2 hb ho h7 HS2 A14) | (clear G1; go_at_call 15; refine (A15.out _ HB.out.1).mono ?_; rintro E w4 ⟨Ar, cr, rfl, hr, hb, hf⟩; clear fc0 fg0 fe0 fc1 fg1 fe1 fc2 fg2 fe2 fc3 fg3 fe3 fc4 fg4 fe4 fc5 fg5 fe5 fc6 fg6 fe6 fc7 fg7 fe7 fc8 fg8 fe8 fc9 fg9 fe9 fc10 fg10 fe10 hU1 hU2 hU3 hU4 hU5 hU6 hU7 hU8 hU9 hU10 hU11; have h := HS3.out.fresh hb (rowXC valE _ _) hr (nd_bl _) hf; obtain ⟨o0, o1, o2, o3, o4, o5, o6, o7, o8, o9, o10⟩ := box11 ((HB.out.2.2.1 : U11.heap[n1]? = _) |> base_at (keep_below h.keep)); have HS4 := Aside0.mk h; clear h hr hb hf HS3) | (go_at_call 9; refine (new_calls _ o tries l6 l7 l8 l9 l10 (HB.out.2.2.2.below (keep_below HS4.out.keep)).sr HSM.out.sn).mono ?_; rintro E w5 ⟨jp, y, hy, rfl, h⟩; rw [HMT.out] at h; clear o0 o1 o2 o3 o4 o5 o6 o7 o8 o9 o10; have h5 := HS4.out.join h; have HY := Aside0.mk (SameN.trans (show SameN y o from hy) HO.out); obtain ⟨rp, hrp⟩ : ∃ n, w5.heap.size = n := ⟨_, rfl⟩; obtain ⟨p0, p1, p2, p3, p4, p5, p6, p7, p8, p9, p10⟩ := box11 ((HB.out.2.1 : U11.heap[n0]? = _) |> base_at (keep_below h5.keep)); have h6 := (h5.alloc #[.int .i64 x.f0, .string x.f1, .string x.f2, .string x.f3, .int .i64 x.f4, .bool x.f5, .slice x.f6.A x.f6.n x.f6.c, .slice x.f7.A x.f7.n x.f7.c, .slice x.f8.A x.f8.n x.f8.c, .slice x.f9.A x.f9.n x.f9.c, .slice x.f10.A x.f10.n x.f10.c, .int .i64 1, .slice none 0 0, .int .i64 mt, .int .i64 0] 50 hrp).perm (B := blkC rp (.cells #[.int .i64 x.f0, .string x.f1, .string x.f2, .string x.f3, .int .i64 x.f4, .bool x.f5, .slice x.f6.A x.f6.n x.f6.c, .slice x.f7.A x.f7.n x.f7.c, .slice x.f8.A x.f8.n x.f8.c, .slice x.f9.A x.f9.n x.f9.c, .slice x.f10.A x.f10.n x.f10.c, .int .i64 1, .slice none 0 0, .int .i64 mt, .int .i64 0] 50 (0, 0)) :: blkC jp _ :: (srC y l6 l7 l8 l9 l10 ++ [rowXC valE (.slice Ar m cr) af])) (List.perm_append_comm (l₂ := [_])); obtain ⟨W6, hW6⟩ : ∃ W, w5.alloc (.cells #[.int .i64 x.f0, .string x.f1, .string x.f2, .string x.f3, .int .i64 x.f4, .bool x.f5, .slice x.f6.A x.f6.n x.f6.c, .slice x.f7.A x.f7.n x.f7.c, .slice x.f8.A x.f8.n x.f8.c, .slice x.f9.A x.f9.n x.f9.c, .slice x.f10.A x.f10.n x.f10.c, .int .i64 1, .slice none 0 0, .int .i64 mt, .int .i64 0] 50) = W := ⟨_, rfl⟩; rw [hW6] at h6; obtain ⟨o0, o1, o2, o3, o4, o5, o6, o7, o8, o9, o10⟩ := box11 ((HB.out.2.2.1 : U11.heap[n1]? = _) |> base_at (keep_below h6.keep)); have HS6 := Aside0.mk h6; clear h h5 h6 hy HS4) | (go_at_call 16; refine (A16.out _ o Ar cr (HB.out.2.2.2.below (keep_below HS6.out.keep)).sr (by have h := (HS6.out.h (rowXC valE (.slice Ar m cr) af) (List.mem_cons_of_mem _ (List.mem_cons_of_mem _ (List.mem_append_right _ List.mem_cons_self)))); have h2 : RowX valE W6 (.slice Ar m cr) af := h; exact h2.src)).mono ?_; rintro E w7 ⟨jq, y2, Aq, cq, hy2, rfl, h⟩; clear p0 p1 p2 p3 p4 p5 p6 p7 p8 p9 p10 o0 o1 o2 o3 o4 o5 o6 o7 o8 o9 o10; have h7 := jj_rp (HS6.out.join h); have HY2 := Aside0.mk (SameN.trans hy2 HO.out); have hrb := h7.blk 0 rfl; have r11 : w7.cell? ⟨rp, 11, none⟩ = some (.int .i64 1) := ((blk_cell hrb 11).trans rfl); have rl := lt_of_some hrb; have rfz := (fun j => frozen_of_row w7 rp j _ _ hrb); have h8 := h7.putBlk 0 rfl 11 (.int .i64 3) rfl; obtain ⟨W8, hW8⟩ : ∃ W, w7.setCell ⟨rp, 11, none⟩ (.int .i64 3) = W := ⟨_, rfl⟩; rw [hW8] at h8; have HS7 := Aside0.mk h8; clear h h7 h8 hy2 hrb HS6) | (go_at_call 15; refine (A15.out _ (HB.out.1.trans ((keep_below HS7.out.keep).mono HB.out.1.size))).mono ?_; rintro E w9 ⟨At, ct, rfl, hr, hb, hf⟩; clear r11 rl rfz hW8; have h := HS7.out.fresh hb (rowXC valE _ _) hr (nd_bl _) hf; have hrb : w9.heap[rp]? = some (.cells #[.int .i64 x.f0, .string x.f1, .string x.f2, .string x.f3, .int .i64 x.f4, .bool x.f5, .slice x.f6.A x.f6.n x.f6.c, .slice x.f7.A x.f7.n x.f7.c, .slice x.f8.A x.f8.n x.f8.c, .slice x.f9.A x.f9.n x.f9.c, .slice x.f10.A x.f10.n x.f10.c, .int .i64 3, .slice none 0 0, .int .i64 mt, .int .i64 0] 50 (0, 0)) := h.blk 1 rfl; have r12 : w9.cell? ⟨rp, 12, none⟩ = some (.slice none 0 0) := ((blk_cell hrb 12).trans rfl); have rl := lt_of_some hrb; have rfz := (fun j => frozen_of_row w9 rp j _ _ hrb); have h8 := h.putBlk 1 rfl 12 (.slice At m ct) rfl; obtain ⟨W9, hW9⟩ : ∃ W, w9.setCell ⟨rp, 12, none⟩ (.slice At m ct) = W := ⟨_, rfl⟩; rw [hW9] at h8; have HS8' := Aside0.mk h8; clear h h8 hr hb hf hrb HS7) | (clear G2; go_at_call 13; refine (A13.out _ (HB.out.1.trans ((keep_below HS8'.out.keep).mono HB.out.1.size))).mono ?_; rintro E w10 ⟨va, rfl, hr, hb, hf⟩; obtain ⟨vaA, vac, rfl⟩ := hr.form; clear r12 rl rfz hW9; have h := (HS8'.out.fresh hb (ansC _ an) hr.ans (nd_ab _) (fun b hb => hf b (ab_bl b hb))); obtain ⟨tp, htp⟩ : ∃ n, w10.heap.size = n := ⟨_, rfl⟩; have h2 := (h.alloc #[.slice vaA an.length vac, .slice none 0 0, .int .i64 0] 36 htp).perm (List.perm_append_comm (l₂ := [_])); rw [HN.out] at h2 ⊢; obtain ⟨vaW, hvaW⟩ : ∃ W, w10.alloc (.cells #[.slice vaA n vac, .slice none 0 0, .int .i64 0] 36) = W := ⟨_, rfl⟩; rw [hvaW] at h2; have HS8 := Aside0.mk h2; clear h h2 hr hb hf HS8') | (go_at_call 13; refine (A13.out _ (HB.out.1.trans ((keep_below HS8.out.keep).mono HB.out.1.size))).mono ?_; rintro E w11 ⟨vb, rfl, hr, hb, hf⟩; obtain ⟨vbA, vbc, rfl⟩ := hr.form;  have h := (HS8.out.fresh hb (ansC _ an) hr.ans (nd_ab _) (fun b hb => hf b (ab_bl b hb))); obtain ⟨up, hup⟩ : ∃ n, w11.heap.size = n := ⟨_, rfl⟩; have h2 := (h.alloc #[.slice vbA an.length vbc, .slice none 0 0, .int .i64 0] 36 hup).perm (List.perm_append_comm (l₂ := [_])); rw [HN.out] at h2 ⊢; obtain ⟨vbW, hvbW⟩ : ∃ W, w11.alloc (.cells #[.slice vbA n vbc, .slice none 0 0, .int .i64 0] 36) = W := ⟨_, rfl⟩; rw [hvbW] at h2; have HS10 := Aside0.mk h2; clear h h2 hr hb hf HS8))
      obtain ⟨s0, hs0⟩ : ∃ s0, (⟨3, af, mt, 0, an, [], 0⟩ : JS) = s0 := ⟨_, rfl⟩
      have HJ := Aside0.mk (show JJ U11 NoF jq tp y2 rp up x s0 s0 (srC y2 l6 l7 l8 l9 l10 ++ (blkC jp (.cells #[.int .i64 y.f0, .string y.f1, .string y.f2, .string y.f3, .int .i64 y.f4, .bool y.f5, .slice y.f6.A y.f6.n y.f6.c, .slice y.f7.A y.f7.n y.f7.c, .slice y.f8.A y.f8.n y.f8.c, .slice y.f9.A y.f9.n y.f9.c, .slice y.f10.A y.f10.n y.f10.c, .int .i64 1, .slice none 0 0, .int .i64 mt, .int .i64 0] 68 (0, 0)) :: (srC y l6 l7 l8 l9 l10 ++ [rowXC valE (.slice Ar m cr) af]))) _ from by rw [← hs0]; exact JJ.mk (A := Aq) (c := cq) (A2 := At) (c2 := ct) (by rw [HM.out]; exact jj_row HS10.out))
      have HG := Aside0.mk (show Beg s0 x from by rw [← hs0]; exact ⟨rfl, rfl, ⟨hmt1, hmt2⟩, (by have := HSM.out.s1; omega), (by have := HSM.out.s2; omega), HWF3.out, fun a ha => (HWF1.out a ha).2.1, (by rw [HM.out]; omega)⟩)
      have HP := Aside0.mk (show 1 ≤ s0.ph ∧ s0.ph ≤ 6 by rw [← hs0]; exact (by decide : (1 : Int) ≤ 3 ∧ (3 : Int) ≤ 6))
      have HT1 := Aside0.mk (show 1 ≤ s0.tr by rw [← hs0]; exact hmt1)
      clear hs0 HS10 A13 A15
      go_loopg [17] (n + 6) (fun gq v17 wx => ∃ i : Nat, v17 = .int .i64 i ∧ i + gq = n + 6 ∧ Aside0 (JJ U11 NoF jq tp y2 rp up x (s0.steps x i) (s0.steps x i) (srC y2 l6 l7 l8 l9 l10 ++ (blkC jp (.cells #[.int .i64 y.f0, .string y.f1, .string y.f2, .string y.f3, .int .i64 y.f4, .bool y.f5, .slice y.f6.A y.f6.n y.f6.c, .slice y.f7.A y.f7.n y.f7.c, .slice y.f8.A y.f8.n y.f8.c, .slice y.f9.A y.f9.n y.f9.c, .slice y.f10.A y.f10.n y.f10.c, .int .i64 1, .slice none 0 0, .int .i64 mt, .int .i64 0] 68 (0, 0)) :: (srC y l6 l7 l8 l9 l10 ++ [rowXC valE (.slice Ar m cr) af]))) wx))
      case atStart => exact ⟨0, rfl, by omega, HJ⟩
      case round =>
        clear HJ
        obtain ⟨i, rfl, hi, HS⟩ := hrel
        cases gk with
        | zero =>
          obtain rfl : i = n + 6 := by omega
          have hin : ¬ ((n + 6 : Nat) : Int) < (n : Int) + 6 := by omega
          obtain ⟨S1, hS1⟩ : ∃ S, s0.steps x (n + 6) = S := ⟨_, rfl⟩
          rw [hS1] at HS
          obtain ⟨A, c, av, kv, A2, c2, av2, kv2, h⟩ := HS.out
          have HSt := Aside0.mk h
          clear hS1 h HS
          go_wp2
          refine start_ (n := 15) (S := fun w' => w'.cell? ⟨n0, 0, none⟩ = some (.int .i64 x.f0) ∧ w'.cell? ⟨n0, 1, none⟩ = some (.string x.f1) ∧ w'.cell? ⟨n0, 2, none⟩ = some (.string x.f2) ∧ w'.cell? ⟨n0, 3, none⟩ = some (.string x.f3) ∧ w'.cell? ⟨n0, 4, none⟩ = some (.int .i64 x.f4) ∧ w'.cell? ⟨n0, 5, none⟩ = some (.bool x.f5) ∧ w'.cell? ⟨n0, 6, none⟩ = some (.slice x.f6.A x.f6.n x.f6.c) ∧ w'.cell? ⟨n0, 7, none⟩ = some (.slice x.f7.A x.f7.n x.f7.c) ∧ w'.cell? ⟨n0, 8, none⟩ = some (.slice x.f8.A x.f8.n x.f8.c) ∧ w'.cell? ⟨n0, 9, none⟩ = some (.slice x.f9.A x.f9.n x.f9.c) ∧ w'.cell? ⟨n0, 10, none⟩ = some (.slice x.f10.A x.f10.n x.f10.c) ∧ w'.cell? ⟨n1, 0, none⟩ = some (.int .i64 o.f0) ∧ w'.cell? ⟨n1, 1, none⟩ = some (.string o.f1) ∧ w'.cell? ⟨n1, 2, none⟩ = some (.string o.f2) ∧ w'.cell? ⟨n1, 3, none⟩ = some (.string o.f3) ∧ w'.cell? ⟨n1, 4, none⟩ = some (.int .i64 o.f4) ∧ w'.cell? ⟨n1, 5, none⟩ = some (.bool o.f5) ∧ w'.cell? ⟨n1, 6, none⟩ = some (.slice o.f6.A o.f6.n o.f6.c) ∧ w'.cell? ⟨n1, 7, none⟩ = some (.slice o.f7.A o.f7.n o.f7.c) ∧ w'.cell? ⟨n1, 8, none⟩ = some (.slice o.f8.A o.f8.n o.f8.c) ∧ w'.cell? ⟨n1, 9, none⟩ = some (.slice o.f9.A o.f9.n o.f9.c) ∧ w'.cell? ⟨n1, 10, none⟩ = some (.slice o.f10.A o.f10.n o.f10.c)) (ds := []) #[false, false, false, false, false, false, false, false, false, false, false, false, false, false, false] (by kernel_rfl) rfl rfl ⟨(box11 (base_at (keep_below HSt.out.keep) (HB.out.2.1 : U11.heap[n0]? = _))).1, (box11 (base_at (keep_below HSt.out.keep) (HB.out.2.1 : U11.heap[n0]? = _))).2.1, (box11 (base_at (keep_below HSt.out.keep) (HB.out.2.1 : U11.heap[n0]? = _))).2.2.1, (box11 (base_at (keep_below HSt.out.keep) (HB.out.2.1 : U11.heap[n0]? = _))).2.2.2.1, (box11 (base_at (keep_below HSt.out.keep) (HB.out.2.1 : U11.heap[n0]? = _))).2.2.2.2.1, (box11 (base_at (keep_below HSt.out.keep) (HB.out.2.1 : U11.heap[n0]? = _))).2.2.2.2.2.1, (box11 (base_at (keep_below HSt.out.keep) (HB.out.2.1 : U11.heap[n0]? = _))).2.2.2.2.2.2.1, (box11 (base_at (keep_below HSt.out.keep) (HB.out.2.1 : U11.heap[n0]? = _))).2.2.2.2.2.2.2.1, (box11 (base_at (keep_below HSt.out.keep) (HB.out.2.1 : U11.heap[n0]? = _))).2.2.2.2.2.2.2.2.1, (box11 (base_at (keep_below HSt.out.keep) (HB.out.2.1 : U11.heap[n0]? = _))).2.2.2.2.2.2.2.2.2.1, (box11 (base_at (keep_below HSt.out.keep) (HB.out.2.1 : U11.heap[n0]? = _))).2.2.2.2.2.2.2.2.2.2, (box11 (base_at (keep_below HSt.out.keep) (HB.out.2.2.1 : U11.heap[n1]? = _))).1, (box11 (base_at (keep_below HSt.out.keep) (HB.out.2.2.1 : U11.heap[n1]? = _))).2.1, (box11 (base_at (keep_below HSt.out.keep) (HB.out.2.2.1 : U11.heap[n1]? = _))).2.2.1, (box11 (base_at (keep_below HSt.out.keep) (HB.out.2.2.1 : U11.heap[n1]? = _))).2.2.2.1, (box11 (base_at (keep_below HSt.out.keep) (HB.out.2.2.1 : U11.heap[n1]? = _))).2.2.2.2.1, (box11 (base_at (keep_below HSt.out.keep) (HB.out.2.2.1 : U11.heap[n1]? = _))).2.2.2.2.2.1, (box11 (base_at (keep_below HSt.out.keep) (HB.out.2.2.1 : U11.heap[n1]? = _))).2.2.2.2.2.2.1, (box11 (base_at (keep_below HSt.out.keep) (HB.out.2.2.1 : U11.heap[n1]? = _))).2.2.2.2.2.2.2.1, (box11 (base_at (keep_below HSt.out.keep) (HB.out.2.2.1 : U11.heap[n1]? = _))).2.2.2.2.2.2.2.2.1, (box11 (base_at (keep_below HSt.out.keep) (HB.out.2.2.1 : U11.heap[n1]? = _))).2.2.2.2.2.2.2.2.2.1, (box11 (base_at (keep_below HSt.out.keep) (HB.out.2.2.1 : U11.heap[n1]? = _))).2.2.2.2.2.2.2.2.2.2⟩ (fun hHeld => ?_)
          have HS41 := Aside0.mk (HSt.out.drew)
          clear HSt
          generalize wr.drew = wrd at HS41 hHeld  ⊢
          refine pure_ (i := 0) (N := (some 129)) (v := ?_) (a' := ?_) #[true, false, false, false, false, false, false, false, false, false, false, false, false, false, false] rfl rfl (by kernel_rfl) (fun _ _ _ h => h) (Or.inl ⟨by rfl, ?_⟩) ?_ ?_
          rotate_left
          · intro w'
            go_simp
            with_reducible rfl
          rotate_left
          · simp only [Act.put, List.setIfInBounds_toArray, List.set_cons_zero, List.set_cons_succ, i64_w, i32_w]
            rfl
          refine take_ (i := 2) (N := (some 131)) (v := ?_) (a' := ?_) #[true, false, true, false, false, false, false, false, false, false, false, false, false, false, false] rfl rfl (by kernel_rfl) (fun _ _ _ h => h) (Or.inl ⟨by rfl, ?_⟩) hHeld ?_ ?_
          rotate_left
          · rintro w' ⟨s0, s1, s2, s3, s4, s5, s6, s7, s8, s9, s10, s11, s12, s13, s14, s15, s16, s17, s18, s19, s20, s21⟩
            go_simp
            with_reducible rfl
          rotate_left
          · simp only [Act.put, List.setIfInBounds_toArray, List.set_cons_zero, List.set_cons_succ, i64_w, i32_w]
            rfl
          refine one_ (i := 1) (N := (some 130)) #[true, true, true, false, false, false, false, false, false, false, false, false, false, false, false] rfl rfl (by kernel_rfl) (by decide) (fun K_ hK => ?_)
          refine goes_ Try.func22 (by kernel_rfl) rfl #[.pointer (some ⟨jq, 0, none⟩)] (by rfl) rfl rfl (by (try simp only [List.map_toArray, List.map_cons, List.map_nil]); first | done | rfl) ?_
          refine (stmt_calls (show JT U11 NoF jq tp y2 S1 (refL A2 c2 av2 _ rp up x S1 ++ (srC y2 l6 l7 l8 l9 l10 ++ (blkC jp (.cells #[.int .i64 y.f0, .string y.f1, .string y.f2, .string y.f3, .int .i64 y.f4, .bool y.f5, .slice y.f6.A y.f6.n y.f6.c, .slice y.f7.A y.f7.n y.f7.c, .slice y.f8.A y.f8.n y.f8.c, .slice y.f9.A y.f9.n y.f9.c, .slice y.f10.A y.f10.n y.f10.c, .int .i64 1, .slice none 0 0, .int .i64 mt, .int .i64 0] 68 (0, 0)) :: (srC y l6 l7 l8 l9 l10 ++ [rowXC valE (.slice Ar m cr) af])))) _ from ⟨A, c, av, _, HS41.out⟩) (ck_own HS41.out) HSM.out.sn).mono ?_
          rintro E w31 ⟨z, hz, rfl, hck, hb⟩
          have HZ := Aside0.mk hz
          have HCZ := Aside0.mk hck
          have HS42 := Aside0.mk (HS41.out.below hb)
          clear HS41
          clear hz hck hb
          refine ⟨_, rfl, ?_⟩
          clear hHeld
          refine hK.out _ _ ⟨(box11 (base_at (keep_below HS42.out.keep) (HB.out.2.1 : U11.heap[n0]? = _))).1, (box11 (base_at (keep_below HS42.out.keep) (HB.out.2.1 : U11.heap[n0]? = _))).2.1, (box11 (base_at (keep_below HS42.out.keep) (HB.out.2.1 : U11.heap[n0]? = _))).2.2.1, (box11 (base_at (keep_below HS42.out.keep) (HB.out.2.1 : U11.heap[n0]? = _))).2.2.2.1, (box11 (base_at (keep_below HS42.out.keep) (HB.out.2.1 : U11.heap[n0]? = _))).2.2.2.2.1, (box11 (base_at (keep_below HS42.out.keep) (HB.out.2.1 : U11.heap[n0]? = _))).2.2.2.2.2.1, (box11 (base_at (keep_below HS42.out.keep) (HB.out.2.1 : U11.heap[n0]? = _))).2.2.2.2.2.2.1, (box11 (base_at (keep_below HS42.out.keep) (HB.out.2.1 : U11.heap[n0]? = _))).2.2.2.2.2.2.2.1, (box11 (base_at (keep_below HS42.out.keep) (HB.out.2.1 : U11.heap[n0]? = _))).2.2.2.2.2.2.2.2.1, (box11 (base_at (keep_below HS42.out.keep) (HB.out.2.1 : U11.heap[n0]? = _))).2.2.2.2.2.2.2.2.2.1, (box11 (base_at (keep_below HS42.out.keep) (HB.out.2.1 : U11.heap[n0]? = _))).2.2.2.2.2.2.2.2.2.2, (box11 (base_at (keep_below HS42.out.keep) (HB.out.2.2.1 : U11.heap[n1]? = _))).1, (box11 (base_at (keep_below HS42.out.keep) (HB.out.2.2.1 : U11.heap[n1]? = _))).2.1, (box11 (base_at (keep_below HS42.out.keep) (HB.out.2.2.1 : U11.heap[n1]? = _))).2.2.1, (box11 (base_at (keep_below HS42.out.keep) (HB.out.2.2.1 : U11.heap[n1]? = _))).2.2.2.1, (box11 (base_at (keep_below HS42.out.keep) (HB.out.2.2.1 : U11.heap[n1]? = _))).2.2.2.2.1, (box11 (base_at (keep_below HS42.out.keep) (HB.out.2.2.1 : U11.heap[n1]? = _))).2.2.2.2.2.1, (box11 (base_at (keep_below HS42.out.keep) (HB.out.2.2.1 : U11.heap[n1]? = _))).2.2.2.2.2.2.1, (box11 (base_at (keep_below HS42.out.keep) (HB.out.2.2.1 : U11.heap[n1]? = _))).2.2.2.2.2.2.2.1, (box11 (base_at (keep_below HS42.out.keep) (HB.out.2.2.1 : U11.heap[n1]? = _))).2.2.2.2.2.2.2.2.1, (box11 (base_at (keep_below HS42.out.keep) (HB.out.2.2.1 : U11.heap[n1]? = _))).2.2.2.2.2.2.2.2.2.1, (box11 (base_at (keep_below HS42.out.keep) (HB.out.2.2.1 : U11.heap[n1]? = _))).2.2.2.2.2.2.2.2.2.2⟩ (fun hHeld => ?_)
          clear hK K_
          refine norm_ (a' := ?_) ?_ ?_
          rotate_left
          · show Act.put _ (some 130) _ = _
            simp only [Act.put, List.setIfInBounds_toArray, List.set_cons_zero, List.set_cons_succ, i64_w, i32_w]
            rfl
          refine one_ (i := 3) (N := (some 132)) #[true, true, true, true, false, false, false, false, false, false, false, false, false, false, false] rfl rfl (by kernel_rfl) (by decide) (fun K_ hK => ?_)
          refine goes_ Try.func21 (by kernel_rfl) rfl #[.agg #[.int .i64 z.f0, .string z.f1, .string z.f2, .string z.f3, .int .i64 z.f4, .bool z.f5, .slice z.f6.A z.f6.n z.f6.c, .slice z.f7.A z.f7.n z.f7.c, .slice z.f8.A z.f8.n z.f8.c, .slice z.f9.A z.f9.n z.f9.c, .slice z.f10.A z.f10.n z.f10.c], .agg #[.int .i64 x.f0, .string x.f1, .string x.f2, .string x.f3, .int .i64 x.f4, .bool x.f5, .slice x.f6.A x.f6.n x.f6.c, .slice x.f7.A x.f7.n x.f7.c, .slice x.f8.A x.f8.n x.f8.c, .slice x.f9.A x.f9.n x.f9.c, .slice x.f10.A x.f10.n x.f10.c]] (by rfl) rfl rfl (by (try simp only [List.map_toArray, List.map_cons, List.map_nil]); first | done | rfl) ?_
          refine (sameStmt_calls _ x z l6 l7 l8 l9 l10 HSM.out.sn (SameN.trans HZ.out HY2.out) HCZ.out (HX.out _ (HB.out.1.trans ((keep_below HS42.out.keep).mono HB.out.1.size)))).mono ?_
          rintro E w32 ⟨rfl, hb⟩
          have HS43 := Aside0.mk (HS42.out.below hb)
          clear HS42
          clear hb
          refine ⟨_, rfl, ?_⟩
          clear hHeld
          refine hK.out _ _ ⟨(box11 (base_at (keep_below HS43.out.keep) (HB.out.2.1 : U11.heap[n0]? = _))).1, (box11 (base_at (keep_below HS43.out.keep) (HB.out.2.1 : U11.heap[n0]? = _))).2.1, (box11 (base_at (keep_below HS43.out.keep) (HB.out.2.1 : U11.heap[n0]? = _))).2.2.1, (box11 (base_at (keep_below HS43.out.keep) (HB.out.2.1 : U11.heap[n0]? = _))).2.2.2.1, (box11 (base_at (keep_below HS43.out.keep) (HB.out.2.1 : U11.heap[n0]? = _))).2.2.2.2.1, (box11 (base_at (keep_below HS43.out.keep) (HB.out.2.1 : U11.heap[n0]? = _))).2.2.2.2.2.1, (box11 (base_at (keep_below HS43.out.keep) (HB.out.2.1 : U11.heap[n0]? = _))).2.2.2.2.2.2.1, (box11 (base_at (keep_below HS43.out.keep) (HB.out.2.1 : U11.heap[n0]? = _))).2.2.2.2.2.2.2.1, (box11 (base_at (keep_below HS43.out.keep) (HB.out.2.1 : U11.heap[n0]? = _))).2.2.2.2.2.2.2.2.1, (box11 (base_at (keep_below HS43.out.keep) (HB.out.2.1 : U11.heap[n0]? = _))).2.2.2.2.2.2.2.2.2.1, (box11 (base_at (keep_below HS43.out.keep) (HB.out.2.1 : U11.heap[n0]? = _))).2.2.2.2.2.2.2.2.2.2, (box11 (base_at (keep_below HS43.out.keep) (HB.out.2.2.1 : U11.heap[n1]? = _))).1, (box11 (base_at (keep_below HS43.out.keep) (HB.out.2.2.1 : U11.heap[n1]? = _))).2.1, (box11 (base_at (keep_below HS43.out.keep) (HB.out.2.2.1 : U11.heap[n1]? = _))).2.2.1, (box11 (base_at (keep_below HS43.out.keep) (HB.out.2.2.1 : U11.heap[n1]? = _))).2.2.2.1, (box11 (base_at (keep_below HS43.out.keep) (HB.out.2.2.1 : U11.heap[n1]? = _))).2.2.2.2.1, (box11 (base_at (keep_below HS43.out.keep) (HB.out.2.2.1 : U11.heap[n1]? = _))).2.2.2.2.2.1, (box11 (base_at (keep_below HS43.out.keep) (HB.out.2.2.1 : U11.heap[n1]? = _))).2.2.2.2.2.2.1, (box11 (base_at (keep_below HS43.out.keep) (HB.out.2.2.1 : U11.heap[n1]? = _))).2.2.2.2.2.2.2.1, (box11 (base_at (keep_below HS43.out.keep) (HB.out.2.2.1 : U11.heap[n1]? = _))).2.2.2.2.2.2.2.2.1, (box11 (base_at (keep_below HS43.out.keep) (HB.out.2.2.1 : U11.heap[n1]? = _))).2.2.2.2.2.2.2.2.2.1, (box11 (base_at (keep_below HS43.out.keep) (HB.out.2.2.1 : U11.heap[n1]? = _))).2.2.2.2.2.2.2.2.2.2⟩ (fun hHeld => ?_)
          clear hK K_
          refine norm_ (a' := ?_) ?_ ?_
          rotate_left
          · show Act.put _ (some 132) _ = _
            simp only [Act.put, List.setIfInBounds_toArray, List.set_cons_zero, List.set_cons_succ, i64_w, i32_w]
            rfl
          refine pure_ (i := 4) (N := (some 133)) (v := ?_) (a' := ?_) #[true, true, true, true, true, false, false, false, false, false, false, false, false, false, false] rfl rfl (by kernel_rfl) (fun _ _ _ h => h) (Or.inl ⟨by rfl, ?_⟩) ?_ ?_
          rotate_left
          · intro w'
            go_simp
            with_reducible rfl
          rotate_left
          · simp only [Act.put, List.setIfInBounds_toArray, List.set_cons_zero, List.set_cons_succ, i64_w, i32_w]
            rfl
          refine take_ (i := 5) (N := (some 134)) (v := ?_) (a' := ?_) #[true, true, true, true, true, true, false, false, false, false, false, false, false, false, false] rfl rfl (by kernel_rfl) (fun _ _ _ h => h) (Or.inl ⟨by rfl, ?_⟩) hHeld ?_ ?_
          rotate_left
          · rintro w' ⟨s0, s1, s2, s3, s4, s5, s6, s7, s8, s9, s10, s11, s12, s13, s14, s15, s16, s17, s18, s19, s20, s21⟩
            go_simp
            with_reducible rfl
          rotate_left
          · simp only [Act.put, List.setIfInBounds_toArray, List.set_cons_zero, List.set_cons_succ, i64_w, i32_w]
            rfl
          refine take_ (i := 6) (N := (some 135)) (v := ?_) (a' := ?_) #[true, true, true, true, true, true, true, false, false, false, false, false, false, false, false] rfl rfl (by kernel_rfl) (fun _ _ _ h => h) (Or.inl ⟨by rfl, ?_⟩) hHeld ?_ ?_
          rotate_left
          · rintro w' ⟨s0, s1, s2, s3, s4, s5, s6, s7, s8, s9, s10, s11, s12, s13, s14, s15, s16, s17, s18, s19, s20, s21⟩
            go_simp
            with_reducible rfl
          rotate_left
          · simp only [Act.put, List.setIfInBounds_toArray, List.set_cons_zero, List.set_cons_succ, i64_w, i32_w]
            rfl
          refine one_ (i := 7) (N := (some 136)) #[true, true, true, true, true, true, true, true, false, false, false, false, false, false, false] rfl rfl (by kernel_rfl) (by decide) (fun K_ hK => ?_)
          refine goes_ Try.func21 (by kernel_rfl) rfl #[.agg #[.int .i64 o.f0, .string o.f1, .string o.f2, .string o.f3, .int .i64 o.f4, .bool o.f5, .slice o.f6.A o.f6.n o.f6.c, .slice o.f7.A o.f7.n o.f7.c, .slice o.f8.A o.f8.n o.f8.c, .slice o.f9.A o.f9.n o.f9.c, .slice o.f10.A o.f10.n o.f10.c], .agg #[.int .i64 x.f0, .string x.f1, .string x.f2, .string x.f3, .int .i64 x.f4, .bool x.f5, .slice x.f6.A x.f6.n x.f6.c, .slice x.f7.A x.f7.n x.f7.c, .slice x.f8.A x.f8.n x.f8.c, .slice x.f9.A x.f9.n x.f9.c, .slice x.f10.A x.f10.n x.f10.c]] (by rfl) rfl rfl (by (try simp only [List.map_toArray, List.map_cons, List.map_nil]); first | done | rfl) ?_
          refine (sameStmt_calls _ x o l6 l7 l8 l9 l10 HSM.out.sn HO.out (HB.out.2.2.2.below (keep_below HS43.out.keep)) (HX.out _ (HB.out.1.trans ((keep_below HS43.out.keep).mono HB.out.1.size)))).mono ?_
          rintro E w33 ⟨rfl, hb⟩
          have HS44 := Aside0.mk (HS43.out.below hb)
          clear HS43
          clear hb
          refine ⟨_, rfl, ?_⟩
          clear hHeld
          refine hK.out _ _ ⟨(box11 (base_at (keep_below HS44.out.keep) (HB.out.2.1 : U11.heap[n0]? = _))).1, (box11 (base_at (keep_below HS44.out.keep) (HB.out.2.1 : U11.heap[n0]? = _))).2.1, (box11 (base_at (keep_below HS44.out.keep) (HB.out.2.1 : U11.heap[n0]? = _))).2.2.1, (box11 (base_at (keep_below HS44.out.keep) (HB.out.2.1 : U11.heap[n0]? = _))).2.2.2.1, (box11 (base_at (keep_below HS44.out.keep) (HB.out.2.1 : U11.heap[n0]? = _))).2.2.2.2.1, (box11 (base_at (keep_below HS44.out.keep) (HB.out.2.1 : U11.heap[n0]? = _))).2.2.2.2.2.1, (box11 (base_at (keep_below HS44.out.keep) (HB.out.2.1 : U11.heap[n0]? = _))).2.2.2.2.2.2.1, (box11 (base_at (keep_below HS44.out.keep) (HB.out.2.1 : U11.heap[n0]? = _))).2.2.2.2.2.2.2.1, (box11 (base_at (keep_below HS44.out.keep) (HB.out.2.1 : U11.heap[n0]? = _))).2.2.2.2.2.2.2.2.1, (box11 (base_at (keep_below HS44.out.keep) (HB.out.2.1 : U11.heap[n0]? = _))).2.2.2.2.2.2.2.2.2.1, (box11 (base_at (keep_below HS44.out.keep) (HB.out.2.1 : U11.heap[n0]? = _))).2.2.2.2.2.2.2.2.2.2, (box11 (base_at (keep_below HS44.out.keep) (HB.out.2.2.1 : U11.heap[n1]? = _))).1, (box11 (base_at (keep_below HS44.out.keep) (HB.out.2.2.1 : U11.heap[n1]? = _))).2.1, (box11 (base_at (keep_below HS44.out.keep) (HB.out.2.2.1 : U11.heap[n1]? = _))).2.2.1, (box11 (base_at (keep_below HS44.out.keep) (HB.out.2.2.1 : U11.heap[n1]? = _))).2.2.2.1, (box11 (base_at (keep_below HS44.out.keep) (HB.out.2.2.1 : U11.heap[n1]? = _))).2.2.2.2.1, (box11 (base_at (keep_below HS44.out.keep) (HB.out.2.2.1 : U11.heap[n1]? = _))).2.2.2.2.2.1, (box11 (base_at (keep_below HS44.out.keep) (HB.out.2.2.1 : U11.heap[n1]? = _))).2.2.2.2.2.2.1, (box11 (base_at (keep_below HS44.out.keep) (HB.out.2.2.1 : U11.heap[n1]? = _))).2.2.2.2.2.2.2.1, (box11 (base_at (keep_below HS44.out.keep) (HB.out.2.2.1 : U11.heap[n1]? = _))).2.2.2.2.2.2.2.2.1, (box11 (base_at (keep_below HS44.out.keep) (HB.out.2.2.1 : U11.heap[n1]? = _))).2.2.2.2.2.2.2.2.2.1, (box11 (base_at (keep_below HS44.out.keep) (HB.out.2.2.1 : U11.heap[n1]? = _))).2.2.2.2.2.2.2.2.2.2⟩ (fun hHeld => ?_)
          clear hK K_
          refine norm_ (a' := ?_) ?_ ?_
          rotate_left
          · show Act.put _ (some 136) _ = _
            simp only [Act.put, List.setIfInBounds_toArray, List.set_cons_zero, List.set_cons_succ, i64_w, i32_w]
            rfl
          refine pure_ (i := 8) (N := (some 137)) (v := ?_) (a' := ?_) #[true, true, true, true, true, true, true, true, true, false, false, false, false, false, false] rfl rfl (by kernel_rfl) (fun _ _ _ h => h) (Or.inl ⟨by rfl, ?_⟩) ?_ ?_
          rotate_left
          · intro w'
            go_simp
            with_reducible rfl
          rotate_left
          · simp only [Act.put, List.setIfInBounds_toArray, List.set_cons_zero, List.set_cons_succ, i64_w, i32_w]
            rfl
          refine pure_ (i := 9) (N := (some 138)) (v := ?_) (a' := ?_) #[true, true, true, true, true, true, true, true, true, true, false, false, false, false, false] rfl rfl (by kernel_rfl) (fun _ _ _ h => h) (Or.inl ⟨by rfl, ?_⟩) ?_ ?_
          rotate_left
          · intro w'
            go_simp
            with_reducible rfl
          rotate_left
          · simp only [Act.put, List.setIfInBounds_toArray, List.set_cons_zero, List.set_cons_succ, i64_w, i32_w]
            rfl
          refine pure_ (i := 10) (N := (some 139)) (v := ?_) (a' := ?_) #[true, true, true, true, true, true, true, true, true, true, true, false, false, false, false] rfl rfl (by kernel_rfl) (fun _ _ _ h => h) (Or.inl ⟨by rfl, ?_⟩) ?_ ?_
          rotate_left
          · intro w'
            go_simp
            with_reducible rfl
          rotate_left
          · simp only [Act.put, List.setIfInBounds_toArray, List.set_cons_zero, List.set_cons_succ, i64_w, i32_w]
            rfl
          refine pure_ (i := 11) (N := (some 140)) (v := ?_) (a' := ?_) #[true, true, true, true, true, true, true, true, true, true, true, true, false, false, false] rfl rfl (by kernel_rfl) (fun _ _ _ h => h) (Or.inl ⟨by rfl, ?_⟩) ?_ ?_
          rotate_left
          · intro w'
            go_simp
            with_reducible rfl
          rotate_left
          · simp only [Act.put, List.setIfInBounds_toArray, List.set_cons_zero, List.set_cons_succ, i64_w, i32_w]
            rfl
          refine one_ (i := 12) (N := (some 141)) #[true, true, true, true, true, true, true, true, true, true, true, true, true, false, false] rfl rfl (by kernel_rfl) (by decide) (fun K_ hK => ?_)
          have hrw : RowX valE _ (.slice Ar m cr) af := HS44.out.h (rowXC valE (.slice Ar m cr) af) (List.mem_append_right _ (List.mem_append_right _ (List.mem_append_right _ (List.mem_cons_of_mem _ (List.mem_append_right _ List.mem_cons_self)))))
          rw [← HM.out] at hrw
          have hq := sameRow_calls _ Ar cr A1 c1 af (by rw [HM.out]; omega) hrw.kc60.1 hrw.kc60.2 (HC1.out _ (HB.out.1.trans ((keep_below HS44.out.keep).mono HB.out.1.size))) HCP1.out
          rw [HM.out] at hq
          refine goes_ Try.func18 (by kernel_rfl) rfl #[.slice Ar m cr, .slice A1 m c1] (by rfl) rfl rfl (by (try simp only [List.map_toArray, List.map_cons, List.map_nil]); first | done | rfl) ?_
          refine (hq).mono ?_
          rintro E w34 ⟨rfl, hb⟩
          have HS45 := Aside0.mk (HS44.out.below hb)
          clear HS44
          clear hb hrw hq
          refine ⟨_, rfl, ?_⟩
          clear hHeld
          refine hK.out _ _ ⟨(box11 (base_at (keep_below HS45.out.keep) (HB.out.2.1 : U11.heap[n0]? = _))).1, (box11 (base_at (keep_below HS45.out.keep) (HB.out.2.1 : U11.heap[n0]? = _))).2.1, (box11 (base_at (keep_below HS45.out.keep) (HB.out.2.1 : U11.heap[n0]? = _))).2.2.1, (box11 (base_at (keep_below HS45.out.keep) (HB.out.2.1 : U11.heap[n0]? = _))).2.2.2.1, (box11 (base_at (keep_below HS45.out.keep) (HB.out.2.1 : U11.heap[n0]? = _))).2.2.2.2.1, (box11 (base_at (keep_below HS45.out.keep) (HB.out.2.1 : U11.heap[n0]? = _))).2.2.2.2.2.1, (box11 (base_at (keep_below HS45.out.keep) (HB.out.2.1 : U11.heap[n0]? = _))).2.2.2.2.2.2.1, (box11 (base_at (keep_below HS45.out.keep) (HB.out.2.1 : U11.heap[n0]? = _))).2.2.2.2.2.2.2.1, (box11 (base_at (keep_below HS45.out.keep) (HB.out.2.1 : U11.heap[n0]? = _))).2.2.2.2.2.2.2.2.1, (box11 (base_at (keep_below HS45.out.keep) (HB.out.2.1 : U11.heap[n0]? = _))).2.2.2.2.2.2.2.2.2.1, (box11 (base_at (keep_below HS45.out.keep) (HB.out.2.1 : U11.heap[n0]? = _))).2.2.2.2.2.2.2.2.2.2, (box11 (base_at (keep_below HS45.out.keep) (HB.out.2.2.1 : U11.heap[n1]? = _))).1, (box11 (base_at (keep_below HS45.out.keep) (HB.out.2.2.1 : U11.heap[n1]? = _))).2.1, (box11 (base_at (keep_below HS45.out.keep) (HB.out.2.2.1 : U11.heap[n1]? = _))).2.2.1, (box11 (base_at (keep_below HS45.out.keep) (HB.out.2.2.1 : U11.heap[n1]? = _))).2.2.2.1, (box11 (base_at (keep_below HS45.out.keep) (HB.out.2.2.1 : U11.heap[n1]? = _))).2.2.2.2.1, (box11 (base_at (keep_below HS45.out.keep) (HB.out.2.2.1 : U11.heap[n1]? = _))).2.2.2.2.2.1, (box11 (base_at (keep_below HS45.out.keep) (HB.out.2.2.1 : U11.heap[n1]? = _))).2.2.2.2.2.2.1, (box11 (base_at (keep_below HS45.out.keep) (HB.out.2.2.1 : U11.heap[n1]? = _))).2.2.2.2.2.2.2.1, (box11 (base_at (keep_below HS45.out.keep) (HB.out.2.2.1 : U11.heap[n1]? = _))).2.2.2.2.2.2.2.2.1, (box11 (base_at (keep_below HS45.out.keep) (HB.out.2.2.1 : U11.heap[n1]? = _))).2.2.2.2.2.2.2.2.2.1, (box11 (base_at (keep_below HS45.out.keep) (HB.out.2.2.1 : U11.heap[n1]? = _))).2.2.2.2.2.2.2.2.2.2⟩ (fun hHeld => ?_)
          clear hK K_
          refine norm_ (a' := ?_) ?_ ?_
          rotate_left
          · show Act.put _ (some 141) _ = _
            simp only [Act.put, List.setIfInBounds_toArray, List.set_cons_zero, List.set_cons_succ, i64_w, i32_w]
            rfl
          refine pure_ (i := 13) (N := (some 142)) (v := ?_) (a' := ?_) #[true, true, true, true, true, true, true, true, true, true, true, true, true, true, false] rfl rfl (by kernel_rfl) (fun _ _ _ h => h) (Or.inl ⟨by rfl, ?_⟩) ?_ ?_
          rotate_left
          · intro w'
            go_simp
            with_reducible rfl
          rotate_left
          · simp only [Act.put, List.setIfInBounds_toArray, List.set_cons_zero, List.set_cons_succ, i64_w, i32_w]
            rfl
          refine pure_ (i := 14) (N := (some 10)) (v := ?_) (a' := ?_) #[true, true, true, true, true, true, true, true, true, true, true, true, true, true, true] rfl rfl (by kernel_rfl) (fun _ _ _ h => h) (Or.inl ⟨by rfl, ?_⟩) ?_ ?_
          rotate_left
          · intro w'
            go_simp
            with_reducible rfl
          rotate_left
          · simp only [Act.put, List.setIfInBounds_toArray, List.set_cons_zero, List.set_cons_succ, i64_w, i32_w]
            rfl
          refine done_ (by kernel_rfl) ?_
          clear hHeld
          go_wp2
          rw [← HQ.out]
          exact ⟨rfl, HB.out.1.trans ((keep_below HS45.out.keep).mono HB.out.1.size)⟩
        | succ gq =>
          have hin : (i : Int) < (n : Int) + 6 := by omega
          have hi0 : (0 : Int) ≤ (i : Int) := by omega
          have hi9 : (i : Int) ≤ 1000000 := by omega
          have hn0' : (0 : Int) ≤ (n : Int) := by omega
          have hn9 : (n : Int) ≤ 1000000 := by omega
          have ok := steps_ok HG.out i (by omega)
          have hinv := steps_inv (x := x) HP.out HT1.out i
          have hst := steps_r HG.out (i + 1)
          have A10 := Aside0.mk (JJ.step HS.out (ok.names HY2.out.2.1 HY2.out.2.2.1))
          have A17 := Aside0.mk (fun W s (h : JJ U11 NoF jq tp y2 rp up x s (s0.steps x i) (srC y2 l6 l7 l8 l9 l10 ++ (blkC jp (.cells #[.int .i64 y.f0, .string y.f1, .string y.f2, .string y.f3, .int .i64 y.f4, .bool y.f5, .slice y.f6.A y.f6.n y.f6.c, .slice y.f7.A y.f7.n y.f7.c, .slice y.f8.A y.f8.n y.f8.c, .slice y.f9.A y.f9.n y.f9.c, .slice y.f10.A y.f10.n y.f10.c, .int .i64 1, .slice none 0 0, .int .i64 mt, .int .i64 0] 68 (0, 0)) :: (srC y l6 l7 l8 l9 l10 ++ [rowXC valE (.slice Ar m cr) af]))) W) => JJ.rstep h ok (fun hq => hinv.2 (by omega)))
          rw [step_names _ HY2.out.2.1 HY2.out.2.2.1] at A10
          rw [show (s0.steps x i).step x = s0.steps x (i + 1) from rfl] at A10 A17
          obtain ⟨S1, hS1⟩ : ∃ S, s0.steps x (i + 1) = S := ⟨_, rfl⟩
          have HS1' := Aside0.mk hS1
          rw [hS1] at A10 A17 hst
          obtain ⟨ee, bb, hE⟩ : ∃ e b, StepE S1 = .returned (.tuple #[.int .i64 e, .bool b]) := ⟨_, _, rfl⟩
          rw [hE] at A10 A17
          have HH0 := Aside0.mk hst.1
          have HAL := Aside0.mk (show S1.af.length < 1000000 by have := hst.2.2.2.2.2; omega)
          have HTL := Aside0.mk (show S1.txt.length ≤ 1000000 by have := hst.2.1; omega)
          have hee : (ee != ee) = false := by simp
          have hbb : (bb != bb) = false := by simp
          have hpp : (S1.ph != S1.ph) = false := by simp
          clear hst hE hS1 hinv ok HS
          go_wp2_with (first
            | (go_at_call 10; refine A10.out.mono ?_; rintro E w20 ⟨rfl, h⟩; have HT := Aside0.mk h; clear h A10)
            | (go_at_call 17; refine (A17.out _ _ HT.out).mono ?_; rintro E w21 ⟨rfl, h⟩; have HU := Aside0.mk h; clear h HT A17))
          obtain ⟨A, c, av, kv, A2, c2, av2, kv2, h⟩ := HU.out
          obtain ⟨Ak, ck, rfl⟩ := (h.rowX 2 rfl).form
          obtain ⟨Ak2, ck2, rfl⟩ := (h.rowX 7 rfl).form
          have HSt := Aside0.mk h
          clear h HU
          refine start_ (n := 46) (S := fun w' => w'.cell? ⟨rp, 11, none⟩ = some (.int .i64 S1.ph) ∧ w'.cell? ⟨rp, 12, none⟩ = some (.slice A2 S1.af.length c2) ∧ w'.cell? ⟨tp, 1, none⟩ = some (.slice Ak S1.txt.length ck) ∧ w'.cell? ⟨up, 1, none⟩ = some (.slice Ak2 S1.txt.length ck2) ∧ w'.cell? ⟨tp, 2, none⟩ = some (.int .i64 0)) (ds := []) #[false, false, false, false, false, false, false, false, false, false, false, false, false, false, false, false, false, false, false, false, false, false, false, false, false, false, false, false, false, false, false, false, false, false, false, false, false, false, false, false, false, false, false, false, false, false] (by kernel_rfl) rfl rfl ⟨(blk_cell (HSt.out.blk 8 rfl) 11).trans rfl, (blk_cell (HSt.out.blk 8 rfl) 12).trans rfl, (blk_cell (HSt.out.blk 1 rfl) 1).trans rfl, (blk_cell (HSt.out.blk 6 rfl) 1).trans rfl, ((blk_cell (HSt.out.blk 1 rfl) 2).trans rfl).trans (congrArg (fun z => some (Value.int .i64 z)) HH0.out)⟩ (fun hHeld => ?_)
          have HS21 := Aside0.mk (HSt.out.drew)
          clear HSt
          generalize w21.drew = w21d at HS21 hHeld  ⊢
          refine pure_ (i := 0) (N := (some 83)) (v := ?_) (a' := ?_) #[true, false, false, false, false, false, false, false, false, false, false, false, false, false, false, false, false, false, false, false, false, false, false, false, false, false, false, false, false, false, false, false, false, false, false, false, false, false, false, false, false, false, false, false, false, false] rfl rfl (by kernel_rfl) (fun _ _ _ h => h) (Or.inl ⟨by rfl, ?_⟩) ?_ ?_
          rotate_left
          · intro w'
            go_simp
            with_reducible rfl
          rotate_left
          · simp only [Act.put, List.setIfInBounds_toArray, List.set_cons_zero, List.set_cons_succ, i64_w, i32_w]
            rfl
          refine pure_ (i := 1) (N := (some 84)) (v := ?_) (a' := ?_) #[true, true, false, false, false, false, false, false, false, false, false, false, false, false, false, false, false, false, false, false, false, false, false, false, false, false, false, false, false, false, false, false, false, false, false, false, false, false, false, false, false, false, false, false, false, false] rfl rfl (by kernel_rfl) (fun _ _ _ h => h) (Or.inl ⟨by rfl, ?_⟩) ?_ ?_
          rotate_left
          · intro w'
            go_simp
            with_reducible rfl
          rotate_left
          · simp only [Act.put, List.setIfInBounds_toArray, List.set_cons_zero, List.set_cons_succ, i64_w, i32_w]
            rfl
          refine pure_ (i := 2) (N := (some 85)) (v := ?_) (a' := ?_) #[true, true, true, false, false, false, false, false, false, false, false, false, false, false, false, false, false, false, false, false, false, false, false, false, false, false, false, false, false, false, false, false, false, false, false, false, false, false, false, false, false, false, false, false, false, false] rfl rfl (by kernel_rfl) (fun _ _ _ h => h) (Or.inl ⟨by rfl, ?_⟩) ?_ ?_
          rotate_left
          · intro w'
            go_simp
            with_reducible rfl
          rotate_left
          · simp only [Act.put, List.setIfInBounds_toArray, List.set_cons_zero, List.set_cons_succ, i64_w, i32_w]
            rfl
          refine pure_ (i := 3) (N := (some 86)) (v := ?_) (a' := ?_) #[true, true, true, true, false, false, false, false, false, false, false, false, false, false, false, false, false, false, false, false, false, false, false, false, false, false, false, false, false, false, false, false, false, false, false, false, false, false, false, false, false, false, false, false, false, false] rfl rfl (by kernel_rfl) (fun _ _ _ h => h) (Or.inl ⟨by rfl, ?_⟩) ?_ ?_
          rotate_left
          · intro w'
            go_simp
            with_reducible rfl
          rotate_left
          · simp only [Act.put, List.setIfInBounds_toArray, List.set_cons_zero, List.set_cons_succ, i64_w, i32_w]
            rfl
          refine pure_ (i := 4) (N := (some 87)) (v := ?_) (a' := ?_) #[true, true, true, true, true, false, false, false, false, false, false, false, false, false, false, false, false, false, false, false, false, false, false, false, false, false, false, false, false, false, false, false, false, false, false, false, false, false, false, false, false, false, false, false, false, false] rfl rfl (by kernel_rfl) (fun _ _ _ h => h) (Or.inl ⟨by rfl, ?_⟩) ?_ ?_
          rotate_left
          · intro w'
            go_simp
            with_reducible rfl
          rotate_left
          · simp only [Act.put, List.setIfInBounds_toArray, List.set_cons_zero, List.set_cons_succ, i64_w, i32_w]
            rfl
          refine pure_ (i := 5) (N := (some 88)) (v := ?_) (a' := ?_) #[true, true, true, true, true, true, false, false, false, false, false, false, false, false, false, false, false, false, false, false, false, false, false, false, false, false, false, false, false, false, false, false, false, false, false, false, false, false, false, false, false, false, false, false, false, false] rfl rfl (by kernel_rfl) (fun _ _ _ h => h) (Or.inl ⟨by rfl, ?_⟩) ?_ ?_
          rotate_left
          · intro w'
            go_simp
            with_reducible rfl
          rotate_left
          · simp only [Act.put, List.setIfInBounds_toArray, List.set_cons_zero, List.set_cons_succ, i64_w, i32_w]
            rfl
          refine pure_ (i := 6) (N := (some 89)) (v := ?_) (a' := ?_) #[true, true, true, true, true, true, true, false, false, false, false, false, false, false, false, false, false, false, false, false, false, false, false, false, false, false, false, false, false, false, false, false, false, false, false, false, false, false, false, false, false, false, false, false, false, false] rfl rfl (by kernel_rfl) (fun _ _ _ h => h) (Or.inl ⟨by rfl, ?_⟩) ?_ ?_
          rotate_left
          · intro w'
            go_simp
            with_reducible rfl
          rotate_left
          · simp only [Act.put, List.setIfInBounds_toArray, List.set_cons_zero, List.set_cons_succ, i64_w, i32_w]
            rfl
          refine pure_ (i := 7) (N := (some 90)) (v := ?_) (a' := ?_) #[true, true, true, true, true, true, true, true, false, false, false, false, false, false, false, false, false, false, false, false, false, false, false, false, false, false, false, false, false, false, false, false, false, false, false, false, false, false, false, false, false, false, false, false, false, false] rfl rfl (by kernel_rfl) (fun _ _ _ h => h) (Or.inl ⟨by rfl, ?_⟩) ?_ ?_
          rotate_left
          · intro w'
            go_simp
            with_reducible rfl
          rotate_left
          · simp only [Act.put, List.setIfInBounds_toArray, List.set_cons_zero, List.set_cons_succ, i64_w, i32_w]
            rfl
          refine pure_ (i := 8) (N := (some 91)) (v := ?_) (a' := ?_) #[true, true, true, true, true, true, true, true, true, false, false, false, false, false, false, false, false, false, false, false, false, false, false, false, false, false, false, false, false, false, false, false, false, false, false, false, false, false, false, false, false, false, false, false, false, false] rfl rfl (by kernel_rfl) (fun _ _ _ h => h) (Or.inl ⟨by rfl, ?_⟩) ?_ ?_
          rotate_left
          · intro w'
            go_simp
            with_reducible rfl
          rotate_left
          · simp only [Act.put, List.setIfInBounds_toArray, List.set_cons_zero, List.set_cons_succ, i64_w, i32_w]
            rfl
          refine pure_ (i := 9) (N := (some 92)) (v := ?_) (a' := ?_) #[true, true, true, true, true, true, true, true, true, true, false, false, false, false, false, false, false, false, false, false, false, false, false, false, false, false, false, false, false, false, false, false, false, false, false, false, false, false, false, false, false, false, false, false, false, false] rfl rfl (by kernel_rfl) (fun _ _ _ h => h) (Or.inl ⟨by rfl, ?_⟩) ?_ ?_
          rotate_left
          · intro w'
            go_simp
            with_reducible rfl
          rotate_left
          · simp only [Act.put, List.setIfInBounds_toArray, List.set_cons_zero, List.set_cons_succ, i64_w, i32_w]
            rfl
          refine pure_ (i := 11) (N := (some 94)) (v := ?_) (a' := ?_) #[true, true, true, true, true, true, true, true, true, true, false, true, false, false, false, false, false, false, false, false, false, false, false, false, false, false, false, false, false, false, false, false, false, false, false, false, false, false, false, false, false, false, false, false, false, false] rfl rfl (by kernel_rfl) (fun _ _ _ h => h) (Or.inl ⟨by rfl, ?_⟩) ?_ ?_
          rotate_left
          · intro w'
            go_simp
            with_reducible rfl
          rotate_left
          · simp only [Act.put, List.setIfInBounds_toArray, List.set_cons_zero, List.set_cons_succ, i64_w, i32_w]
            rfl
          refine pure_ (i := 12) (N := (some 95)) (v := ?_) (a' := ?_) #[true, true, true, true, true, true, true, true, true, true, false, true, true, false, false, false, false, false, false, false, false, false, false, false, false, false, false, false, false, false, false, false, false, false, false, false, false, false, false, false, false, false, false, false, false, false] rfl rfl (by kernel_rfl) (fun _ _ _ h => h) (Or.inl ⟨by rfl, ?_⟩) ?_ ?_
          rotate_left
          · intro w'
            go_simp
            with_reducible rfl
          rotate_left
          · simp only [Act.put, List.setIfInBounds_toArray, List.set_cons_zero, List.set_cons_succ, i64_w, i32_w]
            rfl
          refine pure_ (i := 13) (N := (some 96)) (v := ?_) (a' := ?_) #[true, true, true, true, true, true, true, true, true, true, false, true, true, true, false, false, false, false, false, false, false, false, false, false, false, false, false, false, false, false, false, false, false, false, false, false, false, false, false, false, false, false, false, false, false, false] rfl rfl (by kernel_rfl) (fun _ _ _ h => h) (Or.inl ⟨by rfl, ?_⟩) ?_ ?_
          rotate_left
          · intro w'
            go_simp
            with_reducible rfl
          rotate_left
          · simp only [Act.put, List.setIfInBounds_toArray, List.set_cons_zero, List.set_cons_succ, i64_w, i32_w]
            rfl
          refine take_ (i := 14) (N := (some 97)) (v := ?_) (a' := ?_) #[true, true, true, true, true, true, true, true, true, true, false, true, true, true, true, false, false, false, false, false, false, false, false, false, false, false, false, false, false, false, false, false, false, false, false, false, false, false, false, false, false, false, false, false, false, false] rfl rfl (by kernel_rfl) (fun _ _ _ h => h) (Or.inl ⟨by rfl, ?_⟩) hHeld ?_ ?_
          rotate_left
          · rintro w' ⟨s0, s1, s2, s3, s4⟩
            go_simp
            with_reducible rfl
          rotate_left
          · simp only [Act.put, List.setIfInBounds_toArray, List.set_cons_zero, List.set_cons_succ, i64_w, i32_w]
            rfl
          refine one_ (i := 10) (N := (some 93)) #[true, true, true, true, true, true, true, true, true, true, true, true, true, true, true, false, false, false, false, false, false, false, false, false, false, false, false, false, false, false, false, false, false, false, false, false, false, false, false, false, false, false, false, false, false, false] rfl rfl (by kernel_rfl) (by decide) (fun K_ hK => ?_)
          refine goes_ Try.func11 (by kernel_rfl) rfl #[.pointer (some ⟨jq, 0, none⟩)] (by rfl) rfl rfl (by (try simp only [List.map_toArray, List.map_cons, List.map_nil]); first | done | rfl) ?_
          refine (phase_calls (show JT U11 NoF jq tp y2 S1 (refL A2 c2 av2 _ rp up x S1 ++ (srC y2 l6 l7 l8 l9 l10 ++ (blkC jp (.cells #[.int .i64 y.f0, .string y.f1, .string y.f2, .string y.f3, .int .i64 y.f4, .bool y.f5, .slice y.f6.A y.f6.n y.f6.c, .slice y.f7.A y.f7.n y.f7.c, .slice y.f8.A y.f8.n y.f8.c, .slice y.f9.A y.f9.n y.f9.c, .slice y.f10.A y.f10.n y.f10.c, .int .i64 1, .slice none 0 0, .int .i64 mt, .int .i64 0] 68 (0, 0)) :: (srC y l6 l7 l8 l9 l10 ++ [rowXC valE (.slice Ar m cr) af])))) _ from ⟨A, c, av, _, HS21.out⟩)).mono ?_
          rintro E w22 ⟨rfl, rfl⟩
          refine ⟨_, rfl, ?_⟩
          clear hHeld
          refine hK.out _ _ ⟨(blk_cell (HS21.out.blk 8 rfl) 11).trans rfl, (blk_cell (HS21.out.blk 8 rfl) 12).trans rfl, (blk_cell (HS21.out.blk 1 rfl) 1).trans rfl, (blk_cell (HS21.out.blk 6 rfl) 1).trans rfl, ((blk_cell (HS21.out.blk 1 rfl) 2).trans rfl).trans (congrArg (fun z => some (Value.int .i64 z)) HH0.out)⟩ (fun hHeld => ?_)
          clear hK K_
          refine norm_ (a' := ?_) ?_ ?_
          rotate_left
          · show Act.put _ (some 93) _ = _
            simp only [Act.put, List.setIfInBounds_toArray, List.set_cons_zero, List.set_cons_succ, i64_w, i32_w]
            rfl
          refine pure_ (i := 15) (N := (some 98)) (v := ?_) (a' := ?_) #[true, true, true, true, true, true, true, true, true, true, true, true, true, true, true, true, false, false, false, false, false, false, false, false, false, false, false, false, false, false, false, false, false, false, false, false, false, false, false, false, false, false, false, false, false, false] rfl rfl (by kernel_rfl) (fun _ _ _ h => h) (Or.inl ⟨by rfl, ?_⟩) ?_ ?_
          rotate_left
          · intro w'
            go_simp
            with_reducible rfl
          rotate_left
          · simp only [Act.put, List.setIfInBounds_toArray, List.set_cons_zero, List.set_cons_succ, i64_w, i32_w]
            rfl
          refine pure_ (i := 16) (N := (some 99)) (v := ?_) (a' := ?_) #[true, true, true, true, true, true, true, true, true, true, true, true, true, true, true, true, true, false, false, false, false, false, false, false, false, false, false, false, false, false, false, false, false, false, false, false, false, false, false, false, false, false, false, false, false, false] rfl rfl (by kernel_rfl) (fun _ _ _ h => h) (Or.inl ⟨by rfl, ?_⟩) ?_ ?_
          rotate_left
          · intro w'
            go_simp
            with_reducible rfl
          rotate_left
          · simp only [Act.put, List.setIfInBounds_toArray, List.set_cons_zero, List.set_cons_succ, i64_w, i32_w]
            rfl
          refine pure_ (i := 17) (N := (some 100)) (v := ?_) (a' := ?_) #[true, true, true, true, true, true, true, true, true, true, true, true, true, true, true, true, true, true, false, false, false, false, false, false, false, false, false, false, false, false, false, false, false, false, false, false, false, false, false, false, false, false, false, false, false, false] rfl rfl (by kernel_rfl) (fun _ _ _ h => h) (Or.inl ⟨by rfl, ?_⟩) ?_ ?_
          rotate_left
          · intro w'
            go_simp
            with_reducible rfl
          rotate_left
          · simp only [Act.put, List.setIfInBounds_toArray, List.set_cons_zero, List.set_cons_succ, i64_w, i32_w]
            rfl
          refine pure_ (i := 18) (N := (some 101)) (v := ?_) (a' := ?_) #[true, true, true, true, true, true, true, true, true, true, true, true, true, true, true, true, true, true, true, false, false, false, false, false, false, false, false, false, false, false, false, false, false, false, false, false, false, false, false, false, false, false, false, false, false, false] rfl rfl (by kernel_rfl) (fun _ _ _ h => h) (Or.inl ⟨by rfl, ?_⟩) ?_ ?_
          rotate_left
          · intro w'
            go_simp
            with_reducible rfl
          rotate_left
          · simp only [Act.put, List.setIfInBounds_toArray, List.set_cons_zero, List.set_cons_succ, i64_w, i32_w]
            rfl
          refine pure_ (i := 20) (N := (some 103)) (v := ?_) (a' := ?_) #[true, true, true, true, true, true, true, true, true, true, true, true, true, true, true, true, true, true, true, false, true, false, false, false, false, false, false, false, false, false, false, false, false, false, false, false, false, false, false, false, false, false, false, false, false, false] rfl rfl (by kernel_rfl) (fun _ _ _ h => h) (Or.inl ⟨by rfl, ?_⟩) ?_ ?_
          rotate_left
          · intro w'
            go_simp
            with_reducible rfl
          rotate_left
          · simp only [Act.put, List.setIfInBounds_toArray, List.set_cons_zero, List.set_cons_succ, i64_w, i32_w]
            rfl
          refine pure_ (i := 21) (N := (some 104)) (v := ?_) (a' := ?_) #[true, true, true, true, true, true, true, true, true, true, true, true, true, true, true, true, true, true, true, false, true, true, false, false, false, false, false, false, false, false, false, false, false, false, false, false, false, false, false, false, false, false, false, false, false, false] rfl rfl (by kernel_rfl) (fun _ _ _ h => h) (Or.inl ⟨by rfl, ?_⟩) ?_ ?_
          rotate_left
          · intro w'
            go_simp
            with_reducible rfl
          rotate_left
          · simp only [Act.put, List.setIfInBounds_toArray, List.set_cons_zero, List.set_cons_succ, i64_w, i32_w]
            rfl
          refine pure_ (i := 22) (N := (some 105)) (v := ?_) (a' := ?_) #[true, true, true, true, true, true, true, true, true, true, true, true, true, true, true, true, true, true, true, false, true, true, true, false, false, false, false, false, false, false, false, false, false, false, false, false, false, false, false, false, false, false, false, false, false, false] rfl rfl (by kernel_rfl) (fun _ _ _ h => h) (Or.inl ⟨by rfl, ?_⟩) ?_ ?_
          rotate_left
          · intro w'
            go_simp
            with_reducible rfl
          rotate_left
          · simp only [Act.put, List.setIfInBounds_toArray, List.set_cons_zero, List.set_cons_succ, i64_w, i32_w]
            rfl
          refine take_ (i := 23) (N := (some 106)) (v := ?_) (a' := ?_) #[true, true, true, true, true, true, true, true, true, true, true, true, true, true, true, true, true, true, true, false, true, true, true, true, false, false, false, false, false, false, false, false, false, false, false, false, false, false, false, false, false, false, false, false, false, false] rfl rfl (by kernel_rfl) (fun _ _ _ h => h) (Or.inl ⟨by rfl, ?_⟩) hHeld ?_ ?_
          rotate_left
          · rintro w' ⟨s0, s1, s2, s3, s4⟩
            go_simp
            with_reducible rfl
          rotate_left
          · simp only [Act.put, List.setIfInBounds_toArray, List.set_cons_zero, List.set_cons_succ, i64_w, i32_w]
            rfl
          refine one_ (i := 19) (N := (some 102)) #[true, true, true, true, true, true, true, true, true, true, true, true, true, true, true, true, true, true, true, true, true, true, true, true, false, false, false, false, false, false, false, false, false, false, false, false, false, false, false, false, false, false, false, false, false, false] rfl rfl (by kernel_rfl) (by decide) (fun K_ hK => ?_)
          refine goes_ Try.func19 (by kernel_rfl) rfl #[.pointer (some ⟨jq, 0, none⟩)] (by rfl) rfl rfl (by (try simp only [List.map_toArray, List.map_cons, List.map_nil]); first | done | rfl) ?_
          refine (after2_calls (show JT U11 NoF jq tp y2 S1 (refL A2 c2 av2 _ rp up x S1 ++ (srC y2 l6 l7 l8 l9 l10 ++ (blkC jp (.cells #[.int .i64 y.f0, .string y.f1, .string y.f2, .string y.f3, .int .i64 y.f4, .bool y.f5, .slice y.f6.A y.f6.n y.f6.c, .slice y.f7.A y.f7.n y.f7.c, .slice y.f8.A y.f8.n y.f8.c, .slice y.f9.A y.f9.n y.f9.c, .slice y.f10.A y.f10.n y.f10.c, .int .i64 1, .slice none 0 0, .int .i64 mt, .int .i64 0] 68 (0, 0)) :: (srC y l6 l7 l8 l9 l10 ++ [rowXC valE (.slice Ar m cr) af])))) _ from ⟨A, c, av, _, HS21.out⟩) HAL.out).mono ?_
          rintro E w23 ⟨A5, c5, rfl, hr, hb, hf⟩
          have HRW := Aside0.mk hr
          have HS22 := Aside0.mk (HS21.out.below hb)
          clear HS21
          clear hr hb hf
          refine ⟨_, rfl, ?_⟩
          clear hHeld
          refine hK.out _ _ ⟨(blk_cell (HS22.out.blk 8 rfl) 11).trans rfl, (blk_cell (HS22.out.blk 8 rfl) 12).trans rfl, (blk_cell (HS22.out.blk 1 rfl) 1).trans rfl, (blk_cell (HS22.out.blk 6 rfl) 1).trans rfl, ((blk_cell (HS22.out.blk 1 rfl) 2).trans rfl).trans (congrArg (fun z => some (Value.int .i64 z)) HH0.out)⟩ (fun hHeld => ?_)
          clear hK K_
          refine norm_ (a' := ?_) ?_ ?_
          rotate_left
          · show Act.put _ (some 102) _ = _
            simp only [Act.put, List.setIfInBounds_toArray, List.set_cons_zero, List.set_cons_succ, i64_w, i32_w]
            rfl
          refine one_ (i := 24) (N := (some 107)) #[true, true, true, true, true, true, true, true, true, true, true, true, true, true, true, true, true, true, true, true, true, true, true, true, true, false, false, false, false, false, false, false, false, false, false, false, false, false, false, false, false, false, false, false, false, false] rfl rfl (by kernel_rfl) (by decide) (fun K_ hK => ?_)
          refine goes_ Try.func18 (by kernel_rfl) rfl #[.slice A5 S1.af.length c5, .slice A2 S1.af.length c2] (by rfl) rfl rfl (by (try simp only [List.map_toArray, List.map_cons, List.map_nil]); first | done | rfl) ?_
          refine (sameRow_calls _ A5 c5 A2 c2 S1.af (Nat.le_of_lt HAL.out) HRW.out.kc60.1 HRW.out.kc60.2 (HS22.out.rowX 9 rfl).kc60.1 (HS22.out.rowX 9 rfl).kc60.2).mono ?_
          rintro E w24 ⟨rfl, hb⟩
          have HS23 := Aside0.mk (HS22.out.below hb)
          clear HS22
          clear hb
          refine ⟨_, rfl, ?_⟩
          clear hHeld
          refine hK.out _ _ ⟨(blk_cell (HS23.out.blk 8 rfl) 11).trans rfl, (blk_cell (HS23.out.blk 8 rfl) 12).trans rfl, (blk_cell (HS23.out.blk 1 rfl) 1).trans rfl, (blk_cell (HS23.out.blk 6 rfl) 1).trans rfl, ((blk_cell (HS23.out.blk 1 rfl) 2).trans rfl).trans (congrArg (fun z => some (Value.int .i64 z)) HH0.out)⟩ (fun hHeld => ?_)
          clear hK K_
          refine norm_ (a' := ?_) ?_ ?_
          rotate_left
          · show Act.put _ (some 107) _ = _
            simp only [Act.put, List.setIfInBounds_toArray, List.set_cons_zero, List.set_cons_succ, i64_w, i32_w]
            rfl
          refine pure_ (i := 25) (N := (some 108)) (v := ?_) (a' := ?_) #[true, true, true, true, true, true, true, true, true, true, true, true, true, true, true, true, true, true, true, true, true, true, true, true, true, true, false, false, false, false, false, false, false, false, false, false, false, false, false, false, false, false, false, false, false, false] rfl rfl (by kernel_rfl) (fun _ _ _ h => h) (Or.inl ⟨by rfl, ?_⟩) ?_ ?_
          rotate_left
          · intro w'
            go_simp
            with_reducible rfl
          rotate_left
          · simp only [Act.put, List.setIfInBounds_toArray, List.set_cons_zero, List.set_cons_succ, i64_w, i32_w]
            rfl
          refine pure_ (i := 26) (N := (some 109)) (v := ?_) (a' := ?_) #[true, true, true, true, true, true, true, true, true, true, true, true, true, true, true, true, true, true, true, true, true, true, true, true, true, true, true, false, false, false, false, false, false, false, false, false, false, false, false, false, false, false, false, false, false, false] rfl rfl (by kernel_rfl) (fun _ _ _ h => h) (Or.inl ⟨by rfl, ?_⟩) ?_ ?_
          rotate_left
          · intro w'
            go_simp
            with_reducible rfl
          rotate_left
          · simp only [Act.put, List.setIfInBounds_toArray, List.set_cons_zero, List.set_cons_succ, i64_w, i32_w]
            rfl
          refine pure_ (i := 27) (N := (some 110)) (v := ?_) (a' := ?_) #[true, true, true, true, true, true, true, true, true, true, true, true, true, true, true, true, true, true, true, true, true, true, true, true, true, true, true, true, false, false, false, false, false, false, false, false, false, false, false, false, false, false, false, false, false, false] rfl rfl (by kernel_rfl) (fun _ _ _ h => h) (Or.inl ⟨by rfl, ?_⟩) ?_ ?_
          rotate_left
          · intro w'
            go_simp
            with_reducible rfl
          rotate_left
          · simp only [Act.put, List.setIfInBounds_toArray, List.set_cons_zero, List.set_cons_succ, i64_w, i32_w]
            rfl
          refine pure_ (i := 28) (N := (some 111)) (v := ?_) (a' := ?_) #[true, true, true, true, true, true, true, true, true, true, true, true, true, true, true, true, true, true, true, true, true, true, true, true, true, true, true, true, true, false, false, false, false, false, false, false, false, false, false, false, false, false, false, false, false, false] rfl rfl (by kernel_rfl) (fun _ _ _ h => h) (Or.inl ⟨by rfl, ?_⟩) ?_ ?_
          rotate_left
          · intro w'
            go_simp
            with_reducible rfl
          rotate_left
          · simp only [Act.put, List.setIfInBounds_toArray, List.set_cons_zero, List.set_cons_succ, i64_w, i32_w]
            rfl
          refine pure_ (i := 29) (N := (some 112)) (v := ?_) (a' := ?_) #[true, true, true, true, true, true, true, true, true, true, true, true, true, true, true, true, true, true, true, true, true, true, true, true, true, true, true, true, true, true, false, false, false, false, false, false, false, false, false, false, false, false, false, false, false, false] rfl rfl (by kernel_rfl) (fun _ _ _ h => h) (Or.inl ⟨by rfl, ?_⟩) ?_ ?_
          rotate_left
          · intro w'
            go_simp
            with_reducible rfl
          rotate_left
          · simp only [Act.put, List.setIfInBounds_toArray, List.set_cons_zero, List.set_cons_succ, i64_w, i32_w]
            rfl
          refine pure_ (i := 30) (N := (some 113)) (v := ?_) (a' := ?_) #[true, true, true, true, true, true, true, true, true, true, true, true, true, true, true, true, true, true, true, true, true, true, true, true, true, true, true, true, true, true, true, false, false, false, false, false, false, false, false, false, false, false, false, false, false, false] rfl rfl (by kernel_rfl) (fun _ _ _ h => h) (Or.inl ⟨by rfl, ?_⟩) ?_ ?_
          rotate_left
          · intro w'
            go_simp
            with_reducible rfl
          rotate_left
          · simp only [Act.put, List.setIfInBounds_toArray, List.set_cons_zero, List.set_cons_succ, i64_w, i32_w]
            rfl
          refine pure_ (i := 32) (N := (some 115)) (v := ?_) (a' := ?_) #[true, true, true, true, true, true, true, true, true, true, true, true, true, true, true, true, true, true, true, true, true, true, true, true, true, true, true, true, true, true, true, false, true, false, false, false, false, false, false, false, false, false, false, false, false, false] rfl rfl (by kernel_rfl) (fun _ _ _ h => h) (Or.inl ⟨by rfl, ?_⟩) ?_ ?_
          rotate_left
          · intro w'
            go_simp
            with_reducible rfl
          rotate_left
          · simp only [Act.put, List.setIfInBounds_toArray, List.set_cons_zero, List.set_cons_succ, i64_w, i32_w]
            rfl
          refine pure_ (i := 33) (N := (some 116)) (v := ?_) (a' := ?_) #[true, true, true, true, true, true, true, true, true, true, true, true, true, true, true, true, true, true, true, true, true, true, true, true, true, true, true, true, true, true, true, false, true, true, false, false, false, false, false, false, false, false, false, false, false, false] rfl rfl (by kernel_rfl) (fun _ _ _ h => h) (Or.inl ⟨by rfl, ?_⟩) ?_ ?_
          rotate_left
          · intro w'
            go_simp
            with_reducible rfl
          rotate_left
          · simp only [Act.put, List.setIfInBounds_toArray, List.set_cons_zero, List.set_cons_succ, i64_w, i32_w]
            rfl
          refine pure_ (i := 34) (N := (some 117)) (v := ?_) (a' := ?_) #[true, true, true, true, true, true, true, true, true, true, true, true, true, true, true, true, true, true, true, true, true, true, true, true, true, true, true, true, true, true, true, false, true, true, true, false, false, false, false, false, false, false, false, false, false, false] rfl rfl (by kernel_rfl) (fun _ _ _ h => h) (Or.inl ⟨by rfl, ?_⟩) ?_ ?_
          rotate_left
          · intro w'
            go_simp
            with_reducible rfl
          rotate_left
          · simp only [Act.put, List.setIfInBounds_toArray, List.set_cons_zero, List.set_cons_succ, i64_w, i32_w]
            rfl
          refine take_ (i := 31) (N := (some 114)) (v := ?_) (a' := ?_) #[true, true, true, true, true, true, true, true, true, true, true, true, true, true, true, true, true, true, true, true, true, true, true, true, true, true, true, true, true, true, true, true, true, true, true, false, false, false, false, false, false, false, false, false, false, false] rfl rfl (by kernel_rfl) (fun _ _ _ h => h) (Or.inl ⟨by rfl, ?_⟩) hHeld ?_ ?_
          rotate_left
          · rintro w' ⟨s0, s1, s2, s3, s4⟩
            go_simp
            with_reducible rfl
          rotate_left
          · simp only [Act.put, List.setIfInBounds_toArray, List.set_cons_zero, List.set_cons_succ, i64_w, i32_w]
            rfl
          refine take_ (i := 35) (N := (some 118)) (v := ?_) (a' := ?_) #[true, true, true, true, true, true, true, true, true, true, true, true, true, true, true, true, true, true, true, true, true, true, true, true, true, true, true, true, true, true, true, true, true, true, true, true, false, false, false, false, false, false, false, false, false, false] rfl rfl (by kernel_rfl) (fun _ _ _ h => h) (Or.inl ⟨by rfl, ?_⟩) hHeld ?_ ?_
          rotate_left
          · rintro w' ⟨s0, s1, s2, s3, s4⟩
            go_simp
            with_reducible rfl
          rotate_left
          · simp only [Act.put, List.setIfInBounds_toArray, List.set_cons_zero, List.set_cons_succ, i64_w, i32_w]
            rfl
          refine one_ (i := 36) (N := (some 119)) #[true, true, true, true, true, true, true, true, true, true, true, true, true, true, true, true, true, true, true, true, true, true, true, true, true, true, true, true, true, true, true, true, true, true, true, true, true, false, false, false, false, false, false, false, false, false] rfl rfl (by kernel_rfl) (by decide) (fun K_ hK => ?_)
          refine goes_ Try.func20 (by kernel_rfl) rfl #[.slice Ak S1.txt.length ck, .slice Ak2 S1.txt.length ck2] (by rfl) rfl rfl (by (try simp only [List.map_toArray, List.map_cons, List.map_nil]); first | done | rfl) ?_
          refine (sameTexts_calls _ Ak ck Ak2 ck2 S1.txt HTL.out (HS23.out.rowX 2 rfl).kcT.1 (HS23.out.rowX 2 rfl).kcT.2 (HS23.out.rowX 7 rfl).kcT.1 (HS23.out.rowX 7 rfl).kcT.2).mono ?_
          rintro E w25 ⟨rfl, hb⟩
          have HS24 := Aside0.mk (HS23.out.below hb)
          clear HS23
          clear hb
          refine ⟨_, rfl, ?_⟩
          clear hHeld
          refine hK.out _ _ ⟨(blk_cell (HS24.out.blk 8 rfl) 11).trans rfl, (blk_cell (HS24.out.blk 8 rfl) 12).trans rfl, (blk_cell (HS24.out.blk 1 rfl) 1).trans rfl, (blk_cell (HS24.out.blk 6 rfl) 1).trans rfl, ((blk_cell (HS24.out.blk 1 rfl) 2).trans rfl).trans (congrArg (fun z => some (Value.int .i64 z)) HH0.out)⟩ (fun hHeld => ?_)
          clear hK K_
          refine norm_ (a' := ?_) ?_ ?_
          rotate_left
          · show Act.put _ (some 119) _ = _
            simp only [Act.put, List.setIfInBounds_toArray, List.set_cons_zero, List.set_cons_succ, i64_w, i32_w]
            rfl
          refine pure_ (i := 37) (N := (some 120)) (v := ?_) (a' := ?_) #[true, true, true, true, true, true, true, true, true, true, true, true, true, true, true, true, true, true, true, true, true, true, true, true, true, true, true, true, true, true, true, true, true, true, true, true, true, true, false, false, false, false, false, false, false, false] rfl rfl (by kernel_rfl) (fun _ _ _ h => h) (Or.inl ⟨by rfl, ?_⟩) ?_ ?_
          rotate_left
          · intro w'
            go_simp
            with_reducible rfl
          rotate_left
          · simp only [Act.put, List.setIfInBounds_toArray, List.set_cons_zero, List.set_cons_succ, i64_w, i32_w]
            rfl
          refine pure_ (i := 38) (N := (some 121)) (v := ?_) (a' := ?_) #[true, true, true, true, true, true, true, true, true, true, true, true, true, true, true, true, true, true, true, true, true, true, true, true, true, true, true, true, true, true, true, true, true, true, true, true, true, true, true, false, false, false, false, false, false, false] rfl rfl (by kernel_rfl) (fun _ _ _ h => h) (Or.inl ⟨by rfl, ?_⟩) ?_ ?_
          rotate_left
          · intro w'
            go_simp
            with_reducible rfl
          rotate_left
          · simp only [Act.put, List.setIfInBounds_toArray, List.set_cons_zero, List.set_cons_succ, i64_w, i32_w]
            rfl
          refine pure_ (i := 39) (N := (some 122)) (v := ?_) (a' := ?_) #[true, true, true, true, true, true, true, true, true, true, true, true, true, true, true, true, true, true, true, true, true, true, true, true, true, true, true, true, true, true, true, true, true, true, true, true, true, true, true, true, false, false, false, false, false, false] rfl rfl (by kernel_rfl) (fun _ _ _ h => h) (Or.inl ⟨by rfl, ?_⟩) ?_ ?_
          rotate_left
          · intro w'
            go_simp
            with_reducible rfl
          rotate_left
          · simp only [Act.put, List.setIfInBounds_toArray, List.set_cons_zero, List.set_cons_succ, i64_w, i32_w]
            rfl
          refine pure_ (i := 40) (N := (some 123)) (v := ?_) (a' := ?_) #[true, true, true, true, true, true, true, true, true, true, true, true, true, true, true, true, true, true, true, true, true, true, true, true, true, true, true, true, true, true, true, true, true, true, true, true, true, true, true, true, true, false, false, false, false, false] rfl rfl (by kernel_rfl) (fun _ _ _ h => h) (Or.inl ⟨by rfl, ?_⟩) ?_ ?_
          rotate_left
          · intro w'
            go_simp
            with_reducible rfl
          rotate_left
          · simp only [Act.put, List.setIfInBounds_toArray, List.set_cons_zero, List.set_cons_succ, i64_w, i32_w]
            rfl
          refine pure_ (i := 41) (N := (some 124)) (v := ?_) (a' := ?_) #[true, true, true, true, true, true, true, true, true, true, true, true, true, true, true, true, true, true, true, true, true, true, true, true, true, true, true, true, true, true, true, true, true, true, true, true, true, true, true, true, true, true, false, false, false, false] rfl rfl (by kernel_rfl) (fun _ _ _ h => h) (Or.inl ⟨by rfl, ?_⟩) ?_ ?_
          rotate_left
          · intro w'
            go_simp
            with_reducible rfl
          rotate_left
          · simp only [Act.put, List.setIfInBounds_toArray, List.set_cons_zero, List.set_cons_succ, i64_w, i32_w]
            rfl
          refine pure_ (i := 42) (N := (some 125)) (v := ?_) (a' := ?_) #[true, true, true, true, true, true, true, true, true, true, true, true, true, true, true, true, true, true, true, true, true, true, true, true, true, true, true, true, true, true, true, true, true, true, true, true, true, true, true, true, true, true, true, false, false, false] rfl rfl (by kernel_rfl) (fun _ _ _ h => h) (Or.inl ⟨by rfl, ?_⟩) ?_ ?_
          rotate_left
          · intro w'
            go_simp
            with_reducible rfl
          rotate_left
          · simp only [Act.put, List.setIfInBounds_toArray, List.set_cons_zero, List.set_cons_succ, i64_w, i32_w]
            rfl
          refine take_ (i := 43) (N := (some 126)) (v := ?_) (a' := ?_) #[true, true, true, true, true, true, true, true, true, true, true, true, true, true, true, true, true, true, true, true, true, true, true, true, true, true, true, true, true, true, true, true, true, true, true, true, true, true, true, true, true, true, true, true, false, false] rfl rfl (by kernel_rfl) (fun _ _ _ h => h) (Or.inl ⟨by rfl, ?_⟩) hHeld ?_ ?_
          rotate_left
          · rintro w' ⟨s0, s1, s2, s3, s4⟩
            go_simp
            with_reducible rfl
          rotate_left
          · simp only [Act.put, List.setIfInBounds_toArray, List.set_cons_zero, List.set_cons_succ, i64_w, i32_w]
            rfl
          refine pure_ (i := 44) (N := (some 127)) (v := ?_) (a' := ?_) #[true, true, true, true, true, true, true, true, true, true, true, true, true, true, true, true, true, true, true, true, true, true, true, true, true, true, true, true, true, true, true, true, true, true, true, true, true, true, true, true, true, true, true, true, true, false] rfl rfl (by kernel_rfl) (fun _ _ _ h => h) (Or.inl ⟨by rfl, ?_⟩) ?_ ?_
          rotate_left
          · intro w'
            go_simp
            with_reducible rfl
          rotate_left
          · simp only [Act.put, List.setIfInBounds_toArray, List.set_cons_zero, List.set_cons_succ, i64_w, i32_w]
            rfl
          refine pure_ (i := 45) (N := (some 128)) (v := ?_) (a' := ?_) #[true, true, true, true, true, true, true, true, true, true, true, true, true, true, true, true, true, true, true, true, true, true, true, true, true, true, true, true, true, true, true, true, true, true, true, true, true, true, true, true, true, true, true, true, true, true] rfl rfl (by kernel_rfl) (fun _ _ _ h => h) (Or.inl ⟨by rfl, ?_⟩) ?_ ?_
          rotate_left
          · intro w'
            go_simp
            with_reducible rfl
          rotate_left
          · simp only [Act.put, List.setIfInBounds_toArray, List.set_cons_zero, List.set_cons_succ, i64_w, i32_w]
            rfl
          refine done_ (by kernel_rfl) ?_
          clear hHeld
          go_wp2
          go_roundg gq
          case measure => omega
          case rel => exact ⟨i + 1, by go_num, by omega, Aside0.mk (by rw [HS1'.out]; exact ⟨A, c, av, _, A2, c2, av2, _, HS24.out⟩)⟩
end Go.Proofs.Kb
end
