/- Packed by shake.py: YtnojcnmnkkgkgaaQ15 YtnojcnmnkkgkgaaJT6 YtnojcnmnkkgkgaaJP1 YtnojcnmnkkgkgaaJP2 YtnojcnmnkkgkgaaJJ1 YtnojcnmnkkgkgaaJJ2 YtnojcnmnkkgkgaaJJ3 YtnojcnmnkkgkgaaJJ4 YtnojcnmnkkgkgaaJJ5 YtnojcnmnkkgkgaaJJ6 YtnojcnmnkkgkgaaJN1 -/
import Derived.Test.YtnojcnmnkkgkgaaV1
set_option linter.unusedSectionVars false
section
namespace Go.Proofs.Ytnojcnmnkkgkgaa.Q
open Go.RowKit Go.Proofs.YtnojcnmnkkgkgaaW.PrintWords Go.Proofs.YtnojcnmnkkgkgaaW.PrintLast Go.Proofs.YtnojcnmnkkgkgaaW.PrintMore
attribute [local go_sem] max2_int min2_int max_two min_two max_three min_three max_four min_four
set_option linter.unusedVariables false
set_option linter.unusedSimpArgs false
def interlockref00_CopyRow.f (l0 : List (S60)) : Option ((List (S60))) := (some (([] : List (S60)) : List (S60))).bind fun y124 => (if y124.length + l0.length < 4398046511104 then (some (y124 ++ l0)) else (none))
set_option maxHeartbeats 8000000 in
set_option maxRecDepth 100000 in
theorem interlockref00_CopyRow.calls (A0 : Option Addr) (c0 : Nat) (l0 : List (S60)) (r : List (S60)) (w : World) (hr0 : Kd.C k60 w A0 l0.length l0) (hc0 : l0.length ≤ c0) (h : interlockref00_CopyRow.f l0 = some r) :
    Calls Try.prog 15 #[.slice A0 l0.length c0] w fun e w' => ∃ v0_ : Value, e = .returned (v0_) ∧ Kd.R k60 60 w' w.heap.size (fun _ => True) v0_ r ∧ Below w.heap.size w w' := by
  have HR0 := Aside0.mk hr0
  have HC0 := Aside0.mk hc0
  clear hr0 hc0
  have HB := Aside0.mk (Below.refl w.heap.size w)
  have H : ((some (([] : List (S60)) : List (S60))).bind fun y124 => (if y124.length + l0.length < 4398046511104 then (some (y124 ++ l0)) else (none))) = some r := h
  clear h
  obtain ⟨y124, hy124⟩ : ∃ y_ : List (S60), y_ = (([] : List (S60))) := ⟨_, rfl⟩
  replace H : (if y124.length + l0.length < 4398046511104 then (some (y124 ++ l0)) else (none)) = some r := by first | (rw [hy124]; with_reducible exact H) | (have H2_ := (Option.bind_some _ _).symm.trans H; rw [hy124]; with_reducible exact H2_) | (have H2_ := (Option.bind_some _ _).symm.trans H; with_reducible exact H2_) | with_reducible exact H | (rw [hy124]; exact H) | exact H
  have Ny124 := Aside0.mk hy124
  clear hy124
  by_cases c2 : y124.length + l0.length < 4398046511104
  · rw [if_pos c2] at H
    have LMc2 := Aside0.mk c2
    clear c2
    obtain ⟨y127, hy127⟩ : ∃ y_ : List (S60), y_ = (y124 ++ l0) := ⟨_, rfl⟩
    replace H : (some y127) = some r := by first | (rw [hy127]; with_reducible exact H) | (have H2_ := (Option.bind_some _ _).symm.trans H; rw [hy127]; with_reducible exact H2_) | (have H2_ := (Option.bind_some _ _).symm.trans H; with_reducible exact H2_) | with_reducible exact H | (rw [hy127]; exact H) | exact H
    have Ny127 := Aside0.mk hy127
    clear hy127
    obtain rfl := Option.some.inj H
    go_enter Try.func15, Try.ntmps15
    go_wp2_with (first | ((with_reducible refine gate_dst (N := 4) rfl ?_); refine Kd.R_lit k60 _ 60 ?hg (N := 4) ?hd (xs := ([] : List (S60))) (inner := []) (ok := fun _ => True) (okp := fun _ => True) ?hr ?hp (fun _ hk => hk) trivial (Below.refl _ _) (Nat.le_refl _) (by simp) ?_; (case hd => rfl); (case hg => rfl); (case hr => first | (go_simp; done) | (go_simp; rfl)); (case hp => exact (Reps.none _ _)); intro v125 w3 ho4 hb hg_ hnew_; clear hg_ hnew_; (first | rw [← Ny124.out] at ho4 | (simp only [Int.reduceToNat] at ho4; rw [← Ny124.out] at ho4)); have n0_ := Aside0.mk (Kd.R_lower ho4 (below_size (by repeat (first | (with_reducible first | exact HB.out | apply below_alloc | apply pw_below_drewN | apply below_drew1) | exact HB.out)))); have n1_ := Aside0.mk (below_step (by repeat (first | (with_reducible first | exact HB.out | apply below_alloc | apply pw_below_drewN | apply below_drew1) | exact HB.out)) hb); clear HB; have HO126 := n0_; have HB := n1_; clear n0_ n1_; clear hb ho4) | ((with_reducible refine gate_builtin (b := .append) (xs := #[.tmp 5, .tmp 6]) rfl ?_); at_builtin; refine Kd.R_append_rows k60 (w0 := w) w.heap.size rfl (.tmp 5) (.tmp 6) 45 60 (.agg #[(.int .i64 0), (.int .i64 0), (.string ⟨#[]⟩)]) 32 rfl Try.underlying45 info60 rfl (by decide) (by omega) v125 y124 l0 _ _ _ (fun _ => True) (fun _ => False) rfl rfl ?aO ?aR (fun _ _ h => h) (fun _ h => h.elim) ?aF ?aB ?aS ?aL ?_; (case aR => repeat (first | exact (Kd.C_below HR0.out HB.out) | (with_reducible refine Kd.C_alloc ?_ _) | (with_reducible refine Kd.C_drewN ?_ _) | (with_reducible refine Kd.C_drew ?_))); (case aB => exact (by repeat (first | (with_reducible first | exact HB.out | apply below_alloc | apply pw_below_drewN | apply below_drew1) | exact HB.out))); (case aF => exact (fun _ _ => trivial)); (case aO => exact (by (with_reducible repeat (first | apply Kd.R_alloc | apply Kd.R_drewN | apply Kd.R_drew)); exact HO126.out)); (case aS => exact (below_size (by repeat (first | (with_reducible first | exact HB.out | apply below_alloc | apply pw_below_drewN | apply below_drew1) | exact HB.out)))); (case aL => have := LMc2.out; omega); intro v128 w5 ho hb hg hat; rw [← Ny127.out] at ho; have n0_ := Aside0.mk (hb); have n1_ := Aside0.mk (ho); clear HB; clear HO126; have HB := n0_; have HO129 := n1_; clear n0_ n1_; clear ho hb hg hat))
    go_ret
    exact ⟨_, by first | rfl | (simp [errW_none, errW_some] <;> rfl) | (simp [*, errW_none, errW_some] <;> rfl), by (with_reducible repeat (first | apply Kd.R_alloc | apply Kd.R_drewN | apply Kd.R_drew)); exact HO129.out, by repeat (first | (with_reducible first | exact HB.out | apply below_alloc | apply pw_below_drewN | apply below_drew1) | exact HB.out)⟩
  · rw [if_neg c2] at H
    exact absurd H (by simp)
end Go.Proofs.Ytnojcnmnkkgkgaa.Q
end
section
namespace Go.Proofs.Kb
open Go Go.RowKit Go.Proofs.Ytnojcnmnkkgkgaa.Q Go.Proofs.YtnojcnmnkkgkgaaW.PrintWords Go.Proofs.YtnojcnmnkkgkgaaW.PrintLast Go.Proofs.YtnojcnmnkkgkgaaW.PrintMore
set_option linter.unusedVariables false
set_option linter.unusedSimpArgs false
set_option maxRecDepth 100000
theorem Src.toC {α : Type} {E : EncT α} {w : World} {A : Option Addr} {c : Nat} {l : List α} (d : Kd α) (hsz : d.sz = E.sz) (hmk : ∀ x, d.K w x (E.enc x)) (h : Src E w (.slice A l.length c) l) (hl : l.length ≤ maxLen) : Kd.C d w A l.length l := by
  obtain ⟨A', c', e, h1, h2⟩ := h
  injection e with e1 e2 e3
  subst e1
  refine ⟨rfl, hl, fun h0 => ?_⟩
  cases A with
  | none => rw [h1 rfl] at h0; exact absurd h0 (by simp)
  | some a =>
    refine ⟨a, rfl, fun j p hp => ⟨E.enc p, (E.len p).trans hsz.symm, hmk p, fun k u hu => ?_⟩⟩
    have hk : k < E.sz := by
      rw [← E.len p]
      exact (List.getElem?_eq_some_iff.1 hu).1
    rw [hsz]
    exact h2 a rfl _ u ((E.all_get hp hk).trans hu)
theorem RowX.capOk {α : Type} {E : EncT α} {w : World} {A : Option Addr} {n c : Nat} {l : List α} (h : RowX E w (.slice A n c) l) : n = l.length ∧ l.length ≤ c ∧ l.length ≤ maxLen := by
  rcases h.2.2 with ⟨e, h0⟩ | ⟨g, cap, cur, e, hg, hn, hm, _⟩
  · injection e with e1 e2 e3
    omega
  · injection e with e1 e2 e3
    omega
noncomputable def batS (s : ByteArray) (l : List S60) : ByteArray := l.foldl (fun s x => s ++ ((⟨#[32]⟩ : ByteArray) ++ showB x.f1)) ((⟨#[98, 97, 116, 99, 104, 32]⟩ : ByteArray) ++ s)
theorem batS_snoc (s : ByteArray) (l : List S60) (x : S60) : batS s (l ++ [x]) = batS s l ++ ((⟨#[32]⟩ : ByteArray) ++ showB x.f1) := by
  unfold batS
  rw [List.foldl_append]
  rfl
theorem batS_size_ : ∀ (l : List S60) (s : ByteArray), (l.foldl (fun s x => s ++ ((⟨#[32]⟩ : ByteArray) ++ showB x.f1)) s).size ≤ s.size + 31 * l.length
  | [], s => by simp
  | x :: l, s => by
    have h1 := batS_size_ l (s ++ ((⟨#[32]⟩ : ByteArray) ++ showB x.f1))
    have h2 := showB_size x.f1
    rw [ByteArray.size_append, ByteArray.size_append, show ((⟨#[32]⟩ : ByteArray)).size = 1 from rfl] at h1
    simp only [List.foldl_cons, List.length_cons]
    omega
theorem batS_size (s : ByteArray) (l : List S60) : (batS s l).size ≤ 6 + s.size + 31 * l.length := by
  have h := batS_size_ l ((⟨#[98, 97, 116, 99, 104, 32]⟩ : ByteArray) ++ s)
  rw [ByteArray.size_append, show ((⟨#[98, 97, 116, 99, 104, 32]⟩ : ByteArray)).size = 6 from rfl] at h
  exact h
theorem RowX.val {w : World} {g n c : Nat} {l : List S60} (h : RowX valE w (.slice (some ⟨g, 0, none⟩) n c) l) {i : Nat} {x : S60} (hx : l[i]? = some x) :
    w.cell? ⟨g, i * 3, none⟩ = some (.int .i64 x.f0) ∧ w.cell? ⟨g, i * 3 + 1, none⟩ = some (.int .i64 x.f1) ∧ w.cell? ⟨g, i * 3 + 2, none⟩ = some (.string x.f2) :=
  ⟨h.cell hx 0 (by decide) _ rfl, h.cell hx 1 (by decide) _ rfl, h.cell hx 2 (by decide) _ rfl⟩
theorem St.as {w0 w : World} {F : Nat → Prop} {cs : List Chunk} {c : Chunk} (s : St w0 F w cs) (i : Nat) (hi : cs[i]? = some c) (c' : Chunk) (hc : c.H w → c'.H w) (hb : c'.bs = c.bs) : St w0 F w (cs.set i c') :=
  s.upd i hi c' (Keep.of_below (Below.refl _ _) _) (hc (s.get i hi)) (hb ▸ s.ndi i hi) (fun b h => .inl (hb ▸ h))
theorem rowX_blk {α : Type} {E : EncT α} {w : World} {b : Nat} {C : Array Value} {l : List α} (h : w.heap[b]? = some (.cells C E.ty (0, 0))) (hC : C.toList = E.all l) (hl : l.length ≤ maxLen) : RowX E w (.slice (some ⟨b, 0, none⟩) l.length l.length) l := by
  have hs : C.size = l.length * E.sz := by rw [← E.all_len, ← hC]; simp
  exact ⟨E.all_len l, E.all_one l, .inr ⟨b, l.length, C, rfl, h, Nat.le_refl _, hl, by rw [hs]; exact Nat.le_refl _, by rw [hC]; exact List.take_of_length_le (by rw [E.all_len]; exact Nat.le_refl _)⟩⟩
theorem TL.as {w0 w : World} {F : Nat → Prop} {tp : Nat} {ans : List Int} {txt : List ByteArray} {held : Int} {R : List Chunk} {c : Chunk} (h : TL w0 F tp ans txt held R w) (i : Nat) (hi : R[i]? = some c) (c' : Chunk) (hc : c.H w → c'.H w) (hb : c'.bs = c.bs) : TL w0 F tp ans txt held (R.set i c') w := by
  obtain ⟨av, kv, h⟩ := h
  exact ⟨av, kv, h.as (i + 3) hi c' hc hb⟩
theorem TL.asLast {w0 w : World} {F : Nat → Prop} {tp : Nat} {ans : List Int} {txt : List ByteArray} {held : Int} {R : List Chunk} {c : Chunk} (h : TL w0 F tp ans txt held (R ++ [c]) w) (c' : Chunk) (hc : c.H w → c'.H w) (hb : c'.bs = c.bs) : TL w0 F tp ans txt held (R ++ [c']) w :=
  (TL.as (R := c :: R) (h.perm List.perm_append_comm) 0 rfl c' hc hb).perm (List.perm_append_comm (l₁ := [c']) (l₂ := R))
def nextRow (x : Int) : List S60 := [⟨1, x, ⟨#[]⟩⟩]
section
variable {w0 w : World} {F : Nat → Prop} {tp : Nat} {ans : List Int} {txt : List ByteArray} {held : Int} {R : List Chunk}
def Bat43 (w0 : World) (F : Nat → Prop) (tp : Nat) (ans : List Int) (txt : List ByteArray) (held : Int) (R : List Chunk) (x : Int) (E : Ending) (W : World) : Prop :=
  ∃ A n c, E = .returned (.tuple #[.slice A n c, .bool (!(bits .and .i64 x 1 == 0))]) ∧ TL w0 F tp ans.tail txt held (if (bits .and .i64 x 1 == 0) = true then R else R ++ [rowXC valE (.slice A n c) (nextRow x)]) W
set_option maxHeartbeats 8000000 in
theorem batch_calls (A : Option Addr) (c : Nat) (af : List S60) (h : TL w0 F tp ans txt held (rowXC valE (.slice A af.length c) af :: R) w) (hn : txt.length < 999999) (hw : ∀ x ∈ af, (Lit.int .i64 x.f1).wf = true) (hl : af.length ≤ 1000) (ix : ByteArray) (hix : ix.size ≤ 1000) :
    Calls Try.prog 43 #[tpV tp, .string ix, .slice A af.length c] w (Bat43 w0 F tp ans (txt ++ [batS ix af]) held (rowXC valE (.slice A af.length c) af :: R) (ans.headD 0)) := by
  obtain ⟨x, hx⟩ : ∃ x, ans.headD 0 = x := ⟨_, rfl⟩
  rw [hx]
  obtain ⟨Q, hQ⟩ : ∃ Q, Bat43 w0 F tp ans (txt ++ [batS ix af]) held (rowXC valE (.slice A af.length c) af :: R) x = Q := ⟨_, rfl⟩
  have HQ := Aside0.mk hQ
  rw [hQ]
  have hu45 := Try.underlying45
  have hu60 := Try.underlying60
  have hz60 := Try.sizeOf60
  have hr := h.rest.rowX 0 rfl
  obtain ⟨_, hcap, hmax⟩ := hr.capOk
  have hcc : ∀ (W : World) (ans : List Int) (txt : List ByteArray), TL w0 F tp ans txt held (rowXC valE (.slice A af.length c) af :: R) W → Kd.C k60 W A af.length af := fun W ans txt h =>
    Src.toC (E := valE) k60 rfl (fun x => k60_mk W x) (RowX.src (h.rest.rowX 0 rfl)) hmax
  have HCC := Aside0.mk (fun W ans txt h => (interlockref00_CopyRow.calls A c af af W (hcc W ans txt h) hcap (by
    unfold interlockref00_CopyRow.f
    simp only [Option.bind_some, List.length_nil, List.nil_append]
    rw [if_pos (by omega)])).mono (R' := fun e w' => ∃ A2 c2, e = .returned (.slice A2 af.length c2) ∧ Below W.heap.size W w') fun e w' ⟨v, he, hr, hb⟩ => by
      obtain ⟨A2, c2, e2⟩ := Kd.R_slice hr
      exact ⟨A2, c2, by rw [he, e2], hb⟩)
  obtain ⟨n, hnn⟩ : ∃ n, af.length = n := ⟨_, rfl⟩
  rw [hnn] at hl HCC
  have HN := Aside0.mk hnn
  have HW := Aside0.mk hw
  have HX := Aside0.mk hx
  have HS := Aside0.mk (show TL w0 F tp ans txt held (rowXC valE (.slice A n c) af :: R) w by rw [← hnn]; exact h)
  rw [hnn] at hcc ⊢
  have hs0 : ¬ (9223372036854775807 < 6 + ix.size) := by omega
  clear h hQ hnn hw hx hr hcap hmax hcc
  unfold tpV
  go_enter Try.func43, Try.ntmps43
  go_wp2_with (go_at_call 59; refine (next_calls _ _ _ _ _ _ _ _ HS.out).mono ?_; rintro E w2 ⟨rfl, h⟩; rw [HX.out]; have HS2 := Aside0.mk h; clear h HS)
  go_loopg [9, 10] n (fun gq v5 v6 wx => ∃ i : Nat, v6 = .int .i64 i ∧ v5 = .string (batS ix (af.take i)) ∧ i + gq = n ∧ Aside0 (TL w0 F tp ans.tail txt held (rowXC valE (.slice A n c) af :: R) wx))
  case atStart => exact ⟨0, rfl, rfl, by omega, HS2⟩
  case round =>
    clear HS2
    obtain ⟨i, rfl, rfl, hi, HS⟩ := hrel
    cases gk with
    | zero =>
      obtain rfl : i = n := by omega
      have ht : af.take i = af := List.take_of_length_le (by rw [HN.out]; exact Nat.le_refl _)
      rw [ht]
      have hin : ¬ (i : Int) < (i : Int) := by omega
      obtain ⟨s, hs⟩ : ∃ s, batS ix af = s := ⟨_, rfl⟩
      have HSS := Aside0.mk hs
      rw [hs]
      clear ht hs
      cases hb : (bits .and .i64 x 1 == 0) with
      | true =>
        go_wp2_with (first
          | (go_at_call 58; refine (note_calls HS.out s hn).mono ?_; rintro E w1 ⟨rfl, h⟩; have HS1 := Aside0.mk h; clear h HS)
          | (go_at_call 15; refine (HCC.out _ _ _ HS1.out).mono ?_; rintro E w2 ⟨A2, c2, rfl, h⟩; have HS2 := Aside0.mk (HS1.out.below h); clear h HS1))
        rw [← HQ.out]
        refine ⟨A2, i, c2, by rw [hb]; rfl, ?_⟩
        rw [if_pos hb, HN.out, HSS.out]
        exact HS2.out
      | false =>
        go_wp2_with (go_at_call 58; refine (note_calls HS.out s hn).mono ?_; rintro E w1 ⟨rfl, h⟩; obtain ⟨n9, hn9⟩ : ∃ n, w1.heap.size = n := ⟨_, rfl⟩; have HS1 := Aside0.mk (h.alloc #[.int .i64 1, .int .i64 x, .string ⟨#[]⟩] 60 hn9); clear h HS)
        rw [← HQ.out]
        refine ⟨_, _, _, by rw [hb]; rfl, ?_⟩
        rw [if_neg (by rw [hb]; decide), HN.out, HSS.out]
        exact HS1.out.asLast (rowXC valE (.slice (some ⟨n9, 0, none⟩) 1 1) (nextRow x)) (fun hh => rowX_blk (E := valE) (l := nextRow x) hh rfl (by simp [nextRow, maxLen])) rfl
    | succ gq =>
      have hin : (i : Int) < (n : Int) := by omega
      have hi0 : (0 : Int) ≤ (i : Int) := by omega
      have hi9 : (i : Int) ≤ 1000000 := by omega
      obtain ⟨y, hy⟩ : ∃ x, af[i]? = some x := ⟨_, List.getElem?_eq_getElem (by rw [HN.out]; omega)⟩
      have hrow := HS.out.rest.rowX 0 rfl
      obtain ⟨g, c', hv, _⟩ := row_slice (n := af.length) (by rw [← HN.out] at hrow; exact hrow) (by rw [HN.out]; omega)
      obtain ⟨rfl, rfl⟩ : A = some ⟨g, 0, none⟩ ∧ c = c' := by
        injection hv with e1 e2 e3
        exact ⟨e1, e3⟩
      have hwx := HW.out y (List.mem_of_getElem? hy)
      obtain ⟨d0, d1, d2⟩ := hrow.val hy
      obtain ⟨s, hs⟩ : ∃ s, batS ix (af.take i) = s := ⟨_, rfl⟩
      have hss : s.size ≤ 100000 := by
        have h := batS_size ix (af.take i)
        rw [hs, List.length_take] at h
        omega
      have HT := Aside0.mk (show batS ix (af.take (i + 1)) = s ++ ((⟨#[32]⟩ : ByteArray) ++ showB y.f1) by rw [List.take_add_one, hy, ← hs]; exact batS_snoc _ _ _)
      rw [hs]
      obtain ⟨y0, k0, u0⟩ := y
      obtain ⟨z1, hz1⟩ : ∃ z, showB k0 = z := ⟨_, rfl⟩
      have hq1 := showB_size k0
      rw [hz1] at hq1
      have HZ1 := Aside0.mk hz1
      have HC1 := Aside0.mk (fun W => hz1 ▸ show_calls k0 W hwx)
      have a1 : ¬ (9223372036854775807 < 1 + z1.size) := by omega
      have a2 : ¬ (9223372036854775807 < s.size + (1 + z1.size)) := by omega
      have hg := World.block_lt_of_cell? _ _ d0
      clear hy hrow hv hs hz1 hwx
      go_wp2_with (go_at_call 57; refine (HC1.out _).mono ?_; rintro E w4 ⟨rfl, hb⟩; have HS4 := Aside0.mk (HS.out.below hb); clear hb HS d0 d1 d2 hg)
      go_roundg gq
      case measure => omega
      case rel => exact ⟨i + 1, by go_num, by rw [HT.out, HZ1.out], by omega, HS4⟩
end
end Go.Proofs.Kb
end
section
namespace Go.Proofs.Kb
open Go Go.RowKit Go.Proofs.Ytnojcnmnkkgkgaa.Q Go.Proofs.YtnojcnmnkkgkgaaW.PrintWords Go.Proofs.YtnojcnmnkkgkgaaW.PrintLast Go.Proofs.YtnojcnmnkkgkgaaW.PrintMore
set_option linter.unusedVariables false
set_option linter.unusedSimpArgs false
set_option maxRecDepth 100000
set_option maxHeartbeats 4000000 in
theorem add_calls (w0 w : World) (F : Nat → Prop) (lb : Nat) (A : Option Addr) (c : Nat) (l : List S97) (k m : Int) (t u : ByteArray) (h : St w0 F w [blkC lb (.cells #[.slice A l.length c] 91 (0, 0)), rowXC wntE (.slice A l.length c) l]) (hl : l.length < 1000) :
    Calls Try.prog 61 #[.pointer (some ⟨lb, 0, none⟩), .agg #[.int .i64 k, .string t, .string u], .int .i64 m] w fun E w' => E = .returned (.tuple #[]) ∧ ∃ A' c', St w0 F w' [blkC lb (.cells #[.slice A' (l.length + 1) c'] 91 (0, 0)), rowXC wntE (.slice A' (l.length + 1) c') (l ++ [⟨⟨k, t, u⟩, m⟩])] := by
  obtain ⟨Q, hQ⟩ : ∃ Q, (fun E w' => E = Ending.returned (.tuple #[]) ∧ ∃ A' c', St w0 F w' [blkC lb (.cells #[.slice A' (l.length + 1) c'] 91 (0, 0)), rowXC wntE (.slice A' (l.length + 1) c') (l ++ [⟨⟨k, t, u⟩, m⟩])]) = Q := ⟨_, rfl⟩
  have HQ := Aside0.mk hQ
  rw [hQ]
  have hu91 := Try.underlying91
  have hu95 := Try.underlying95
  have hu97 := Try.underlying97
  have HN := Aside0.mk (show l.length < 999999 by omega)
  obtain ⟨n, hnn⟩ : ∃ n, l.length = n := ⟨_, rfl⟩
  rw [hnn] at h
  have HNN := Aside0.mk hnn
  obtain ⟨n8, hn8⟩ : ∃ n, w.heap.size = n := ⟨_, rfl⟩
  have h8 := h.alloc #[.int .i64 k, .string t, .string u] 95 hn8
  obtain ⟨W8, hW8⟩ : ∃ W, w.alloc (.cells #[.int .i64 k, .string t, .string u] 95) = W := ⟨_, rfl⟩
  rw [hW8] at h8
  have HS := Aside0.mk h8
  clear h h8 hQ hnn hl
  go_enter Try.func61, Try.ntmps61
  go_wp2
  refine start_ (n := 11) (S := fun w' => w'.cell? ⟨lb, 0, none⟩ = some (.slice A n c) ∧ w'.cell? ⟨n8, 0, none⟩ = some (.int .i64 k) ∧ w'.cell? ⟨n8, 1, none⟩ = some (.string t) ∧ w'.cell? ⟨n8, 2, none⟩ = some (.string u)) (ds := [10]) #[false, false, false, false, false, false, false, false, false, false, false] (by kernel_rfl) rfl rfl ⟨(blk_cell (HS.out.blk 0 rfl) 0).trans rfl, (blk_cell (HS.out.blk 2 rfl) 0).trans rfl, (blk_cell (HS.out.blk 2 rfl) 1).trans rfl, (blk_cell (HS.out.blk 2 rfl) 2).trans rfl⟩ (fun hHeld => ?_)
  have HS11 := Aside0.mk (HS.out.drew)
  clear HS
  generalize W8.drew = w3 at HS11 hHeld  ⊢
  refine pure_ (i := 0) (N := (some 6)) (v := ?_) (a' := ?_) #[true, false, false, false, false, false, false, false, false, false, false] rfl rfl (by kernel_rfl) (fun _ _ _ h => h) (Or.inl ⟨by rfl, ?_⟩) ?_ ?_
  rotate_left
  · intro w'
    go_simp
    with_reducible rfl
  rotate_left
  · simp only [Act.put, List.setIfInBounds_toArray, List.set_cons_zero, List.set_cons_succ, i64_w, i32_w]
    rfl
  refine pure_ (i := 1) (N := (some 7)) (v := ?_) (a' := ?_) #[true, true, false, false, false, false, false, false, false, false, false] rfl rfl (by kernel_rfl) (fun _ _ _ h => h) (Or.inl ⟨by rfl, ?_⟩) ?_ ?_
  rotate_left
  · intro w'
    go_simp
    with_reducible rfl
  rotate_left
  · simp only [Act.put, List.setIfInBounds_toArray, List.set_cons_zero, List.set_cons_succ, i64_w, i32_w]
    rfl
  refine pure_ (i := 2) (N := (some 8)) (v := ?_) (a' := ?_) #[true, true, true, false, false, false, false, false, false, false, false] rfl rfl (by kernel_rfl) (fun _ _ _ h => h) (Or.inl ⟨by rfl, ?_⟩) ?_ ?_
  rotate_left
  · intro w'
    go_simp
    with_reducible rfl
  rotate_left
  · simp only [Act.put, List.setIfInBounds_toArray, List.set_cons_zero, List.set_cons_succ, i64_w, i32_w]
    rfl
  refine pure_ (i := 5) (N := (some 11)) (v := ?_) (a' := ?_) #[true, true, true, false, false, true, false, false, false, false, false] rfl rfl (by kernel_rfl) (fun _ _ _ h => h) (Or.inl ⟨by rfl, ?_⟩) ?_ ?_
  rotate_left
  · intro w'
    go_simp
    with_reducible rfl
  rotate_left
  · simp only [Act.put, List.setIfInBounds_toArray, List.set_cons_zero, List.set_cons_succ, i64_w, i32_w]
    rfl
  refine take_ (i := 3) (N := (some 9)) (v := ?_) (a' := ?_) #[true, true, true, true, false, true, false, false, false, false, false] rfl rfl (by kernel_rfl) (fun _ _ _ h => h) (Or.inl ⟨by rfl, ?_⟩) hHeld ?_ ?_
  rotate_left
  · rintro w' ⟨s0, s1, s2, s3⟩
    go_simp
    with_reducible rfl
  rotate_left
  · simp only [Act.put, List.setIfInBounds_toArray, List.set_cons_zero, List.set_cons_succ, i64_w, i32_w]
    rfl
  refine take_ (i := 4) (N := (some 10)) (v := ?_) (a' := ?_) #[true, true, true, true, true, true, false, false, false, false, false] rfl rfl (by kernel_rfl) (fun _ _ _ h => h) (Or.inl ⟨by rfl, ?_⟩) hHeld ?_ ?_
  rotate_left
  · rintro w' ⟨s0, s1, s2, s3⟩
    go_simp
    with_reducible rfl
  rotate_left
  · simp only [Act.put, List.setIfInBounds_toArray, List.set_cons_zero, List.set_cons_succ, i64_w, i32_w]
    rfl
  refine pure_ (i := 6) (N := (some 12)) (v := ?_) (a' := ?_) #[true, true, true, true, true, true, true, false, false, false, false] rfl rfl (by kernel_rfl) (fun _ _ _ h => h) (Or.inl ⟨by rfl, ?_⟩) ?_ ?_
  rotate_left
  · intro w'
    go_simp
    with_reducible rfl
  rotate_left
  · simp only [Act.put, List.setIfInBounds_toArray, List.set_cons_zero, List.set_cons_succ, i64_w, i32_w]
    rfl
  refine one_ (i := 7) (N := (some 13)) #[true, true, true, true, true, true, true, true, false, false, false] rfl rfl (by kernel_rfl) (by decide) (fun K_ hK => ?_)
  obtain ⟨vb, hvb⟩ : ∃ v : Nat, w3.heap.size = v := ⟨_, rfl⟩
  refine made_ (v := .slice (some ⟨w3.heap.size, 0, none⟩) 1 1) (w1 := w3.alloc (.cells #[.int .i64 k, .string t, .string u, .int .i64 m] 97)) (by rfl) rfl (by go_simp) ?_
  have HS12 := Aside0.mk (HS11.out.alloc #[.int .i64 k, .string t, .string u, .int .i64 m] 97 hvb)
  clear HS11
  rw [hvb]
  clear hvb
  clear hHeld
  refine hK.out _ _ ⟨(blk_cell (HS12.out.blk 0 rfl) 0).trans rfl, (blk_cell (HS12.out.blk 2 rfl) 0).trans rfl, (blk_cell (HS12.out.blk 2 rfl) 1).trans rfl, (blk_cell (HS12.out.blk 2 rfl) 2).trans rfl⟩ (fun hHeld => ?_)
  clear hK K_
  generalize w3.alloc (.cells #[.int .i64 k, .string t, .string u, .int .i64 m] 97) = w4 at HS12 hHeld  ⊢
  refine norm_ (a' := ?_) ?_ ?_
  rotate_left
  · show Act.put _ (some 13) _ = _
    simp only [Act.put, List.setIfInBounds_toArray, List.set_cons_zero, List.set_cons_succ, i64_w, i32_w]
    rfl
  refine one_ (i := 8) (N := (some 14)) #[true, true, true, true, true, true, true, true, true, false, false] rfl rfl (by kernel_rfl) (by decide) (fun K_ hK => ?_)
  obtain ⟨g_, c_, w5, hrun, hrow, hgrow, hown⟩ := appendX wntI (l := l) (v := .slice A n c) ⟨⟨k, t, u⟩, m⟩ vb _ _ (HS12.out.rowX 1 rfl) (HS12.out.blk 3 rfl) rfl HN.out
  refine appended_ (.tmp 9) (.tmp 13) 91 91 (by rfl) rfl rfl (.slice A n c) (.slice (some ⟨vb, 0, none⟩) 1 1) (by rfl) (by rfl) hrun ?_
  clear hrun
  have HS13 := Aside0.mk (HS12.out.rowTo 1 rfl hrow hgrow hown)
  clear HS12
  clear hrow hgrow hown
  clear hHeld
  refine hK.out _ _ ⟨(blk_cell (HS13.out.blk 0 rfl) 0).trans rfl, (blk_cell (HS13.out.blk 2 rfl) 0).trans rfl, (blk_cell (HS13.out.blk 2 rfl) 1).trans rfl, (blk_cell (HS13.out.blk 2 rfl) 2).trans rfl⟩ (fun hHeld => ?_)
  clear hK K_
  refine norm_ (a' := ?_) ?_ ?_
  rotate_left
  · show Act.put _ (some 14) _ = _
    simp only [Act.put, List.setIfInBounds_toArray, List.set_cons_zero, List.set_cons_succ, i64_w, i32_w]
    rfl
  refine pure_ (i := 9) (N := (some 15)) (v := ?_) (a' := ?_) #[true, true, true, true, true, true, true, true, true, true, false] rfl rfl (by kernel_rfl) (fun _ _ _ h => h) (Or.inl ⟨by rfl, ?_⟩) ?_ ?_
  rotate_left
  · intro w'
    go_simp
    with_reducible rfl
  rotate_left
  · simp only [Act.put, List.setIfInBounds_toArray, List.set_cons_zero, List.set_cons_succ, i64_w, i32_w]
    rfl
  refine last_ (i := 10) (N := none) #[true, true, true, true, true, true, true, true, true, true, true] rfl rfl (by kernel_rfl) (by decide) (fun K_ hK => ?_)
  have c_0 := (blk_cell (HS13.out.blk 0 rfl) 0).trans rfl
  have c_1 := frozen_of_row _ lb 0 _ _ (HS13.out.blk 0 rfl)
  refine skip_ (w1 := ?_) (by rfl) rfl ?_ ?_
  rotate_left
  · go_simp
    rfl
  refine hK.out _ _ ?_
  clear hK K_ hHeld c_0 c_1
  refine done_ (by kernel_rfl) ?_
  have HS14 := Aside0.mk (HS13.out.putBlk 0 rfl 0 (.slice (some ⟨g_, 0, none⟩) (l.length + 1) c_) rfl)
  clear HS13
  generalize w5.setCell ⟨lb, 0, none⟩ (.slice (some ⟨g_, 0, none⟩) (l.length + 1) c_) = w6 at HS14 ⊢
  go_end0
  rw [← HQ.out]
  have h9 : St w0 F _ ([blkC lb _, rowXC wntE _ _] ++ [_, _]) := HS14.out
  exact ⟨rfl, _, _, (h9.left)⟩
end Go.Proofs.Kb
end
section
namespace Go.Proofs.Kb
open Go Go.RowKit Go.Proofs.Ytnojcnmnkkgkgaa.Q Go.Proofs.YtnojcnmnkkgkgaaW.PrintWords Go.Proofs.YtnojcnmnkkgkgaaW.PrintLast Go.Proofs.YtnojcnmnkkgkgaaW.PrintMore
set_option linter.unusedVariables false
set_option linter.unusedSimpArgs false
set_option maxRecDepth 100000
def LS2 (w0 : World) (F : Nat → Prop) (lb : Nat) (l : List S97) (W : World) : Prop := ∃ A c, St w0 F W [blkC lb (.cells #[.slice A l.length c] 91 (0, 0)), rowXC wntE (.slice A l.length c) l]
theorem add2_calls (w0 w : World) (F : Nat → Prop) (lb : Nat) (l : List S97) (k m : Int) (t u : ByteArray) (h : LS2 w0 F lb l w) (hl : l.length < 1000) :
    Calls Try.prog 61 #[.pointer (some ⟨lb, 0, none⟩), .agg #[.int .i64 k, .string t, .string u], .int .i64 m] w fun E w' => E = .returned (.tuple #[]) ∧ LS2 w0 F lb (l ++ [⟨⟨k, t, u⟩, m⟩]) w' := by
  obtain ⟨A, c, h⟩ := h
  refine (add_calls w0 w F lb A c l k m t u h hl).mono fun E w' ⟨e, A', c', h'⟩ => ⟨e, A', c', ?_⟩
  rw [List.length_append]
  exact h'
def baseW (d g : Int) : List S97 := [⟨⟨1, ⟨#[]⟩, ⟨#[]⟩⟩, d⟩, ⟨⟨2, ⟨#[]⟩, ⟨#[]⟩⟩, g⟩]
set_option maxHeartbeats 4000000
theorem base_calls (w0 w : World) (F : Nat → Prop) (d g : Int) (h : St w0 F w []) :
    Calls Try.prog 52 #[.int .i64 d, .int .i64 g] w fun E w' => ∃ lb, E = .returned (.pointer (some ⟨lb, 0, none⟩)) ∧ LS2 w0 F lb (baseW d g) w' := by
  have hu91 := Try.underlying91
  have hu95 := Try.underlying95
  obtain ⟨n0, hn0⟩ : ∃ n, w.heap.size = n := ⟨_, rfl⟩
  have h1 := h.alloc #[] 97 hn0
  obtain ⟨W1, hW1⟩ : ∃ W, w.alloc (.cells #[] 97) = W := ⟨_, rfl⟩
  rw [hW1] at h1
  have hs1 : W1.heap.size = n0 + 1 := by rw [← hW1, ← hn0]; simp
  obtain ⟨lb, hlb⟩ : ∃ n, n0 + 1 = n := ⟨_, rfl⟩
  rw [hlb] at hs1
  have h2 := (h1.alloc #[.slice (some ⟨n0, 0, none⟩) 0 0] 91 hs1)
  have h3 := (h2.as 0 (c := blkC n0 _) rfl (rowXC wntE (.slice (some ⟨n0, 0, none⟩) 0 0) []) (fun hh => rowX_blk (E := wntE) (l := []) hh rfl (by simp [maxLen])) rfl).perm (List.Perm.swap _ _ _)
  obtain ⟨W2, hW2⟩ : ∃ W, W1.alloc (.cells #[.slice (some ⟨n0, 0, none⟩) 0 0] 91) = W := ⟨_, rfl⟩
  rw [hW2] at h3
  have HS := Aside0.mk (show LS2 w0 F lb [] W2 from ⟨_, _, h3⟩)
  clear h h1 h2 h3
  have G1 : True := trivial
  go_enter Try.func52, Try.ntmps52
  go_wp2_with (first
    | (clear G1; go_at_call 61; refine (add2_calls _ _ _ _ _ _ _ _ _ HS.out (by simp)).mono ?_; rintro E w3 ⟨rfl, h⟩; have HS1 := Aside0.mk h; clear h HS)
    | (go_at_call 61; refine (add2_calls _ _ _ _ _ _ _ _ _ HS1.out (by simp [baseW])).mono ?_; rintro E w4 ⟨rfl, h⟩; have HS2 := Aside0.mk h; clear h HS1))
  go_ret
  exact ⟨_, rfl, HS2.out⟩
theorem table_calls (w0 w : World) (F : Nat → Prop) (lb : Nat) (l : List S97) (t : ByteArray) (m : Int) (h : LS2 w0 F lb l w) (hl : l.length < 1000) :
    Calls Try.prog 53 #[.pointer (some ⟨lb, 0, none⟩), .string t, .int .i64 m] w fun E w' => E = .returned (.tuple #[]) ∧ LS2 w0 F lb (l ++ [⟨⟨3, t, ⟨#[]⟩⟩, m⟩]) w' := by
  have HS := Aside0.mk h
  have hu95 := Try.underlying95
  clear h
  go_enter Try.func53, Try.ntmps53
  go_wp2_with (go_at_call 61; refine (add2_calls _ _ _ _ _ _ _ _ _ HS.out hl).mono ?_; rintro E w3 ⟨rfl, h⟩; have HS1 := Aside0.mk h; clear h HS)
  go_end0
  exact ⟨rfl, HS1.out⟩
def planW (t : ByteArray) (m : Int) : List S97 := [⟨⟨1, ⟨#[]⟩, ⟨#[]⟩⟩, 4⟩, ⟨⟨2, ⟨#[]⟩, ⟨#[]⟩⟩, 3⟩, ⟨⟨3, t, ⟨#[]⟩⟩, m⟩]
theorem planReg_calls (w : World) (t : ByteArray) :
    Calls Try.prog 25 #[.string t] w fun E w' => ∃ A c, E = .returned (.slice A 3 c) ∧ RowX wntE w' (.slice A 3 c) (planW t 4) ∧ Below w.heap.size w w' ∧ ∀ b ∈ bl (.slice A 3 c), w.heap.size ≤ b := by
  have hu91 := Try.underlying91
  have HS0 := Aside0.mk (St.nil0 w NoF)
  go_enter Try.func25, Try.ntmps25
  go_wp2_with (first
    | (go_at_call 52; refine (base_calls w _ NoF 4 3 HS0.out).mono ?_; rintro E w1 ⟨lb, rfl, h⟩; have HS1 := Aside0.mk h; clear h HS0)
    | (go_at_call 53; refine (table_calls w _ NoF _ _ t 4 HS1.out (by simp [baseW])).mono ?_; rintro E w2 ⟨rfl, A, c, h⟩; have c0 : w2.cell? ⟨lb, 0, none⟩ = some (.slice A 3 c) := ((blk_cell (h.blk 0 rfl) 0).trans rfl); have pl := lt_of_some (h.blk 0 rfl); have HS2 := Aside0.mk h; clear h HS1))
  go_ret
  have h := HS2.out
  exact ⟨A, c, rfl, h.rowX 1 rfl, keep_below h.keep, fun b hb => (h.own b (by rw [mem_fpc]; exact ⟨_, List.mem_cons_of_mem _ List.mem_cons_self, hb⟩)).resolve_left (fun h => h)⟩
theorem planMark_calls (w : World) (t : ByteArray) :
    Calls Try.prog 29 #[.string t] w fun E w' => ∃ A c, E = .returned (.slice A 3 c) ∧ RowX wntE w' (.slice A 3 c) (planW t 3) ∧ Below w.heap.size w w' ∧ ∀ b ∈ bl (.slice A 3 c), w.heap.size ≤ b := by
  have hu91 := Try.underlying91
  have HS0 := Aside0.mk (St.nil0 w NoF)
  go_enter Try.func29, Try.ntmps29
  go_wp2_with (first
    | (go_at_call 52; refine (base_calls w _ NoF 4 3 HS0.out).mono ?_; rintro E w1 ⟨lb, rfl, h⟩; have HS1 := Aside0.mk h; clear h HS0)
    | (go_at_call 53; refine (table_calls w _ NoF _ _ t 3 HS1.out (by simp [baseW])).mono ?_; rintro E w2 ⟨rfl, A, c, h⟩; have c0 : w2.cell? ⟨lb, 0, none⟩ = some (.slice A 3 c) := ((blk_cell (h.blk 0 rfl) 0).trans rfl); have pl := lt_of_some (h.blk 0 rfl); have HS2 := Aside0.mk h; clear h HS1))
  go_ret
  have h := HS2.out
  exact ⟨A, c, rfl, h.rowX 1 rfl, keep_below h.keep, fun b hb => (h.own b (by rw [mem_fpc]; exact ⟨_, List.mem_cons_of_mem _ List.mem_cons_self, hb⟩)).resolve_left (fun h => h)⟩
end Go.Proofs.Kb
end
section
namespace Go.Proofs.Kb
open Go Go.RowKit Go.Proofs.Ytnojcnmnkkgkgaa.Q Go.Proofs.YtnojcnmnkkgkgaaW.PrintWords Go.Proofs.YtnojcnmnkkgkgaaW.PrintLast Go.Proofs.YtnojcnmnkkgkgaaW.PrintMore
set_option linter.unusedVariables false
set_option linter.unusedSimpArgs false
set_option maxRecDepth 100000
structure JS where
  ph : Int
  af : List S60
  tr : Int
  er : Int
  ans : List Int
  txt : List ByteArray
  held : Int
def JT (w0 : World) (F : Nat → Prop) (jp tp : Nat) (x : SV) (s : JS) (R : List Chunk) (W : World) : Prop :=
  ∃ A c, TL w0 F tp s.ans s.txt s.held (blkC jp (.cells #[.int .i64 x.f0, .string x.f1, .string x.f2, .string x.f3, .int .i64 x.f4, .bool x.f5, .slice x.f6.A x.f6.n x.f6.c, .slice x.f7.A x.f7.n x.f7.c, .slice x.f8.A x.f8.n x.f8.c, .slice x.f9.A x.f9.n x.f9.c, .slice x.f10.A x.f10.n x.f10.c, .int .i64 s.ph, .slice A s.af.length c, .int .i64 s.tr, .int .i64 s.er] 68 (0, 0)) :: rowXC valE (.slice A s.af.length c) s.af :: R) W
theorem TL.putBlk {w0 w : World} {F : Nat → Prop} {tp : Nat} {ans : List Int} {txt : List ByteArray} {held : Int} {R : List Chunk} {b : Nat} {C C' : Array Value} {t : TypeId} (h : TL w0 F tp ans txt held R w) (i : Nat) (hi : R[i]? = some (blkC b (.cells C t (0, 0)))) (j : Nat) (v : Value) (e : C.setIfInBounds j v = C') :
    TL w0 F tp ans txt held (R.set i (blkC b (.cells C' t (0, 0)))) (w.setCell ⟨b, j, none⟩ v) := by
  obtain ⟨av, kv, h⟩ := h
  exact ⟨av, kv, h.putBlk (i + 3) hi j v e⟩
section
variable {w0 w w' : World} {F : Nat → Prop} {jp tp : Nat} {x : SV} {s : JS} {R R' : List Chunk}
theorem JT.below (h : JT w0 F jp tp x s R w) (hb : Below w.heap.size w w') : JT w0 F jp tp x s R w' := by
  obtain ⟨A, c, h⟩ := h
  exact ⟨A, c, h.below hb⟩
theorem JT.drew (h : JT w0 F jp tp x s R w) : JT w0 F jp tp x s R w.drew := by
  obtain ⟨A, c, h⟩ := h
  exact ⟨A, c, h.drew⟩
theorem JT.rest (h : JT w0 F jp tp x s R w) : St w0 F w R := by
  obtain ⟨A, c, h⟩ := h
  exact St.drop (A := [_, _]) h.rest
theorem JT.blk (h : JT w0 F jp tp x s R w) : ∃ A c, w.heap[jp]? = some (.cells #[.int .i64 x.f0, .string x.f1, .string x.f2, .string x.f3, .int .i64 x.f4, .bool x.f5, .slice x.f6.A x.f6.n x.f6.c, .slice x.f7.A x.f7.n x.f7.c, .slice x.f8.A x.f8.n x.f8.c, .slice x.f9.A x.f9.n x.f9.c, .slice x.f10.A x.f10.n x.f10.c, .int .i64 s.ph, .slice A s.af.length c, .int .i64 s.tr, .int .i64 s.er] 68 (0, 0)) := by
  obtain ⟨A, c, h⟩ := h
  exact ⟨A, c, h.rest.blk 0 rfl⟩
theorem JT.sub (h : JT w0 F jp tp x s R w) (f : ∀ cs : List Chunk, St w0 F w (R ++ cs) → St w0 F w' (R' ++ cs)) : JT w0 F jp tp x s R' w' := by
  obtain ⟨A, c, h⟩ := h
  refine ⟨A, c, h.sub fun cs hs => ?_⟩
  have h1 := f ([_, _] ++ cs) (hs.perm (B := R ++ ([_, _] ++ cs)) (by rw [← List.append_assoc]; exact List.Perm.append_right _ (List.perm_append_comm (l₁ := [_, _]) (l₂ := R))))
  exact h1.perm (by rw [← List.append_assoc]; exact List.Perm.append_right _ (List.perm_append_comm (l₁ := R') (l₂ := [_, _])))
def JS.turn (s : JS) (e good bad : Int) : JS := { s with er := e, ph := if e = 0 then good else bad }
set_option maxHeartbeats 4000000
theorem turn_calls (h : JT w0 F jp tp x s R w) (e good bad : Int) :
    Calls Try.prog 54 #[.pointer (some ⟨jp, 0, none⟩), .int .i64 e, .int .i64 good, .int .i64 bad] w fun E w' => E = .returned (.tuple #[]) ∧ JT w0 F jp tp x (s.turn e good bad) R w' := by
  have hu68 := Try.underlying68
  obtain ⟨A, c, h⟩ := h
  have hb := h.rest.blk 0 rfl
  have c11 : w.cell? ⟨jp, 11, none⟩ = some (.int .i64 s.ph) := (blk_cell hb 11).trans rfl
  have c14 : w.cell? ⟨jp, 14, none⟩ = some (.int .i64 s.er) := (blk_cell hb 14).trans rfl
  have pl := lt_of_some hb
  have fz := fun j => frozen_of_row w jp j _ _ hb
  have h1 := (h.putBlk 0 rfl 14 (.int .i64 e) rfl).putBlk 0 rfl 11 (.int .i64 good) rfl
  have HS := Aside0.mk h1
  have HS2 := Aside0.mk (h1.putBlk 0 rfl 11 (.int .i64 bad) rfl)
  clear h h1 hb
  by_cases h0 : e = 0
  · subst h0
    go_enter Try.func54, Try.ntmps54
    go_wp2
    go_end0
    refine ⟨rfl, A, c, ?_⟩
    unfold JS.turn
    rw [if_pos rfl]
    exact HS.out
  · go_enter Try.func54, Try.ntmps54
    go_wp2
    go_end0
    refine ⟨rfl, A, c, ?_⟩
    unfold JS.turn
    rw [if_neg h0]
    exact HS2.out
def JS.failed (s : JS) (p : Int) : JS := if s.tr = 1 then { s with tr := 0, ph := p, er := 34 } else { s with tr := s.tr - 1 }
theorem failed_calls (h : JT w0 F jp tp x s R w) (p : Int) (ht : -9000000000000000000 ≤ s.tr ∧ s.tr ≤ 9223372036854775807) :
    Calls Try.prog 27 #[.pointer (some ⟨jp, 0, none⟩), .int .i64 p] w fun E w' => E = .returned (.tuple #[]) ∧ JT w0 F jp tp x (s.failed p) R w' := by
  have hu68 := Try.underlying68
  obtain ⟨A, c, h⟩ := h
  have hb := h.rest.blk 0 rfl
  have c11 : w.cell? ⟨jp, 11, none⟩ = some (.int .i64 s.ph) := (blk_cell hb 11).trans rfl
  have c13 : w.cell? ⟨jp, 13, none⟩ = some (.int .i64 s.tr) := (blk_cell hb 13).trans rfl
  have c14 : w.cell? ⟨jp, 14, none⟩ = some (.int .i64 s.er) := (blk_cell hb 14).trans rfl
  have pl := lt_of_some hb
  have fz := fun j => frozen_of_row w jp j _ _ hb
  have h1 := h.putBlk 0 rfl 13 (.int .i64 (s.tr - 1)) rfl
  have HS := Aside0.mk h1
  have HS2 := Aside0.mk ((h1.putBlk 0 rfl 11 (.int .i64 p) rfl).putBlk 0 rfl 14 (.int .i64 34) rfl)
  clear h h1 hb
  by_cases h0 : s.tr = 1
  · have h2 : s.tr - 1 = 0 := by omega
    have HS2 := Aside0.mk (h2 ▸ HS2.out)
    go_enter Try.func27, Try.ntmps27
    go_wp2
    go_end0
    refine ⟨rfl, A, c, ?_⟩
    unfold JS.failed
    rw [if_pos h0]
    exact HS2.out
  · have h2 : ¬ (s.tr - 1 = 0) := by omega
    go_enter Try.func27, Try.ntmps27
    go_wp2
    go_end0
    refine ⟨rfl, A, c, ?_⟩
    unfold JS.failed
    rw [if_neg h0]
    exact HS.out
end
end Go.Proofs.Kb
end
section
namespace Go.Proofs.Kb
open Go Go.RowKit Go.Proofs.Ytnojcnmnkkgkgaa.Q Go.Proofs.YtnojcnmnkkgkgaaW.PrintWords Go.Proofs.YtnojcnmnkkgkgaaW.PrintLast Go.Proofs.YtnojcnmnkkgkgaaW.PrintMore
set_option linter.unusedVariables false
set_option linter.unusedSimpArgs false
set_option maxRecDepth 100000
theorem goesM_ {P : Program} {ops : Array Oper} {Q : Exit → Act → World → Prop} {oi : Oper} {N : Option Tmp} {a : Act} {w : World} {K : Act → World → Prop} {f : FuncId} {fn : Func} {as_ : Array Operand} {ts : Array TypeId} (name : String) (t : TypeId) (r : Value) (recv : Operand)
    (hf : P.funcs[f]? = some fn) (hname : (fn.name == "runtime.NumGoroutine") = false) (hb : fn.body.isSome = true) (args args' : Array Value)
    (hw : Region.wanted oi (yielded ops a.tmps) = true) (hN : oi.dst = N) (hop : oi.op = .call { callee := .invoke recv name, args := as_, argTypes := ts }) (hrecv : a.eval recv = .iface t r) (hargs : as_.map a.eval = args) (hargs' : #[r] ++ args = args')
    (hm : (method (P.types.size + Made.depth) t r name).run P w = .ok (f, r) w)
    (h : Calls P f args' w fun e w' => ∃ v, e = .returned v ∧ K (a.put N v) w') : if Region.wanted oi (yielded ops a.tmps) = true then Oper.wp P oi a w K Q else K (a.put N undef) w := by
  refine call_ f args' hw hN ?_ h
  have he := enters_ hf hname hb args' w
  have hr' : (method (P.types.size + Made.depth) t r name).run P w = .ok (f, r) w := hm
  have e1 : (callMethod (.iface t r) name args).run P w = .ok (.enter f args') w := by
    unfold callMethod
    rw [← hargs']
    rw [← hargs'] at he
    simp [hm, he]
  unfold execOp
  simp only [hop, resolve, hargs, hrecv]
  have e2 : (invoke (.fn (.method name) #[]) (#[.iface t r] ++ args)).run P w = .ok (.enter f args') w := by
    unfold invoke
    have e3 : (#[Value.iface t r] ++ args)[0]? = some (.iface t r) := by cases args; simp
    have e4 : (#[Value.iface t r] ++ args).extract 1 (#[Value.iface t r] ++ args).size = args := by cases args; simp [List.extract]
    simp only [e3, e4]
    exact e1
  exact e2
theorem mn_Try (a : Addr) (w : World) : (method 220 34 (.pointer (some a)) "Try").run Try.prog w = .ok (36, .pointer (some a)) w := by kernel_rfl
theorem mn_Free (a : Addr) (w : World) : (method 220 34 (.pointer (some a)) "Free").run Try.prog w = .ok (40, .pointer (some a)) w := by kernel_rfl
theorem m_Register (a : Addr) (w : World) : (method (Try.prog.types.size + Made.depth) 34 (.pointer (some a)) "Register").run Try.prog w = .ok (39, .pointer (some a)) w := by kernel_rfl
theorem na_Register (a : Addr) (w : World) : (nilAhead 220 34 (.pointer (some a)) "Register").run Try.prog w = .ok (some false) w := by kernel_rfl
theorem mn_Elder (a : Addr) (w : World) : (method 220 34 (.pointer (some a)) "Elder").run Try.prog w = .ok (41, .pointer (some a)) w := by kernel_rfl
theorem mn_Token (a : Addr) (w : World) : (method 220 34 (.pointer (some a)) "Token").run Try.prog w = .ok (42, .pointer (some a)) w := by kernel_rfl
theorem m_Batch (a : Addr) (w : World) : (method (Try.prog.types.size + Made.depth) 34 (.pointer (some a)) "Batch").run Try.prog w = .ok (43, .pointer (some a)) w := by kernel_rfl
theorem na_Batch (a : Addr) (w : World) : (nilAhead 220 34 (.pointer (some a)) "Batch").run Try.prog w = .ok (some false) w := by kernel_rfl
theorem m_Settle (a : Addr) (w : World) : (method (Try.prog.types.size + Made.depth) 34 (.pointer (some a)) "Settle").run Try.prog w = .ok (44, .pointer (some a)) w := by kernel_rfl
theorem na_Settle (a : Addr) (w : World) : (nilAhead 220 34 (.pointer (some a)) "Settle").run Try.prog w = .ok (some false) w := by kernel_rfl
theorem m_Abandon (a : Addr) (w : World) : (method (Try.prog.types.size + Made.depth) 34 (.pointer (some a)) "Abandon").run Try.prog w = .ok (45, .pointer (some a)) w := by kernel_rfl
theorem na_Abandon (a : Addr) (w : World) : (nilAhead 220 34 (.pointer (some a)) "Abandon").run Try.prog w = .ok (some false) w := by kernel_rfl
end Go.Proofs.Kb
end
section
namespace Go.Proofs.Kb
open Go Go.RowKit Go.Proofs.Ytnojcnmnkkgkgaa.Q Go.Proofs.YtnojcnmnkkgkgaaW.PrintWords Go.Proofs.YtnojcnmnkkgkgaaW.PrintLast Go.Proofs.YtnojcnmnkkgkgaaW.PrintMore
set_option linter.unusedVariables false
set_option linter.unusedSimpArgs false
set_option maxRecDepth 100000
section
variable {w0 w w' : World} {F : Nat → Prop} {jp tp : Nat} {x : SV} {s : JS} {R R' : List Chunk}
theorem JT.stmt (h : JT w0 F jp tp x s R w) : w.cell? ⟨jp, 0, none⟩ = some (.int .i64 x.f0) ∧ w.cell? ⟨jp, 1, none⟩ = some (.string x.f1) ∧ w.cell? ⟨jp, 2, none⟩ = some (.string x.f2) ∧ w.cell? ⟨jp, 3, none⟩ = some (.string x.f3) ∧ w.cell? ⟨jp, 4, none⟩ = some (.int .i64 x.f4) ∧ w.cell? ⟨jp, 5, none⟩ = some (.bool x.f5) ∧ w.cell? ⟨jp, 6, none⟩ = some (.slice x.f6.A x.f6.n x.f6.c) ∧ w.cell? ⟨jp, 7, none⟩ = some (.slice x.f7.A x.f7.n x.f7.c) ∧ w.cell? ⟨jp, 8, none⟩ = some (.slice x.f8.A x.f8.n x.f8.c) ∧ w.cell? ⟨jp, 9, none⟩ = some (.slice x.f9.A x.f9.n x.f9.c) ∧ w.cell? ⟨jp, 10, none⟩ = some (.slice x.f10.A x.f10.n x.f10.c) := by
  obtain ⟨A, c, hb⟩ := h.blk
  exact ⟨(blk_cell hb 0).trans rfl, (blk_cell hb 1).trans rfl, (blk_cell hb 2).trans rfl, (blk_cell hb 3).trans rfl, (blk_cell hb 4).trans rfl, (blk_cell hb 5).trans rfl, (blk_cell hb 6).trans rfl, (blk_cell hb 7).trans rfl, (blk_cell hb 8).trans rfl, (blk_cell hb 9).trans rfl, (blk_cell hb 10).trans rfl⟩
def JS.said (s : JS) (t : ByteArray) : JS := { s with ans := s.ans.tail, txt := s.txt ++ [t] }
theorem settleJ (h : JT w0 F jp tp x s R w) (hn : s.txt.length < 999999) (hx : x.f2.size ≤ 1000) : Calls Try.prog 44 #[.pointer (some ⟨tp, 0, none⟩), .string x.f2] w fun E w' => E = .returned (.int .i64 (errN (s.ans.headD 0))) ∧ JT w0 F jp tp x (s.said ((⟨#[115, 101, 116, 116, 108, 101, 32]⟩ : ByteArray) ++ x.f2)) R w' := by
  obtain ⟨A, c, h⟩ := h
  exact (settle_calls h hn x.f2 hx).mono fun E w' ⟨e, h'⟩ => ⟨e, A, c, h'⟩
theorem abandonJ (h : JT w0 F jp tp x s R w) (hn : s.txt.length < 999999) (hx : x.f2.size ≤ 1000) : Calls Try.prog 45 #[.pointer (some ⟨tp, 0, none⟩), .string x.f2] w fun E w' => E = .returned (.bool (!(bits .and .i64 (s.ans.headD 0) 3 == 3))) ∧ JT w0 F jp tp x (s.said ((⟨#[97, 98, 97, 110, 100, 111, 110, 32]⟩ : ByteArray) ++ x.f2)) R w' := by
  obtain ⟨A, c, h⟩ := h
  exact (abandon_calls h hn x.f2 hx).mono fun E w' ⟨e, h'⟩ => ⟨e, A, c, h'⟩
theorem registerJ (h : JT w0 F jp tp x s R w) (hn : s.txt.length < 999999) (hx : x.f2.size ≤ 1000) : Calls Try.prog 39 #[.pointer (some ⟨tp, 0, none⟩), .agg #[.int .i64 x.f0, .string x.f1, .string x.f2, .string x.f3, .int .i64 x.f4, .bool x.f5, .slice x.f6.A x.f6.n x.f6.c, .slice x.f7.A x.f7.n x.f7.c, .slice x.f8.A x.f8.n x.f8.c, .slice x.f9.A x.f9.n x.f9.c, .slice x.f10.A x.f10.n x.f10.c]] w fun E w' => E = .returned (.int .i64 (errN (s.ans.headD 0))) ∧ JT w0 F jp tp x (s.said ((⟨#[114, 101, 103, 105, 115, 116, 101, 114, 32]⟩ : ByteArray) ++ x.f2)) R w' := by
  obtain ⟨A, c, h⟩ := h
  exact (register_calls h hn x hx).mono fun E w' ⟨e, h'⟩ => ⟨e, A, c, h'⟩
theorem elderJ (h : JT w0 F jp tp x s R w) (hn : s.txt.length < 999999) : Calls Try.prog 41 #[.pointer (some ⟨tp, 0, none⟩)] w fun E w' => E = .returned (.bool (bits .and .i64 (s.ans.headD 0) 1 == 1)) ∧ JT w0 F jp tp x (s.said (⟨#[101, 108, 100, 101, 114]⟩ : ByteArray)) R w' := by
  obtain ⟨A, c, h⟩ := h
  exact (elder_calls h hn).mono fun E w' ⟨e, h'⟩ => ⟨e, A, c, h'⟩
theorem tokenJ (h : JT w0 F jp tp x s R w) (hn : s.txt.length < 999999) : Calls Try.prog 42 #[.pointer (some ⟨tp, 0, none⟩)] w fun E w' => E = .returned (.bool (bits .and .i64 (s.ans.headD 0) 1 == 1)) ∧ JT w0 F jp tp x (s.said (⟨#[116, 111, 107, 101, 110]⟩ : ByteArray)) R w' := by
  obtain ⟨A, c, h⟩ := h
  exact (token_calls h hn).mono fun E w' ⟨e, h'⟩ => ⟨e, A, c, h'⟩
def JS.register (s : JS) (x : SV) : JS := (s.said ((⟨#[114, 101, 103, 105, 115, 116, 101, 114, 32]⟩ : ByteArray) ++ x.f2)).turn (errN (s.ans.headD 0)) 2 6
def JS.settle (s : JS) (x : SV) : JS := (s.said ((⟨#[115, 101, 116, 116, 108, 101, 32]⟩ : ByteArray) ++ x.f2)).turn (errN (s.ans.headD 0)) 6 5
def JS.abandon (s : JS) (x : SV) : JS := if (bits .and .i64 (s.ans.headD 0) 3 == 3) = true then s.said ((⟨#[97, 98, 97, 110, 100, 111, 110, 32]⟩ : ByteArray) ++ x.f2) else { s.said ((⟨#[97, 98, 97, 110, 100, 111, 110, 32]⟩ : ByteArray) ++ x.f2) with ph := 6 }
set_option maxHeartbeats 8000000
theorem register26_calls (h : JT w0 F jp tp x s R w) (hn : s.txt.length < 999999) (hx : x.f2.size ≤ 1000) :
    Calls Try.prog 26 #[.pointer (some ⟨jp, 0, none⟩), .iface 34 (.pointer (some ⟨tp, 0, none⟩))] w fun E w' => E = .returned (.tuple #[]) ∧ JT w0 F jp tp x (s.register x) R w' := by
  obtain ⟨Q, hQ⟩ : ∃ Q, (fun E w' => E = Ending.returned (.tuple #[]) ∧ JT w0 F jp tp x (s.register x) R w') = Q := ⟨_, rfl⟩
  have HQ := Aside0.mk hQ
  rw [hQ]
  have hu68 := Try.underlying68
  have hu28 := Try.underlying28
  have hna := na_Register
  have HS := Aside0.mk h
  have HA := Aside0.mk hn
  have HX := Aside0.mk hx
  clear h hQ
  go_enter Try.func26, Try.ntmps26
  go_wp2
  refine start_ (n := 11) (S := fun w' => w'.cell? ⟨jp, 0, none⟩ = some (.int .i64 x.f0) ∧ w'.cell? ⟨jp, 1, none⟩ = some (.string x.f1) ∧ w'.cell? ⟨jp, 2, none⟩ = some (.string x.f2) ∧ w'.cell? ⟨jp, 3, none⟩ = some (.string x.f3) ∧ w'.cell? ⟨jp, 4, none⟩ = some (.int .i64 x.f4) ∧ w'.cell? ⟨jp, 5, none⟩ = some (.bool x.f5) ∧ w'.cell? ⟨jp, 6, none⟩ = some (.slice x.f6.A x.f6.n x.f6.c) ∧ w'.cell? ⟨jp, 7, none⟩ = some (.slice x.f7.A x.f7.n x.f7.c) ∧ w'.cell? ⟨jp, 8, none⟩ = some (.slice x.f8.A x.f8.n x.f8.c) ∧ w'.cell? ⟨jp, 9, none⟩ = some (.slice x.f9.A x.f9.n x.f9.c) ∧ w'.cell? ⟨jp, 10, none⟩ = some (.slice x.f10.A x.f10.n x.f10.c)) (ds := []) #[false, false, false, false, false, false, false, false, false, false, false] (by kernel_rfl) rfl rfl ⟨HS.out.stmt.1, HS.out.stmt.2.1, HS.out.stmt.2.2.1, HS.out.stmt.2.2.2.1, HS.out.stmt.2.2.2.2.1, HS.out.stmt.2.2.2.2.2.1, HS.out.stmt.2.2.2.2.2.2.1, HS.out.stmt.2.2.2.2.2.2.2.1, HS.out.stmt.2.2.2.2.2.2.2.2.1, HS.out.stmt.2.2.2.2.2.2.2.2.2.1, HS.out.stmt.2.2.2.2.2.2.2.2.2.2⟩ (fun hHeld => ?_)
  have HS11 := Aside0.mk (HS.out.drew)
  clear HS
  generalize w.drew = w11 at HS11 hHeld  ⊢
  refine pure_ (i := 0) (N := (some 4)) (v := ?_) (a' := ?_) #[true, false, false, false, false, false, false, false, false, false, false] rfl rfl (by kernel_rfl) (fun _ _ _ h => h) (Or.inl ⟨by rfl, ?_⟩) ?_ ?_
  rotate_left
  · intro w'
    go_simp
    with_reducible rfl
  rotate_left
  · simp only [Act.put, List.setIfInBounds_toArray, List.set_cons_zero, List.set_cons_succ, i64_w, i32_w]
    rfl
  refine pure_ (i := 1) (N := (some 5)) (v := ?_) (a' := ?_) #[true, true, false, false, false, false, false, false, false, false, false] rfl rfl (by kernel_rfl) (fun _ _ _ h => h) (Or.inl ⟨by rfl, ?_⟩) ?_ ?_
  rotate_left
  · intro w'
    go_simp
    with_reducible rfl
  rotate_left
  · simp only [Act.put, List.setIfInBounds_toArray, List.set_cons_zero, List.set_cons_succ, i64_w, i32_w]
    rfl
  refine pure_ (i := 2) (N := (some 6)) (v := ?_) (a' := ?_) #[true, true, true, false, false, false, false, false, false, false, false] rfl rfl (by kernel_rfl) (fun _ _ _ h => h) (Or.inl ⟨by rfl, ?_⟩) ?_ ?_
  rotate_left
  · intro w'
    go_simp
    with_reducible rfl
  rotate_left
  · simp only [Act.put, List.setIfInBounds_toArray, List.set_cons_zero, List.set_cons_succ, i64_w, i32_w]
    rfl
  refine pure_ (i := 3) (N := (some 7)) (v := ?_) (a' := ?_) #[true, true, true, true, false, false, false, false, false, false, false] rfl rfl (by kernel_rfl) (fun _ _ _ h => h) (Or.inl ⟨by rfl, ?_⟩) ?_ ?_
  rotate_left
  · intro w'
    go_simp
    with_reducible rfl
  rotate_left
  · simp only [Act.put, List.setIfInBounds_toArray, List.set_cons_zero, List.set_cons_succ, i64_w, i32_w]
    rfl
  refine pure_ (i := 4) (N := (some 8)) (v := ?_) (a' := ?_) #[true, true, true, true, true, false, false, false, false, false, false] rfl rfl (by kernel_rfl) (fun _ _ _ h => h) (Or.inl ⟨by rfl, ?_⟩) ?_ ?_
  rotate_left
  · intro w'
    go_simp
    with_reducible rfl
  rotate_left
  · simp only [Act.put, List.setIfInBounds_toArray, List.set_cons_zero, List.set_cons_succ, i64_w, i32_w]
    rfl
  refine pure_ (i := 6) (N := (some 10)) (v := ?_) (a' := ?_) #[true, true, true, true, true, false, true, false, false, false, false] rfl rfl (by kernel_rfl) (fun _ _ _ h => h) (Or.inl ⟨by rfl, ?_⟩) ?_ ?_
  rotate_left
  · intro w'
    go_simp
    with_reducible rfl
  rotate_left
  · simp only [Act.put, List.setIfInBounds_toArray, List.set_cons_zero, List.set_cons_succ, i64_w, i32_w]
    rfl
  refine pure_ (i := 7) (N := (some 11)) (v := ?_) (a' := ?_) #[true, true, true, true, true, false, true, true, false, false, false] rfl rfl (by kernel_rfl) (fun _ _ _ h => h) (Or.inl ⟨by rfl, ?_⟩) ?_ ?_
  rotate_left
  · intro w'
    go_simp
    with_reducible rfl
  rotate_left
  · simp only [Act.put, List.setIfInBounds_toArray, List.set_cons_zero, List.set_cons_succ, i64_w, i32_w]
    rfl
  refine pure_ (i := 8) (N := (some 12)) (v := ?_) (a' := ?_) #[true, true, true, true, true, false, true, true, true, false, false] rfl rfl (by kernel_rfl) (fun _ _ _ h => h) (Or.inl ⟨by rfl, ?_⟩) ?_ ?_
  rotate_left
  · intro w'
    go_simp
    with_reducible rfl
  rotate_left
  · simp only [Act.put, List.setIfInBounds_toArray, List.set_cons_zero, List.set_cons_succ, i64_w, i32_w]
    rfl
  refine take_ (i := 5) (N := (some 9)) (v := ?_) (a' := ?_) #[true, true, true, true, true, true, true, true, true, false, false] rfl rfl (by kernel_rfl) (fun _ _ _ h => h) (Or.inl ⟨by rfl, ?_⟩) hHeld ?_ ?_
  rotate_left
  · rintro w' ⟨s0, s1, s2, s3, s4, s5, s6, s7, s8, s9, s10⟩
    go_simp
    with_reducible rfl
  rotate_left
  · simp only [Act.put, List.setIfInBounds_toArray, List.set_cons_zero, List.set_cons_succ, i64_w, i32_w]
    rfl
  refine one_ (i := 9) (N := (some 13)) #[true, true, true, true, true, true, true, true, true, true, false] rfl rfl (by kernel_rfl) (by decide) (fun K_ hK => ?_)
  refine goesM_ "Register" 34 (.pointer (some ⟨tp, 0, none⟩)) (.tmp 12) Try.func39 (by kernel_rfl) rfl #[.agg #[.int .i64 x.f0, .string x.f1, .string x.f2, .string x.f3, .int .i64 x.f4, .bool x.f5, .slice x.f6.A x.f6.n x.f6.c, .slice x.f7.A x.f7.n x.f7.c, .slice x.f8.A x.f8.n x.f8.c, .slice x.f9.A x.f9.n x.f9.c, .slice x.f10.A x.f10.n x.f10.c]] #[.pointer (some ⟨tp, 0, none⟩), .agg #[.int .i64 x.f0, .string x.f1, .string x.f2, .string x.f3, .int .i64 x.f4, .bool x.f5, .slice x.f6.A x.f6.n x.f6.c, .slice x.f7.A x.f7.n x.f7.c, .slice x.f8.A x.f8.n x.f8.c, .slice x.f9.A x.f9.n x.f9.c, .slice x.f10.A x.f10.n x.f10.c]] (by rfl) rfl rfl rfl (by (try simp only [List.map_toArray, List.map_cons, List.map_nil]); first | done | rfl) (by rfl) (m_Register _ _) ?_
  refine (registerJ HS11.out HA.out HX.out).mono ?_
  rintro E w12 ⟨rfl, h⟩
  have HS12 := Aside0.mk (h)
  clear HS11
  clear h
  refine ⟨_, rfl, ?_⟩
  clear hHeld
  refine hK.out _ _ ⟨HS12.out.stmt.1, HS12.out.stmt.2.1, HS12.out.stmt.2.2.1, HS12.out.stmt.2.2.2.1, HS12.out.stmt.2.2.2.2.1, HS12.out.stmt.2.2.2.2.2.1, HS12.out.stmt.2.2.2.2.2.2.1, HS12.out.stmt.2.2.2.2.2.2.2.1, HS12.out.stmt.2.2.2.2.2.2.2.2.1, HS12.out.stmt.2.2.2.2.2.2.2.2.2.1, HS12.out.stmt.2.2.2.2.2.2.2.2.2.2⟩ (fun hHeld => ?_)
  clear hK K_
  refine norm_ (a' := ?_) ?_ ?_
  rotate_left
  · show Act.put _ (some 13) _ = _
    simp only [Act.put, List.setIfInBounds_toArray, List.set_cons_zero, List.set_cons_succ, i64_w, i32_w]
    rfl
  refine one_ (i := 10) (N := (some 14)) #[true, true, true, true, true, true, true, true, true, true, true] rfl rfl (by kernel_rfl) (by decide) (fun K_ hK => ?_)
  refine goes_ Try.func54 (by kernel_rfl) rfl #[.pointer (some ⟨jp, 0, none⟩), .int .i64 (errN (s.ans.headD 0)), .int .i64 2, .int .i64 6] (by rfl) rfl rfl (by (try simp only [List.map_toArray, List.map_cons, List.map_nil]); first | done | rfl) ?_
  refine (turn_calls HS12.out _ 2 6).mono ?_
  rintro E w13 ⟨rfl, h⟩
  have HS13 := Aside0.mk (h)
  clear HS12
  clear h
  refine ⟨_, rfl, ?_⟩
  clear hHeld
  refine hK.out _ _ ⟨HS13.out.stmt.1, HS13.out.stmt.2.1, HS13.out.stmt.2.2.1, HS13.out.stmt.2.2.2.1, HS13.out.stmt.2.2.2.2.1, HS13.out.stmt.2.2.2.2.2.1, HS13.out.stmt.2.2.2.2.2.2.1, HS13.out.stmt.2.2.2.2.2.2.2.1, HS13.out.stmt.2.2.2.2.2.2.2.2.1, HS13.out.stmt.2.2.2.2.2.2.2.2.2.1, HS13.out.stmt.2.2.2.2.2.2.2.2.2.2⟩ (fun hHeld => ?_)
  clear hK K_
  refine norm_ (a' := ?_) ?_ ?_
  rotate_left
  · show Act.put _ (some 14) _ = _
    simp only [Act.put, List.setIfInBounds_toArray, List.set_cons_zero, List.set_cons_succ, i64_w, i32_w]
    rfl
  refine done_ (by kernel_rfl) ?_
  go_end0
  rw [← HQ.out]
  exact ⟨rfl, HS13.out⟩
theorem settle26_calls (h : JT w0 F jp tp x s R w) (hn : s.txt.length < 999999) (hx : x.f2.size ≤ 1000) :
    Calls Try.prog 30 #[.pointer (some ⟨jp, 0, none⟩), .iface 34 (.pointer (some ⟨tp, 0, none⟩))] w fun E w' => E = .returned (.tuple #[]) ∧ JT w0 F jp tp x (s.settle x) R w' := by
  obtain ⟨Q, hQ⟩ : ∃ Q, (fun E w' => E = Ending.returned (.tuple #[]) ∧ JT w0 F jp tp x (s.settle x) R w') = Q := ⟨_, rfl⟩
  have HQ := Aside0.mk hQ
  rw [hQ]
  have hu68 := Try.underlying68
  have hu28 := Try.underlying28
  have hna := na_Settle
  have HS := Aside0.mk h
  have HA := Aside0.mk hn
  have HX := Aside0.mk hx
  clear h hQ
  go_enter Try.func30, Try.ntmps30
  go_wp2
  refine start_ (n := 12) (S := fun w' => w'.cell? ⟨jp, 2, none⟩ = some (.string x.f2)) (ds := []) #[false, false, false, false, false, false, false, false, false, false, false, false] (by kernel_rfl) rfl rfl HS.out.stmt.2.2.1 (fun hHeld => ?_)
  have HS11 := Aside0.mk (HS.out.drew)
  clear HS
  generalize w.drew = w11 at HS11 hHeld  ⊢
  refine pure_ (i := 0) (N := (some 4)) (v := ?_) (a' := ?_) #[true, false, false, false, false, false, false, false, false, false, false, false] rfl rfl (by kernel_rfl) (fun _ _ _ h => h) (Or.inl ⟨by rfl, ?_⟩) ?_ ?_
  rotate_left
  · intro w'
    go_simp
    with_reducible rfl
  rotate_left
  · simp only [Act.put, List.setIfInBounds_toArray, List.set_cons_zero, List.set_cons_succ, i64_w, i32_w]
    rfl
  refine pure_ (i := 1) (N := (some 5)) (v := ?_) (a' := ?_) #[true, true, false, false, false, false, false, false, false, false, false, false] rfl rfl (by kernel_rfl) (fun _ _ _ h => h) (Or.inl ⟨by rfl, ?_⟩) ?_ ?_
  rotate_left
  · intro w'
    go_simp
    with_reducible rfl
  rotate_left
  · simp only [Act.put, List.setIfInBounds_toArray, List.set_cons_zero, List.set_cons_succ, i64_w, i32_w]
    rfl
  refine pure_ (i := 2) (N := (some 6)) (v := ?_) (a' := ?_) #[true, true, true, false, false, false, false, false, false, false, false, false] rfl rfl (by kernel_rfl) (fun _ _ _ h => h) (Or.inl ⟨by rfl, ?_⟩) ?_ ?_
  rotate_left
  · intro w'
    go_simp
    with_reducible rfl
  rotate_left
  · simp only [Act.put, List.setIfInBounds_toArray, List.set_cons_zero, List.set_cons_succ, i64_w, i32_w]
    rfl
  refine pure_ (i := 3) (N := (some 7)) (v := ?_) (a' := ?_) #[true, true, true, true, false, false, false, false, false, false, false, false] rfl rfl (by kernel_rfl) (fun _ _ _ h => h) (Or.inl ⟨by rfl, ?_⟩) ?_ ?_
  rotate_left
  · intro w'
    go_simp
    with_reducible rfl
  rotate_left
  · simp only [Act.put, List.setIfInBounds_toArray, List.set_cons_zero, List.set_cons_succ, i64_w, i32_w]
    rfl
  refine pure_ (i := 4) (N := (some 8)) (v := ?_) (a' := ?_) #[true, true, true, true, true, false, false, false, false, false, false, false] rfl rfl (by kernel_rfl) (fun _ _ _ h => h) (Or.inl ⟨by rfl, ?_⟩) ?_ ?_
  rotate_left
  · intro w'
    go_simp
    with_reducible rfl
  rotate_left
  · simp only [Act.put, List.setIfInBounds_toArray, List.set_cons_zero, List.set_cons_succ, i64_w, i32_w]
    rfl
  refine pure_ (i := 5) (N := (some 9)) (v := ?_) (a' := ?_) #[true, true, true, true, true, true, false, false, false, false, false, false] rfl rfl (by kernel_rfl) (fun _ _ _ h => h) (Or.inl ⟨by rfl, ?_⟩) ?_ ?_
  rotate_left
  · intro w'
    go_simp
    with_reducible rfl
  rotate_left
  · simp only [Act.put, List.setIfInBounds_toArray, List.set_cons_zero, List.set_cons_succ, i64_w, i32_w]
    rfl
  refine pure_ (i := 7) (N := (some 11)) (v := ?_) (a' := ?_) #[true, true, true, true, true, true, false, true, false, false, false, false] rfl rfl (by kernel_rfl) (fun _ _ _ h => h) (Or.inl ⟨by rfl, ?_⟩) ?_ ?_
  rotate_left
  · intro w'
    go_simp
    with_reducible rfl
  rotate_left
  · simp only [Act.put, List.setIfInBounds_toArray, List.set_cons_zero, List.set_cons_succ, i64_w, i32_w]
    rfl
  refine pure_ (i := 8) (N := (some 12)) (v := ?_) (a' := ?_) #[true, true, true, true, true, true, false, true, true, false, false, false] rfl rfl (by kernel_rfl) (fun _ _ _ h => h) (Or.inl ⟨by rfl, ?_⟩) ?_ ?_
  rotate_left
  · intro w'
    go_simp
    with_reducible rfl
  rotate_left
  · simp only [Act.put, List.setIfInBounds_toArray, List.set_cons_zero, List.set_cons_succ, i64_w, i32_w]
    rfl
  refine pure_ (i := 9) (N := (some 13)) (v := ?_) (a' := ?_) #[true, true, true, true, true, true, false, true, true, true, false, false] rfl rfl (by kernel_rfl) (fun _ _ _ h => h) (Or.inl ⟨by rfl, ?_⟩) ?_ ?_
  rotate_left
  · intro w'
    go_simp
    with_reducible rfl
  rotate_left
  · simp only [Act.put, List.setIfInBounds_toArray, List.set_cons_zero, List.set_cons_succ, i64_w, i32_w]
    rfl
  refine take_ (i := 6) (N := (some 10)) (v := ?_) (a' := ?_) #[true, true, true, true, true, true, true, true, true, true, false, false] rfl rfl (by kernel_rfl) (fun _ _ _ h => h) (Or.inl ⟨by rfl, ?_⟩) hHeld ?_ ?_
  rotate_left
  · rintro w' s0
    go_simp
    with_reducible rfl
  rotate_left
  · simp only [Act.put, List.setIfInBounds_toArray, List.set_cons_zero, List.set_cons_succ, i64_w, i32_w]
    rfl
  refine one_ (i := 10) (N := (some 14)) #[true, true, true, true, true, true, true, true, true, true, true, false] rfl rfl (by kernel_rfl) (by decide) (fun K_ hK => ?_)
  refine goesM_ "Settle" 34 (.pointer (some ⟨tp, 0, none⟩)) (.tmp 13) Try.func44 (by kernel_rfl) rfl #[.string x.f2] #[.pointer (some ⟨tp, 0, none⟩), .string x.f2] (by rfl) rfl rfl rfl (by (try simp only [List.map_toArray, List.map_cons, List.map_nil]); first | done | rfl) (by rfl) (m_Settle _ _) ?_
  refine (settleJ HS11.out HA.out HX.out).mono ?_
  rintro E w12 ⟨rfl, h⟩
  have HS12 := Aside0.mk (h)
  clear HS11
  clear h
  refine ⟨_, rfl, ?_⟩
  clear hHeld
  refine hK.out _ _ HS12.out.stmt.2.2.1 (fun hHeld => ?_)
  clear hK K_
  refine norm_ (a' := ?_) ?_ ?_
  rotate_left
  · show Act.put _ (some 14) _ = _
    simp only [Act.put, List.setIfInBounds_toArray, List.set_cons_zero, List.set_cons_succ, i64_w, i32_w]
    rfl
  refine one_ (i := 11) (N := (some 15)) #[true, true, true, true, true, true, true, true, true, true, true, true] rfl rfl (by kernel_rfl) (by decide) (fun K_ hK => ?_)
  refine goes_ Try.func54 (by kernel_rfl) rfl #[.pointer (some ⟨jp, 0, none⟩), .int .i64 (errN (s.ans.headD 0)), .int .i64 6, .int .i64 5] (by rfl) rfl rfl (by (try simp only [List.map_toArray, List.map_cons, List.map_nil]); first | done | rfl) ?_
  refine (turn_calls HS12.out _ 6 5).mono ?_
  rintro E w13 ⟨rfl, h⟩
  have HS13 := Aside0.mk (h)
  clear HS12
  clear h
  refine ⟨_, rfl, ?_⟩
  clear hHeld
  refine hK.out _ _ HS13.out.stmt.2.2.1 (fun hHeld => ?_)
  clear hK K_
  refine norm_ (a' := ?_) ?_ ?_
  rotate_left
  · show Act.put _ (some 15) _ = _
    simp only [Act.put, List.setIfInBounds_toArray, List.set_cons_zero, List.set_cons_succ, i64_w, i32_w]
    rfl
  refine done_ (by kernel_rfl) ?_
  go_end0
  rw [← HQ.out]
  exact ⟨rfl, HS13.out⟩
theorem abandon26_calls (h : JT w0 F jp tp x s R w) (hn : s.txt.length < 999999) (hx : x.f2.size ≤ 1000) :
    Calls Try.prog 31 #[.pointer (some ⟨jp, 0, none⟩), .iface 34 (.pointer (some ⟨tp, 0, none⟩))] w fun E w' => E = .returned (.tuple #[]) ∧ JT w0 F jp tp x (s.abandon x) R w' := by
  obtain ⟨Q, hQ⟩ : ∃ Q, (fun E w' => E = Ending.returned (.tuple #[]) ∧ JT w0 F jp tp x (s.abandon x) R w') = Q := ⟨_, rfl⟩
  have HQ := Aside0.mk hQ
  rw [hQ]
  have hu68 := Try.underlying68
  have hu28 := Try.underlying28
  have hna := na_Abandon
  have HS := Aside0.mk h
  have HA := Aside0.mk hn
  have HX := Aside0.mk hx
  clear h hQ
  go_enter Try.func31, Try.ntmps31
  go_wp2
  refine start_ (n := 10) (S := fun w' => w'.cell? ⟨jp, 2, none⟩ = some (.string x.f2)) (ds := []) #[false, false, false, false, false, false, false, false, false, false] (by kernel_rfl) rfl rfl HS.out.stmt.2.2.1 (fun hHeld => ?_)
  have HS11 := Aside0.mk (HS.out.drew)
  clear HS
  generalize w.drew = w11 at HS11 hHeld  ⊢
  refine pure_ (i := 0) (N := (some 4)) (v := ?_) (a' := ?_) #[true, false, false, false, false, false, false, false, false, false] rfl rfl (by kernel_rfl) (fun _ _ _ h => h) (Or.inl ⟨by rfl, ?_⟩) ?_ ?_
  rotate_left
  · intro w'
    go_simp
    with_reducible rfl
  rotate_left
  · simp only [Act.put, List.setIfInBounds_toArray, List.set_cons_zero, List.set_cons_succ, i64_w, i32_w]
    rfl
  refine pure_ (i := 1) (N := (some 5)) (v := ?_) (a' := ?_) #[true, true, false, false, false, false, false, false, false, false] rfl rfl (by kernel_rfl) (fun _ _ _ h => h) (Or.inl ⟨by rfl, ?_⟩) ?_ ?_
  rotate_left
  · intro w'
    go_simp
    with_reducible rfl
  rotate_left
  · simp only [Act.put, List.setIfInBounds_toArray, List.set_cons_zero, List.set_cons_succ, i64_w, i32_w]
    rfl
  refine pure_ (i := 2) (N := (some 6)) (v := ?_) (a' := ?_) #[true, true, true, false, false, false, false, false, false, false] rfl rfl (by kernel_rfl) (fun _ _ _ h => h) (Or.inl ⟨by rfl, ?_⟩) ?_ ?_
  rotate_left
  · intro w'
    go_simp
    with_reducible rfl
  rotate_left
  · simp only [Act.put, List.setIfInBounds_toArray, List.set_cons_zero, List.set_cons_succ, i64_w, i32_w]
    rfl
  refine pure_ (i := 3) (N := (some 7)) (v := ?_) (a' := ?_) #[true, true, true, true, false, false, false, false, false, false] rfl rfl (by kernel_rfl) (fun _ _ _ h => h) (Or.inl ⟨by rfl, ?_⟩) ?_ ?_
  rotate_left
  · intro w'
    go_simp
    with_reducible rfl
  rotate_left
  · simp only [Act.put, List.setIfInBounds_toArray, List.set_cons_zero, List.set_cons_succ, i64_w, i32_w]
    rfl
  refine pure_ (i := 4) (N := (some 8)) (v := ?_) (a' := ?_) #[true, true, true, true, true, false, false, false, false, false] rfl rfl (by kernel_rfl) (fun _ _ _ h => h) (Or.inl ⟨by rfl, ?_⟩) ?_ ?_
  rotate_left
  · intro w'
    go_simp
    with_reducible rfl
  rotate_left
  · simp only [Act.put, List.setIfInBounds_toArray, List.set_cons_zero, List.set_cons_succ, i64_w, i32_w]
    rfl
  refine pure_ (i := 6) (N := (some 10)) (v := ?_) (a' := ?_) #[true, true, true, true, true, false, true, false, false, false] rfl rfl (by kernel_rfl) (fun _ _ _ h => h) (Or.inl ⟨by rfl, ?_⟩) ?_ ?_
  rotate_left
  · intro w'
    go_simp
    with_reducible rfl
  rotate_left
  · simp only [Act.put, List.setIfInBounds_toArray, List.set_cons_zero, List.set_cons_succ, i64_w, i32_w]
    rfl
  refine pure_ (i := 7) (N := (some 11)) (v := ?_) (a' := ?_) #[true, true, true, true, true, false, true, true, false, false] rfl rfl (by kernel_rfl) (fun _ _ _ h => h) (Or.inl ⟨by rfl, ?_⟩) ?_ ?_
  rotate_left
  · intro w'
    go_simp
    with_reducible rfl
  rotate_left
  · simp only [Act.put, List.setIfInBounds_toArray, List.set_cons_zero, List.set_cons_succ, i64_w, i32_w]
    rfl
  refine pure_ (i := 8) (N := (some 12)) (v := ?_) (a' := ?_) #[true, true, true, true, true, false, true, true, true, false] rfl rfl (by kernel_rfl) (fun _ _ _ h => h) (Or.inl ⟨by rfl, ?_⟩) ?_ ?_
  rotate_left
  · intro w'
    go_simp
    with_reducible rfl
  rotate_left
  · simp only [Act.put, List.setIfInBounds_toArray, List.set_cons_zero, List.set_cons_succ, i64_w, i32_w]
    rfl
  refine take_ (i := 5) (N := (some 9)) (v := ?_) (a' := ?_) #[true, true, true, true, true, true, true, true, true, false] rfl rfl (by kernel_rfl) (fun _ _ _ h => h) (Or.inl ⟨by rfl, ?_⟩) hHeld ?_ ?_
  rotate_left
  · rintro w' s0
    go_simp
    with_reducible rfl
  rotate_left
  · simp only [Act.put, List.setIfInBounds_toArray, List.set_cons_zero, List.set_cons_succ, i64_w, i32_w]
    rfl
  refine one_ (i := 9) (N := (some 13)) #[true, true, true, true, true, true, true, true, true, true] rfl rfl (by kernel_rfl) (by decide) (fun K_ hK => ?_)
  refine goesM_ "Abandon" 34 (.pointer (some ⟨tp, 0, none⟩)) (.tmp 12) Try.func45 (by kernel_rfl) rfl #[.string x.f2] #[.pointer (some ⟨tp, 0, none⟩), .string x.f2] (by rfl) rfl rfl rfl (by (try simp only [List.map_toArray, List.map_cons, List.map_nil]); first | done | rfl) (by rfl) (m_Abandon _ _) ?_
  refine (abandonJ HS11.out HA.out HX.out).mono ?_
  rintro E w12 ⟨rfl, h⟩
  have HS12 := Aside0.mk (h)
  clear HS11
  clear h
  refine ⟨_, rfl, ?_⟩
  clear hHeld
  refine hK.out _ _ HS12.out.stmt.2.2.1 (fun hHeld => ?_)
  clear hK K_
  refine norm_ (a' := ?_) ?_ ?_
  rotate_left
  · show Act.put _ (some 13) _ = _
    simp only [Act.put, List.setIfInBounds_toArray, List.set_cons_zero, List.set_cons_succ, i64_w, i32_w]
    rfl
  refine done_ (by kernel_rfl) ?_
  clear hHeld
  obtain ⟨s2, hs2⟩ : ∃ s2, s.said ((⟨#[97, 98, 97, 110, 100, 111, 110, 32]⟩ : ByteArray) ++ x.f2) = s2 := ⟨_, rfl⟩
  have h2 := HS12.out
  rw [hs2] at h2
  obtain ⟨A, c, h2⟩ := h2
  have hb2 := h2.rest.blk 0 rfl
  have c11 : w12.cell? ⟨jp, 11, none⟩ = some (.int .i64 s2.ph) := (blk_cell hb2 11).trans rfl
  have pl := lt_of_some hb2
  have fz := fun j => frozen_of_row w12 jp j _ _ hb2
  have HE := Aside0.mk h2
  have HF := Aside0.mk (h2.putBlk 0 rfl 11 (.int .i64 6) rfl)
  have HS2 := Aside0.mk hs2
  clear h2 hb2 hs2 HS12
  cases hb : (bits .and .i64 (s.ans.headD 0) 3 == 3) with
  | true =>
    go_wp2
    go_end0
    rw [← HQ.out]
    refine ⟨rfl, ?_⟩
    unfold JS.abandon
    rw [if_pos hb, HS2.out]
    exact ⟨A, c, HE.out⟩
  | false =>
    go_wp2
    go_end0
    rw [← HQ.out]
    refine ⟨rfl, ?_⟩
    unfold JS.abandon
    rw [if_neg (by rw [hb]; decide), HS2.out]
    exact ⟨A, c, HF.out⟩
end
end Go.Proofs.Kb
end
section
namespace Go.Proofs.Kb
open Go Go.RowKit Go.Proofs.Ytnojcnmnkkgkgaa.Q Go.Proofs.YtnojcnmnkkgkgaaW.PrintWords Go.Proofs.YtnojcnmnkkgkgaaW.PrintLast Go.Proofs.YtnojcnmnkkgkgaaW.PrintMore
set_option linter.unusedVariables false
set_option linter.unusedSimpArgs false
set_option maxRecDepth 100000
theorem TL.fresh {w0 w w' : World} {F : Nat → Prop} {tp : Nat} {ans : List Int} {txt : List ByteArray} {held : Int} {R : List Chunk} (h : TL w0 F tp ans txt held R w) (hb : Below w.heap.size w w') (c : Chunk) (hc : c.H w') (hnd : ND c.bs) (hs : ∀ b ∈ c.bs, w.heap.size ≤ b) : TL w0 F tp ans txt held (c :: R) w' := by
  obtain ⟨av, kv, h⟩ := h
  exact ⟨av, kv, (h.fresh hb c hc hnd hs).perm (List.perm_middle (l₁ := [_, _, _])).symm⟩
theorem perm4 {α : Type} (a b c d : α) (R : List α) : (a :: b :: c :: d :: R).Perm (b :: d :: c :: a :: R) :=
  (List.Perm.swap b a _).trans ((List.Perm.append_right R (List.reverse_perm [a, c, d]).symm).cons b)
section
variable {w0 w w' : World} {F : Nat → Prop} {jp tp : Nat} {x : SV} {s : JS} {R R' : List Chunk}
noncomputable def JS.fill (s : JS) (x : SV) : JS := if (bits .and .i64 (s.ans.headD 0) 1 == 0) = true then { s.said (batS x.f2 s.af) with ph := 4 } else { s.said (batS x.f2 s.af) with af := nextRow (s.ans.headD 0) }
set_option maxHeartbeats 8000000
theorem fill_calls (h : JT w0 F jp tp x s R w) (hn : s.txt.length < 999999) (hx : x.f2.size ≤ 1000) (hw : ∀ y ∈ s.af, (Lit.int .i64 y.f1).wf = true) (hl : s.af.length ≤ 1000) :
    Calls Try.prog 28 #[.pointer (some ⟨jp, 0, none⟩), .iface 34 (.pointer (some ⟨tp, 0, none⟩))] w fun E w' => E = .returned (.tuple #[]) ∧ JT w0 F jp tp x (s.fill x) R w' := by
  obtain ⟨Q, hQ⟩ : ∃ Q, (fun E w' => E = Ending.returned (.tuple #[]) ∧ JT w0 F jp tp x (s.fill x) R w') = Q := ⟨_, rfl⟩
  have HQ := Aside0.mk hQ
  rw [hQ]
  have hu68 := Try.underlying68
  have hu28 := Try.underlying28
  have hna := na_Batch
  obtain ⟨A, c, h⟩ := h
  obtain ⟨a, ha⟩ : ∃ a, s.ans.headD 0 = a := ⟨_, rfl⟩
  have B43 := Aside0.mk (fun W A2 c2 R2 (h : TL w0 F tp s.ans s.txt s.held (rowXC valE (.slice A2 s.af.length c2) s.af :: R2) W) => batch_calls A2 c2 s.af h hn hw hl x.f2 hx)
  have C34 := Aside0.mk (fun W v (hr : RowX valE W v s.af) => cloneX34 W v s.af hr.src (by omega))
  rw [ha] at B43
  obtain ⟨m, hm⟩ : ∃ m, s.af.length = m := ⟨_, rfl⟩
  rw [hm] at B43 h
  have HM := Aside0.mk hm
  have HA := Aside0.mk ha
  have HS := Aside0.mk h
  clear h hQ hw hl hm ha hn hx
  cases hb : (bits .and .i64 a 1 == 0) with
  | true =>
    have HB := Aside0.mk hb
    unfold Bat43 at B43
    rw [hb] at B43
    simp only [Bool.not_true, ↓reduceIte] at B43
    clear hb
    go_enter Try.func28, Try.ntmps28
    go_wp2
    refine start_ (n := 20) (S := fun w' => w'.cell? ⟨jp, 2, none⟩ = some (.string x.f2) ∧ w'.cell? ⟨jp, 12, none⟩ = some (.slice A m c)) (ds := []) #[false, false, false, false, false, false, false, false, false, false, false, false, false, false, false, false, false, false, false, false] (by kernel_rfl) rfl rfl ⟨(blk_cell (HS.out.rest.blk 0 rfl) 2).trans rfl, (blk_cell (HS.out.rest.blk 0 rfl) 12).trans rfl⟩ (fun hHeld => ?_)
    have HS11 := Aside0.mk (HS.out.drew)
    clear HS
    generalize w.drew = w11 at HS11 hHeld  ⊢
    refine pure_ (i := 0) (N := (some 7)) (v := ?_) (a' := ?_) #[true, false, false, false, false, false, false, false, false, false, false, false, false, false, false, false, false, false, false, false] rfl rfl (by kernel_rfl) (fun _ _ _ h => h) (Or.inl ⟨by rfl, ?_⟩) ?_ ?_
    rotate_left
    · intro w'
      go_simp
      with_reducible rfl
    rotate_left
    · simp only [Act.put, List.setIfInBounds_toArray, List.set_cons_zero, List.set_cons_succ, i64_w, i32_w]
      rfl
    refine pure_ (i := 1) (N := (some 8)) (v := ?_) (a' := ?_) #[true, true, false, false, false, false, false, false, false, false, false, false, false, false, false, false, false, false, false, false] rfl rfl (by kernel_rfl) (fun _ _ _ h => h) (Or.inl ⟨by rfl, ?_⟩) ?_ ?_
    rotate_left
    · intro w'
      go_simp
      with_reducible rfl
    rotate_left
    · simp only [Act.put, List.setIfInBounds_toArray, List.set_cons_zero, List.set_cons_succ, i64_w, i32_w]
      rfl
    refine pure_ (i := 2) (N := (some 9)) (v := ?_) (a' := ?_) #[true, true, true, false, false, false, false, false, false, false, false, false, false, false, false, false, false, false, false, false] rfl rfl (by kernel_rfl) (fun _ _ _ h => h) (Or.inl ⟨by rfl, ?_⟩) ?_ ?_
    rotate_left
    · intro w'
      go_simp
      with_reducible rfl
    rotate_left
    · simp only [Act.put, List.setIfInBounds_toArray, List.set_cons_zero, List.set_cons_succ, i64_w, i32_w]
      rfl
    refine pure_ (i := 3) (N := (some 10)) (v := ?_) (a' := ?_) #[true, true, true, true, false, false, false, false, false, false, false, false, false, false, false, false, false, false, false, false] rfl rfl (by kernel_rfl) (fun _ _ _ h => h) (Or.inl ⟨by rfl, ?_⟩) ?_ ?_
    rotate_left
    · intro w'
      go_simp
      with_reducible rfl
    rotate_left
    · simp only [Act.put, List.setIfInBounds_toArray, List.set_cons_zero, List.set_cons_succ, i64_w, i32_w]
      rfl
    refine pure_ (i := 4) (N := (some 11)) (v := ?_) (a' := ?_) #[true, true, true, true, true, false, false, false, false, false, false, false, false, false, false, false, false, false, false, false] rfl rfl (by kernel_rfl) (fun _ _ _ h => h) (Or.inl ⟨by rfl, ?_⟩) ?_ ?_
    rotate_left
    · intro w'
      go_simp
      with_reducible rfl
    rotate_left
    · simp only [Act.put, List.setIfInBounds_toArray, List.set_cons_zero, List.set_cons_succ, i64_w, i32_w]
      rfl
    refine pure_ (i := 6) (N := (some 13)) (v := ?_) (a' := ?_) #[true, true, true, true, true, false, true, false, false, false, false, false, false, false, false, false, false, false, false, false] rfl rfl (by kernel_rfl) (fun _ _ _ h => h) (Or.inl ⟨by rfl, ?_⟩) ?_ ?_
    rotate_left
    · intro w'
      go_simp
      with_reducible rfl
    rotate_left
    · simp only [Act.put, List.setIfInBounds_toArray, List.set_cons_zero, List.set_cons_succ, i64_w, i32_w]
      rfl
    refine pure_ (i := 7) (N := (some 14)) (v := ?_) (a' := ?_) #[true, true, true, true, true, false, true, true, false, false, false, false, false, false, false, false, false, false, false, false] rfl rfl (by kernel_rfl) (fun _ _ _ h => h) (Or.inl ⟨by rfl, ?_⟩) ?_ ?_
    rotate_left
    · intro w'
      go_simp
      with_reducible rfl
    rotate_left
    · simp only [Act.put, List.setIfInBounds_toArray, List.set_cons_zero, List.set_cons_succ, i64_w, i32_w]
      rfl
    refine pure_ (i := 8) (N := (some 15)) (v := ?_) (a' := ?_) #[true, true, true, true, true, false, true, true, true, false, false, false, false, false, false, false, false, false, false, false] rfl rfl (by kernel_rfl) (fun _ _ _ h => h) (Or.inl ⟨by rfl, ?_⟩) ?_ ?_
    rotate_left
    · intro w'
      go_simp
      with_reducible rfl
    rotate_left
    · simp only [Act.put, List.setIfInBounds_toArray, List.set_cons_zero, List.set_cons_succ, i64_w, i32_w]
      rfl
    refine pure_ (i := 11) (N := (some 18)) (v := ?_) (a' := ?_) #[true, true, true, true, true, false, true, true, true, false, false, true, false, false, false, false, false, false, false, false] rfl rfl (by kernel_rfl) (fun _ _ _ h => h) (Or.inl ⟨by rfl, ?_⟩) ?_ ?_
    rotate_left
    · intro w'
      go_simp
      with_reducible rfl
    rotate_left
    · simp only [Act.put, List.setIfInBounds_toArray, List.set_cons_zero, List.set_cons_succ, i64_w, i32_w]
      rfl
    refine pure_ (i := 12) (N := (some 19)) (v := ?_) (a' := ?_) #[true, true, true, true, true, false, true, true, true, false, false, true, true, false, false, false, false, false, false, false] rfl rfl (by kernel_rfl) (fun _ _ _ h => h) (Or.inl ⟨by rfl, ?_⟩) ?_ ?_
    rotate_left
    · intro w'
      go_simp
      with_reducible rfl
    rotate_left
    · simp only [Act.put, List.setIfInBounds_toArray, List.set_cons_zero, List.set_cons_succ, i64_w, i32_w]
      rfl
    refine pure_ (i := 13) (N := (some 20)) (v := ?_) (a' := ?_) #[true, true, true, true, true, false, true, true, true, false, false, true, true, true, false, false, false, false, false, false] rfl rfl (by kernel_rfl) (fun _ _ _ h => h) (Or.inl ⟨by rfl, ?_⟩) ?_ ?_
    rotate_left
    · intro w'
      go_simp
      with_reducible rfl
    rotate_left
    · simp only [Act.put, List.setIfInBounds_toArray, List.set_cons_zero, List.set_cons_succ, i64_w, i32_w]
      rfl
    refine take_ (i := 5) (N := (some 12)) (v := ?_) (a' := ?_) #[true, true, true, true, true, true, true, true, true, false, false, true, true, true, false, false, false, false, false, false] rfl rfl (by kernel_rfl) (fun _ _ _ h => h) (Or.inl ⟨by rfl, ?_⟩) hHeld ?_ ?_
    rotate_left
    · rintro w' ⟨s0, s1⟩
      go_simp
      with_reducible rfl
    rotate_left
    · simp only [Act.put, List.setIfInBounds_toArray, List.set_cons_zero, List.set_cons_succ, i64_w, i32_w]
      rfl
    refine take_ (i := 9) (N := (some 16)) (v := ?_) (a' := ?_) #[true, true, true, true, true, true, true, true, true, true, false, true, true, true, false, false, false, false, false, false] rfl rfl (by kernel_rfl) (fun _ _ _ h => h) (Or.inl ⟨by rfl, ?_⟩) hHeld ?_ ?_
    rotate_left
    · rintro w' ⟨s0, s1⟩
      go_simp
      with_reducible rfl
    rotate_left
    · simp only [Act.put, List.setIfInBounds_toArray, List.set_cons_zero, List.set_cons_succ, i64_w, i32_w]
      rfl
    refine one_ (i := 10) (N := (some 17)) #[true, true, true, true, true, true, true, true, true, true, true, true, true, true, false, false, false, false, false, false] rfl rfl (by kernel_rfl) (by decide) (fun K_ hK => ?_)
    refine goes_ Try.func34 (by kernel_rfl) rfl #[.slice A m c] (by rfl) rfl rfl (by (try simp only [List.map_toArray, List.map_cons, List.map_nil]); first | done | rfl) ?_
    refine (C34.out _ _ (HS11.out.rest.rowX 1 rfl)).mono ?_
    rintro E w12 ⟨v4, rfl, hr, hbb, hf⟩
    obtain ⟨A4, c4, rfl⟩ := hr.form
    have HS12 := Aside0.mk (TL.fresh HS11.out hbb (rowXC valE _ _) hr (nd_bl _) hf)
    clear HS11
    rw [HM.out] at HS12 ⊢
    clear hr hbb hf
    refine ⟨_, rfl, ?_⟩
    clear hHeld
    refine hK.out _ _ ⟨(blk_cell (HS12.out.rest.blk 1 rfl) 2).trans rfl, (blk_cell (HS12.out.rest.blk 1 rfl) 12).trans rfl⟩ (fun hHeld => ?_)
    clear hK K_
    refine norm_ (a' := ?_) ?_ ?_
    rotate_left
    · show Act.put _ (some 17) _ = _
      simp only [Act.put, List.setIfInBounds_toArray, List.set_cons_zero, List.set_cons_succ, i64_w, i32_w]
      rfl
    refine one_ (i := 14) (N := (some 21)) #[true, true, true, true, true, true, true, true, true, true, true, true, true, true, true, false, false, false, false, false] rfl rfl (by kernel_rfl) (by decide) (fun K_ hK => ?_)
    refine goesM_ "Batch" 34 (.pointer (some ⟨tp, 0, none⟩)) (.tmp 20) Try.func43 (by kernel_rfl) rfl #[.string x.f2, .slice A4 m c4] #[.pointer (some ⟨tp, 0, none⟩), .string x.f2, .slice A4 m c4] (by rfl) rfl rfl rfl (by (try simp only [List.map_toArray, List.map_cons, List.map_nil]); first | done | rfl) (by rfl) (m_Batch _ _) ?_
    refine (B43.out _ A4 c4 _ HS12.out).mono ?_
    rintro E w13 ⟨A2, n2, c2, rfl, h⟩
    have HS13 := Aside0.mk (TL.drop (R := [_]) h)
    clear HS12
    clear h
    refine ⟨_, rfl, ?_⟩
    clear hHeld
    refine hK.out _ _ ⟨(blk_cell (HS13.out.rest.blk 0 rfl) 2).trans rfl, (blk_cell (HS13.out.rest.blk 0 rfl) 12).trans rfl⟩ (fun hHeld => ?_)
    clear hK K_
    refine norm_ (a' := ?_) ?_ ?_
    rotate_left
    · show Act.put _ (some 21) _ = _
      simp only [Act.put, List.setIfInBounds_toArray, List.set_cons_zero, List.set_cons_succ, i64_w, i32_w]
      rfl
    refine pure_ (i := 15) (N := (some 6)) (v := ?_) (a' := ?_) #[true, true, true, true, true, true, true, true, true, true, true, true, true, true, true, true, false, false, false, false] rfl rfl (by kernel_rfl) (fun _ _ _ h => h) (Or.inl ⟨by rfl, ?_⟩) ?_ ?_
    rotate_left
    · intro w'
      go_simp
      with_reducible rfl
    rotate_left
    · simp only [Act.put, List.setIfInBounds_toArray, List.set_cons_zero, List.set_cons_succ, i64_w, i32_w]
      rfl
    refine pure_ (i := 16) (N := (some 22)) (v := ?_) (a' := ?_) #[true, true, true, true, true, true, true, true, true, true, true, true, true, true, true, true, true, false, false, false] rfl rfl (by kernel_rfl) (fun _ _ _ h => h) (Or.inl ⟨by rfl, ?_⟩) ?_ ?_
    rotate_left
    · intro w'
      go_simp
      with_reducible rfl
    rotate_left
    · simp only [Act.put, List.setIfInBounds_toArray, List.set_cons_zero, List.set_cons_succ, i64_w, i32_w]
      rfl
    refine pure_ (i := 17) (N := (some 23)) (v := ?_) (a' := ?_) #[true, true, true, true, true, true, true, true, true, true, true, true, true, true, true, true, true, true, false, false] rfl rfl (by kernel_rfl) (fun _ _ _ h => h) (Or.inl ⟨by rfl, ?_⟩) ?_ ?_
    rotate_left
    · intro w'
      go_simp
      with_reducible rfl
    rotate_left
    · simp only [Act.put, List.setIfInBounds_toArray, List.set_cons_zero, List.set_cons_succ, i64_w, i32_w]
      rfl
    refine pure_ (i := 18) (N := (some 4)) (v := ?_) (a' := ?_) #[true, true, true, true, true, true, true, true, true, true, true, true, true, true, true, true, true, true, true, false] rfl rfl (by kernel_rfl) (fun _ _ _ h => h) (Or.inl ⟨by rfl, ?_⟩) ?_ ?_
    rotate_left
    · intro w'
      go_simp
      with_reducible rfl
    rotate_left
    · simp only [Act.put, List.setIfInBounds_toArray, List.set_cons_zero, List.set_cons_succ, i64_w, i32_w]
      rfl
    refine pure_ (i := 19) (N := (some 5)) (v := ?_) (a' := ?_) #[true, true, true, true, true, true, true, true, true, true, true, true, true, true, true, true, true, true, true, true] rfl rfl (by kernel_rfl) (fun _ _ _ h => h) (Or.inl ⟨by rfl, ?_⟩) ?_ ?_
    rotate_left
    · intro w'
      go_simp
      with_reducible rfl
    rotate_left
    · simp only [Act.put, List.setIfInBounds_toArray, List.set_cons_zero, List.set_cons_succ, i64_w, i32_w]
      rfl
    refine done_ (by kernel_rfl) ?_
    clear hHeld
    have h := HS13.out
    have hbk := h.rest.blk 0 rfl
    have c11 : w13.cell? ⟨jp, 11, none⟩ = some (.int .i64 s.ph) := (blk_cell hbk 11).trans rfl
    have pl := lt_of_some hbk
    have fz := fun j => frozen_of_row w13 jp j _ _ hbk
    have HF := Aside0.mk (h.putBlk 0 rfl 11 (.int .i64 4) rfl)
    clear h hbk HS13
    go_wp2
    go_end0
    rw [← HQ.out]
    refine ⟨rfl, ?_⟩
    unfold JS.fill
    rw [HA.out, if_pos HB.out]
    refine ⟨A, c, ?_⟩
    have e := HM.out
    subst e
    exact HF.out
  | false =>
    have HB := Aside0.mk (show ¬ ((bits .and .i64 a 1 == 0) = true) by rw [hb]; decide)
    unfold Bat43 at B43
    rw [hb] at B43
    simp only [Bool.not_false, Bool.false_eq_true, ↓reduceIte] at B43
    clear hb
    go_enter Try.func28, Try.ntmps28
    go_wp2
    refine start_ (n := 20) (S := fun w' => w'.cell? ⟨jp, 2, none⟩ = some (.string x.f2) ∧ w'.cell? ⟨jp, 12, none⟩ = some (.slice A m c)) (ds := []) #[false, false, false, false, false, false, false, false, false, false, false, false, false, false, false, false, false, false, false, false] (by kernel_rfl) rfl rfl ⟨(blk_cell (HS.out.rest.blk 0 rfl) 2).trans rfl, (blk_cell (HS.out.rest.blk 0 rfl) 12).trans rfl⟩ (fun hHeld => ?_)
    have HS11 := Aside0.mk (HS.out.drew)
    clear HS
    generalize w.drew = w11 at HS11 hHeld  ⊢
    refine pure_ (i := 0) (N := (some 7)) (v := ?_) (a' := ?_) #[true, false, false, false, false, false, false, false, false, false, false, false, false, false, false, false, false, false, false, false] rfl rfl (by kernel_rfl) (fun _ _ _ h => h) (Or.inl ⟨by rfl, ?_⟩) ?_ ?_
    rotate_left
    · intro w'
      go_simp
      with_reducible rfl
    rotate_left
    · simp only [Act.put, List.setIfInBounds_toArray, List.set_cons_zero, List.set_cons_succ, i64_w, i32_w]
      rfl
    refine pure_ (i := 1) (N := (some 8)) (v := ?_) (a' := ?_) #[true, true, false, false, false, false, false, false, false, false, false, false, false, false, false, false, false, false, false, false] rfl rfl (by kernel_rfl) (fun _ _ _ h => h) (Or.inl ⟨by rfl, ?_⟩) ?_ ?_
    rotate_left
    · intro w'
      go_simp
      with_reducible rfl
    rotate_left
    · simp only [Act.put, List.setIfInBounds_toArray, List.set_cons_zero, List.set_cons_succ, i64_w, i32_w]
      rfl
    refine pure_ (i := 2) (N := (some 9)) (v := ?_) (a' := ?_) #[true, true, true, false, false, false, false, false, false, false, false, false, false, false, false, false, false, false, false, false] rfl rfl (by kernel_rfl) (fun _ _ _ h => h) (Or.inl ⟨by rfl, ?_⟩) ?_ ?_
    rotate_left
    · intro w'
      go_simp
      with_reducible rfl
    rotate_left
    · simp only [Act.put, List.setIfInBounds_toArray, List.set_cons_zero, List.set_cons_succ, i64_w, i32_w]
      rfl
    refine pure_ (i := 3) (N := (some 10)) (v := ?_) (a' := ?_) #[true, true, true, true, false, false, false, false, false, false, false, false, false, false, false, false, false, false, false, false] rfl rfl (by kernel_rfl) (fun _ _ _ h => h) (Or.inl ⟨by rfl, ?_⟩) ?_ ?_
    rotate_left
    · intro w'
      go_simp
      with_reducible rfl
    rotate_left
    · simp only [Act.put, List.setIfInBounds_toArray, List.set_cons_zero, List.set_cons_succ, i64_w, i32_w]
      rfl
    refine pure_ (i := 4) (N := (some 11)) (v := ?_) (a' := ?_) #[true, true, true, true, true, false, false, false, false, false, false, false, false, false, false, false, false, false, false, false] rfl rfl (by kernel_rfl) (fun _ _ _ h => h) (Or.inl ⟨by rfl, ?_⟩) ?_ ?_
    rotate_left
    · intro w'
      go_simp
      with_reducible rfl
    rotate_left
    · simp only [Act.put, List.setIfInBounds_toArray, List.set_cons_zero, List.set_cons_succ, i64_w, i32_w]
      rfl
    refine pure_ (i := 6) (N := (some 13)) (v := ?_) (a' := ?_) #[true, true, true, true, true, false, true, false, false, false, false, false, false, false, false, false, false, false, false, false] rfl rfl (by kernel_rfl) (fun _ _ _ h => h) (Or.inl ⟨by rfl, ?_⟩) ?_ ?_
    rotate_left
    · intro w'
      go_simp
      with_reducible rfl
    rotate_left
    · simp only [Act.put, List.setIfInBounds_toArray, List.set_cons_zero, List.set_cons_succ, i64_w, i32_w]
      rfl
    refine pure_ (i := 7) (N := (some 14)) (v := ?_) (a' := ?_) #[true, true, true, true, true, false, true, true, false, false, false, false, false, false, false, false, false, false, false, false] rfl rfl (by kernel_rfl) (fun _ _ _ h => h) (Or.inl ⟨by rfl, ?_⟩) ?_ ?_
    rotate_left
    · intro w'
      go_simp
      with_reducible rfl
    rotate_left
    · simp only [Act.put, List.setIfInBounds_toArray, List.set_cons_zero, List.set_cons_succ, i64_w, i32_w]
      rfl
    refine pure_ (i := 8) (N := (some 15)) (v := ?_) (a' := ?_) #[true, true, true, true, true, false, true, true, true, false, false, false, false, false, false, false, false, false, false, false] rfl rfl (by kernel_rfl) (fun _ _ _ h => h) (Or.inl ⟨by rfl, ?_⟩) ?_ ?_
    rotate_left
    · intro w'
      go_simp
      with_reducible rfl
    rotate_left
    · simp only [Act.put, List.setIfInBounds_toArray, List.set_cons_zero, List.set_cons_succ, i64_w, i32_w]
      rfl
    refine pure_ (i := 11) (N := (some 18)) (v := ?_) (a' := ?_) #[true, true, true, true, true, false, true, true, true, false, false, true, false, false, false, false, false, false, false, false] rfl rfl (by kernel_rfl) (fun _ _ _ h => h) (Or.inl ⟨by rfl, ?_⟩) ?_ ?_
    rotate_left
    · intro w'
      go_simp
      with_reducible rfl
    rotate_left
    · simp only [Act.put, List.setIfInBounds_toArray, List.set_cons_zero, List.set_cons_succ, i64_w, i32_w]
      rfl
    refine pure_ (i := 12) (N := (some 19)) (v := ?_) (a' := ?_) #[true, true, true, true, true, false, true, true, true, false, false, true, true, false, false, false, false, false, false, false] rfl rfl (by kernel_rfl) (fun _ _ _ h => h) (Or.inl ⟨by rfl, ?_⟩) ?_ ?_
    rotate_left
    · intro w'
      go_simp
      with_reducible rfl
    rotate_left
    · simp only [Act.put, List.setIfInBounds_toArray, List.set_cons_zero, List.set_cons_succ, i64_w, i32_w]
      rfl
    refine pure_ (i := 13) (N := (some 20)) (v := ?_) (a' := ?_) #[true, true, true, true, true, false, true, true, true, false, false, true, true, true, false, false, false, false, false, false] rfl rfl (by kernel_rfl) (fun _ _ _ h => h) (Or.inl ⟨by rfl, ?_⟩) ?_ ?_
    rotate_left
    · intro w'
      go_simp
      with_reducible rfl
    rotate_left
    · simp only [Act.put, List.setIfInBounds_toArray, List.set_cons_zero, List.set_cons_succ, i64_w, i32_w]
      rfl
    refine take_ (i := 5) (N := (some 12)) (v := ?_) (a' := ?_) #[true, true, true, true, true, true, true, true, true, false, false, true, true, true, false, false, false, false, false, false] rfl rfl (by kernel_rfl) (fun _ _ _ h => h) (Or.inl ⟨by rfl, ?_⟩) hHeld ?_ ?_
    rotate_left
    · rintro w' ⟨s0, s1⟩
      go_simp
      with_reducible rfl
    rotate_left
    · simp only [Act.put, List.setIfInBounds_toArray, List.set_cons_zero, List.set_cons_succ, i64_w, i32_w]
      rfl
    refine take_ (i := 9) (N := (some 16)) (v := ?_) (a' := ?_) #[true, true, true, true, true, true, true, true, true, true, false, true, true, true, false, false, false, false, false, false] rfl rfl (by kernel_rfl) (fun _ _ _ h => h) (Or.inl ⟨by rfl, ?_⟩) hHeld ?_ ?_
    rotate_left
    · rintro w' ⟨s0, s1⟩
      go_simp
      with_reducible rfl
    rotate_left
    · simp only [Act.put, List.setIfInBounds_toArray, List.set_cons_zero, List.set_cons_succ, i64_w, i32_w]
      rfl
    refine one_ (i := 10) (N := (some 17)) #[true, true, true, true, true, true, true, true, true, true, true, true, true, true, false, false, false, false, false, false] rfl rfl (by kernel_rfl) (by decide) (fun K_ hK => ?_)
    refine goes_ Try.func34 (by kernel_rfl) rfl #[.slice A m c] (by rfl) rfl rfl (by (try simp only [List.map_toArray, List.map_cons, List.map_nil]); first | done | rfl) ?_
    refine (C34.out _ _ (HS11.out.rest.rowX 1 rfl)).mono ?_
    rintro E w12 ⟨v4, rfl, hr, hbb, hf⟩
    obtain ⟨A4, c4, rfl⟩ := hr.form
    have HS12 := Aside0.mk (TL.fresh HS11.out hbb (rowXC valE _ _) hr (nd_bl _) hf)
    clear HS11
    rw [HM.out] at HS12 ⊢
    clear hr hbb hf
    refine ⟨_, rfl, ?_⟩
    clear hHeld
    refine hK.out _ _ ⟨(blk_cell (HS12.out.rest.blk 1 rfl) 2).trans rfl, (blk_cell (HS12.out.rest.blk 1 rfl) 12).trans rfl⟩ (fun hHeld => ?_)
    clear hK K_
    refine norm_ (a' := ?_) ?_ ?_
    rotate_left
    · show Act.put _ (some 17) _ = _
      simp only [Act.put, List.setIfInBounds_toArray, List.set_cons_zero, List.set_cons_succ, i64_w, i32_w]
      rfl
    refine one_ (i := 14) (N := (some 21)) #[true, true, true, true, true, true, true, true, true, true, true, true, true, true, true, false, false, false, false, false] rfl rfl (by kernel_rfl) (by decide) (fun K_ hK => ?_)
    refine goesM_ "Batch" 34 (.pointer (some ⟨tp, 0, none⟩)) (.tmp 20) Try.func43 (by kernel_rfl) rfl #[.string x.f2, .slice A4 m c4] #[.pointer (some ⟨tp, 0, none⟩), .string x.f2, .slice A4 m c4] (by rfl) rfl rfl rfl (by (try simp only [List.map_toArray, List.map_cons, List.map_nil]); first | done | rfl) (by rfl) (m_Batch _ _) ?_
    refine (B43.out _ A4 c4 _ HS12.out).mono ?_
    rintro E w13 ⟨A2, n2, c2, rfl, h⟩
    have h1 : TL w0 F tp _ _ _ ((blkC jp (.cells #[.int .i64 x.f0, .string x.f1, .string x.f2, .string x.f3, .int .i64 x.f4, .bool x.f5, .slice x.f6.A x.f6.n x.f6.c, .slice x.f7.A x.f7.n x.f7.c, .slice x.f8.A x.f8.n x.f8.c, .slice x.f9.A x.f9.n x.f9.c, .slice x.f10.A x.f10.n x.f10.c, .int .i64 s.ph, .slice A m c, .int .i64 s.tr, .int .i64 s.er] 68 (0, 0)) :: rowXC valE (.slice A m c) s.af :: R) ++ [rowXC valE (.slice A2 n2 c2) (nextRow a)]) _ := TL.drop (R := [_]) h
    have HS13 := Aside0.mk (h1.perm (R' := rowXC valE (.slice A2 n2 c2) (nextRow a) :: (blkC jp (.cells #[.int .i64 x.f0, .string x.f1, .string x.f2, .string x.f3, .int .i64 x.f4, .bool x.f5, .slice x.f6.A x.f6.n x.f6.c, .slice x.f7.A x.f7.n x.f7.c, .slice x.f8.A x.f8.n x.f8.c, .slice x.f9.A x.f9.n x.f9.c, .slice x.f10.A x.f10.n x.f10.c, .int .i64 s.ph, .slice A m c, .int .i64 s.tr, .int .i64 s.er] 68 (0, 0)) :: rowXC valE (.slice A m c) s.af :: R)) (List.perm_append_comm (l₁ := (blkC jp (.cells #[.int .i64 x.f0, .string x.f1, .string x.f2, .string x.f3, .int .i64 x.f4, .bool x.f5, .slice x.f6.A x.f6.n x.f6.c, .slice x.f7.A x.f7.n x.f7.c, .slice x.f8.A x.f8.n x.f8.c, .slice x.f9.A x.f9.n x.f9.c, .slice x.f10.A x.f10.n x.f10.c, .int .i64 s.ph, .slice A m c, .int .i64 s.tr, .int .i64 s.er] 68 (0, 0)) :: rowXC valE (.slice A m c) s.af :: R)) (l₂ := [_])))
    clear HS12
    clear h1
    obtain rfl : n2 = 1 := (HS13.out.rest.rowX 0 rfl).capOk.1
    clear h
    refine ⟨_, rfl, ?_⟩
    clear hHeld
    refine hK.out _ _ ⟨(blk_cell (HS13.out.rest.blk 1 rfl) 2).trans rfl, (blk_cell (HS13.out.rest.blk 1 rfl) 12).trans rfl⟩ (fun hHeld => ?_)
    clear hK K_
    refine norm_ (a' := ?_) ?_ ?_
    rotate_left
    · show Act.put _ (some 21) _ = _
      simp only [Act.put, List.setIfInBounds_toArray, List.set_cons_zero, List.set_cons_succ, i64_w, i32_w]
      rfl
    refine pure_ (i := 15) (N := (some 6)) (v := ?_) (a' := ?_) #[true, true, true, true, true, true, true, true, true, true, true, true, true, true, true, true, false, false, false, false] rfl rfl (by kernel_rfl) (fun _ _ _ h => h) (Or.inl ⟨by rfl, ?_⟩) ?_ ?_
    rotate_left
    · intro w'
      go_simp
      with_reducible rfl
    rotate_left
    · simp only [Act.put, List.setIfInBounds_toArray, List.set_cons_zero, List.set_cons_succ, i64_w, i32_w]
      rfl
    refine pure_ (i := 16) (N := (some 22)) (v := ?_) (a' := ?_) #[true, true, true, true, true, true, true, true, true, true, true, true, true, true, true, true, true, false, false, false] rfl rfl (by kernel_rfl) (fun _ _ _ h => h) (Or.inl ⟨by rfl, ?_⟩) ?_ ?_
    rotate_left
    · intro w'
      go_simp
      with_reducible rfl
    rotate_left
    · simp only [Act.put, List.setIfInBounds_toArray, List.set_cons_zero, List.set_cons_succ, i64_w, i32_w]
      rfl
    refine pure_ (i := 17) (N := (some 23)) (v := ?_) (a' := ?_) #[true, true, true, true, true, true, true, true, true, true, true, true, true, true, true, true, true, true, false, false] rfl rfl (by kernel_rfl) (fun _ _ _ h => h) (Or.inl ⟨by rfl, ?_⟩) ?_ ?_
    rotate_left
    · intro w'
      go_simp
      with_reducible rfl
    rotate_left
    · simp only [Act.put, List.setIfInBounds_toArray, List.set_cons_zero, List.set_cons_succ, i64_w, i32_w]
      rfl
    refine pure_ (i := 18) (N := (some 4)) (v := ?_) (a' := ?_) #[true, true, true, true, true, true, true, true, true, true, true, true, true, true, true, true, true, true, true, false] rfl rfl (by kernel_rfl) (fun _ _ _ h => h) (Or.inl ⟨by rfl, ?_⟩) ?_ ?_
    rotate_left
    · intro w'
      go_simp
      with_reducible rfl
    rotate_left
    · simp only [Act.put, List.setIfInBounds_toArray, List.set_cons_zero, List.set_cons_succ, i64_w, i32_w]
      rfl
    refine pure_ (i := 19) (N := (some 5)) (v := ?_) (a' := ?_) #[true, true, true, true, true, true, true, true, true, true, true, true, true, true, true, true, true, true, true, true] rfl rfl (by kernel_rfl) (fun _ _ _ h => h) (Or.inl ⟨by rfl, ?_⟩) ?_ ?_
    rotate_left
    · intro w'
      go_simp
      with_reducible rfl
    rotate_left
    · simp only [Act.put, List.setIfInBounds_toArray, List.set_cons_zero, List.set_cons_succ, i64_w, i32_w]
      rfl
    refine done_ (by kernel_rfl) ?_
    clear hHeld
    have D34 := Aside0.mk (cloneX34 w13 _ (nextRow a) (RowX.src (HS13.out.rest.rowX 0 rfl)) (show (1 : Nat) < 1000000 by decide))
    go_wp2_with (go_at_call 34; refine D34.out.mono ?_; rintro E w14 ⟨v3, rfl, hr, hbb, hf⟩; obtain ⟨A3, c3, rfl⟩ := hr.form; have h := TL.fresh HS13.out hbb (rowXC valE _ _) hr (nd_bl _) hf; have hbk := h.rest.blk 2 rfl; have c12 : w14.cell? ⟨jp, 12, none⟩ = some (.slice A m c) := ((blk_cell hbk 12).trans rfl); have pl := lt_of_some hbk; have fz := (fun j => frozen_of_row w14 jp j _ _ hbk); have HF := Aside0.mk (h.putBlk 2 rfl 12 (.slice A3 1 c3) rfl); clear h hbk hr hbb hf D34)
    go_end0
    rw [← HQ.out]
    refine ⟨rfl, ?_⟩
    unfold JS.fill
    rw [HA.out, if_neg HB.out]
    refine ⟨A3, c3, ?_⟩
    have hf : TL w0 F tp _ _ _ (rowXC valE (.slice A3 1 c3) (nextRow a) :: rowXC valE _ _ :: blkC jp _ :: rowXC valE _ _ :: R) _ := HF.out
    exact TL.drop (R := [rowXC valE _ _, rowXC valE _ _]) (hf.perm (perm4 _ _ _ _ _))
end
end Go.Proofs.Kb
end
section
namespace Go.Proofs.Kb
open Go Go.RowKit Go.Proofs.Ytnojcnmnkkgkgaa.Q Go.Proofs.YtnojcnmnkkgkgaaW.PrintWords Go.Proofs.YtnojcnmnkkgkgaaW.PrintLast Go.Proofs.YtnojcnmnkkgkgaaW.PrintMore
set_option linter.unusedVariables false
set_option linter.unusedSimpArgs false
set_option maxRecDepth 100000
theorem perm3 {α : Type} (a b c : α) (R : List α) : (a :: b :: c :: R).Perm (c :: a :: b :: R) := (((List.Perm.swap c b R).cons a).trans (List.Perm.swap c a _))
section
variable {w0 w w' : World} {F : Nat → Prop} {jp tp : Nat} {x : SV} {s : JS} {R R' : List Chunk}
noncomputable def JS.tried (s : JS) (ws : List S97) : JS := { s.said (tryS ws) with held := if (bits .and .i64 (s.ans.headD 0) 1 == 1) = true then s.held + 1 else s.held }
def JS.free (s : JS) : JS := { s with txt := s.txt ++ [(⟨#[102, 114, 101, 101]⟩ : ByteArray)], held := s.held - 1 }
noncomputable def JS.with_ (s : JS) (ws : List S97) (f : JS → JS) : JS := if (bits .and .i64 (s.ans.headD 0) 1 == 1) = true then (f (s.tried ws)).free else s.tried ws
theorem tryJ {A : Option Addr} {c : Nat} {ws : List S97} (h : JT w0 F jp tp x s (rowXC wntE (.slice A ws.length c) ws :: R) w) (hn : s.txt.length < 999999) (hh : -1000000 ≤ s.held ∧ s.held ≤ 1000000) (hw : ∀ x ∈ ws, WfW x) (hl : ws.length ≤ 10) :
    Calls Try.prog 36 #[.pointer (some ⟨tp, 0, none⟩), .slice A ws.length c] w fun E w' => E = .returned (.bool (bits .and .i64 (s.ans.headD 0) 1 == 1)) ∧ JT w0 F jp tp x (s.tried ws) R w' := by
  obtain ⟨A1, c1, h⟩ := h
  refine (try_calls A c ws (h.perm (perm3 _ _ _ _)) hn hh hw hl).mono fun E w' ⟨e, h'⟩ => ⟨e, A1, c1, ?_⟩
  exact TL.drop (R := [_]) h'
theorem freeJ (h : JT w0 F jp tp x s R w) (hn : s.txt.length < 999999) (hh : -1000000 ≤ s.held ∧ s.held ≤ 1000000) (u : FrameMode) :
    CallsD Try.prog 40 #[.pointer (some ⟨tp, 0, none⟩)] u w fun E u' w' => u' = u ∧ (E = .returned (.tuple #[]) ∧ JT w0 F jp tp x s.free R w') := by
  obtain ⟨A1, c1, h⟩ := h
  exact (freeD_calls h hn hh u).mono fun E u' w' ⟨e0, e, h'⟩ => ⟨e0, e, A1, c1, h'⟩
set_option maxHeartbeats 8000000
theorem with26_calls {A : Option Addr} {c n : Nat} {ws : List S97} (hn0 : ws.length = n) (h : JT w0 F jp tp x s (rowXC wntE (.slice A n c) ws :: R) w) (hn : s.txt.length < 999000) (hh : -1000 ≤ s.held ∧ s.held ≤ 1000) (hw : ∀ x ∈ ws, WfW x) (hl : ws.length ≤ 10) (hx : x.f2.size ≤ 1000) :
    Calls Try.prog 24 #[.pointer (some ⟨jp, 0, none⟩), .iface 34 (.pointer (some ⟨tp, 0, none⟩)), .slice A n c, .func (.func 26) #[.pointer (some ⟨jp, 0, none⟩)] #[]] w fun E w' => E = .returned (.bool (bits .and .i64 (s.ans.headD 0) 1 == 1)) ∧ JT w0 F jp tp x (s.with_ ws (fun s => s.register x)) R w' := by
  subst hn0
  have hm1 := mn_Try
  have hm2 := mn_Free
  have HS := Aside0.mk h
  have A36 := Aside0.mk (tryJ h (by omega) (by omega) hw hl)
  have ht : (s.tried ws).txt.length < 999002 := by
    show (s.txt ++ [_]).length < _
    rw [List.length_append, List.length_singleton]
    omega
  have hh2 : -1001 ≤ (s.tried ws).held ∧ (s.tried ws).held ≤ 1001 := by
    have e : (s.tried ws).held = if (bits .and .i64 (s.ans.headD 0) 1 == 1) = true then s.held + 1 else s.held := rfl
    rw [e]
    split <;> omega
  have A26 := Aside0.mk (fun W (h : JT w0 F jp tp x (s.tried ws) R W) => register26_calls h (by omega) hx)
  obtain ⟨s2, hs2⟩ : ∃ s2, (s.tried ws).register x = s2 := ⟨_, rfl⟩
  have hq2 : s2.txt.length < 999003 ∧ s2.held = (s.tried ws).held := by
    rw [← hs2]
    unfold JS.register
    refine ⟨?_, rfl⟩
    show (_ ++ [_]).length < _
    rw [List.length_append, List.length_singleton]
    omega
  rw [hs2] at A26
  have A40 := Aside0.mk (fun W u (h : JT w0 F jp tp x s2 R W) => freeJ h (by omega) (by omega) u)
  obtain ⟨s1, hs1⟩ : ∃ s1, s.tried ws = s1 := ⟨_, rfl⟩
  rw [hs1] at A36 A26
  unfold JS.with_
  rw [hs1]
  have HS2 := Aside0.mk (show s1.register x = s2 by rw [← hs1]; exact hs2)
  clear h ht hh2 hq2 hs2 hs1 HS
  cases hb : (bits .and .i64 (s.ans.headD 0) 1 == 1) with
  | true =>
    rw [hb] at A36
    rw [if_pos rfl]
    go_enter_defers Try.func24, Try.ntmps24
    go_wp2_with (first
      | (go_at_call 36; refine A36.out.mono ?_; rintro E w1 ⟨rfl, h⟩; have HT := Aside0.mk h; clear h A36)
      | (go_at_call 26; refine (A26.out _ HT.out).mono ?_; rintro E w2 ⟨rfl, h⟩; have HU := Aside0.mk h; clear h HT A26))
    refine leaves_cons (f := 40) (args := #[.pointer (some ⟨tp, 0, none⟩)]) (by simp) (by simp [go_sem, mn_Free]) ?_
    refine (A40.out _ _ HU.out).mono ?_
    rintro e u' w'' ⟨rfl, rfl, h⟩
    rw [← HS2.out] at h
    simp [Leaves, settle, results, Try.results24, go_sem]
    exact h
  | false =>
    rw [hb] at A36
    rw [if_neg (by decide)]
    go_enter_defers Try.func24, Try.ntmps24
    go_wp2_with (go_at_call 36; refine A36.out.mono ?_; rintro E w1 ⟨rfl, h⟩; have HT := Aside0.mk h; clear h A36)
    show Leaves Try.prog Try.f24 _ _ _ .returning w1
    simp [Leaves, settle, results, Try.results24, go_sem]
    exact HT.out
theorem with30_calls {A : Option Addr} {c n : Nat} {ws : List S97} (hn0 : ws.length = n) (h : JT w0 F jp tp x s (rowXC wntE (.slice A n c) ws :: R) w) (hn : s.txt.length < 999000) (hh : -1000 ≤ s.held ∧ s.held ≤ 1000) (hw : ∀ x ∈ ws, WfW x) (hl : ws.length ≤ 10) (hx : x.f2.size ≤ 1000) :
    Calls Try.prog 24 #[.pointer (some ⟨jp, 0, none⟩), .iface 34 (.pointer (some ⟨tp, 0, none⟩)), .slice A n c, .func (.func 30) #[.pointer (some ⟨jp, 0, none⟩)] #[]] w fun E w' => E = .returned (.bool (bits .and .i64 (s.ans.headD 0) 1 == 1)) ∧ JT w0 F jp tp x (s.with_ ws (fun s => s.settle x)) R w' := by
  subst hn0
  have hm1 := mn_Try
  have hm2 := mn_Free
  have HS := Aside0.mk h
  have A36 := Aside0.mk (tryJ h (by omega) (by omega) hw hl)
  have ht : (s.tried ws).txt.length < 999002 := by
    show (s.txt ++ [_]).length < _
    rw [List.length_append, List.length_singleton]
    omega
  have hh2 : -1001 ≤ (s.tried ws).held ∧ (s.tried ws).held ≤ 1001 := by
    have e : (s.tried ws).held = if (bits .and .i64 (s.ans.headD 0) 1 == 1) = true then s.held + 1 else s.held := rfl
    rw [e]
    split <;> omega
  have A26 := Aside0.mk (fun W (h : JT w0 F jp tp x (s.tried ws) R W) => settle26_calls h (by omega) hx)
  obtain ⟨s2, hs2⟩ : ∃ s2, (s.tried ws).settle x = s2 := ⟨_, rfl⟩
  have hq2 : s2.txt.length < 999003 ∧ s2.held = (s.tried ws).held := by
    rw [← hs2]
    unfold JS.settle
    refine ⟨?_, rfl⟩
    show (_ ++ [_]).length < _
    rw [List.length_append, List.length_singleton]
    omega
  rw [hs2] at A26
  have A40 := Aside0.mk (fun W u (h : JT w0 F jp tp x s2 R W) => freeJ h (by omega) (by omega) u)
  obtain ⟨s1, hs1⟩ : ∃ s1, s.tried ws = s1 := ⟨_, rfl⟩
  rw [hs1] at A36 A26
  unfold JS.with_
  rw [hs1]
  have HS2 := Aside0.mk (show s1.settle x = s2 by rw [← hs1]; exact hs2)
  clear h ht hh2 hq2 hs2 hs1 HS
  cases hb : (bits .and .i64 (s.ans.headD 0) 1 == 1) with
  | true =>
    rw [hb] at A36
    rw [if_pos rfl]
    go_enter_defers Try.func24, Try.ntmps24
    go_wp2_with (first
      | (go_at_call 36; refine A36.out.mono ?_; rintro E w1 ⟨rfl, h⟩; have HT := Aside0.mk h; clear h A36)
      | (go_at_call 30; refine (A26.out _ HT.out).mono ?_; rintro E w2 ⟨rfl, h⟩; have HU := Aside0.mk h; clear h HT A26))
    refine leaves_cons (f := 40) (args := #[.pointer (some ⟨tp, 0, none⟩)]) (by simp) (by simp [go_sem, mn_Free]) ?_
    refine (A40.out _ _ HU.out).mono ?_
    rintro e u' w'' ⟨rfl, rfl, h⟩
    rw [← HS2.out] at h
    simp [Leaves, settle, results, Try.results24, go_sem]
    exact h
  | false =>
    rw [hb] at A36
    rw [if_neg (by decide)]
    go_enter_defers Try.func24, Try.ntmps24
    go_wp2_with (go_at_call 36; refine A36.out.mono ?_; rintro E w1 ⟨rfl, h⟩; have HT := Aside0.mk h; clear h A36)
    show Leaves Try.prog Try.f24 _ _ _ .returning w1
    simp [Leaves, settle, results, Try.results24, go_sem]
    exact HT.out
theorem with31_calls {A : Option Addr} {c n : Nat} {ws : List S97} (hn0 : ws.length = n) (h : JT w0 F jp tp x s (rowXC wntE (.slice A n c) ws :: R) w) (hn : s.txt.length < 999000) (hh : -1000 ≤ s.held ∧ s.held ≤ 1000) (hw : ∀ x ∈ ws, WfW x) (hl : ws.length ≤ 10) (hx : x.f2.size ≤ 1000) :
    Calls Try.prog 24 #[.pointer (some ⟨jp, 0, none⟩), .iface 34 (.pointer (some ⟨tp, 0, none⟩)), .slice A n c, .func (.func 31) #[.pointer (some ⟨jp, 0, none⟩)] #[]] w fun E w' => E = .returned (.bool (bits .and .i64 (s.ans.headD 0) 1 == 1)) ∧ JT w0 F jp tp x (s.with_ ws (fun s => s.abandon x)) R w' := by
  subst hn0
  have hm1 := mn_Try
  have hm2 := mn_Free
  have HS := Aside0.mk h
  have A36 := Aside0.mk (tryJ h (by omega) (by omega) hw hl)
  have ht : (s.tried ws).txt.length < 999002 := by
    show (s.txt ++ [_]).length < _
    rw [List.length_append, List.length_singleton]
    omega
  have hh2 : -1001 ≤ (s.tried ws).held ∧ (s.tried ws).held ≤ 1001 := by
    have e : (s.tried ws).held = if (bits .and .i64 (s.ans.headD 0) 1 == 1) = true then s.held + 1 else s.held := rfl
    rw [e]
    split <;> omega
  have A26 := Aside0.mk (fun W (h : JT w0 F jp tp x (s.tried ws) R W) => abandon26_calls h (by omega) hx)
  obtain ⟨s2, hs2⟩ : ∃ s2, (s.tried ws).abandon x = s2 := ⟨_, rfl⟩
  have hq2 : s2.txt.length < 999003 ∧ s2.held = (s.tried ws).held := by
    rw [← hs2]
    unfold JS.abandon
    refine ⟨?_, by split <;> rfl⟩
    have e : ∀ s' : JS, s'.txt = (s.tried ws).txt ++ [(⟨#[97, 98, 97, 110, 100, 111, 110, 32]⟩ : ByteArray) ++ x.f2] → s'.txt.length < 999003 := fun s' e => by
      rw [e, List.length_append, List.length_singleton]
      omega
    split
    · exact e _ rfl
    · exact e _ rfl
  rw [hs2] at A26
  have A40 := Aside0.mk (fun W u (h : JT w0 F jp tp x s2 R W) => freeJ h (by omega) (by omega) u)
  obtain ⟨s1, hs1⟩ : ∃ s1, s.tried ws = s1 := ⟨_, rfl⟩
  rw [hs1] at A36 A26
  unfold JS.with_
  rw [hs1]
  have HS2 := Aside0.mk (show s1.abandon x = s2 by rw [← hs1]; exact hs2)
  clear h ht hh2 hq2 hs2 hs1 HS
  cases hb : (bits .and .i64 (s.ans.headD 0) 1 == 1) with
  | true =>
    rw [hb] at A36
    rw [if_pos rfl]
    go_enter_defers Try.func24, Try.ntmps24
    go_wp2_with (first
      | (go_at_call 36; refine A36.out.mono ?_; rintro E w1 ⟨rfl, h⟩; have HT := Aside0.mk h; clear h A36)
      | (go_at_call 31; refine (A26.out _ HT.out).mono ?_; rintro E w2 ⟨rfl, h⟩; have HU := Aside0.mk h; clear h HT A26))
    refine leaves_cons (f := 40) (args := #[.pointer (some ⟨tp, 0, none⟩)]) (by simp) (by simp [go_sem, mn_Free]) ?_
    refine (A40.out _ _ HU.out).mono ?_
    rintro e u' w'' ⟨rfl, rfl, h⟩
    rw [← HS2.out] at h
    simp [Leaves, settle, results, Try.results24, go_sem]
    exact h
  | false =>
    rw [hb] at A36
    rw [if_neg (by decide)]
    go_enter_defers Try.func24, Try.ntmps24
    go_wp2_with (go_at_call 36; refine A36.out.mono ?_; rintro E w1 ⟨rfl, h⟩; have HT := Aside0.mk h; clear h A36)
    show Leaves Try.prog Try.f24 _ _ _ .returning w1
    simp [Leaves, settle, results, Try.results24, go_sem]
    exact HT.out
end
end Go.Proofs.Kb
end
section
namespace Go.Proofs.Kb
open Go Go.RowKit Go.Proofs.Ytnojcnmnkkgkgaa.Q Go.Proofs.YtnojcnmnkkgkgaaW.PrintWords Go.Proofs.YtnojcnmnkkgkgaaW.PrintLast Go.Proofs.YtnojcnmnkkgkgaaW.PrintMore
set_option linter.unusedVariables false
set_option linter.unusedSimpArgs false
set_option maxRecDepth 100000
theorem perm3' {α : Type} (a b c : α) (R : List α) : (a :: b :: c :: R).Perm (b :: c :: a :: R) := ((List.Perm.swap b a _).trans ((List.Perm.swap c a R).cons b))
section
variable {w0 w w' : World} {F : Nat → Prop} {jp tp : Nat} {x : SV} {s : JS} {R R' : List Chunk}
theorem JT.fresh (h : JT w0 F jp tp x s R w) (hb : Below w.heap.size w w') (c : Chunk) (hc : c.H w') (hnd : ND c.bs) (hs : ∀ b ∈ c.bs, w.heap.size ≤ b) : JT w0 F jp tp x s (c :: R) w' := by
  obtain ⟨A, k, h⟩ := h
  exact ⟨A, k, (h.fresh hb c hc hnd hs).perm (perm3' _ _ _ _)⟩
theorem JT.c1 (h : JT w0 F jp tp x s R w) : w.cell? ⟨jp, 1, none⟩ = some (.string x.f1) := by
  obtain ⟨A, c, hb⟩ := h.blk
  exact (blk_cell hb 1).trans rfl
theorem JT.c11 (h : JT w0 F jp tp x s R w) : w.cell? ⟨jp, 11, none⟩ = some (.int .i64 s.ph) := by
  obtain ⟨A, c, hb⟩ := h.blk
  exact (blk_cell hb 11).trans rfl
theorem JT.c14 (h : JT w0 F jp tp x s R w) : w.cell? ⟨jp, 14, none⟩ = some (.int .i64 s.er) := by
  obtain ⟨A, c, hb⟩ := h.blk
  exact (blk_cell hb 14).trans rfl
theorem JT.lt (h : JT w0 F jp tp x s R w) : jp < w.heap.size := by
  obtain ⟨A, c, hb⟩ := h.blk
  exact lt_of_some hb
theorem JT.fz (h : JT w0 F jp tp x s R w) (j : Nat) : w.frozen? ⟨jp, j, none⟩ = false := by
  obtain ⟨A, c, hb⟩ := h.blk
  exact frozen_of_row w jp j _ _ hb
theorem JT.phase (h : JT w0 F jp tp x s R w) (p : Int) : JT w0 F jp tp x { s with ph := p } R (w.setCell ⟨jp, 11, none⟩ (.int .i64 p)) := by
  obtain ⟨A, c, h⟩ := h
  exact ⟨A, c, h.putBlk 0 rfl 11 (.int .i64 p) rfl⟩
def StepE (s : JS) : Ending := .returned (.tuple #[.int .i64 (if s.ph < 5 then 0 else s.er), .bool (decide (5 ≤ s.ph))])
noncomputable def JS.step (s : JS) (x : SV) : JS :=
  if s.ph = 1 then (if (bits .and .i64 (s.ans.headD 0) 1 == 1) = true then s.with_ (planW x.f1 4) (fun s => s.register x) else (s.with_ (planW x.f1 4) (fun s => s.register x)).failed 6)
  else if s.ph = 2 then (if (bits .and .i64 (s.ans.headD 0) 1 == 1) = true then s.said (⟨#[101, 108, 100, 101, 114]⟩ : ByteArray) else { s.said (⟨#[101, 108, 100, 101, 114]⟩ : ByteArray) with ph := 3 })
  else if s.ph = 3 then (if (bits .and .i64 (s.ans.headD 0) 1 == 1) = true then (s.said (⟨#[116, 111, 107, 101, 110]⟩ : ByteArray)).fill x else s.said (⟨#[116, 111, 107, 101, 110]⟩ : ByteArray))
  else if s.ph = 4 then (if (bits .and .i64 (s.ans.headD 0) 1 == 1) = true then s.with_ (planW x.f1 3) (fun s => s.settle x) else (s.with_ (planW x.f1 3) (fun s => s.settle x)).failed 5)
  else if s.ph = 5 then s.with_ ((planW x.f1 3).take 2) (fun s => s.abandon x)
  else s
structure OkJ (s : JS) (x : SV) : Prop where
  n : s.txt.length < 990000
  h : -1000 ≤ s.held ∧ s.held ≤ 1000
  t : -9000000000000000000 ≤ s.tr ∧ s.tr ≤ 9223372036854775807
  x1 : x.f1.size ≤ 1000
  x2 : x.f2.size ≤ 1000
  a : ∀ y ∈ s.af, (Lit.int .i64 y.f1).wf = true
  l : s.af.length ≤ 1000
theorem planW_wf {t : ByteArray} {m : Int} (ht : t.size ≤ 1000) (hm : (Lit.int .i64 m).wf = true) : ∀ x ∈ planW t m, WfW x := by
  intro x hx
  simp only [planW, List.mem_cons, List.not_mem_nil, or_false] at hx
  rcases hx with rfl | rfl | rfl
  · exact ⟨by decide, Nat.zero_le _, Nat.zero_le _, by decide⟩
  · exact ⟨by decide, Nat.zero_le _, Nat.zero_le _, by decide⟩
  · exact ⟨(by decide : (Lit.int .i64 3).wf = true), ht, Nat.zero_le _, hm⟩
set_option maxHeartbeats 8000000
theorem step1_calls (h : JT w0 F jp tp x s R w) (ok : OkJ s x) (hp : s.ph = 1) :
    Calls Try.prog 10 #[.pointer (some ⟨jp, 0, none⟩), .iface 34 (.pointer (some ⟨tp, 0, none⟩))] w fun E w' => E = StepE (s.step x) ∧ JT w0 F jp tp x (s.step x) R w' := by
  have hu68 := Try.underlying68
  have hu28 := Try.underlying28
  have hu72 := Try.underlying72
  have hmf : ∀ (fn : Fn) (first cap : Array Value) (w : World), (Instr.makeFunc fn first cap).run Try.prog w = .ok (.func fn first cap) w := fun _ _ _ _ => rfl
  obtain ⟨t, ht⟩ : ∃ t, s.with_ (planW x.f1 4) (fun s => s.register x) = t := ⟨_, rfl⟩
  have c1 := h.c1
  have c11 : w.cell? ⟨jp, 11, none⟩ = some (.int .i64 1) := by rw [← hp]; exact h.c11
  have pl := h.lt
  have HS := Aside0.mk h
  have A25 := Aside0.mk (planReg_calls w x.f1)
  have A24 := Aside0.mk (fun W A c (h : JT w0 F jp tp x s (rowXC wntE (.slice A 3 c) (planW x.f1 4) :: R) W) => with26_calls (n := 3) rfl h (Nat.lt_of_lt_of_le ok.n (by decide)) ok.h (planW_wf ok.x1 (by decide)) (show (3 : Nat) ≤ 10 by decide) ok.x2)
  rw [ht] at A24
  have htr : t.tr = s.tr := by
    rw [← ht]
    unfold JS.with_
    split <;> rfl
  have A27 := Aside0.mk (fun W (h : JT w0 F jp tp x t R W) => failed_calls h 6 (by rw [htr]; exact ok.t))
  have hst : s.step x = (if (bits .and .i64 (s.ans.headD 0) 1 == 1) = true then t else t.failed 6) := by
    unfold JS.step
    rw [if_pos hp, ht]
  rw [hst]
  clear h hp ok hst ht htr
  cases hb : (bits .and .i64 (s.ans.headD 0) 1 == 1) with
  | true =>
    rw [hb] at A24
    rw [if_pos rfl]
    by_cases h5 : t.ph < 5
    · have e5 : decide (5 ≤ t.ph) = false := decide_eq_false (by omega)
      go_enter Try.func10, Try.ntmps10
      go_wp2_with (first
        | (go_at_call 25; refine A25.out.mono ?_; rintro E w1 ⟨A, c, rfl, hr, hbb, hf⟩; have HW := Aside0.mk (HS.out.fresh hbb (rowXC wntE _ _) hr (nd_bl _) hf); clear hr hbb hf HS A25 c1 c11 pl)
        | (go_at_call 24; refine (A24.out _ _ _ HW.out).mono ?_; rintro E w2 ⟨rfl, h⟩; have q1 := h.c11; have q2 := h.c14; have q3 := h.lt; have HT := Aside0.mk h; clear h HW A24))
      go_ret2
      refine ⟨?_, HT.out⟩
      unfold StepE
      rw [if_pos h5, e5]
      rfl
    · have e5 : decide (5 ≤ t.ph) = true := decide_eq_true (by omega)
      go_enter Try.func10, Try.ntmps10
      go_wp2_with (first
        | (go_at_call 25; refine A25.out.mono ?_; rintro E w1 ⟨A, c, rfl, hr, hbb, hf⟩; have HW := Aside0.mk (HS.out.fresh hbb (rowXC wntE _ _) hr (nd_bl _) hf); clear hr hbb hf HS A25 c1 c11 pl)
        | (go_at_call 24; refine (A24.out _ _ _ HW.out).mono ?_; rintro E w2 ⟨rfl, h⟩; have q1 := h.c11; have q2 := h.c14; have q3 := h.lt; have HT := Aside0.mk h; clear h HW A24))
      go_ret2
      refine ⟨?_, HT.out⟩
      unfold StepE
      rw [if_neg (by omega), e5]
      rfl
  | false =>
    rw [hb] at A24
    rw [if_neg (by decide)]
    obtain ⟨t2, ht2⟩ : ∃ t2, t.failed 6 = t2 := ⟨_, rfl⟩
    rw [ht2] at A27 ⊢
    clear ht2
    by_cases h5 : t2.ph < 5
    · have e5 : decide (5 ≤ t2.ph) = false := decide_eq_false (by omega)
      go_enter Try.func10, Try.ntmps10
      go_wp2_with (first
        | (go_at_call 25; refine A25.out.mono ?_; rintro E w1 ⟨A, c, rfl, hr, hbb, hf⟩; have HW := Aside0.mk (HS.out.fresh hbb (rowXC wntE _ _) hr (nd_bl _) hf); clear hr hbb hf HS A25 c1 c11 pl)
        | (go_at_call 24; refine (A24.out _ _ _ HW.out).mono ?_; rintro E w2 ⟨rfl, h⟩; have HT := Aside0.mk h; clear h HW A24)
        | (go_at_call 27; refine (A27.out _ HT.out).mono ?_; rintro E w3 ⟨rfl, h⟩; have q1 := h.c11; have q2 := h.c14; have q3 := h.lt; have HU := Aside0.mk h; clear h HT A27))
      go_ret2
      refine ⟨?_, HU.out⟩
      unfold StepE
      rw [if_pos h5, e5]
      rfl
    · have e5 : decide (5 ≤ t2.ph) = true := decide_eq_true (by omega)
      go_enter Try.func10, Try.ntmps10
      go_wp2_with (first
        | (go_at_call 25; refine A25.out.mono ?_; rintro E w1 ⟨A, c, rfl, hr, hbb, hf⟩; have HW := Aside0.mk (HS.out.fresh hbb (rowXC wntE _ _) hr (nd_bl _) hf); clear hr hbb hf HS A25 c1 c11 pl)
        | (go_at_call 24; refine (A24.out _ _ _ HW.out).mono ?_; rintro E w2 ⟨rfl, h⟩; have HT := Aside0.mk h; clear h HW A24)
        | (go_at_call 27; refine (A27.out _ HT.out).mono ?_; rintro E w3 ⟨rfl, h⟩; have q1 := h.c11; have q2 := h.c14; have q3 := h.lt; have HU := Aside0.mk h; clear h HT A27))
      go_ret2
      refine ⟨?_, HU.out⟩
      unfold StepE
      rw [if_neg (by omega), e5]
      rfl
theorem step4_calls (h : JT w0 F jp tp x s R w) (ok : OkJ s x) (hp : s.ph = 4) :
    Calls Try.prog 10 #[.pointer (some ⟨jp, 0, none⟩), .iface 34 (.pointer (some ⟨tp, 0, none⟩))] w fun E w' => E = StepE (s.step x) ∧ JT w0 F jp tp x (s.step x) R w' := by
  have hu68 := Try.underlying68
  have hu28 := Try.underlying28
  have hu72 := Try.underlying72
  have hmf : ∀ (fn : Fn) (first cap : Array Value) (w : World), (Instr.makeFunc fn first cap).run Try.prog w = .ok (.func fn first cap) w := fun _ _ _ _ => rfl
  obtain ⟨t, ht⟩ : ∃ t, s.with_ (planW x.f1 3) (fun s => s.settle x) = t := ⟨_, rfl⟩
  have c1 := h.c1
  have c11 : w.cell? ⟨jp, 11, none⟩ = some (.int .i64 4) := by rw [← hp]; exact h.c11
  have pl := h.lt
  have HS := Aside0.mk h
  have A25 := Aside0.mk (planMark_calls w x.f1)
  have A24 := Aside0.mk (fun W A c (h : JT w0 F jp tp x s (rowXC wntE (.slice A 3 c) (planW x.f1 3) :: R) W) => with30_calls (n := 3) rfl h (Nat.lt_of_lt_of_le ok.n (by decide)) ok.h (planW_wf ok.x1 (by decide)) (show (3 : Nat) ≤ 10 by decide) ok.x2)
  rw [ht] at A24
  have htr : t.tr = s.tr := by
    rw [← ht]
    unfold JS.with_
    split <;> rfl
  have A27 := Aside0.mk (fun W (h : JT w0 F jp tp x t R W) => failed_calls h 5 (by rw [htr]; exact ok.t))
  have hst : s.step x = (if (bits .and .i64 (s.ans.headD 0) 1 == 1) = true then t else t.failed 5) := by
    unfold JS.step
    rw [if_neg (by omega), if_neg (by omega), if_neg (by omega), if_pos hp, ht]
  rw [hst]
  clear h hp ok hst ht htr
  cases hb : (bits .and .i64 (s.ans.headD 0) 1 == 1) with
  | true =>
    rw [hb] at A24
    rw [if_pos rfl]
    by_cases h5 : t.ph < 5
    · have e5 : decide (5 ≤ t.ph) = false := decide_eq_false (by omega)
      go_enter Try.func10, Try.ntmps10
      go_wp2_with (first
        | (go_at_call 29; refine A25.out.mono ?_; rintro E w1 ⟨A, c, rfl, hr, hbb, hf⟩; have HW := Aside0.mk (HS.out.fresh hbb (rowXC wntE _ _) hr (nd_bl _) hf); clear hr hbb hf HS A25 c1 c11 pl)
        | (go_at_call 24; refine (A24.out _ _ _ HW.out).mono ?_; rintro E w2 ⟨rfl, h⟩; have q1 := h.c11; have q2 := h.c14; have q3 := h.lt; have HT := Aside0.mk h; clear h HW A24))
      go_ret2
      refine ⟨?_, HT.out⟩
      unfold StepE
      rw [if_pos h5, e5]
      rfl
    · have e5 : decide (5 ≤ t.ph) = true := decide_eq_true (by omega)
      go_enter Try.func10, Try.ntmps10
      go_wp2_with (first
        | (go_at_call 29; refine A25.out.mono ?_; rintro E w1 ⟨A, c, rfl, hr, hbb, hf⟩; have HW := Aside0.mk (HS.out.fresh hbb (rowXC wntE _ _) hr (nd_bl _) hf); clear hr hbb hf HS A25 c1 c11 pl)
        | (go_at_call 24; refine (A24.out _ _ _ HW.out).mono ?_; rintro E w2 ⟨rfl, h⟩; have q1 := h.c11; have q2 := h.c14; have q3 := h.lt; have HT := Aside0.mk h; clear h HW A24))
      go_ret2
      refine ⟨?_, HT.out⟩
      unfold StepE
      rw [if_neg (by omega), e5]
      rfl
  | false =>
    rw [hb] at A24
    rw [if_neg (by decide)]
    obtain ⟨t2, ht2⟩ : ∃ t2, t.failed 5 = t2 := ⟨_, rfl⟩
    rw [ht2] at A27 ⊢
    clear ht2
    by_cases h5 : t2.ph < 5
    · have e5 : decide (5 ≤ t2.ph) = false := decide_eq_false (by omega)
      go_enter Try.func10, Try.ntmps10
      go_wp2_with (first
        | (go_at_call 29; refine A25.out.mono ?_; rintro E w1 ⟨A, c, rfl, hr, hbb, hf⟩; have HW := Aside0.mk (HS.out.fresh hbb (rowXC wntE _ _) hr (nd_bl _) hf); clear hr hbb hf HS A25 c1 c11 pl)
        | (go_at_call 24; refine (A24.out _ _ _ HW.out).mono ?_; rintro E w2 ⟨rfl, h⟩; have HT := Aside0.mk h; clear h HW A24)
        | (go_at_call 27; refine (A27.out _ HT.out).mono ?_; rintro E w3 ⟨rfl, h⟩; have q1 := h.c11; have q2 := h.c14; have q3 := h.lt; have HU := Aside0.mk h; clear h HT A27))
      go_ret2
      refine ⟨?_, HU.out⟩
      unfold StepE
      rw [if_pos h5, e5]
      rfl
    · have e5 : decide (5 ≤ t2.ph) = true := decide_eq_true (by omega)
      go_enter Try.func10, Try.ntmps10
      go_wp2_with (first
        | (go_at_call 29; refine A25.out.mono ?_; rintro E w1 ⟨A, c, rfl, hr, hbb, hf⟩; have HW := Aside0.mk (HS.out.fresh hbb (rowXC wntE _ _) hr (nd_bl _) hf); clear hr hbb hf HS A25 c1 c11 pl)
        | (go_at_call 24; refine (A24.out _ _ _ HW.out).mono ?_; rintro E w2 ⟨rfl, h⟩; have HT := Aside0.mk h; clear h HW A24)
        | (go_at_call 27; refine (A27.out _ HT.out).mono ?_; rintro E w3 ⟨rfl, h⟩; have q1 := h.c11; have q2 := h.c14; have q3 := h.lt; have HU := Aside0.mk h; clear h HT A27))
      go_ret2
      refine ⟨?_, HU.out⟩
      unfold StepE
      rw [if_neg (by omega), e5]
      rfl
theorem step2_calls (h : JT w0 F jp tp x s R w) (ok : OkJ s x) (hp : s.ph = 2) :
    Calls Try.prog 10 #[.pointer (some ⟨jp, 0, none⟩), .iface 34 (.pointer (some ⟨tp, 0, none⟩))] w fun E w' => E = StepE (s.step x) ∧ JT w0 F jp tp x (s.step x) R w' := by
  have hu68 := Try.underlying68
  have hu28 := Try.underlying28
  have hu72 := Try.underlying72
  have hmf : ∀ (fn : Fn) (first cap : Array Value) (w : World), (Instr.makeFunc fn first cap).run Try.prog w = .ok (.func fn first cap) w := fun _ _ _ _ => rfl
  have c11 : w.cell? ⟨jp, 11, none⟩ = some (.int .i64 2) := by rw [← hp]; exact h.c11
  have pl := h.lt
  have hme := mn_Elder
  have A41 := Aside0.mk (elderJ h (Nat.lt_of_lt_of_le ok.n (by decide)))
  have hst : s.step x = (if (bits .and .i64 (s.ans.headD 0) 1 == 1) = true then s.said (⟨#[101, 108, 100, 101, 114]⟩ : ByteArray) else { s.said (⟨#[101, 108, 100, 101, 114]⟩ : ByteArray) with ph := 3 }) := by
    unfold JS.step
    rw [if_neg (by omega), if_pos hp]
  rw [hst]
  obtain ⟨t, ht⟩ : ∃ t, s.said (⟨#[101, 108, 100, 101, 114]⟩ : ByteArray) = t := ⟨_, rfl⟩
  have htp : t.ph = 2 := by rw [← ht]; exact hp
  rw [ht] at A41 ⊢
  clear h hp ok hst ht
  cases hb : (bits .and .i64 (s.ans.headD 0) 1 == 1) with
  | true =>
    rw [hb] at A41
    rw [if_pos rfl]
    have h5 : t.ph < 5 := by omega
    have e5 : decide (5 ≤ t.ph) = false := decide_eq_false (by omega)
    go_enter Try.func10, Try.ntmps10
    go_wp2_with (go_at_call 41; refine A41.out.mono ?_; rintro E w1 ⟨rfl, h⟩; clear c11 pl; have q1 := h.c11; have q2 := h.c14; have q3 := h.lt; rw [htp] at q1; have HT := Aside0.mk h; clear h A41)
    go_ret2
    refine ⟨?_, HT.out⟩
    unfold StepE
    rw [if_pos h5, e5]
    rfl
  | false =>
    rw [hb] at A41
    rw [if_neg (by decide)]
    have e5 : decide ((5 : Int) ≤ 3) = false := by decide
    have h5 : (3 : Int) < 5 := by decide
    go_enter Try.func10, Try.ntmps10
    go_wp2_with (go_at_call 41; refine A41.out.mono ?_; rintro E w1 ⟨rfl, h⟩; clear c11 pl; have q1 := h.c11; have q2 := h.c14; have q3 := h.lt; have fz := h.fz; rw [htp] at q1; have HT := Aside0.mk (h.phase 3); clear h A41)
    go_ret2
    refine ⟨?_, HT.out⟩
    show _ = Ending.returned (.tuple #[.int .i64 (if (3 : Int) < 5 then 0 else t.er), .bool (decide ((5 : Int) ≤ 3))])
    rw [if_pos h5, e5]
    rfl
theorem fill_ph (s : JS) (x : SV) (h : s.ph < 5) : (s.fill x).ph < 5 := by
  unfold JS.fill
  split
  · show (4 : Int) < 5
    decide
  · exact h
theorem step3_calls (h : JT w0 F jp tp x s R w) (ok : OkJ s x) (hp : s.ph = 3) :
    Calls Try.prog 10 #[.pointer (some ⟨jp, 0, none⟩), .iface 34 (.pointer (some ⟨tp, 0, none⟩))] w fun E w' => E = StepE (s.step x) ∧ JT w0 F jp tp x (s.step x) R w' := by
  have hu68 := Try.underlying68
  have hu28 := Try.underlying28
  have hu72 := Try.underlying72
  have hmf : ∀ (fn : Fn) (first cap : Array Value) (w : World), (Instr.makeFunc fn first cap).run Try.prog w = .ok (.func fn first cap) w := fun _ _ _ _ => rfl
  have c11 : w.cell? ⟨jp, 11, none⟩ = some (.int .i64 3) := by rw [← hp]; exact h.c11
  have pl := h.lt
  have hme := mn_Token
  have A41 := Aside0.mk (tokenJ h (Nat.lt_of_lt_of_le ok.n (by decide)))
  have hst : s.step x = (if (bits .and .i64 (s.ans.headD 0) 1 == 1) = true then (s.said (⟨#[116, 111, 107, 101, 110]⟩ : ByteArray)).fill x else s.said (⟨#[116, 111, 107, 101, 110]⟩ : ByteArray)) := by
    unfold JS.step
    rw [if_neg (by omega), if_neg (by omega), if_pos hp]
  rw [hst]
  have htn : (s.said (⟨#[116, 111, 107, 101, 110]⟩ : ByteArray)).txt.length < 999999 := by
    have := ok.n
    show (s.txt ++ [_]).length < _
    rw [List.length_append, List.length_singleton]
    omega
  have A28 := Aside0.mk (fun W (h : JT w0 F jp tp x (s.said (⟨#[116, 111, 107, 101, 110]⟩ : ByteArray)) R W) => fill_calls h htn ok.x2 ok.a ok.l)
  obtain ⟨t, ht⟩ : ∃ t, s.said (⟨#[116, 111, 107, 101, 110]⟩ : ByteArray) = t := ⟨_, rfl⟩
  have htp : t.ph = 3 := by rw [← ht]; exact hp
  rw [ht] at A41 A28 ⊢
  clear h hp ok hst ht htn
  cases hb : (bits .and .i64 (s.ans.headD 0) 1 == 1) with
  | true =>
    rw [hb] at A41
    rw [if_pos rfl]
    have h5 := fill_ph t x (by omega)
    obtain ⟨t2, ht2⟩ : ∃ t2, t.fill x = t2 := ⟨_, rfl⟩
    rw [ht2] at A28 h5 ⊢
    have e5 : decide (5 ≤ t2.ph) = false := decide_eq_false (by omega)
    clear ht2
    go_enter Try.func10, Try.ntmps10
    go_wp2_with (first | (go_at_call 42; refine A41.out.mono ?_; rintro E w1 ⟨rfl, h⟩; clear c11 pl; have HT := Aside0.mk h; clear h A41) | (go_at_call 28; refine (A28.out _ HT.out).mono ?_; rintro E w2 ⟨rfl, h⟩; have q1 := h.c11; have q2 := h.c14; have q3 := h.lt; have HU := Aside0.mk h; clear h HT A28))
    go_ret2
    refine ⟨?_, HU.out⟩
    unfold StepE
    rw [if_pos h5, e5]
    rfl
  | false =>
    rw [hb] at A41
    rw [if_neg (by decide)]
    have h5 : t.ph < 5 := by omega
    have e5 : decide (5 ≤ t.ph) = false := decide_eq_false (by omega)
    go_enter Try.func10, Try.ntmps10
    go_wp2_with (go_at_call 42; refine A41.out.mono ?_; rintro E w1 ⟨rfl, h⟩; clear c11 pl; have q1 := h.c11; have q2 := h.c14; have q3 := h.lt; rw [htp] at q1; have HT := Aside0.mk h; clear h A41)
    go_ret2
    refine ⟨?_, HT.out⟩
    unfold StepE
    rw [if_pos h5, e5]
    rfl
theorem step5_calls (h : JT w0 F jp tp x s R w) (ok : OkJ s x) (hp : s.ph = 5) :
    Calls Try.prog 10 #[.pointer (some ⟨jp, 0, none⟩), .iface 34 (.pointer (some ⟨tp, 0, none⟩))] w fun E w' => E = StepE (s.step x) ∧ JT w0 F jp tp x (s.step x) R w' := by
  have hu68 := Try.underlying68
  have hu28 := Try.underlying28
  have hu72 := Try.underlying72
  have hmf : ∀ (fn : Fn) (first cap : Array Value) (w : World), (Instr.makeFunc fn first cap).run Try.prog w = .ok (.func fn first cap) w := fun _ _ _ _ => rfl
  obtain ⟨t, ht⟩ : ∃ t, s.with_ ((planW x.f1 3).take 2) (fun s => s.abandon x) = t := ⟨_, rfl⟩
  have c1 := h.c1
  have c11 : w.cell? ⟨jp, 11, none⟩ = some (.int .i64 5) := by rw [← hp]; exact h.c11
  have pl := h.lt
  have HS := Aside0.mk h
  have A25 := Aside0.mk (planMark_calls w x.f1)
  have A24 := Aside0.mk (fun W A c (h : JT w0 F jp tp x s (rowXC wntE (.slice A 2 c) ((planW x.f1 3).take 2) :: R) W) => with31_calls (n := 2) rfl h (Nat.lt_of_lt_of_le ok.n (by decide)) ok.h (fun y hy => planW_wf ok.x1 (by decide) y (List.mem_of_mem_take hy)) (show (2 : Nat) ≤ 10 by decide) ok.x2)
  rw [ht] at A24
  have hst : s.step x = t := by
    unfold JS.step
    rw [if_neg (by omega), if_neg (by omega), if_neg (by omega), if_neg (by omega), if_pos hp, ht]
  rw [hst]
  obtain ⟨bb, hbb⟩ : ∃ b, (bits .and .i64 (s.ans.headD 0) 1 == 1) = b := ⟨_, rfl⟩
  rw [hbb] at A24
  clear h hp ok hst ht hbb
  by_cases h5 : t.ph < 5
  · have e5 : decide (5 ≤ t.ph) = false := decide_eq_false (by omega)
    go_enter Try.func10, Try.ntmps10
    go_wp2_with (first | (go_at_call 29; refine A25.out.mono ?_; rintro E w1 ⟨A, c, rfl, hr, hbb, hf⟩; obtain ⟨g, c', hv, hle⟩ := row_slice (n := 3) hr (by decide); obtain ⟨rfl, rfl⟩ : A = some ⟨g, 0, none⟩ ∧ c = c' := (by injection hv with e1 e2 e3; exact ⟨e1, e3⟩); have hr2 := RowX.cut hr 2 c (show (2 : Nat) ≤ 3 by decide) (by omega) (Nat.le_refl _); have HW := Aside0.mk (HS.out.fresh hbb (rowXC wntE _ _) hr2 (nd_bl (.slice (some ⟨g, 0, none⟩) 2 c)) hf); clear hr hr2 hv hbb hf HS A25 c1 c11 pl) | (go_at_call 24; refine (A24.out _ _ _ HW.out).mono ?_; rintro E w2 ⟨rfl, h⟩; have q1 := h.c11; have q2 := h.c14; have q3 := h.lt; have HT := Aside0.mk h; clear h HW A24))
    go_ret2
    refine ⟨?_, HT.out⟩
    unfold StepE
    rw [if_pos h5, e5]
    rfl
  · have e5 : decide (5 ≤ t.ph) = true := decide_eq_true (by omega)
    go_enter Try.func10, Try.ntmps10
    go_wp2_with (first | (go_at_call 29; refine A25.out.mono ?_; rintro E w1 ⟨A, c, rfl, hr, hbb, hf⟩; obtain ⟨g, c', hv, hle⟩ := row_slice (n := 3) hr (by decide); obtain ⟨rfl, rfl⟩ : A = some ⟨g, 0, none⟩ ∧ c = c' := (by injection hv with e1 e2 e3; exact ⟨e1, e3⟩); have hr2 := RowX.cut hr 2 c (show (2 : Nat) ≤ 3 by decide) (by omega) (Nat.le_refl _); have HW := Aside0.mk (HS.out.fresh hbb (rowXC wntE _ _) hr2 (nd_bl (.slice (some ⟨g, 0, none⟩) 2 c)) hf); clear hr hr2 hv hbb hf HS A25 c1 c11 pl) | (go_at_call 24; refine (A24.out _ _ _ HW.out).mono ?_; rintro E w2 ⟨rfl, h⟩; have q1 := h.c11; have q2 := h.c14; have q3 := h.lt; have HT := Aside0.mk h; clear h HW A24))
    go_ret2
    refine ⟨?_, HT.out⟩
    unfold StepE
    rw [if_neg (by omega), e5]
    rfl
theorem step6_calls (h : JT w0 F jp tp x s R w) (ok : OkJ s x) (hp : s.ph < 1 ∨ 5 < s.ph) :
    Calls Try.prog 10 #[.pointer (some ⟨jp, 0, none⟩), .iface 34 (.pointer (some ⟨tp, 0, none⟩))] w fun E w' => E = StepE (s.step x) ∧ JT w0 F jp tp x (s.step x) R w' := by
  have hu68 := Try.underlying68
  have hu28 := Try.underlying28
  have hu72 := Try.underlying72
  have hmf : ∀ (fn : Fn) (first cap : Array Value) (w : World), (Instr.makeFunc fn first cap).run Try.prog w = .ok (.func fn first cap) w := fun _ _ _ _ => rfl
  have c11 := h.c11
  have c14 := h.c14
  have pl := h.lt
  have HS := Aside0.mk h
  have hst : s.step x = s := by
    unfold JS.step
    rw [if_neg (by omega), if_neg (by omega), if_neg (by omega), if_neg (by omega), if_neg (by omega)]
  rw [hst]
  clear h ok hst
  have h1 : ¬ s.ph = 1 := by omega
  have h2 : ¬ s.ph = 2 := by omega
  have h3 : ¬ s.ph = 3 := by omega
  have h4 : ¬ s.ph = 4 := by omega
  have h5' : ¬ s.ph = 5 := by omega
  by_cases h5 : s.ph < 5
  · have e5 : decide (5 ≤ s.ph) = false := decide_eq_false (by omega)
    go_enter Try.func10, Try.ntmps10
    go_wp2
    go_ret2
    refine ⟨?_, HS.out⟩
    unfold StepE
    rw [if_pos h5, e5]
    rfl
  · have e5 : decide (5 ≤ s.ph) = true := decide_eq_true (by omega)
    go_enter Try.func10, Try.ntmps10
    go_wp2
    go_ret2
    refine ⟨?_, HS.out⟩
    unfold StepE
    rw [if_neg (by omega), e5]
    rfl
theorem step_calls (h : JT w0 F jp tp x s R w) (ok : OkJ s x) :
    Calls Try.prog 10 #[.pointer (some ⟨jp, 0, none⟩), .iface 34 (.pointer (some ⟨tp, 0, none⟩))] w fun E w' => E = StepE (s.step x) ∧ JT w0 F jp tp x (s.step x) R w' := by
  by_cases h1 : s.ph = 1
  · exact step1_calls h ok h1
  by_cases h2 : s.ph = 2
  · exact step2_calls h ok h2
  by_cases h3 : s.ph = 3
  · exact step3_calls h ok h3
  by_cases h4 : s.ph = 4
  · exact step4_calls h ok h4
  by_cases h5 : s.ph = 5
  · exact step5_calls h ok h5
  exact step6_calls h ok (by omega)
end
end Go.Proofs.Kb
end
section
namespace Go.Proofs.Kb
open Go Go.RowKit Go.Proofs.Ytnojcnmnkkgkgaa.Q Go.Proofs.YtnojcnmnkkgkgaaW.PrintWords Go.Proofs.YtnojcnmnkkgkgaaW.PrintLast Go.Proofs.YtnojcnmnkkgkgaaW.PrintMore
set_option linter.unusedVariables false
set_option linter.unusedSimpArgs false
set_option maxRecDepth 100000
structure SR (w : World) (x : SV) (l6 : List S60) (l7 : List S62) (l8 : List S64) (l9 : List S66) (l10 : List ByteArray) : Prop where
  h6 : Src valE w x.f6.v l6
  h7 : Src setE w x.f7.v l7
  h8 : Src cndE w x.f8.v l8
  h9 : Src colE w x.f9.v l9
  h10 : Src txtE w x.f10.v l10
theorem SR.below {w w' : World} {x : SV} {l6 : List S60} {l7 : List S62} {l8 : List S64} {l9 : List S66} {l10 : List ByteArray} (h : SR w x l6 l7 l8 l9 l10) (hb : Below w.heap.size w w') : SR w' x l6 l7 l8 l9 l10 :=
  ⟨h.h6.below hb, h.h7.below hb, h.h8.below hb, h.h9.below hb, h.h10.below hb⟩
structure SN (l6 : List S60) (l7 : List S62) (l8 : List S64) (l9 : List S66) (l10 : List ByteArray) : Prop where
  n6 : l6.length < 1000000
  n7 : l7.length < 1000000
  n8 : l8.length < 1000000
  n9 : l9.length < 1000000
  n10 : l10.length < 1000000
def srC (x : SV) (l6 : List S60) (l7 : List S62) (l8 : List S64) (l9 : List S66) (l10 : List ByteArray) : List Chunk := [rowXC valE x.f6.v l6, rowXC setE x.f7.v l7, rowXC cndE x.f8.v l8, rowXC colE x.f9.v l9, rowXC txtE x.f10.v l10]
def Cl23 (w : World) (x : SV) (l6 : List S60) (l7 : List S62) (l8 : List S64) (l9 : List S66) (l10 : List ByteArray) (E : Ending) (w' : World) : Prop :=
  ∃ y : SV, (y.f0 = x.f0 ∧ y.f1 = x.f1 ∧ y.f2 = x.f2 ∧ y.f3 = x.f3 ∧ y.f4 = x.f4 ∧ y.f5 = x.f5) ∧ E = .returned (.agg #[.int .i64 y.f0, .string y.f1, .string y.f2, .string y.f3, .int .i64 y.f4, .bool y.f5, .slice y.f6.A y.f6.n y.f6.c, .slice y.f7.A y.f7.n y.f7.c, .slice y.f8.A y.f8.n y.f8.c, .slice y.f9.A y.f9.n y.f9.c, .slice y.f10.A y.f10.n y.f10.c]) ∧ St w NoF w' (srC y l6 l7 l8 l9 l10)
set_option maxHeartbeats 8000000 in
theorem cloned_calls (w : World) (x : SV) (l6 : List S60) (l7 : List S62) (l8 : List S64) (l9 : List S66) (l10 : List ByteArray) (h : SR w x l6 l7 l8 l9 l10) (hn : SN l6 l7 l8 l9 l10) :
    Calls Try.prog 23 #[.agg #[.int .i64 x.f0, .string x.f1, .string x.f2, .string x.f3, .int .i64 x.f4, .bool x.f5, .slice x.f6.A x.f6.n x.f6.c, .slice x.f7.A x.f7.n x.f7.c, .slice x.f8.A x.f8.n x.f8.c, .slice x.f9.A x.f9.n x.f9.c, .slice x.f10.A x.f10.n x.f10.c]] w (Cl23 w x l6 l7 l8 l9 l10) := by
  obtain ⟨Q, hQ⟩ : ∃ Q, Cl23 w x l6 l7 l8 l9 l10 = Q := ⟨_, rfl⟩
  have HQ := Aside0.mk hQ
  rw [hQ]
  have hu28 := Try.underlying28
  have hu22 := Try.underlying22
  have hu23 := Try.underlying23
  have hu24 := Try.underlying24
  have hu25 := Try.underlying25
  have hu26 := Try.underlying26
  have HR := Aside0.mk h
  have HN := Aside0.mk hn
  obtain ⟨n0, hn0⟩ : ∃ n, w.heap.size = n := ⟨_, rfl⟩
  have h1 := (St.nil0 w NoF).alloc #[.int .i64 x.f0, .string x.f1, .string x.f2, .string x.f3, .int .i64 x.f4, .bool x.f5, .slice x.f6.A x.f6.n x.f6.c, .slice x.f7.A x.f7.n x.f7.c, .slice x.f8.A x.f8.n x.f8.c, .slice x.f9.A x.f9.n x.f9.c, .slice x.f10.A x.f10.n x.f10.c] 28 hn0
  obtain ⟨W1, hW1⟩ : ∃ W, w.alloc (.cells #[.int .i64 x.f0, .string x.f1, .string x.f2, .string x.f3, .int .i64 x.f4, .bool x.f5, .slice x.f6.A x.f6.n x.f6.c, .slice x.f7.A x.f7.n x.f7.c, .slice x.f8.A x.f8.n x.f8.c, .slice x.f9.A x.f9.n x.f9.c, .slice x.f10.A x.f10.n x.f10.c] 28) = W := ⟨_, rfl⟩
  rw [hW1] at h1
  have hs1 : W1.heap.size = n0 + 1 := by rw [← hW1, ← hn0]; simp
  obtain ⟨n1, hn1⟩ : ∃ n, n0 + 1 = n := ⟨_, rfl⟩
  rw [hn1] at hs1
  have h2 := h1.alloc #[.int .i64 0, .string ⟨#[]⟩, .string ⟨#[]⟩, .string ⟨#[]⟩, .int .i64 0, .bool false, .slice none 0 0, .slice none 0 0, .slice none 0 0, .slice none 0 0, .slice none 0 0] 28 hs1
  obtain ⟨W2, hW2⟩ : ∃ W, W1.alloc (.cells #[.int .i64 0, .string ⟨#[]⟩, .string ⟨#[]⟩, .string ⟨#[]⟩, .int .i64 0, .bool false, .slice none 0 0, .slice none 0 0, .slice none 0 0, .slice none 0 0, .slice none 0 0] 28) = W := ⟨_, rfl⟩
  rw [hW2] at h2
  have HS := Aside0.mk (show St w NoF W2 [blkC n0 (.cells #[.int .i64 x.f0, .string x.f1, .string x.f2, .string x.f3, .int .i64 x.f4, .bool x.f5, .slice x.f6.A x.f6.n x.f6.c, .slice x.f7.A x.f7.n x.f7.c, .slice x.f8.A x.f8.n x.f8.c, .slice x.f9.A x.f9.n x.f9.c, .slice x.f10.A x.f10.n x.f10.c] 28 (0, 0)), blkC n1 (.cells #[.int .i64 0, .string ⟨#[]⟩, .string ⟨#[]⟩, .string ⟨#[]⟩, .int .i64 0, .bool false, .slice none 0 0, .slice none 0 0, .slice none 0 0, .slice none 0 0, .slice none 0 0] 28 (0, 0))] from h2)
  clear h hn h1 h2 hQ
  go_enter Try.func23, Try.ntmps23
  go_wp2
  refine start_ (n := 15) (S := fun w' => w'.cell? ⟨n0, 6, none⟩ = some (.slice x.f6.A x.f6.n x.f6.c) ∧ w'.cell? ⟨n0, 7, none⟩ = some (.slice x.f7.A x.f7.n x.f7.c) ∧ w'.cell? ⟨n0, 8, none⟩ = some (.slice x.f8.A x.f8.n x.f8.c)) (ds := [10, 12, 14]) #[false, false, false, false, false, false, false, false, false, false, false, false, false, false, false] (by kernel_rfl) rfl rfl ⟨(blk_cell (HS.out.blk 0 rfl) 6).trans rfl, (blk_cell (HS.out.blk 0 rfl) 7).trans rfl, (blk_cell (HS.out.blk 0 rfl) 8).trans rfl⟩ (fun hHeld => ?_)
  have HS11 := Aside0.mk (HS.out.drew)
  clear HS
  generalize W2.drew = w20 at HS11 hHeld  ⊢
  refine pure_ (i := 0) (N := (some 3)) (v := ?_) (a' := ?_) #[true, false, false, false, false, false, false, false, false, false, false, false, false, false, false] rfl rfl (by kernel_rfl) (fun _ _ _ h => h) (Or.inl ⟨by rfl, ?_⟩) ?_ ?_
  rotate_left
  · intro w'
    go_simp
    with_reducible rfl
  rotate_left
  · simp only [Act.put, List.setIfInBounds_toArray, List.set_cons_zero, List.set_cons_succ, i64_w, i32_w]
    rfl
  refine pure_ (i := 3) (N := (some 6)) (v := ?_) (a' := ?_) #[true, false, false, true, false, false, false, false, false, false, false, false, false, false, false] rfl rfl (by kernel_rfl) (fun _ _ _ h => h) (Or.inl ⟨by rfl, ?_⟩) ?_ ?_
  rotate_left
  · intro w'
    go_simp
    with_reducible rfl
  rotate_left
  · simp only [Act.put, List.setIfInBounds_toArray, List.set_cons_zero, List.set_cons_succ, i64_w, i32_w]
    rfl
  refine pure_ (i := 6) (N := (some 9)) (v := ?_) (a' := ?_) #[true, false, false, true, false, false, true, false, false, false, false, false, false, false, false] rfl rfl (by kernel_rfl) (fun _ _ _ h => h) (Or.inl ⟨by rfl, ?_⟩) ?_ ?_
  rotate_left
  · intro w'
    go_simp
    with_reducible rfl
  rotate_left
  · simp only [Act.put, List.setIfInBounds_toArray, List.set_cons_zero, List.set_cons_succ, i64_w, i32_w]
    rfl
  refine take_ (i := 1) (N := (some 4)) (v := ?_) (a' := ?_) #[true, true, false, true, false, false, true, false, false, false, false, false, false, false, false] rfl rfl (by kernel_rfl) (fun _ _ _ h => h) (Or.inl ⟨by rfl, ?_⟩) hHeld ?_ ?_
  rotate_left
  · rintro w' ⟨s0, s1, s2⟩
    go_simp
    with_reducible rfl
  rotate_left
  · simp only [Act.put, List.setIfInBounds_toArray, List.set_cons_zero, List.set_cons_succ, i64_w, i32_w]
    rfl
  refine take_ (i := 4) (N := (some 7)) (v := ?_) (a' := ?_) #[true, true, false, true, true, false, true, false, false, false, false, false, false, false, false] rfl rfl (by kernel_rfl) (fun _ _ _ h => h) (Or.inl ⟨by rfl, ?_⟩) hHeld ?_ ?_
  rotate_left
  · rintro w' ⟨s0, s1, s2⟩
    go_simp
    with_reducible rfl
  rotate_left
  · simp only [Act.put, List.setIfInBounds_toArray, List.set_cons_zero, List.set_cons_succ, i64_w, i32_w]
    rfl
  refine take_ (i := 7) (N := (some 10)) (v := ?_) (a' := ?_) #[true, true, false, true, true, false, true, true, false, false, false, false, false, false, false] rfl rfl (by kernel_rfl) (fun _ _ _ h => h) (Or.inl ⟨by rfl, ?_⟩) hHeld ?_ ?_
  rotate_left
  · rintro w' ⟨s0, s1, s2⟩
    go_simp
    with_reducible rfl
  rotate_left
  · simp only [Act.put, List.setIfInBounds_toArray, List.set_cons_zero, List.set_cons_succ, i64_w, i32_w]
    rfl
  refine one_ (i := 2) (N := (some 5)) #[true, true, true, true, true, false, true, true, false, false, false, false, false, false, false] rfl rfl (by kernel_rfl) (by decide) (fun K_ hK => ?_)
  refine goes_ Try.func47 (by kernel_rfl) rfl #[.slice x.f6.A x.f6.n x.f6.c] (by rfl) rfl rfl (by (try simp only [List.map_toArray, List.map_cons, List.map_nil]); first | done | rfl) ?_
  refine (cloneX47 _ _ l6 (HR.out.below (keep_below HS11.out.keep)).h6 HN.out.n6).mono ?_
  rintro E w26 ⟨v6, rfl, hr, hbb, hf⟩
  obtain ⟨A6, c6, rfl⟩ := hr.form
  have HS12 := Aside0.mk ((HS11.out.fresh hbb (rowXC valE _ _) hr (nd_bl _) hf).perm (List.perm_append_comm (l₁ := [_])))
  clear HS11
  clear hr hbb hf
  refine ⟨_, rfl, ?_⟩
  clear hHeld
  refine hK.out _ _ ⟨(blk_cell (HS12.out.blk 0 rfl) 6).trans rfl, (blk_cell (HS12.out.blk 0 rfl) 7).trans rfl, (blk_cell (HS12.out.blk 0 rfl) 8).trans rfl⟩ (fun hHeld => ?_)
  clear hK K_
  refine norm_ (a' := ?_) ?_ ?_
  rotate_left
  · show Act.put _ (some 5) _ = _
    simp only [Act.put, List.setIfInBounds_toArray, List.set_cons_zero, List.set_cons_succ, i64_w, i32_w]
    rfl
  refine pure_ (i := 9) (N := (some 12)) (v := ?_) (a' := ?_) #[true, true, true, true, true, false, true, true, false, true, false, false, false, false, false] rfl rfl (by kernel_rfl) (fun _ _ _ h => h) (Or.inl ⟨by rfl, ?_⟩) ?_ ?_
  rotate_left
  · intro w'
    go_simp
    with_reducible rfl
  rotate_left
  · simp only [Act.put, List.setIfInBounds_toArray, List.set_cons_zero, List.set_cons_succ, i64_w, i32_w]
    rfl
  refine one_ (i := 5) (N := (some 8)) #[true, true, true, true, true, true, true, true, false, true, false, false, false, false, false] rfl rfl (by kernel_rfl) (by decide) (fun K_ hK => ?_)
  refine goes_ Try.func48 (by kernel_rfl) rfl #[.slice x.f7.A x.f7.n x.f7.c] (by rfl) rfl rfl (by (try simp only [List.map_toArray, List.map_cons, List.map_nil]); first | done | rfl) ?_
  refine (cloneX48 _ _ l7 (HR.out.below (keep_below HS12.out.keep)).h7 HN.out.n7).mono ?_
  rintro E w27 ⟨v7, rfl, hr, hbb, hf⟩
  obtain ⟨A7, c7, rfl⟩ := hr.form
  have HS13 := Aside0.mk ((HS12.out.fresh hbb (rowXC setE _ _) hr (nd_bl _) hf).perm (List.perm_append_comm (l₁ := [_])))
  clear HS12
  clear hr hbb hf
  refine ⟨_, rfl, ?_⟩
  clear hHeld
  refine hK.out _ _ ⟨(blk_cell (HS13.out.blk 0 rfl) 6).trans rfl, (blk_cell (HS13.out.blk 0 rfl) 7).trans rfl, (blk_cell (HS13.out.blk 0 rfl) 8).trans rfl⟩ (fun hHeld => ?_)
  clear hK K_
  refine norm_ (a' := ?_) ?_ ?_
  rotate_left
  · show Act.put _ (some 8) _ = _
    simp only [Act.put, List.setIfInBounds_toArray, List.set_cons_zero, List.set_cons_succ, i64_w, i32_w]
    rfl
  refine one_ (i := 8) (N := (some 11)) #[true, true, true, true, true, true, true, true, true, true, false, false, false, false, false] rfl rfl (by kernel_rfl) (by decide) (fun K_ hK => ?_)
  refine goes_ Try.func49 (by kernel_rfl) rfl #[.slice x.f8.A x.f8.n x.f8.c] (by rfl) rfl rfl (by (try simp only [List.map_toArray, List.map_cons, List.map_nil]); first | done | rfl) ?_
  refine (cloneX49 _ _ l8 (HR.out.below (keep_below HS13.out.keep)).h8 HN.out.n8).mono ?_
  rintro E w28 ⟨v8, rfl, hr, hbb, hf⟩
  obtain ⟨A8, c8, rfl⟩ := hr.form
  have HS14 := Aside0.mk ((HS13.out.fresh hbb (rowXC cndE _ _) hr (nd_bl _) hf).perm (List.perm_append_comm (l₁ := [_])))
  clear HS13
  clear hr hbb hf
  refine ⟨_, rfl, ?_⟩
  clear hHeld
  refine hK.out _ _ ⟨(blk_cell (HS14.out.blk 0 rfl) 6).trans rfl, (blk_cell (HS14.out.blk 0 rfl) 7).trans rfl, (blk_cell (HS14.out.blk 0 rfl) 8).trans rfl⟩ (fun hHeld => ?_)
  clear hK K_
  refine norm_ (a' := ?_) ?_ ?_
  rotate_left
  · show Act.put _ (some 11) _ = _
    simp only [Act.put, List.setIfInBounds_toArray, List.set_cons_zero, List.set_cons_succ, i64_w, i32_w]
    rfl
  refine last_ (i := 10) (N := none) #[true, true, true, true, true, true, true, true, true, true, true, false, false, false, false] rfl rfl (by kernel_rfl) (by decide) (fun K_ hK => ?_)
  have c_0 := (blk_cell (HS14.out.blk 0 rfl) 6).trans rfl
  have c_1 := frozen_of_row _ n0 6 _ _ (HS14.out.blk 0 rfl)
  have c_2 := lt_of_some (HS14.out.blk 0 rfl)
  refine skip_ (w1 := ?_) (by rfl) rfl ?_ ?_
  rotate_left
  · go_simp
    rfl
  refine hK.out _ _ ?_
  clear hK K_ hHeld c_0 c_1 c_2
  have HS15 := Aside0.mk (HS14.out.putBlk 0 rfl 6 (.slice A6 l6.length c6) rfl)
  clear HS14
  generalize w28.setCell ⟨n0, 6, none⟩ (.slice A6 l6.length c6) = w31 at HS15 ⊢
  refine pure_ (i := 11) (N := (some 13)) (v := ?_) (a' := ?_) #[true, true, true, true, true, true, true, true, true, true, true, true, false, false, false] rfl rfl (by kernel_rfl) (fun _ _ _ h => h) (Or.inl ⟨by rfl, ?_⟩) ?_ ?_
  rotate_left
  · intro w'
    go_simp
    with_reducible rfl
  rotate_left
  · simp only [Act.put, List.setIfInBounds_toArray, List.set_cons_zero, List.set_cons_succ, i64_w, i32_w]
    rfl
  refine last_ (i := 12) (N := none) #[true, true, true, true, true, true, true, true, true, true, true, true, true, false, false] rfl rfl (by kernel_rfl) (by decide) (fun K_ hK => ?_)
  have c_0 := (blk_cell (HS15.out.blk 0 rfl) 7).trans rfl
  have c_1 := frozen_of_row _ n0 7 _ _ (HS15.out.blk 0 rfl)
  have c_2 := lt_of_some (HS15.out.blk 0 rfl)
  refine skip_ (w1 := ?_) (by rfl) rfl ?_ ?_
  rotate_left
  · go_simp
    rfl
  refine hK.out _ _ ?_
  clear hK K_ c_0 c_1 c_2
  have HS16 := Aside0.mk (HS15.out.putBlk 0 rfl 7 (.slice A7 l7.length c7) rfl)
  clear HS15
  generalize w31.setCell ⟨n0, 7, none⟩ (.slice A7 l7.length c7) = w32 at HS16 ⊢
  refine pure_ (i := 13) (N := (some 14)) (v := ?_) (a' := ?_) #[true, true, true, true, true, true, true, true, true, true, true, true, true, true, false] rfl rfl (by kernel_rfl) (fun _ _ _ h => h) (Or.inl ⟨by rfl, ?_⟩) ?_ ?_
  rotate_left
  · intro w'
    go_simp
    with_reducible rfl
  rotate_left
  · simp only [Act.put, List.setIfInBounds_toArray, List.set_cons_zero, List.set_cons_succ, i64_w, i32_w]
    rfl
  refine last_ (i := 14) (N := none) #[true, true, true, true, true, true, true, true, true, true, true, true, true, true, true] rfl rfl (by kernel_rfl) (by decide) (fun K_ hK => ?_)
  have c_0 := (blk_cell (HS16.out.blk 0 rfl) 8).trans rfl
  have c_1 := frozen_of_row _ n0 8 _ _ (HS16.out.blk 0 rfl)
  have c_2 := lt_of_some (HS16.out.blk 0 rfl)
  refine skip_ (w1 := ?_) (by rfl) rfl ?_ ?_
  rotate_left
  · go_simp
    rfl
  refine hK.out _ _ ?_
  clear hK K_ c_0 c_1 c_2
  have HS17 := Aside0.mk (HS16.out.putBlk 0 rfl 8 (.slice A8 l8.length c8) rfl)
  clear HS16
  generalize w32.setCell ⟨n0, 8, none⟩ (.slice A8 l8.length c8) = w33 at HS17 ⊢
  refine done_ (by kernel_rfl) ?_
  go_wp2
  refine start_ (n := 10) (S := fun w' => w'.cell? ⟨n0, 9, none⟩ = some (.slice x.f9.A x.f9.n x.f9.c) ∧ w'.cell? ⟨n0, 10, none⟩ = some (.slice x.f10.A x.f10.n x.f10.c)) (ds := [7, 9]) #[false, false, false, false, false, false, false, false, false, false] (by kernel_rfl) rfl rfl ⟨(blk_cell (HS17.out.blk 0 rfl) 9).trans rfl, (blk_cell (HS17.out.blk 0 rfl) 10).trans rfl⟩ (fun hHeld => ?_)
  have HS18 := Aside0.mk (HS17.out.drew)
  clear HS17
  generalize w33.drew = w29 at HS18 hHeld  ⊢
  refine pure_ (i := 0) (N := (some 15)) (v := ?_) (a' := ?_) #[true, false, false, false, false, false, false, false, false, false] rfl rfl (by kernel_rfl) (fun _ _ _ h => h) (Or.inl ⟨by rfl, ?_⟩) ?_ ?_
  rotate_left
  · intro w'
    go_simp
    with_reducible rfl
  rotate_left
  · simp only [Act.put, List.setIfInBounds_toArray, List.set_cons_zero, List.set_cons_succ, i64_w, i32_w]
    rfl
  refine pure_ (i := 3) (N := (some 18)) (v := ?_) (a' := ?_) #[true, false, false, true, false, false, false, false, false, false] rfl rfl (by kernel_rfl) (fun _ _ _ h => h) (Or.inl ⟨by rfl, ?_⟩) ?_ ?_
  rotate_left
  · intro w'
    go_simp
    with_reducible rfl
  rotate_left
  · simp only [Act.put, List.setIfInBounds_toArray, List.set_cons_zero, List.set_cons_succ, i64_w, i32_w]
    rfl
  refine take_ (i := 1) (N := (some 16)) (v := ?_) (a' := ?_) #[true, true, false, true, false, false, false, false, false, false] rfl rfl (by kernel_rfl) (fun _ _ _ h => h) (Or.inl ⟨by rfl, ?_⟩) hHeld ?_ ?_
  rotate_left
  · rintro w' ⟨s0, s1⟩
    go_simp
    with_reducible rfl
  rotate_left
  · simp only [Act.put, List.setIfInBounds_toArray, List.set_cons_zero, List.set_cons_succ, i64_w, i32_w]
    rfl
  refine take_ (i := 4) (N := (some 19)) (v := ?_) (a' := ?_) #[true, true, false, true, true, false, false, false, false, false] rfl rfl (by kernel_rfl) (fun _ _ _ h => h) (Or.inl ⟨by rfl, ?_⟩) hHeld ?_ ?_
  rotate_left
  · rintro w' ⟨s0, s1⟩
    go_simp
    with_reducible rfl
  rotate_left
  · simp only [Act.put, List.setIfInBounds_toArray, List.set_cons_zero, List.set_cons_succ, i64_w, i32_w]
    rfl
  refine one_ (i := 2) (N := (some 17)) #[true, true, true, true, true, false, false, false, false, false] rfl rfl (by kernel_rfl) (by decide) (fun K_ hK => ?_)
  refine goes_ Try.func50 (by kernel_rfl) rfl #[.slice x.f9.A x.f9.n x.f9.c] (by rfl) rfl rfl (by (try simp only [List.map_toArray, List.map_cons, List.map_nil]); first | done | rfl) ?_
  refine (cloneX50 _ _ l9 (HR.out.below (keep_below HS18.out.keep)).h9 HN.out.n9).mono ?_
  rintro E w29 ⟨v9, rfl, hr, hbb, hf⟩
  obtain ⟨A9, c9, rfl⟩ := hr.form
  have HS19 := Aside0.mk ((HS18.out.fresh hbb (rowXC colE _ _) hr (nd_bl _) hf).perm (List.perm_append_comm (l₁ := [_])))
  clear HS18
  clear hr hbb hf
  refine ⟨_, rfl, ?_⟩
  clear hHeld
  refine hK.out _ _ ⟨(blk_cell (HS19.out.blk 0 rfl) 9).trans rfl, (blk_cell (HS19.out.blk 0 rfl) 10).trans rfl⟩ (fun hHeld => ?_)
  clear hK K_
  refine norm_ (a' := ?_) ?_ ?_
  rotate_left
  · show Act.put _ (some 17) _ = _
    simp only [Act.put, List.setIfInBounds_toArray, List.set_cons_zero, List.set_cons_succ, i64_w, i32_w]
    rfl
  refine pure_ (i := 6) (N := (some 21)) (v := ?_) (a' := ?_) #[true, true, true, true, true, false, true, false, false, false] rfl rfl (by kernel_rfl) (fun _ _ _ h => h) (Or.inl ⟨by rfl, ?_⟩) ?_ ?_
  rotate_left
  · intro w'
    go_simp
    with_reducible rfl
  rotate_left
  · simp only [Act.put, List.setIfInBounds_toArray, List.set_cons_zero, List.set_cons_succ, i64_w, i32_w]
    rfl
  refine one_ (i := 5) (N := (some 20)) #[true, true, true, true, true, true, true, false, false, false] rfl rfl (by kernel_rfl) (by decide) (fun K_ hK => ?_)
  refine goes_ Try.func51 (by kernel_rfl) rfl #[.slice x.f10.A x.f10.n x.f10.c] (by rfl) rfl rfl (by (try simp only [List.map_toArray, List.map_cons, List.map_nil]); first | done | rfl) ?_
  refine (cloneX51 _ _ l10 (HR.out.below (keep_below HS19.out.keep)).h10 HN.out.n10).mono ?_
  rintro E w30 ⟨v10, rfl, hr, hbb, hf⟩
  obtain ⟨A10, c10, rfl⟩ := hr.form
  have HS20 := Aside0.mk ((HS19.out.fresh hbb (rowXC txtE _ _) hr (nd_bl _) hf).perm (List.perm_append_comm (l₁ := [_])))
  clear HS19
  clear hr hbb hf
  refine ⟨_, rfl, ?_⟩
  clear hHeld
  refine hK.out _ _ ⟨(blk_cell (HS20.out.blk 0 rfl) 9).trans rfl, (blk_cell (HS20.out.blk 0 rfl) 10).trans rfl⟩ (fun hHeld => ?_)
  clear hK K_
  refine norm_ (a' := ?_) ?_ ?_
  rotate_left
  · show Act.put _ (some 20) _ = _
    simp only [Act.put, List.setIfInBounds_toArray, List.set_cons_zero, List.set_cons_succ, i64_w, i32_w]
    rfl
  refine last_ (i := 7) (N := none) #[true, true, true, true, true, true, true, true, false, false] rfl rfl (by kernel_rfl) (by decide) (fun K_ hK => ?_)
  have c_0 := (blk_cell (HS20.out.blk 0 rfl) 9).trans rfl
  have c_1 := frozen_of_row _ n0 9 _ _ (HS20.out.blk 0 rfl)
  have c_2 := lt_of_some (HS20.out.blk 0 rfl)
  refine skip_ (w1 := ?_) (by rfl) rfl ?_ ?_
  rotate_left
  · go_simp
    rfl
  refine hK.out _ _ ?_
  clear hK K_ hHeld c_0 c_1 c_2
  have HS21 := Aside0.mk (HS20.out.putBlk 0 rfl 9 (.slice A9 l9.length c9) rfl)
  clear HS20
  generalize w30.setCell ⟨n0, 9, none⟩ (.slice A9 l9.length c9) = w34 at HS21 ⊢
  refine pure_ (i := 8) (N := (some 22)) (v := ?_) (a' := ?_) #[true, true, true, true, true, true, true, true, true, false] rfl rfl (by kernel_rfl) (fun _ _ _ h => h) (Or.inl ⟨by rfl, ?_⟩) ?_ ?_
  rotate_left
  · intro w'
    go_simp
    with_reducible rfl
  rotate_left
  · simp only [Act.put, List.setIfInBounds_toArray, List.set_cons_zero, List.set_cons_succ, i64_w, i32_w]
    rfl
  refine last_ (i := 9) (N := none) #[true, true, true, true, true, true, true, true, true, true] rfl rfl (by kernel_rfl) (by decide) (fun K_ hK => ?_)
  have c_0 := (blk_cell (HS21.out.blk 0 rfl) 10).trans rfl
  have c_1 := frozen_of_row _ n0 10 _ _ (HS21.out.blk 0 rfl)
  have c_2 := lt_of_some (HS21.out.blk 0 rfl)
  refine skip_ (w1 := ?_) (by rfl) rfl ?_ ?_
  rotate_left
  · go_simp
    rfl
  refine hK.out _ _ ?_
  clear hK K_ c_0 c_1 c_2
  have HS22 := Aside0.mk (HS21.out.putBlk 0 rfl 10 (.slice A10 l10.length c10) rfl)
  clear HS21
  generalize w34.setCell ⟨n0, 10, none⟩ (.slice A10 l10.length c10) = w35 at HS22 ⊢
  refine done_ (by kernel_rfl) ?_
  have h := HS22.out
  have hb0 := h.blk 0 rfl
  have hb1 := h.blk 1 rfl
  have p0 : w35.cell? ⟨n0, 0, none⟩ = some (.int .i64 x.f0) := (blk_cell hb0 0).trans rfl
  have z0 : w35.cell? ⟨n1, 0, none⟩ = some (.int .i64 0) := (blk_cell hb1 0).trans rfl
  have p1 : w35.cell? ⟨n0, 1, none⟩ = some (.string x.f1) := (blk_cell hb0 1).trans rfl
  have z1 : w35.cell? ⟨n1, 1, none⟩ = some (.string ⟨#[]⟩) := (blk_cell hb1 1).trans rfl
  have p2 : w35.cell? ⟨n0, 2, none⟩ = some (.string x.f2) := (blk_cell hb0 2).trans rfl
  have z2 : w35.cell? ⟨n1, 2, none⟩ = some (.string ⟨#[]⟩) := (blk_cell hb1 2).trans rfl
  have p3 : w35.cell? ⟨n0, 3, none⟩ = some (.string x.f3) := (blk_cell hb0 3).trans rfl
  have z3 : w35.cell? ⟨n1, 3, none⟩ = some (.string ⟨#[]⟩) := (blk_cell hb1 3).trans rfl
  have p4 : w35.cell? ⟨n0, 4, none⟩ = some (.int .i64 x.f4) := (blk_cell hb0 4).trans rfl
  have z4 : w35.cell? ⟨n1, 4, none⟩ = some (.int .i64 0) := (blk_cell hb1 4).trans rfl
  have p5 : w35.cell? ⟨n0, 5, none⟩ = some (.bool x.f5) := (blk_cell hb0 5).trans rfl
  have z5 : w35.cell? ⟨n1, 5, none⟩ = some (.bool false) := (blk_cell hb1 5).trans rfl
  have p6 : w35.cell? ⟨n0, 6, none⟩ = some (.slice A6 l6.length c6) := (blk_cell hb0 6).trans rfl
  have z6 : w35.cell? ⟨n1, 6, none⟩ = some (.slice none 0 0) := (blk_cell hb1 6).trans rfl
  have p7 : w35.cell? ⟨n0, 7, none⟩ = some (.slice A7 l7.length c7) := (blk_cell hb0 7).trans rfl
  have z7 : w35.cell? ⟨n1, 7, none⟩ = some (.slice none 0 0) := (blk_cell hb1 7).trans rfl
  have p8 : w35.cell? ⟨n0, 8, none⟩ = some (.slice A8 l8.length c8) := (blk_cell hb0 8).trans rfl
  have z8 : w35.cell? ⟨n1, 8, none⟩ = some (.slice none 0 0) := (blk_cell hb1 8).trans rfl
  have p9 : w35.cell? ⟨n0, 9, none⟩ = some (.slice A9 l9.length c9) := (blk_cell hb0 9).trans rfl
  have z9 : w35.cell? ⟨n1, 9, none⟩ = some (.slice none 0 0) := (blk_cell hb1 9).trans rfl
  have p10 : w35.cell? ⟨n0, 10, none⟩ = some (.slice A10 l10.length c10) := (blk_cell hb0 10).trans rfl
  have z10 : w35.cell? ⟨n1, 10, none⟩ = some (.slice none 0 0) := (blk_cell hb1 10).trans rfl
  have pl0 := lt_of_some hb0
  have pl1 := lt_of_some hb1
  have fz := fun j => frozen_of_row w35 n1 j _ _ hb1
  have k0 : St w NoF w35 [blkC n0 (.cells #[.int .i64 x.f0, .string x.f1, .string x.f2, .string x.f3, .int .i64 x.f4, .bool x.f5, .slice A6 l6.length c6, .slice A7 l7.length c7, .slice A8 l8.length c8, .slice A9 l9.length c9, .slice A10 l10.length c10] 28 (0, 0)), blkC n1 (.cells #[.int .i64 0, .string ⟨#[]⟩, .string ⟨#[]⟩, .string ⟨#[]⟩, .int .i64 0, .bool false, .slice none 0 0, .slice none 0 0, .slice none 0 0, .slice none 0 0, .slice none 0 0] 28 (0, 0)), rowXC valE (.slice A6 l6.length c6) l6, rowXC setE (.slice A7 l7.length c7) l7, rowXC cndE (.slice A8 l8.length c8) l8, rowXC colE (.slice A9 l9.length c9) l9, rowXC txtE (.slice A10 l10.length c10) l10] := h
  obtain ⟨U1, hU1⟩ : ∃ U, w35.setCell ⟨n1, 0, none⟩ (.int .i64 x.f0) = U := ⟨_, rfl⟩
  have k1 : St w NoF U1 [blkC n0 (.cells #[.int .i64 x.f0, .string x.f1, .string x.f2, .string x.f3, .int .i64 x.f4, .bool x.f5, .slice A6 l6.length c6, .slice A7 l7.length c7, .slice A8 l8.length c8, .slice A9 l9.length c9, .slice A10 l10.length c10] 28 (0, 0)), blkC n1 (.cells #[.int .i64 x.f0, .string ⟨#[]⟩, .string ⟨#[]⟩, .string ⟨#[]⟩, .int .i64 0, .bool false, .slice none 0 0, .slice none 0 0, .slice none 0 0, .slice none 0 0, .slice none 0 0] 28 (0, 0)), rowXC valE (.slice A6 l6.length c6) l6, rowXC setE (.slice A7 l7.length c7) l7, rowXC cndE (.slice A8 l8.length c8) l8, rowXC colE (.slice A9 l9.length c9) l9, rowXC txtE (.slice A10 l10.length c10) l10] := by rw [← hU1]; exact St.putBlk (C' := #[.int .i64 x.f0, .string ⟨#[]⟩, .string ⟨#[]⟩, .string ⟨#[]⟩, .int .i64 0, .bool false, .slice none 0 0, .slice none 0 0, .slice none 0 0, .slice none 0 0, .slice none 0 0]) k0 1 rfl 0 _ rfl
  have y1 : U1.cell? ⟨n1, 1, none⟩ = some (.string ⟨#[]⟩) := (blk_cell (k1.blk 1 rfl) 1).trans rfl
  have g1 := frozen_of_row U1 n1 1 _ _ (k1.blk 1 rfl)
  have e1 := lt_of_some (k1.blk 1 rfl)
  obtain ⟨U2, hU2⟩ : ∃ U, U1.setCell ⟨n1, 1, none⟩ (.string x.f1) = U := ⟨_, rfl⟩
  have k2 : St w NoF U2 [blkC n0 (.cells #[.int .i64 x.f0, .string x.f1, .string x.f2, .string x.f3, .int .i64 x.f4, .bool x.f5, .slice A6 l6.length c6, .slice A7 l7.length c7, .slice A8 l8.length c8, .slice A9 l9.length c9, .slice A10 l10.length c10] 28 (0, 0)), blkC n1 (.cells #[.int .i64 x.f0, .string x.f1, .string ⟨#[]⟩, .string ⟨#[]⟩, .int .i64 0, .bool false, .slice none 0 0, .slice none 0 0, .slice none 0 0, .slice none 0 0, .slice none 0 0] 28 (0, 0)), rowXC valE (.slice A6 l6.length c6) l6, rowXC setE (.slice A7 l7.length c7) l7, rowXC cndE (.slice A8 l8.length c8) l8, rowXC colE (.slice A9 l9.length c9) l9, rowXC txtE (.slice A10 l10.length c10) l10] := by rw [← hU2]; exact St.putBlk (C' := #[.int .i64 x.f0, .string x.f1, .string ⟨#[]⟩, .string ⟨#[]⟩, .int .i64 0, .bool false, .slice none 0 0, .slice none 0 0, .slice none 0 0, .slice none 0 0, .slice none 0 0]) k1 1 rfl 1 _ rfl
  have y2 : U2.cell? ⟨n1, 2, none⟩ = some (.string ⟨#[]⟩) := (blk_cell (k2.blk 1 rfl) 2).trans rfl
  have g2 := frozen_of_row U2 n1 2 _ _ (k2.blk 1 rfl)
  have e2 := lt_of_some (k2.blk 1 rfl)
  obtain ⟨U3, hU3⟩ : ∃ U, U2.setCell ⟨n1, 2, none⟩ (.string x.f2) = U := ⟨_, rfl⟩
  have k3 : St w NoF U3 [blkC n0 (.cells #[.int .i64 x.f0, .string x.f1, .string x.f2, .string x.f3, .int .i64 x.f4, .bool x.f5, .slice A6 l6.length c6, .slice A7 l7.length c7, .slice A8 l8.length c8, .slice A9 l9.length c9, .slice A10 l10.length c10] 28 (0, 0)), blkC n1 (.cells #[.int .i64 x.f0, .string x.f1, .string x.f2, .string ⟨#[]⟩, .int .i64 0, .bool false, .slice none 0 0, .slice none 0 0, .slice none 0 0, .slice none 0 0, .slice none 0 0] 28 (0, 0)), rowXC valE (.slice A6 l6.length c6) l6, rowXC setE (.slice A7 l7.length c7) l7, rowXC cndE (.slice A8 l8.length c8) l8, rowXC colE (.slice A9 l9.length c9) l9, rowXC txtE (.slice A10 l10.length c10) l10] := by rw [← hU3]; exact St.putBlk (C' := #[.int .i64 x.f0, .string x.f1, .string x.f2, .string ⟨#[]⟩, .int .i64 0, .bool false, .slice none 0 0, .slice none 0 0, .slice none 0 0, .slice none 0 0, .slice none 0 0]) k2 1 rfl 2 _ rfl
  have y3 : U3.cell? ⟨n1, 3, none⟩ = some (.string ⟨#[]⟩) := (blk_cell (k3.blk 1 rfl) 3).trans rfl
  have g3 := frozen_of_row U3 n1 3 _ _ (k3.blk 1 rfl)
  have e3 := lt_of_some (k3.blk 1 rfl)
  obtain ⟨U4, hU4⟩ : ∃ U, U3.setCell ⟨n1, 3, none⟩ (.string x.f3) = U := ⟨_, rfl⟩
  have k4 : St w NoF U4 [blkC n0 (.cells #[.int .i64 x.f0, .string x.f1, .string x.f2, .string x.f3, .int .i64 x.f4, .bool x.f5, .slice A6 l6.length c6, .slice A7 l7.length c7, .slice A8 l8.length c8, .slice A9 l9.length c9, .slice A10 l10.length c10] 28 (0, 0)), blkC n1 (.cells #[.int .i64 x.f0, .string x.f1, .string x.f2, .string x.f3, .int .i64 0, .bool false, .slice none 0 0, .slice none 0 0, .slice none 0 0, .slice none 0 0, .slice none 0 0] 28 (0, 0)), rowXC valE (.slice A6 l6.length c6) l6, rowXC setE (.slice A7 l7.length c7) l7, rowXC cndE (.slice A8 l8.length c8) l8, rowXC colE (.slice A9 l9.length c9) l9, rowXC txtE (.slice A10 l10.length c10) l10] := by rw [← hU4]; exact St.putBlk (C' := #[.int .i64 x.f0, .string x.f1, .string x.f2, .string x.f3, .int .i64 0, .bool false, .slice none 0 0, .slice none 0 0, .slice none 0 0, .slice none 0 0, .slice none 0 0]) k3 1 rfl 3 _ rfl
  have y4 : U4.cell? ⟨n1, 4, none⟩ = some (.int .i64 0) := (blk_cell (k4.blk 1 rfl) 4).trans rfl
  have g4 := frozen_of_row U4 n1 4 _ _ (k4.blk 1 rfl)
  have e4 := lt_of_some (k4.blk 1 rfl)
  obtain ⟨U5, hU5⟩ : ∃ U, U4.setCell ⟨n1, 4, none⟩ (.int .i64 x.f4) = U := ⟨_, rfl⟩
  have k5 : St w NoF U5 [blkC n0 (.cells #[.int .i64 x.f0, .string x.f1, .string x.f2, .string x.f3, .int .i64 x.f4, .bool x.f5, .slice A6 l6.length c6, .slice A7 l7.length c7, .slice A8 l8.length c8, .slice A9 l9.length c9, .slice A10 l10.length c10] 28 (0, 0)), blkC n1 (.cells #[.int .i64 x.f0, .string x.f1, .string x.f2, .string x.f3, .int .i64 x.f4, .bool false, .slice none 0 0, .slice none 0 0, .slice none 0 0, .slice none 0 0, .slice none 0 0] 28 (0, 0)), rowXC valE (.slice A6 l6.length c6) l6, rowXC setE (.slice A7 l7.length c7) l7, rowXC cndE (.slice A8 l8.length c8) l8, rowXC colE (.slice A9 l9.length c9) l9, rowXC txtE (.slice A10 l10.length c10) l10] := by rw [← hU5]; exact St.putBlk (C' := #[.int .i64 x.f0, .string x.f1, .string x.f2, .string x.f3, .int .i64 x.f4, .bool false, .slice none 0 0, .slice none 0 0, .slice none 0 0, .slice none 0 0, .slice none 0 0]) k4 1 rfl 4 _ rfl
  have y5 : U5.cell? ⟨n1, 5, none⟩ = some (.bool false) := (blk_cell (k5.blk 1 rfl) 5).trans rfl
  have g5 := frozen_of_row U5 n1 5 _ _ (k5.blk 1 rfl)
  have e5 := lt_of_some (k5.blk 1 rfl)
  obtain ⟨U6, hU6⟩ : ∃ U, U5.setCell ⟨n1, 5, none⟩ (.bool x.f5) = U := ⟨_, rfl⟩
  have k6 : St w NoF U6 [blkC n0 (.cells #[.int .i64 x.f0, .string x.f1, .string x.f2, .string x.f3, .int .i64 x.f4, .bool x.f5, .slice A6 l6.length c6, .slice A7 l7.length c7, .slice A8 l8.length c8, .slice A9 l9.length c9, .slice A10 l10.length c10] 28 (0, 0)), blkC n1 (.cells #[.int .i64 x.f0, .string x.f1, .string x.f2, .string x.f3, .int .i64 x.f4, .bool x.f5, .slice none 0 0, .slice none 0 0, .slice none 0 0, .slice none 0 0, .slice none 0 0] 28 (0, 0)), rowXC valE (.slice A6 l6.length c6) l6, rowXC setE (.slice A7 l7.length c7) l7, rowXC cndE (.slice A8 l8.length c8) l8, rowXC colE (.slice A9 l9.length c9) l9, rowXC txtE (.slice A10 l10.length c10) l10] := by rw [← hU6]; exact St.putBlk (C' := #[.int .i64 x.f0, .string x.f1, .string x.f2, .string x.f3, .int .i64 x.f4, .bool x.f5, .slice none 0 0, .slice none 0 0, .slice none 0 0, .slice none 0 0, .slice none 0 0]) k5 1 rfl 5 _ rfl
  have y6 : U6.cell? ⟨n1, 6, none⟩ = some (.slice none 0 0) := (blk_cell (k6.blk 1 rfl) 6).trans rfl
  have g6 := frozen_of_row U6 n1 6 _ _ (k6.blk 1 rfl)
  have e6 := lt_of_some (k6.blk 1 rfl)
  obtain ⟨U7, hU7⟩ : ∃ U, U6.setCell ⟨n1, 6, none⟩ (.slice A6 l6.length c6) = U := ⟨_, rfl⟩
  have k7 : St w NoF U7 [blkC n0 (.cells #[.int .i64 x.f0, .string x.f1, .string x.f2, .string x.f3, .int .i64 x.f4, .bool x.f5, .slice A6 l6.length c6, .slice A7 l7.length c7, .slice A8 l8.length c8, .slice A9 l9.length c9, .slice A10 l10.length c10] 28 (0, 0)), blkC n1 (.cells #[.int .i64 x.f0, .string x.f1, .string x.f2, .string x.f3, .int .i64 x.f4, .bool x.f5, .slice A6 l6.length c6, .slice none 0 0, .slice none 0 0, .slice none 0 0, .slice none 0 0] 28 (0, 0)), rowXC valE (.slice A6 l6.length c6) l6, rowXC setE (.slice A7 l7.length c7) l7, rowXC cndE (.slice A8 l8.length c8) l8, rowXC colE (.slice A9 l9.length c9) l9, rowXC txtE (.slice A10 l10.length c10) l10] := by rw [← hU7]; exact St.putBlk (C' := #[.int .i64 x.f0, .string x.f1, .string x.f2, .string x.f3, .int .i64 x.f4, .bool x.f5, .slice A6 l6.length c6, .slice none 0 0, .slice none 0 0, .slice none 0 0, .slice none 0 0]) k6 1 rfl 6 _ rfl
  have y7 : U7.cell? ⟨n1, 7, none⟩ = some (.slice none 0 0) := (blk_cell (k7.blk 1 rfl) 7).trans rfl
  have g7 := frozen_of_row U7 n1 7 _ _ (k7.blk 1 rfl)
  have e7 := lt_of_some (k7.blk 1 rfl)
  obtain ⟨U8, hU8⟩ : ∃ U, U7.setCell ⟨n1, 7, none⟩ (.slice A7 l7.length c7) = U := ⟨_, rfl⟩
  have k8 : St w NoF U8 [blkC n0 (.cells #[.int .i64 x.f0, .string x.f1, .string x.f2, .string x.f3, .int .i64 x.f4, .bool x.f5, .slice A6 l6.length c6, .slice A7 l7.length c7, .slice A8 l8.length c8, .slice A9 l9.length c9, .slice A10 l10.length c10] 28 (0, 0)), blkC n1 (.cells #[.int .i64 x.f0, .string x.f1, .string x.f2, .string x.f3, .int .i64 x.f4, .bool x.f5, .slice A6 l6.length c6, .slice A7 l7.length c7, .slice none 0 0, .slice none 0 0, .slice none 0 0] 28 (0, 0)), rowXC valE (.slice A6 l6.length c6) l6, rowXC setE (.slice A7 l7.length c7) l7, rowXC cndE (.slice A8 l8.length c8) l8, rowXC colE (.slice A9 l9.length c9) l9, rowXC txtE (.slice A10 l10.length c10) l10] := by rw [← hU8]; exact St.putBlk (C' := #[.int .i64 x.f0, .string x.f1, .string x.f2, .string x.f3, .int .i64 x.f4, .bool x.f5, .slice A6 l6.length c6, .slice A7 l7.length c7, .slice none 0 0, .slice none 0 0, .slice none 0 0]) k7 1 rfl 7 _ rfl
  have y8 : U8.cell? ⟨n1, 8, none⟩ = some (.slice none 0 0) := (blk_cell (k8.blk 1 rfl) 8).trans rfl
  have g8 := frozen_of_row U8 n1 8 _ _ (k8.blk 1 rfl)
  have e8 := lt_of_some (k8.blk 1 rfl)
  obtain ⟨U9, hU9⟩ : ∃ U, U8.setCell ⟨n1, 8, none⟩ (.slice A8 l8.length c8) = U := ⟨_, rfl⟩
  have k9 : St w NoF U9 [blkC n0 (.cells #[.int .i64 x.f0, .string x.f1, .string x.f2, .string x.f3, .int .i64 x.f4, .bool x.f5, .slice A6 l6.length c6, .slice A7 l7.length c7, .slice A8 l8.length c8, .slice A9 l9.length c9, .slice A10 l10.length c10] 28 (0, 0)), blkC n1 (.cells #[.int .i64 x.f0, .string x.f1, .string x.f2, .string x.f3, .int .i64 x.f4, .bool x.f5, .slice A6 l6.length c6, .slice A7 l7.length c7, .slice A8 l8.length c8, .slice none 0 0, .slice none 0 0] 28 (0, 0)), rowXC valE (.slice A6 l6.length c6) l6, rowXC setE (.slice A7 l7.length c7) l7, rowXC cndE (.slice A8 l8.length c8) l8, rowXC colE (.slice A9 l9.length c9) l9, rowXC txtE (.slice A10 l10.length c10) l10] := by rw [← hU9]; exact St.putBlk (C' := #[.int .i64 x.f0, .string x.f1, .string x.f2, .string x.f3, .int .i64 x.f4, .bool x.f5, .slice A6 l6.length c6, .slice A7 l7.length c7, .slice A8 l8.length c8, .slice none 0 0, .slice none 0 0]) k8 1 rfl 8 _ rfl
  have y9 : U9.cell? ⟨n1, 9, none⟩ = some (.slice none 0 0) := (blk_cell (k9.blk 1 rfl) 9).trans rfl
  have g9 := frozen_of_row U9 n1 9 _ _ (k9.blk 1 rfl)
  have e9 := lt_of_some (k9.blk 1 rfl)
  obtain ⟨U10, hU10⟩ : ∃ U, U9.setCell ⟨n1, 9, none⟩ (.slice A9 l9.length c9) = U := ⟨_, rfl⟩
  have k10 : St w NoF U10 [blkC n0 (.cells #[.int .i64 x.f0, .string x.f1, .string x.f2, .string x.f3, .int .i64 x.f4, .bool x.f5, .slice A6 l6.length c6, .slice A7 l7.length c7, .slice A8 l8.length c8, .slice A9 l9.length c9, .slice A10 l10.length c10] 28 (0, 0)), blkC n1 (.cells #[.int .i64 x.f0, .string x.f1, .string x.f2, .string x.f3, .int .i64 x.f4, .bool x.f5, .slice A6 l6.length c6, .slice A7 l7.length c7, .slice A8 l8.length c8, .slice A9 l9.length c9, .slice none 0 0] 28 (0, 0)), rowXC valE (.slice A6 l6.length c6) l6, rowXC setE (.slice A7 l7.length c7) l7, rowXC cndE (.slice A8 l8.length c8) l8, rowXC colE (.slice A9 l9.length c9) l9, rowXC txtE (.slice A10 l10.length c10) l10] := by rw [← hU10]; exact St.putBlk (C' := #[.int .i64 x.f0, .string x.f1, .string x.f2, .string x.f3, .int .i64 x.f4, .bool x.f5, .slice A6 l6.length c6, .slice A7 l7.length c7, .slice A8 l8.length c8, .slice A9 l9.length c9, .slice none 0 0]) k9 1 rfl 9 _ rfl
  have y10 : U10.cell? ⟨n1, 10, none⟩ = some (.slice none 0 0) := (blk_cell (k10.blk 1 rfl) 10).trans rfl
  have g10 := frozen_of_row U10 n1 10 _ _ (k10.blk 1 rfl)
  have e10 := lt_of_some (k10.blk 1 rfl)
  obtain ⟨U11, hU11⟩ : ∃ U, U10.setCell ⟨n1, 10, none⟩ (.slice A10 l10.length c10) = U := ⟨_, rfl⟩
  have k11 : St w NoF U11 [blkC n0 (.cells #[.int .i64 x.f0, .string x.f1, .string x.f2, .string x.f3, .int .i64 x.f4, .bool x.f5, .slice A6 l6.length c6, .slice A7 l7.length c7, .slice A8 l8.length c8, .slice A9 l9.length c9, .slice A10 l10.length c10] 28 (0, 0)), blkC n1 (.cells #[.int .i64 x.f0, .string x.f1, .string x.f2, .string x.f3, .int .i64 x.f4, .bool x.f5, .slice A6 l6.length c6, .slice A7 l7.length c7, .slice A8 l8.length c8, .slice A9 l9.length c9, .slice A10 l10.length c10] 28 (0, 0)), rowXC valE (.slice A6 l6.length c6) l6, rowXC setE (.slice A7 l7.length c7) l7, rowXC cndE (.slice A8 l8.length c8) l8, rowXC colE (.slice A9 l9.length c9) l9, rowXC txtE (.slice A10 l10.length c10) l10] := by rw [← hU11]; exact St.putBlk (C' := #[.int .i64 x.f0, .string x.f1, .string x.f2, .string x.f3, .int .i64 x.f4, .bool x.f5, .slice A6 l6.length c6, .slice A7 l7.length c7, .slice A8 l8.length c8, .slice A9 l9.length c9, .slice A10 l10.length c10]) k10 1 rfl 10 _ rfl
  have HF := Aside0.mk k11
  have HB := Aside0.mk (show U11.heap[n1]? = some (.cells #[.int .i64 x.f0, .string x.f1, .string x.f2, .string x.f3, .int .i64 x.f4, .bool x.f5, .slice A6 l6.length c6, .slice A7 l7.length c7, .slice A8 l8.length c8, .slice A9 l9.length c9, .slice A10 l10.length c10] 28 (0, 0)) from k11.blk 1 rfl)
  clear h hb0 hb1 HS22 k0 k1 k2 k3 k4 k5 k6 k7 k8 k9 k10 k11
  go_wp2
  refine bodyPost_ret (results_cell_row rfl _ _ n1 28 #[.int .i64 x.f0, .string x.f1, .string x.f2, .string x.f3, .int .i64 x.f4, .bool x.f5, .slice A6 l6.length c6, .slice A7 l7.length c7, .slice A8 l8.length c8, .slice A9 l9.length c9, .slice A10 l10.length c10] (0, 0) _ rfl HB.out Try.underlying28 rfl (by kernel_rfl)) rfl ?_
  rw [← HQ.out]
  refine ⟨⟨x.f0, x.f1, x.f2, x.f3, x.f4, x.f5, ⟨A6, l6.length, c6⟩, ⟨A7, l7.length, c7⟩, ⟨A8, l8.length, c8⟩, ⟨A9, l9.length, c9⟩, ⟨A10, l10.length, c10⟩⟩, ⟨rfl, rfl, rfl, rfl, rfl, rfl⟩, rfl, ?_⟩
  exact St.drop (A := [blkC n0 _, blkC n1 _]) HF.out
end Go.Proofs.Kb
end
