/- Packed by shake.py: YtjaddmflopahiaaB6 YtjaddmflopahiaaB7 YtjaddmflopahiaaB8 YtjaddmflopahiaaS1 YtjaddmflopahiaaB11 YtjaddmflopahiaaS2 YtjaddmflopahiaaS3 YtjaddmflopahiaaB9 YtjaddmflopahiaaB10 -/
import Derived.Test.YtjaddmflopahiaaV1
section
namespace Go.Proofs.Bt
open Go Go.RowKit Go.Proofs.Ytjaddmflopahiaa.Q Go.Proofs.YtjaddmflopahiaaW.PrintWords Go.Proofs.YtjaddmflopahiaaW.PrintLast Go.Proofs.YtjaddmflopahiaaW.PrintMore
set_option linter.unusedVariables false
set_option linter.unusedSimpArgs false
set_option maxRecDepth 100000
theorem Row.farS {w : World} {e : TypeId} {sz n m g c : Nat} {xs : List Value} (h : Row w e sz (.slice (some ⟨g, 0, none⟩) m c) n xs) {p : Addr} (hne : g ≠ p.block) (u : Value) : Row (w.setCell p u) e sz (.slice (some ⟨g, 0, none⟩) m c) n xs := h.move fun k hk => by
  simp [Value.ownBlock] at hk
  subst hk
  exact Below.heap_setCell w p u g hne
theorem Row.tail {w : World} {e : TypeId} {sz n g cap : Nat} {xs : List Value} (h : Row w e sz (.slice (some ⟨g, 0, none⟩) n cap) n xs) (o : Nat) : ∀ j u, (xs.drop o)[j]? = some u → w.cell? ((⟨g, o, none⟩ : Addr).add j) = some u := by
  intro j u hu
  rw [Addr.add_lit]
  refine Row.cell h rfl _ u ?_
  rw [List.getElem?_drop] at hu
  exact hu
theorem Row.lt1 {w : World} {e : TypeId} {sz n m g c : Nat} {xs : List Value} (h : Row w e sz (.slice (some ⟨g, 0, none⟩) m c) n xs) : g < w.heap.size := h.lt g rfl
set_option maxHeartbeats 8000000 in
theorem split_inner (w : World) (p g cap hh capC : Nat) (ks : List S29) (cs : List Value) (hN : NodeAt w p (.slice (some ⟨g, 0, none⟩) 5 cap) (.slice (some ⟨hh, 0, none⟩) 6 capC)) (hR : RowE w (.slice (some ⟨g, 0, none⟩) 5 cap) ks) (hC : Row w 59 1 (.slice (some ⟨hh, 0, none⟩) 6 capC) 6 cs)
    (h5 : ks.length = 5) (hcap : 5 ≤ cap) (hcapC : 6 ≤ capC) (hgp : g ≠ p) (hhp : hh ≠ p) (hgh : g ≠ hh) :
    Calls Try.prog 27 #[.pointer (some ⟨p, 0, none⟩)] w fun E w' => ∃ q k c l d, E = .returned (.tuple #[.agg #[.string ks[2].f0, .int .i64 ks[2].f1.f0, .int .i64 ks[2].f1.f1], .pointer (some ⟨q, 0, none⟩)]) ∧
      NodeAt w' p (.slice (some ⟨g, 0, none⟩) 2 2) (.slice (some ⟨hh, 0, none⟩) 3 3) ∧ RowE w' (.slice (some ⟨g, 0, none⟩) 2 2) (ks.take 2) ∧ Row w' 59 1 (.slice (some ⟨hh, 0, none⟩) 3 3) 3 (cs.take 3) ∧
      NodeAt w' q (.slice (some ⟨k, 0, none⟩) 2 c) (.slice (some ⟨l, 0, none⟩) 3 d) ∧ RowE w' (.slice (some ⟨k, 0, none⟩) 2 c) (ks.drop 3) ∧ Row w' 59 1 (.slice (some ⟨l, 0, none⟩) 3 d) 3 (cs.drop 3) ∧
      w.heap.size ≤ q ∧ w.heap.size ≤ k ∧ w.heap.size ≤ l ∧ q ≠ k ∧ q ≠ l ∧ k ≠ l ∧ w.grownBy w' (some p) := by
  have hu29 := Try.underlying29
  have hu62 := Try.underlying62
  have hz29 := Try.sizeOf29
  have hpl := hN.lt
  have hgl : g < w.heap.size := Row.lt1 hR
  have hhl : hh < w.heap.size := Row.lt1 hC
  have hcl : cs.length = 6 := by simpa using hC.1
  have hc1 := hC.2.1
  obtain ⟨x, hx⟩ : ∃ x, ks[2] = x := ⟨_, rfl⟩
  rw [hx]
  have HN := Aside0.mk hN
  have HR := Aside0.mk hR
  have HC2 := Aside0.mk hC
  have HG := Aside0.mk (grown_refl w (some p))
  have HX := Aside0.mk hx
  have H1 := Aside0.mk hc1
  clear hN hR hx hC hc1
  have hcells : ∀ W, RowE W (.slice (some ⟨g, 0, none⟩) 5 cap) ks → W.cell? ⟨g, 2 * 3, none⟩ = some (.string x.f0) ∧ W.cell? ⟨g, 2 * 3 + 1, none⟩ = some (.int .i64 x.f1.f0) ∧ W.cell? ⟨g, 2 * 3 + 2, none⟩ = some (.int .i64 x.f1.f1) := fun W hW => by
    have := hW.cells 2 (by omega)
    rw [HX.out] at this
    exact this
  have HC := Aside0.mk hcells
  clear hcells
  go_enter Try.func27, Try.ntmps27
  go_wp2_with (first
    | ((with_reducible refine gate_dst (N := 2) rfl ?_); refine box_event ?hg (N := 2) ?hd (cs := #[.string (⟨#[]⟩ : ByteArray), .int .i64 0, .int .i64 0]) (t := 29) ?hr ?_; (case hd => rfl); (case hg => rfl); (case hr => first | (go_simp; done) | (go_simp; rfl)); intro q2 hg w2 hbox hb; have n1 := Aside0.mk (HN.out.below hb); have n2 := Aside0.mk (show RowE _ _ _ from Row.below HR.out hb); have n3 := Aside0.mk (grown_below HG.out hb); have n7 := Aside0.mk (Row.below HC2.out hb); have HQ2 := Aside0.mk hbox; have HE2 := Aside0.mk hg; have hl2 := blk_lt HQ2.out; have hs2 := Aside0.mk hb.size; clear hbox hg; clear HC2; have HC2 := n7; clear n7; clear HN HR HG; have HN := n1; have HR := n2; have HG := n3; clear n1 n2 n3; have c0 := HN.out.c0; have c1 := HN.out.c1; have f0 := HN.out.fz 0; have f1 := HN.out.fz 1; have dd := HC.out _ HR.out; obtain ⟨d0, d1, d2⟩ := dd; clear hb)
    | ((with_reducible refine gate_dst (N := 21) rfl ?_); refine box_event ?hg (N := 21) ?hd (cs := #[.slice none 0 0, .slice none 0 0]) (t := 62) ?hr ?_; (case hd => rfl); (case hg => rfl); (case hr => first | (go_simp; done) | (go_simp; rfl)); intro q6 hg w6 hbox hb; have hbB := hb; clear hb; have hb : Below w2.heap.size w2 w6 := ((Below.refl _ w2).alloc (Nat.le_refl _) _).trans (hbB.mono (by simp)); have HQ5 := Aside0.mk (blk_below (blk_new w2 _) hbB); have hq6 : q6 = w2.heap.size + 1 := (by simp [hg]); obtain ⟨q5, hq5⟩ : ∃ q5, w2.heap.size = q5 := ⟨_, rfl⟩; rw [hq5] at HQ5 hq6 hl2 ⊢; have HS2 := hs2.out; rw [hq5] at HS2; have HE := HE2.out; have n4 := Aside0.mk (blk_below HQ2.out hb); have HQ6 := Aside0.mk hbox; have hl6 := blk_lt HQ6.out; clear HQ2 hbox hg c0 c1 f0 f1 d0 d1 d2; have HQ2 := n4; clear n4; have n1 := Aside0.mk (HN.out.below hb); have n2 := Aside0.mk (show RowE _ _ _ from Row.below HR.out hb); have n3 := Aside0.mk (grown_below HG.out hb); have n7 := Aside0.mk (Row.below HC2.out hb); have hn_p_q2 : p ≠ q2 := (by omega); have hn_p_q5 : p ≠ q5 := (by omega); have hn_p_q6 : p ≠ q6 := (by omega); have hn_q2_p : q2 ≠ p := (by omega); have hn_q2_q5 : q2 ≠ q5 := (by omega); have hn_q2_q6 : q2 ≠ q6 := (by omega); have hn_q5_p : q5 ≠ p := (by omega); have hn_q5_q2 : q5 ≠ q2 := (by omega); have hn_q5_q6 : q5 ≠ q6 := (by omega); have hn_q6_p : q6 ≠ p := (by omega); have hn_q6_q2 : q6 ≠ q2 := (by omega); have hn_q6_q5 : q6 ≠ q5 := (by omega); have hm_g_q2 : g ≠ q2 := (by omega); have hm_q2_g : q2 ≠ g := (by omega); have hm_hh_q2 : hh ≠ q2 := (by omega); have hm_hh_q5 : hh ≠ q5 := (by omega); have hm_hh_q6 : hh ≠ q6 := (by omega); have hm_g_q6 : g ≠ q6 := (by omega); have hm_q6_g : q6 ≠ g := (by omega); have hm_g_q5 : g ≠ q5 := (by omega); have hm_q5_g : q5 ≠ g := (by omega); have HN0 := Aside0.mk (show w.heap.size ≤ q6 by omega); obtain ⟨m6, hm6⟩ : ∃ m, w6.heap.size = m := ⟨_, rfl⟩; have HM6 := Aside0.mk hm6; have HK := Aside0.mk (show w.heap.size ≤ m6 by omega); have HQL := Aside0.mk (show q2 < m6 ∧ q5 < m6 ∧ q6 < m6 by omega); clear hm6; have HQ2N := Aside0.mk (show w.heap.size ≤ q2 by omega); clear hq6 HE HS2 hq5 hs2 HE2 hbB; clear HC2; have HC2 := n7; clear n7; clear HN HR HG; have HN := n1; have HR := n2; have HG := n3; clear n1 n2 n3; have c0 := HN.out.c0; have c1 := HN.out.c1; have f0 := HN.out.fz 0; have f1 := HN.out.fz 1; have dd := HC.out _ HR.out; obtain ⟨d0, d1, d2⟩ := dd; clear hb)
    | (go_at_call 30; refine (leaf_calls _ p _ _ _ _ HN.out).mono ?_; rintro E w' ⟨rfl, rfl⟩)
    | (go_at_call 45; refine (clone45 _ ⟨g, 9, none⟩ 2 (cap - 3) (encEs (ks.drop 3)) (by rw [encEs_len, List.length_drop, h5]) (RowE.tail HR.out 3 (by omega)) (encEs_one _) (by omega)).mono ?_; rintro E w9 ⟨k, c, rfl, hk, hrow, hb⟩; have hn9 := HN.out.lt; have n4 := Aside0.mk (blk_below HQ2.out hb); have n5 := Aside0.mk (blk_below HQ5.out hb); have n6 := Aside0.mk (blk_below HQ6.out hb); clear HQ2 HQ5 HQ6; have HQ2 := n4; have HQ5 := n5; have HQ6 := n6; clear n4 n5 n6 c0 c1 f0 f1 d0 d1 d2; have HROW := Aside0.mk hrow; have HKK := Aside0.mk (show m6 ≤ k from HM6.out ▸ hk); have n1 := Aside0.mk (HN.out.below hb); have n2 := Aside0.mk (show RowE _ _ _ from Row.below HR.out hb); have n3 := Aside0.mk (grown_below HG.out hb); have n7 := Aside0.mk (Row.below HC2.out hb); clear HC2; have HC2 := n7; clear n7; clear HN HR HG; have HN := n1; have HR := n2; have HG := n3; clear n1 n2 n3; have c0 := HN.out.c0; have c1 := HN.out.c1; have f0 := HN.out.fz 0; have f1 := HN.out.fz 1; have dd := HC.out _ HR.out; obtain ⟨d0, d1, d2⟩ := dd; clear hrow hb; have e60 := blk_cell HQ6.out 0; have g60 := blk_frozen HQ6.out 0; have e20 := blk_cell HQ2.out 0; have e21 := blk_cell HQ2.out 1; have e22 := blk_cell HQ2.out 2; have g20 := blk_frozen HQ2.out 0; have g21 := blk_frozen HQ2.out 1; have g22 := blk_frozen HQ2.out 2; have e50 := blk_cell HQ5.out 0; have e51 := blk_cell HQ5.out 1; have e52 := blk_cell HQ5.out 2)
    | (go_at_call 46; refine (clone46 _ ⟨hh, 3, none⟩ 3 (capC - 3) (cs.drop 3) (by rw [List.length_drop, hcl]) (Row.tail (Row.farS HC2.out hm_hh_q6 _) 3) (fun u hu => H1.out u (List.mem_of_mem_drop hu)) (by omega)).mono ?_; rintro E w11 ⟨l, d, rfl, hl, hrow, hb⟩; have hk6 : k ≠ q6 := (by have := HKK.out; have := HQL.out; omega); have n4 := Aside0.mk (blk_below (blk_far HQ2.out hn_q2_q6 _) hb); have n5 := Aside0.mk (blk_below (blk_far HQ5.out hn_q5_q6 _) hb); have n6 := Aside0.mk (blk_below (blk_put HQ6.out 0 (.slice (some ⟨k, 0, none⟩) 2 c) rfl) hb); have n1 := Aside0.mk (show NodeAt _ _ _ _ from blk_below (blk_far HN.out hn_p_q6 _) hb); have n2 := Aside0.mk (show RowE _ _ _ from Row.below (Row.farS HR.out hm_g_q6 _) hb); have n3 := Aside0.mk (grown_below (grown_cell HG.out (.inr HN0.out) _) hb); have n7 := Aside0.mk (Row.below (Row.farS HC2.out hm_hh_q6 _) hb); have n8 := Aside0.mk (Row.below (Row.farS HROW.out hk6 _) hb); have HLK := Aside0.mk (show k < l from Nat.lt_of_lt_of_le (Row.lt1 HROW.out) (by simpa [World.setCell] using hl)); clear HQ2 HQ5 HQ6 HROW c0 c1 f0 f1 d0 d1 d2 e60 g60 e20 e21 e22 g20 g21 g22 e50 e51 e52; have HQ2 := n4; have HQ5 := n5; have HQ6 := n6; have HROW := n8; clear n4 n5 n6 n8; have HROL := Aside0.mk hrow; clear HC2; have HC2 := n7; clear n7; clear HN HR HG; have HN := n1; have HR := n2; have HG := n3; clear n1 n2 n3; have c0 := HN.out.c0; have c1 := HN.out.c1; have f0 := HN.out.fz 0; have f1 := HN.out.fz 1; have dd := HC.out _ HR.out; obtain ⟨d0, d1, d2⟩ := dd; clear hrow hb; have e60 := blk_cell HQ6.out 0; have e61 := blk_cell HQ6.out 1; have g60 := blk_frozen HQ6.out 0; have g61 := blk_frozen HQ6.out 1; have e20 := blk_cell HQ2.out 0; have e21 := blk_cell HQ2.out 1; have e22 := blk_cell HQ2.out 2; have g20 := blk_frozen HQ2.out 0; have g21 := blk_frozen HQ2.out 1; have g22 := blk_frozen HQ2.out 2; have e50 := blk_cell HQ5.out 0; have e51 := blk_cell HQ5.out 1; have e52 := blk_cell HQ5.out 2)
    | (go_at_call 47; refine (clip47 _ hh 3 capC (by omega)).mono ?_; rintro E w' ⟨rfl, rfl⟩)
    | (go_at_call 48; refine (clip48 _ g 2 cap (by omega)).mono ?_; rintro E w' ⟨rfl, rfl⟩))
  have hkq : ∀ q, q < m6 → k ≠ q := fun q hq => by have := HKK.out; omega
  have hlq : ∀ q, q < m6 → l ≠ q := fun q hq => by have := HKK.out; have := HLK.out; omega
  have hk2 := hkq _ HQL.out.1
  have hk6' := hkq _ HQL.out.2.2
  have hl2' := hlq _ HQL.out.1
  have hl6' := hlq _ HQL.out.2.2
  have hw6 := HK.out
  have hkp : k ≠ p := by have := HKK.out; omega
  have hlp : l ≠ p := by have := HKK.out; have := HLK.out; omega
  refine bodyPost_ret (results_ct rfl _ _ q2 29 #[.string x.f0, .int .i64 x.f1.f0, .int .i64 x.f1.f1] (0, 0) _ rfl ?_ hu29 rfl (by kernel_rfl)) rfl ?_
  · exact blk_put (blk_put (blk_put (blk_far (blk_far (blk_far HQ2.out hn_q2_q6 _) hn_q2_p _) hn_q2_p _) 0 (.string x.f0) rfl) 1 (.int .i64 x.f1.f0) rfl) 2 (.int .i64 x.f1.f1) rfl
  · refine ⟨q6, k, c, l, d, rfl, ?_, ?_, ?_, ?_, ?_, ?_, HN0.out, Nat.le_trans hw6 HKK.out, by have := HKK.out; have := HLK.out; omega, Ne.symm hk6', Ne.symm hl6', by have := HLK.out; omega, ?_⟩
    · exact blk_far (blk_far (blk_far (blk_put (blk_put (blk_far HN.out hn_p_q6 _) 1 (.slice (some ⟨hh, 0, none⟩) 3 3) rfl) 0 (.slice (some ⟨g, 0, none⟩) 2 2) rfl) hn_p_q2 _) hn_p_q2 _) hn_p_q2 _
    · exact Row.farS (Row.farS (Row.farS (Row.farS (Row.farS (Row.farS (RowE.cut HR.out 2 2 (by omega) (by omega) (by omega)) hm_g_q6 _) hgp _) hgp _) hm_g_q2 _) hm_g_q2 _) hm_g_q2 _
    · exact Row.farS (Row.farS (Row.farS (Row.farS (Row.farS (Row.farS (Row.cut HC2.out 3 3 (by omega) (by omega) (by omega)) hm_hh_q6 _) hhp _) hhp _) hm_hh_q2 _) hm_hh_q2 _) hm_hh_q2 _
    · exact blk_far (blk_far (blk_far (blk_far (blk_far (blk_put HQ6.out 1 (.slice (some ⟨l, 0, none⟩) 3 d) rfl) hn_q6_p _) hn_q6_p _) hn_q6_q2 _) hn_q6_q2 _) hn_q6_q2 _
    · exact RowE.of (Row.farS (Row.farS (Row.farS (Row.farS (Row.farS (Row.farS HROW.out hk6' _) hkp _) hkp _) hk2 _) hk2 _) hk2 _) (by rw [List.length_drop, h5])
    · exact Row.farS (Row.farS (Row.farS (Row.farS (Row.farS (Row.farS HROL.out hl6' _) hlp _) hlp _) hl2' _) hl2' _) hl2' _
    · exact grown_cell (grown_cell (grown_cell (grown_cell (grown_cell (grown_cell HG.out (.inr HN0.out) _) (.inl rfl) _) (.inl rfl) _) (.inr HQ2N.out) _) (.inr HQ2N.out) _) (.inr HQ2N.out) _
end Go.Proofs.Bt
end
section
namespace Go.Proofs.Bt
open Go Go.RowKit Go.Proofs.Ytjaddmflopahiaa.Q Go.Proofs.YtjaddmflopahiaaW.PrintWords Go.Proofs.YtjaddmflopahiaaW.PrintLast Go.Proofs.YtjaddmflopahiaaW.PrintMore
set_option linter.unusedVariables false
set_option linter.unusedSimpArgs false
set_option maxRecDepth 100000
def insAt {α : Type} (l : List α) (i : Nat) (x : α) : List α := l.take i ++ x :: l.drop i
structure Keep (w w' : World) (F : Nat → Prop) : Prop where
  os : w'.os = w.os
  tape : w'.tape = w.tape
  output : w'.output = w.output
  size : w.heap.size ≤ w'.heap.size
  block : ∀ k, k < w.heap.size → ¬ F k → w'.heap[k]? = w.heap[k]?
theorem Keep.below {w W W1 : World} {F : Nat → Prop} (h : Keep w W F) (hb : Below W.heap.size W W1) : Keep w W1 F :=
  ⟨hb.os.trans h.os, hb.tape.trans h.tape, hb.output.trans h.output, Nat.le_trans h.size hb.size, fun k hk hf => (hb.block k (Nat.lt_of_lt_of_le hk h.size)).trans (h.block k hk hf)⟩
theorem Keep.of_below {w w' : World} (h : Below w.heap.size w w') (F : Nat → Prop) : Keep w w' F := ⟨h.os, h.tape, h.output, h.size, fun k hk _ => h.block k hk⟩
theorem Keep.grown {w W W1 : World} {F : Nat → Prop} {row : Option Nat} (h : Keep w W F) (hg : W.grownBy W1 row) (hr : ∀ b, row = some b → F b ∨ w.heap.size ≤ b) : Keep w W1 F :=
  ⟨hg.os.trans h.os, hg.tape.trans h.tape, hg.output.trans h.output, Nat.le_trans h.size hg.size, fun k hk hf => (hg.block k (Nat.lt_of_lt_of_le hk h.size) (fun e => by
    rcases hr k e.symm with h1 | h1
    · exact hf h1
    · omega)).trans (h.block k hk hf)⟩
theorem Keep.drew {w W : World} {F : Nat → Prop} (h : Keep w W F) : Keep w W.drew F := ⟨h.os, h.tape, h.output, h.size, h.block⟩
theorem Keep.cell {w W : World} {F : Nat → Prop} (h : Keep w W F) {p : Addr} (hp : F p.block ∨ w.heap.size ≤ p.block) (u : Value) : Keep w (W.setCell p u) F :=
  ⟨h.os, h.tape, h.output, by simpa [World.setCell] using h.size, fun k hk hf => (Below.heap_setCell W p u k (by
    rintro rfl
    rcases hp with hp | hp
    · exact hf hp
    · omega)).trans (h.block k hk hf)⟩
theorem Keep.trans {w W W1 : World} {F G : Nat → Prop} (h : Keep w W F) (k : Keep W W1 G) (hs : ∀ b, G b → F b ∨ w.heap.size ≤ b) : Keep w W1 F :=
  ⟨k.os.trans h.os, k.tape.trans h.tape, k.output.trans h.output, Nat.le_trans h.size k.size, fun i hi hf => (k.block i (Nat.lt_of_lt_of_le hi h.size) (fun hg => by
    rcases hs i hg with h1 | h1
    · exact hf h1
    · omega)).trans (h.block i hi hf)⟩
theorem insEs (ks : List S29) (i : Nat) (x : S29) (h : i ≤ ks.length) : (encEs ks).take (i * 3) ++ encE x ++ (encEs ks).drop (i * 3) = encEs (insAt ks i x) := by
  unfold insAt
  rw [encEs_take ks i h, encEs_drop ks i h, encEs_app, encEs_cons, List.append_assoc]
theorem insAt_len {α : Type} (l : List α) (i : Nat) (x : α) (h : i ≤ l.length) : (insAt l i x).length = l.length + 1 := by
  unfold insAt
  rw [List.length_append, List.length_cons, List.length_take, List.length_drop]
  omega
theorem Row.formS {w : World} {e : TypeId} {sz n : Nat} {v : Value} {xs : List Value} (h : Row w e sz v n xs) (hn : v ≠ .slice none 0 0) : ∃ g c, v = .slice (some ⟨g, 0, none⟩) n c := by
  rcases h.2.2 with ⟨h, _⟩ | ⟨g, cap, cur, h, _⟩
  · exact absurd h hn
  · exact ⟨g, cap, h⟩
theorem made_ {P : Program} {ops : Array Oper} {Q : Exit → Act → World → Prop} {oi : Oper} {N : Option Tmp} {a : Act} {w : World} {K : Act → World → Prop} {v : Value} {w1 : World} (hw : Region.wanted oi (yielded ops a.tmps) = true) (hN : oi.dst = N) (hrun : (execOp a.eval oi).run P w = .ok (.value v) w1)
    (h : K (a.put N v) w1) : if Region.wanted oi (yielded ops a.tmps) = true then Oper.wp P oi a w K Q else K (a.put N undef) w := by
  rw [if_pos hw]
  unfold Oper.wp
  rw [hrun]
  show K (a.put oi.dst v) w1
  rw [hN]
  exact h
def InsLeaf (w : World) (p : Nat) (K : Value) (ks : List S29) (e : S29) (E : Ending) (w' : World) : Prop := ∃ K', E = .returned (.bool !(found ks e)) ∧
      NodeAt w' p K' (.slice none 0 0) ∧ RowE w' K' (if found ks e = true then ks else insAt ks (low ks e) e) ∧ (K'.ownBlock = K.ownBlock ∨ ∃ k, K'.ownBlock = some k ∧ w.heap.size ≤ k) ∧
      Keep w w' (fun k => k = p ∨ some k = K.ownBlock)
set_option maxHeartbeats 4000000 in
theorem insert_leaf (w : World) (p : Nat) (K : Value) (ks : List S29) (e : S29) (hN : NodeAt w p K (.slice none 0 0)) (hR : RowE w K ks) (hn : ks.length < 1000) (hm : Mono ks e) (hKp : K.ownBlock ≠ some p) :
    Calls Try.prog 26 #[.pointer (some ⟨p, 0, none⟩), .agg #[.string e.f0, .int .i64 e.f1.f0, .int .i64 e.f1.f1]] w (InsLeaf w p K ks e) := by
  have mixed : Try.prog.follows Departure.mixedOrders = true := by kernel_rfl
  have hu29 := Try.underlying29
  have hpl := hN.lt
  obtain ⟨W0, hW0⟩ : ∃ W0, w.alloc (.cells #[.string e.f0, .int .i64 e.f1.f0, .int .i64 e.f1.f1] 29) = W0 := ⟨_, rfl⟩
  have hX : W0.heap[w.heap.size]? = some (.cells #[.string e.f0, .int .i64 e.f1.f0, .int .i64 e.f1.f1] 29 (0, 0)) := by rw [← hW0]; exact heap_alloc_new w _
  have hb0 : Below w.heap.size w W0 := by rw [← hW0]; exact (Below.refl _ w).alloc (Nat.le_refl _) _
  have b0 : W0.cell? ⟨w.heap.size, 0, none⟩ = some (.string e.f0) := (cell_of_row W0 _ 0 _ 29 (0, 0) hX).trans rfl
  have b1 : W0.cell? ⟨w.heap.size, 1, none⟩ = some (.int .i64 e.f1.f0) := (cell_of_row W0 _ 1 _ 29 (0, 0) hX).trans rfl
  have b2 : W0.cell? ⟨w.heap.size, 2, none⟩ = some (.int .i64 e.f1.f1) := (cell_of_row W0 _ 2 _ 29 (0, 0) hX).trans rfl
  have HN := Aside0.mk (hN.below hb0)
  have HR := Aside0.mk (show RowE W0 K ks from Row.below hR hb0)
  have HX := Aside0.mk hX
  have HM := Aside0.mk hm
  have HB0 := Aside0.mk (Keep.of_below hb0 (fun k => k = p ∨ some k = K.ownBlock))
  have hs0 : w.heap.size ≤ W0.heap.size := hb0.size
  have hlow : low ks e ≤ ks.length := low_le ks e
  have HKX := Aside0.mk (fun k (hk : K.ownBlock = some k) => Row.lt hR k hk)
  obtain ⟨i, hi⟩ : ∃ i, low ks e = i := ⟨_, rfl⟩
  obtain ⟨f, hf⟩ : ∃ f, found ks e = f := ⟨_, rfl⟩
  have HF := Aside0.mk (find_calls W0 p K _ ks e HN.out HR.out (by omega) hm)
  rw [hi, hf] at HF
  have HPost : ∀ E w', (∃ K', E = .returned (.bool !f) ∧ NodeAt w' p K' (.slice none 0 0) ∧ RowE w' K' (if f = true then ks else insAt ks i e) ∧ (K'.ownBlock = K.ownBlock ∨ ∃ k, K'.ownBlock = some k ∧ w.heap.size ≤ k) ∧ Keep w w' (fun k => k = p ∨ some k = K.ownBlock)) → InsLeaf w p K ks e E w' := fun E w' h => by unfold InsLeaf; rw [hf, hi]; exact h
  rw [hi] at hlow
  clear hR hm hb0 hN hX hi hf
  cases f
  · go_enter Try.func26, Try.ntmps26
    go_wp2_with (first
      | (go_at_call 30; refine (leaf_calls _ p _ none 0 0 HN.out).mono ?_; rintro E w' ⟨rfl, rfl⟩)
      | (go_at_call 41; refine HF.out.mono ?_; rintro E w2 ⟨rfl, hb⟩; have HN2 := Aside0.mk (HN.out.below hb); have HR2 := Aside0.mk (show RowE _ _ _ from Row.below HR.out hb); have HX2 := Aside0.mk (blk_below HX.out hb); have HB2 := Aside0.mk (HB0.out.below hb); clear hb))
    refine start_ (n := 12) (S := fun w' => w'.cell? ⟨p, 0, none⟩ = some K ∧ w'.cell? ⟨w.heap.size, 0, none⟩ = some (.string e.f0) ∧ w'.cell? ⟨w.heap.size, 1, none⟩ = some (.int .i64 e.f1.f0) ∧ w'.cell? ⟨w.heap.size, 2, none⟩ = some (.int .i64 e.f1.f1)) (ds := [11]) #[false, false, false, false, false, false, false, false, false, false, false, false] (by kernel_rfl) rfl rfl ⟨HN2.out.c0, (blk_cell HX2.out 0).trans rfl, (blk_cell HX2.out 1).trans rfl, (blk_cell HX2.out 2).trans rfl⟩ (fun hHeld => ?_)
    have n1 := Aside0.mk (show NodeAt _ _ _ _ from blk_drew HN2.out)
    have n2 := Aside0.mk (show RowE _ _ _ from Row.move (w' := w2.drew) HR2.out (fun _ _ => rfl))
    have n3 := Aside0.mk (blk_drew HX2.out)
    have n4 := Aside0.mk HB2.out.drew
    clear HN2 HR2 HX2 HB2
    have HN2 := n1
    have HR2 := n2
    have HX2 := n3
    have HB2 := n4
    clear n1 n2 n3 n4
    generalize w2.drew = wd at HN2 HR2 HX2 HB2 hHeld ⊢
    refine pure_ (i := 0) (N := (some 22)) (v := ?_) (a' := ?_) #[true, false, false, false, false, false, false, false, false, false, false, false] rfl rfl (by kernel_rfl) (fun _ _ _ h => h) (Or.inl ⟨by rfl, ?_⟩) ?_ ?_
    rotate_left
    · intro w'
      go_simp
      with_reducible rfl
    rotate_left
    · simp only [Act.put, List.setIfInBounds_toArray, List.set_cons_zero, List.set_cons_succ, i64_w, i32_w]
      rfl
    refine pure_ (i := 1) (N := (some 23)) (v := ?_) (a' := ?_) #[true, true, false, false, false, false, false, false, false, false, false, false] rfl rfl (by kernel_rfl) (fun _ _ _ h => h) (Or.inl ⟨by rfl, ?_⟩) ?_ ?_
    rotate_left
    · intro w'
      go_simp
      with_reducible rfl
    rotate_left
    · simp only [Act.put, List.setIfInBounds_toArray, List.set_cons_zero, List.set_cons_succ, i64_w, i32_w]
      rfl
    refine pure_ (i := 2) (N := (some 24)) (v := ?_) (a' := ?_) #[true, true, true, false, false, false, false, false, false, false, false, false] rfl rfl (by kernel_rfl) (fun _ _ _ h => h) (Or.inl ⟨by rfl, ?_⟩) ?_ ?_
    rotate_left
    · intro w'
      go_simp
      with_reducible rfl
    rotate_left
    · simp only [Act.put, List.setIfInBounds_toArray, List.set_cons_zero, List.set_cons_succ, i64_w, i32_w]
      rfl
    refine pure_ (i := 3) (N := (some 25)) (v := ?_) (a' := ?_) #[true, true, true, true, false, false, false, false, false, false, false, false] rfl rfl (by kernel_rfl) (fun _ _ _ h => h) (Or.inl ⟨by rfl, ?_⟩) ?_ ?_
    rotate_left
    · intro w'
      go_simp
      with_reducible rfl
    rotate_left
    · simp only [Act.put, List.setIfInBounds_toArray, List.set_cons_zero, List.set_cons_succ, i64_w, i32_w]
      rfl
    refine pure_ (i := 5) (N := (some 27)) (v := ?_) (a' := ?_) #[true, true, true, true, false, true, false, false, false, false, false, false] rfl rfl (by kernel_rfl) (fun _ _ _ h => h) (Or.inl ⟨by rfl, ?_⟩) ?_ ?_
    rotate_left
    · intro w'
      go_simp
      with_reducible rfl
    rotate_left
    · simp only [Act.put, List.setIfInBounds_toArray, List.set_cons_zero, List.set_cons_succ, i64_w, i32_w]
      rfl
    refine take_ (i := 4) (N := (some 26)) (v := ?_) (a' := ?_) #[true, true, true, true, true, true, false, false, false, false, false, false] rfl rfl (by kernel_rfl) (fun _ _ _ h => h) (Or.inl ⟨by rfl, ?_⟩) hHeld ?_ ?_
    rotate_left
    · rintro w' ⟨s0, s1, s2, s3⟩
      go_simp
      with_reducible rfl
    rotate_left
    · simp only [Act.put, List.setIfInBounds_toArray, List.set_cons_zero, List.set_cons_succ, i64_w, i32_w]
      rfl
    refine take_ (i := 6) (N := (some 28)) (v := ?_) (a' := ?_) #[true, true, true, true, true, true, true, false, false, false, false, false] rfl rfl (by kernel_rfl) (fun _ _ _ h => h) (Or.inl ⟨by rfl, ?_⟩) hHeld ?_ ?_
    rotate_left
    · rintro w' ⟨s0, s1, s2, s3⟩
      go_simp
      with_reducible rfl
    rotate_left
    · simp only [Act.put, List.setIfInBounds_toArray, List.set_cons_zero, List.set_cons_succ, i64_w, i32_w]
      rfl
    refine one_ (i := 7) (N := (some 29)) #[true, true, true, true, true, true, true, true, false, false, false, false] rfl rfl (by kernel_rfl) (by decide) (fun K_ hK => ?_)
    obtain ⟨v1, hv1⟩ : ∃ v : Nat, wd.heap.size = v := ⟨_, rfl⟩
    refine made_ (v := .slice (some ⟨wd.heap.size, 0, none⟩) 1 1) (w1 := wd.alloc (.cells #[.string e.f0, .int .i64 e.f1.f0, .int .i64 e.f1.f1] 29)) (by rfl) rfl (by go_simp) ?_
    have HNa := Aside0.mk (show NodeAt _ _ _ _ from blk_alloc HN2.out (.cells #[.string e.f0, .int .i64 e.f1.f0, .int .i64 e.f1.f1] 29))
    have HRa := Aside0.mk (show RowE _ _ _ from Row.below HR2.out (below_alloc (Below.refl _ _) (.cells #[.string e.f0, .int .i64 e.f1.f0, .int .i64 e.f1.f1] 29)))
    have HXa := Aside0.mk (blk_alloc HX2.out (.cells #[.string e.f0, .int .i64 e.f1.f0, .int .i64 e.f1.f1] 29))
    have HBa := Aside0.mk (HB2.out.below (below_alloc (Below.refl _ _) (.cells #[.string e.f0, .int .i64 e.f1.f0, .int .i64 e.f1.f1] 29)))
    have HVa := Aside0.mk (blk_new wd (.cells #[.string e.f0, .int .i64 e.f1.f0, .int .i64 e.f1.f1] 29))
    have hwv : w.heap.size ≤ wd.heap.size := HB2.out.size
    have hne1 : K.ownBlock ≠ some wd.heap.size := fun h => by have := HKX.out _ h; omega
    rw [hv1] at HVa hne1 hwv ⊢
    clear HN2 HR2 HX2 HB2 hHeld
    refine hK.out _ _ ⟨(blk_cell HNa.out 0).trans rfl, (blk_cell HXa.out 0).trans rfl, (blk_cell HXa.out 1).trans rfl, (blk_cell HXa.out 2).trans rfl⟩ (fun hHeld => ?_)
    clear hK K_
    generalize wd.alloc (.cells #[.string e.f0, .int .i64 e.f1.f0, .int .i64 e.f1.f1] 29) = wa at HNa HRa HXa HBa HVa hHeld ⊢
    refine norm_ (a' := ?_) ?_ ?_
    rotate_left
    · show Act.put _ (some 29) _ = _
      simp only [Act.put, List.setIfInBounds_toArray, List.set_cons_zero, List.set_cons_succ, i64_w, i32_w]
      rfl
    refine one_ (i := 8) (N := (some 30)) #[true, true, true, true, true, true, true, true, true, false, false, false] rfl rfl (by kernel_rfl) (by decide) (fun K_ hK => ?_)
    refine goes_ Try.func42 (by kernel_rfl) rfl #[K, .int .i64 i, .slice (some ⟨v1, 0, none⟩) 1 1] (by rfl) rfl rfl (by (try simp only [List.map_toArray, List.map_cons, List.map_nil]); first | done | rfl) ?_
    refine (insert42 wa K ks.length i (encEs ks) v1 #[.string e.f0, .int .i64 e.f1.f0, .int .i64 e.f1.f1] HRa.out hlow (by omega) HVa.out rfl (encE_one e) hne1).mono ?_
    rintro E w3 ⟨K2, rfl, hrow, hg, hown, hnn⟩
    obtain ⟨g2, c2, rfl⟩ := Row.formS hrow hnn
    refine ⟨_, rfl, ?_⟩
    have hkp2 : ∀ x, some x = K.ownBlock → x ≠ p := fun x hx e => hKp (by rw [← hx, e])
    have HN3 := Aside0.mk (show NodeAt _ _ _ _ from blk_grown HNa.out hg (fun h => hKp h.symm))
    have HR3 := Aside0.mk hrow
    have hX3 := blk_grown HXa.out hg (fun h => by have := HKX.out _ h.symm; omega)
    have HB3 := Aside0.mk (HBa.out.grown hg (fun b hb => .inl (.inr hb.symm)))
    have HO3 := Aside0.mk hown
    have hsa : w.heap.size ≤ wa.heap.size := HBa.out.size
    have HSA := Aside0.mk hsa
    clear hrow hg hown
    refine hK.out _ _ ⟨(blk_cell HN3.out 0).trans rfl, (blk_cell hX3 0).trans rfl, (blk_cell hX3 1).trans rfl, (blk_cell hX3 2).trans rfl⟩ (fun hHeld => ?_)
    clear hK K_
    refine norm_ (a' := ?_) ?_ ?_
    rotate_left
    · show Act.put _ (some 30) _ = _
      simp only [Act.put, List.setIfInBounds_toArray, List.set_cons_zero, List.set_cons_succ, i64_w, i32_w]
      rfl
    refine pure_ (i := 9) (N := (some 31)) (v := ?_) (a' := ?_) #[true, true, true, true, true, true, true, true, true, true, false, false] rfl rfl (by kernel_rfl) (fun _ _ _ h => h) (Or.inl ⟨by rfl, ?_⟩) ?_ ?_
    rotate_left
    · intro w'
      go_simp
      with_reducible rfl
    rotate_left
    · simp only [Act.put, List.setIfInBounds_toArray, List.set_cons_zero, List.set_cons_succ, i64_w, i32_w]
      rfl
    refine pure_ (i := 10) (N := (some 32)) (v := ?_) (a' := ?_) #[true, true, true, true, true, true, true, true, true, true, true, false] rfl rfl (by kernel_rfl) (fun _ _ _ h => h) (Or.inl ⟨by rfl, ?_⟩) ?_ ?_
    rotate_left
    · intro w'
      go_simp
      with_reducible rfl
    rotate_left
    · simp only [Act.put, List.setIfInBounds_toArray, List.set_cons_zero, List.set_cons_succ, i64_w, i32_w]
      rfl
    refine last_ (i := 11) (N := none) #[true, true, true, true, true, true, true, true, true, true, true, true] rfl rfl (by kernel_rfl) (by decide) (fun K_ hK => ?_)
    have c3 := HN3.out.c0
    have f3 := HN3.out.fz 0
    refine skip_ (w1 := ?_) (by rfl) rfl ?_ ?_
    rotate_left
    · go_simp
      rfl
    refine hK.out _ _ ?_
    clear hK K_
    refine done_ (by kernel_rfl) ?_
    go_wp2
    go_ret
    refine HPost _ _ ⟨.slice (some ⟨g2, 0, none⟩) (ks.length + 1) c2, rfl, blk_put HN3.out 0 _ rfl, ?_, ?_, ?_⟩
    · simp only [Bool.false_eq_true, if_false]
      refine RowE.of ?_ rfl
      have hr := HR3.out
      have he := insEs ks i e hlow
      unfold encE at he
      rw [he] at hr
      rw [insAt_len ks i e hlow]
      refine hr.move fun x hx => Below.heap_setCell _ _ _ _ ?_
      rintro rfl
      rcases HO3.out with h | ⟨k, h, hk⟩
      · exact hKp (by rw [← h, hx])
      · rw [hx] at h
        simp at h
        have := HSA.out
        omega
    · rcases HO3.out with h | ⟨k, h, hk⟩
      · exact .inl h
      · exact .inr ⟨k, h, Nat.le_trans HSA.out hk⟩
    · exact HB3.out.cell (.inl (.inl rfl)) _
  · go_enter Try.func26, Try.ntmps26
    go_wp2_with (first
      | (go_at_call 30; refine (leaf_calls _ p _ none 0 0 HN.out).mono ?_; rintro E w' ⟨rfl, rfl⟩)
      | (go_at_call 41; refine HF.out.mono ?_; rintro E w2 ⟨rfl, hb⟩; have HN2 := Aside0.mk (HN.out.below hb); have HR2 := Aside0.mk (show RowE _ _ _ from Row.below HR.out hb); have HX2 := Aside0.mk (blk_below HX.out hb); have HB2 := Aside0.mk (HB0.out.below hb); clear hb))
    go_ret
    refine HPost _ _ ⟨K, rfl, HN2.out, ?_, .inl rfl, HB2.out⟩
    simp only [if_true]
    exact HR2.out
end Go.Proofs.Bt
end
section
namespace Go.Proofs.Bt
open Go Go.RowKit Go.Proofs.Ytjaddmflopahiaa.Q Go.Proofs.YtjaddmflopahiaaW.PrintWords Go.Proofs.YtjaddmflopahiaaW.PrintLast Go.Proofs.YtjaddmflopahiaaW.PrintMore
set_option linter.unusedVariables false
set_option linter.unusedSimpArgs false
set_option maxRecDepth 100000
structure Leaf where
  p : Nat
  K : Value
  ks : List S29
structure Inner (α : Type) where
  p : Nat
  K : Value
  C : Value
  ks : List S29
  kids : List α
def MT : Nat → Type
  | 0 => Leaf
  | h + 1 => Inner (MT h)
def ptr : (h : Nat) → MT h → Nat
  | 0, m => Leaf.p m
  | _ + 1, m => Inner.p m
def mK : (h : Nat) → MT h → Value
  | 0, m => Leaf.K m
  | _ + 1, m => Inner.K m
def mC : (h : Nat) → MT h → Value
  | 0, m => .slice none 0 0
  | _ + 1, m => Inner.C m
def mks : (h : Nat) → MT h → List S29
  | 0, m => Leaf.ks m
  | _ + 1, m => Inner.ks m
def mkids : (h : Nat) → MT h → Nat
  | 0, _ => 0
  | _ + 1, m => (Inner.kids m).length
def bl (v : Value) : List Nat := v.ownBlock.toList
def fp : (h : Nat) → MT h → List Nat
  | 0, m => Leaf.p m :: bl (Leaf.K m)
  | h + 1, m => Inner.p m :: (bl (Inner.K m) ++ (bl (Inner.C m) ++ (Inner.kids m).flatMap (fp h)))
def kidPtr (h : Nat) (k : MT h) : Value := .pointer (some ⟨ptr h k, 0, none⟩)
def Ok (w : World) : (h : Nat) → MT h → Prop
  | 0, m => NodeAt w (Leaf.p m) (Leaf.K m) (.slice none 0 0) ∧ RowE w (Leaf.K m) (Leaf.ks m)
  | h + 1, m => NodeAt w (Inner.p m) (Inner.K m) (Inner.C m) ∧ RowE w (Inner.K m) (Inner.ks m) ∧ Row w 59 1 (Inner.C m) (Inner.kids m).length ((Inner.kids m).map (kidPtr h)) ∧ 0 < (Inner.kids m).length ∧ ∀ k ∈ Inner.kids m, Ok w h k
def BT : Nat → Type
  | 0 => List S29
  | h + 1 => List S29 × List (BT h)
def abs : (h : Nat) → MT h → BT h
  | 0, m => Leaf.ks m
  | h + 1, m => (Inner.ks m, (Inner.kids m).map (abs h))
def bkeys : (h : Nat) → BT h → List S29
  | 0, t => t
  | _ + 1, t => t.1
def bkids : (h : Nat) → BT h → Nat
  | 0, _ => 0
  | _ + 1, t => t.2.length
theorem abs_keys : ∀ (h : Nat) (m : MT h), bkeys h (abs h m) = mks h m
  | 0, _ => rfl
  | _ + 1, _ => rfl
theorem abs_kids : ∀ (h : Nat) (m : MT h), bkids h (abs h m) = mkids h m
  | 0, _ => rfl
  | _ + 1, m => List.length_map _
theorem bl_mem {v : Value} {a : Nat} : a ∈ bl v ↔ v.ownBlock = some a := by
  unfold bl
  cases v.ownBlock with
  | none => simp
  | some b => simp [eq_comm]
theorem bl_slice (g n c : Nat) : bl (.slice (some ⟨g, 0, none⟩) n c) = [g] := rfl
theorem Ok.lt {w : World} : ∀ {h : Nat} {m : MT h}, Ok w h m → ∀ a ∈ fp h m, a < w.heap.size
  | 0, m, hm, a, ha => by
    rcases List.mem_cons.1 ha with rfl | ha
    · exact hm.1.lt
    · exact Row.lt hm.2 a (bl_mem.1 ha)
  | h + 1, m, hm, a, ha => by
    rcases List.mem_cons.1 ha with rfl | ha
    · exact hm.1.lt
    · rcases List.mem_append.1 ha with ha | ha
      · exact Row.lt hm.2.1 a (bl_mem.1 ha)
      · rcases List.mem_append.1 ha with ha | ha
        · exact Row.lt hm.2.2.1 a (bl_mem.1 ha)
        · obtain ⟨k, hk, hka⟩ := List.mem_flatMap.1 ha
          exact Ok.lt (hm.2.2.2.2 k hk) a hka
theorem Ok.move {w w' : World} : ∀ {h : Nat} {m : MT h}, Ok w h m → (∀ a ∈ fp h m, w'.heap[a]? = w.heap[a]?) → Ok w' h m
  | 0, m, hm, hh => ⟨(hh _ List.mem_cons_self).trans hm.1, Row.move hm.2 fun k hk => hh k (List.mem_cons_of_mem _ (bl_mem.2 hk))⟩
  | h + 1, m, hm, hh => ⟨(hh _ List.mem_cons_self).trans hm.1, Row.move hm.2.1 fun k hk => hh k (List.mem_cons_of_mem _ (List.mem_append_left _ (bl_mem.2 hk))),
      Row.move hm.2.2.1 fun k hk => hh k (List.mem_cons_of_mem _ (List.mem_append_right _ (List.mem_append_left _ (bl_mem.2 hk)))), hm.2.2.2.1,
      fun k hk => Ok.move (hm.2.2.2.2 k hk) fun a ha => hh a (List.mem_cons_of_mem _ (List.mem_append_right _ (List.mem_append_right _ (List.mem_flatMap.2 ⟨k, hk, ha⟩))))⟩
theorem Ok.below {w w' : World} {h : Nat} {m : MT h} (hm : Ok w h m) (hb : Below w.heap.size w w') : Ok w' h m := hm.move fun a ha => hb.block a (hm.lt a ha)
theorem Ok.node {w : World} : ∀ {h : Nat} {m : MT h}, Ok w h m → NodeAt w (ptr h m) (mK h m) (mC h m)
  | 0, _, hm => hm.1
  | _ + 1, _, hm => hm.1
theorem Ok.row {w : World} : ∀ {h : Nat} {m : MT h}, Ok w h m → RowE w (mK h m) (mks h m)
  | 0, _, hm => hm.2
  | _ + 1, _, hm => hm.2.1
theorem ptr_mem : ∀ (h : Nat) (m : MT h), ptr h m ∈ fp h m
  | 0, _ => List.mem_cons_self
  | _ + 1, _ => List.mem_cons_self
def ND (l : List Nat) : Prop := ∀ a, l.count a ≤ 1
theorem count_split {α : Type} (f : α → List Nat) (l : List α) (k a : Nat) : ((l.take k).flatMap f).count a + ((l.drop k).flatMap f).count a = (l.flatMap f).count a := by
  conv => rhs; rw [← List.take_append_drop k l, List.flatMap_append, List.count_append]
theorem count_mem {l : List Nat} {a : Nat} : a ∈ l ↔ 0 < l.count a := List.count_pos_iff.symm
def bsplit : (h : Nat) → BT h → S29 × BT h × BT h
  | 0, ks => (List.getD (α := S29) ks 2 z29, List.take (α := S29) 2 ks, List.drop (α := S29) 2 ks)
  | h + 1, t => (t.1.getD 2 z29, (t.1.take 2, t.2.take 3), (t.1.drop 3, t.2.drop 3))
def entryV (x : S29) : Value := .agg #[.string x.f0, .int .i64 x.f1.f0, .int .i64 x.f1.f1]
def SplitPost (h : Nat) (w : World) (m : MT h) (E : Ending) (w' : World) : Prop :=
  ∃ (m1 m2 : MT h), E = .returned (.tuple #[entryV (bsplit h (abs h m)).1, kidPtr h m2]) ∧ ptr h m1 = ptr h m ∧ Ok w' h m1 ∧ Ok w' h m2 ∧
    abs h m1 = (bsplit h (abs h m)).2.1 ∧ abs h m2 = (bsplit h (abs h m)).2.2 ∧ Keep w w' (fun k => k ∈ fp h m) ∧ ND (fp h m1 ++ fp h m2) ∧ ∀ a, a ∈ fp h m1 ++ fp h m2 → a ∈ fp h m ∨ w.heap.size ≤ a
theorem keep_grown {w w' : World} {p : Nat} (hg : w.grownBy w' (some p)) {F : Nat → Prop} (hp : F p) : Keep w w' F :=
  ⟨hg.os, hg.tape, hg.output, hg.size, fun k hk hf => hg.block k hk (fun e => hf (by simp at e; rw [e]; exact hp))⟩
theorem split_tree : ∀ (h : Nat) (w : World) (m : MT h), Ok w h m → ND (fp h m) → (mks h m).length = 5 → (h = 0 ∨ mkids h m = 6) → Calls Try.prog 27 #[.pointer (some ⟨ptr h m, 0, none⟩)] w (SplitPost h w m)
  | 0, w, m, hok, hnd, h5, _ => by
    obtain ⟨p, K, ks⟩ := m
    obtain ⟨hN, hR⟩ := hok
    change ks.length = 5 at h5
    change NodeAt w p K _ at hN
    change RowE w K ks at hR
    obtain ⟨g, cap, rfl, hcap, hgl⟩ := RowE.block hR (by omega)
    rw [h5] at hN hR hcap
    have hgp : g ≠ p := by
      have := hnd p
      intro e
      subst e
      simp [fp, bl_slice] at this
    refine (split_leaf w p g cap ks hN hR h5 hcap hgp).mono ?_
    rintro E w' ⟨q, k, c, rfl, h1, h2, h3, h4, hq, hk, hqk, hg⟩
    have h2i : 2 < ks.length := by omega
    refine ⟨(⟨p, .slice (some ⟨g, 0, none⟩) 2 2, ks.take 2⟩ : Leaf), (⟨q, .slice (some ⟨k, 0, none⟩) 3 c, ks.drop 2⟩ : Leaf), ?_, rfl, ⟨h1, h2⟩, ⟨h3, h4⟩, rfl, rfl, keep_grown hg List.mem_cons_self, ?_, ?_⟩
    · show _ = Ending.returned (.tuple #[entryV (ks.getD 2 z29), _])
      rw [List.getD_eq_getElem?_getD, List.getElem?_eq_getElem h2i]
      rfl
    · intro a
      have hpl := hN.lt
      simp only [fp, bl_slice, List.count_append, List.count_cons, List.count_nil]
      have : ∀ x y : Nat, (if (x == y) = true then 1 else 0) = if x = y then 1 else 0 := fun x y => by simp
      simp only [this]
      split <;> split <;> split <;> split <;> omega
    · intro a ha
      simp only [fp, bl_slice, List.mem_append, List.mem_cons, List.not_mem_nil, or_false] at ha ⊢
      rcases ha with (ha | ha) | ha | ha <;> omega
  | h + 1, w, m, hok, hnd, h5, h6 => by
    obtain ⟨p, K, C, ks, kids⟩ := m
    obtain ⟨hN, hR, hC, h0, hkids⟩ := hok
    change ks.length = 5 at h5
    have h6' : kids.length = 6 := h6.resolve_left (by omega)
    change NodeAt w p K C at hN
    change RowE w K ks at hR
    change Row w 59 1 C kids.length (kids.map (kidPtr h)) at hC
    change ∀ k ∈ kids, Ok w h k at hkids
    obtain ⟨g, cap, rfl, hcap, hgl⟩ := RowE.block hR (by omega)
    obtain ⟨hh, capC, rfl, hcapC, hhl⟩ : ∃ g cap, C = .slice (some ⟨g, 0, none⟩) kids.length cap ∧ kids.length ≤ cap ∧ g < w.heap.size := by
      rcases hC.2.2 with ⟨_, hk⟩ | ⟨g, cap, cur, rfl, hg, hn, _⟩
      · omega
      · exact ⟨g, cap, rfl, hn, (Array.getElem?_eq_some_iff.1 hg).1⟩
    rw [h5] at hN hR hcap
    rw [h6'] at hN hC hcapC
    have hnd' : ∀ a, (p :: ([g] ++ ([hh] ++ kids.flatMap (fp h)))).count a ≤ 1 := hnd
    have hgp : g ≠ p := by
      rintro rfl
      have := hnd' g
      simp at this
    have hhp : hh ≠ p := by
      rintro rfl
      have := hnd' hh
      simp only [List.count_append, List.count_cons, List.count_nil, beq_self_eq_true, if_true] at this
      omega
    have hgh : g ≠ hh := by
      rintro rfl
      have := hnd' g
      simp only [List.count_append, List.count_cons, List.count_nil, beq_self_eq_true, if_true] at this
      omega
    refine (split_inner w p g cap hh capC ks (kids.map (kidPtr h)) hN hR hC h5 hcap hcapC hgp hhp hgh).mono ?_
    rintro E w' ⟨q, k, c, l, d, rfl, h1, h2, h3, h4, h7, h8, hq, hk, hl, hqk, hql, hkl, hg⟩
    have h2i : 2 < ks.length := by omega
    have hkm : ∀ x ∈ kids, Ok w' h x := fun x hx => (hkids x hx).move fun a ha => hg.block a ((hkids x hx).lt a ha) (fun e => by
      have h1 := hnd' p
      have h2 : 0 < (kids.flatMap (fp h)).count p := count_mem.1 (List.mem_flatMap.2 ⟨x, hx, by simp at e; rw [← e]; exact ha⟩)
      simp only [List.count_append, List.count_cons, List.count_nil, beq_self_eq_true, if_true] at h1
      omega)
    rw [← List.map_take] at h3
    rw [← List.map_drop] at h8
    refine ⟨(⟨p, .slice (some ⟨g, 0, none⟩) 2 2, .slice (some ⟨hh, 0, none⟩) 3 3, ks.take 2, kids.take 3⟩ : Inner (MT h)), (⟨q, .slice (some ⟨k, 0, none⟩) 2 c, .slice (some ⟨l, 0, none⟩) 3 d, ks.drop 3, kids.drop 3⟩ : Inner (MT h)), ?_, rfl, ⟨h1, h2, ?_, ?_, ?_⟩, ⟨h4, h7, ?_, ?_, ?_⟩, ?_, ?_, keep_grown hg List.mem_cons_self, ?_, ?_⟩
    · show _ = Ending.returned (.tuple #[entryV (ks.getD 2 z29), _])
      rw [List.getD_eq_getElem?_getD, List.getElem?_eq_getElem h2i]
      rfl
    · show Row w' 59 1 _ (kids.take 3).length _
      rw [List.length_take, h6']
      exact h3
    · show 0 < (kids.take 3).length
      rw [List.length_take]
      omega
    · intro x hx
      exact hkm x (List.mem_of_mem_take hx)
    · show Row w' 59 1 _ (kids.drop 3).length _
      rw [List.length_drop, h6']
      exact h8
    · show 0 < (kids.drop 3).length
      rw [List.length_drop]
      omega
    · intro x hx
      exact hkm x (List.mem_of_mem_drop hx)
    · show (ks.take 2, (kids.take 3).map (abs h)) = (ks.take 2, (kids.map (abs h)).take 3)
      rw [List.map_take]
    · show (ks.drop 3, (kids.drop 3).map (abs h)) = (ks.drop 3, (kids.map (abs h)).drop 3)
      rw [List.map_drop]
    · intro a
      have hpl := hN.lt
      have h3c := count_split (fp h) kids 3 a
      have hold : w.heap.size ≤ a → (kids.flatMap (fp h)).count a = 0 := fun hle => by
        rw [List.count_eq_zero]
        intro hmem
        obtain ⟨x, hx, hxa⟩ := List.mem_flatMap.1 hmem
        have := (hkids x hx).lt a hxa
        omega
      have hn := hnd' a
      simp only [fp, bl_slice, List.count_append, List.count_cons, List.count_nil] at hn ⊢
      have : ∀ x y : Nat, (if (x == y) = true then 1 else 0) = if x = y then 1 else 0 := fun x y => by simp
      simp only [this] at hn ⊢
      by_cases ha : w.heap.size ≤ a
      · have := hold ha
        rw [if_neg (show ¬ p = a by omega), if_neg (show ¬ g = a by omega), if_neg (show ¬ hh = a by omega)]
        split <;> split <;> split <;> omega
      · rw [if_neg (show ¬ q = a by omega), if_neg (show ¬ k = a by omega), if_neg (show ¬ l = a by omega)]
        omega
    · intro a ha
      simp only [fp, bl_slice, List.mem_append, List.mem_cons, List.not_mem_nil, or_false] at ha ⊢
      rcases ha with (rfl | rfl | rfl | ha) | rfl | rfl | rfl | ha
      · exact .inl (.inl rfl)
      · exact .inl (.inr (.inl rfl))
      · exact .inl (.inr (.inr (.inl rfl)))
      · obtain ⟨x, hx, hxa⟩ := List.mem_flatMap.1 ha
        exact .inl (.inr (.inr (.inr (List.mem_flatMap.2 ⟨x, List.mem_of_mem_take hx, hxa⟩))))
      · exact .inr hq
      · exact .inr hk
      · exact .inr hl
      · obtain ⟨x, hx, hxa⟩ := List.mem_flatMap.1 ha
        exact .inl (.inr (.inr (.inr (List.mem_flatMap.2 ⟨x, List.mem_of_mem_drop hx, hxa⟩))))
end Go.Proofs.Bt
end
section
namespace Go.Proofs.Bt
open Go Go.RowKit Go.Proofs.Ytjaddmflopahiaa.Q Go.Proofs.YtjaddmflopahiaaW.PrintWords Go.Proofs.YtjaddmflopahiaaW.PrintLast Go.Proofs.YtjaddmflopahiaaW.PrintMore
set_option linter.unusedVariables false
set_option linter.unusedSimpArgs false
structure Chunk where
  H : World → Prop
  bs : List Nat
  lt : ∀ {w : World}, H w → ∀ b ∈ bs, b < w.heap.size
  mv : ∀ {w w' : World}, H w → (∀ b ∈ bs, w'.heap[b]? = w.heap[b]?) → H w'
def fpc (cs : List Chunk) : List Nat := cs.flatMap Chunk.bs
theorem fpc_app (a b : List Chunk) : fpc (a ++ b) = fpc a ++ fpc b := by simp [fpc]
theorem fpc_cons (a : Chunk) (b : List Chunk) : fpc (a :: b) = a.bs ++ fpc b := rfl
theorem mem_fpc {cs : List Chunk} {b : Nat} : b ∈ fpc cs ↔ ∃ c ∈ cs, b ∈ c.bs := List.mem_flatMap
structure St (w0 : World) (F : Nat → Prop) (w : World) (cs : List Chunk) : Prop where
  keep : Keep w0 w F
  h : ∀ c ∈ cs, c.H w
  nd : ND (fpc cs)
  own : ∀ b ∈ fpc cs, F b ∨ w0.heap.size ≤ b
section
variable {w0 w w' : World} {F : Nat → Prop} {cs A B R : List Chunk} {c c' d : Chunk}
theorem St.start (h : ∀ c ∈ cs, c.H w) (nd : ND (fpc cs)) : St w (fun b => b ∈ fpc cs) w cs :=
  ⟨Keep.of_below (Below.refl _ w) _, h, nd, fun b hb => .inl hb⟩
theorem St.get (s : St w0 F w cs) (i : Nat) (hi : cs[i]? = some c) : c.H w := s.h c (List.mem_of_getElem? hi)
theorem St.lt (s : St w0 F w cs) : ∀ b ∈ fpc cs, b < w.heap.size := by
  intro b hb
  obtain ⟨c, hc, hbc⟩ := mem_fpc.1 hb
  exact c.lt (s.h c hc) b hbc
theorem St.below (s : St w0 F w cs) (hb : Below w.heap.size w w') : St w0 F w' cs :=
  ⟨s.keep.below hb, fun c hc => c.mv (s.h c hc) fun b hbc => hb.block b (c.lt (s.h c hc) b hbc), s.nd, s.own⟩
theorem St.drew (s : St w0 F w cs) : St w0 F w.drew cs := ⟨s.keep.drew, fun c hc => c.mv (s.h c hc) fun _ _ => rfl, s.nd, s.own⟩
theorem nd_app {a b : List Nat} : ND (a ++ b) ↔ (ND a ∧ ND b ∧ ∀ x ∈ a, x ∉ b) := by
  refine ⟨fun h => ⟨fun x => ?_, fun x => ?_, fun x hx hb => ?_⟩, fun ⟨h1, h2, h3⟩ x => ?_⟩
  · have := h x
    rw [List.count_append] at this
    omega
  · have := h x
    rw [List.count_append] at this
    omega
  · have := h x
    rw [List.count_append] at this
    have h1 := count_mem.1 hx
    have h2 := count_mem.1 hb
    omega
  · rw [List.count_append]
    have h1x := h1 x
    have h2x := h2 x
    by_cases hx : x ∈ a
    · have := List.count_eq_zero.2 (h3 x hx)
      omega
    · have := List.count_eq_zero.2 hx
      omega
theorem St.frame (s : St w0 F w (A ++ R)) (hk : Keep w w' (fun b => b ∈ fpc A)) (hh : ∀ c ∈ B, c.H w') (hnd : ND (fpc B)) (hs : ∀ b ∈ fpc B, b ∈ fpc A ∨ w.heap.size ≤ b) : St w0 F w' (B ++ R) := by
  have hlt := s.lt
  have hn := s.nd
  rw [fpc_app] at hn hlt
  obtain ⟨hnA, hnR, hAR⟩ := nd_app.1 hn
  have hown := s.own
  rw [fpc_app] at hown
  have hsz := s.keep.size
  refine ⟨s.keep.trans hk fun b hb => hown b (List.mem_append_left _ hb), ?_, ?_, ?_⟩
  · intro c hc
    rcases List.mem_append.1 hc with hc | hc
    · exact hh c hc
    · have hcw := s.h c (List.mem_append_right _ hc)
      exact c.mv hcw fun b hb => hk.block b (c.lt hcw b hb) fun hA => hAR b hA (mem_fpc.2 ⟨c, hc, hb⟩)
  · rw [fpc_app]
    refine nd_app.2 ⟨hnd, hnR, fun x hx hR => ?_⟩
    rcases hs x hx with h | h
    · exact hAR x h hR
    · have := hlt x (List.mem_append_right _ hR)
      omega
  · intro b hb
    rw [fpc_app] at hb
    rcases List.mem_append.1 hb with hb | hb
    · rcases hs b hb with h | h
      · exact hown b (List.mem_append_left _ h)
      · exact .inr (by omega)
    · exact hown b (List.mem_append_right _ hb)
theorem St.call (s : St w0 F w (A ++ R)) (k : St w (fun b => b ∈ fpc A) w' B) : St w0 F w' (B ++ R) := s.frame k.keep k.h k.nd k.own
theorem fpc_perm {a b : List Chunk} (h : a.Perm b) : (fpc a).Perm (fpc b) := by
  unfold fpc
  exact h.flatMap_right _
theorem St.perm (s : St w0 F w A) (h : A.Perm B) : St w0 F w B :=
  ⟨s.keep, fun c hc => s.h c (h.mem_iff.2 hc), fun a => by rw [← (fpc_perm h).count_eq]; exact s.nd a, fun b hb => s.own b ((fpc_perm h).mem_iff.2 hb)⟩
theorem St.tell (s : St w0 F w (A ++ R)) (hh : (∀ c ∈ A, c.H w) → ∀ c ∈ B, c.H w) (hc : ∀ b, (fpc B).count b ≤ (fpc A).count b) : St w0 F w (B ++ R) := by
  refine s.frame (Keep.of_below (Below.refl _ w) _) (hh fun c hc => s.h c (List.mem_append_left _ hc)) (fun b => ?_) (fun b hb => .inl ?_)
  · have h1 := s.nd b
    rw [fpc_app, List.count_append] at h1
    have := hc b
    omega
  · have h1 := count_mem.1 hb
    exact count_mem.2 (Nat.lt_of_lt_of_le h1 (hc b))
theorem St.drop (s : St w0 F w (A ++ R)) : St w0 F w R := by
  have := St.tell (B := []) s (fun _ c hc => by cases hc) (fun b => by simp [fpc])
  simpa using this
theorem set_split {α : Type} : ∀ {l : List α} {i : Nat} {x : α} (y : α), l[i]? = some x → ∃ A B, l = A ++ x :: B ∧ l.set i y = A ++ y :: B ∧ A.length = i
  | [], i, x, y, h => by simp at h
  | a :: l, 0, x, y, h => by
    simp at h
    subst h
    exact ⟨[], l, rfl, rfl, rfl⟩
  | a :: l, i + 1, x, y, h => by
    obtain ⟨A, B, h1, h2, h3⟩ := set_split (l := l) y (by simpa using h)
    exact ⟨a :: A, B, by rw [h1]; rfl, by rw [List.set_cons_succ, h2]; rfl, by simp [h3]⟩
theorem St.upd (s : St w0 F w cs) (i : Nat) (hi : cs[i]? = some c) (c' : Chunk) (hk : Keep w w' (fun b => b ∈ c.bs)) (hc : c'.H w') (hnd : ND c'.bs) (hs : ∀ b ∈ c'.bs, b ∈ c.bs ∨ w.heap.size ≤ b) : St w0 F w' (cs.set i c') := by
  obtain ⟨A, B, h1, h2, hAi⟩ := set_split c' hi
  rw [h2]
  rw [h1] at s
  have hp : (A ++ c :: B).Perm ([c] ++ (A ++ B)) := List.perm_middle
  have hq : ([c'] ++ (A ++ B)).Perm (A ++ c' :: B) := (List.perm_middle (a := c') (l₁ := A) (l₂ := B)).symm
  have e : ∀ x : Chunk, fpc [x] = x.bs := fun x => by simp [fpc]
  refine ((s.perm hp).frame (B := [c']) (by rw [e]; exact hk) ?_ (by rw [e]; exact hnd) (by rw [e, e]; exact hs)).perm hq
  intro x hx
  simp at hx
  subst hx
  exact hc
theorem St.ndi (s : St w0 F w cs) (i : Nat) (hi : cs[i]? = some c) : ND c.bs := by
  obtain ⟨A, B, h1, h2, hAi⟩ := set_split c hi
  have hn := s.nd
  rw [h1] at hn
  intro b
  have := hn b
  simp only [fpc, List.flatMap_append, List.flatMap_cons, List.count_append] at this
  omega
theorem St.apart (s : St w0 F w cs) (i j : Nat) (hij : i ≠ j) (hi : cs[i]? = some c) (hj : cs[j]? = some d) : ∀ b ∈ c.bs, b ∉ d.bs := by
  intro b hb hd
  obtain ⟨A, B, h1, h2, hAi⟩ := set_split c hi
  have hn := s.nd b
  have hdm : d ∈ A ++ B := by
    rw [h1] at hj
    by_cases hl : A.length ≤ j
    · rw [List.getElem?_append_right hl] at hj
      obtain ⟨m, hm⟩ : ∃ m, j - A.length = m + 1 := ⟨j - A.length - 1, by omega⟩
      rw [hm, List.getElem?_cons_succ] at hj
      exact List.mem_append_right _ (List.mem_of_getElem? hj)
    · rw [List.getElem?_append_left (by omega)] at hj
      exact List.mem_append_left _ (List.mem_of_getElem? hj)
  rw [h1] at hn
  have h3 := count_mem.1 hb
  have h4 : 0 < (fpc (A ++ B)).count b := count_mem.1 (mem_fpc.2 ⟨d, hdm, hd⟩)
  simp only [fpc, List.flatMap_append, List.flatMap_cons, List.count_append] at hn h4
  omega
end
end Go.Proofs.Bt
end
section
namespace Go.Proofs.Bt
open Go Go.RowKit
set_option linter.unusedVariables false
set_option linter.unusedSimpArgs false
variable {P : Program}
theorem run_append_R (w : World) (t ty e : TypeId) (i : TypeInfo) (z : Value) (size bytes : Nat) (ht : P.underlying t = some (.slice e)) (hi : P.info? e = some i) (hz : i.zero = some z)
    (hsize : i.size = size) (hby : i.bytes = bytes) (hzs : z.cells.size = size) (hsz : 0 < size) (hb64 : bytes ≤ 64)
    (v : Value) (n : Nat) (xs : List Value) (hR : Row w e size v n xs) (a : Addr) (m c : Nat) (news : List Value) (hl : news.length = m * size) (hnews : ∀ j u, news[j]? = some u → w.cell? (a.add j) = some u) (h1 : ∀ u ∈ news, u.oneCell' = true) (hn : n + m < 1000000) :
    ∃ v' w', (Builtin.append_ #[t, t] ty #[v, .slice (some a) m c]).run P w = .ok v' w' ∧ Row w' e size v' (n + m) (xs ++ news) ∧ w.grownBy w' v.ownBlock ∧
      (v'.ownBlock = v.ownBlock ∨ ∃ k, v'.ownBlock = some k ∧ w.heap.size ≤ k) := by
  subst hsize
  subst hby
  have hRl := hR.1
  have hR1 := hR.2.1
  have hlen : (xs ++ news).length = (n + m) * i.size := by rw [List.length_append, hRl, hl, Nat.add_mul]
  have hone : ∀ u ∈ xs ++ news, u.oneCell' = true := fun u hu => (List.mem_append.1 hu).elim (hR1 u) (h1 u)
  have hbb : (n + m) * i.bytes ≤ 1000000 * 64 := Nat.mul_le_mul (by omega) hb64
  rcases hR.2.2 with ⟨rfl, rfl⟩ | ⟨g, cap, cur, rfl, hg, hnc, hcm, hcs, htake⟩
  · have hx : xs = [] := List.eq_nil_of_length_eq_zero (by simpa using hRl)
    subst hx
    by_cases hm : m = 0
    · subst hm
      have hnn : news = [] := List.eq_nil_of_length_eq_zero (by simpa using hl)
      subst hnn
      refine ⟨.slice none 0 0, w, ?_, Row.nil w e i.size, ⟨rfl, rfl, rfl, Nat.le_refl _, fun _ _ _ => rfl⟩, .inl rfl⟩
      simp [Builtin.append_, run_underlying ht, sizeOf, typeInfo, hi, Builtin.lenOf, Builtin.firstCells, loadCells, loadCellsFrom]
    · have hr := run_append_nil (P := P) w t ty e i z ht hi hz a m c news hl hnews (by omega) (by omega) (by simp only [Nat.zero_add] at hbb; omega)
      have hge := grownCap_ge w m 0 e
      have hle := grownCap_le_maxLen w m 0 e (by simp only [maxLen]; omega)
      refine ⟨_, _, hr, ⟨hlen, hone, .inr ⟨_, _, _, by rw [Nat.zero_add]; rfl, heap_alloc_new w.drew _, by omega, hle, ?_, ?_⟩⟩, grown_alloc w _ _, .inr ⟨_, rfl, Nat.le_refl _⟩⟩
      · simp only [Array.size_append, List.size_toArray, size_zeroCells, hzs, hl, ← Nat.add_mul]
        exact Nat.mul_le_mul_right _ (by omega)
      · simp only [Array.toList_append, List.nil_append]
        rw [show (0 + m) * i.size = news.length by rw [hl, Nat.zero_add]]
        exact List.take_left
  · by_cases hroom : n + m ≤ cap
    · have hfit : n * i.size + news.length ≤ cur.size := by
        rw [hl, ← Nat.add_mul]
        exact Nat.le_trans (Nat.mul_le_mul_right _ hroom) hcs
      have hr := run_append_room (P := P) w t ty e i ht hi g n cap cur hg a m c news hl hnews h1 hroom hfit
      refine ⟨_, _, hr, ⟨hlen, hone, .inr ⟨g, cap, _, rfl, setRow_heap w g cur _ e _ hg, hroom, hcm, ?_, ?_⟩⟩, grown_set w g _, .inl rfl⟩
      · simp only [List.size_toArray, List.length_append, List.length_take, List.length_drop, Array.length_toList]
        omega
      · rw [htake, ← hlen]
        exact List.take_left
    · have holds : ∀ j u, xs[j]? = some u → w.cell? ((⟨g, 0, none⟩ : Addr).add j) = some u := fun j u hu => by
        rw [Addr.add_lit, Nat.zero_add]
        exact hR.cell rfl j u hu
      have hr := run_append_grow (P := P) w t ty e i z ht hi hz ⟨g, 0, none⟩ n cap xs hRl holds a m c news hl hnews (by omega) (by omega) (growslice_fits (by omega) (by omega))
      have hge := grownCap_ge w (n + m) cap e
      have hle := grownCap_le_maxLen w (n + m) cap e (by simp only [maxLen]; omega)
      refine ⟨_, _, hr, ⟨hlen, hone, .inr ⟨_, _, _, rfl, heap_alloc_new w.drew _, hge, hle, ?_, ?_⟩⟩, grown_alloc w _ _, .inr ⟨_, rfl, Nat.le_refl _⟩⟩
      · simp only [Array.size_append, List.size_toArray, size_zeroCells, hzs, hRl, hl, ← Nat.add_mul]
        exact Nat.mul_le_mul_right _ (by omega)
      · simp only [Array.toList_append, List.append_assoc]
        rw [← List.append_assoc, ← hlen]
        exact List.take_left
end Go.Proofs.Bt
end
section
namespace Go.Proofs.Bt
open Go Go.RowKit Go.Proofs.Ytjaddmflopahiaa.Q Go.Proofs.YtjaddmflopahiaaW.PrintWords Go.Proofs.YtjaddmflopahiaaW.PrintLast Go.Proofs.YtjaddmflopahiaaW.PrintMore
set_option linter.unusedVariables false
set_option linter.unusedSimpArgs false
def blkC (b : Nat) (o : Obj) : Chunk := ⟨fun w => w.heap[b]? = some o, [b], fun h x hx => by simp at hx; subst hx; exact (Array.getElem?_eq_some_iff.1 h).1, fun h hm => (hm b (by simp)).trans h⟩
def nodeC (p : Nat) (K C : Value) : Chunk := ⟨fun w => NodeAt w p K C, [p], fun h x hx => by simp at hx; subst hx; exact h.lt, fun h hm => (hm p (by simp)).trans h⟩
def rowEC (v : Value) (ks : List S29) : Chunk := ⟨fun w => RowE w v ks, bl v, fun h x hx => Row.lt h x (bl_mem.1 hx), fun h hm => Row.move h fun k hk => hm k (bl_mem.2 hk)⟩
def rowPC (v : Value) (ps : List Value) : Chunk := ⟨fun w => Row w 59 1 v ps.length ps, bl v, fun h x hx => Row.lt h x (bl_mem.1 hx), fun h hm => Row.move h fun k hk => hm k (bl_mem.2 hk)⟩
def treeC (h : Nat) (m : MT h) : Chunk := ⟨fun w => Ok w h m, fp h m, fun hm x hx => hm.lt x hx, fun hm hh => hm.move hh⟩
def forC (h : Nat) (l : List (MT h)) : Chunk := ⟨fun w => ∀ k ∈ l, Ok w h k, l.flatMap (fp h), fun hm x hx => by obtain ⟨k, hk, hx⟩ := List.mem_flatMap.1 hx; exact (hm k hk).lt x hx,
  fun hm hh k hk => (hm k hk).move fun a ha => hh a (List.mem_flatMap.2 ⟨k, hk, ha⟩)⟩
section
variable {w0 w w' : World} {F : Nat → Prop} {cs A B R : List Chunk} {c c' d : Chunk} {p : Nat} {K C v : Value} {ks : List S29} {ps : List Value}
theorem St.node (s : St w0 F w cs) (i : Nat) (hi : cs[i]? = some (nodeC p K C)) : NodeAt w p K C := s.get i hi
theorem St.rowE (s : St w0 F w cs) (i : Nat) (hi : cs[i]? = some (rowEC v ks)) : RowE w v ks := s.get i hi
theorem St.rowP (s : St w0 F w cs) (i : Nat) (hi : cs[i]? = some (rowPC v ps)) : Row w 59 1 v ps.length ps := s.get i hi
theorem St.tree (s : St w0 F w cs) (i : Nat) {h : Nat} {m : MT h} (hi : cs[i]? = some (treeC h m)) : Ok w h m := s.get i hi
theorem St.blk (s : St w0 F w cs) (i : Nat) {b : Nat} {o : Obj} (hi : cs[i]? = some (blkC b o)) : w.heap[b]? = some o := s.get i hi
theorem nd_one (p : Nat) : ND [p] := fun a => by simp [List.count_cons]; split <;> omega
theorem nd_bl (v : Value) : ND (bl v) := by
  unfold bl
  cases v.ownBlock with
  | none => intro a; simp
  | some b => exact nd_one b
theorem St.alloc (s : St w0 F w cs) (C : Array Value) (T : TypeId) {n : Nat} (hn : w.heap.size = n) : St w0 F (w.alloc (.cells C T)) (cs ++ [blkC n (.cells C T (0, 0))]) := by
  have hb : Below w.heap.size w (w.alloc (.cells C T)) := (Below.refl _ w).alloc (Nat.le_refl _) _
  have s2 := s.below hb
  have hlt := s.lt
  subst hn
  have e : fpc (cs ++ [blkC w.heap.size (.cells C T (0, 0))]) = fpc cs ++ [w.heap.size] := by rw [fpc_app]; rfl
  refine ⟨s2.keep, ?_, ?_, ?_⟩
  · intro c hc
    rcases List.mem_append.1 hc with hc | hc
    · exact s2.h c hc
    · simp at hc
      subst hc
      exact heap_alloc_new w _
  · rw [e]
    refine nd_app.2 ⟨s.nd, nd_one _, fun x hx hm => ?_⟩
    have hx' : x = w.heap.size := by simpa using hm
    have := hlt x hx
    omega
  · intro b hb
    rw [e] at hb
    rcases List.mem_append.1 hb with hb | hb
    · exact s.own b hb
    · have hx' : b = w.heap.size := by simpa using hb
      have := s.keep.size
      exact .inr (by omega)
theorem St.left (s : St w0 F w (A ++ R)) : St w0 F w A := (s.perm (B := R ++ A) List.perm_append_comm).drop
theorem keep_set (w : World) (p : Nat) (j : Nat) (v : Value) (F : Nat → Prop) (hF : F p) : Keep w (w.setCell ⟨p, j, none⟩ v) F := (Keep.of_below (Below.refl _ w) F).cell (p := ⟨p, j, none⟩) (.inl hF) v
theorem St.put0 (s : St w0 F w cs) (i : Nat) (hi : cs[i]? = some (nodeC p K C)) (v : Value) : St w0 F (w.setCell ⟨p, 0, none⟩ v) (cs.set i (nodeC p v C)) :=
  s.upd i hi _ (keep_set w p 0 v _ (by simp [nodeC])) (blk_put (s.node i hi) 0 v rfl) (nd_one p) (fun b hb => .inl hb)
theorem St.put1 (s : St w0 F w cs) (i : Nat) (hi : cs[i]? = some (nodeC p K C)) (v : Value) : St w0 F (w.setCell ⟨p, 1, none⟩ v) (cs.set i (nodeC p K v)) :=
  s.upd i hi _ (keep_set w p 1 v _ (by simp [nodeC])) (blk_put (s.node i hi) 1 v rfl) (nd_one p) (fun b hb => .inl hb)
theorem keep_row {v : Value} (hg : w.grownBy w' v.ownBlock) : Keep w w' (fun b => b ∈ bl v) :=
  ⟨hg.os, hg.tape, hg.output, hg.size, fun k hk hf => hg.block k hk fun e => hf (bl_mem.2 e.symm)⟩
theorem bl_sub {v v' : Value} (ho : v'.ownBlock = v.ownBlock ∨ ∃ k, v'.ownBlock = some k ∧ w.heap.size ≤ k) : ∀ b ∈ bl v', b ∈ bl v ∨ w.heap.size ≤ b := by
  intro b hb
  have h1 := bl_mem.1 hb
  rcases ho with ho | ⟨k, hk, hle⟩
  · exact .inl (bl_mem.2 (ho ▸ h1))
  · rw [h1] at hk
    simp at hk
    exact .inr (by omega)
theorem St.setE (s : St w0 F w cs) (i : Nat) (hi : cs[i]? = some (rowEC v ks)) {v' : Value} {ks' : List S29} (hg : w.grownBy w' v.ownBlock) (hr : RowE w' v' ks') (ho : v'.ownBlock = v.ownBlock ∨ ∃ k, v'.ownBlock = some k ∧ w.heap.size ≤ k) : St w0 F w' (cs.set i (rowEC v' ks')) :=
  s.upd i hi _ (keep_row hg) hr (nd_bl v') (bl_sub ho)
theorem St.setP (s : St w0 F w cs) (i : Nat) (hi : cs[i]? = some (rowPC v ps)) {v' : Value} {ps' : List Value} (hg : w.grownBy w' v.ownBlock) (hr : Row w' 59 1 v' ps'.length ps') (ho : v'.ownBlock = v.ownBlock ∨ ∃ k, v'.ownBlock = some k ∧ w.heap.size ≤ k) : St w0 F w' (cs.set i (rowPC v' ps')) :=
  s.upd i hi _ (keep_row hg) hr (nd_bl v') (bl_sub ho)
theorem appended_ {P : Program} {ops : Array Oper} {Q : Exit → Act → World → Prop} {oi : Oper} {N : Option Tmp} {a : Act} {w : World} {K : Act → World → Prop} (d x : Operand) (dT sT : TypeId) (hw : Region.wanted oi (yielded ops a.tmps) = true) (hN : oi.dst = N)
    (hop : oi.op = Op.call { callee := Callee.builtin Builtin.append, args := #[d, x], argTypes := #[dT, sT] }) (v u : Value) (hd : a.eval d = v) (hx : a.eval x = u) {v' : Value} {w' : World} (hr : (Builtin.append_ #[dT, sT] oi.type #[v, u]).run P w = .ok v' w')
    (h : K (a.put N v') w') : if Region.wanted oi (yielded ops a.tmps) = true then Oper.wp P oi a w K Q else K (a.put N undef) w := by
  rw [if_pos hw]
  subst hN
  unfold Oper.wp
  simp [execOp, hop, resolve, invoke, builtin, hd, hx, hr, Result.andThen]
  exact h
end
end Go.Proofs.Bt
end
section
namespace Go.Proofs.Bt
open Go Go.RowKit Go.Proofs.Ytjaddmflopahiaa.Q Go.Proofs.YtjaddmflopahiaaW.PrintWords Go.Proofs.YtjaddmflopahiaaW.PrintLast Go.Proofs.YtjaddmflopahiaaW.PrintMore
set_option linter.unusedVariables false
set_option linter.unusedSimpArgs false
def Owns (w : World) (v v' : Value) : Prop := v'.ownBlock = v.ownBlock ∨ ∃ k, v'.ownBlock = some k ∧ w.heap.size ≤ k
theorem row_slice {w : World} {e : TypeId} {sz n : Nat} {v : Value} {xs : List Value} (h : Row w e sz v n xs) (h0 : 0 < n) : ∃ g c, v = .slice (some ⟨g, 0, none⟩) n c ∧ n ≤ c := by
  rcases h.2.2 with ⟨_, h⟩ | ⟨g, cap, cur, h, _, h2, _⟩
  · omega
  · exact ⟨g, cap, h, h2⟩
theorem row_cells {w : World} {e : TypeId} {sz g n c : Nat} {xs : List Value} (h : Row w e sz (.slice (some ⟨g, 0, none⟩) n c) n xs) : ∀ j u, xs[j]? = some u → w.cell? ((⟨g, 0, none⟩ : Addr).add j) = some u := fun j u hu => by
  rw [Addr.add_lit, Nat.zero_add]
  exact h.cell rfl j u hu
theorem appendE (w : World) (v : Value) (ks : List S29) (x : S29) (vb : Nat) (ty : TypeId) (hR : RowE w v ks) (hv : w.heap[vb]? = some (.cells #[.string x.f0, .int .i64 x.f1.f0, .int .i64 x.f1.f1] 29 (0, 0))) (hn : ks.length < 100000) :
    ∃ g c w', (Builtin.append_ #[22, 22] ty #[v, .slice (some ⟨vb, 0, none⟩) 1 1]).run Try.prog w = .ok (.slice (some ⟨g, 0, none⟩) (ks.length + 1) c) w' ∧ RowE w' (.slice (some ⟨g, 0, none⟩) (ks.length + 1) c) (ks ++ [x]) ∧ w.grownBy w' v.ownBlock ∧ Owns w v (.slice (some ⟨g, 0, none⟩) (ks.length + 1) c) := by
  obtain ⟨i0, hi0, hz0, hzs, hzb⟩ := info_parts ins42_info
  obtain ⟨v', w', h1, h2, h3, h4⟩ := run_append_R (P := Try.prog) w 22 ty 29 i0 _ 3 32 Try.underlying22 hi0 hz0 hzs hzb rfl (by decide) (by decide) v ks.length (encEs ks) hR ⟨vb, 0, none⟩ 1 1 (encEs [x]) rfl (fun j u hu => by
    rw [Addr.add_lit, Nat.zero_add, cell_of_row w vb j _ 29 (0, 0) hv]
    rw [← hu, List.getElem?_toArray]
    rfl) (encEs_one [x]) (by omega)
  obtain ⟨g, c, rfl, _⟩ := row_slice h2 (by omega)
  rw [← encEs_app] at h2
  exact ⟨g, c, w', h1, RowE.of h2 (by simp), h3, h4⟩
theorem appendP (w : World) (v : Value) (ps : List Value) (x : Value) (hx1 : x.oneCell' = true) (vb : Nat) (ty : TypeId) (hR : Row w 59 1 v ps.length ps) (hv : w.heap[vb]? = some (.cells #[x] 59 (0, 0))) (hn : ps.length < 100000) :
    ∃ g c w', (Builtin.append_ #[60, 60] ty #[v, .slice (some ⟨vb, 0, none⟩) 1 1]).run Try.prog w = .ok (.slice (some ⟨g, 0, none⟩) (ps.length + 1) c) w' ∧ Row w' 59 1 (.slice (some ⟨g, 0, none⟩) (ps.length + 1) c) (ps ++ [x]).length (ps ++ [x]) ∧ w.grownBy w' v.ownBlock ∧ Owns w v (.slice (some ⟨g, 0, none⟩) (ps.length + 1) c) := by
  obtain ⟨i0, hi0, hz0, hzs, hzb⟩ := info_parts ins44_info
  obtain ⟨v', w', h1, h2, h3, h4⟩ := run_append_R (P := Try.prog) w 60 ty 59 i0 _ 1 8 Try.underlying60 hi0 hz0 hzs hzb rfl (by decide) (by decide) v ps.length ps hR ⟨vb, 0, none⟩ 1 1 [x] rfl (fun j u hu => by
    rw [Addr.add_lit, Nat.zero_add, cell_of_row w vb j _ 59 (0, 0) hv]
    rw [← hu, List.getElem?_toArray]) (by simp [hx1]) (by omega)
  obtain ⟨g, c, rfl, _⟩ := row_slice h2 (by omega)
  exact ⟨g, c, w', h1, by rw [List.length_append]; exact h2, h3, h4⟩
theorem appendEs (w : World) (v u : Value) (ks ls : List S29) (ty : TypeId) (hR : RowE w v ks) (hu : RowE w u ls) (hn : ks.length + ls.length < 100000) (h0 : 0 < ls.length) :
    ∃ g c w', (Builtin.append_ #[22, 22] ty #[v, u]).run Try.prog w = .ok (.slice (some ⟨g, 0, none⟩) (ks.length + ls.length) c) w' ∧ RowE w' (.slice (some ⟨g, 0, none⟩) (ks.length + ls.length) c) (ks ++ ls) ∧ w.grownBy w' v.ownBlock ∧ Owns w v (.slice (some ⟨g, 0, none⟩) (ks.length + ls.length) c) := by
  obtain ⟨i0, hi0, hz0, hzs, hzb⟩ := info_parts ins42_info
  obtain ⟨g0, c0, rfl, _⟩ := row_slice hu h0
  obtain ⟨v', w', h1, h2, h3, h4⟩ := run_append_R (P := Try.prog) w 22 ty 29 i0 _ 3 32 Try.underlying22 hi0 hz0 hzs hzb rfl (by decide) (by decide) v ks.length (encEs ks) hR ⟨g0, 0, none⟩ ls.length c0 (encEs ls) (encEs_len ls) (row_cells hu) (encEs_one ls) (by omega)
  obtain ⟨g, c, rfl, _⟩ := row_slice h2 (by omega)
  rw [← encEs_app] at h2
  exact ⟨g, c, w', h1, RowE.of h2 (by simp), h3, h4⟩
theorem appendPs (w : World) (v u : Value) (ps qs : List Value) (ty : TypeId) (hR : Row w 59 1 v ps.length ps) (hu : Row w 59 1 u qs.length qs) (hn : ps.length + qs.length < 100000) (h0 : 0 < qs.length) :
    ∃ g c w', (Builtin.append_ #[60, 60] ty #[v, u]).run Try.prog w = .ok (.slice (some ⟨g, 0, none⟩) (ps.length + qs.length) c) w' ∧ Row w' 59 1 (.slice (some ⟨g, 0, none⟩) (ps.length + qs.length) c) (ps ++ qs).length (ps ++ qs) ∧ w.grownBy w' v.ownBlock ∧ Owns w v (.slice (some ⟨g, 0, none⟩) (ps.length + qs.length) c) := by
  obtain ⟨i0, hi0, hz0, hzs, hzb⟩ := info_parts ins44_info
  obtain ⟨g0, c0, rfl, _⟩ := row_slice hu h0
  obtain ⟨v', w', h1, h2, h3, h4⟩ := run_append_R (P := Try.prog) w 60 ty 59 i0 _ 1 8 Try.underlying60 hi0 hz0 hzs hzb rfl (by decide) (by decide) v ps.length ps hR ⟨g0, 0, none⟩ qs.length c0 qs (by simp) (row_cells hu) hu.2.1 (by omega)
  obtain ⟨g, c, rfl, _⟩ := row_slice h2 (by omega)
  exact ⟨g, c, w', h1, by rw [List.length_append]; exact h2, h3, h4⟩
theorem appendP_none (w : World) (ty : TypeId) : (Builtin.append_ #[60, 60] ty #[.slice none 0 0, .slice none 0 0]).run Try.prog w = .ok (.slice none 0 0) w := by
  obtain ⟨i0, hi0, hz0, hzs, hzb⟩ := info_parts ins44_info
  simp [Builtin.append_, run_underlying Try.underlying60, sizeOf, typeInfo, hi0, Builtin.lenOf, Builtin.firstCells, loadCells, loadCellsFrom]
theorem RowE.first {w : World} {g n cap : Nat} {x : S29} {ks : List S29} (h : RowE w (.slice (some ⟨g, 0, none⟩) n cap) (x :: ks)) :
    w.cell? ⟨g, 0, none⟩ = some (.string x.f0) ∧ w.cell? ⟨g, 1, none⟩ = some (.int .i64 x.f1.f0) ∧ w.cell? ⟨g, 2, none⟩ = some (.int .i64 x.f1.f1) := by
  have := h.cells 0 (by simp)
  simpa using this
end Go.Proofs.Bt
end
section
namespace Go.Proofs.Bt
open Go Go.RowKit Go.Proofs.Ytjaddmflopahiaa.Q Go.Proofs.YtjaddmflopahiaaW.PrintWords Go.Proofs.YtjaddmflopahiaaW.PrintLast Go.Proofs.YtjaddmflopahiaaW.PrintMore
set_option linter.unusedVariables false
set_option linter.unusedSimpArgs false
set_option maxRecDepth 100000
def insIn {β : Type} (sp : β → S29 × β × β) (keys : β → List S29) (rec : β → β × Bool) (ks : List S29) (ts : List β) (e : S29) : (List S29 × List β) × Bool :=
  match ts[kidIx ks e]? with
  | none => ((ks, ts), false)
  | some k =>
    if 4 < (keys (rec k).1).length then ((insAt ks (kidIx ks e) (sp (rec k).1).1, ts.take (kidIx ks e) ++ (sp (rec k).1).2.1 :: (sp (rec k).1).2.2 :: ts.drop (kidIx ks e + 1)), (rec k).2)
    else ((ks, ts.take (kidIx ks e) ++ (rec k).1 :: ts.drop (kidIx ks e + 1)), (rec k).2)
theorem insIn_at {β : Type} (sp : β → S29 × β × β) (keys : β → List S29) (rec : β → β × Bool) (ks : List S29) (A : List β) (k : β) (B : List β) (e : S29) (hA : A.length = kidIx ks e) : insIn sp keys rec ks (A ++ k :: B) e =
    if 4 < (keys (rec k).1).length then ((insAt ks (kidIx ks e) (sp (rec k).1).1, A ++ (sp (rec k).1).2.1 :: (sp (rec k).1).2.2 :: B), (rec k).2)
    else ((ks, A ++ (rec k).1 :: B), (rec k).2) := by
  have hg : (A ++ k :: B)[kidIx ks e]? = some k := by
    rw [← hA, List.getElem?_append_right (Nat.le_refl _)]
    simp
  have ht : (A ++ k :: B).take (kidIx ks e) = A := by rw [← hA, List.take_left]
  have hd : (A ++ k :: B).drop (kidIx ks e + 1) = B := by
    rw [← hA, List.drop_append]
    simp
  unfold insIn
  simp only [hg, ht, hd]
def ins : (h : Nat) → BT h → S29 → BT h × Bool
  | 0, ks, e => (if found ks e = true then ks else insAt (α := S29) ks (low ks e) e, !(found ks e))
  | h + 1, t, e => insIn (bsplit h) (bkeys h) (fun k => ins h k e) t.1 t.2 e
def Fit (e : S29) : (h : Nat) → BT h → Prop
  | 0, ks => List.length (α := S29) ks ≤ 4 ∧ Mono ks e
  | h + 1, t => t.1.length ≤ 4 ∧ Mono t.1 e ∧ t.2.length = t.1.length + 1 ∧ ∀ k ∈ t.2, Fit e h k
theorem kidIx_le (ks : List S29) (e : S29) : kidIx ks e ≤ ks.length := by
  unfold kidIx found
  have := low_le ks e
  by_cases h : low ks e < ks.length
  · rw [dif_pos h]
    split <;> omega
  · rw [dif_neg h]
    simp
    omega
theorem cut_at {α : Type} (l : List α) (i : Nat) (hi : i < l.length) : ∃ A k B, l = A ++ k :: B ∧ A.length = i := by
  refine ⟨l.take i, l[i], l.drop (i + 1), ?_, ?_⟩
  · rw [← List.drop_eq_getElem_cons hi, List.take_append_drop]
  · rw [List.length_take]; omega
structure InSt (W : World) (h p : Nat) (K C : Value) (ks : List S29) (n : Nat) (ptrs : List Value) (O : List (MT h)) : Prop where
  node : NodeAt W p K C
  row : RowE W K ks
  crow : Row W 59 1 C n ptrs
  oth : ∀ x ∈ O, Ok W h x
def stF (h p : Nat) (K C : Value) (O : List (MT h)) : List Nat := p :: (bl K ++ (bl C ++ O.flatMap (fp h)))
section
variable {W W1 : World} {h p n : Nat} {K C : Value} {ks : List S29} {ptrs : List Value} {O : List (MT h)}
theorem InSt.lt (hs : InSt W h p K C ks n ptrs O) : ∀ a ∈ stF h p K C O, a < W.heap.size := by
  intro a ha
  rcases List.mem_cons.1 ha with rfl | ha
  · exact hs.node.lt
  · rcases List.mem_append.1 ha with ha | ha
    · exact Row.lt hs.row a (bl_mem.1 ha)
    · rcases List.mem_append.1 ha with ha | ha
      · exact Row.lt hs.crow a (bl_mem.1 ha)
      · obtain ⟨k, hk, hka⟩ := List.mem_flatMap.1 ha
        exact (hs.oth k hk).lt a hka
theorem InSt.move (hs : InSt W h p K C ks n ptrs O) (hm : ∀ a ∈ stF h p K C O, W1.heap[a]? = W.heap[a]?) : InSt W1 h p K C ks n ptrs O :=
  ⟨(hm _ List.mem_cons_self).trans hs.node, Row.move hs.row fun k hk => hm k (List.mem_cons_of_mem _ (List.mem_append_left _ (bl_mem.2 hk))),
    Row.move hs.crow fun k hk => hm k (List.mem_cons_of_mem _ (List.mem_append_right _ (List.mem_append_left _ (bl_mem.2 hk)))),
    fun k hk => (hs.oth k hk).move fun a ha => hm a (List.mem_cons_of_mem _ (List.mem_append_right _ (List.mem_append_right _ (List.mem_flatMap.2 ⟨k, hk, ha⟩))))⟩
theorem InSt.below (hs : InSt W h p K C ks n ptrs O) (hb : Below W.heap.size W W1) : InSt W1 h p K C ks n ptrs O := hs.move fun a ha => hb.block a (hs.lt a ha)
theorem InSt.keep (hs : InSt W h p K C ks n ptrs O) {F : Nat → Prop} (hk : Keep W W1 F) (hd : ∀ a ∈ stF h p K C O, ¬ F a) : InSt W1 h p K C ks n ptrs O := hs.move fun a ha => hk.block a (hs.lt a ha) (hd a ha)
end
def InsPost (h : Nat) (w : World) (m : MT h) (e : S29) (E : Ending) (w' : World) : Prop :=
  ∃ m' : MT h, E = .returned (.bool (ins h (abs h m) e).2) ∧ ptr h m' = ptr h m ∧ Ok w' h m' ∧ abs h m' = (ins h (abs h m) e).1 ∧ Keep w w' (fun k => k ∈ fp h m) ∧ ND (fp h m') ∧ ∀ a ∈ fp h m', a ∈ fp h m ∨ w.heap.size ≤ a
theorem insert_zero (w : World) (m : MT 0) (e : S29) (hok : Ok w 0 m) (hnd : ND (fp 0 m)) (hf : Fit e 0 (abs 0 m)) : Calls Try.prog 26 #[.pointer (some ⟨ptr 0 m, 0, none⟩), entryV e] w (InsPost 0 w m e) := by
  obtain ⟨p, K, ks⟩ := m
  obtain ⟨hN, hR⟩ := hok
  obtain ⟨h4, hm⟩ := hf
  change NodeAt w p K _ at hN
  change RowE w K ks at hR
  change List.length ks ≤ 4 at h4
  change Mono ks e at hm
  have hKp : K.ownBlock ≠ some p := fun h => by
    have h1 := hnd p
    have h2 : 0 < (bl K).count p := count_mem.1 (bl_mem.2 h)
    change (p :: bl K).count p ≤ 1 at h1
    rw [List.count_cons_self] at h1
    omega
  refine (insert_leaf w p K ks e hN hR (by omega) hm hKp).mono ?_
  rintro E w' ⟨K', rfl, h1, h2, h3, h5⟩
  have hlt : ∀ b, K.ownBlock = some b → b < w.heap.size := fun b hb => Row.lt hR b hb
  have hpl := hN.lt
  refine ⟨(⟨p, K', _⟩ : Leaf), rfl, rfl, ⟨h1, h2⟩, rfl, ?_, ?_, ?_⟩
  · refine ⟨h5.os, h5.tape, h5.output, h5.size, fun k hk hk2 => h5.block k hk fun h => hk2 ?_⟩
    rcases h with rfl | h
    · exact List.mem_cons_self
    · exact List.mem_cons_of_mem _ (bl_mem.2 h.symm)
  · intro a
    change (p :: bl K').count a ≤ 1
    rw [List.count_cons]
    have hb1 : (bl K').count a ≤ 1 := by
      unfold bl
      cases K'.ownBlock with
      | none => simp
      | some b => simp [List.count_cons]; split <;> omega
    by_cases hpa : p = a
    · subst hpa
      have : (bl K').count p = 0 := by
        rw [List.count_eq_zero]
        intro hmem
        have hm2 := bl_mem.1 hmem
        rcases h3 with h3 | ⟨k, h3, hk⟩
        · exact hKp (h3.symm.trans hm2)
        · rw [hm2] at h3
          simp at h3
          omega
      simp [this]
    · simp [hpa]
      exact hb1
  · intro a ha
    change a ∈ p :: bl K' at ha
    rcases List.mem_cons.1 ha with rfl | ha
    · exact .inl List.mem_cons_self
    · have hm2 := bl_mem.1 ha
      rcases h3 with h3 | ⟨k, h3, hk⟩
      · exact .inl (List.mem_cons_of_mem _ (bl_mem.2 (h3.symm.trans hm2)))
      · rw [hm2] at h3
        simp at h3
        exact .inr (by omega)
theorem len0 (t : List S29) (e : S29) (h4 : t.length ≤ 4) : (if found t e = true then t else insAt t (low t e) e).length ≤ 5 := by
  split
  · omega
  · rw [insAt_len _ _ _ (low_le t e)]
    omega
theorem ins_shape : ∀ (h : Nat) (t : BT h) (e : S29), Fit e h t → (bkeys h (ins h t e).1).length ≤ 5 ∧ (h = 0 ∨ bkids h (ins h t e).1 = (bkeys h (ins h t e).1).length + 1)
  | 0, t, e, hf => by
    refine ⟨?_, .inl rfl⟩
    have h4 : List.length (α := S29) t ≤ 4 := hf.1
    exact len0 t e h4
  | h + 1, t, e, hf => by
    obtain ⟨h4, hm, hl, hk⟩ := hf
    obtain ⟨ks, ts⟩ := t
    change ks.length ≤ 4 at h4
    change ts.length = ks.length + 1 at hl
    have hi := kidIx_le ks e
    obtain ⟨A, k, B, rfl, hA⟩ := cut_at ts (kidIx ks e) (by omega)
    have hx : ins (h + 1) (ks, A ++ k :: B) e = _ := insIn_at (bsplit h) (bkeys h) (fun k => ins h k e) ks A k B e hA
    rw [hx]
    rw [List.length_append, List.length_cons] at hl
    split
    · refine ⟨?_, .inr ?_⟩
      · show (insAt ks (kidIx ks e) _).length ≤ 5
        rw [insAt_len _ _ _ hi]
        omega
      · show (A ++ _ :: _ :: B).length = (insAt ks (kidIx ks e) _).length + 1
        rw [insAt_len _ _ _ hi, List.length_append, List.length_cons, List.length_cons]
        omega
    · refine ⟨?_, .inr ?_⟩
      · show ks.length ≤ 5
        omega
      · show (A ++ _ :: B).length = ks.length + 1
        rw [List.length_append, List.length_cons]
        omega
theorem ins_at (h : Nat) (ks : List S29) (A : List (BT h)) (k : BT h) (B : List (BT h)) (e : S29) (hA : A.length = kidIx ks e) : ins (h + 1) (ks, A ++ k :: B) e =
    if 4 < (bkeys h (ins h k e).1).length then ((insAt ks (kidIx ks e) (bsplit h (ins h k e).1).1, A ++ (bsplit h (ins h k e).1).2.1 :: (bsplit h (ins h k e).1).2.2 :: B), (ins h k e).2)
    else ((ks, A ++ (ins h k e).1 :: B), (ins h k e).2) := insIn_at (bsplit h) (bkeys h) (fun k => ins h k e) ks A k B e hA
theorem nd_two {st f f2 : List Nat} {N1 N2 : Nat} (h1 : ∀ a, st.count a + f.count a ≤ 1) (hl : ∀ a ∈ st, a < N1) (hN : N1 ≤ N2) (h2 : ND f2) (hs : ∀ a ∈ f2, a ∈ f ∨ N2 ≤ a) : ∀ a, st.count a + f2.count a ≤ 1 := by
  intro a
  have h1a := h1 a
  have h2a := h2 a
  by_cases hst : 0 < st.count a
  · have hlt := hl a (count_mem.2 hst)
    by_cases hf2 : 0 < f2.count a
    · rcases hs a (count_mem.2 hf2) with h | h
      · have := count_mem.1 h
        omega
      · omega
    · omega
  · omega
theorem Ok.far {W : World} {h p j : Nat} {m : MT h} (hm : Ok W h m) (hp : p ∉ fp h m) (u : Value) : Ok (W.setCell ⟨p, j, none⟩ u) h m := hm.move fun a ha => Below.heap_setCell W ⟨p, j, none⟩ u a (fun e => hp (by change a = p at e; exact e ▸ ha))
theorem Ok.grown {W W1 : World} {h : Nat} {m : MT h} {row : Option Nat} (hm : Ok W h m) (hg : W.grownBy W1 row) (hd : ∀ a ∈ fp h m, some a ≠ row) : Ok W1 h m := hm.move fun a ha => hg.block a (hm.lt a ha) (hd a ha)
theorem sep_st {h p : Nat} {K C : Value} {O : List (MT h)} {F : List Nat} (hnd : ∀ a, (stF h p K C O).count a + F.count a ≤ 1) :
    (∀ a ∈ F, a ≠ p ∧ a ∉ bl K ∧ a ∉ bl C) ∧ (∀ y ∈ O, ∀ a ∈ fp h y, a ≠ p ∧ a ∉ bl K ∧ a ∉ bl C) ∧ p ∉ bl K ∧ p ∉ bl C ∧ (∀ a ∈ bl K, a ∉ bl C) := by
  have hc : ∀ a, (if p = a then 1 else 0) + (bl K).count a + (bl C).count a + (O.flatMap (fp h)).count a + F.count a ≤ 1 := fun a => by
    have h1 := hnd a
    simp only [stF, List.count_append, List.count_cons, beq_iff_eq] at h1
    omega
  have hp1 := hc p
  rw [if_pos rfl] at hp1
  refine ⟨fun a ha => ?_, fun y hy a ha => ?_, fun hm => ?_, fun hm => ?_, fun a ha hm => ?_⟩
  · have h1 := hc a
    have h2 := count_mem.1 ha
    refine ⟨fun e => ?_, fun hm => ?_, fun hm => ?_⟩
    · rw [if_pos e.symm] at h1
      omega
    · have := count_mem.1 hm
      omega
    · have := count_mem.1 hm
      omega
  · have h1 := hc a
    have h2 : 0 < (O.flatMap (fp h)).count a := count_mem.1 (List.mem_flatMap.2 ⟨y, hy, ha⟩)
    refine ⟨fun e => ?_, fun hm => ?_, fun hm => ?_⟩
    · rw [if_pos e.symm] at h1
      omega
    · have := count_mem.1 hm
      omega
    · have := count_mem.1 hm
      omega
  · have := count_mem.1 hm
    omega
  · have := count_mem.1 hm
    omega
  · have h1 := hc a
    have := count_mem.1 ha
    have := count_mem.1 hm
    omega
set_option maxHeartbeats 4000000 in
theorem insert_calls : ∀ (h : Nat) (w : World) (m : MT h) (e : S29), Ok w h m → ND (fp h m) → Fit e h (abs h m) → Calls Try.prog 26 #[.pointer (some ⟨ptr h m, 0, none⟩), entryV e] w (InsPost h w m e)
  | 0, w, m, e, hok, hnd, hf => insert_zero w m e hok hnd hf
  | h + 1, w, m, e, hok, hnd, hf => by
    have IH := Aside0.mk (insert_calls h)
    obtain ⟨p, K, C, ks, kids⟩ := m
    obtain ⟨hN, hR, hC, h0, hkids⟩ := hok
    obtain ⟨h4, hm, hlen, hfk⟩ := hf
    change NodeAt w p K C at hN
    change RowE w K ks at hR
    change Row w 59 1 C kids.length (kids.map (kidPtr h)) at hC
    change ∀ k ∈ kids, Ok w h k at hkids
    change ks.length ≤ 4 at h4
    change Mono ks e at hm
    change (kids.map (abs h)).length = ks.length + 1 at hlen
    change ∀ t ∈ kids.map (abs h), Fit e h t at hfk
    rw [List.length_map] at hlen
    have hile := kidIx_le ks e
    obtain ⟨i, hi⟩ : ∃ i, kidIx ks e = i := ⟨_, rfl⟩
    rw [hi] at hile
    obtain ⟨A, k, B, rfl, hA⟩ := cut_at kids i (by omega)
    obtain ⟨n, hn⟩ : ∃ n, (A ++ k :: B).length = n := ⟨_, rfl⟩
    rw [hn] at hC hlen
    obtain ⟨hh, capC, rfl, hcapC, hhl⟩ : ∃ g cap, C = .slice (some ⟨g, 0, none⟩) n cap ∧ n ≤ cap ∧ g < w.heap.size := by
      rcases hC.2.2 with ⟨_, hk⟩ | ⟨g, cap, cur, rfl, hg, hn, _⟩
      · omega
      · exact ⟨g, cap, rfl, hn, (Array.getElem?_eq_some_iff.1 hg).1⟩
    have hu29 := Try.underlying29
    have hu62 := Try.underlying62
    have hgi : ((A ++ k :: B).map (kidPtr h))[i]? = some (kidPtr h k) := by
      rw [← hA, List.map_append, List.map_cons, List.getElem?_append_right (by simp)]
      simp
    have hci := hC.cell rfl i _ hgi
    have hi0 : (0 : Int) ≤ (i : Int) := by omega
    have hi1 : (i : Int) < (n : Int) := by omega
    have hn0 : ¬ n = 0 := by omega
    obtain ⟨W0, hW0⟩ : ∃ W0, w.alloc (.cells #[.string e.f0, .int .i64 e.f1.f0, .int .i64 e.f1.f1] 29) = W0 := ⟨_, rfl⟩
    have hX : W0.heap[w.heap.size]? = some (.cells #[.string e.f0, .int .i64 e.f1.f0, .int .i64 e.f1.f1] 29 (0, 0)) := by rw [← hW0]; exact heap_alloc_new w _
    have hb0 : Below w.heap.size w W0 := by rw [← hW0]; exact (Below.refl _ w).alloc (Nat.le_refl _) _
    have HS := Aside0.mk (show InSt W0 h p K (.slice (some ⟨hh, 0, none⟩) n capC) ks n ((A ++ k :: B).map (kidPtr h)) (A ++ B) from InSt.below ⟨hN, hR, hC, fun x hx => hkids x (by
      rcases List.mem_append.1 hx with hx | hx
      · exact List.mem_append_left _ hx
      · exact List.mem_append_right _ (List.mem_cons_of_mem _ hx))⟩ hb0)
    have hokk : Ok w h k := hkids k (List.mem_append_right _ List.mem_cons_self)
    have HK := Aside0.mk (hokk.below hb0)
    have HX := Aside0.mk hX
    have HG := Aside0.mk (Keep.of_below hb0 (fun a => a ∈ fp (h + 1) (⟨p, K, .slice (some ⟨hh, 0, none⟩) n capC, ks, A ++ k :: B⟩ : Inner (MT h))))
    have hndk : ∀ a, (stF h p K (.slice (some ⟨hh, 0, none⟩) n capC) (A ++ B)).count a + (fp h k).count a ≤ 1 := fun a => by
      have := hnd a
      simp only [fp, stF, List.count_append, List.count_cons, List.flatMap_append, List.flatMap_cons] at this ⊢
      omega
    have HND := Aside0.mk hndk
    have HSLT := Aside0.mk (show ∀ a ∈ stF h p K (.slice (some ⟨hh, 0, none⟩) n capC) (A ++ B), a < w.heap.size from InSt.lt (h := h) (ks := ks) (n := n) (ptrs := (A ++ k :: B).map (kidPtr h)) ⟨hN, hR, hC, fun x hx => hkids x (by
      rcases List.mem_append.1 hx with hx | hx
      · exact List.mem_append_left _ hx
      · exact List.mem_append_right _ (List.mem_cons_of_mem _ hx))⟩)
    have HFK := Aside0.mk (hfk (abs h k) (List.mem_map_of_mem (List.mem_append_right _ List.mem_cons_self)))
    have HM := Aside0.mk hm
    have HI := Aside0.mk hi
    have HKL := Aside0.mk (fun a (ha : a ∈ fp h k) => hokk.lt a ha)
    have HFL := Aside0.mk (show ∀ a ∈ fp h k, a ∈ fp (h + 1) (⟨p, K, .slice (some ⟨hh, 0, none⟩) n capC, ks, A ++ k :: B⟩ : Inner (MT h)) from fun a ha => List.mem_cons_of_mem _ (List.mem_append_right _ (List.mem_append_right _ (List.mem_flatMap.2 ⟨k, List.mem_append_right _ List.mem_cons_self, ha⟩))))
    clear hN hR hC hkids hm hfk hX hb0 hokk hndk hi hnd hci
    have HLEN := Aside0.mk hlen
    have HILE := Aside0.mk hile
    have HNLEN := Aside0.mk hn
    clear hlen hile hn
    show Calls Try.prog 26 #[.pointer (some ⟨p, 0, none⟩), .agg #[.string e.f0, .int .i64 e.f1.f0, .int .i64 e.f1.f1]] w _
    obtain ⟨R, hRR⟩ : ∃ R, InsPost (h + 1) w (⟨p, K, .slice (some ⟨hh, 0, none⟩) n capC, ks, A ++ k :: B⟩ : Inner (MT h)) e = R := ⟨_, rfl⟩
    rw [hRR]
    have HRR := Aside0.mk hRR
    clear hRR
    obtain ⟨n0, hn0e⟩ : ∃ n0, w.heap.size = n0 := ⟨_, rfl⟩
    have HN0 := Aside0.mk hn0e
    rw [hn0e] at HX
    have hnx : (w.alloc (.cells #[.string e.f0, .int .i64 e.f1.f0, .int .i64 e.f1.f1] 29)) = W0 := hW0
    have b0 := blk_cell HX.out 0
    have b1 := blk_cell HX.out 1
    have b2 := blk_cell HX.out 2
    clear hW0
    go_enter Try.func26, Try.ntmps26
    go_wp2_with (first
      | (go_at_call 30; refine (leaf_calls _ p _ _ _ _ HS.out.node).mono ?_; rintro E w' ⟨rfl, rfl⟩)
      | (go_at_call 43; refine (kid_calls _ p _ _ ks e HS.out.node HS.out.row (by omega) HM.out).mono ?_; rintro E w1 ⟨rfl, hb⟩; rw [HI.out]; have n1 := Aside0.mk (HS.out.below hb); have n2 := Aside0.mk (HK.out.below hb); have n3 := Aside0.mk (blk_below HX.out hb); have n4 := Aside0.mk (HG.out.below hb); clear HS HK HX HG; have HS := n1; have HK := n2; have HX := n3; have HG := n4; clear n1 n2 n3 n4 hb; clear b0 b1 b2; have b0 := blk_cell HX.out 0; have b1 := blk_cell HX.out 1; have b2 := blk_cell HX.out 2; have c1 := HS.out.node.c1; have ci : w1.cell? ⟨hh, i, none⟩ = some (.pointer (some ⟨ptr h k, 0, none⟩)) := HS.out.crow.cell rfl i _ hgi; have HNW := Aside0.mk (blk_lt HX.out))
      | (go_at_call 26; refine (IH.out _ k e HK.out (fun a => by have := HND.out a; omega) HFK.out).mono ?_; rintro E w2 ⟨k2, rfl, hp2, hok2, ha2, hk2, hnd2, hs2⟩; have n1 := Aside0.mk (HS.out.keep hk2 (fun a ha hb => by have := HND.out a; have := count_mem.1 ha; have := count_mem.1 hb; omega)); have n3 := Aside0.mk ((hk2.block n0 (blk_lt HX.out) (fun hm => by have := HKL.out _ hm; have := HN0.out; omega)).trans HX.out); have n4 := Aside0.mk (HG.out.trans hk2 (fun b hb => .inl (HFL.out b hb))); have HWS := Aside0.mk HG.out.size; clear HS HK HX HG b0 b1 b2 c1 ci; have HS := n1; have HX := n3; have HG := n4; have HK2 := Aside0.mk hok2; have HA2 := Aside0.mk ha2; have HND2 := Aside0.mk hnd2; have HS2 := Aside0.mk hs2; have HP2 := Aside0.mk hp2; clear n1 n3 n4 hok2 ha2 hk2 hnd2 hs2; obtain ⟨A2, c2, hsl⟩ := RowE.slice HK2.out.row; have c1 := HS.out.node.c1; have cc := HK2.out.node.c0; rw [hp2, hsl] at cc; have HSL := Aside0.mk hsl; clear hp2 hsl; obtain ⟨L2, hL2⟩ : ∃ L, (mks h k2).length = L := ⟨_, rfl⟩; rw [hL2] at cc; have HL2 := Aside0.mk hL2; clear hL2)
      | (go_at_call 27; have hgt : 4 < L2 := (by omega); have HGT := Aside0.mk hgt; have hsh := ins_shape h (abs h k) e HFK.out; rw [← HA2.out, abs_keys, abs_kids] at hsh; have hL5 : (mks h k2).length = 5 := (by have := HL2.out; omega); rw [hL5] at hsh; have hsp := split_tree h _ k2 HK2.out HND2.out hL5 hsh.2; rw [HP2.out] at hsp; refine hsp.mono ?_; clear hsp hsh hL5 hgt; rintro E w3 ⟨m1, m2, rfl, hp1, ok1, ok2, ha1, ha2', hkp, hnd, hsub⟩; obtain ⟨x, hx⟩ : ∃ x, (bsplit h (abs h k2)).1 = x := ⟨_, rfl⟩; rw [hx]; have hnd3 := nd_two HND.out HSLT.out (Nat.le_of_lt (show w.heap.size < _ from HN0.out ▸ HNW.out)) HND2.out HS2.out; have n1 := Aside0.mk (HS.out.keep hkp (fun a ha hb => by have := hnd3 a; have := count_mem.1 ha; have := count_mem.1 hb; omega)); have n3 := Aside0.mk ((hkp.block n0 (blk_lt HX.out) (fun hm => (HS2.out n0 hm).elim (fun h1 => by have := HKL.out _ h1; have := HN0.out; omega) (fun h1 => by have := HN0.out; have := HNW.out; omega))).trans HX.out); have hW1 := HNW.out; have n4 := Aside0.mk (HG.out.trans hkp (fun b hb => (HS2.out b hb).elim (fun h1 => .inl (HFL.out b h1)) (fun h1 => .inr (by have := HN0.out; omega)))); have hsz2 := hkp.size; have n5 := Aside0.mk (show ∀ a, (stF h p K (.slice (some ⟨hh, 0, none⟩) n capC) (A ++ B)).count a + (fp h m1 ++ fp h m2).count a ≤ 1 from nd_two hnd3 (fun a ha => HS.out.lt a ha) (Nat.le_refl _) hnd (fun a ha => hsub a ha)); have n6 := Aside0.mk (show ∀ a ∈ fp h m1 ++ fp h m2, a ∈ fp h k ∨ w.heap.size ≤ a from fun a ha => (hsub a ha).elim (fun h1 => (HS2.out a h1).elim .inl (fun h2 => .inr (by have := HN0.out; have := HNW.out; omega))) (fun h1 => .inr (Nat.le_trans HG.out.size h1))); have HM1 := Aside0.mk ok1; have HM2 := Aside0.mk ok2; have HE1 := Aside0.mk ha1; have HE2 := Aside0.mk ha2'; have HPP := Aside0.mk hp1; have HXX := Aside0.mk hx; clear HS HX HG c1 cc HK2 hnd3 hW1 hsz2 hkp hnd hsub ok1 ok2 ha1 ha2' hp1 hx; have HS := n1; have HX := n3; have HG := n4; have HND4 := n5; have HSUB := n6; clear n1 n3 n4 n5 n6; simp only [entryV, kidPtr]))
    · have ba := below_alloc (Below.refl _ w3) (.cells #[.string x.f0, .int .i64 x.f1.f0, .int .i64 x.f1.f1] 29)
      obtain ⟨tb, htb⟩ : ∃ tb, w3.heap.size = tb := ⟨_, rfl⟩
      have HOLD := Aside0.mk (fun a ha => HS.out.lt a ha)
      have q1 := Aside0.mk (HS.out.below ba)
      have q3 := Aside0.mk (HG.out.below ba)
      have q4 := Aside0.mk (HM1.out.below ba)
      have q5 := Aside0.mk (HM2.out.below ba)
      have HTB := Aside0.mk (blk_new w3 (.cells #[.string x.f0, .int .i64 x.f1.f0, .int .i64 x.f1.f1] 29))
      have htbn : w3.heap.size ≤ tb := by omega
      rw [htb] at HTB HOLD ⊢
      have HTBN := Aside0.mk (Nat.le_refl tb)
      clear HS HG HM1 HM2 ba htbn
      have HS := q1
      have HG := q3
      have HM1 := q4
      have HM2 := q5
      clear q1 q3 q4 q5
      generalize w3.alloc (.cells #[.string x.f0, .int .i64 x.f1.f0, .int .i64 x.f1.f1] 29) = W4 at HS HG HM1 HM2 HTB ⊢
      refine start_ (n := 12) (S := fun w' => w'.cell? ⟨p, 0, none⟩ = some K ∧ w'.cell? ⟨tb, 0, none⟩ = some (.string x.f0) ∧ w'.cell? ⟨tb, 1, none⟩ = some (.int .i64 x.f1.f0) ∧ w'.cell? ⟨tb, 2, none⟩ = some (.int .i64 x.f1.f1)) (ds := [11]) #[false, false, false, false, false, false, false, false, false, false, false, false] (by kernel_rfl) rfl rfl ⟨HS.out.node.c0, (blk_cell HTB.out 0).trans rfl, (blk_cell HTB.out 1).trans rfl, (blk_cell HTB.out 2).trans rfl⟩ (fun hHeld => ?_)
      have q1 := Aside0.mk (HS.out.move (W1 := W4.drew) (fun _ _ => rfl))
      have q2 := Aside0.mk (blk_drew HTB.out)
      have q3 := Aside0.mk HG.out.drew
      have q4 := Aside0.mk (HM1.out.move (w' := W4.drew) (fun _ _ => rfl))
      have q5 := Aside0.mk (HM2.out.move (w' := W4.drew) (fun _ _ => rfl))
      clear HS HTB HG HM1 HM2
      have HS := q1
      have HTB := q2
      have HG := q3
      have HM1 := q4
      have HM2 := q5
      clear q1 q2 q3 q4 q5
      generalize W4.drew = wd at HS HTB HG HM1 HM2 hHeld ⊢
      refine pure_ (i := 0) (N := (some 59)) (v := ?_) (a' := ?_) #[true, false, false, false, false, false, false, false, false, false, false, false] rfl rfl (by kernel_rfl) (fun _ _ _ h => h) (Or.inl ⟨by rfl, ?_⟩) ?_ ?_
      rotate_left
      · intro w'
        go_simp
        with_reducible rfl
      rotate_left
      · simp only [Act.put, List.setIfInBounds_toArray, List.set_cons_zero, List.set_cons_succ, i64_w, i32_w]
        rfl
      refine pure_ (i := 1) (N := (some 60)) (v := ?_) (a' := ?_) #[true, true, false, false, false, false, false, false, false, false, false, false] rfl rfl (by kernel_rfl) (fun _ _ _ h => h) (Or.inl ⟨by rfl, ?_⟩) ?_ ?_
      rotate_left
      · intro w'
        go_simp
        with_reducible rfl
      rotate_left
      · simp only [Act.put, List.setIfInBounds_toArray, List.set_cons_zero, List.set_cons_succ, i64_w, i32_w]
        rfl
      refine pure_ (i := 2) (N := (some 61)) (v := ?_) (a' := ?_) #[true, true, true, false, false, false, false, false, false, false, false, false] rfl rfl (by kernel_rfl) (fun _ _ _ h => h) (Or.inl ⟨by rfl, ?_⟩) ?_ ?_
      rotate_left
      · intro w'
        go_simp
        with_reducible rfl
      rotate_left
      · simp only [Act.put, List.setIfInBounds_toArray, List.set_cons_zero, List.set_cons_succ, i64_w, i32_w]
        rfl
      refine pure_ (i := 3) (N := (some 62)) (v := ?_) (a' := ?_) #[true, true, true, true, false, false, false, false, false, false, false, false] rfl rfl (by kernel_rfl) (fun _ _ _ h => h) (Or.inl ⟨by rfl, ?_⟩) ?_ ?_
      rotate_left
      · intro w'
        go_simp
        with_reducible rfl
      rotate_left
      · simp only [Act.put, List.setIfInBounds_toArray, List.set_cons_zero, List.set_cons_succ, i64_w, i32_w]
        rfl
      refine pure_ (i := 5) (N := (some 64)) (v := ?_) (a' := ?_) #[true, true, true, true, false, true, false, false, false, false, false, false] rfl rfl (by kernel_rfl) (fun _ _ _ h => h) (Or.inl ⟨by rfl, ?_⟩) ?_ ?_
      rotate_left
      · intro w'
        go_simp
        with_reducible rfl
      rotate_left
      · simp only [Act.put, List.setIfInBounds_toArray, List.set_cons_zero, List.set_cons_succ, i64_w, i32_w]
        rfl
      refine take_ (i := 4) (N := (some 63)) (v := ?_) (a' := ?_) #[true, true, true, true, true, true, false, false, false, false, false, false] rfl rfl (by kernel_rfl) (fun _ _ _ h => h) (Or.inl ⟨by rfl, ?_⟩) hHeld ?_ ?_
      rotate_left
      · rintro w' ⟨s0, s1, s2, s3⟩
        go_simp
        with_reducible rfl
      rotate_left
      · simp only [Act.put, List.setIfInBounds_toArray, List.set_cons_zero, List.set_cons_succ, i64_w, i32_w]
        rfl
      refine take_ (i := 6) (N := (some 65)) (v := ?_) (a' := ?_) #[true, true, true, true, true, true, true, false, false, false, false, false] rfl rfl (by kernel_rfl) (fun _ _ _ h => h) (Or.inl ⟨by rfl, ?_⟩) hHeld ?_ ?_
      rotate_left
      · rintro w' ⟨s0, s1, s2, s3⟩
        go_simp
        with_reducible rfl
      rotate_left
      · simp only [Act.put, List.setIfInBounds_toArray, List.set_cons_zero, List.set_cons_succ, i64_w, i32_w]
        rfl
      refine one_ (i := 7) (N := (some 66)) #[true, true, true, true, true, true, true, true, false, false, false, false] rfl rfl (by kernel_rfl) (by decide) (fun K_ hK => ?_)
      obtain ⟨v1, hv1⟩ : ∃ v : Nat, wd.heap.size = v := ⟨_, rfl⟩
      refine made_ (v := .slice (some ⟨wd.heap.size, 0, none⟩) 1 1) (w1 := wd.alloc (.cells #[.string x.f0, .int .i64 x.f1.f0, .int .i64 x.f1.f1] 29)) (by rfl) rfl (by go_simp) ?_
      have ba := below_alloc (Below.refl _ wd) (.cells #[.string x.f0, .int .i64 x.f1.f0, .int .i64 x.f1.f1] 29)
      have q1 := Aside0.mk (HS.out.below ba)
      have q2 := Aside0.mk (blk_below HTB.out ba)
      have q3 := Aside0.mk (HG.out.below ba)
      have q4 := Aside0.mk (HM1.out.below ba)
      have q5 := Aside0.mk (HM2.out.below ba)
      have HVa := Aside0.mk (blk_new wd (.cells #[.string x.f0, .int .i64 x.f1.f0, .int .i64 x.f1.f1] 29))
      have HLT1 := Aside0.mk (fun a ha => HS.out.lt a ha)
      have HLT2 := Aside0.mk (fun a ha => HM1.out.lt a ha)
      have HLT3 := Aside0.mk (fun a ha => HM2.out.lt a ha)
      have hne1 : K.ownBlock ≠ some wd.heap.size := fun h => by have := Row.lt HS.out.row _ h; omega
      have hsz : w.heap.size ≤ wd.heap.size := HG.out.size
      rw [hv1] at HVa hne1 HLT1 HLT2 HLT3 hsz ⊢
      have HSZ := Aside0.mk hsz
      clear HS HTB HG HM1 HM2 hHeld ba hsz
      have HS := q1
      have HTB := q2
      have HG := q3
      have HM1 := q4
      have HM2 := q5
      clear q1 q2 q3 q4 q5
      refine hK.out _ _ ⟨HS.out.node.c0, (blk_cell HTB.out 0).trans rfl, (blk_cell HTB.out 1).trans rfl, (blk_cell HTB.out 2).trans rfl⟩ (fun hHeld => ?_)
      clear hK K_
      have hvs : (wd.alloc (.cells #[.string x.f0, .int .i64 x.f1.f0, .int .i64 x.f1.f1] 29)).heap.size = v1 + 1 := by simp [hv1]
      generalize wd.alloc (.cells #[.string x.f0, .int .i64 x.f1.f0, .int .i64 x.f1.f1] 29) = wa at HS HTB HG HM1 HM2 HVa hHeld hvs ⊢
      refine norm_ (a' := ?_) ?_ ?_
      rotate_left
      · show Act.put _ (some 66) _ = _
        simp only [Act.put, List.setIfInBounds_toArray, List.set_cons_zero, List.set_cons_succ, i64_w, i32_w]
        rfl
      refine one_ (i := 8) (N := (some 67)) #[true, true, true, true, true, true, true, true, true, false, false, false] rfl rfl (by kernel_rfl) (by decide) (fun K_ hK => ?_)
      refine goes_ Try.func42 (by kernel_rfl) rfl #[K, .int .i64 i, .slice (some ⟨v1, 0, none⟩) 1 1] (by rfl) rfl rfl (by (try simp only [List.map_toArray, List.map_cons, List.map_nil]); first | done | rfl) ?_
      refine (insert42 wa K ks.length i (encEs ks) v1 #[.string x.f0, .int .i64 x.f1.f0, .int .i64 x.f1.f1] HS.out.row HILE.out (by omega) HVa.out rfl (encE_one x) hne1).mono ?_
      rintro E w5 ⟨K2, rfl, hrow, hg, hown, hnn⟩
      obtain ⟨g2, c2, rfl⟩ := Row.formS hrow hnn
      refine ⟨_, rfl, ?_⟩
      have hKst : ∀ b, K.ownBlock = some b → 0 < (bl K).count b := fun b hb => count_mem.1 (bl_mem.2 hb)
      have hpK : K.ownBlock ≠ some p := fun h => by
        have h1 := HND4.out p
        have h2 := hKst p h
        simp only [stF, List.count_append, List.count_cons_self] at h1
        omega
      have htbK : K.ownBlock ≠ some tb := fun h => by
        have := HTBN.out
        have h1 := HOLD.out tb (by simp [stF]; exact .inr (.inl (bl_mem.2 h)))
        omega
      have hmm : ∀ m : MT h, (∀ a ∈ fp h m, a ∈ fp h m1 ++ fp h m2) → ∀ a ∈ fp h m, w5.heap[a]? = wa.heap[a]? → True := fun _ _ _ _ _ => trivial
      have q4 := Aside0.mk (HM1.out.move (w' := w5) (fun a ha => hg.block a (HM1.out.lt a ha) (fun hq => by
        have h1 := HND4.out a
        have h2 := hKst a hq.symm
        have h3 : 0 < (fp h m1 ++ fp h m2).count a := count_mem.1 (List.mem_append_left _ ha)
        simp only [stF, List.count_append, List.count_cons] at h1 h3
        omega)))
      have q5 := Aside0.mk (HM2.out.move (w' := w5) (fun a ha => hg.block a (HM2.out.lt a ha) (fun hq => by
        have h1 := HND4.out a
        have h2 := hKst a hq.symm
        have h3 : 0 < (fp h m1 ++ fp h m2).count a := count_mem.1 (List.mem_append_right _ ha)
        simp only [stF, List.count_append, List.count_cons] at h1 h3
        omega)))
      have HN5 := Aside0.mk (show NodeAt w5 p K (.slice (some ⟨hh, 0, none⟩) n capC) from blk_grown HS.out.node hg (fun h => hpK h.symm))
      have HR5 := Aside0.mk hrow
      have HC5 := Aside0.mk (Row.grown HS.out.crow hg (fun b hb h => by
        have h1 := HND4.out b
        have h2 := hKst b h.symm
        have h3 : 0 < (bl (.slice (some ⟨hh, 0, none⟩) n capC)).count b := count_mem.1 (bl_mem.2 hb)
        simp only [stF, List.count_append, List.count_cons] at h1
        omega))
      have HO5 := Aside0.mk (show ∀ y ∈ A ++ B, Ok w5 h y from fun y hy => (HS.out.oth y hy).move fun a ha => hg.block a ((HS.out.oth y hy).lt a ha) (fun h => by
        have h1 := HND4.out a
        have h2 := hKst a h.symm
        have h3 : 0 < ((A ++ B).flatMap (fp _)).count a := count_mem.1 (List.mem_flatMap.2 ⟨y, hy, ha⟩)
        simp only [stF, List.count_append, List.count_cons] at h1 h3
        omega))
      have hT5 := blk_grown HTB.out hg (fun h => htbK h.symm)
      have HG5 := Aside0.mk (HG.out.grown hg (fun b hb => .inl (by
        simp only [fp, List.mem_cons, List.mem_append]
        exact .inr (.inl (bl_mem.2 hb)))))
      have HOW := Aside0.mk hown
      have HGS := Aside0.mk hg.size
      clear HS HTB HG HM1 HM2 hrow hg hown hHeld hmm
      have HM1 := q4
      have HM2 := q5
      clear q4 q5
      refine hK.out _ _ ⟨HN5.out.c0, (blk_cell hT5 0).trans rfl, (blk_cell hT5 1).trans rfl, (blk_cell hT5 2).trans rfl⟩ (fun hHeld => ?_)
      clear hK K_ hHeld
      refine norm_ (a' := ?_) ?_ ?_
      rotate_left
      · show Act.put _ (some 67) _ = _
        simp only [Act.put, List.setIfInBounds_toArray, List.set_cons_zero, List.set_cons_succ, i64_w, i32_w]
        rfl
      refine pure_ (i := 9) (N := (some 68)) (v := ?_) (a' := ?_) #[true, true, true, true, true, true, true, true, true, true, false, false] rfl rfl (by kernel_rfl) (fun _ _ _ h => h) (Or.inl ⟨by rfl, ?_⟩) ?_ ?_
      rotate_left
      · intro w'
        go_simp
        with_reducible rfl
      rotate_left
      · simp only [Act.put, List.setIfInBounds_toArray, List.set_cons_zero, List.set_cons_succ, i64_w, i32_w]
        rfl
      refine pure_ (i := 10) (N := (some 69)) (v := ?_) (a' := ?_) #[true, true, true, true, true, true, true, true, true, true, true, false] rfl rfl (by kernel_rfl) (fun _ _ _ h => h) (Or.inl ⟨by rfl, ?_⟩) ?_ ?_
      rotate_left
      · intro w'
        go_simp
        with_reducible rfl
      rotate_left
      · simp only [Act.put, List.setIfInBounds_toArray, List.set_cons_zero, List.set_cons_succ, i64_w, i32_w]
        rfl
      refine last_ (i := 11) (N := none) #[true, true, true, true, true, true, true, true, true, true, true, true] rfl rfl (by kernel_rfl) (by decide) (fun K_ hK => ?_)
      have c3 := HN5.out.c0
      have f3 := HN5.out.fz 0
      refine skip_ (w1 := ?_) (by rfl) rfl ?_ ?_
      rotate_left
      · go_simp
        rfl
      refine hK.out _ _ ?_
      clear hK K_ c3 f3
      refine done_ (by kernel_rfl) ?_
      obtain ⟨sF, sO, spK, spC, sKC⟩ := sep_st HND4.out
      have hpa : p < wa.heap.size := (by
        have := HLT1.out p List.mem_cons_self
        omega)
      have hhC : hh ∈ bl (.slice (some ⟨hh, 0, none⟩) n capC) := bl_mem.2 rfl
      have hhp : hh ≠ p := fun e0 => spC (e0 ▸ hhC)
      have hhv : hh < v1 := HLT1.out hh (by simp [stF]; exact .inr (.inr (.inl hhC)))
      have hg2 : (0 < (bl K).count g2) ∨ v1 < g2 := by
        rcases HOW.out with h1 | ⟨b, h1, h2⟩
        · exact .inl (count_mem.1 (bl_mem.2 h1.symm))
        · simp [Value.ownBlock] at h1
          subst h1
          exact .inr (by omega)
      have hpv : p < v1 := HLT1.out p List.mem_cons_self
      have hg2p : g2 ≠ p := by
        rcases hg2 with h1 | h1
        · exact fun e0 => spK (e0 ▸ count_mem.2 h1)
        · omega
      have hg2h : g2 ≠ hh := by
        rcases hg2 with h1 | h1
        · exact fun e0 => sKC g2 (count_mem.2 h1) (e0 ▸ hhC)
        · omega
      have HG2 := Aside0.mk hg2
      have HN7 := Aside0.mk (show NodeAt _ _ _ _ from blk_put HN5.out 0 (.slice (some ⟨g2, 0, none⟩) (ks.length + 1) c2) rfl)
      have HR7 := Aside0.mk (Row.farS HR5.out (p := ⟨p, 0, none⟩) hg2p (.slice (some ⟨g2, 0, none⟩) (ks.length + 1) c2))
      have HC7 := Aside0.mk (Row.farS HC5.out (p := ⟨p, 0, none⟩) hhp (.slice (some ⟨g2, 0, none⟩) (ks.length + 1) c2))
      have HO7 := Aside0.mk (fun y (hy : y ∈ A ++ B) => Ok.far (HO5.out y hy) (p := p) (j := 0) (fun hm0 => (sO y hy p hm0).1 rfl) (.slice (some ⟨g2, 0, none⟩) (ks.length + 1) c2))
      have HA7 := Aside0.mk (Ok.far HM1.out (p := p) (j := 0) (fun hm0 => (sF p (List.mem_append_left _ hm0)).1 rfl) (.slice (some ⟨g2, 0, none⟩) (ks.length + 1) c2))
      have HB7 := Aside0.mk (Ok.far HM2.out (p := p) (j := 0) (fun hm0 => (sF p (List.mem_append_right _ hm0)).1 rfl) (.slice (some ⟨g2, 0, none⟩) (ks.length + 1) c2))
      have HG7 := Aside0.mk (HG5.out.cell (p := ⟨p, 0, none⟩) (.inl (by simp [fp])) (.slice (some ⟨g2, 0, none⟩) (ks.length + 1) c2))
      have hsz7 : wa.heap.size ≤ (w5.setCell ⟨p, 0, none⟩ (.slice (some ⟨g2, 0, none⟩) (ks.length + 1) c2)).heap.size := by simpa [World.setCell] using HGS.out
      have HS7 := Aside0.mk hsz7
      clear HN5 HR5 HC5 HO5 HM1 HM2 HG5 hsz7 HOW HGS hT5 hpK htbK hKst
      generalize w5.setCell ⟨p, 0, none⟩ (.slice (some ⟨g2, 0, none⟩) (ks.length + 1) c2) = w7 at HN7 HR7 HC7 HO7 HA7 HB7 HG7 HS7 ⊢
      have hh7 : hh < w7.heap.size := by have := HS7.out; omega
      have HSO := Aside0.mk sO
      have HSF := Aside0.mk sF
      clear sO sF spK spC sKC hg2
      have c1 := HN7.out.c1
      have f1 := HN7.out.fz 1
      have hLE := HLEN.out
      have hIE := HILE.out
      have hw1 : IntKind.i64.wrap ((i : Int) + 1) = (i : Int) + 1 := by rw [IntKind.wrap_i64]; omega
      have HLE2 := Aside0.mk (show i + 1 ≤ n by omega)
      have HNB := Aside0.mk (show n < 1000000 by omega)
      clear hLE hIE
      go_wp2_with (first
    | (go_at_call 44; have ba := below_alloc (Below.refl _ w7) (.cells #[.pointer (some ⟨ptr h m2, 0, none⟩)] 59); have hc := insert44 (w7.alloc (.cells #[.pointer (some ⟨ptr h m2, 0, none⟩)] 59)) (.slice (some ⟨hh, 0, none⟩) n capC) n (i + 1) _ w7.heap.size #[.pointer (some ⟨ptr h m2, 0, none⟩)] (Row.below HC7.out ba) HLE2.out HNB.out (blk_new _ _) rfl (by simp [Value.oneCell']) (by simp [Value.ownBlock]; omega); rw [Int.natCast_add, Int.natCast_one] at hc; refine hc.mono ?_; clear hc; rintro E w8 ⟨C8, rfl, hrow8, hg8, hown8, hnn8⟩; obtain ⟨g8, c8, rfl⟩ := Row.formS hrow8 hnn8; have hg27 := Row.lt1 HR7.out; have HN8 := Aside0.mk (show NodeAt _ _ _ _ from blk_grown (blk_below HN7.out ba) hg8 (by simp [Value.ownBlock]; exact Ne.symm hhp)); have HR8 := Aside0.mk (Row.grown (Row.below HR7.out ba) hg8 (fun b hb => by simp [Value.ownBlock] at hb ⊢; subst hb; exact hg2h)); have HC8 := Aside0.mk hrow8; have hcc : ∀ a, a ∉ bl (.slice (some ⟨hh, 0, none⟩) n capC) → some a ≠ (Value.slice (some ⟨hh, 0, none⟩) n capC).ownBlock := (fun a hna hq => hna (bl_mem.2 hq.symm)); have HO8 := Aside0.mk (fun y (hy : y ∈ A ++ B) => Ok.grown (Ok.below (HO7.out y hy) ba) hg8 (fun a ha => hcc a (HSO.out y hy a ha).2.2)); have HA8 := Aside0.mk (Ok.grown (Ok.below HA7.out ba) hg8 (fun a ha => hcc a (HSF.out a (List.mem_append_left _ ha)).2.2)); have HB8 := Aside0.mk (Ok.grown (Ok.below HB7.out ba) hg8 (fun a ha => hcc a (HSF.out a (List.mem_append_right _ ha)).2.2)); have HG8 := Aside0.mk ((HG7.out.below ba).grown hg8 (fun b hb => .inl (by simp only [fp, List.mem_cons, List.mem_append]; exact .inr (.inr (.inl (bl_mem.2 hb)))))); have hgg : g8 = hh ∨ w7.heap.size < g8 := (hown8.elim (fun h1 => .inl (by simp [Value.ownBlock] at h1; exact h1)) (fun ⟨b, h1, h2⟩ => .inr (by simp [Value.ownBlock] at h1; simp at h2; omega))); have HGG := Aside0.mk hgg; have HW7 := Aside0.mk (show wa.heap.size ≤ w7.heap.size from HS7.out); clear HN7 HR7 HC7 HO7 HA7 HB7 HG7 hcc hrow8 hg8 hown8 hnn8 ba c1 f1 hgg; have c1 := HN8.out.c1; have f1 := HN8.out.fz 1))
      rw [← HRR.out]
      have hins := ins_at h ks (A.map (abs h)) (abs h k) (B.map (abs h)) e (by rw [List.length_map, HI.out, hA])
      have hl2 : (bkeys h (ins h (abs h k) e).1).length = L2 := by rw [← HA2.out, abs_keys, HL2.out]
      rw [hl2, if_pos HGT.out, ← HA2.out, HI.out, HXX.out, ← HE1.out, ← HE2.out] at hins
      have habs : abs (h + 1) (⟨p, K, .slice (some ⟨hh, 0, none⟩) n capC, ks, A ++ k :: B⟩ : Inner (MT h)) = (ks, A.map (abs h) ++ abs h k :: B.map (abs h)) := by
        show (ks, (A ++ k :: B).map (abs h)) = _
        rw [List.map_append, List.map_cons]
      have hLE := HLEN.out
      have hIE := HILE.out
      have hg8p : g8 ≠ p := by
        have := HW7.out
        rcases HGG.out with h1 | h1
        · rw [h1]; exact hhp
        · omega
      have hnl : (A ++ m1 :: m2 :: B).length = n + 1 := by
        rw [← HNLEN.out]
        simp
        omega
      refine ⟨(⟨p, .slice (some ⟨g2, 0, none⟩) (ks.length + 1) c2, .slice (some ⟨g8, 0, none⟩) (n + 1) c8, insAt ks i x, A ++ m1 :: m2 :: B⟩ : Inner (MT h)), ?_, rfl, ⟨blk_put HN8.out 1 (.slice (some ⟨g8, 0, none⟩) (n + 1) c8) rfl, ?_, ?_, ?_, ?_⟩, ?_, HG8.out.cell (p := ⟨p, 1, none⟩) (.inl (by simp [fp])) _, ?_, ?_⟩
      · rw [habs, hins]
        rfl
      · refine RowE.of ?_ (by show ks.length + 1 = (insAt ks i x).length; rw [insAt_len ks i x hIE])
        have hr := HR8.out
        have he := insEs ks i x hIE
        unfold encE at he
        rw [he] at hr
        exact Row.farS hr (p := ⟨p, 1, none⟩) hg2p _
      · show Row _ 59 1 _ (A ++ m1 :: m2 :: B).length ((A ++ m1 :: m2 :: B).map (kidPtr h))
        rw [hnl]
        have hr := Row.farS HC8.out (p := ⟨p, 1, none⟩) hg8p (.slice (some ⟨g8, 0, none⟩) (n + 1) c8)
        have hp : ((A ++ k :: B).map (kidPtr h)).take ((i + 1) * 1) ++ [Value.pointer (some ⟨ptr h m2, 0, none⟩)] ++ ((A ++ k :: B).map (kidPtr h)).drop ((i + 1) * 1) = (A ++ m1 :: m2 :: B).map (kidPtr h) := by
          have hk1 : kidPtr h m1 = kidPtr h k := by unfold kidPtr; rw [HPP.out, HP2.out]
          rw [Nat.mul_one, List.map_append, List.map_append, List.map_cons, List.map_cons, List.map_cons, hk1]
          have hAl : (A.map (kidPtr h)).length = i := by rw [List.length_map, hA]
          rw [← hAl, List.take_append, List.drop_append]
          simp [kidPtr]
          rw [List.take_of_length_le (by simp), List.drop_eq_nil_iff.2 (by simp)]
          rfl
        rw [← hp]
        exact hr
      · show 0 < (A ++ m1 :: m2 :: B).length
        omega
      · intro y hy
        have hsF := HSF.out
        rcases List.mem_append.1 hy with hy | hy
        · exact Ok.far (HO8.out y (List.mem_append_left _ hy)) (fun hm0 => (HSO.out y (List.mem_append_left _ hy) p hm0).1 rfl) _
        · rcases List.mem_cons.1 hy with rfl | hy
          · exact Ok.far HA8.out (fun hm0 => (hsF p (List.mem_append_left _ hm0)).1 rfl) _
          · rcases List.mem_cons.1 hy with rfl | hy
            · exact Ok.far HB8.out (fun hm0 => (hsF p (List.mem_append_right _ hm0)).1 rfl) _
            · exact Ok.far (HO8.out y (List.mem_append_right _ hy)) (fun hm0 => (HSO.out y (List.mem_append_right _ hy) p hm0).1 rfl) _
      · rw [habs, hins]
        show (insAt ks i x, (A ++ m1 :: m2 :: B).map (abs h)) = _
        rw [List.map_append, List.map_cons, List.map_cons]
      · intro a
        have hw7 := HW7.out
        have hc := HND4.out a
        have hz1 : v1 ≤ a → (stF h p K (.slice (some ⟨hh, 0, none⟩) n capC) (A ++ B)).count a = 0 := fun hle => List.count_eq_zero.2 (fun hm0 => by have := HLT1.out a hm0; omega)
        have hz2 : v1 ≤ a → (fp h m1).count a = 0 := fun hle => List.count_eq_zero.2 (fun hm0 => by have := HLT2.out a hm0; omega)
        have hz3 : v1 ≤ a → (fp h m2).count a = 0 := fun hle => List.count_eq_zero.2 (fun hm0 => by have := HLT3.out a hm0; omega)
        have e2 : (if g2 = a then 1 else 0) ≤ (bl K).count a ∨ (g2 = a ∧ v1 < a) := by
          by_cases hga : g2 = a
          · subst hga
            rcases HG2.out with h1 | h1
            · left; rw [if_pos rfl]; exact h1
            · exact .inr ⟨rfl, h1⟩
          · left; rw [if_neg hga]; exact Nat.zero_le _
        have e8 : (if g8 = a then 1 else 0) ≤ (if hh = a then 1 else 0) ∨ (g8 = a ∧ ¬ g2 = a ∧ v1 < a) := by
          by_cases hga : g8 = a
          · subst hga
            rcases HGG.out with h1 | h1
            · left; rw [if_pos rfl, if_pos h1.symm]; exact Nat.le_refl _
            · exact .inr ⟨rfl, by omega, by omega⟩
          · left; rw [if_neg hga]; exact Nat.zero_le _
        simp only [stF, fp, bl_slice, List.count_append, List.count_cons, List.count_nil, List.flatMap_append, List.flatMap_cons, beq_iff_eq] at hc hz1 ⊢
        rcases e2 with e2 | ⟨e2, e2'⟩
        · rcases e8 with e8 | ⟨e8, e8', e8''⟩
          · omega
          · have := hz1 (by omega)
            have := hz2 (by omega)
            have := hz3 (by omega)
            rw [if_pos e8, if_neg e8']
            omega
        · have := hz1 (by omega)
          have := hz2 (by omega)
          have := hz3 (by omega)
          rcases e8 with e8 | ⟨e8, e8', e8''⟩
          · rw [if_pos e2]
            omega
          · exact absurd e2 e8'
      · intro a ha
        have hw7 := HW7.out
        have hsz := HSZ.out
        simp only [fp, bl_slice, List.mem_append, List.mem_cons, List.not_mem_nil, or_false, List.flatMap_append, List.flatMap_cons] at ha
        rcases ha with ha | ha | ha | ha | ha | ha | ha
        · exact .inl (by simp [fp, ha])
        · subst ha
          rcases HG2.out with h1 | h1
          · have := count_mem.2 h1
            exact .inl (by simp only [fp, List.mem_append, List.mem_cons]; exact .inr (.inl this))
          · exact .inr (by omega)
        · subst ha
          rcases HGG.out with h1 | h1
          · exact .inl (by simp only [fp, bl_slice, List.mem_append, List.mem_cons]; exact .inr (.inr (.inl (.inl h1))))
          · exact .inr (by omega)
        · exact .inl (by simp only [fp, List.mem_append, List.mem_cons, List.flatMap_append, List.flatMap_cons]; exact .inr (.inr (.inr (.inl ha))))
        · exact (HSUB.out a (List.mem_append_left _ ha)).imp (HFL.out a) id
        · exact (HSUB.out a (List.mem_append_right _ ha)).imp (HFL.out a) id
        · exact .inl (by simp only [fp, List.mem_append, List.mem_cons, List.flatMap_append, List.flatMap_cons]; exact .inr (.inr (.inr (.inr (.inr ha)))))
    · have hlt : ¬ 4 < L2 := by omega
      rw [← HRR.out]
      have hins := ins_at h ks (A.map (abs h)) (abs h k) (B.map (abs h)) e (by rw [List.length_map, HI.out, hA])
      have hl2 : (bkeys h (ins h (abs h k) e).1).length = L2 := by rw [← HA2.out, abs_keys, HL2.out]
      rw [hl2, if_neg hlt] at hins
      have habs : abs (h + 1) (⟨p, K, .slice (some ⟨hh, 0, none⟩) n capC, ks, A ++ k :: B⟩ : Inner (MT h)) = (ks, A.map (abs h) ++ abs h k :: B.map (abs h)) := by
        show (ks, (A ++ k :: B).map (abs h)) = _
        rw [List.map_append, List.map_cons]
      have hptr : (A ++ k2 :: B).map (kidPtr h) = (A ++ k :: B).map (kidPtr h) := by
        rw [List.map_append, List.map_append, List.map_cons, List.map_cons]
        unfold kidPtr
        rw [HP2.out]
      have hnd3 := nd_two HND.out HSLT.out (Nat.le_trans (Nat.le_of_lt (show w.heap.size < _ by rw [HN0.out]; exact HNW.out)) (Nat.le_refl _)) HND2.out HS2.out
      refine ⟨(⟨p, K, .slice (some ⟨hh, 0, none⟩) n capC, ks, A ++ k2 :: B⟩ : Inner (MT h)), ?_, rfl, ⟨HS.out.node, HS.out.row, ?_, ?_, ?_⟩, ?_, HG.out, ?_, ?_⟩
      · rw [habs, hins]
        rfl
      · show Row w2 59 1 _ (A ++ k2 :: B).length ((A ++ k2 :: B).map (kidPtr h))
        rw [hptr]
        have : (A ++ k2 :: B).length = n := by rw [← HNLEN.out]; simp
        rw [this]
        exact HS.out.crow
      · show 0 < (A ++ k2 :: B).length
        rw [List.length_append, List.length_cons]
        omega
      · intro x hx
        rcases List.mem_append.1 hx with hx | hx
        · exact HS.out.oth x (List.mem_append_left _ hx)
        · rcases List.mem_cons.1 hx with rfl | hx
          · exact HK2.out
          · exact HS.out.oth x (List.mem_append_right _ hx)
      · rw [habs, hins]
        show (ks, (A ++ k2 :: B).map (abs h)) = _
        rw [List.map_append, List.map_cons, HA2.out]
      · intro a
        have := hnd3 a
        simp only [fp, stF, List.count_append, List.count_cons, List.flatMap_append, List.flatMap_cons] at this ⊢
        omega
      · intro a ha
        have hdec : a ∈ stF h p K (.slice (some ⟨hh, 0, none⟩) n capC) (A ++ B) ∨ a ∈ fp h k2 := by
          simp only [fp, stF, List.mem_append, List.mem_cons, List.flatMap_append, List.flatMap_cons] at ha ⊢
          rcases ha with ha | ha | ha | ha | ha | ha <;> simp [ha]
        rcases hdec with hd | hd
        · refine .inl ?_
          simp only [fp, stF, List.mem_append, List.mem_cons, List.flatMap_append, List.flatMap_cons] at hd ⊢
          rcases hd with hd | hd | hd | hd | hd <;> simp [hd]
        · rcases HS2.out a hd with h1 | h1
          · exact .inl (HFL.out a h1)
          · exact .inr (Nat.le_trans (Nat.le_of_lt (show w.heap.size < _ by rw [HN0.out]; exact HNW.out)) h1)
end Go.Proofs.Bt
end
section
namespace Go.Proofs.Bt
open Go Go.RowKit Go.Proofs.Ytjaddmflopahiaa.Q Go.Proofs.YtjaddmflopahiaaW.PrintWords Go.Proofs.YtjaddmflopahiaaW.PrintLast Go.Proofs.YtjaddmflopahiaaW.PrintMore
set_option linter.unusedVariables false
set_option linter.unusedSimpArgs false
set_option maxRecDepth 100000
def TreeAt (w : World) (tp r : Nat) (cnt : Int) : Prop := w.heap[tp]? = some (.cells #[.pointer (some ⟨r, 0, none⟩), .int .i64 cnt] 64 (0, 0))
theorem TreeAt.c0 {w : World} {tp r : Nat} {cnt : Int} (h : TreeAt w tp r cnt) : w.cell? ⟨tp, 0, none⟩ = some (.pointer (some ⟨r, 0, none⟩)) := (cell_of_row w tp 0 _ 64 (0, 0) h).trans rfl
theorem TreeAt.c1 {w : World} {tp r : Nat} {cnt : Int} (h : TreeAt w tp r cnt) : w.cell? ⟨tp, 1, none⟩ = some (.int .i64 cnt) := (cell_of_row w tp 1 _ 64 (0, 0) h).trans rfl
theorem TreeAt.fz {w : World} {tp r : Nat} {cnt : Int} (h : TreeAt w tp r cnt) (j : Nat) : w.frozen? ⟨tp, j, none⟩ = false := frozen_of_row w tp j _ 64 h
theorem TreeAt.lt {w : World} {tp r : Nat} {cnt : Int} (h : TreeAt w tp r cnt) : tp < w.heap.size := (Array.getElem?_eq_some_iff.1 h).1
structure Tree (w : World) (tp h : Nat) (m : MT h) (cnt : Int) : Prop where
  at_ : TreeAt w tp (ptr h m) cnt
  ok : Ok w h m
  nd : ND (tp :: fp h m)
theorem count_calls (w : World) (tp r : Nat) (cnt : Int) (h : TreeAt w tp r cnt) : Calls Try.prog 13 #[.pointer (some ⟨tp, 0, none⟩)] w fun e w' => e = .returned (.int .i64 cnt) ∧ w' = w := by
  have c1 := h.c1
  go_enter Try.func13, Try.ntmps13
  go_wp2
  go_ret
  exact ⟨rfl, rfl⟩
def NewPost (w : World) (E : Ending) (w' : World) : Prop := ∃ tp, ∃ m : MT 0, E = .returned (.pointer (some ⟨tp, 0, none⟩)) ∧ Tree w' tp 0 m 0 ∧ abs 0 m = ([] : List S29) ∧ Below w.heap.size w w' ∧ ∀ a ∈ tp :: fp 0 m, w.heap.size ≤ a
theorem new_calls (w : World) : Calls Try.prog 10 #[] w (NewPost w) := by
  obtain ⟨R, hR⟩ : ∃ R, NewPost w = R := ⟨_, rfl⟩
  rw [hR]
  have HR := Aside0.mk hR
  clear hR
  go_enter Try.func10, Try.ntmps10
  go_wp2
  rw [← HR.out]
  have h1 : ((w.alloc (.cells #[.slice none 0 0, .slice none 0 0] 62)).alloc (.cells #[.pointer (some ⟨w.heap.size, 0, none⟩), .int .i64 0] 64)).heap[w.heap.size + 1]? = some (.cells #[.pointer (some ⟨w.heap.size, 0, none⟩), .int .i64 0] 64 (0, 0)) := by
    have := blk_new (w.alloc (.cells #[.slice none 0 0, .slice none 0 0] 62)) (.cells #[.pointer (some ⟨w.heap.size, 0, none⟩), .int .i64 0] 64)
    simpa using this
  have h2 := blk_alloc (blk_new w (.cells #[.slice none 0 0, .slice none 0 0] 62)) (.cells #[.pointer (some ⟨w.heap.size, 0, none⟩), .int .i64 0] 64)
  refine ⟨w.heap.size + 1, (⟨w.heap.size, .slice none 0 0, []⟩ : Leaf), rfl, ⟨h1, ⟨h2, Row.nil _ _ _⟩, ?_⟩, rfl, ((Below.refl _ w).alloc (Nat.le_refl _) _).alloc (by simp) _, ?_⟩
  · intro a
    have h3 : fp 0 (⟨w.heap.size, .slice none 0 0, []⟩ : Leaf) = [w.heap.size] := rfl
    rw [h3]
    simp only [List.count_cons, List.count_nil, beq_iff_eq]
    split <;> split <;> omega
  · intro a ha
    have h3 : fp 0 (⟨w.heap.size, .slice none 0 0, []⟩ : Leaf) = [w.heap.size] := rfl
    rw [h3] at ha
    simp at ha
    omega
def tins (h : Nat) (t : BT h) (e : S29) : (Σ h, BT h) × Bool :=
  if (ins h t e).2 = true ∧ 4 < (bkeys h (ins h t e).1).length then (⟨h + 1, ([(bsplit h (ins h t e).1).1], [(bsplit h (ins h t e).1).2.1, (bsplit h (ins h t e).1).2.2])⟩, (ins h t e).2)
  else (⟨h, (ins h t e).1⟩, (ins h t e).2)
def TInsPost (w : World) (tp h : Nat) (m : MT h) (cnt : Int) (e : S29) (E : Ending) (w' : World) : Prop :=
  ∃ h' : Nat, ∃ m' : MT h', E = .returned (.bool (tins h (abs h m) e).2) ∧ Tree w' tp h' m' (if (tins h (abs h m) e).2 = true then cnt + 1 else cnt) ∧ (⟨h', abs h' m'⟩ : Σ h, BT h) = (tins h (abs h m) e).1 ∧
    Keep w w' (fun k => k ∈ tp :: fp h m) ∧ ∀ a ∈ fp h' m', a ∈ fp h m ∨ w.heap.size ≤ a
theorem tins_end {w wg : World} {tp h : Nat} {m m1 mr : MT h} {cnt : Int} {e x : S29} {a1 a2 a3 N : Nat} (hT : TreeAt wg tp (ptr h m) (cnt + 1)) (h1 : wg.heap[a1]? = some (.cells #[.string x.f0, .int .i64 x.f1.f0, .int .i64 x.f1.f1] 29 (0, 0)))
    (h2 : wg.heap[a2]? = some (.cells #[.pointer (some ⟨ptr h m, 0, none⟩), .pointer (some ⟨ptr h mr, 0, none⟩)] 59 (0, 0))) (h3 : wg.heap[a3]? = some (.cells #[.slice (some ⟨a1, 0, none⟩) 1 1, .slice (some ⟨a2, 0, none⟩) 2 2] 62 (0, 0)))
    (ok1 : Ok wg h m1) (ok2 : Ok wg h mr) (hp1 : ptr h m1 = ptr h m) (hnd : ND (fp h m1 ++ fp h mr)) (hsub : ∀ a ∈ fp h m1 ++ fp h mr, a ∈ fp h m ∨ w.heap.size ≤ a) (hlt : ∀ a ∈ fp h m1 ++ fp h mr, a < N) (htN : tp < N)
    (hN1 : N ≤ a1) (hN2 : N ≤ a2) (hN3 : N ≤ a3) (h12 : a1 ≠ a2) (h13 : a1 ≠ a3) (h23 : a2 ≠ a3) (hw : w.heap.size ≤ N) (htp : tp ∉ fp h m1 ++ fp h mr) (hG : Keep w wg (fun k => k ∈ tp :: fp h m))
    (hins : tins h (abs h m) e = (⟨h + 1, ([x], [abs h m1, abs h mr])⟩, true)) : TInsPost w tp h m cnt e (.returned (.bool true)) (wg.setCell ⟨tp, 0, none⟩ (.pointer (some ⟨a3, 0, none⟩))) := by
  have t1 : tp ∉ fp h m1 := fun hm => htp (List.mem_append_left _ hm)
  have t2 : tp ∉ fp h mr := fun hm => htp (List.mem_append_right _ hm)
  have hr1 : RowE (wg.setCell ⟨tp, 0, none⟩ (.pointer (some ⟨a3, 0, none⟩))) (.slice (some ⟨a1, 0, none⟩) 1 1) [x] :=
    Row.farS (⟨rfl, encE_one x |> fun h => by intro u hu; exact encEs_one [x] u hu, .inr ⟨a1, 1, _, rfl, h1, Nat.le_refl _, by decide, Nat.le_refl _, rfl⟩⟩ : Row wg 29 3 (.slice (some ⟨a1, 0, none⟩) 1 1) 1 (encEs [x])) (p := ⟨tp, 0, none⟩) (by show a1 ≠ tp; omega) _
  have hr2 : Row (wg.setCell ⟨tp, 0, none⟩ (.pointer (some ⟨a3, 0, none⟩))) 59 1 (.slice (some ⟨a2, 0, none⟩) 2 2) 2 [kidPtr h m1, kidPtr h mr] :=
    Row.farS (⟨rfl, by simp [kidPtr, Value.oneCell'], .inr ⟨a2, 2, _, rfl, h2, Nat.le_refl _, by decide, Nat.le_refl _, by simp [kidPtr, hp1]⟩⟩ : Row wg 59 1 (.slice (some ⟨a2, 0, none⟩) 2 2) 2 [kidPtr h m1, kidPtr h mr]) (p := ⟨tp, 0, none⟩) (by show a2 ≠ tp; omega) _
  have hfp : fp (h + 1) (⟨a3, .slice (some ⟨a1, 0, none⟩) 1 1, .slice (some ⟨a2, 0, none⟩) 2 2, [x], [m1, mr]⟩ : Inner (MT h)) = a3 :: a1 :: a2 :: (fp h m1 ++ fp h mr) := by
    simp [fp, bl_slice]
  refine ⟨h + 1, (⟨a3, .slice (some ⟨a1, 0, none⟩) 1 1, .slice (some ⟨a2, 0, none⟩) 2 2, [x], [m1, mr]⟩ : Inner (MT h)), ?_, ⟨?_, ⟨?_, hr1, hr2, by show 0 < 2; decide, ?_⟩, ?_⟩, ?_, hG.cell (p := ⟨tp, 0, none⟩) (.inl List.mem_cons_self) _, ?_⟩
  · rw [hins]
  · rw [hins]
    exact blk_put hT 0 (.pointer (some ⟨a3, 0, none⟩)) rfl
  · exact blk_far h3 (by show a3 ≠ tp; omega) _
  · intro y hy
    simp at hy
    rcases hy with rfl | rfl
    · exact ok1.far t1 _
    · exact ok2.far t2 _
  · intro a
    rw [hfp]
    have hz : N ≤ a → (fp h m1 ++ fp h mr).count a = 0 := fun hle => List.count_eq_zero.2 (fun hm => by have := hlt a hm; omega)
    have hz2 : tp = a → (fp h m1 ++ fp h mr).count a = 0 := fun he => List.count_eq_zero.2 (fun hm => htp (he ▸ hm))
    have hn := hnd a
    simp only [List.count_cons, beq_iff_eq]
    by_cases e0 : tp = a
    · have := hz2 e0
      rw [if_pos e0, if_neg (by omega), if_neg (by omega), if_neg (by omega)]
      omega
    · rw [if_neg e0]
      by_cases e1 : a1 = a
      · have := hz (by omega)
        rw [if_pos e1, if_neg (by omega), if_neg (by omega)]
        omega
      · by_cases e2 : a2 = a
        · have := hz (by omega)
          rw [if_neg e1, if_pos e2, if_neg (by omega)]
          omega
        · by_cases e3 : a3 = a
          · have := hz (by omega)
            rw [if_neg e1, if_neg e2, if_pos e3]
            omega
          · rw [if_neg e1, if_neg e2, if_neg e3]
            omega
  · rw [hins]
    rfl
  · intro a ha
    rw [hfp] at ha
    rcases List.mem_cons.1 ha with rfl | ha
    · exact .inr (by omega)
    · rcases List.mem_cons.1 ha with rfl | ha
      · exact .inr (by omega)
      · rcases List.mem_cons.1 ha with rfl | ha
        · exact .inr (by omega)
        · exact hsub a ha
set_option maxHeartbeats 4000000 in
theorem tinsert_calls (w : World) (tp h : Nat) (m : MT h) (cnt : Int) (e : S29) (ht : Tree w tp h m cnt) (hf : Fit e h (abs h m)) (hc0 : 0 ≤ cnt) (hc1 : cnt < 1000000) :
    Calls Try.prog 11 #[.pointer (some ⟨tp, 0, none⟩), entryV e] w (TInsPost w tp h m cnt e) := by
  have mixed : Try.prog.follows Departure.mixedOrders = true := by kernel_rfl
  have hu29 := Try.underlying29
  have hu62 := Try.underlying62
  have hu64 := Try.underlying64
  obtain ⟨hT, hok, hnd⟩ := ht
  obtain ⟨R, hR⟩ : ∃ R, TInsPost w tp h m cnt e = R := ⟨_, rfl⟩
  rw [hR]
  have HR := Aside0.mk hR
  clear hR
  have htp : tp ∉ fp h m := fun hm => by
    have h1 := hnd tp
    have h2 := count_mem.1 hm
    rw [List.count_cons_self] at h1
    omega
  have hndm : ND (fp h m) := fun a => by
    have h1 := hnd a
    rw [List.count_cons] at h1
    omega
  obtain ⟨W0, hW0⟩ : ∃ W0, w.alloc (.cells #[.string e.f0, .int .i64 e.f1.f0, .int .i64 e.f1.f1] 29) = W0 := ⟨_, rfl⟩
  have hX : W0.heap[w.heap.size]? = some (.cells #[.string e.f0, .int .i64 e.f1.f0, .int .i64 e.f1.f1] 29 (0, 0)) := by rw [← hW0]; exact heap_alloc_new w _
  have hb0 : Below w.heap.size w W0 := by rw [← hW0]; exact (Below.refl _ w).alloc (Nat.le_refl _) _
  have HT := Aside0.mk (show TreeAt _ _ _ _ from blk_below hT hb0)
  have HOK := Aside0.mk (hok.below hb0)
  have HX := Aside0.mk hX
  have HG := Aside0.mk (Keep.of_below hb0 (fun k => k ∈ tp :: fp h m))
  have HIC := Aside0.mk (insert_calls h W0.drew m e (HOK.out.move (fun _ _ => rfl)) hndm hf)
  have hsh := ins_shape h (abs h m) e hf
  have HSH := Aside0.mk hsh
  have HLT := Aside0.mk (fun a (ha : a ∈ fp h m) => hok.lt a ha)
  have HTL := Aside0.mk hT.lt
  clear hsh hok hX hb0
  unfold entryV
  go_enter Try.func11, Try.ntmps11
  go_wp2
  obtain ⟨n0, hn0⟩ : ∃ n0, w.heap.size = n0 := ⟨_, rfl⟩
  have HMN := Aside0.mk (show ∀ a ∈ fp h m, a < n0 from fun a ha => hn0 ▸ (show a < w.heap.size from HLT.out a ha))
  have HN0 := Aside0.mk hn0
  rw [hn0] at HX ⊢
  clear hn0
  refine start_ (n := 7) (S := fun w' => w'.cell? ⟨tp, 0, none⟩ = some (.pointer (some ⟨ptr h m, 0, none⟩)) ∧ w'.cell? ⟨n0, 0, none⟩ = some (.string e.f0) ∧ w'.cell? ⟨n0, 1, none⟩ = some (.int .i64 e.f1.f0) ∧ w'.cell? ⟨n0, 2, none⟩ = some (.int .i64 e.f1.f1)) (ds := []) #[false, false, false, false, false, false, false] (by kernel_rfl) rfl rfl ⟨HT.out.c0, (blk_cell HX.out 0).trans rfl, (blk_cell HX.out 1).trans rfl, (blk_cell HX.out 2).trans rfl⟩ (fun hHeld => ?_)
  have q1 := Aside0.mk (show TreeAt _ _ _ _ from blk_drew HT.out)
  have q2 := Aside0.mk (blk_drew HX.out)
  have q3 := Aside0.mk HG.out.drew
  have q4 := Aside0.mk (HOK.out.move (w' := W0.drew) (fun _ _ => rfl))
  clear HT HX HG HOK
  have HT := q1
  have HX := q2
  have HG := q3
  have HOK := q4
  clear q1 q2 q3 q4
  generalize W0.drew = wd at HT HX HG HOK HIC hHeld ⊢
  refine pure_ (i := 0) (N := (some 7)) (v := ?_) (a' := ?_) #[true, false, false, false, false, false, false] rfl rfl (by kernel_rfl) (fun _ _ _ h => h) (Or.inl ⟨by rfl, ?_⟩) ?_ ?_
  rotate_left
  · intro w'
    go_simp
    with_reducible rfl
  rotate_left
  · simp only [Act.put, List.setIfInBounds_toArray, List.set_cons_zero, List.set_cons_succ, i64_w, i32_w]
    rfl
  refine pure_ (i := 1) (N := (some 8)) (v := ?_) (a' := ?_) #[true, true, false, false, false, false, false] rfl rfl (by kernel_rfl) (fun _ _ _ h => h) (Or.inl ⟨by rfl, ?_⟩) ?_ ?_
  rotate_left
  · intro w'
    go_simp
    with_reducible rfl
  rotate_left
  · simp only [Act.put, List.setIfInBounds_toArray, List.set_cons_zero, List.set_cons_succ, i64_w, i32_w]
    rfl
  refine pure_ (i := 2) (N := (some 9)) (v := ?_) (a' := ?_) #[true, true, true, false, false, false, false] rfl rfl (by kernel_rfl) (fun _ _ _ h => h) (Or.inl ⟨by rfl, ?_⟩) ?_ ?_
  rotate_left
  · intro w'
    go_simp
    with_reducible rfl
  rotate_left
  · simp only [Act.put, List.setIfInBounds_toArray, List.set_cons_zero, List.set_cons_succ, i64_w, i32_w]
    rfl
  refine take_ (i := 3) (N := (some 10)) (v := ?_) (a' := ?_) #[true, true, true, true, false, false, false] rfl rfl (by kernel_rfl) (fun _ _ _ h => h) (Or.inl ⟨by rfl, ?_⟩) hHeld ?_ ?_
  rotate_left
  · rintro w' ⟨s0, s1, s2, s3⟩
    go_simp
    with_reducible rfl
  rotate_left
  · simp only [Act.put, List.setIfInBounds_toArray, List.set_cons_zero, List.set_cons_succ, i64_w, i32_w]
    rfl
  refine take_ (i := 4) (N := (some 11)) (v := ?_) (a' := ?_) #[true, true, true, true, true, false, false] rfl rfl (by kernel_rfl) (fun _ _ _ h => h) (Or.inl ⟨by rfl, ?_⟩) hHeld ?_ ?_
  rotate_left
  · rintro w' ⟨s0, s1, s2, s3⟩
    go_simp
    with_reducible rfl
  rotate_left
  · simp only [Act.put, List.setIfInBounds_toArray, List.set_cons_zero, List.set_cons_succ, i64_w, i32_w]
    rfl
  refine one_ (i := 5) (N := (some 12)) #[true, true, true, true, true, true, false] rfl rfl (by kernel_rfl) (by decide) (fun K_ hK => ?_)
  refine goes_ Try.func26 (by kernel_rfl) rfl #[.pointer (some ⟨ptr h m, 0, none⟩), .agg #[.string e.f0, .int .i64 e.f1.f0, .int .i64 e.f1.f1]] (by rfl) rfl rfl (by (try simp only [List.map_toArray, List.map_cons, List.map_nil]); first | done | rfl) ?_
  refine HIC.out.mono ?_
  rintro E w2 ⟨m2, rfl, hp2, hok2, ha2, hk2, hnd2, hs2⟩
  refine ⟨_, rfl, ?_⟩
  have HT2 := Aside0.mk (show TreeAt _ _ _ _ from (hk2.block tp (blk_lt HT.out) htp).trans HT.out)
  have HX2 := Aside0.mk ((hk2.block n0 (blk_lt HX.out) (fun hm0 => by have := HMN.out _ hm0; omega)).trans HX.out)
  have HG2 := Aside0.mk (HG.out.trans hk2 (fun b hb => .inl (List.mem_cons_of_mem _ hb)))
  have HOK2 := Aside0.mk hok2
  have HP2 := Aside0.mk hp2
  have HA2 := Aside0.mk ha2
  have HND2 := Aside0.mk hnd2
  have hwd := HG.out.size
  have htl := HTL.out
  have HS2 := Aside0.mk (show ∀ a ∈ fp h m2, a ∈ fp h m ∨ w.heap.size ≤ a from fun a ha => (hs2 a ha).imp id (fun h1 => Nat.le_trans hwd h1))
  have HTN := Aside0.mk (show tp ∉ fp h m2 from fun hm0 => (HS2.out tp hm0).elim htp (fun h1 => by omega))
  clear HT HX HG HOK hHeld hp2 hok2 ha2 hk2 hnd2 hs2 hwd htl HIC
  refine hK.out _ _ ⟨HT2.out.c0, (blk_cell HX2.out 0).trans rfl, (blk_cell HX2.out 1).trans rfl, (blk_cell HX2.out 2).trans rfl⟩ (fun hHeld => ?_)
  clear hK K_ hHeld
  refine norm_ (a' := ?_) ?_ ?_
  rotate_left
  · show Act.put _ (some 12) _ = _
    simp only [Act.put, List.setIfInBounds_toArray, List.set_cons_zero, List.set_cons_succ, i64_w, i32_w]
    rfl
  refine pure_ (i := 6) (N := (some 13)) (v := ?_) (a' := ?_) #[true, true, true, true, true, true, true] rfl rfl (by kernel_rfl) (fun _ _ _ h => h) (Or.inl ⟨by rfl, ?_⟩) ?_ ?_
  rotate_left
  · intro w'
    go_simp
    with_reducible rfl
  rotate_left
  · simp only [Act.put, List.setIfInBounds_toArray, List.set_cons_zero, List.set_cons_succ, i64_w, i32_w]
    rfl
  refine done_ (by kernel_rfl) ?_
  obtain ⟨A2, c2, hsl⟩ := RowE.slice HOK2.out.row
  obtain ⟨L2, hL2⟩ : ∃ L, (mks h m2).length = L := ⟨_, rfl⟩
  have cc := HOK2.out.node.c0
  rw [HP2.out, hsl, hL2] at cc
  have HL2 := Aside0.mk hL2
  have HSL := Aside0.mk hsl
  clear hL2 hsl
  have t0 := HT2.out.c0
  have t1 := HT2.out.c1
  have g1 := HT2.out.fz 1
  have hpt : ptr h m ≠ tp := fun e0 => htp (e0 ▸ ptr_mem h m)
  have hw1 : IntKind.i64.wrap (cnt + 1) = cnt + 1 := by rw [IntKind.wrap_i64]; omega
  obtain ⟨f, hf2⟩ : ∃ f, (ins h (abs h m) e).2 = f := ⟨_, rfl⟩
  rw [hf2]
  have HF2 := Aside0.mk hf2
  clear hf2
  cases f
  · go_wp2
    rw [← HR.out]
    have htin : tins h (abs h m) e = (⟨h, (ins h (abs h m) e).1⟩, false) := by
      unfold tins
      rw [if_neg (by rw [HF2.out]; simp), HF2.out]
    refine ⟨h, m2, ?_, ⟨?_, HOK2.out, ?_⟩, ?_, HG2.out, HS2.out⟩
    · rw [htin]
      rfl
    · rw [htin, HP2.out]
      exact HT2.out
    · intro a
      rw [List.count_cons]
      have h1 := HND2.out a
      by_cases ha : tp = a
      · subst ha
        have : (fp h m2).count tp = 0 := List.count_eq_zero.2 HTN.out
        simp [this]
      · simp [ha]
        exact h1
    · rw [htin, HA2.out]
  · go_wp2_with (first
      | (go_at_call 27; have hgt : 4 < L2 := (by omega); have HGT := Aside0.mk hgt; have hsh := HSH.out; rw [← HA2.out, abs_keys, abs_kids] at hsh; have hL5 : (mks h m2).length = 5 := (by have := HL2.out; omega); rw [hL5] at hsh; have hsp := split_tree h (w2.setCell ⟨tp, 1, none⟩ (.int .i64 (cnt + 1))) m2 (Ok.far HOK2.out HTN.out _) HND2.out hL5 hsh.2; rw [HP2.out] at hsp; refine hsp.mono ?_; clear hsp hsh hL5 hgt; rintro E w3 ⟨m1, mr, rfl, hp1, ok1, ok2, ha1, ha2', hkp, hnd, hsub⟩; obtain ⟨x, hx⟩ : ∃ x, (bsplit h (abs h m2)).1 = x := ⟨_, rfl⟩; rw [hx]; have hT3 : TreeAt (w2.setCell ⟨tp, 1, none⟩ (.int .i64 (cnt + 1))) tp (ptr h m) (cnt + 1) := blk_put HT2.out 1 (.int .i64 (cnt + 1)) rfl; have HT3 := Aside0.mk (show TreeAt _ _ _ _ from (hkp.block tp hT3.lt HTN.out).trans hT3); have HG3 := Aside0.mk ((HG2.out.cell (p := ⟨tp, 1, none⟩) (.inl List.mem_cons_self) (.int .i64 (cnt + 1))).trans hkp (fun b hb => (HS2.out b hb).imp (fun h1 => List.mem_cons_of_mem _ h1) id)); have hsz2 := HG2.out.size; have HSUB := Aside0.mk (show ∀ a ∈ fp h m1 ++ fp h mr, a ∈ fp h m ∨ w.heap.size ≤ a from fun a ha => (hsub a ha).elim (HS2.out a) (fun h1 => .inr (Nat.le_trans (by simpa [World.setCell] using hsz2) h1))); have hT3l := hT3.lt; have HTNN := Aside0.mk (show tp ∉ fp h m1 ++ fp h mr from fun hm0 => (hsub tp hm0).elim HTN.out (fun h1 => by omega)); have HM1 := Aside0.mk ok1; have HM2 := Aside0.mk ok2; have HE1 := Aside0.mk ha1; have HE2 := Aside0.mk ha2'; have HPP := Aside0.mk hp1; have HXX := Aside0.mk hx; have HND3 := Aside0.mk hnd; clear HT2 HG2 HX2 HOK2 t0 t1 g1 cc hT3 hkp hnd hsub ok1 ok2 ha1 ha2' hp1 hx hsz2 hT3l; simp only [entryV, kidPtr]))
    · have ba := below_alloc (Below.refl _ w3) (.cells #[.string x.f0, .int .i64 x.f1.f0, .int .i64 x.f1.f1] 29)
      obtain ⟨tb, htb⟩ : ∃ tb, w3.heap.size = tb := ⟨_, rfl⟩
      have HTB := Aside0.mk (blk_new w3 (.cells #[.string x.f0, .int .i64 x.f1.f0, .int .i64 x.f1.f1] 29))
      have q1 := Aside0.mk (show TreeAt _ _ _ _ from blk_below HT3.out ba)
      have q3 := Aside0.mk (HG3.out.below ba)
      have q4 := Aside0.mk (HM1.out.below ba)
      have q5 := Aside0.mk (HM2.out.below ba)
      have HL1 := Aside0.mk (fun a ha => HM1.out.lt a ha)
      have HL2' := Aside0.mk (fun a ha => HM2.out.lt a ha)
      have hl3 := HT3.out.lt
      have HW3 := Aside0.mk (show w.heap.size ≤ tb from htb ▸ HG3.out.size)
      have hs4 : (w3.alloc (.cells #[.string x.f0, .int .i64 x.f1.f0, .int .i64 x.f1.f1] 29)).heap.size = tb + 1 := by simp [htb]
      rw [htb] at HTB HL1 HL2' hl3 ⊢
      clear HT3 HG3 HM1 HM2 ba
      have HT3 := q1
      have HG3 := q3
      have HM1 := q4
      have HM2 := q5
      clear q1 q3 q4 q5
      generalize w3.alloc (.cells #[.string x.f0, .int .i64 x.f1.f0, .int .i64 x.f1.f1] 29) = W4 at HT3 HG3 HM1 HM2 HTB hs4 ⊢
      refine start_ (n := 14) (S := fun w' => w'.cell? ⟨tp, 0, none⟩ = some (.pointer (some ⟨ptr h m, 0, none⟩)) ∧ w'.cell? ⟨tb, 0, none⟩ = some (.string x.f0) ∧ w'.cell? ⟨tb, 1, none⟩ = some (.int .i64 x.f1.f0) ∧ w'.cell? ⟨tb, 2, none⟩ = some (.int .i64 x.f1.f1)) (ds := [13]) #[false, false, false, false, false, false, false, false, false, false, false, false, false, false] (by kernel_rfl) rfl rfl ⟨HT3.out.c0, (blk_cell HTB.out 0).trans rfl, (blk_cell HTB.out 1).trans rfl, (blk_cell HTB.out 2).trans rfl⟩ (fun hHeld => ?_)
      have q1 := Aside0.mk (show TreeAt _ _ _ _ from blk_drew HT3.out)
      have q2 := Aside0.mk (blk_drew HTB.out)
      have q3 := Aside0.mk HG3.out.drew
      have q4 := Aside0.mk (Ok.move (w' := W4.drew) HM1.out (fun _ _ => rfl))
      have q5 := Aside0.mk (Ok.move (w' := W4.drew) HM2.out (fun _ _ => rfl))
      clear HT3 HTB HG3 HM1 HM2
      have HT3 := q1
      have HTB := q2
      have HG3 := q3
      have HM1 := q4
      have HM2 := q5
      clear q1 q2 q3 q4 q5
      have hszd : W4.drew.heap.size = tb + 1 := hs4
      generalize W4.drew = wd at HT3 HTB HG3 HM1 HM2 hHeld hszd ⊢
      refine pure_ (i := 0) (N := (some 38)) (v := ?_) (a' := ?_) #[true, false, false, false, false, false, false, false, false, false, false, false, false, false] rfl rfl (by kernel_rfl) (fun _ _ _ h => h) (Or.inl ⟨by rfl, ?_⟩) ?_ ?_
      rotate_left
      · intro w'
        go_simp
        with_reducible rfl
      rotate_left
      · simp only [Act.put, List.setIfInBounds_toArray, List.set_cons_zero, List.set_cons_succ, i64_w, i32_w]
        rfl
      refine pure_ (i := 3) (N := (some 41)) (v := ?_) (a' := ?_) #[true, false, false, true, false, false, false, false, false, false, false, false, false, false] rfl rfl (by kernel_rfl) (fun _ _ _ h => h) (Or.inl ⟨by rfl, ?_⟩) ?_ ?_
      rotate_left
      · intro w'
        go_simp
        with_reducible rfl
      rotate_left
      · simp only [Act.put, List.setIfInBounds_toArray, List.set_cons_zero, List.set_cons_succ, i64_w, i32_w]
        rfl
      refine pure_ (i := 4) (N := (some 42)) (v := ?_) (a' := ?_) #[true, false, false, true, true, false, false, false, false, false, false, false, false, false] rfl rfl (by kernel_rfl) (fun _ _ _ h => h) (Or.inl ⟨by rfl, ?_⟩) ?_ ?_
      rotate_left
      · intro w'
        go_simp
        with_reducible rfl
      rotate_left
      · simp only [Act.put, List.setIfInBounds_toArray, List.set_cons_zero, List.set_cons_succ, i64_w, i32_w]
        rfl
      refine pure_ (i := 5) (N := (some 43)) (v := ?_) (a' := ?_) #[true, false, false, true, true, true, false, false, false, false, false, false, false, false] rfl rfl (by kernel_rfl) (fun _ _ _ h => h) (Or.inl ⟨by rfl, ?_⟩) ?_ ?_
      rotate_left
      · intro w'
        go_simp
        with_reducible rfl
      rotate_left
      · simp only [Act.put, List.setIfInBounds_toArray, List.set_cons_zero, List.set_cons_succ, i64_w, i32_w]
        rfl
      refine pure_ (i := 7) (N := (some 45)) (v := ?_) (a' := ?_) #[true, false, false, true, true, true, false, true, false, false, false, false, false, false] rfl rfl (by kernel_rfl) (fun _ _ _ h => h) (Or.inl ⟨by rfl, ?_⟩) ?_ ?_
      rotate_left
      · intro w'
        go_simp
        with_reducible rfl
      rotate_left
      · simp only [Act.put, List.setIfInBounds_toArray, List.set_cons_zero, List.set_cons_succ, i64_w, i32_w]
        rfl
      refine take_ (i := 1) (N := (some 39)) (v := ?_) (a' := ?_) #[true, true, false, true, true, true, false, true, false, false, false, false, false, false] rfl rfl (by kernel_rfl) (fun _ _ _ h => h) (Or.inl ⟨by rfl, ?_⟩) hHeld ?_ ?_
      rotate_left
      · rintro w' ⟨s0, s1, s2, s3⟩
        go_simp
        with_reducible rfl
      rotate_left
      · simp only [Act.put, List.setIfInBounds_toArray, List.set_cons_zero, List.set_cons_succ, i64_w, i32_w]
        rfl
      refine take_ (i := 6) (N := (some 44)) (v := ?_) (a' := ?_) #[true, true, false, true, true, true, true, true, false, false, false, false, false, false] rfl rfl (by kernel_rfl) (fun _ _ _ h => h) (Or.inl ⟨by rfl, ?_⟩) hHeld ?_ ?_
      rotate_left
      · rintro w' ⟨s0, s1, s2, s3⟩
        go_simp
        with_reducible rfl
      rotate_left
      · simp only [Act.put, List.setIfInBounds_toArray, List.set_cons_zero, List.set_cons_succ, i64_w, i32_w]
        rfl
      refine two_ (i := 2) (j := 8) (Ni := (some 40)) (Nj := (some 46)) #[true, true, true, true, true, true, true, true, false, false, false, false, false, false] #[true, true, false, true, true, true, true, true, true, false, false, false, false, false] rfl rfl rfl rfl (by kernel_rfl) (by decide) (by decide) (fun K_ hK => ?_) (fun K_ hK => ?_)
      · obtain ⟨a1, ha1⟩ : ∃ v : Nat, wd.heap.size = v := ⟨_, rfl⟩
        refine made_ (v := .slice (some ⟨wd.heap.size, 0, none⟩) 1 1) (w1 := wd.alloc (.cells #[.string x.f0, .int .i64 x.f1.f0, .int .i64 x.f1.f1] 29)) (by rfl) rfl (by go_simp) ?_
        have ba := below_alloc (Below.refl _ wd) (.cells #[.string x.f0, .int .i64 x.f1.f0, .int .i64 x.f1.f1] 29)
        have HBa1 := Aside0.mk (blk_new wd (.cells #[.string x.f0, .int .i64 x.f1.f0, .int .i64 x.f1.f1] 29))
        have hsa1 : (wd.alloc (.cells #[.string x.f0, .int .i64 x.f1.f0, .int .i64 x.f1.f1] 29)).heap.size = a1 + 1 := by simp [ha1]
        rw [ha1] at HBa1 ⊢
        have q1 := Aside0.mk (show TreeAt _ _ _ _ from blk_below HT3.out ba)
        have q2 := Aside0.mk (blk_below HTB.out ba)
        have q3 := Aside0.mk (HG3.out.below ba)
        have q4 := Aside0.mk (Ok.below HM1.out ba)
        have q5 := Aside0.mk (Ok.below HM2.out ba)
        clear HT3 HTB HG3 HM1 HM2
        have HT3 := q1
        have HTB := q2
        have HG3 := q3
        have HM1 := q4
        have HM2 := q5
        clear q1 q2 q3 q4 q5
        clear ba hHeld
        refine hK.out _ _ ⟨HT3.out.c0, (blk_cell HTB.out 0).trans rfl, (blk_cell HTB.out 1).trans rfl, (blk_cell HTB.out 2).trans rfl⟩ (fun hHeld => ?_)
        clear hK K_
        generalize wd.alloc (.cells #[.string x.f0, .int .i64 x.f1.f0, .int .i64 x.f1.f1] 29) = we at HT3 HTB HG3 HM1 HM2 HBa1 hHeld hsa1  ⊢
        refine norm_ (a' := ?_) ?_ ?_
        rotate_left
        · show Act.put _ (some 40) _ = _
          simp only [Act.put, List.setIfInBounds_toArray, List.set_cons_zero, List.set_cons_succ, i64_w, i32_w]
          rfl
        refine one_ (i := 8) (N := (some 46)) #[true, true, true, true, true, true, true, true, true, false, false, false, false, false] rfl rfl (by kernel_rfl) (by decide) (fun K_ hK => ?_)
        obtain ⟨a2, ha2⟩ : ∃ v : Nat, we.heap.size = v := ⟨_, rfl⟩
        refine made_ (v := .slice (some ⟨we.heap.size, 0, none⟩) 2 2) (w1 := we.alloc (.cells #[.pointer (some ⟨ptr h m, 0, none⟩), .pointer (some ⟨ptr h mr, 0, none⟩)] 59)) (by rfl) rfl (by go_simp) ?_
        have ba := below_alloc (Below.refl _ we) (.cells #[.pointer (some ⟨ptr h m, 0, none⟩), .pointer (some ⟨ptr h mr, 0, none⟩)] 59)
        have HBa2 := Aside0.mk (blk_new we (.cells #[.pointer (some ⟨ptr h m, 0, none⟩), .pointer (some ⟨ptr h mr, 0, none⟩)] 59))
        have hsa2 : (we.alloc (.cells #[.pointer (some ⟨ptr h m, 0, none⟩), .pointer (some ⟨ptr h mr, 0, none⟩)] 59)).heap.size = a2 + 1 := by simp [ha2]
        rw [ha2] at HBa2 ⊢
        have q1 := Aside0.mk (show TreeAt _ _ _ _ from blk_below HT3.out ba)
        have q2 := Aside0.mk (blk_below HTB.out ba)
        have q3 := Aside0.mk (HG3.out.below ba)
        have q4 := Aside0.mk (Ok.below HM1.out ba)
        have q5 := Aside0.mk (Ok.below HM2.out ba)
        have r0 := Aside0.mk (blk_below HBa1.out ba)
        clear HT3 HTB HG3 HM1 HM2 HBa1
        have HT3 := q1
        have HTB := q2
        have HG3 := q3
        have HM1 := q4
        have HM2 := q5
        have HBa1 := r0
        clear q1 q2 q3 q4 q5 r0
        clear ba hHeld
        refine hK.out _ _ ⟨HT3.out.c0, (blk_cell HTB.out 0).trans rfl, (blk_cell HTB.out 1).trans rfl, (blk_cell HTB.out 2).trans rfl⟩ (fun hHeld => ?_)
        clear hK K_
        generalize we.alloc (.cells #[.pointer (some ⟨ptr h m, 0, none⟩), .pointer (some ⟨ptr h mr, 0, none⟩)] 59) = wf at HT3 HTB HG3 HM1 HM2 HBa2 hHeld hsa2 HBa1 ⊢
        refine norm_ (a' := ?_) ?_ ?_
        rotate_left
        · show Act.put _ (some 46) _ = _
          simp only [Act.put, List.setIfInBounds_toArray, List.set_cons_zero, List.set_cons_succ, i64_w, i32_w]
          rfl
        refine pure_ (i := 9) (N := (some 47)) (v := ?_) (a' := ?_) #[true, true, true, true, true, true, true, true, true, true, false, false, false, false] rfl rfl (by kernel_rfl) (fun _ _ _ h => h) (Or.inl ⟨by rfl, ?_⟩) ?_ ?_
        rotate_left
        · intro w'
          go_simp
          with_reducible rfl
        rotate_left
        · simp only [Act.put, List.setIfInBounds_toArray, List.set_cons_zero, List.set_cons_succ, i64_w, i32_w]
          rfl
        refine one_ (i := 10) (N := (some 48)) #[true, true, true, true, true, true, true, true, true, true, true, false, false, false] rfl rfl (by kernel_rfl) (by decide) (fun K_ hK => ?_)
        obtain ⟨a3, ha3⟩ : ∃ v : Nat, wf.heap.size = v := ⟨_, rfl⟩
        refine made_ (v := .pointer (some ⟨wf.heap.size, 0, none⟩)) (w1 := wf.alloc (.cells #[.slice (some ⟨a1, 0, none⟩) 1 1, .slice (some ⟨a2, 0, none⟩) 2 2] 62)) (by rfl) rfl (by go_simp) ?_
        have ba := below_alloc (Below.refl _ wf) (.cells #[.slice (some ⟨a1, 0, none⟩) 1 1, .slice (some ⟨a2, 0, none⟩) 2 2] 62)
        have HBa3 := Aside0.mk (blk_new wf (.cells #[.slice (some ⟨a1, 0, none⟩) 1 1, .slice (some ⟨a2, 0, none⟩) 2 2] 62))
        have hsa3 : (wf.alloc (.cells #[.slice (some ⟨a1, 0, none⟩) 1 1, .slice (some ⟨a2, 0, none⟩) 2 2] 62)).heap.size = a3 + 1 := by simp [ha3]
        rw [ha3] at HBa3 ⊢
        have q1 := Aside0.mk (show TreeAt _ _ _ _ from blk_below HT3.out ba)
        have q2 := Aside0.mk (blk_below HTB.out ba)
        have q3 := Aside0.mk (HG3.out.below ba)
        have q4 := Aside0.mk (Ok.below HM1.out ba)
        have q5 := Aside0.mk (Ok.below HM2.out ba)
        have r0 := Aside0.mk (blk_below HBa1.out ba)
        have r1 := Aside0.mk (blk_below HBa2.out ba)
        clear HT3 HTB HG3 HM1 HM2 HBa1 HBa2
        have HT3 := q1
        have HTB := q2
        have HG3 := q3
        have HM1 := q4
        have HM2 := q5
        have HBa1 := r0
        have HBa2 := r1
        clear q1 q2 q3 q4 q5 r0 r1
        clear ba hHeld
        refine hK.out _ _ ⟨HT3.out.c0, (blk_cell HTB.out 0).trans rfl, (blk_cell HTB.out 1).trans rfl, (blk_cell HTB.out 2).trans rfl⟩ (fun hHeld => ?_)
        clear hK K_
        generalize wf.alloc (.cells #[.slice (some ⟨a1, 0, none⟩) 1 1, .slice (some ⟨a2, 0, none⟩) 2 2] 62) = wg at HT3 HTB HG3 HM1 HM2 HBa3 hHeld hsa3 HBa1 HBa2 ⊢
        refine norm_ (a' := ?_) ?_ ?_
        rotate_left
        · show Act.put _ (some 48) _ = _
          simp only [Act.put, List.setIfInBounds_toArray, List.set_cons_zero, List.set_cons_succ, i64_w, i32_w]
          rfl
        refine pure_ (i := 11) (N := (some 49)) (v := ?_) (a' := ?_) #[true, true, true, true, true, true, true, true, true, true, true, true, false, false] rfl rfl (by kernel_rfl) (fun _ _ _ h => h) (Or.inl ⟨by rfl, ?_⟩) ?_ ?_
        rotate_left
        · intro w'
          go_simp
          with_reducible rfl
        rotate_left
        · simp only [Act.put, List.setIfInBounds_toArray, List.set_cons_zero, List.set_cons_succ, i64_w, i32_w]
          rfl
        refine pure_ (i := 12) (N := (some 50)) (v := ?_) (a' := ?_) #[true, true, true, true, true, true, true, true, true, true, true, true, true, false] rfl rfl (by kernel_rfl) (fun _ _ _ h => h) (Or.inl ⟨by rfl, ?_⟩) ?_ ?_
        rotate_left
        · intro w'
          go_simp
          with_reducible rfl
        rotate_left
        · simp only [Act.put, List.setIfInBounds_toArray, List.set_cons_zero, List.set_cons_succ, i64_w, i32_w]
          rfl
        refine last_ (i := 13) (N := none) #[true, true, true, true, true, true, true, true, true, true, true, true, true, true] rfl rfl (by kernel_rfl) (by decide) (fun K_ hK => ?_)
        have c3 := HT3.out.c0
        have f3 := HT3.out.fz 0
        refine skip_ (w1 := ?_) (by rfl) rfl ?_ ?_
        rotate_left
        · go_simp
          rfl
        refine hK.out _ _ ?_
        clear hK K_ c3 f3
        refine done_ (by kernel_rfl) ?_
        go_wp2
        rw [← HR.out]
        have hins : tins h (abs h m) e = (⟨h + 1, ([x], [abs h m1, abs h mr])⟩, true) := by
          unfold tins
          rw [if_pos ⟨HF2.out, by rw [← HA2.out, abs_keys, HL2.out]; exact HGT.out⟩, HF2.out, ← HA2.out, HXX.out, ← HE1.out, ← HE2.out]
        have hsz6 := HG3.out.size
        exact tins_end (N := tb) HT3.out HBa1.out HBa2.out HBa3.out HM1.out HM2.out (HPP.out.trans HP2.out) HND3.out HSUB.out (fun a ha => (List.mem_append.1 ha).elim (HL1.out a) (HL2'.out a)) hl3 (by omega) (by omega) (by omega) (by omega) (by omega) (by omega) HW3.out HTNN.out HG3.out hins
      · obtain ⟨a2, ha2⟩ : ∃ v : Nat, wd.heap.size = v := ⟨_, rfl⟩
        refine made_ (v := .slice (some ⟨wd.heap.size, 0, none⟩) 2 2) (w1 := wd.alloc (.cells #[.pointer (some ⟨ptr h m, 0, none⟩), .pointer (some ⟨ptr h mr, 0, none⟩)] 59)) (by rfl) rfl (by go_simp) ?_
        have ba := below_alloc (Below.refl _ wd) (.cells #[.pointer (some ⟨ptr h m, 0, none⟩), .pointer (some ⟨ptr h mr, 0, none⟩)] 59)
        have HBa2 := Aside0.mk (blk_new wd (.cells #[.pointer (some ⟨ptr h m, 0, none⟩), .pointer (some ⟨ptr h mr, 0, none⟩)] 59))
        have hsa2 : (wd.alloc (.cells #[.pointer (some ⟨ptr h m, 0, none⟩), .pointer (some ⟨ptr h mr, 0, none⟩)] 59)).heap.size = a2 + 1 := by simp [ha2]
        rw [ha2] at HBa2 ⊢
        have q1 := Aside0.mk (show TreeAt _ _ _ _ from blk_below HT3.out ba)
        have q2 := Aside0.mk (blk_below HTB.out ba)
        have q3 := Aside0.mk (HG3.out.below ba)
        have q4 := Aside0.mk (Ok.below HM1.out ba)
        have q5 := Aside0.mk (Ok.below HM2.out ba)
        clear HT3 HTB HG3 HM1 HM2
        have HT3 := q1
        have HTB := q2
        have HG3 := q3
        have HM1 := q4
        have HM2 := q5
        clear q1 q2 q3 q4 q5
        clear ba hHeld
        refine hK.out _ _ ⟨HT3.out.c0, (blk_cell HTB.out 0).trans rfl, (blk_cell HTB.out 1).trans rfl, (blk_cell HTB.out 2).trans rfl⟩ (fun hHeld => ?_)
        clear hK K_
        generalize wd.alloc (.cells #[.pointer (some ⟨ptr h m, 0, none⟩), .pointer (some ⟨ptr h mr, 0, none⟩)] 59) = we at HT3 HTB HG3 HM1 HM2 HBa2 hHeld hsa2  ⊢
        refine norm_ (a' := ?_) ?_ ?_
        rotate_left
        · show Act.put _ (some 46) _ = _
          simp only [Act.put, List.setIfInBounds_toArray, List.set_cons_zero, List.set_cons_succ, i64_w, i32_w]
          rfl
        refine one_ (i := 2) (N := (some 40)) #[true, true, true, true, true, true, true, true, true, false, false, false, false, false] rfl rfl (by kernel_rfl) (by decide) (fun K_ hK => ?_)
        obtain ⟨a1, ha1⟩ : ∃ v : Nat, we.heap.size = v := ⟨_, rfl⟩
        refine made_ (v := .slice (some ⟨we.heap.size, 0, none⟩) 1 1) (w1 := we.alloc (.cells #[.string x.f0, .int .i64 x.f1.f0, .int .i64 x.f1.f1] 29)) (by rfl) rfl (by go_simp) ?_
        have ba := below_alloc (Below.refl _ we) (.cells #[.string x.f0, .int .i64 x.f1.f0, .int .i64 x.f1.f1] 29)
        have HBa1 := Aside0.mk (blk_new we (.cells #[.string x.f0, .int .i64 x.f1.f0, .int .i64 x.f1.f1] 29))
        have hsa1 : (we.alloc (.cells #[.string x.f0, .int .i64 x.f1.f0, .int .i64 x.f1.f1] 29)).heap.size = a1 + 1 := by simp [ha1]
        rw [ha1] at HBa1 ⊢
        have q1 := Aside0.mk (show TreeAt _ _ _ _ from blk_below HT3.out ba)
        have q2 := Aside0.mk (blk_below HTB.out ba)
        have q3 := Aside0.mk (HG3.out.below ba)
        have q4 := Aside0.mk (Ok.below HM1.out ba)
        have q5 := Aside0.mk (Ok.below HM2.out ba)
        have r0 := Aside0.mk (blk_below HBa2.out ba)
        clear HT3 HTB HG3 HM1 HM2 HBa2
        have HT3 := q1
        have HTB := q2
        have HG3 := q3
        have HM1 := q4
        have HM2 := q5
        have HBa2 := r0
        clear q1 q2 q3 q4 q5 r0
        clear ba hHeld
        refine hK.out _ _ ⟨HT3.out.c0, (blk_cell HTB.out 0).trans rfl, (blk_cell HTB.out 1).trans rfl, (blk_cell HTB.out 2).trans rfl⟩ (fun hHeld => ?_)
        clear hK K_
        generalize we.alloc (.cells #[.string x.f0, .int .i64 x.f1.f0, .int .i64 x.f1.f1] 29) = wf at HT3 HTB HG3 HM1 HM2 HBa1 hHeld hsa1 HBa2 ⊢
        refine norm_ (a' := ?_) ?_ ?_
        rotate_left
        · show Act.put _ (some 40) _ = _
          simp only [Act.put, List.setIfInBounds_toArray, List.set_cons_zero, List.set_cons_succ, i64_w, i32_w]
          rfl
        refine pure_ (i := 9) (N := (some 47)) (v := ?_) (a' := ?_) #[true, true, true, true, true, true, true, true, true, true, false, false, false, false] rfl rfl (by kernel_rfl) (fun _ _ _ h => h) (Or.inl ⟨by rfl, ?_⟩) ?_ ?_
        rotate_left
        · intro w'
          go_simp
          with_reducible rfl
        rotate_left
        · simp only [Act.put, List.setIfInBounds_toArray, List.set_cons_zero, List.set_cons_succ, i64_w, i32_w]
          rfl
        refine one_ (i := 10) (N := (some 48)) #[true, true, true, true, true, true, true, true, true, true, true, false, false, false] rfl rfl (by kernel_rfl) (by decide) (fun K_ hK => ?_)
        obtain ⟨a3, ha3⟩ : ∃ v : Nat, wf.heap.size = v := ⟨_, rfl⟩
        refine made_ (v := .pointer (some ⟨wf.heap.size, 0, none⟩)) (w1 := wf.alloc (.cells #[.slice (some ⟨a1, 0, none⟩) 1 1, .slice (some ⟨a2, 0, none⟩) 2 2] 62)) (by rfl) rfl (by go_simp) ?_
        have ba := below_alloc (Below.refl _ wf) (.cells #[.slice (some ⟨a1, 0, none⟩) 1 1, .slice (some ⟨a2, 0, none⟩) 2 2] 62)
        have HBa3 := Aside0.mk (blk_new wf (.cells #[.slice (some ⟨a1, 0, none⟩) 1 1, .slice (some ⟨a2, 0, none⟩) 2 2] 62))
        have hsa3 : (wf.alloc (.cells #[.slice (some ⟨a1, 0, none⟩) 1 1, .slice (some ⟨a2, 0, none⟩) 2 2] 62)).heap.size = a3 + 1 := by simp [ha3]
        rw [ha3] at HBa3 ⊢
        have q1 := Aside0.mk (show TreeAt _ _ _ _ from blk_below HT3.out ba)
        have q2 := Aside0.mk (blk_below HTB.out ba)
        have q3 := Aside0.mk (HG3.out.below ba)
        have q4 := Aside0.mk (Ok.below HM1.out ba)
        have q5 := Aside0.mk (Ok.below HM2.out ba)
        have r0 := Aside0.mk (blk_below HBa1.out ba)
        have r1 := Aside0.mk (blk_below HBa2.out ba)
        clear HT3 HTB HG3 HM1 HM2 HBa1 HBa2
        have HT3 := q1
        have HTB := q2
        have HG3 := q3
        have HM1 := q4
        have HM2 := q5
        have HBa1 := r0
        have HBa2 := r1
        clear q1 q2 q3 q4 q5 r0 r1
        clear ba hHeld
        refine hK.out _ _ ⟨HT3.out.c0, (blk_cell HTB.out 0).trans rfl, (blk_cell HTB.out 1).trans rfl, (blk_cell HTB.out 2).trans rfl⟩ (fun hHeld => ?_)
        clear hK K_
        generalize wf.alloc (.cells #[.slice (some ⟨a1, 0, none⟩) 1 1, .slice (some ⟨a2, 0, none⟩) 2 2] 62) = wg at HT3 HTB HG3 HM1 HM2 HBa3 hHeld hsa3 HBa1 HBa2 ⊢
        refine norm_ (a' := ?_) ?_ ?_
        rotate_left
        · show Act.put _ (some 48) _ = _
          simp only [Act.put, List.setIfInBounds_toArray, List.set_cons_zero, List.set_cons_succ, i64_w, i32_w]
          rfl
        refine pure_ (i := 11) (N := (some 49)) (v := ?_) (a' := ?_) #[true, true, true, true, true, true, true, true, true, true, true, true, false, false] rfl rfl (by kernel_rfl) (fun _ _ _ h => h) (Or.inl ⟨by rfl, ?_⟩) ?_ ?_
        rotate_left
        · intro w'
          go_simp
          with_reducible rfl
        rotate_left
        · simp only [Act.put, List.setIfInBounds_toArray, List.set_cons_zero, List.set_cons_succ, i64_w, i32_w]
          rfl
        refine pure_ (i := 12) (N := (some 50)) (v := ?_) (a' := ?_) #[true, true, true, true, true, true, true, true, true, true, true, true, true, false] rfl rfl (by kernel_rfl) (fun _ _ _ h => h) (Or.inl ⟨by rfl, ?_⟩) ?_ ?_
        rotate_left
        · intro w'
          go_simp
          with_reducible rfl
        rotate_left
        · simp only [Act.put, List.setIfInBounds_toArray, List.set_cons_zero, List.set_cons_succ, i64_w, i32_w]
          rfl
        refine last_ (i := 13) (N := none) #[true, true, true, true, true, true, true, true, true, true, true, true, true, true] rfl rfl (by kernel_rfl) (by decide) (fun K_ hK => ?_)
        have c3 := HT3.out.c0
        have f3 := HT3.out.fz 0
        refine skip_ (w1 := ?_) (by rfl) rfl ?_ ?_
        rotate_left
        · go_simp
          rfl
        refine hK.out _ _ ?_
        clear hK K_ c3 f3
        refine done_ (by kernel_rfl) ?_
        go_wp2
        rw [← HR.out]
        have hins : tins h (abs h m) e = (⟨h + 1, ([x], [abs h m1, abs h mr])⟩, true) := by
          unfold tins
          rw [if_pos ⟨HF2.out, by rw [← HA2.out, abs_keys, HL2.out]; exact HGT.out⟩, HF2.out, ← HA2.out, HXX.out, ← HE1.out, ← HE2.out]
        have hsz6 := HG3.out.size
        exact tins_end (N := tb) HT3.out HBa1.out HBa2.out HBa3.out HM1.out HM2.out (HPP.out.trans HP2.out) HND3.out HSUB.out (fun a ha => (List.mem_append.1 ha).elim (HL1.out a) (HL2'.out a)) hl3 (by omega) (by omega) (by omega) (by omega) (by omega) (by omega) HW3.out HTNN.out HG3.out hins
    · have hlt : ¬ 4 < L2 := by omega
      rw [← HR.out]
      have htin : tins h (abs h m) e = (⟨h, (ins h (abs h m) e).1⟩, true) := by
        unfold tins
        rw [if_neg (by rw [← HA2.out, abs_keys, HL2.out]; exact fun hh => hlt hh.2), HF2.out]
      refine ⟨h, m2, ?_, ⟨?_, Ok.far HOK2.out HTN.out _, ?_⟩, ?_, HG2.out.cell (p := ⟨tp, 1, none⟩) (.inl List.mem_cons_self) _, HS2.out⟩
      · rw [htin]
        rfl
      · rw [htin, HP2.out]
        exact blk_put HT2.out 1 (.int .i64 (cnt + 1)) rfl
      · intro a
        rw [List.count_cons]
        have h1 := HND2.out a
        by_cases ha : tp = a
        · subst ha
          have : (fp h m2).count tp = 0 := List.count_eq_zero.2 HTN.out
          simp [this]
        · simp [ha]
          exact h1
      · rw [htin, HA2.out]
end Go.Proofs.Bt
end
