/- Packed by chunk.py: YtjcgbppicdccdaaDoorQ32 YtjcgbppicdccdaaDoorH17 YtjcgbppicdccdaaDoorA7 -/
import Derived.Test.YtjcgbppicdccdaaDoorQ0
import Derived.LoopN
import Derived.Test.YtjcgbppicdccdaaDoorShelf
import Derived.Laws.BitsLemmas
import Derived.Deep.Slices
import Derived.ChangeArms
import Derived.DataReads
import Derived.Test.YtjcgbppicdccdaaDoorM2
section
/- What Go functions compute, as Lean functions, and that the machine's call comes to just that; no conditions beyond each theorem's own. (Written by pp.py of this repo, over the kit's print.py.) -/
namespace Go.Proofs.YtjcgbppicdccdaaDoor.Q
open Go.RowKit Go.Proofs.YtjcgbppicdccdaaDoorW.PrintWords Go.Proofs.YtjcgbppicdccdaaDoorW.PrintLast Go.Proofs.YtjcgbppicdccdaaDoorW.PrintMore
attribute [local go_sem] max2_int min2_int max_two min_two max_three min_three max_four min_four   -- for this text's walks alone
set_option linter.unusedVariables false
set_option linter.unusedSimpArgs false

/-! ### key_reader_value: function 32 -/
def key_reader_value.f (s0_0 : ByteArray) (s0_1 : Bool) : Option (Int × Int × ByteArray × ByteArray × Bool) := (key_reader_take.f s0_0 s0_1 1).bind fun bt184 => (if 0 < (bt184.1.size : Int) then (if (wrap64 (bt bt184.1 0)) = 1 then ((key_reader_num.f bt184.2.1 bt184.2.2).bind fun bt188 => (some (wrap64 (bt bt184.1 0), bt188.1, (⟨#[]⟩ : ByteArray), bt188.2.1, bt188.2.2))) else (if (wrap64 (bt bt184.1 0)) = 2 then ((key_reader_take.f bt184.2.1 bt184.2.2 1).bind fun bt191 => (if 0 < (bt191.1.size : Int) then (some (wrap64 (bt bt184.1 0), wrap64 (bt bt191.1 0), (⟨#[]⟩ : ByteArray), bt191.2.1, bt191.2.2)) else (none))) else (if (wrap64 (bt bt184.1 0)) = 3 then ((key_reader_text.f bt184.2.1 bt184.2.2).bind fun bt194 => (some (wrap64 (bt bt184.1 0), 0, bt194.1, bt194.2.1, bt194.2.2))) else (some (wrap64 (bt bt184.1 0), 0, (⟨#[]⟩ : ByteArray), bt184.2.1, bt184.2.2))))) else (none))
set_option maxHeartbeats 8000000 in
set_option maxRecDepth 100000 in
theorem key_reader_value.calls (g : Nat) (s0_0 : ByteArray) (s0_1 : Bool) (r1 : Int) (r2 : Int) (r3 : ByteArray) (r4 : ByteArray) (r5 : Bool) (w0 w : World) (hI : IsS59 w0 w g s0_0 s0_1) (hB : Below w0.heap.size w0 w) (h : key_reader_value.f s0_0 s0_1 = some (r1, r2, r3, r4, r5)) :
    Calls Tryd.prog 32 #[.pointer (some ⟨g, 0, none⟩)] w fun e w' => e = .returned (.agg #[.int .i64 r1, .int .i64 r2, .string r3]) ∧ IsS59 w0 w' g r4 r5 ∧ Below w0.heap.size w0 w' ∧ KeepBut w w' g none := by
  have hu43 := Tryd.underlying43
  have HI0 := Aside0.mk hI
  have HK := Aside0.mk (KeepBut.refl w g none)
  have HL := Aside0.mk hB.size
  clear hI
  have HW0 := Aside0.mk hB.size
  have HB := Aside0.mk hB
  clear hB
  have H : ((key_reader_take.f s0_0 s0_1 1).bind fun bt184 => (if 0 < (bt184.1.size : Int) then (if (wrap64 (bt bt184.1 0)) = 1 then ((key_reader_num.f bt184.2.1 bt184.2.2).bind fun bt188 => (some (wrap64 (bt bt184.1 0), bt188.1, (⟨#[]⟩ : ByteArray), bt188.2.1, bt188.2.2))) else (if (wrap64 (bt bt184.1 0)) = 2 then ((key_reader_take.f bt184.2.1 bt184.2.2 1).bind fun bt191 => (if 0 < (bt191.1.size : Int) then (some (wrap64 (bt bt184.1 0), wrap64 (bt bt191.1 0), (⟨#[]⟩ : ByteArray), bt191.2.1, bt191.2.2)) else (none))) else (if (wrap64 (bt bt184.1 0)) = 3 then ((key_reader_text.f bt184.2.1 bt184.2.2).bind fun bt194 => (some (wrap64 (bt bt184.1 0), 0, bt194.1, bt194.2.1, bt194.2.2))) else (some (wrap64 (bt bt184.1 0), 0, (⟨#[]⟩ : ByteArray), bt184.2.1, bt184.2.2))))) else (none))) = some (r1, r2, r3, r4, r5) := h
  clear h
  replace H := Option.bind_eq_some_iff.mp H
  obtain ⟨⟨t184, t185, t186⟩, A20, H⟩ := H
  replace H : (if 0 < (t184.size : Int) then (if (wrap64 (bt t184 0)) = 1 then ((key_reader_num.f t185 t186).bind fun bt188 => (some (wrap64 (bt t184 0), bt188.1, (⟨#[]⟩ : ByteArray), bt188.2.1, bt188.2.2))) else (if (wrap64 (bt t184 0)) = 2 then ((key_reader_take.f t185 t186 1).bind fun bt191 => (if 0 < (bt191.1.size : Int) then (some (wrap64 (bt t184 0), wrap64 (bt bt191.1 0), (⟨#[]⟩ : ByteArray), bt191.2.1, bt191.2.2)) else (none))) else (if (wrap64 (bt t184 0)) = 3 then ((key_reader_text.f t185 t186).bind fun bt194 => (some (wrap64 (bt t184 0), 0, bt194.1, bt194.2.1, bt194.2.2))) else (some (wrap64 (bt t184 0), 0, (⟨#[]⟩ : ByteArray), t185, t186))))) else (none)) = some (r1, r2, r3, r4, r5) := H
  have A2 := Aside0.mk A20
  clear A20
  by_cases c3 : 0 < (t184.size : Int)
  · rw [if_pos c3] at H
    have c3b0 : decide (0 < (t184.size : Int)) = true := decide_eq_true c3
    have c3b1 : decide (0 < t184.size) = true := decide_eq_true (by omega)
    clear c3
    by_cases c5 : (wrap64 (bt t184 0)) = 1
    · rw [if_pos c5] at H
      have c5b0 : ((wrap64 (bt t184 0)) == 1) = true := beq_iff_eq.mpr c5
      have c5b1 : ((wrap64 (bt t184 0)) != 1) = false := bne_eq_false_iff_eq.mpr c5
      clear c5
      replace H := Option.bind_eq_some_iff.mp H
      obtain ⟨⟨t188, t189, t190⟩, A60, H⟩ := H
      replace H : (some (wrap64 (bt t184 0), t188, (⟨#[]⟩ : ByteArray), t189, t190)) = some (r1, r2, r3, r4, r5) := H
      have A6 := Aside0.mk A60
      clear A60
      simp only [Option.some.injEq, Prod.mk.injEq] at H
      obtain ⟨rfl, rfl, rfl, rfl, rfl⟩ := H
      go_enter Tryd.func32, Tryd.ntmps32
      go_wp2_with (first | ((with_reducible refine gate_dst (N := 2) rfl ?_); refine box_event ?hg (N := 2) ?hd (cs := #[.int .i64 0, .int .i64 0, .string (⟨#[]⟩ : ByteArray)]) (t := 43) ?hr ?_; (case hd => rfl); (case hg => rfl); (case hr => first | (go_simp; done) | (go_simp; rfl)); intro gb183 hg w7 hbox hb; have n0_ := Aside0.mk (IsS59.below (by repeat (first | (with_reducible first | exact HI0.out | apply IsS59.alloc | apply IsS59.drewN | apply IsS59.drew | apply IsS59.set_0 | apply IsS59.set_1) | exact HI0.out)) hb); have n1_ := Aside0.mk (KeepBut.trans (by repeat (first | (with_reducible first | exact HK.out | apply KeepBut.set_ | apply keep_drewN | apply keep_drew | apply keep_alloc) | exact HK.out)) (KeepBut.of_below hb g none) (.inl rfl)); have n2_ := Aside0.mk (below_step (by repeat (first | (with_reducible first | exact HB.out | apply below_alloc | apply pw_below_drewN | apply below_drew1 | refine below_set ?_ (IsS59.ge HI0.out)) | exact HB.out)) hb); have n3_ := Aside0.mk (hbox); have n4_ := Aside0.mk ((by rw [hg]; exact (keep_size (w := w) (g := g) (row := none) (by repeat (first | (with_reducible first | exact HK.out | apply KeepBut.set_ | apply keep_drewN | apply keep_drew | apply keep_alloc) | exact HK.out))) : w.heap.size ≤ gb183)); have n5_ := Aside0.mk ((Nat.le_trans HW0.out (by rw [hg]; exact (keep_size (w := w) (g := g) (row := none) (by repeat (first | (with_reducible first | exact HK.out | apply KeepBut.set_ | apply keep_drewN | apply keep_drew | apply keep_alloc) | exact HK.out))) : w.heap.size ≤ gb183) : w0.heap.size ≤ gb183)); have n6_ := Aside0.mk ((by rw [hg]; exact Nat.ne_of_lt (IsS59.lt (show IsS59 w0 _ g s0_0 s0_1 from by repeat (first | (with_reducible first | exact HI0.out | apply IsS59.alloc | apply IsS59.drewN | apply IsS59.drew | apply IsS59.set_0 | apply IsS59.set_1) | exact HI0.out))) : g ≠ gb183)); have n7_ := Aside0.mk ((by rw [hg]; exact Nat.ne_of_gt (IsS59.lt (show IsS59 w0 _ g s0_0 s0_1 from by repeat (first | (with_reducible first | exact HI0.out | apply IsS59.alloc | apply IsS59.drewN | apply IsS59.drew | apply IsS59.set_0 | apply IsS59.set_1) | exact HI0.out))) : gb183 ≠ g)); clear HI0; clear HK; clear HB; have HI0 := n0_; have HK := n1_; have HB := n2_; have BK183 := n3_; have GW183 := n4_; have GE183 := n5_; have NB0_183 := n6_; have NB183_0 := n7_; clear n0_ n1_ n2_ n3_ n4_ n5_ n6_ n7_; clear hb hbox hg) | ((with_reducible refine gate_callee (f := 41) rfl ?_); refine goesL_ (some 5) rfl rfl Tryd.func41 (by kernel_rfl) rfl #[.pointer (some ⟨g, 0, none⟩), .int .i64 1] rfl (by (try simp only [List.map_toArray, List.map_cons, List.map_nil]); first | done | rfl | (simp only [List.length_drop, List.length_take]; rfl)) ?_; (with_reducible refine (key_reader_take.calls g s0_0 s0_1 1 t184 t185 t186 w0 _ ?side1 ?side2 A2.out).mono ?_); (case side1 => repeat (first | (with_reducible first | exact HI0.out | apply IsS59.alloc | apply IsS59.drewN | apply IsS59.drew | apply IsS59.set_0 | apply IsS59.set_1 | refine IsS59.far ?_ NB0_183.out _) | exact HI0.out)); (case side2 => repeat (first | (with_reducible first | exact HB.out | apply below_alloc | apply pw_below_drewN | apply below_drew1 | refine below_set ?_ (IsS59.ge HI0.out) | refine below_set ?_ GE183.out) | exact HB.out)); rintro e w8 ⟨rfl, hi, hb, hk⟩; refine ⟨_, rfl, ?_⟩; have n0_ := Aside0.mk (KeepBut.blk hk (g' := gb183) (o := .cells #[.int .i64 0, .int .i64 0, .string (⟨#[]⟩ : ByteArray)] 43 (0, 0)) (by (with_reducible repeat (first | refine blk_drewN ?_ _ | refine blk_drew ?_ | refine blk_alloc ?_ _)); exact BK183.out) NB183_0.out (by simp)); have n1_ := Aside0.mk (KeepBut.trans (by repeat (first | (with_reducible first | exact HK.out | apply KeepBut.set_ | apply keep_drewN | apply keep_drew | apply keep_alloc | refine keep_far ?_ GW183.out _) | exact HK.out)) hk (.inl rfl)); have n2_ := Aside0.mk (hb); have n3_ := Aside0.mk (hi); clear BK183; clear HK; clear HB; clear HI0; have BK183 := n0_; have HK := n1_; have HB := n2_; have HI0 := n3_; clear n0_ n1_ n2_ n3_; (try clear hb); (try clear hb2); (try clear hk); (try clear hi); have p4 : 0 ≤ (0 : Int) := (by omega); have q4 : 0 < t184.size := (by have : (0 : Int) < (t184.size : Int) := of_decide_eq_true (by first | (with_reducible assumption) | assumption); omega); have hx4 : ∀ h : 0 < t184.size, ((t184[0]'h).toNat : Int) = bt t184 0 := bt_at t184 0; clear p4; have qi4 : (0 < (t184.size : Int)) = True := eq_true (of_decide_eq_true (by first | (with_reducible assumption) | assumption)); replace q4 := eq_true q4) | ((with_reducible refine gate_dst (N := 3) rfl ?_); refine box_event ?hg (N := 3) ?hd (cs := #[.int .i64 0, .int .i64 0, .string (⟨#[]⟩ : ByteArray)]) (t := 43) ?hr ?_; (case hd => rfl); (case hg => rfl); (case hr => first | (go_simp; done) | (go_simp; rfl)); intro gb187 hg w9 hbox hb; have n0_ := Aside0.mk (IsS59.below (by repeat (first | (with_reducible first | exact HI0.out | apply IsS59.alloc | apply IsS59.drewN | apply IsS59.drew | apply IsS59.set_0 | apply IsS59.set_1 | refine IsS59.far ?_ NB0_183.out _) | exact HI0.out)) hb); have n1_ := Aside0.mk (blk_below (g := gb183) (o := .cells #[.int .i64 0, .int .i64 0, .string (⟨#[]⟩ : ByteArray)] 43 (0, 0)) (by (with_reducible repeat (first | refine blk_drewN ?_ _ | refine blk_drew ?_ | refine blk_alloc ?_ _)); exact BK183.out) hb); have n2_ := Aside0.mk (KeepBut.trans (by repeat (first | (with_reducible first | exact HK.out | apply KeepBut.set_ | apply keep_drewN | apply keep_drew | apply keep_alloc | refine keep_far ?_ GW183.out _) | exact HK.out)) (KeepBut.of_below hb g none) (.inl rfl)); have n3_ := Aside0.mk (below_step (by repeat (first | (with_reducible first | exact HB.out | apply below_alloc | apply pw_below_drewN | apply below_drew1 | refine below_set ?_ (IsS59.ge HI0.out) | refine below_set ?_ GE183.out) | exact HB.out)) hb); have n4_ := Aside0.mk (hbox); have n5_ := Aside0.mk ((by rw [hg]; exact (keep_size (w := w) (g := g) (row := none) (by repeat (first | (with_reducible first | exact HK.out | apply KeepBut.set_ | apply keep_drewN | apply keep_drew | apply keep_alloc | refine keep_far ?_ GW183.out _) | exact HK.out))) : w.heap.size ≤ gb187)); have n6_ := Aside0.mk ((Nat.le_trans HW0.out (by rw [hg]; exact (keep_size (w := w) (g := g) (row := none) (by repeat (first | (with_reducible first | exact HK.out | apply KeepBut.set_ | apply keep_drewN | apply keep_drew | apply keep_alloc | refine keep_far ?_ GW183.out _) | exact HK.out))) : w.heap.size ≤ gb187) : w0.heap.size ≤ gb187)); have n7_ := Aside0.mk ((by rw [hg]; exact Nat.ne_of_lt (blk_lt (g := gb183) (o := .cells #[.int .i64 0, .int .i64 0, .string (⟨#[]⟩ : ByteArray)] 43 (0, 0)) (by (with_reducible repeat (first | refine blk_drewN ?_ _ | refine blk_drew ?_ | refine blk_alloc ?_ _)); exact BK183.out)) : gb183 ≠ gb187)); have n8_ := Aside0.mk ((by rw [hg]; exact Nat.ne_of_gt (blk_lt (g := gb183) (o := .cells #[.int .i64 0, .int .i64 0, .string (⟨#[]⟩ : ByteArray)] 43 (0, 0)) (by (with_reducible repeat (first | refine blk_drewN ?_ _ | refine blk_drew ?_ | refine blk_alloc ?_ _)); exact BK183.out)) : gb187 ≠ gb183)); have n9_ := Aside0.mk ((by rw [hg]; exact Nat.ne_of_lt (IsS59.lt (show IsS59 w0 _ g t185 t186 from by repeat (first | (with_reducible first | exact HI0.out | apply IsS59.alloc | apply IsS59.drewN | apply IsS59.drew | apply IsS59.set_0 | apply IsS59.set_1 | refine IsS59.far ?_ NB0_183.out _) | exact HI0.out))) : g ≠ gb187)); have n10_ := Aside0.mk ((by rw [hg]; exact Nat.ne_of_gt (IsS59.lt (show IsS59 w0 _ g t185 t186 from by repeat (first | (with_reducible first | exact HI0.out | apply IsS59.alloc | apply IsS59.drewN | apply IsS59.drew | apply IsS59.set_0 | apply IsS59.set_1 | refine IsS59.far ?_ NB0_183.out _) | exact HI0.out))) : gb187 ≠ g)); clear HI0; clear BK183; clear HK; clear HB; have HI0 := n0_; have BK183 := n1_; have HK := n2_; have HB := n3_; have BK187 := n4_; have GW187 := n5_; have GE187 := n6_; have NB183_187 := n7_; have NB187_183 := n8_; have NB0_187 := n9_; have NB187_0 := n10_; clear n0_ n1_ n2_ n3_ n4_ n5_ n6_ n7_ n8_ n9_ n10_; clear hb hbox hg; have hnb10 := NB187_183.out; have hnc10 := NB183_187.out; have hnb11 := NB187_0.out; have hnc11 := NB0_187.out; have hcz12_0 : w9.cell? ⟨gb187, 0, none⟩ = some (.int .i64 0) := (blk_cell BK187.out 0).trans rfl; have hcz12_1 : w9.cell? ⟨gb187, 1, none⟩ = some (.int .i64 0) := (blk_cell BK187.out 1).trans rfl; have hcz12_2 : w9.cell? ⟨gb187, 2, none⟩ = some (.string (⟨#[]⟩ : ByteArray)) := (blk_cell BK187.out 2).trans rfl; have hfz12_0 := blk_frozen BK187.out 0; have hfz12_1 := blk_frozen BK187.out 1; have hfz12_2 := blk_frozen BK187.out 2) | ((with_reducible refine gate_callee (f := 42) rfl ?_); refine goesL_ (some 14) rfl rfl Tryd.func42 (by kernel_rfl) rfl #[.pointer (some ⟨g, 0, none⟩)] rfl (by (try simp only [List.map_toArray, List.map_cons, List.map_nil]); first | done | rfl | (simp only [List.length_drop, List.length_take]; rfl)) ?_; (with_reducible refine (key_reader_num.calls g t185 t186 t188 t189 t190 w0 _ ?side1 ?side2 A6.out).mono ?_); (case side1 => repeat (first | (with_reducible first | exact HI0.out | apply IsS59.alloc | apply IsS59.drewN | apply IsS59.drew | apply IsS59.set_0 | apply IsS59.set_1 | refine IsS59.far ?_ NB0_183.out _ | refine IsS59.far ?_ NB0_187.out _) | exact HI0.out)); (case side2 => repeat (first | (with_reducible first | exact HB.out | apply below_alloc | apply pw_below_drewN | apply below_drew1 | refine below_set ?_ (IsS59.ge HI0.out) | refine below_set ?_ GE183.out | refine below_set ?_ GE187.out) | exact HB.out)); rintro e w13 ⟨rfl, hi, hb, hk⟩; refine ⟨_, rfl, ?_⟩; have n0_ := Aside0.mk (KeepBut.blk hk (g' := gb183) (o := .cells #[.int .i64 0, .int .i64 0, .string (⟨#[]⟩ : ByteArray)] 43 (0, 0)) (by (with_reducible repeat (first | refine blk_drewN ?_ _ | refine blk_drew ?_ | refine blk_alloc ?_ _)); refine blk_far ?_ NB183_187.out _; (with_reducible repeat (first | refine blk_drewN ?_ _ | refine blk_drew ?_ | refine blk_alloc ?_ _)); refine blk_far ?_ NB183_187.out _; (with_reducible repeat (first | refine blk_drewN ?_ _ | refine blk_drew ?_ | refine blk_alloc ?_ _)); refine blk_far ?_ NB183_187.out _; (with_reducible repeat (first | refine blk_drewN ?_ _ | refine blk_drew ?_ | refine blk_alloc ?_ _)); exact BK183.out) NB183_0.out (by simp)); have n1_ := Aside0.mk (KeepBut.blk hk (g' := gb187) (o := .cells #[.int .i64 (wrap64 (bt t184 0)), .int .i64 0, .string (⟨#[]⟩ : ByteArray)] 43 (0, 0)) (by (with_reducible repeat (first | refine blk_drewN ?_ _ | refine blk_drew ?_ | refine blk_alloc ?_ _)); refine blk_put (cs := #[.int .i64 (wrap64 (bt t184 0)), .int .i64 0, .string (⟨#[]⟩ : ByteArray)]) ?_ 2 _ rfl; (with_reducible repeat (first | refine blk_drewN ?_ _ | refine blk_drew ?_ | refine blk_alloc ?_ _)); refine blk_put (cs := #[.int .i64 (wrap64 (bt t184 0)), .int .i64 0, .string (⟨#[]⟩ : ByteArray)]) ?_ 1 _ rfl; (with_reducible repeat (first | refine blk_drewN ?_ _ | refine blk_drew ?_ | refine blk_alloc ?_ _)); refine blk_put (cs := #[.int .i64 0, .int .i64 0, .string (⟨#[]⟩ : ByteArray)]) ?_ 0 _ rfl; (with_reducible repeat (first | refine blk_drewN ?_ _ | refine blk_drew ?_ | refine blk_alloc ?_ _)); exact BK187.out) NB187_0.out (by simp)); have n2_ := Aside0.mk (KeepBut.trans (by repeat (first | (with_reducible first | exact HK.out | apply KeepBut.set_ | apply keep_drewN | apply keep_drew | apply keep_alloc | refine keep_far ?_ GW183.out _ | refine keep_far ?_ GW187.out _) | exact HK.out)) hk (.inl rfl)); have n3_ := Aside0.mk (hb); have n4_ := Aside0.mk (hi); clear BK183; clear BK187; clear HK; clear HB; clear HI0; have BK183 := n0_; have BK187 := n1_; have HK := n2_; have HB := n3_; have HI0 := n4_; clear n0_ n1_ n2_ n3_ n4_; (try clear hb); (try clear hb2); (try clear hk); (try clear hi); have hcz14_0 : w13.cell? ⟨gb187, 0, none⟩ = some (.int .i64 (wrap64 (bt t184 0))) := (blk_cell BK187.out 0).trans rfl; have hcz14_1 : w13.cell? ⟨gb187, 1, none⟩ = some (.int .i64 0) := (blk_cell BK187.out 1).trans rfl; have hcz14_2 : w13.cell? ⟨gb187, 2, none⟩ = some (.string (⟨#[]⟩ : ByteArray)) := (blk_cell BK187.out 2).trans rfl; have hfz14_0 := blk_frozen BK187.out 0; have hfz14_1 := blk_frozen BK187.out 1; have hfz14_2 := blk_frozen BK187.out 2; have hnb15 := NB183_0.out; have hnc15 := NB0_183.out; have hcz16_0 : w13.cell? ⟨gb183, 0, none⟩ = some (.int .i64 0) := (blk_cell BK183.out 0).trans rfl; have hcz16_1 : w13.cell? ⟨gb183, 1, none⟩ = some (.int .i64 0) := (blk_cell BK183.out 1).trans rfl; have hcz16_2 : w13.cell? ⟨gb183, 2, none⟩ = some (.string (⟨#[]⟩ : ByteArray)) := (blk_cell BK183.out 2).trans rfl; have hfz16_0 := blk_frozen BK183.out 0; have hfz16_1 := blk_frozen BK183.out 1; have hfz16_2 := blk_frozen BK183.out 2))
      refine bodyPost_ret (results_cell_row rfl _ _ gb183 43 #[.int .i64 (wrap64 (bt t184 0)), .int .i64 t188, .string (⟨#[]⟩ : ByteArray)] (0, 0) _ rfl (by (with_reducible repeat (first | refine blk_drewN ?_ _ | refine blk_drew ?_ | refine blk_alloc ?_ _)); refine blk_put (cs := #[.int .i64 (wrap64 (bt t184 0)), .int .i64 t188, .string (⟨#[]⟩ : ByteArray)]) ?_ 2 _ rfl; (with_reducible repeat (first | refine blk_drewN ?_ _ | refine blk_drew ?_ | refine blk_alloc ?_ _)); refine blk_put (cs := #[.int .i64 (wrap64 (bt t184 0)), .int .i64 0, .string (⟨#[]⟩ : ByteArray)]) ?_ 1 _ rfl; (with_reducible repeat (first | refine blk_drewN ?_ _ | refine blk_drew ?_ | refine blk_alloc ?_ _)); refine blk_put (cs := #[.int .i64 0, .int .i64 0, .string (⟨#[]⟩ : ByteArray)]) ?_ 0 _ rfl; (with_reducible repeat (first | refine blk_drewN ?_ _ | refine blk_drew ?_ | refine blk_alloc ?_ _)); refine blk_far ?_ NB183_187.out _; (with_reducible repeat (first | refine blk_drewN ?_ _ | refine blk_drew ?_ | refine blk_alloc ?_ _)); exact BK183.out) Tryd.underlying43 rfl (by kernel_rfl)) rfl ?_
      exact ⟨by first | rfl | (simp [errW_none, errW_some] <;> rfl) | (simp [*, errW_none, errW_some] <;> rfl), by repeat (first | (with_reducible first | exact HI0.out | apply IsS59.alloc | apply IsS59.drewN | apply IsS59.drew | apply IsS59.set_0 | apply IsS59.set_1 | refine IsS59.far ?_ NB0_183.out _ | refine IsS59.far ?_ NB0_187.out _) | exact HI0.out), by repeat (first | (with_reducible first | exact HB.out | apply below_alloc | apply pw_below_drewN | apply below_drew1 | refine below_set ?_ (IsS59.ge HI0.out) | refine below_set ?_ GE183.out | refine below_set ?_ GE187.out) | exact HB.out), by repeat (first | (with_reducible first | exact HK.out | apply KeepBut.set_ | apply keep_drewN | apply keep_drew | apply keep_alloc | refine keep_far ?_ GW183.out _ | refine keep_far ?_ GW187.out _) | exact HK.out)⟩
    · rw [if_neg c5] at H
      have c5b0 : ((wrap64 (bt t184 0)) == 1) = false := beq_eq_false_iff_ne.mpr c5
      have c5b1 : ((wrap64 (bt t184 0)) != 1) = true := bne_iff_ne.mpr c5
      by_cases c17 : (wrap64 (bt t184 0)) = 2
      · rw [if_pos c17] at H
        have c17b0 : ((wrap64 (bt t184 0)) == 2) = true := beq_iff_eq.mpr c17
        have c17b1 : ((wrap64 (bt t184 0)) != 2) = false := bne_eq_false_iff_eq.mpr c17
        clear c17
        replace H := Option.bind_eq_some_iff.mp H
        obtain ⟨⟨t191, t192, t193⟩, A180, H⟩ := H
        replace H : (if 0 < (t191.size : Int) then (some (wrap64 (bt t184 0), wrap64 (bt t191 0), (⟨#[]⟩ : ByteArray), t192, t193)) else (none)) = some (r1, r2, r3, r4, r5) := H
        have A18 := Aside0.mk A180
        clear A180
        by_cases c19 : 0 < (t191.size : Int)
        · rw [if_pos c19] at H
          have c19b0 : decide (0 < (t191.size : Int)) = true := decide_eq_true c19
          have c19b1 : decide (0 < t191.size) = true := decide_eq_true (by omega)
          clear c19
          simp only [Option.some.injEq, Prod.mk.injEq] at H
          obtain ⟨rfl, rfl, rfl, rfl, rfl⟩ := H
          go_enter Tryd.func32, Tryd.ntmps32
          go_wp2_with (first | ((with_reducible refine gate_dst (N := 2) rfl ?_); refine box_event ?hg (N := 2) ?hd (cs := #[.int .i64 0, .int .i64 0, .string (⟨#[]⟩ : ByteArray)]) (t := 43) ?hr ?_; (case hd => rfl); (case hg => rfl); (case hr => first | (go_simp; done) | (go_simp; rfl)); intro gb183 hg w21 hbox hb; have n0_ := Aside0.mk (IsS59.below (by repeat (first | (with_reducible first | exact HI0.out | apply IsS59.alloc | apply IsS59.drewN | apply IsS59.drew | apply IsS59.set_0 | apply IsS59.set_1) | exact HI0.out)) hb); have n1_ := Aside0.mk (KeepBut.trans (by repeat (first | (with_reducible first | exact HK.out | apply KeepBut.set_ | apply keep_drewN | apply keep_drew | apply keep_alloc) | exact HK.out)) (KeepBut.of_below hb g none) (.inl rfl)); have n2_ := Aside0.mk (below_step (by repeat (first | (with_reducible first | exact HB.out | apply below_alloc | apply pw_below_drewN | apply below_drew1 | refine below_set ?_ (IsS59.ge HI0.out)) | exact HB.out)) hb); have n3_ := Aside0.mk (hbox); have n4_ := Aside0.mk ((by rw [hg]; exact (keep_size (w := w) (g := g) (row := none) (by repeat (first | (with_reducible first | exact HK.out | apply KeepBut.set_ | apply keep_drewN | apply keep_drew | apply keep_alloc) | exact HK.out))) : w.heap.size ≤ gb183)); have n5_ := Aside0.mk ((Nat.le_trans HW0.out (by rw [hg]; exact (keep_size (w := w) (g := g) (row := none) (by repeat (first | (with_reducible first | exact HK.out | apply KeepBut.set_ | apply keep_drewN | apply keep_drew | apply keep_alloc) | exact HK.out))) : w.heap.size ≤ gb183) : w0.heap.size ≤ gb183)); have n6_ := Aside0.mk ((by rw [hg]; exact Nat.ne_of_lt (IsS59.lt (show IsS59 w0 _ g s0_0 s0_1 from by repeat (first | (with_reducible first | exact HI0.out | apply IsS59.alloc | apply IsS59.drewN | apply IsS59.drew | apply IsS59.set_0 | apply IsS59.set_1) | exact HI0.out))) : g ≠ gb183)); have n7_ := Aside0.mk ((by rw [hg]; exact Nat.ne_of_gt (IsS59.lt (show IsS59 w0 _ g s0_0 s0_1 from by repeat (first | (with_reducible first | exact HI0.out | apply IsS59.alloc | apply IsS59.drewN | apply IsS59.drew | apply IsS59.set_0 | apply IsS59.set_1) | exact HI0.out))) : gb183 ≠ g)); clear HI0; clear HK; clear HB; have HI0 := n0_; have HK := n1_; have HB := n2_; have BK183 := n3_; have GW183 := n4_; have GE183 := n5_; have NB0_183 := n6_; have NB183_0 := n7_; clear n0_ n1_ n2_ n3_ n4_ n5_ n6_ n7_; clear hb hbox hg) | ((with_reducible refine gate_callee (f := 41) rfl ?_); refine goesL_ (some 5) rfl rfl Tryd.func41 (by kernel_rfl) rfl #[.pointer (some ⟨g, 0, none⟩), .int .i64 1] rfl (by (try simp only [List.map_toArray, List.map_cons, List.map_nil]); first | done | rfl | (simp only [List.length_drop, List.length_take]; rfl)) ?_; (with_reducible refine (key_reader_take.calls g s0_0 s0_1 1 t184 t185 t186 w0 _ ?side1 ?side2 A2.out).mono ?_); (case side1 => repeat (first | (with_reducible first | exact HI0.out | apply IsS59.alloc | apply IsS59.drewN | apply IsS59.drew | apply IsS59.set_0 | apply IsS59.set_1 | refine IsS59.far ?_ NB0_183.out _) | exact HI0.out)); (case side2 => repeat (first | (with_reducible first | exact HB.out | apply below_alloc | apply pw_below_drewN | apply below_drew1 | refine below_set ?_ (IsS59.ge HI0.out) | refine below_set ?_ GE183.out) | exact HB.out)); rintro e w22 ⟨rfl, hi, hb, hk⟩; refine ⟨_, rfl, ?_⟩; have n0_ := Aside0.mk (KeepBut.blk hk (g' := gb183) (o := .cells #[.int .i64 0, .int .i64 0, .string (⟨#[]⟩ : ByteArray)] 43 (0, 0)) (by (with_reducible repeat (first | refine blk_drewN ?_ _ | refine blk_drew ?_ | refine blk_alloc ?_ _)); exact BK183.out) NB183_0.out (by simp)); have n1_ := Aside0.mk (KeepBut.trans (by repeat (first | (with_reducible first | exact HK.out | apply KeepBut.set_ | apply keep_drewN | apply keep_drew | apply keep_alloc | refine keep_far ?_ GW183.out _) | exact HK.out)) hk (.inl rfl)); have n2_ := Aside0.mk (hb); have n3_ := Aside0.mk (hi); clear BK183; clear HK; clear HB; clear HI0; have BK183 := n0_; have HK := n1_; have HB := n2_; have HI0 := n3_; clear n0_ n1_ n2_ n3_; (try clear hb); (try clear hb2); (try clear hk); (try clear hi); have p4 : 0 ≤ (0 : Int) := (by omega); have q4 : 0 < t184.size := (by have : (0 : Int) < (t184.size : Int) := of_decide_eq_true (by first | (with_reducible assumption) | assumption); omega); have hx4 : ∀ h : 0 < t184.size, ((t184[0]'h).toNat : Int) = bt t184 0 := bt_at t184 0; clear p4; have qi4 : (0 < (t184.size : Int)) = True := eq_true (of_decide_eq_true (by first | (with_reducible assumption) | assumption)); replace q4 := eq_true q4) | ((with_reducible refine gate_dst (N := 3) rfl ?_); refine box_event ?hg (N := 3) ?hd (cs := #[.int .i64 0, .int .i64 0, .string (⟨#[]⟩ : ByteArray)]) (t := 43) ?hr ?_; (case hd => rfl); (case hg => rfl); (case hr => first | (go_simp; done) | (go_simp; rfl)); intro gb187 hg w23 hbox hb; have n0_ := Aside0.mk (IsS59.below (by repeat (first | (with_reducible first | exact HI0.out | apply IsS59.alloc | apply IsS59.drewN | apply IsS59.drew | apply IsS59.set_0 | apply IsS59.set_1 | refine IsS59.far ?_ NB0_183.out _) | exact HI0.out)) hb); have n1_ := Aside0.mk (blk_below (g := gb183) (o := .cells #[.int .i64 0, .int .i64 0, .string (⟨#[]⟩ : ByteArray)] 43 (0, 0)) (by (with_reducible repeat (first | refine blk_drewN ?_ _ | refine blk_drew ?_ | refine blk_alloc ?_ _)); exact BK183.out) hb); have n2_ := Aside0.mk (KeepBut.trans (by repeat (first | (with_reducible first | exact HK.out | apply KeepBut.set_ | apply keep_drewN | apply keep_drew | apply keep_alloc | refine keep_far ?_ GW183.out _) | exact HK.out)) (KeepBut.of_below hb g none) (.inl rfl)); have n3_ := Aside0.mk (below_step (by repeat (first | (with_reducible first | exact HB.out | apply below_alloc | apply pw_below_drewN | apply below_drew1 | refine below_set ?_ (IsS59.ge HI0.out) | refine below_set ?_ GE183.out) | exact HB.out)) hb); have n4_ := Aside0.mk (hbox); have n5_ := Aside0.mk ((by rw [hg]; exact (keep_size (w := w) (g := g) (row := none) (by repeat (first | (with_reducible first | exact HK.out | apply KeepBut.set_ | apply keep_drewN | apply keep_drew | apply keep_alloc | refine keep_far ?_ GW183.out _) | exact HK.out))) : w.heap.size ≤ gb187)); have n6_ := Aside0.mk ((Nat.le_trans HW0.out (by rw [hg]; exact (keep_size (w := w) (g := g) (row := none) (by repeat (first | (with_reducible first | exact HK.out | apply KeepBut.set_ | apply keep_drewN | apply keep_drew | apply keep_alloc | refine keep_far ?_ GW183.out _) | exact HK.out))) : w.heap.size ≤ gb187) : w0.heap.size ≤ gb187)); have n7_ := Aside0.mk ((by rw [hg]; exact Nat.ne_of_lt (blk_lt (g := gb183) (o := .cells #[.int .i64 0, .int .i64 0, .string (⟨#[]⟩ : ByteArray)] 43 (0, 0)) (by (with_reducible repeat (first | refine blk_drewN ?_ _ | refine blk_drew ?_ | refine blk_alloc ?_ _)); exact BK183.out)) : gb183 ≠ gb187)); have n8_ := Aside0.mk ((by rw [hg]; exact Nat.ne_of_gt (blk_lt (g := gb183) (o := .cells #[.int .i64 0, .int .i64 0, .string (⟨#[]⟩ : ByteArray)] 43 (0, 0)) (by (with_reducible repeat (first | refine blk_drewN ?_ _ | refine blk_drew ?_ | refine blk_alloc ?_ _)); exact BK183.out)) : gb187 ≠ gb183)); have n9_ := Aside0.mk ((by rw [hg]; exact Nat.ne_of_lt (IsS59.lt (show IsS59 w0 _ g t185 t186 from by repeat (first | (with_reducible first | exact HI0.out | apply IsS59.alloc | apply IsS59.drewN | apply IsS59.drew | apply IsS59.set_0 | apply IsS59.set_1 | refine IsS59.far ?_ NB0_183.out _) | exact HI0.out))) : g ≠ gb187)); have n10_ := Aside0.mk ((by rw [hg]; exact Nat.ne_of_gt (IsS59.lt (show IsS59 w0 _ g t185 t186 from by repeat (first | (with_reducible first | exact HI0.out | apply IsS59.alloc | apply IsS59.drewN | apply IsS59.drew | apply IsS59.set_0 | apply IsS59.set_1 | refine IsS59.far ?_ NB0_183.out _) | exact HI0.out))) : gb187 ≠ g)); clear HI0; clear BK183; clear HK; clear HB; have HI0 := n0_; have BK183 := n1_; have HK := n2_; have HB := n3_; have BK187 := n4_; have GW187 := n5_; have GE187 := n6_; have NB183_187 := n7_; have NB187_183 := n8_; have NB0_187 := n9_; have NB187_0 := n10_; clear n0_ n1_ n2_ n3_ n4_ n5_ n6_ n7_ n8_ n9_ n10_; clear hb hbox hg; have hnb24 := NB187_183.out; have hnc24 := NB183_187.out; have hnb25 := NB187_0.out; have hnc25 := NB0_187.out; have hcz26_0 : w23.cell? ⟨gb187, 0, none⟩ = some (.int .i64 0) := (blk_cell BK187.out 0).trans rfl; have hcz26_1 : w23.cell? ⟨gb187, 1, none⟩ = some (.int .i64 0) := (blk_cell BK187.out 1).trans rfl; have hcz26_2 : w23.cell? ⟨gb187, 2, none⟩ = some (.string (⟨#[]⟩ : ByteArray)) := (blk_cell BK187.out 2).trans rfl; have hfz26_0 := blk_frozen BK187.out 0; have hfz26_1 := blk_frozen BK187.out 1; have hfz26_2 := blk_frozen BK187.out 2) | ((with_reducible refine gate_callee (f := 41) rfl ?_); refine goesL_ (some 19) rfl rfl Tryd.func41 (by kernel_rfl) rfl #[.pointer (some ⟨g, 0, none⟩), .int .i64 1] rfl (by (try simp only [List.map_toArray, List.map_cons, List.map_nil]); first | done | rfl | (simp only [List.length_drop, List.length_take]; rfl)) ?_; (with_reducible refine (key_reader_take.calls g t185 t186 1 t191 t192 t193 w0 _ ?side1 ?side2 A18.out).mono ?_); (case side1 => repeat (first | (with_reducible first | exact HI0.out | apply IsS59.alloc | apply IsS59.drewN | apply IsS59.drew | apply IsS59.set_0 | apply IsS59.set_1 | refine IsS59.far ?_ NB0_183.out _ | refine IsS59.far ?_ NB0_187.out _) | exact HI0.out)); (case side2 => repeat (first | (with_reducible first | exact HB.out | apply below_alloc | apply pw_below_drewN | apply below_drew1 | refine below_set ?_ (IsS59.ge HI0.out) | refine below_set ?_ GE183.out | refine below_set ?_ GE187.out) | exact HB.out)); rintro e w27 ⟨rfl, hi, hb, hk⟩; refine ⟨_, rfl, ?_⟩; have n0_ := Aside0.mk (KeepBut.blk hk (g' := gb183) (o := .cells #[.int .i64 0, .int .i64 0, .string (⟨#[]⟩ : ByteArray)] 43 (0, 0)) (by (with_reducible repeat (first | refine blk_drewN ?_ _ | refine blk_drew ?_ | refine blk_alloc ?_ _)); refine blk_far ?_ NB183_187.out _; (with_reducible repeat (first | refine blk_drewN ?_ _ | refine blk_drew ?_ | refine blk_alloc ?_ _)); refine blk_far ?_ NB183_187.out _; (with_reducible repeat (first | refine blk_drewN ?_ _ | refine blk_drew ?_ | refine blk_alloc ?_ _)); refine blk_far ?_ NB183_187.out _; (with_reducible repeat (first | refine blk_drewN ?_ _ | refine blk_drew ?_ | refine blk_alloc ?_ _)); exact BK183.out) NB183_0.out (by simp)); have n1_ := Aside0.mk (KeepBut.blk hk (g' := gb187) (o := .cells #[.int .i64 (wrap64 (bt t184 0)), .int .i64 0, .string (⟨#[]⟩ : ByteArray)] 43 (0, 0)) (by (with_reducible repeat (first | refine blk_drewN ?_ _ | refine blk_drew ?_ | refine blk_alloc ?_ _)); refine blk_put (cs := #[.int .i64 (wrap64 (bt t184 0)), .int .i64 0, .string (⟨#[]⟩ : ByteArray)]) ?_ 2 _ rfl; (with_reducible repeat (first | refine blk_drewN ?_ _ | refine blk_drew ?_ | refine blk_alloc ?_ _)); refine blk_put (cs := #[.int .i64 (wrap64 (bt t184 0)), .int .i64 0, .string (⟨#[]⟩ : ByteArray)]) ?_ 1 _ rfl; (with_reducible repeat (first | refine blk_drewN ?_ _ | refine blk_drew ?_ | refine blk_alloc ?_ _)); refine blk_put (cs := #[.int .i64 0, .int .i64 0, .string (⟨#[]⟩ : ByteArray)]) ?_ 0 _ rfl; (with_reducible repeat (first | refine blk_drewN ?_ _ | refine blk_drew ?_ | refine blk_alloc ?_ _)); exact BK187.out) NB187_0.out (by simp)); have n2_ := Aside0.mk (KeepBut.trans (by repeat (first | (with_reducible first | exact HK.out | apply KeepBut.set_ | apply keep_drewN | apply keep_drew | apply keep_alloc | refine keep_far ?_ GW183.out _ | refine keep_far ?_ GW187.out _) | exact HK.out)) hk (.inl rfl)); have n3_ := Aside0.mk (hb); have n4_ := Aside0.mk (hi); clear BK183; clear BK187; clear HK; clear HB; clear HI0; have BK183 := n0_; have BK187 := n1_; have HK := n2_; have HB := n3_; have HI0 := n4_; clear n0_ n1_ n2_ n3_ n4_; (try clear hb); (try clear hb2); (try clear hk); (try clear hi); have p20 : 0 ≤ (0 : Int) := (by omega); have q20 : 0 < t191.size := (by have : (0 : Int) < (t191.size : Int) := of_decide_eq_true (by first | (with_reducible assumption) | assumption); omega); have hx20 : ∀ h : 0 < t191.size, ((t191[0]'h).toNat : Int) = bt t191 0 := bt_at t191 0; clear p20; have qi20 : (0 < (t191.size : Int)) = True := eq_true (of_decide_eq_true (by first | (with_reducible assumption) | assumption)); replace q20 := eq_true q20; have hcz28_0 : w27.cell? ⟨gb187, 0, none⟩ = some (.int .i64 (wrap64 (bt t184 0))) := (blk_cell BK187.out 0).trans rfl; have hcz28_1 : w27.cell? ⟨gb187, 1, none⟩ = some (.int .i64 0) := (blk_cell BK187.out 1).trans rfl; have hcz28_2 : w27.cell? ⟨gb187, 2, none⟩ = some (.string (⟨#[]⟩ : ByteArray)) := (blk_cell BK187.out 2).trans rfl; have hfz28_0 := blk_frozen BK187.out 0; have hfz28_1 := blk_frozen BK187.out 1; have hfz28_2 := blk_frozen BK187.out 2; have hnb29 := NB183_0.out; have hnc29 := NB0_183.out; have hcz30_0 : w27.cell? ⟨gb183, 0, none⟩ = some (.int .i64 0) := (blk_cell BK183.out 0).trans rfl; have hcz30_1 : w27.cell? ⟨gb183, 1, none⟩ = some (.int .i64 0) := (blk_cell BK183.out 1).trans rfl; have hcz30_2 : w27.cell? ⟨gb183, 2, none⟩ = some (.string (⟨#[]⟩ : ByteArray)) := (blk_cell BK183.out 2).trans rfl; have hfz30_0 := blk_frozen BK183.out 0; have hfz30_1 := blk_frozen BK183.out 1; have hfz30_2 := blk_frozen BK183.out 2))
          refine bodyPost_ret (results_cell_row rfl _ _ gb183 43 #[.int .i64 (wrap64 (bt t184 0)), .int .i64 (wrap64 (bt t191 0)), .string (⟨#[]⟩ : ByteArray)] (0, 0) _ rfl (by (with_reducible repeat (first | refine blk_drewN ?_ _ | refine blk_drew ?_ | refine blk_alloc ?_ _)); refine blk_put (cs := #[.int .i64 (wrap64 (bt t184 0)), .int .i64 (wrap64 (bt t191 0)), .string (⟨#[]⟩ : ByteArray)]) ?_ 2 _ rfl; (with_reducible repeat (first | refine blk_drewN ?_ _ | refine blk_drew ?_ | refine blk_alloc ?_ _)); refine blk_put (cs := #[.int .i64 (wrap64 (bt t184 0)), .int .i64 0, .string (⟨#[]⟩ : ByteArray)]) ?_ 1 _ rfl; (with_reducible repeat (first | refine blk_drewN ?_ _ | refine blk_drew ?_ | refine blk_alloc ?_ _)); refine blk_put (cs := #[.int .i64 0, .int .i64 0, .string (⟨#[]⟩ : ByteArray)]) ?_ 0 _ rfl; (with_reducible repeat (first | refine blk_drewN ?_ _ | refine blk_drew ?_ | refine blk_alloc ?_ _)); refine blk_far ?_ NB183_187.out _; (with_reducible repeat (first | refine blk_drewN ?_ _ | refine blk_drew ?_ | refine blk_alloc ?_ _)); exact BK183.out) Tryd.underlying43 rfl (by kernel_rfl)) rfl ?_
          exact ⟨by first | rfl | (simp [errW_none, errW_some] <;> rfl) | (simp [*, errW_none, errW_some] <;> rfl), by repeat (first | (with_reducible first | exact HI0.out | apply IsS59.alloc | apply IsS59.drewN | apply IsS59.drew | apply IsS59.set_0 | apply IsS59.set_1 | refine IsS59.far ?_ NB0_183.out _ | refine IsS59.far ?_ NB0_187.out _) | exact HI0.out), by repeat (first | (with_reducible first | exact HB.out | apply below_alloc | apply pw_below_drewN | apply below_drew1 | refine below_set ?_ (IsS59.ge HI0.out) | refine below_set ?_ GE183.out | refine below_set ?_ GE187.out) | exact HB.out), by repeat (first | (with_reducible first | exact HK.out | apply KeepBut.set_ | apply keep_drewN | apply keep_drew | apply keep_alloc | refine keep_far ?_ GW183.out _ | refine keep_far ?_ GW187.out _) | exact HK.out)⟩
        · rw [if_neg c19] at H
          exact absurd H (by simp)
      · rw [if_neg c17] at H
        have c17b0 : ((wrap64 (bt t184 0)) == 2) = false := beq_eq_false_iff_ne.mpr c17
        have c17b1 : ((wrap64 (bt t184 0)) != 2) = true := bne_iff_ne.mpr c17
        by_cases c31 : (wrap64 (bt t184 0)) = 3
        · rw [if_pos c31] at H
          have c31b0 : ((wrap64 (bt t184 0)) == 3) = true := beq_iff_eq.mpr c31
          have c31b1 : ((wrap64 (bt t184 0)) != 3) = false := bne_eq_false_iff_eq.mpr c31
          clear c31
          replace H := Option.bind_eq_some_iff.mp H
          obtain ⟨⟨t194, t195, t196⟩, A320, H⟩ := H
          replace H : (some (wrap64 (bt t184 0), 0, t194, t195, t196)) = some (r1, r2, r3, r4, r5) := H
          have A32 := Aside0.mk A320
          clear A320
          simp only [Option.some.injEq, Prod.mk.injEq] at H
          obtain ⟨rfl, rfl, rfl, rfl, rfl⟩ := H
          go_enter Tryd.func32, Tryd.ntmps32
          go_wp2_with (first | ((with_reducible refine gate_dst (N := 2) rfl ?_); refine box_event ?hg (N := 2) ?hd (cs := #[.int .i64 0, .int .i64 0, .string (⟨#[]⟩ : ByteArray)]) (t := 43) ?hr ?_; (case hd => rfl); (case hg => rfl); (case hr => first | (go_simp; done) | (go_simp; rfl)); intro gb183 hg w33 hbox hb; have n0_ := Aside0.mk (IsS59.below (by repeat (first | (with_reducible first | exact HI0.out | apply IsS59.alloc | apply IsS59.drewN | apply IsS59.drew | apply IsS59.set_0 | apply IsS59.set_1) | exact HI0.out)) hb); have n1_ := Aside0.mk (KeepBut.trans (by repeat (first | (with_reducible first | exact HK.out | apply KeepBut.set_ | apply keep_drewN | apply keep_drew | apply keep_alloc) | exact HK.out)) (KeepBut.of_below hb g none) (.inl rfl)); have n2_ := Aside0.mk (below_step (by repeat (first | (with_reducible first | exact HB.out | apply below_alloc | apply pw_below_drewN | apply below_drew1 | refine below_set ?_ (IsS59.ge HI0.out)) | exact HB.out)) hb); have n3_ := Aside0.mk (hbox); have n4_ := Aside0.mk ((by rw [hg]; exact (keep_size (w := w) (g := g) (row := none) (by repeat (first | (with_reducible first | exact HK.out | apply KeepBut.set_ | apply keep_drewN | apply keep_drew | apply keep_alloc) | exact HK.out))) : w.heap.size ≤ gb183)); have n5_ := Aside0.mk ((Nat.le_trans HW0.out (by rw [hg]; exact (keep_size (w := w) (g := g) (row := none) (by repeat (first | (with_reducible first | exact HK.out | apply KeepBut.set_ | apply keep_drewN | apply keep_drew | apply keep_alloc) | exact HK.out))) : w.heap.size ≤ gb183) : w0.heap.size ≤ gb183)); have n6_ := Aside0.mk ((by rw [hg]; exact Nat.ne_of_lt (IsS59.lt (show IsS59 w0 _ g s0_0 s0_1 from by repeat (first | (with_reducible first | exact HI0.out | apply IsS59.alloc | apply IsS59.drewN | apply IsS59.drew | apply IsS59.set_0 | apply IsS59.set_1) | exact HI0.out))) : g ≠ gb183)); have n7_ := Aside0.mk ((by rw [hg]; exact Nat.ne_of_gt (IsS59.lt (show IsS59 w0 _ g s0_0 s0_1 from by repeat (first | (with_reducible first | exact HI0.out | apply IsS59.alloc | apply IsS59.drewN | apply IsS59.drew | apply IsS59.set_0 | apply IsS59.set_1) | exact HI0.out))) : gb183 ≠ g)); clear HI0; clear HK; clear HB; have HI0 := n0_; have HK := n1_; have HB := n2_; have BK183 := n3_; have GW183 := n4_; have GE183 := n5_; have NB0_183 := n6_; have NB183_0 := n7_; clear n0_ n1_ n2_ n3_ n4_ n5_ n6_ n7_; clear hb hbox hg) | ((with_reducible refine gate_callee (f := 41) rfl ?_); refine goesL_ (some 5) rfl rfl Tryd.func41 (by kernel_rfl) rfl #[.pointer (some ⟨g, 0, none⟩), .int .i64 1] rfl (by (try simp only [List.map_toArray, List.map_cons, List.map_nil]); first | done | rfl | (simp only [List.length_drop, List.length_take]; rfl)) ?_; (with_reducible refine (key_reader_take.calls g s0_0 s0_1 1 t184 t185 t186 w0 _ ?side1 ?side2 A2.out).mono ?_); (case side1 => repeat (first | (with_reducible first | exact HI0.out | apply IsS59.alloc | apply IsS59.drewN | apply IsS59.drew | apply IsS59.set_0 | apply IsS59.set_1 | refine IsS59.far ?_ NB0_183.out _) | exact HI0.out)); (case side2 => repeat (first | (with_reducible first | exact HB.out | apply below_alloc | apply pw_below_drewN | apply below_drew1 | refine below_set ?_ (IsS59.ge HI0.out) | refine below_set ?_ GE183.out) | exact HB.out)); rintro e w34 ⟨rfl, hi, hb, hk⟩; refine ⟨_, rfl, ?_⟩; have n0_ := Aside0.mk (KeepBut.blk hk (g' := gb183) (o := .cells #[.int .i64 0, .int .i64 0, .string (⟨#[]⟩ : ByteArray)] 43 (0, 0)) (by (with_reducible repeat (first | refine blk_drewN ?_ _ | refine blk_drew ?_ | refine blk_alloc ?_ _)); exact BK183.out) NB183_0.out (by simp)); have n1_ := Aside0.mk (KeepBut.trans (by repeat (first | (with_reducible first | exact HK.out | apply KeepBut.set_ | apply keep_drewN | apply keep_drew | apply keep_alloc | refine keep_far ?_ GW183.out _) | exact HK.out)) hk (.inl rfl)); have n2_ := Aside0.mk (hb); have n3_ := Aside0.mk (hi); clear BK183; clear HK; clear HB; clear HI0; have BK183 := n0_; have HK := n1_; have HB := n2_; have HI0 := n3_; clear n0_ n1_ n2_ n3_; (try clear hb); (try clear hb2); (try clear hk); (try clear hi); have p4 : 0 ≤ (0 : Int) := (by omega); have q4 : 0 < t184.size := (by have : (0 : Int) < (t184.size : Int) := of_decide_eq_true (by first | (with_reducible assumption) | assumption); omega); have hx4 : ∀ h : 0 < t184.size, ((t184[0]'h).toNat : Int) = bt t184 0 := bt_at t184 0; clear p4; have qi4 : (0 < (t184.size : Int)) = True := eq_true (of_decide_eq_true (by first | (with_reducible assumption) | assumption)); replace q4 := eq_true q4) | ((with_reducible refine gate_dst (N := 3) rfl ?_); refine box_event ?hg (N := 3) ?hd (cs := #[.int .i64 0, .int .i64 0, .string (⟨#[]⟩ : ByteArray)]) (t := 43) ?hr ?_; (case hd => rfl); (case hg => rfl); (case hr => first | (go_simp; done) | (go_simp; rfl)); intro gb187 hg w35 hbox hb; have n0_ := Aside0.mk (IsS59.below (by repeat (first | (with_reducible first | exact HI0.out | apply IsS59.alloc | apply IsS59.drewN | apply IsS59.drew | apply IsS59.set_0 | apply IsS59.set_1 | refine IsS59.far ?_ NB0_183.out _) | exact HI0.out)) hb); have n1_ := Aside0.mk (blk_below (g := gb183) (o := .cells #[.int .i64 0, .int .i64 0, .string (⟨#[]⟩ : ByteArray)] 43 (0, 0)) (by (with_reducible repeat (first | refine blk_drewN ?_ _ | refine blk_drew ?_ | refine blk_alloc ?_ _)); exact BK183.out) hb); have n2_ := Aside0.mk (KeepBut.trans (by repeat (first | (with_reducible first | exact HK.out | apply KeepBut.set_ | apply keep_drewN | apply keep_drew | apply keep_alloc | refine keep_far ?_ GW183.out _) | exact HK.out)) (KeepBut.of_below hb g none) (.inl rfl)); have n3_ := Aside0.mk (below_step (by repeat (first | (with_reducible first | exact HB.out | apply below_alloc | apply pw_below_drewN | apply below_drew1 | refine below_set ?_ (IsS59.ge HI0.out) | refine below_set ?_ GE183.out) | exact HB.out)) hb); have n4_ := Aside0.mk (hbox); have n5_ := Aside0.mk ((by rw [hg]; exact (keep_size (w := w) (g := g) (row := none) (by repeat (first | (with_reducible first | exact HK.out | apply KeepBut.set_ | apply keep_drewN | apply keep_drew | apply keep_alloc | refine keep_far ?_ GW183.out _) | exact HK.out))) : w.heap.size ≤ gb187)); have n6_ := Aside0.mk ((Nat.le_trans HW0.out (by rw [hg]; exact (keep_size (w := w) (g := g) (row := none) (by repeat (first | (with_reducible first | exact HK.out | apply KeepBut.set_ | apply keep_drewN | apply keep_drew | apply keep_alloc | refine keep_far ?_ GW183.out _) | exact HK.out))) : w.heap.size ≤ gb187) : w0.heap.size ≤ gb187)); have n7_ := Aside0.mk ((by rw [hg]; exact Nat.ne_of_lt (blk_lt (g := gb183) (o := .cells #[.int .i64 0, .int .i64 0, .string (⟨#[]⟩ : ByteArray)] 43 (0, 0)) (by (with_reducible repeat (first | refine blk_drewN ?_ _ | refine blk_drew ?_ | refine blk_alloc ?_ _)); exact BK183.out)) : gb183 ≠ gb187)); have n8_ := Aside0.mk ((by rw [hg]; exact Nat.ne_of_gt (blk_lt (g := gb183) (o := .cells #[.int .i64 0, .int .i64 0, .string (⟨#[]⟩ : ByteArray)] 43 (0, 0)) (by (with_reducible repeat (first | refine blk_drewN ?_ _ | refine blk_drew ?_ | refine blk_alloc ?_ _)); exact BK183.out)) : gb187 ≠ gb183)); have n9_ := Aside0.mk ((by rw [hg]; exact Nat.ne_of_lt (IsS59.lt (show IsS59 w0 _ g t185 t186 from by repeat (first | (with_reducible first | exact HI0.out | apply IsS59.alloc | apply IsS59.drewN | apply IsS59.drew | apply IsS59.set_0 | apply IsS59.set_1 | refine IsS59.far ?_ NB0_183.out _) | exact HI0.out))) : g ≠ gb187)); have n10_ := Aside0.mk ((by rw [hg]; exact Nat.ne_of_gt (IsS59.lt (show IsS59 w0 _ g t185 t186 from by repeat (first | (with_reducible first | exact HI0.out | apply IsS59.alloc | apply IsS59.drewN | apply IsS59.drew | apply IsS59.set_0 | apply IsS59.set_1 | refine IsS59.far ?_ NB0_183.out _) | exact HI0.out))) : gb187 ≠ g)); clear HI0; clear BK183; clear HK; clear HB; have HI0 := n0_; have BK183 := n1_; have HK := n2_; have HB := n3_; have BK187 := n4_; have GW187 := n5_; have GE187 := n6_; have NB183_187 := n7_; have NB187_183 := n8_; have NB0_187 := n9_; have NB187_0 := n10_; clear n0_ n1_ n2_ n3_ n4_ n5_ n6_ n7_ n8_ n9_ n10_; clear hb hbox hg; have hnb36 := NB187_183.out; have hnc36 := NB183_187.out; have hnb37 := NB187_0.out; have hnc37 := NB0_187.out; have hcz38_0 : w35.cell? ⟨gb187, 0, none⟩ = some (.int .i64 0) := (blk_cell BK187.out 0).trans rfl; have hcz38_1 : w35.cell? ⟨gb187, 1, none⟩ = some (.int .i64 0) := (blk_cell BK187.out 1).trans rfl; have hcz38_2 : w35.cell? ⟨gb187, 2, none⟩ = some (.string (⟨#[]⟩ : ByteArray)) := (blk_cell BK187.out 2).trans rfl; have hfz38_0 := blk_frozen BK187.out 0; have hfz38_1 := blk_frozen BK187.out 1; have hfz38_2 := blk_frozen BK187.out 2) | ((with_reducible refine gate_callee (f := 43) rfl ?_); refine goesL_ (some 26) rfl rfl Tryd.func43 (by kernel_rfl) rfl #[.pointer (some ⟨g, 0, none⟩)] rfl (by (try simp only [List.map_toArray, List.map_cons, List.map_nil]); first | done | rfl | (simp only [List.length_drop, List.length_take]; rfl)) ?_; (with_reducible refine (key_reader_text.calls g t185 t186 t194 t195 t196 w0 _ ?side1 ?side2 A32.out).mono ?_); (case side1 => repeat (first | (with_reducible first | exact HI0.out | apply IsS59.alloc | apply IsS59.drewN | apply IsS59.drew | apply IsS59.set_0 | apply IsS59.set_1 | refine IsS59.far ?_ NB0_183.out _ | refine IsS59.far ?_ NB0_187.out _) | exact HI0.out)); (case side2 => repeat (first | (with_reducible first | exact HB.out | apply below_alloc | apply pw_below_drewN | apply below_drew1 | refine below_set ?_ (IsS59.ge HI0.out) | refine below_set ?_ GE183.out | refine below_set ?_ GE187.out) | exact HB.out)); rintro e w39 ⟨rfl, hi, hb, hk⟩; refine ⟨_, rfl, ?_⟩; have n0_ := Aside0.mk (KeepBut.blk hk (g' := gb183) (o := .cells #[.int .i64 0, .int .i64 0, .string (⟨#[]⟩ : ByteArray)] 43 (0, 0)) (by (with_reducible repeat (first | refine blk_drewN ?_ _ | refine blk_drew ?_ | refine blk_alloc ?_ _)); refine blk_far ?_ NB183_187.out _; (with_reducible repeat (first | refine blk_drewN ?_ _ | refine blk_drew ?_ | refine blk_alloc ?_ _)); refine blk_far ?_ NB183_187.out _; (with_reducible repeat (first | refine blk_drewN ?_ _ | refine blk_drew ?_ | refine blk_alloc ?_ _)); refine blk_far ?_ NB183_187.out _; (with_reducible repeat (first | refine blk_drewN ?_ _ | refine blk_drew ?_ | refine blk_alloc ?_ _)); exact BK183.out) NB183_0.out (by simp)); have n1_ := Aside0.mk (KeepBut.blk hk (g' := gb187) (o := .cells #[.int .i64 (wrap64 (bt t184 0)), .int .i64 0, .string (⟨#[]⟩ : ByteArray)] 43 (0, 0)) (by (with_reducible repeat (first | refine blk_drewN ?_ _ | refine blk_drew ?_ | refine blk_alloc ?_ _)); refine blk_put (cs := #[.int .i64 (wrap64 (bt t184 0)), .int .i64 0, .string (⟨#[]⟩ : ByteArray)]) ?_ 2 _ rfl; (with_reducible repeat (first | refine blk_drewN ?_ _ | refine blk_drew ?_ | refine blk_alloc ?_ _)); refine blk_put (cs := #[.int .i64 (wrap64 (bt t184 0)), .int .i64 0, .string (⟨#[]⟩ : ByteArray)]) ?_ 1 _ rfl; (with_reducible repeat (first | refine blk_drewN ?_ _ | refine blk_drew ?_ | refine blk_alloc ?_ _)); refine blk_put (cs := #[.int .i64 0, .int .i64 0, .string (⟨#[]⟩ : ByteArray)]) ?_ 0 _ rfl; (with_reducible repeat (first | refine blk_drewN ?_ _ | refine blk_drew ?_ | refine blk_alloc ?_ _)); exact BK187.out) NB187_0.out (by simp)); have n2_ := Aside0.mk (KeepBut.trans (by repeat (first | (with_reducible first | exact HK.out | apply KeepBut.set_ | apply keep_drewN | apply keep_drew | apply keep_alloc | refine keep_far ?_ GW183.out _ | refine keep_far ?_ GW187.out _) | exact HK.out)) hk (.inl rfl)); have n3_ := Aside0.mk (hb); have n4_ := Aside0.mk (hi); clear BK183; clear BK187; clear HK; clear HB; clear HI0; have BK183 := n0_; have BK187 := n1_; have HK := n2_; have HB := n3_; have HI0 := n4_; clear n0_ n1_ n2_ n3_ n4_; (try clear hb); (try clear hb2); (try clear hk); (try clear hi); have hcz40_0 : w39.cell? ⟨gb187, 0, none⟩ = some (.int .i64 (wrap64 (bt t184 0))) := (blk_cell BK187.out 0).trans rfl; have hcz40_1 : w39.cell? ⟨gb187, 1, none⟩ = some (.int .i64 0) := (blk_cell BK187.out 1).trans rfl; have hcz40_2 : w39.cell? ⟨gb187, 2, none⟩ = some (.string (⟨#[]⟩ : ByteArray)) := (blk_cell BK187.out 2).trans rfl; have hfz40_0 := blk_frozen BK187.out 0; have hfz40_1 := blk_frozen BK187.out 1; have hfz40_2 := blk_frozen BK187.out 2; have hnb41 := NB183_0.out; have hnc41 := NB0_183.out; have hcz42_0 : w39.cell? ⟨gb183, 0, none⟩ = some (.int .i64 0) := (blk_cell BK183.out 0).trans rfl; have hcz42_1 : w39.cell? ⟨gb183, 1, none⟩ = some (.int .i64 0) := (blk_cell BK183.out 1).trans rfl; have hcz42_2 : w39.cell? ⟨gb183, 2, none⟩ = some (.string (⟨#[]⟩ : ByteArray)) := (blk_cell BK183.out 2).trans rfl; have hfz42_0 := blk_frozen BK183.out 0; have hfz42_1 := blk_frozen BK183.out 1; have hfz42_2 := blk_frozen BK183.out 2))
          refine bodyPost_ret (results_cell_row rfl _ _ gb183 43 #[.int .i64 (wrap64 (bt t184 0)), .int .i64 0, .string t194] (0, 0) _ rfl (by (with_reducible repeat (first | refine blk_drewN ?_ _ | refine blk_drew ?_ | refine blk_alloc ?_ _)); refine blk_put (cs := #[.int .i64 (wrap64 (bt t184 0)), .int .i64 0, .string (⟨#[]⟩ : ByteArray)]) ?_ 2 _ rfl; (with_reducible repeat (first | refine blk_drewN ?_ _ | refine blk_drew ?_ | refine blk_alloc ?_ _)); refine blk_put (cs := #[.int .i64 (wrap64 (bt t184 0)), .int .i64 0, .string (⟨#[]⟩ : ByteArray)]) ?_ 1 _ rfl; (with_reducible repeat (first | refine blk_drewN ?_ _ | refine blk_drew ?_ | refine blk_alloc ?_ _)); refine blk_put (cs := #[.int .i64 0, .int .i64 0, .string (⟨#[]⟩ : ByteArray)]) ?_ 0 _ rfl; (with_reducible repeat (first | refine blk_drewN ?_ _ | refine blk_drew ?_ | refine blk_alloc ?_ _)); refine blk_far ?_ NB183_187.out _; (with_reducible repeat (first | refine blk_drewN ?_ _ | refine blk_drew ?_ | refine blk_alloc ?_ _)); exact BK183.out) Tryd.underlying43 rfl (by kernel_rfl)) rfl ?_
          exact ⟨by first | rfl | (simp [errW_none, errW_some] <;> rfl) | (simp [*, errW_none, errW_some] <;> rfl), by repeat (first | (with_reducible first | exact HI0.out | apply IsS59.alloc | apply IsS59.drewN | apply IsS59.drew | apply IsS59.set_0 | apply IsS59.set_1 | refine IsS59.far ?_ NB0_183.out _ | refine IsS59.far ?_ NB0_187.out _) | exact HI0.out), by repeat (first | (with_reducible first | exact HB.out | apply below_alloc | apply pw_below_drewN | apply below_drew1 | refine below_set ?_ (IsS59.ge HI0.out) | refine below_set ?_ GE183.out | refine below_set ?_ GE187.out) | exact HB.out), by repeat (first | (with_reducible first | exact HK.out | apply KeepBut.set_ | apply keep_drewN | apply keep_drew | apply keep_alloc | refine keep_far ?_ GW183.out _ | refine keep_far ?_ GW187.out _) | exact HK.out)⟩
        · rw [if_neg c31] at H
          have c31b0 : ((wrap64 (bt t184 0)) == 3) = false := beq_eq_false_iff_ne.mpr c31
          have c31b1 : ((wrap64 (bt t184 0)) != 3) = true := bne_iff_ne.mpr c31
          simp only [Option.some.injEq, Prod.mk.injEq] at H
          obtain ⟨rfl, rfl, rfl, rfl, rfl⟩ := H
          go_enter Tryd.func32, Tryd.ntmps32
          go_wp2_with (first | ((with_reducible refine gate_dst (N := 2) rfl ?_); refine box_event ?hg (N := 2) ?hd (cs := #[.int .i64 0, .int .i64 0, .string (⟨#[]⟩ : ByteArray)]) (t := 43) ?hr ?_; (case hd => rfl); (case hg => rfl); (case hr => first | (go_simp; done) | (go_simp; rfl)); intro gb183 hg w43 hbox hb; have n0_ := Aside0.mk (IsS59.below (by repeat (first | (with_reducible first | exact HI0.out | apply IsS59.alloc | apply IsS59.drewN | apply IsS59.drew | apply IsS59.set_0 | apply IsS59.set_1) | exact HI0.out)) hb); have n1_ := Aside0.mk (KeepBut.trans (by repeat (first | (with_reducible first | exact HK.out | apply KeepBut.set_ | apply keep_drewN | apply keep_drew | apply keep_alloc) | exact HK.out)) (KeepBut.of_below hb g none) (.inl rfl)); have n2_ := Aside0.mk (below_step (by repeat (first | (with_reducible first | exact HB.out | apply below_alloc | apply pw_below_drewN | apply below_drew1 | refine below_set ?_ (IsS59.ge HI0.out)) | exact HB.out)) hb); have n3_ := Aside0.mk (hbox); have n4_ := Aside0.mk ((by rw [hg]; exact (keep_size (w := w) (g := g) (row := none) (by repeat (first | (with_reducible first | exact HK.out | apply KeepBut.set_ | apply keep_drewN | apply keep_drew | apply keep_alloc) | exact HK.out))) : w.heap.size ≤ gb183)); have n5_ := Aside0.mk ((Nat.le_trans HW0.out (by rw [hg]; exact (keep_size (w := w) (g := g) (row := none) (by repeat (first | (with_reducible first | exact HK.out | apply KeepBut.set_ | apply keep_drewN | apply keep_drew | apply keep_alloc) | exact HK.out))) : w.heap.size ≤ gb183) : w0.heap.size ≤ gb183)); have n6_ := Aside0.mk ((by rw [hg]; exact Nat.ne_of_lt (IsS59.lt (show IsS59 w0 _ g s0_0 s0_1 from by repeat (first | (with_reducible first | exact HI0.out | apply IsS59.alloc | apply IsS59.drewN | apply IsS59.drew | apply IsS59.set_0 | apply IsS59.set_1) | exact HI0.out))) : g ≠ gb183)); have n7_ := Aside0.mk ((by rw [hg]; exact Nat.ne_of_gt (IsS59.lt (show IsS59 w0 _ g s0_0 s0_1 from by repeat (first | (with_reducible first | exact HI0.out | apply IsS59.alloc | apply IsS59.drewN | apply IsS59.drew | apply IsS59.set_0 | apply IsS59.set_1) | exact HI0.out))) : gb183 ≠ g)); clear HI0; clear HK; clear HB; have HI0 := n0_; have HK := n1_; have HB := n2_; have BK183 := n3_; have GW183 := n4_; have GE183 := n5_; have NB0_183 := n6_; have NB183_0 := n7_; clear n0_ n1_ n2_ n3_ n4_ n5_ n6_ n7_; clear hb hbox hg) | ((with_reducible refine gate_callee (f := 41) rfl ?_); refine goesL_ (some 5) rfl rfl Tryd.func41 (by kernel_rfl) rfl #[.pointer (some ⟨g, 0, none⟩), .int .i64 1] rfl (by (try simp only [List.map_toArray, List.map_cons, List.map_nil]); first | done | rfl | (simp only [List.length_drop, List.length_take]; rfl)) ?_; (with_reducible refine (key_reader_take.calls g s0_0 s0_1 1 t184 t185 t186 w0 _ ?side1 ?side2 A2.out).mono ?_); (case side1 => repeat (first | (with_reducible first | exact HI0.out | apply IsS59.alloc | apply IsS59.drewN | apply IsS59.drew | apply IsS59.set_0 | apply IsS59.set_1 | refine IsS59.far ?_ NB0_183.out _) | exact HI0.out)); (case side2 => repeat (first | (with_reducible first | exact HB.out | apply below_alloc | apply pw_below_drewN | apply below_drew1 | refine below_set ?_ (IsS59.ge HI0.out) | refine below_set ?_ GE183.out) | exact HB.out)); rintro e w44 ⟨rfl, hi, hb, hk⟩; refine ⟨_, rfl, ?_⟩; have n0_ := Aside0.mk (KeepBut.blk hk (g' := gb183) (o := .cells #[.int .i64 0, .int .i64 0, .string (⟨#[]⟩ : ByteArray)] 43 (0, 0)) (by (with_reducible repeat (first | refine blk_drewN ?_ _ | refine blk_drew ?_ | refine blk_alloc ?_ _)); exact BK183.out) NB183_0.out (by simp)); have n1_ := Aside0.mk (KeepBut.trans (by repeat (first | (with_reducible first | exact HK.out | apply KeepBut.set_ | apply keep_drewN | apply keep_drew | apply keep_alloc | refine keep_far ?_ GW183.out _) | exact HK.out)) hk (.inl rfl)); have n2_ := Aside0.mk (hb); have n3_ := Aside0.mk (hi); clear BK183; clear HK; clear HB; clear HI0; have BK183 := n0_; have HK := n1_; have HB := n2_; have HI0 := n3_; clear n0_ n1_ n2_ n3_; (try clear hb); (try clear hb2); (try clear hk); (try clear hi); have p4 : 0 ≤ (0 : Int) := (by omega); have q4 : 0 < t184.size := (by have : (0 : Int) < (t184.size : Int) := of_decide_eq_true (by first | (with_reducible assumption) | assumption); omega); have hx4 : ∀ h : 0 < t184.size, ((t184[0]'h).toNat : Int) = bt t184 0 := bt_at t184 0; clear p4; have qi4 : (0 < (t184.size : Int)) = True := eq_true (of_decide_eq_true (by first | (with_reducible assumption) | assumption)); replace q4 := eq_true q4) | ((with_reducible refine gate_dst (N := 3) rfl ?_); refine box_event ?hg (N := 3) ?hd (cs := #[.int .i64 0, .int .i64 0, .string (⟨#[]⟩ : ByteArray)]) (t := 43) ?hr ?_; (case hd => rfl); (case hg => rfl); (case hr => first | (go_simp; done) | (go_simp; rfl)); intro gb187 hg w45 hbox hb; have n0_ := Aside0.mk (IsS59.below (by repeat (first | (with_reducible first | exact HI0.out | apply IsS59.alloc | apply IsS59.drewN | apply IsS59.drew | apply IsS59.set_0 | apply IsS59.set_1 | refine IsS59.far ?_ NB0_183.out _) | exact HI0.out)) hb); have n1_ := Aside0.mk (blk_below (g := gb183) (o := .cells #[.int .i64 0, .int .i64 0, .string (⟨#[]⟩ : ByteArray)] 43 (0, 0)) (by (with_reducible repeat (first | refine blk_drewN ?_ _ | refine blk_drew ?_ | refine blk_alloc ?_ _)); exact BK183.out) hb); have n2_ := Aside0.mk (KeepBut.trans (by repeat (first | (with_reducible first | exact HK.out | apply KeepBut.set_ | apply keep_drewN | apply keep_drew | apply keep_alloc | refine keep_far ?_ GW183.out _) | exact HK.out)) (KeepBut.of_below hb g none) (.inl rfl)); have n3_ := Aside0.mk (below_step (by repeat (first | (with_reducible first | exact HB.out | apply below_alloc | apply pw_below_drewN | apply below_drew1 | refine below_set ?_ (IsS59.ge HI0.out) | refine below_set ?_ GE183.out) | exact HB.out)) hb); have n4_ := Aside0.mk (hbox); have n5_ := Aside0.mk ((by rw [hg]; exact (keep_size (w := w) (g := g) (row := none) (by repeat (first | (with_reducible first | exact HK.out | apply KeepBut.set_ | apply keep_drewN | apply keep_drew | apply keep_alloc | refine keep_far ?_ GW183.out _) | exact HK.out))) : w.heap.size ≤ gb187)); have n6_ := Aside0.mk ((Nat.le_trans HW0.out (by rw [hg]; exact (keep_size (w := w) (g := g) (row := none) (by repeat (first | (with_reducible first | exact HK.out | apply KeepBut.set_ | apply keep_drewN | apply keep_drew | apply keep_alloc | refine keep_far ?_ GW183.out _) | exact HK.out))) : w.heap.size ≤ gb187) : w0.heap.size ≤ gb187)); have n7_ := Aside0.mk ((by rw [hg]; exact Nat.ne_of_lt (blk_lt (g := gb183) (o := .cells #[.int .i64 0, .int .i64 0, .string (⟨#[]⟩ : ByteArray)] 43 (0, 0)) (by (with_reducible repeat (first | refine blk_drewN ?_ _ | refine blk_drew ?_ | refine blk_alloc ?_ _)); exact BK183.out)) : gb183 ≠ gb187)); have n8_ := Aside0.mk ((by rw [hg]; exact Nat.ne_of_gt (blk_lt (g := gb183) (o := .cells #[.int .i64 0, .int .i64 0, .string (⟨#[]⟩ : ByteArray)] 43 (0, 0)) (by (with_reducible repeat (first | refine blk_drewN ?_ _ | refine blk_drew ?_ | refine blk_alloc ?_ _)); exact BK183.out)) : gb187 ≠ gb183)); have n9_ := Aside0.mk ((by rw [hg]; exact Nat.ne_of_lt (IsS59.lt (show IsS59 w0 _ g t185 t186 from by repeat (first | (with_reducible first | exact HI0.out | apply IsS59.alloc | apply IsS59.drewN | apply IsS59.drew | apply IsS59.set_0 | apply IsS59.set_1 | refine IsS59.far ?_ NB0_183.out _) | exact HI0.out))) : g ≠ gb187)); have n10_ := Aside0.mk ((by rw [hg]; exact Nat.ne_of_gt (IsS59.lt (show IsS59 w0 _ g t185 t186 from by repeat (first | (with_reducible first | exact HI0.out | apply IsS59.alloc | apply IsS59.drewN | apply IsS59.drew | apply IsS59.set_0 | apply IsS59.set_1 | refine IsS59.far ?_ NB0_183.out _) | exact HI0.out))) : gb187 ≠ g)); clear HI0; clear BK183; clear HK; clear HB; have HI0 := n0_; have BK183 := n1_; have HK := n2_; have HB := n3_; have BK187 := n4_; have GW187 := n5_; have GE187 := n6_; have NB183_187 := n7_; have NB187_183 := n8_; have NB0_187 := n9_; have NB187_0 := n10_; clear n0_ n1_ n2_ n3_ n4_ n5_ n6_ n7_ n8_ n9_ n10_; clear hb hbox hg; have hnb46 := NB187_183.out; have hnc46 := NB183_187.out; have hnb47 := NB187_0.out; have hnc47 := NB0_187.out; have hcz48_0 : w45.cell? ⟨gb187, 0, none⟩ = some (.int .i64 0) := (blk_cell BK187.out 0).trans rfl; have hcz48_1 : w45.cell? ⟨gb187, 1, none⟩ = some (.int .i64 0) := (blk_cell BK187.out 1).trans rfl; have hcz48_2 : w45.cell? ⟨gb187, 2, none⟩ = some (.string (⟨#[]⟩ : ByteArray)) := (blk_cell BK187.out 2).trans rfl; have hfz48_0 := blk_frozen BK187.out 0; have hfz48_1 := blk_frozen BK187.out 1; have hfz48_2 := blk_frozen BK187.out 2; have hnb49 := NB183_0.out; have hnc49 := NB0_183.out; have hcz50_0 : w45.cell? ⟨gb183, 0, none⟩ = some (.int .i64 0) := (blk_cell BK183.out 0).trans rfl; have hcz50_1 : w45.cell? ⟨gb183, 1, none⟩ = some (.int .i64 0) := (blk_cell BK183.out 1).trans rfl; have hcz50_2 : w45.cell? ⟨gb183, 2, none⟩ = some (.string (⟨#[]⟩ : ByteArray)) := (blk_cell BK183.out 2).trans rfl; have hfz50_0 := blk_frozen BK183.out 0; have hfz50_1 := blk_frozen BK183.out 1; have hfz50_2 := blk_frozen BK183.out 2))
          refine bodyPost_ret (results_cell_row rfl _ _ gb183 43 #[.int .i64 (wrap64 (bt t184 0)), .int .i64 0, .string (⟨#[]⟩ : ByteArray)] (0, 0) _ rfl (by (with_reducible repeat (first | refine blk_drewN ?_ _ | refine blk_drew ?_ | refine blk_alloc ?_ _)); refine blk_put (cs := #[.int .i64 (wrap64 (bt t184 0)), .int .i64 0, .string (⟨#[]⟩ : ByteArray)]) ?_ 2 _ rfl; (with_reducible repeat (first | refine blk_drewN ?_ _ | refine blk_drew ?_ | refine blk_alloc ?_ _)); refine blk_put (cs := #[.int .i64 (wrap64 (bt t184 0)), .int .i64 0, .string (⟨#[]⟩ : ByteArray)]) ?_ 1 _ rfl; (with_reducible repeat (first | refine blk_drewN ?_ _ | refine blk_drew ?_ | refine blk_alloc ?_ _)); refine blk_put (cs := #[.int .i64 0, .int .i64 0, .string (⟨#[]⟩ : ByteArray)]) ?_ 0 _ rfl; (with_reducible repeat (first | refine blk_drewN ?_ _ | refine blk_drew ?_ | refine blk_alloc ?_ _)); refine blk_far ?_ NB183_187.out _; (with_reducible repeat (first | refine blk_drewN ?_ _ | refine blk_drew ?_ | refine blk_alloc ?_ _)); refine blk_far ?_ NB183_187.out _; (with_reducible repeat (first | refine blk_drewN ?_ _ | refine blk_drew ?_ | refine blk_alloc ?_ _)); refine blk_far ?_ NB183_187.out _; (with_reducible repeat (first | refine blk_drewN ?_ _ | refine blk_drew ?_ | refine blk_alloc ?_ _)); exact BK183.out) Tryd.underlying43 rfl (by kernel_rfl)) rfl ?_
          exact ⟨by first | rfl | (simp [errW_none, errW_some] <;> rfl) | (simp [*, errW_none, errW_some] <;> rfl), by repeat (first | (with_reducible first | exact HI0.out | apply IsS59.alloc | apply IsS59.drewN | apply IsS59.drew | apply IsS59.set_0 | apply IsS59.set_1 | refine IsS59.far ?_ NB0_183.out _ | refine IsS59.far ?_ NB0_187.out _) | exact HI0.out), by repeat (first | (with_reducible first | exact HB.out | apply below_alloc | apply pw_below_drewN | apply below_drew1 | refine below_set ?_ (IsS59.ge HI0.out) | refine below_set ?_ GE183.out | refine below_set ?_ GE187.out) | exact HB.out), by repeat (first | (with_reducible first | exact HK.out | apply KeepBut.set_ | apply keep_drewN | apply keep_drew | apply keep_alloc | refine keep_far ?_ GW183.out _ | refine keep_far ?_ GW187.out _) | exact HK.out)⟩
  · rw [if_neg c3] at H
    exact absurd H (by simp)

end Go.Proofs.YtjcgbppicdccdaaDoor.Q
end
section
/- key.Decode (function 17): the row of a key. -/
namespace Go.Proofs.YtjcgbppicdccdaaDoor.Q
open Go.RowKit Go.Proofs.YtjcgbppicdccdaaDoorW.PrintWords Go.Proofs.YtjcgbppicdccdaaDoorW.PrintLast Go.Proofs.YtjcgbppicdccdaaDoorW.PrintMore
set_option linter.unusedVariables false
set_option linter.unusedSimpArgs false

/-- A value, what is left, was it bad. -/
def valueB (k : Int) (r : List UInt8) : S43 × List UInt8 × Bool :=
  if k = 1 then (if r.length < 8 then (⟨k, numOf (bA (List.replicate 8 0)), ⟨#[]⟩⟩, [], true) else (⟨k, numOf (bA (r.take 8)), ⟨#[]⟩⟩, r.drop 8, false))
  else if k = 2 then (match r with | [] => (⟨k, 0, ⟨#[]⟩⟩, [], true) | c :: r' => (⟨k, (c.toNat : Int), ⟨#[]⟩⟩, r', false))
  else if k = 3 then (⟨k, 0, bA (textOf r).1⟩, (textOf r).2.1, (textOf r).2.2)
  else (⟨k, 0, ⟨#[]⟩⟩, r, false)
def valueL : List UInt8 → S43 × List UInt8 × Bool
  | [] => (⟨0, 0, ⟨#[]⟩⟩, [], true)
  | c :: r => valueB (c.toNat : Int) r
def decGo : Nat → List UInt8 → Bool → List S43 → List S43 × Bool
  | 0, _, bad, out => (out, bad)
  | n + 1, rest, bad, out => if 0 < rest.length ∧ bad = false ∧ out.length ≤ 8 then decGo n (valueL rest).2.1 (valueL rest).2.2 (out ++ [(valueL rest).1]) else (out, bad)
def decL (s : List UInt8) : List S43 × Bool :=
  if (decGo 10 s false []).2 = true then ([], false) else if rightRow (decGo 10 s false []).1 = true then ((decGo 10 s false []).1, true) else ([], false)
def key_Decode.f (a0 : ByteArray) : Option ((List (S43)) × Bool) := if a0.size ≤ 1000000 then some (decL a0.data.toList) else none

theorem bt_cons (c : UInt8) (r : List UInt8) : bt (bA (c :: r)) 0 = (c.toNat : Int) := by
  unfold bt
  rw [dif_pos (by rw [bA_size]; simp)]
  rfl
theorem wrap_byte (c : UInt8) : wrap64 (c.toNat : Int) = (c.toNat : Int) := by
  have := c.toNat_lt
  unfold wrap64
  omega
theorem extract_all (s : List UInt8) (n : Nat) (h : n ≤ s.length) : key_reader_take.f (bA s) false n = some (bA (s.take n), bA (s.drop n), false) := by
  rw [take_le (bA s) false n (by rw [bA_size]; exact h), bA_take, bA_drop]
theorem take_short (s : List UInt8) (n : Nat) (h : s.length < n) (hn : n ≤ 1000) : key_reader_take.f (bA s) false n = some (bA (List.replicate n 0), bA [], true) := by
  unfold key_reader_take.f strings_Repeat.f
  rw [if_pos (by rw [bA_size]; omega), if_pos ⟨rfl, by omega, by omega⟩, Int.toNat_natCast]
  simp only [Option.bind_some]
  rfl
theorem vb1s {k : Int} {r : List UInt8} (h : k = 1) (h8 : r.length < 8) : valueB k r = (⟨k, numOf (bA (List.replicate 8 0)), ⟨#[]⟩⟩, [], true) := by unfold valueB; rw [if_pos h, if_pos h8]
theorem vb1 {k : Int} {r : List UInt8} (h : k = 1) (h8 : ¬ r.length < 8) : valueB k r = (⟨k, numOf (bA (r.take 8)), ⟨#[]⟩⟩, r.drop 8, false) := by unfold valueB; rw [if_pos h, if_neg h8]
theorem vb2n {k : Int} (h : k = 2) : valueB k [] = (⟨k, 0, ⟨#[]⟩⟩, [], true) := by unfold valueB; rw [if_neg (by omega), if_pos h]
theorem vb2 {k : Int} {d : UInt8} {r : List UInt8} (h : k = 2) : valueB k (d :: r) = (⟨k, (d.toNat : Int), ⟨#[]⟩⟩, r, false) := by unfold valueB; rw [if_neg (by omega), if_pos h]
theorem vb3 {k : Int} {r : List UInt8} (h : k = 3) : valueB k r = (⟨k, 0, bA (textOf r).1⟩, (textOf r).2.1, (textOf r).2.2) := by unfold valueB; rw [if_neg (by omega), if_neg (by omega), if_pos h]
theorem vb0 {k : Int} {r : List UInt8} (h1 : ¬ k = 1) (h2 : ¬ k = 2) (h3 : ¬ k = 3) : valueB k r = (⟨k, 0, ⟨#[]⟩⟩, r, false) := by unfold valueB; rw [if_neg h1, if_neg h2, if_neg h3]
/-- What one value's reading comes to, as the walked function tells it. -/
def tellV (v : S43 × List UInt8 × Bool) : Option (Int × Int × ByteArray × ByteArray × Bool) := some (v.1.f0, v.1.f1, v.1.f2, bA v.2.1, v.2.2)
theorem value_some (c : UInt8) (r : List UInt8) (h : r.length ≤ 1000000) : key_reader_value.f (bA (c :: r)) false = tellV (valueL (c :: r)) := by
  have h1 := extract_all (c :: r) 1 (by simp)
  have hb := bt_cons c []
  have hsz : (0 : Int) < ((bA [c]).size : Int) := by rw [bA_size]; simp
  unfold key_reader_value.f
  rw [show ((1 : Nat) : Int) = 1 from rfl] at h1
  rw [h1]
  rw [Option.bind_some]
  simp -implicitDefEqProofs only [List.take_succ_cons, List.take_zero, List.drop_succ_cons, List.drop_zero, hb, wrap_byte]
  rw [if_pos hsz]
  show _ = tellV (valueB (c.toNat : Int) r)
  by_cases k1 : (c.toNat : Int) = 1
  · rw [if_pos k1]
    unfold key_reader_num.f
    by_cases h8 : r.length < 8
    · have h2 := take_short r 8 h8 (by decide)
      rw [show ((8 : Nat) : Int) = 8 from rfl] at h2
      rw [vb1s k1 h8, h2]
      simp only [Option.bind_some]
      rw [if_pos (by rw [bA_size, List.length_replicate]; decide)]
      simp only [Option.bind_some, tellV]
    · have h2 := extract_all r 8 (by omega)
      rw [show ((8 : Nat) : Int) = 8 from rfl] at h2
      rw [vb1 k1 h8, h2]
      simp only [Option.bind_some]
      rw [if_pos (by rw [bA_size, List.length_take]; omega)]
      simp only [Option.bind_some, tellV]
  · rw [if_neg k1]
    by_cases k2 : (c.toNat : Int) = 2
    · rw [if_pos k2]
      cases r with
      | nil =>
        have h2 := take_short [] 1 (by decide) (by decide)
        rw [show ((1 : Nat) : Int) = 1 from rfl] at h2
        have hb0 := bt_cons 0 []
        have hw := wrap_byte 0
        rw [vb2n k2, h2]
        simp only [Option.bind_some]
        rw [show List.replicate 1 (0 : UInt8) = [0] from rfl, hb0, hw, if_pos (by rw [bA_size]; simp)]
        simp only [tellV]
        rfl
      | cons d r =>
        have h2 := extract_all (d :: r) 1 (by simp)
        rw [show ((1 : Nat) : Int) = 1 from rfl] at h2
        have hb0 := bt_cons d []
        rw [vb2 k2, h2]
        simp only [Option.bind_some, List.take_succ_cons, List.take_zero, List.drop_succ_cons, List.drop_zero, hb0, wrap_byte]
        rw [if_pos (by rw [bA_size]; simp)]
        simp only [tellV]
    · rw [if_neg k2]
      by_cases k3 : (c.toNat : Int) = 3
      · rw [if_pos k3, vb3 k3]
        unfold key_reader_text.f
        rw [if_neg (by simp), if_pos (by rw [bA_size]; omega), list_bA]
        simp only [Option.bind_some, tellV]
      · rw [if_neg k3, vb0 k1 k2 k3]
        simp only [tellV]

theorem textGo_len : ∀ (n : Nat) (rest acc : List UInt8), (textGo n rest acc).2.1.length ≤ rest.length
  | 0, _, _ => Nat.le_refl _
  | n + 1, rest, acc => by
    rw [textGo]
    split
    · exact Nat.le_refl _
    · split
      · simp
      · split
        · simp only [List.length_drop]; omega
        · split
          · have := textGo_len n ((rest.drop (Lib.indexByte rest 0).toNat).drop 2) (acc ++ rest.take (Lib.indexByte rest 0).toNat ++ [0])
            simp only [List.length_drop] at this
            omega
          · simp only [List.length_drop]; omega
theorem valueL_len (c : UInt8) (r : List UInt8) : (valueL (c :: r)).2.1.length ≤ r.length := by
  show (valueB (c.toNat : Int) r).2.1.length ≤ r.length
  unfold valueB
  split
  · split
    · simp
    · simp only [List.length_drop]; omega
  · split
    · cases r <;> simp
    · split
      · exact textGo_len _ _ _
      · exact Nat.le_refl _

/-- What holds at the head of Decode's loop. -/
def DecRel (w : World) (F : List S43 × Bool) (gq : Nat) (v5 : Value) (wx : World) : Prop :=
  ∃ (rest : List UInt8) (bad : Bool) (out : List S43), IsS59 w wx w.heap.size (bA rest) bad ∧ Kd.R k43 43 wx w.heap.size (fun k => k ≠ w.heap.size) v5 out ∧ Below w.heap.size w wx ∧ rest.length ≤ 1000000 ∧ out.length + gq = 10 ∧ 1 ≤ gq ∧ decGo gq rest bad out = F

set_option maxHeartbeats 8000000 in
set_option maxRecDepth 100000 in
theorem decode_any (a0 : ByteArray) (w : World) (hsz : a0.size ≤ 1000000) (D : List S43 × Bool) (hD : decL a0.data.toList = D) :
    Calls Tryd.prog 17 #[.string a0] w fun e w' => ∃ v0_ : Value, e = .returned (.tuple #[v0_, .bool D.2]) ∧ Kd.R k43 43 w' w.heap.size (fun _ => True) v0_ D.1 ∧ Below w.heap.size w w' := by
  have hu59 := Tryd.underlying59
  have hu43 := Tryd.underlying43
  obtain ⟨F, hF⟩ : ∃ F, decGo 10 a0.data.toList false [] = F := ⟨_, rfl⟩
  have HD := Aside0.mk (show D = if F.2 = true then ([], false) else if rightRow F.1 = true then (F.1, true) else ([], false) by rw [← hD, ← hF]; rfl)
  have hw1 := below_alloc (Below.refl w.heap.size w) (.cells #[.string a0, .bool false] 59)
  have HR0 := Aside0.mk (show DecRel w F 10 (.slice none 0 0) (w.alloc (.cells #[.string a0, .bool false] 59)) from
    ⟨a0.data.toList, false, [], by rw [bA_list]; exact IsS59.new w w a0 false (Below.refl _ _), Kd.R_nil _ _ _ _ _, hw1, by simpa using hsz, rfl, by decide, hF⟩)
  clear hD hF hw1
  go_enter Tryd.func17, Tryd.ntmps17
  go_wp2
  go_loopg [5] 10 (fun gq v5 wx => Aside0 (DecRel w F gq v5 wx))
  case atStart => exact HR0
  case round =>
    obtain ⟨rest, bad, out, hS, hR, hB, hlen, hog, hg1, hgo⟩ := hrel.out
    clear hrel HR0
    obtain ⟨gq, rfl⟩ : ∃ q, gk = q + 1 := ⟨gk - 1, by omega⟩
    obtain ⟨A, c, rfl, hoc, hC⟩ := Kd.R_reads hR
    have hc0 := cellS59_0 hS.1
    have hc1 := cellS59_1 hS.1
    have hsz0 := bA_size rest
    rw [decGo] at hgo
    have HS := Aside0.mk hS
    have HR := Aside0.mk hR
    have HB := Aside0.mk hB
    have HC := Aside0.mk hC
    have HSZ := Aside0.mk hsz0
    clear hS hR hB hC hsz0
    by_cases hgoes : 0 < rest.length ∧ bad = false ∧ out.length ≤ 8
    · rw [if_pos hgoes] at hgo
      obtain ⟨h1, rfl, h3⟩ := hgoes
      obtain ⟨b0, r0, rfl⟩ : ∃ b0 r0, rest = b0 :: r0 := by cases rest with | nil => simp at h1 | cons b0 r0 => exact ⟨b0, r0, rfl⟩
      have d1 : decide (0 < (bA (b0 :: r0)).size) = true := decide_eq_true (by rw [HSZ.out]; exact h1)
      have d1i : decide (0 < ((bA (b0 :: r0)).size : Int)) = true := decide_eq_true (by rw [HSZ.out]; omega)
      have d3 : decide (out.length ≤ 8) = true := decide_eq_true h3
      have d3i : decide ((out.length : Int) ≤ 8) = true := decide_eq_true (by omega)
      have hl0 : r0.length ≤ 1000000 := by rw [List.length_cons] at hlen; omega
      have HVL := Aside0.mk (valueL_len b0 r0)
      have HVS := Aside0.mk (value_some b0 r0 hl0)
      obtain ⟨V, hV⟩ : ∃ V, valueL (b0 :: r0) = V := ⟨_, rfl⟩
      rw [hV] at hgo HVL HVS
      have HGO := Aside0.mk hgo
      clear hgo hV h1 hlen
      go_wp2_with (first
        | (go_at_call 32; refine (key_reader_value.calls _ _ _ _ _ _ _ _ _ _ HS.out HB.out HVS.out).mono ?_; rintro e w3 ⟨rfl, hs3, hb3, hk3⟩; have HS3 := Aside0.mk hs3; have HB3 := Aside0.mk hb3; have HR3 := Aside0.mk (Kd.R_keep HR.out hk3 (fun _ hk => hk)); clear hs3 hb3 hk3)
        | ((with_reducible refine gate_builtin (b := .append) (xs := #[.tmp 30, .tmp 32]) rfl ?_); at_builtin; (refine Kd.R_append k43 (w0 := w) w.heap.size rfl (.tmp 30) (.tmp 32) 23 43 (.agg #[(.int .i64 0), (.int .i64 0), (.string ⟨#[]⟩)]) 32 rfl Tryd.underlying23 info43 rfl (by decide) (by omega) (.slice A out.length c) out V.1 [.int .i64 V.1.f0, .int .i64 V.1.f1, .string V.1.f2] (fun k => k ≠ w.heap.size) (fun _ => False) rfl ?aX ?aP (fun _ hk => hk.elim) ?aF ?aO ?aB ?aS ?aL ?_; (case aX => show Value.slice (some ⟨w3.heap.size + 1, 0, none⟩) 1 1 = _; simp); (case aP => exact k43_mkM _ _ _ V.1); (case aB => exact below_alloc HB3.out _); (case aF => exact (fun k hk => by have h1 := HS3.out.lt; simp at hk; omega)); (case aO => exact Kd.R_alloc HR3.out _); (case aS => exact (below_alloc HB3.out _).size); (case aL => omega); intro v4 w4 ho hb hg hat; have HR4 := Aside0.mk ho; have HB4 := Aside0.mk hb; have HS4 := Aside0.mk ((HS3.out.alloc _).grown hg (fun e => HR3.out.1 _ e.symm rfl)); clear ho hb hg hat)))
      have hvl : V.2.1.length ≤ 1000000 := by have := HVL.out; omega
      go_roundg gq
      case measure => omega
      case rel => exact ⟨V.2.1, V.2.2, out ++ [V.1], HS4.out, HR4.out, HB4.out, hvl, by rw [List.length_append, List.length_singleton]; omega, by omega, HGO.out⟩
    · rw [if_neg hgoes] at hgo
      subst hgo
      have hD1 := HD.out
      simp only at hD1
      have HRT := Aside0.mk (Kd.R_mono HR.out (ok' := fun _ => True) (fun _ _ => trivial))
      have HRV := Aside0.mk (show value_RightRow.f out = some (rightRow out) from rfl)
      clear hog HD hg1
      cases bad with
      | true =>
        rw [if_pos rfl] at hD1
        have HD1 := Aside0.mk hD1
        clear hD1 hgoes
        by_cases h1 : 0 < rest.length
        all_goals
          have d1 : decide (0 < (bA rest).size) = decide (0 < rest.length) := by rw [HSZ.out]
          have d1i : decide (0 < ((bA rest).size : Int)) = decide (0 < rest.length) := by rw [HSZ.out]; simp
          simp only [h1, decide_true, decide_false] at d1 d1i
          clear h1
          go_wp2
          go_ret2
          exact ⟨.slice none 0 0, by rw [HD1.out]; rfl, by rw [HD1.out]; exact Kd.R_nil _ _ _ _ _, HB.out⟩
      | false =>
        rw [if_neg (by simp)] at hD1
        have HD1 := Aside0.mk hD1
        clear hD1
        have d1e : decide (0 < (bA rest).size) = decide (0 < rest.length) := by rw [HSZ.out]
        have d1ie : decide (0 < ((bA rest).size : Int)) = decide (0 < rest.length) := by rw [HSZ.out]; simp
        have hx : (decide (0 < (bA rest).size) = false ∧ decide (0 < ((bA rest).size : Int)) = false) ∨ (decide (0 < (bA rest).size) = true ∧ decide (0 < ((bA rest).size : Int)) = true ∧ decide (out.length ≤ 8) = false ∧ decide ((out.length : Int) ≤ 8) = false) := by
          by_cases h1 : 0 < rest.length
          · have h8 : ¬ out.length ≤ 8 := fun h => hgoes ⟨h1, rfl, h⟩
            exact .inr ⟨by rw [d1e]; exact decide_eq_true h1, by rw [d1ie]; exact decide_eq_true h1, decide_eq_false h8, decide_eq_false (by omega)⟩
          · exact .inl ⟨by rw [d1e]; exact decide_eq_false h1, by rw [d1ie]; exact decide_eq_false h1⟩
        clear d1e d1ie hgoes
        by_cases hr : rightRow out = true
        · rw [hr] at HRV
          rw [if_pos hr] at HD1
          clear hr
          rcases hx with ⟨x1, x2⟩ | ⟨x1, x2, x3, x4⟩
          all_goals
            go_wp2_with (go_at_call 25; refine (value_RightRow.calls _ _ _ _ _ HC.out hoc HRV.out).mono ?_; rintro e w4 ⟨rfl, hb4⟩; have HB4 := Aside0.mk hb4; clear hb4)
            go_ret2
            exact ⟨_, by rw [HD1.out]; rfl, by rw [HD1.out]; exact Kd.R_below HRT.out HB4.out, below_step HB.out HB4.out⟩
        · rw [if_neg hr] at HD1
          rw [Bool.eq_false_iff.mpr hr] at HRV
          clear hr
          rcases hx with ⟨x1, x2⟩ | ⟨x1, x2, x3, x4⟩
          all_goals
            go_wp2_with (go_at_call 25; refine (value_RightRow.calls _ _ _ _ _ HC.out hoc HRV.out).mono ?_; rintro e w4 ⟨rfl, hb4⟩; have HB4 := Aside0.mk hb4; clear hb4)
            go_ret2
            exact ⟨.slice none 0 0, by rw [HD1.out]; rfl, by rw [HD1.out]; exact Kd.R_nil _ _ _ _ _, below_step HB.out HB4.out⟩

theorem key_Decode.calls (a0 : ByteArray) (r1 : List (S43)) (r2 : Bool) (w : World) (h : key_Decode.f a0 = some (r1, r2)) :
    Calls Tryd.prog 17 #[.string a0] w fun e w' => ∃ v0_ : Value, e = .returned (.tuple #[v0_, .bool r2]) ∧ Kd.R k43 43 w' w.heap.size (fun _ => True) v0_ r1 ∧ Below w.heap.size w w' := by
  unfold key_Decode.f at h
  split at h
  · rename_i hsz
    have := decode_any a0 w hsz _ (Option.some.inj h)
    exact this
  · cases h
end Go.Proofs.YtjcgbppicdccdaaDoor.Q
end
section
/- Plain law: a key is decoded to its row; what is decoded is encoded to the same bytes. -/
namespace Go.Proofs.YtjcgbppicdccdaaDoor.Q
open Go.RowKit Go.Proofs.YtjcgbppicdccdaaDoorW.PrintWords Go.Proofs.YtjcgbppicdccdaaDoorW.PrintLast Go.Proofs.YtjcgbppicdccdaaDoorW.PrintMore
set_option linter.unusedVariables false

/-! ### numbers -/
def foldN : List UInt8 → Nat → Nat
  | [], u => u
  | c :: l, u => foldN l (u * 256 + c.toNat)
theorem wrap_u64 (z : Nat) (h : z < 18446744073709551616) : IntKind.u64.wrap (z : Int) = (z : Int) := by
  simp [IntKind.wrap, IntKind.bits, IntKind.signed]
  omega
theorem foldB_N : ∀ (l : List UInt8) (u : Nat), (u + 1) * 256 ^ l.length ≤ 18446744073709551616 → foldB l (u : Int) = (foldN l u : Int)
  | [], u, _ => rfl
  | c :: l, u, h => by
    have hc := c.toNat_lt
    have hp : 0 < 256 ^ l.length := Nat.pow_pos (by decide)
    have h2 : (u + 1) * 256 * 256 ^ l.length ≤ 18446744073709551616 := by
      rw [List.length_cons, Nat.pow_succ] at h
      rw [Nat.mul_assoc, Nat.mul_comm 256]
      exact h
    have h3 : (u + 1) * 256 ≤ 18446744073709551616 := Nat.le_trans (Nat.le_mul_of_pos_right _ hp) h2
    have e1 : IntKind.u64.wrap ((u : Int) * 256) = ((u * 256 : Nat) : Int) := by
      have := wrap_u64 (u * 256) (by omega)
      rw [← this]
      rfl
    have e2 : IntKind.u64.wrap (c.toNat : Int) = (c.toNat : Int) := wrap_u64 _ (by omega)
    have e3 : Go.bits .or .u64 ((u * 256 : Nat) : Int) (c.toNat : Int) = ((u * 256 + c.toNat : Nat) : Int) := by
      have := bits_join .u64 64 (by decide) (fun n h0 h1 => by
        obtain ⟨m, rfl⟩ := Int.eq_ofNat_of_zero_le h0
        exact wrap_u64 m (by omega)) 8 ((u * 256 : Nat) : Int) (c.toNat : Int) (by omega) (by omega) (by omega) (by omega) (by omega) (by omega)
      rw [this]
      omega
    rw [foldB, e1, e2, e3, foldN]
    refine foldB_N l (u * 256 + c.toNat) ?_
    refine Nat.le_trans (Nat.mul_le_mul_right _ ?_) h2
    omega
theorem foldN_lt : ∀ (l : List UInt8) (u : Nat), foldN l u < (u + 1) * 256 ^ l.length
  | [], u => by simp [foldN]
  | c :: l, u => by
    have hc := c.toNat_lt
    have ih := foldN_lt l (u * 256 + c.toNat)
    rw [foldN, List.length_cons, Nat.pow_succ, Nat.mul_comm (256 ^ l.length), ← Nat.mul_assoc]
    refine Nat.lt_of_lt_of_le ih (Nat.mul_le_mul_right _ ?_)
    omega
theorem foldN_split : ∀ (l : List UInt8) (u : Nat), foldN l u = u * 256 ^ l.length + foldN l 0
  | [], u => by simp [foldN]
  | c :: l, u => by
    rw [foldN, foldN, foldN_split l (u * 256 + c.toNat), foldN_split l (0 * 256 + c.toNat), List.length_cons, Nat.pow_succ]
    rw [Nat.add_mul, Nat.zero_mul, Nat.zero_add, Nat.mul_assoc u, Nat.mul_comm 256, Nat.add_assoc]
theorem be_foldN : ∀ (l : List UInt8), be l.length (foldN l 0) = l
  | [] => rfl
  | c :: l => by
    have hp : 0 < 256 ^ l.length := Nat.pow_pos (by decide)
    have hc := c.toNat_lt
    have e := foldN_split l (0 * 256 + c.toNat)
    have hl := foldN_lt l 0
    rw [Nat.zero_add, Nat.one_mul] at hl
    rw [foldN, e, List.length_cons, be, Nat.zero_mul, Nat.zero_add]
    have d1 : (c.toNat * 256 ^ l.length + foldN l 0) / 256 ^ l.length = c.toNat := by
      rw [Nat.mul_comm, Nat.mul_add_div hp, Nat.div_eq_of_lt hl, Nat.add_zero]
    have d2 : (c.toNat * 256 ^ l.length + foldN l 0) % 256 ^ l.length = foldN l 0 := by
      rw [Nat.mul_comm, Nat.mul_add_mod, Nat.mod_eq_of_lt hl]
    rw [d1, d2, be_foldN l]
    congr 1
    apply UInt8.toNat_inj.1
    rw [u8_nat _ (Nat.mod_lt _ (by decide)), Nat.mod_eq_of_lt hc]
theorem foldN_be : ∀ (k u : Nat), u < 256 ^ k → foldN (be k u) 0 = u
  | 0, u, h => by simp at h; simp [be, foldN, h]
  | k + 1, u, h => by
    have hp : 0 < 256 ^ k := Nat.pow_pos (by decide)
    have hu' : u / 256 ^ k < 256 := by rw [Nat.div_lt_iff_lt_mul hp]; rw [Nat.pow_succ] at h; omega
    rw [be, foldN, foldN_split, foldN_be k _ (Nat.mod_lt _ hp), be_len, u8_nat _ (Nat.mod_lt _ (by decide)), Nat.mod_eq_of_lt hu', Nat.zero_mul, Nat.zero_add, Nat.mul_comm]
    exact Nat.div_add_mod u (256 ^ k)
theorem xor_turn (u : Nat) (h : u < 18446744073709551616) : wrap64 (Go.bits .xor .u64 (u : Int) 9223372036854775808) = (u : Int) - 9223372036854775808 := by
  have hx : Go.bits .xor .u64 (u : Int) 9223372036854775808 = ((u ^^^ 2 ^ 63 : Nat) : Int) := by
    have e : (9223372036854775808 : Int) = ((2 ^ 63 : Nat) : Int) := by decide
    rw [e]
    simp only [Go.bits, BitVec.ofInt_natCast, BitVec.toNat_xor, BitVec.toNat_ofNat]
    have h64 : IntKind.u64.bits = 64 := rfl
    have ha' : u < 2 ^ 64 := by omega
    rw [h64, Nat.mod_eq_of_lt ha', Nat.mod_eq_of_lt (by decide : (2 ^ 63 : Nat) < 2 ^ 64)]
    have hlt : u ^^^ 2 ^ 63 < 2 ^ 64 := Nat.xor_lt_two_pow ha' (by decide)
    exact wrap_u64 _ (by omega)
  rw [hx]
  have hd : (u ^^^ 2 ^ 63) / 2 ^ 63 = u / 2 ^ 63 ^^^ 1 := by rw [Nat.xor_div_two_pow]
  have hm : (u ^^^ 2 ^ 63) % 2 ^ 63 = u % 2 ^ 63 := by rw [Nat.xor_mod_two_pow]; simp
  have hq : u / 2 ^ 63 = 0 ∨ u / 2 ^ 63 = 1 := by omega
  unfold wrap64
  rcases hq with hq | hq
  · rw [hq] at hd
    have : (0 ^^^ 1 : Nat) = 1 := rfl
    rw [this] at hd
    omega
  · rw [hq] at hd
    have : (1 ^^^ 1 : Nat) = 0 := rfl
    rw [this] at hd
    omega
theorem numOf_eq (l : List UInt8) (h : l.length = 8) : numOf (bA l) = (foldN l 0 : Int) - 9223372036854775808 ∧ foldN l 0 < 18446744073709551616 := by
  have hl := foldN_lt l 0
  rw [h] at hl
  have hl' : foldN l 0 < 18446744073709551616 := by simpa using hl
  refine ⟨?_, hl'⟩
  unfold numOf
  rw [list_bA]
  have := foldB_N l 0 (by rw [h]; decide)
  rw [show ((0 : Nat) : Int) = 0 from rfl] at this
  rw [this, xor_turn _ hl']
theorem numL_numOf (l : List UInt8) (h : l.length = 8) : numL (numOf (bA l)) = l := by
  obtain ⟨e, hl⟩ := numOf_eq l h
  rw [e, numL_be _ (by omega) (by omega), show ((foldN l 0 : Int) - 9223372036854775808 + 9223372036854775808).toNat = foldN l 0 by omega]
  have := be_foldN l
  rw [h] at this
  exact this
theorem numOf_numL (n : Int) (h0 : -9223372036854775808 ≤ n) (h1 : n ≤ 9223372036854775807) : numOf (bA (numL n)) = n := by
  have hb := numL_be n h0 h1
  have hl : (numL n).length = 8 := by rw [hb, be_len]
  obtain ⟨e, _⟩ := numOf_eq (numL n) hl
  rw [e, hb, foldN_be 8 _ (by simp only [Nat.reducePow]; omega)]
  omega
theorem numL_len (n : Int) : (numL n).length = 8 := by simp [numL, numBytes]
end Go.Proofs.YtjcgbppicdccdaaDoor.Q
end
