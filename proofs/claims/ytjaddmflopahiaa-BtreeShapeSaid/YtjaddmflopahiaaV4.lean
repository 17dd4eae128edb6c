/- Packed by shake.py: YtjaddmflopahiaaC3 YtjaddmflopahiaaC4 YtjaddmflopahiaaC5 -/
import Derived.Test.YtjaddmflopahiaaV3
section
namespace Go.Proofs.Bt
open Go Go.RowKit Go.Proofs.Ytjaddmflopahiaa.Q Go.Proofs.YtjaddmflopahiaaW.PrintWords Go.Proofs.YtjaddmflopahiaaW.PrintLast Go.Proofs.YtjaddmflopahiaaW.PrintMore
set_option linter.unusedVariables false
set_option linter.unusedSimpArgs false
set_option maxRecDepth 100000
set_option maxHeartbeats 4000000 in
theorem join_leaf (w : World) (p a b : Nat) (K C Ka Kb : Value) (ks : List S29) (ps : List Value) (i : Nat) (ka kb : List S29) (F : Nat → Prop) (hs : St w F w (par3 p K C ks ps a Ka (.slice none 0 0) ka [] b Kb (.slice none 0 0) kb []))
    (hi : i + 1 < ps.length) (hpa : ps[i]? = some (.pointer (some ⟨a, 0, none⟩))) (hpb : ps[i + 1]? = some (.pointer (some ⟨b, 0, none⟩))) (hps : ps.length < 1000) (hk : i < ks.length) (hks : ks.length < 1000) (hka : (ka).length < 1000) (hkb : (kb).length < 1000) (hpal : ([] : List Value).length < 1000) (hpbl : ([] : List Value).length < 1000) (hb0 : 0 < kb.length) :
    Calls Try.prog 64 #[.pointer (some ⟨p, 0, none⟩), .int .i64 i] w (JoinPost w F p (delAt ks i) (delAt ps (i + 1)) a (ka ++ kb) [] true) := by
  have hu29 := Try.underlying29
  have hu62 := Try.underlying62
  obtain ⟨gc, capC, rfl, hcapC⟩ := rowP_form (hs.rowP 2 rfl) (by omega)
  obtain ⟨gk, capK, rfl, hcapK⟩ := (hs.rowE 1 rfl).formS (by omega)
  have HPA := Aside0.mk hpa
  have HPB := Aside0.mk hpb
  obtain ⟨n, hn⟩ : ∃ n, ps.length = n := ⟨_, rfl⟩
  obtain ⟨nk, hnk⟩ : ∃ n, ks.length = n := ⟨_, rfl⟩
  rw [hn, hnk] at hs
  rw [hn] at hi hps hcapC
  rw [hnk] at hk hks hcapK
  have HN := Aside0.mk hn
  have HNK := Aside0.mk hnk
  obtain ⟨R, hR⟩ : ∃ R, (JoinPost w F p (delAt ks i) (delAt ps (i + 1)) a (ka ++ kb) [] true) = R := ⟨_, rfl⟩
  have HR := Aside0.mk hR
  try rw [hn, hnk]
  show Calls _ _ _ _ (JoinPost w F p (delAt ks i) (delAt ps (i + 1)) a (ka ++ kb) [] true)
  rw [hR]
  clear hR
  have HS := Aside0.mk hs
  have hi0 : (0 : Int) ≤ (i : Int) := by omega
  have hi1 : (i : Int) < (n : Int) := by omega
  have hi2 : (0 : Int) ≤ (i : Int) + 1 := by omega
  have hi3 : (i : Int) + 1 < (n : Int) := by omega
  have hik : (i : Int) < (nk : Int) := by omega
  have hw1 : IntKind.i64.wrap ((i : Int) + 1) = (i : Int) + 1 := by rw [IntKind.wrap_i64]; omega
  have htn : ((i : Int) + 1).toNat = i + 1 := by omega
  clear hs hpa hpb hn hnk
  go_enter Try.func64, Try.ntmps64
  go_wp2
  refine start_ (n := 17) (S := fun w' => w'.cell? ⟨p, 1, none⟩ = some (.slice (some ⟨gc, 0, none⟩) n capC) ∧ w'.cell? ⟨gc, i, none⟩ = some (.pointer (some ⟨a, 0, none⟩)) ∧ w'.cell? ⟨gc, i + 1, none⟩ = some (.pointer (some ⟨b, 0, none⟩))) (ds := []) #[false, false, false, false, false, false, false, false, false, false, false, false, false, false, false, false, false] (by kernel_rfl) rfl rfl ⟨(HS.out.node 0 rfl).c1, (HS.out.rowP 2 rfl).cell (by rw [← HN.out]) i _ HPA.out, (HS.out.rowP 2 rfl).cell (by rw [← HN.out]) (i + 1) _ HPB.out⟩ (fun hHeld => ?_)
  have HS1 := Aside0.mk (HS.out.drew)
  clear HS
  generalize w.drew = w1 at HS1 hHeld  ⊢
  refine pure_ (i := 0) (N := (some 6)) (v := ?_) (a' := ?_) #[true, false, false, false, false, false, false, false, false, false, false, false, false, false, false, false, false] rfl rfl (by kernel_rfl) (fun _ _ _ h => h) (Or.inl ⟨by rfl, ?_⟩) ?_ ?_
  rotate_left
  · intro w'
    go_simp
    with_reducible rfl
  rotate_left
  · simp only [Act.put, List.setIfInBounds_toArray, List.set_cons_zero, List.set_cons_succ, i64_w, i32_w]
    rfl
  refine pure_ (i := 1) (N := (some 7)) (v := ?_) (a' := ?_) #[true, true, false, false, false, false, false, false, false, false, false, false, false, false, false, false, false] rfl rfl (by kernel_rfl) (fun _ _ _ h => h) (Or.inl ⟨by rfl, ?_⟩) ?_ ?_
  rotate_left
  · intro w'
    go_simp
    with_reducible rfl
  rotate_left
  · simp only [Act.put, List.setIfInBounds_toArray, List.set_cons_zero, List.set_cons_succ, i64_w, i32_w]
    rfl
  refine pure_ (i := 2) (N := (some 8)) (v := ?_) (a' := ?_) #[true, true, true, false, false, false, false, false, false, false, false, false, false, false, false, false, false] rfl rfl (by kernel_rfl) (fun _ _ _ h => h) (Or.inl ⟨by rfl, ?_⟩) ?_ ?_
  rotate_left
  · intro w'
    go_simp
    with_reducible rfl
  rotate_left
  · simp only [Act.put, List.setIfInBounds_toArray, List.set_cons_zero, List.set_cons_succ, i64_w, i32_w]
    rfl
  refine pure_ (i := 4) (N := (some 10)) (v := ?_) (a' := ?_) #[true, true, true, false, true, false, false, false, false, false, false, false, false, false, false, false, false] rfl rfl (by kernel_rfl) (fun _ _ _ h => h) (Or.inl ⟨by rfl, ?_⟩) ?_ ?_
  rotate_left
  · intro w'
    go_simp
    with_reducible rfl
  rotate_left
  · simp only [Act.put, List.setIfInBounds_toArray, List.set_cons_zero, List.set_cons_succ, i64_w, i32_w]
    rfl
  refine pure_ (i := 7) (N := (some 13)) (v := ?_) (a' := ?_) #[true, true, true, false, true, false, false, true, false, false, false, false, false, false, false, false, false] rfl rfl (by kernel_rfl) (fun _ _ _ h => h) (Or.inl ⟨by rfl, ?_⟩) ?_ ?_
  rotate_left
  · intro w'
    go_simp
    with_reducible rfl
  rotate_left
  · simp only [Act.put, List.setIfInBounds_toArray, List.set_cons_zero, List.set_cons_succ, i64_w, i32_w]
    rfl
  refine pure_ (i := 8) (N := (some 14)) (v := ?_) (a' := ?_) #[true, true, true, false, true, false, false, true, true, false, false, false, false, false, false, false, false] rfl rfl (by kernel_rfl) (fun _ _ _ h => h) (Or.inl ⟨by rfl, ?_⟩) ?_ ?_
  rotate_left
  · intro w'
    go_simp
    with_reducible rfl
  rotate_left
  · simp only [Act.put, List.setIfInBounds_toArray, List.set_cons_zero, List.set_cons_succ, i64_w, i32_w]
    rfl
  refine pure_ (i := 9) (N := (some 15)) (v := ?_) (a' := ?_) #[true, true, true, false, true, false, false, true, true, true, false, false, false, false, false, false, false] rfl rfl (by kernel_rfl) (fun _ _ _ h => h) (Or.inl ⟨by rfl, ?_⟩) ?_ ?_
  rotate_left
  · intro w'
    go_simp
    with_reducible rfl
  rotate_left
  · simp only [Act.put, List.setIfInBounds_toArray, List.set_cons_zero, List.set_cons_succ, i64_w, i32_w]
    rfl
  refine pure_ (i := 11) (N := (some 17)) (v := ?_) (a' := ?_) #[true, true, true, false, true, false, false, true, true, true, false, true, false, false, false, false, false] rfl rfl (by kernel_rfl) (fun _ _ _ h => h) (Or.inl ⟨by rfl, ?_⟩) ?_ ?_
  rotate_left
  · intro w'
    go_simp
    with_reducible rfl
  rotate_left
  · simp only [Act.put, List.setIfInBounds_toArray, List.set_cons_zero, List.set_cons_succ, i64_w, i32_w]
    rfl
  refine pure_ (i := 12) (N := (some 18)) (v := ?_) (a' := ?_) #[true, true, true, false, true, false, false, true, true, true, false, true, true, false, false, false, false] rfl rfl (by kernel_rfl) (fun _ _ _ h => h) (Or.inl ⟨by rfl, ?_⟩) ?_ ?_
  rotate_left
  · intro w'
    go_simp
    with_reducible rfl
  rotate_left
  · simp only [Act.put, List.setIfInBounds_toArray, List.set_cons_zero, List.set_cons_succ, i64_w, i32_w]
    rfl
  refine take_ (i := 3) (N := (some 9)) (v := ?_) (a' := ?_) #[true, true, true, true, true, false, false, true, true, true, false, true, true, false, false, false, false] rfl rfl (by kernel_rfl) (fun _ _ _ h => h) (Or.inl ⟨by rfl, ?_⟩) hHeld ?_ ?_
  rotate_left
  · rintro w' ⟨s0, s1, s2⟩
    go_simp
    with_reducible rfl
  rotate_left
  · simp only [Act.put, List.setIfInBounds_toArray, List.set_cons_zero, List.set_cons_succ, i64_w, i32_w]
    rfl
  refine pure_ (i := 5) (N := (some 11)) (v := ?_) (a' := ?_) #[true, true, true, true, true, true, false, true, true, true, false, true, true, false, false, false, false] rfl rfl (by kernel_rfl) (fun _ _ _ h => h) (Or.inl ⟨by rfl, ?_⟩) ?_ ?_
  rotate_left
  · intro w'
    go_simp
    with_reducible rfl
  rotate_left
  · simp only [Act.put, List.setIfInBounds_toArray, List.set_cons_zero, List.set_cons_succ, i64_w, i32_w]
    rfl
  refine take_ (i := 6) (N := (some 12)) (v := ?_) (a' := ?_) #[true, true, true, true, true, true, true, true, true, true, false, true, true, false, false, false, false] rfl rfl (by kernel_rfl) (fun _ _ _ h => h) (Or.inl ⟨by rfl, ?_⟩) hHeld ?_ ?_
  rotate_left
  · rintro w' ⟨s0, s1, s2⟩
    go_simp
    with_reducible rfl
  rotate_left
  · simp only [Act.put, List.setIfInBounds_toArray, List.set_cons_zero, List.set_cons_succ, i64_w, i32_w]
    rfl
  refine pure_ (i := 15) (N := (some 4)) (v := ?_) (a' := ?_) #[true, true, true, true, true, true, true, true, true, true, false, true, true, false, false, true, false] rfl rfl (by kernel_rfl) (fun _ _ _ h => h) (Or.inl ⟨by rfl, ?_⟩) ?_ ?_
  rotate_left
  · intro w'
    go_simp
    with_reducible rfl
  rotate_left
  · simp only [Act.put, List.setIfInBounds_toArray, List.set_cons_zero, List.set_cons_succ, i64_w, i32_w]
    rfl
  refine take_ (i := 10) (N := (some 16)) (v := ?_) (a' := ?_) #[true, true, true, true, true, true, true, true, true, true, true, true, true, false, false, true, false] rfl rfl (by kernel_rfl) (fun _ _ _ h => h) (Or.inl ⟨by rfl, ?_⟩) hHeld ?_ ?_
  rotate_left
  · rintro w' ⟨s0, s1, s2⟩
    go_simp
    with_reducible rfl
  rotate_left
  · simp only [Act.put, List.setIfInBounds_toArray, List.set_cons_zero, List.set_cons_succ, i64_w, i32_w]
    rfl
  refine pure_ (i := 13) (N := (some 19)) (v := ?_) (a' := ?_) #[true, true, true, true, true, true, true, true, true, true, true, true, true, true, false, true, false] rfl rfl (by kernel_rfl) (fun _ _ _ h => h) (Or.inl ⟨by rfl, ?_⟩) ?_ ?_
  rotate_left
  · intro w'
    go_simp
    with_reducible rfl
  rotate_left
  · simp only [Act.put, List.setIfInBounds_toArray, List.set_cons_zero, List.set_cons_succ, i64_w, i32_w]
    rfl
  refine take_ (i := 14) (N := (some 20)) (v := ?_) (a' := ?_) #[true, true, true, true, true, true, true, true, true, true, true, true, true, true, true, true, false] rfl rfl (by kernel_rfl) (fun _ _ _ h => h) (Or.inl ⟨by rfl, ?_⟩) hHeld ?_ ?_
  rotate_left
  · rintro w' ⟨s0, s1, s2⟩
    go_simp
    with_reducible rfl
  rotate_left
  · simp only [Act.put, List.setIfInBounds_toArray, List.set_cons_zero, List.set_cons_succ, i64_w, i32_w]
    rfl
  refine pure_ (i := 16) (N := (some 5)) (v := ?_) (a' := ?_) #[true, true, true, true, true, true, true, true, true, true, true, true, true, true, true, true, true] rfl rfl (by kernel_rfl) (fun _ _ _ h => h) (Or.inl ⟨by rfl, ?_⟩) ?_ ?_
  rotate_left
  · intro w'
    go_simp
    with_reducible rfl
  rotate_left
  · simp only [Act.put, List.setIfInBounds_toArray, List.set_cons_zero, List.set_cons_succ, i64_w, i32_w]
    rfl
  refine done_ (by kernel_rfl) ?_
  go_wp2_with (first
    | (go_at_call 30; refine (leaf_calls _ a Ka none 0 0 (HS1.out.node 3 rfl)).mono ?_; rintro E w1 ⟨rfl, rfl⟩))
  refine start_ (n := 13) (S := fun w' => w'.cell? ⟨a, 0, none⟩ = some (Ka) ∧ w'.cell? ⟨b, 0, none⟩ = some (Kb)) (ds := [12]) #[false, false, false, false, false, false, false, false, false, false, false, false, false] (by kernel_rfl) rfl rfl ⟨(HS1.out.node 3 rfl).c0, (HS1.out.node 6 rfl).c0⟩ (fun hHeld => ?_)
  have HS2 := Aside0.mk (HS1.out.drew)
  clear HS1
  generalize w1.drew = w2 at HS2 hHeld  ⊢
  refine pure_ (i := 0) (N := (some 40)) (v := ?_) (a' := ?_) #[true, false, false, false, false, false, false, false, false, false, false, false, false] rfl rfl (by kernel_rfl) (fun _ _ _ h => h) (Or.inl ⟨by rfl, ?_⟩) ?_ ?_
  rotate_left
  · intro w'
    go_simp
    with_reducible rfl
  rotate_left
  · simp only [Act.put, List.setIfInBounds_toArray, List.set_cons_zero, List.set_cons_succ, i64_w, i32_w]
    rfl
  refine pure_ (i := 1) (N := (some 41)) (v := ?_) (a' := ?_) #[true, true, false, false, false, false, false, false, false, false, false, false, false] rfl rfl (by kernel_rfl) (fun _ _ _ h => h) (Or.inl ⟨by rfl, ?_⟩) ?_ ?_
  rotate_left
  · intro w'
    go_simp
    with_reducible rfl
  rotate_left
  · simp only [Act.put, List.setIfInBounds_toArray, List.set_cons_zero, List.set_cons_succ, i64_w, i32_w]
    rfl
  refine pure_ (i := 2) (N := (some 42)) (v := ?_) (a' := ?_) #[true, true, true, false, false, false, false, false, false, false, false, false, false] rfl rfl (by kernel_rfl) (fun _ _ _ h => h) (Or.inl ⟨by rfl, ?_⟩) ?_ ?_
  rotate_left
  · intro w'
    go_simp
    with_reducible rfl
  rotate_left
  · simp only [Act.put, List.setIfInBounds_toArray, List.set_cons_zero, List.set_cons_succ, i64_w, i32_w]
    rfl
  refine pure_ (i := 3) (N := (some 43)) (v := ?_) (a' := ?_) #[true, true, true, true, false, false, false, false, false, false, false, false, false] rfl rfl (by kernel_rfl) (fun _ _ _ h => h) (Or.inl ⟨by rfl, ?_⟩) ?_ ?_
  rotate_left
  · intro w'
    go_simp
    with_reducible rfl
  rotate_left
  · simp only [Act.put, List.setIfInBounds_toArray, List.set_cons_zero, List.set_cons_succ, i64_w, i32_w]
    rfl
  refine pure_ (i := 5) (N := (some 45)) (v := ?_) (a' := ?_) #[true, true, true, true, false, true, false, false, false, false, false, false, false] rfl rfl (by kernel_rfl) (fun _ _ _ h => h) (Or.inl ⟨by rfl, ?_⟩) ?_ ?_
  rotate_left
  · intro w'
    go_simp
    with_reducible rfl
  rotate_left
  · simp only [Act.put, List.setIfInBounds_toArray, List.set_cons_zero, List.set_cons_succ, i64_w, i32_w]
    rfl
  refine pure_ (i := 6) (N := (some 46)) (v := ?_) (a' := ?_) #[true, true, true, true, false, true, true, false, false, false, false, false, false] rfl rfl (by kernel_rfl) (fun _ _ _ h => h) (Or.inl ⟨by rfl, ?_⟩) ?_ ?_
  rotate_left
  · intro w'
    go_simp
    with_reducible rfl
  rotate_left
  · simp only [Act.put, List.setIfInBounds_toArray, List.set_cons_zero, List.set_cons_succ, i64_w, i32_w]
    rfl
  refine pure_ (i := 7) (N := (some 47)) (v := ?_) (a' := ?_) #[true, true, true, true, false, true, true, true, false, false, false, false, false] rfl rfl (by kernel_rfl) (fun _ _ _ h => h) (Or.inl ⟨by rfl, ?_⟩) ?_ ?_
  rotate_left
  · intro w'
    go_simp
    with_reducible rfl
  rotate_left
  · simp only [Act.put, List.setIfInBounds_toArray, List.set_cons_zero, List.set_cons_succ, i64_w, i32_w]
    rfl
  refine take_ (i := 4) (N := (some 44)) (v := ?_) (a' := ?_) #[true, true, true, true, true, true, true, true, false, false, false, false, false] rfl rfl (by kernel_rfl) (fun _ _ _ h => h) (Or.inl ⟨by rfl, ?_⟩) hHeld ?_ ?_
  rotate_left
  · rintro w' ⟨s0, s1⟩
    go_simp
    with_reducible rfl
  rotate_left
  · simp only [Act.put, List.setIfInBounds_toArray, List.set_cons_zero, List.set_cons_succ, i64_w, i32_w]
    rfl
  refine take_ (i := 8) (N := (some 48)) (v := ?_) (a' := ?_) #[true, true, true, true, true, true, true, true, true, false, false, false, false] rfl rfl (by kernel_rfl) (fun _ _ _ h => h) (Or.inl ⟨by rfl, ?_⟩) hHeld ?_ ?_
  rotate_left
  · rintro w' ⟨s0, s1⟩
    go_simp
    with_reducible rfl
  rotate_left
  · simp only [Act.put, List.setIfInBounds_toArray, List.set_cons_zero, List.set_cons_succ, i64_w, i32_w]
    rfl
  refine one_ (i := 9) (N := (some 49)) #[true, true, true, true, true, true, true, true, true, true, false, false, false] rfl rfl (by kernel_rfl) (by decide) (fun K_ hK => ?_)
  obtain ⟨g1, c1, w3, hrun, hrow, hgrow, hown⟩ := appendEs _ (Ka) (Kb) (ka) (kb) _ (HS2.out.rowE 4 rfl) (HS2.out.rowE 7 rfl) (by omega) (by omega)
  refine appended_ (.tmp 44) (.tmp 48) 22 22 (by rfl) rfl rfl Ka Kb (by rfl) (by rfl) hrun ?_
  clear hrun
  have HS3 := Aside0.mk (HS2.out.setE 4 rfl hgrow hrow hown)
  clear HS2
  clear hrow hgrow hown
  clear hHeld
  refine hK.out _ _ ⟨(HS3.out.node 3 rfl).c0, (HS3.out.node 6 rfl).c0⟩ (fun hHeld => ?_)
  clear hK K_
  refine norm_ (a' := ?_) ?_ ?_
  rotate_left
  · show Act.put _ (some 49) _ = _
    simp only [Act.put, List.setIfInBounds_toArray, List.set_cons_zero, List.set_cons_succ, i64_w, i32_w]
    rfl
  refine pure_ (i := 10) (N := (some 50)) (v := ?_) (a' := ?_) #[true, true, true, true, true, true, true, true, true, true, true, false, false] rfl rfl (by kernel_rfl) (fun _ _ _ h => h) (Or.inl ⟨by rfl, ?_⟩) ?_ ?_
  rotate_left
  · intro w'
    go_simp
    with_reducible rfl
  rotate_left
  · simp only [Act.put, List.setIfInBounds_toArray, List.set_cons_zero, List.set_cons_succ, i64_w, i32_w]
    rfl
  refine pure_ (i := 11) (N := (some 51)) (v := ?_) (a' := ?_) #[true, true, true, true, true, true, true, true, true, true, true, true, false] rfl rfl (by kernel_rfl) (fun _ _ _ h => h) (Or.inl ⟨by rfl, ?_⟩) ?_ ?_
  rotate_left
  · intro w'
    go_simp
    with_reducible rfl
  rotate_left
  · simp only [Act.put, List.setIfInBounds_toArray, List.set_cons_zero, List.set_cons_succ, i64_w, i32_w]
    rfl
  refine last_ (i := 12) (N := none) #[true, true, true, true, true, true, true, true, true, true, true, true, true] rfl rfl (by kernel_rfl) (by decide) (fun K_ hK => ?_)
  have c_0 := (HS3.out.node 3 rfl).c0
  have c_1 := (HS3.out.node 3 rfl).fz 0
  refine skip_ (w1 := ?_) (by rfl) rfl ?_ ?_
  rotate_left
  · go_simp
    rfl
  refine hK.out _ _ ?_
  clear hK K_ hHeld c_0 c_1
  refine done_ (by kernel_rfl) ?_
  have HS4 := Aside0.mk (HS3.out.put0 3 rfl (.slice (some ⟨g1, 0, none⟩) (ka.length + kb.length) c1))
  clear HS3
  generalize w3.setCell ⟨a, 0, none⟩ (.slice (some ⟨g1, 0, none⟩) (ka.length + kb.length) c1) = w4 at HS4 ⊢
  go_wp2
  refine start_ (n := 13) (S := fun w' => w'.cell? ⟨a, 1, none⟩ = some (.slice none 0 0) ∧ w'.cell? ⟨b, 1, none⟩ = some (.slice none 0 0)) (ds := [12]) #[false, false, false, false, false, false, false, false, false, false, false, false, false] (by kernel_rfl) rfl rfl ⟨(HS4.out.node 3 rfl).c1, (HS4.out.node 6 rfl).c1⟩ (fun hHeld => ?_)
  have HS5 := Aside0.mk (HS4.out.drew)
  clear HS4
  generalize w4.drew = w5 at HS5 hHeld  ⊢
  refine pure_ (i := 0) (N := (some 52)) (v := ?_) (a' := ?_) #[true, false, false, false, false, false, false, false, false, false, false, false, false] rfl rfl (by kernel_rfl) (fun _ _ _ h => h) (Or.inl ⟨by rfl, ?_⟩) ?_ ?_
  rotate_left
  · intro w'
    go_simp
    with_reducible rfl
  rotate_left
  · simp only [Act.put, List.setIfInBounds_toArray, List.set_cons_zero, List.set_cons_succ, i64_w, i32_w]
    rfl
  refine pure_ (i := 1) (N := (some 53)) (v := ?_) (a' := ?_) #[true, true, false, false, false, false, false, false, false, false, false, false, false] rfl rfl (by kernel_rfl) (fun _ _ _ h => h) (Or.inl ⟨by rfl, ?_⟩) ?_ ?_
  rotate_left
  · intro w'
    go_simp
    with_reducible rfl
  rotate_left
  · simp only [Act.put, List.setIfInBounds_toArray, List.set_cons_zero, List.set_cons_succ, i64_w, i32_w]
    rfl
  refine pure_ (i := 2) (N := (some 54)) (v := ?_) (a' := ?_) #[true, true, true, false, false, false, false, false, false, false, false, false, false] rfl rfl (by kernel_rfl) (fun _ _ _ h => h) (Or.inl ⟨by rfl, ?_⟩) ?_ ?_
  rotate_left
  · intro w'
    go_simp
    with_reducible rfl
  rotate_left
  · simp only [Act.put, List.setIfInBounds_toArray, List.set_cons_zero, List.set_cons_succ, i64_w, i32_w]
    rfl
  refine pure_ (i := 3) (N := (some 55)) (v := ?_) (a' := ?_) #[true, true, true, true, false, false, false, false, false, false, false, false, false] rfl rfl (by kernel_rfl) (fun _ _ _ h => h) (Or.inl ⟨by rfl, ?_⟩) ?_ ?_
  rotate_left
  · intro w'
    go_simp
    with_reducible rfl
  rotate_left
  · simp only [Act.put, List.setIfInBounds_toArray, List.set_cons_zero, List.set_cons_succ, i64_w, i32_w]
    rfl
  refine pure_ (i := 5) (N := (some 57)) (v := ?_) (a' := ?_) #[true, true, true, true, false, true, false, false, false, false, false, false, false] rfl rfl (by kernel_rfl) (fun _ _ _ h => h) (Or.inl ⟨by rfl, ?_⟩) ?_ ?_
  rotate_left
  · intro w'
    go_simp
    with_reducible rfl
  rotate_left
  · simp only [Act.put, List.setIfInBounds_toArray, List.set_cons_zero, List.set_cons_succ, i64_w, i32_w]
    rfl
  refine pure_ (i := 6) (N := (some 58)) (v := ?_) (a' := ?_) #[true, true, true, true, false, true, true, false, false, false, false, false, false] rfl rfl (by kernel_rfl) (fun _ _ _ h => h) (Or.inl ⟨by rfl, ?_⟩) ?_ ?_
  rotate_left
  · intro w'
    go_simp
    with_reducible rfl
  rotate_left
  · simp only [Act.put, List.setIfInBounds_toArray, List.set_cons_zero, List.set_cons_succ, i64_w, i32_w]
    rfl
  refine pure_ (i := 7) (N := (some 59)) (v := ?_) (a' := ?_) #[true, true, true, true, false, true, true, true, false, false, false, false, false] rfl rfl (by kernel_rfl) (fun _ _ _ h => h) (Or.inl ⟨by rfl, ?_⟩) ?_ ?_
  rotate_left
  · intro w'
    go_simp
    with_reducible rfl
  rotate_left
  · simp only [Act.put, List.setIfInBounds_toArray, List.set_cons_zero, List.set_cons_succ, i64_w, i32_w]
    rfl
  refine take_ (i := 4) (N := (some 56)) (v := ?_) (a' := ?_) #[true, true, true, true, true, true, true, true, false, false, false, false, false] rfl rfl (by kernel_rfl) (fun _ _ _ h => h) (Or.inl ⟨by rfl, ?_⟩) hHeld ?_ ?_
  rotate_left
  · rintro w' ⟨s0, s1⟩
    go_simp
    with_reducible rfl
  rotate_left
  · simp only [Act.put, List.setIfInBounds_toArray, List.set_cons_zero, List.set_cons_succ, i64_w, i32_w]
    rfl
  refine take_ (i := 8) (N := (some 60)) (v := ?_) (a' := ?_) #[true, true, true, true, true, true, true, true, true, false, false, false, false] rfl rfl (by kernel_rfl) (fun _ _ _ h => h) (Or.inl ⟨by rfl, ?_⟩) hHeld ?_ ?_
  rotate_left
  · rintro w' ⟨s0, s1⟩
    go_simp
    with_reducible rfl
  rotate_left
  · simp only [Act.put, List.setIfInBounds_toArray, List.set_cons_zero, List.set_cons_succ, i64_w, i32_w]
    rfl
  refine one_ (i := 9) (N := (some 61)) #[true, true, true, true, true, true, true, true, true, true, false, false, false] rfl rfl (by kernel_rfl) (by decide) (fun K_ hK => ?_)
  obtain ⟨_, hrun⟩ := (And.intro trivial (appendP_none w5 _))
  refine appended_ (.tmp 56) (.tmp 60) 60 60 (by rfl) rfl rfl (.slice none 0 0) (.slice none 0 0) (by rfl) (by rfl) hrun ?_
  clear hrun
  clear hHeld
  refine hK.out _ _ ⟨(HS5.out.node 3 rfl).c1, (HS5.out.node 6 rfl).c1⟩ (fun hHeld => ?_)
  clear hK K_
  refine norm_ (a' := ?_) ?_ ?_
  rotate_left
  · show Act.put _ (some 61) _ = _
    simp only [Act.put, List.setIfInBounds_toArray, List.set_cons_zero, List.set_cons_succ, i64_w, i32_w]
    rfl
  refine pure_ (i := 10) (N := (some 62)) (v := ?_) (a' := ?_) #[true, true, true, true, true, true, true, true, true, true, true, false, false] rfl rfl (by kernel_rfl) (fun _ _ _ h => h) (Or.inl ⟨by rfl, ?_⟩) ?_ ?_
  rotate_left
  · intro w'
    go_simp
    with_reducible rfl
  rotate_left
  · simp only [Act.put, List.setIfInBounds_toArray, List.set_cons_zero, List.set_cons_succ, i64_w, i32_w]
    rfl
  refine pure_ (i := 11) (N := (some 63)) (v := ?_) (a' := ?_) #[true, true, true, true, true, true, true, true, true, true, true, true, false] rfl rfl (by kernel_rfl) (fun _ _ _ h => h) (Or.inl ⟨by rfl, ?_⟩) ?_ ?_
  rotate_left
  · intro w'
    go_simp
    with_reducible rfl
  rotate_left
  · simp only [Act.put, List.setIfInBounds_toArray, List.set_cons_zero, List.set_cons_succ, i64_w, i32_w]
    rfl
  refine last_ (i := 12) (N := none) #[true, true, true, true, true, true, true, true, true, true, true, true, true] rfl rfl (by kernel_rfl) (by decide) (fun K_ hK => ?_)
  have c_0 := (HS5.out.node 3 rfl).c1
  have c_1 := (HS5.out.node 3 rfl).fz 1
  refine skip_ (w1 := ?_) (by rfl) rfl ?_ ?_
  rotate_left
  · go_simp
    rfl
  refine hK.out _ _ ?_
  clear hK K_ hHeld c_0 c_1
  refine done_ (by kernel_rfl) ?_
  have HS6 := Aside0.mk (HS5.out.put1 3 rfl (.slice none 0 0))
  clear HS5
  generalize w5.setCell ⟨a, 1, none⟩ (.slice none 0 0) = w7 at HS6 ⊢
  have c0 := (HS6.out.node 0 rfl).c0
  go_wp2_with (first
    | (go_at_call 49; refine (deleteE _ gk nk capK i ks i ((i : Int) + 1) (HS6.out.rowE 1 rfl) HNK.out hk (by omega) rfl rfl).mono ?_; clear c0; rintro E w8 ⟨rfl, hrow, hgrow⟩; have HS7 := Aside0.mk (HS6.out.setE 1 rfl hgrow hrow (.inl rfl)); clear HS6; clear hrow hgrow; have c0 := (HS7.out.node 0 rfl).c0; have f0 := (HS7.out.node 0 rfl).fz 0; have c1 := (HS7.out.node 0 rfl).c1)
    | (go_at_call 70; have HS8 := Aside0.mk (HS7.out.put0 0 rfl (.slice (some ⟨gk, 0, none⟩) (nk - 1) capK)); clear HS7; clear c0 f0 c1; refine (deleteP _ gc n capC (i + 1) ps ((i : Int) + 1) ((i : Int) + 2) (HS8.out.rowP 2 rfl) HN.out hi (by omega) (by simp) (by simp; omega)).mono ?_; rintro E w9 ⟨rfl, hrow, hgrow⟩; have HS9 := Aside0.mk (HS8.out.setP 2 rfl hgrow hrow (.inl rfl)); clear HS8; clear hrow hgrow; have c0 := (HS9.out.node 0 rfl).c1; have f0 := (HS9.out.node 0 rfl).fz 1))
  have HS10 := Aside0.mk (HS9.out.put1 0 rfl (.slice (some ⟨gc, 0, none⟩) (n - 1) capC))
  clear HS9
  generalize w9.setCell ⟨p, 1, none⟩ (.slice (some ⟨gc, 0, none⟩) (n - 1) capC) = w10 at HS10 ⊢
  clear c0 f0
  go_end0
  rw [← HR.out]
  have hl := Aside0.mk ((HS10.out.left : St _ _ _ (par2 p _ _ _ _ a _ _ _ _)))
  exact ⟨_, _, _, _, rfl, fun _ => rfl, hl.out⟩
set_option maxHeartbeats 4000000 in
theorem join_inner (w : World) (p a b : Nat) (K C Ka Kb Ca Cb : Value) (ks : List S29) (ps : List Value) (i : Nat) (z : S29) (ka kb : List S29) (pa pb : List Value) (F : Nat → Prop) (hs : St w F w (par3 p K C ks ps a Ka Ca ka pa b Kb Cb kb pb))
    (hi : i + 1 < ps.length) (hpa : ps[i]? = some (.pointer (some ⟨a, 0, none⟩))) (hpb : ps[i + 1]? = some (.pointer (some ⟨b, 0, none⟩))) (hps : ps.length < 1000) (hk : i < ks.length) (hks : ks.length < 1000) (hka : (ka).length < 1000) (hkb : (kb).length < 1000) (hpal : (pa : List Value).length < 1000) (hpbl : (pb : List Value).length < 1000) (hz : ks[i]? = some z) (hpa0 : 0 < pa.length) (hpb0 : 0 < pb.length) (hb0 : 0 < kb.length) :
    Calls Try.prog 64 #[.pointer (some ⟨p, 0, none⟩), .int .i64 i] w (JoinPost w F p (delAt ks i) (delAt ps (i + 1)) a (ka ++ [z] ++ kb) (pa ++ pb) false) := by
  have hu29 := Try.underlying29
  have hu62 := Try.underlying62
  obtain ⟨gc, capC, rfl, hcapC⟩ := rowP_form (hs.rowP 2 rfl) (by omega)
  obtain ⟨gk, capK, rfl, hcapK⟩ := (hs.rowE 1 rfl).formS (by omega)
  obtain ⟨Aa, cpa, hCa⟩ := rowP_slice (hs.rowP 5 rfl)
  have HLA := Aside0.mk (fun w' (h : NodeAt w' a Ka Ca) => leaf_no w' a Ka Aa pa.length cpa (by rw [← hCa]; exact h) (by omega))
  have HZ := Aside0.mk hz
  have hkz : (ka ++ [z]).length = ka.length + 1 := by simp
  have HKZ := Aside0.mk hkz
  have HPA := Aside0.mk hpa
  have HPB := Aside0.mk hpb
  obtain ⟨n, hn⟩ : ∃ n, ps.length = n := ⟨_, rfl⟩
  obtain ⟨nk, hnk⟩ : ∃ n, ks.length = n := ⟨_, rfl⟩
  rw [hn, hnk] at hs
  rw [hn] at hi hps hcapC
  rw [hnk] at hk hks hcapK
  have HN := Aside0.mk hn
  have HNK := Aside0.mk hnk
  obtain ⟨R, hR⟩ : ∃ R, (JoinPost w F p (delAt ks i) (delAt ps (i + 1)) a (ka ++ [z] ++ kb) (pa ++ pb) false) = R := ⟨_, rfl⟩
  have HR := Aside0.mk hR
  try rw [hn, hnk]
  show Calls _ _ _ _ (JoinPost w F p (delAt ks i) (delAt ps (i + 1)) a (ka ++ [z] ++ kb) (pa ++ pb) false)
  rw [hR]
  clear hR
  have HS := Aside0.mk hs
  have hi0 : (0 : Int) ≤ (i : Int) := by omega
  have hi1 : (i : Int) < (n : Int) := by omega
  have hi2 : (0 : Int) ≤ (i : Int) + 1 := by omega
  have hi3 : (i : Int) + 1 < (n : Int) := by omega
  have hik : (i : Int) < (nk : Int) := by omega
  have hw1 : IntKind.i64.wrap ((i : Int) + 1) = (i : Int) + 1 := by rw [IntKind.wrap_i64]; omega
  have htn : ((i : Int) + 1).toNat = i + 1 := by omega
  clear hs hpa hpb hn hnk hz hCa hkz
  go_enter Try.func64, Try.ntmps64
  go_wp2
  refine start_ (n := 17) (S := fun w' => w'.cell? ⟨p, 1, none⟩ = some (.slice (some ⟨gc, 0, none⟩) n capC) ∧ w'.cell? ⟨gc, i, none⟩ = some (.pointer (some ⟨a, 0, none⟩)) ∧ w'.cell? ⟨gc, i + 1, none⟩ = some (.pointer (some ⟨b, 0, none⟩))) (ds := []) #[false, false, false, false, false, false, false, false, false, false, false, false, false, false, false, false, false] (by kernel_rfl) rfl rfl ⟨(HS.out.node 0 rfl).c1, (HS.out.rowP 2 rfl).cell (by rw [← HN.out]) i _ HPA.out, (HS.out.rowP 2 rfl).cell (by rw [← HN.out]) (i + 1) _ HPB.out⟩ (fun hHeld => ?_)
  have HS1 := Aside0.mk (HS.out.drew)
  clear HS
  generalize w.drew = w1 at HS1 hHeld  ⊢
  refine pure_ (i := 0) (N := (some 6)) (v := ?_) (a' := ?_) #[true, false, false, false, false, false, false, false, false, false, false, false, false, false, false, false, false] rfl rfl (by kernel_rfl) (fun _ _ _ h => h) (Or.inl ⟨by rfl, ?_⟩) ?_ ?_
  rotate_left
  · intro w'
    go_simp
    with_reducible rfl
  rotate_left
  · simp only [Act.put, List.setIfInBounds_toArray, List.set_cons_zero, List.set_cons_succ, i64_w, i32_w]
    rfl
  refine pure_ (i := 1) (N := (some 7)) (v := ?_) (a' := ?_) #[true, true, false, false, false, false, false, false, false, false, false, false, false, false, false, false, false] rfl rfl (by kernel_rfl) (fun _ _ _ h => h) (Or.inl ⟨by rfl, ?_⟩) ?_ ?_
  rotate_left
  · intro w'
    go_simp
    with_reducible rfl
  rotate_left
  · simp only [Act.put, List.setIfInBounds_toArray, List.set_cons_zero, List.set_cons_succ, i64_w, i32_w]
    rfl
  refine pure_ (i := 2) (N := (some 8)) (v := ?_) (a' := ?_) #[true, true, true, false, false, false, false, false, false, false, false, false, false, false, false, false, false] rfl rfl (by kernel_rfl) (fun _ _ _ h => h) (Or.inl ⟨by rfl, ?_⟩) ?_ ?_
  rotate_left
  · intro w'
    go_simp
    with_reducible rfl
  rotate_left
  · simp only [Act.put, List.setIfInBounds_toArray, List.set_cons_zero, List.set_cons_succ, i64_w, i32_w]
    rfl
  refine pure_ (i := 4) (N := (some 10)) (v := ?_) (a' := ?_) #[true, true, true, false, true, false, false, false, false, false, false, false, false, false, false, false, false] rfl rfl (by kernel_rfl) (fun _ _ _ h => h) (Or.inl ⟨by rfl, ?_⟩) ?_ ?_
  rotate_left
  · intro w'
    go_simp
    with_reducible rfl
  rotate_left
  · simp only [Act.put, List.setIfInBounds_toArray, List.set_cons_zero, List.set_cons_succ, i64_w, i32_w]
    rfl
  refine pure_ (i := 7) (N := (some 13)) (v := ?_) (a' := ?_) #[true, true, true, false, true, false, false, true, false, false, false, false, false, false, false, false, false] rfl rfl (by kernel_rfl) (fun _ _ _ h => h) (Or.inl ⟨by rfl, ?_⟩) ?_ ?_
  rotate_left
  · intro w'
    go_simp
    with_reducible rfl
  rotate_left
  · simp only [Act.put, List.setIfInBounds_toArray, List.set_cons_zero, List.set_cons_succ, i64_w, i32_w]
    rfl
  refine pure_ (i := 8) (N := (some 14)) (v := ?_) (a' := ?_) #[true, true, true, false, true, false, false, true, true, false, false, false, false, false, false, false, false] rfl rfl (by kernel_rfl) (fun _ _ _ h => h) (Or.inl ⟨by rfl, ?_⟩) ?_ ?_
  rotate_left
  · intro w'
    go_simp
    with_reducible rfl
  rotate_left
  · simp only [Act.put, List.setIfInBounds_toArray, List.set_cons_zero, List.set_cons_succ, i64_w, i32_w]
    rfl
  refine pure_ (i := 9) (N := (some 15)) (v := ?_) (a' := ?_) #[true, true, true, false, true, false, false, true, true, true, false, false, false, false, false, false, false] rfl rfl (by kernel_rfl) (fun _ _ _ h => h) (Or.inl ⟨by rfl, ?_⟩) ?_ ?_
  rotate_left
  · intro w'
    go_simp
    with_reducible rfl
  rotate_left
  · simp only [Act.put, List.setIfInBounds_toArray, List.set_cons_zero, List.set_cons_succ, i64_w, i32_w]
    rfl
  refine pure_ (i := 11) (N := (some 17)) (v := ?_) (a' := ?_) #[true, true, true, false, true, false, false, true, true, true, false, true, false, false, false, false, false] rfl rfl (by kernel_rfl) (fun _ _ _ h => h) (Or.inl ⟨by rfl, ?_⟩) ?_ ?_
  rotate_left
  · intro w'
    go_simp
    with_reducible rfl
  rotate_left
  · simp only [Act.put, List.setIfInBounds_toArray, List.set_cons_zero, List.set_cons_succ, i64_w, i32_w]
    rfl
  refine pure_ (i := 12) (N := (some 18)) (v := ?_) (a' := ?_) #[true, true, true, false, true, false, false, true, true, true, false, true, true, false, false, false, false] rfl rfl (by kernel_rfl) (fun _ _ _ h => h) (Or.inl ⟨by rfl, ?_⟩) ?_ ?_
  rotate_left
  · intro w'
    go_simp
    with_reducible rfl
  rotate_left
  · simp only [Act.put, List.setIfInBounds_toArray, List.set_cons_zero, List.set_cons_succ, i64_w, i32_w]
    rfl
  refine take_ (i := 3) (N := (some 9)) (v := ?_) (a' := ?_) #[true, true, true, true, true, false, false, true, true, true, false, true, true, false, false, false, false] rfl rfl (by kernel_rfl) (fun _ _ _ h => h) (Or.inl ⟨by rfl, ?_⟩) hHeld ?_ ?_
  rotate_left
  · rintro w' ⟨s0, s1, s2⟩
    go_simp
    with_reducible rfl
  rotate_left
  · simp only [Act.put, List.setIfInBounds_toArray, List.set_cons_zero, List.set_cons_succ, i64_w, i32_w]
    rfl
  refine pure_ (i := 5) (N := (some 11)) (v := ?_) (a' := ?_) #[true, true, true, true, true, true, false, true, true, true, false, true, true, false, false, false, false] rfl rfl (by kernel_rfl) (fun _ _ _ h => h) (Or.inl ⟨by rfl, ?_⟩) ?_ ?_
  rotate_left
  · intro w'
    go_simp
    with_reducible rfl
  rotate_left
  · simp only [Act.put, List.setIfInBounds_toArray, List.set_cons_zero, List.set_cons_succ, i64_w, i32_w]
    rfl
  refine take_ (i := 6) (N := (some 12)) (v := ?_) (a' := ?_) #[true, true, true, true, true, true, true, true, true, true, false, true, true, false, false, false, false] rfl rfl (by kernel_rfl) (fun _ _ _ h => h) (Or.inl ⟨by rfl, ?_⟩) hHeld ?_ ?_
  rotate_left
  · rintro w' ⟨s0, s1, s2⟩
    go_simp
    with_reducible rfl
  rotate_left
  · simp only [Act.put, List.setIfInBounds_toArray, List.set_cons_zero, List.set_cons_succ, i64_w, i32_w]
    rfl
  refine pure_ (i := 15) (N := (some 4)) (v := ?_) (a' := ?_) #[true, true, true, true, true, true, true, true, true, true, false, true, true, false, false, true, false] rfl rfl (by kernel_rfl) (fun _ _ _ h => h) (Or.inl ⟨by rfl, ?_⟩) ?_ ?_
  rotate_left
  · intro w'
    go_simp
    with_reducible rfl
  rotate_left
  · simp only [Act.put, List.setIfInBounds_toArray, List.set_cons_zero, List.set_cons_succ, i64_w, i32_w]
    rfl
  refine take_ (i := 10) (N := (some 16)) (v := ?_) (a' := ?_) #[true, true, true, true, true, true, true, true, true, true, true, true, true, false, false, true, false] rfl rfl (by kernel_rfl) (fun _ _ _ h => h) (Or.inl ⟨by rfl, ?_⟩) hHeld ?_ ?_
  rotate_left
  · rintro w' ⟨s0, s1, s2⟩
    go_simp
    with_reducible rfl
  rotate_left
  · simp only [Act.put, List.setIfInBounds_toArray, List.set_cons_zero, List.set_cons_succ, i64_w, i32_w]
    rfl
  refine pure_ (i := 13) (N := (some 19)) (v := ?_) (a' := ?_) #[true, true, true, true, true, true, true, true, true, true, true, true, true, true, false, true, false] rfl rfl (by kernel_rfl) (fun _ _ _ h => h) (Or.inl ⟨by rfl, ?_⟩) ?_ ?_
  rotate_left
  · intro w'
    go_simp
    with_reducible rfl
  rotate_left
  · simp only [Act.put, List.setIfInBounds_toArray, List.set_cons_zero, List.set_cons_succ, i64_w, i32_w]
    rfl
  refine take_ (i := 14) (N := (some 20)) (v := ?_) (a' := ?_) #[true, true, true, true, true, true, true, true, true, true, true, true, true, true, true, true, false] rfl rfl (by kernel_rfl) (fun _ _ _ h => h) (Or.inl ⟨by rfl, ?_⟩) hHeld ?_ ?_
  rotate_left
  · rintro w' ⟨s0, s1, s2⟩
    go_simp
    with_reducible rfl
  rotate_left
  · simp only [Act.put, List.setIfInBounds_toArray, List.set_cons_zero, List.set_cons_succ, i64_w, i32_w]
    rfl
  refine pure_ (i := 16) (N := (some 5)) (v := ?_) (a' := ?_) #[true, true, true, true, true, true, true, true, true, true, true, true, true, true, true, true, true] rfl rfl (by kernel_rfl) (fun _ _ _ h => h) (Or.inl ⟨by rfl, ?_⟩) ?_ ?_
  rotate_left
  · intro w'
    go_simp
    with_reducible rfl
  rotate_left
  · simp only [Act.put, List.setIfInBounds_toArray, List.set_cons_zero, List.set_cons_succ, i64_w, i32_w]
    rfl
  refine done_ (by kernel_rfl) ?_
  go_wp2_with (first
    | (go_at_call 30; refine (HLA.out _ (HS1.out.node 3 rfl)).mono ?_; rintro E w1 ⟨rfl, rfl⟩))
  refine start_ (n := 17) (S := fun w' => w'.cell? ⟨a, 0, none⟩ = some (Ka) ∧ w'.cell? ⟨p, 0, none⟩ = some (.slice (some ⟨gk, 0, none⟩) nk capK) ∧ w'.cell? ⟨gk, i * 3, none⟩ = some (.string z.f0) ∧ w'.cell? ⟨gk, i * 3 + 1, none⟩ = some (.int .i64 z.f1.f0) ∧ w'.cell? ⟨gk, i * 3 + 2, none⟩ = some (.int .i64 z.f1.f1)) (ds := [16]) #[false, false, false, false, false, false, false, false, false, false, false, false, false, false, false, false, false] (by kernel_rfl) rfl rfl ⟨(HS1.out.node 3 rfl).c0, (HS1.out.node 0 rfl).c0, (RowE.at (HS1.out.rowE 1 rfl) HZ.out).1, (RowE.at (HS1.out.rowE 1 rfl) HZ.out).2.1, (RowE.at (HS1.out.rowE 1 rfl) HZ.out).2.2⟩ (fun hHeld => ?_)
  have HS2 := Aside0.mk (HS1.out.drew)
  clear HS1
  generalize w1.drew = w2 at HS2 hHeld  ⊢
  refine pure_ (i := 0) (N := (some 24)) (v := ?_) (a' := ?_) #[true, false, false, false, false, false, false, false, false, false, false, false, false, false, false, false, false] rfl rfl (by kernel_rfl) (fun _ _ _ h => h) (Or.inl ⟨by rfl, ?_⟩) ?_ ?_
  rotate_left
  · intro w'
    go_simp
    with_reducible rfl
  rotate_left
  · simp only [Act.put, List.setIfInBounds_toArray, List.set_cons_zero, List.set_cons_succ, i64_w, i32_w]
    rfl
  refine pure_ (i := 1) (N := (some 25)) (v := ?_) (a' := ?_) #[true, true, false, false, false, false, false, false, false, false, false, false, false, false, false, false, false] rfl rfl (by kernel_rfl) (fun _ _ _ h => h) (Or.inl ⟨by rfl, ?_⟩) ?_ ?_
  rotate_left
  · intro w'
    go_simp
    with_reducible rfl
  rotate_left
  · simp only [Act.put, List.setIfInBounds_toArray, List.set_cons_zero, List.set_cons_succ, i64_w, i32_w]
    rfl
  refine pure_ (i := 2) (N := (some 26)) (v := ?_) (a' := ?_) #[true, true, true, false, false, false, false, false, false, false, false, false, false, false, false, false, false] rfl rfl (by kernel_rfl) (fun _ _ _ h => h) (Or.inl ⟨by rfl, ?_⟩) ?_ ?_
  rotate_left
  · intro w'
    go_simp
    with_reducible rfl
  rotate_left
  · simp only [Act.put, List.setIfInBounds_toArray, List.set_cons_zero, List.set_cons_succ, i64_w, i32_w]
    rfl
  refine pure_ (i := 3) (N := (some 27)) (v := ?_) (a' := ?_) #[true, true, true, true, false, false, false, false, false, false, false, false, false, false, false, false, false] rfl rfl (by kernel_rfl) (fun _ _ _ h => h) (Or.inl ⟨by rfl, ?_⟩) ?_ ?_
  rotate_left
  · intro w'
    go_simp
    with_reducible rfl
  rotate_left
  · simp only [Act.put, List.setIfInBounds_toArray, List.set_cons_zero, List.set_cons_succ, i64_w, i32_w]
    rfl
  refine pure_ (i := 5) (N := (some 29)) (v := ?_) (a' := ?_) #[true, true, true, true, false, true, false, false, false, false, false, false, false, false, false, false, false] rfl rfl (by kernel_rfl) (fun _ _ _ h => h) (Or.inl ⟨by rfl, ?_⟩) ?_ ?_
  rotate_left
  · intro w'
    go_simp
    with_reducible rfl
  rotate_left
  · simp only [Act.put, List.setIfInBounds_toArray, List.set_cons_zero, List.set_cons_succ, i64_w, i32_w]
    rfl
  refine pure_ (i := 6) (N := (some 30)) (v := ?_) (a' := ?_) #[true, true, true, true, false, true, true, false, false, false, false, false, false, false, false, false, false] rfl rfl (by kernel_rfl) (fun _ _ _ h => h) (Or.inl ⟨by rfl, ?_⟩) ?_ ?_
  rotate_left
  · intro w'
    go_simp
    with_reducible rfl
  rotate_left
  · simp only [Act.put, List.setIfInBounds_toArray, List.set_cons_zero, List.set_cons_succ, i64_w, i32_w]
    rfl
  refine pure_ (i := 7) (N := (some 31)) (v := ?_) (a' := ?_) #[true, true, true, true, false, true, true, true, false, false, false, false, false, false, false, false, false] rfl rfl (by kernel_rfl) (fun _ _ _ h => h) (Or.inl ⟨by rfl, ?_⟩) ?_ ?_
  rotate_left
  · intro w'
    go_simp
    with_reducible rfl
  rotate_left
  · simp only [Act.put, List.setIfInBounds_toArray, List.set_cons_zero, List.set_cons_succ, i64_w, i32_w]
    rfl
  refine pure_ (i := 9) (N := (some 33)) (v := ?_) (a' := ?_) #[true, true, true, true, false, true, true, true, false, true, false, false, false, false, false, false, false] rfl rfl (by kernel_rfl) (fun _ _ _ h => h) (Or.inl ⟨by rfl, ?_⟩) ?_ ?_
  rotate_left
  · intro w'
    go_simp
    with_reducible rfl
  rotate_left
  · simp only [Act.put, List.setIfInBounds_toArray, List.set_cons_zero, List.set_cons_succ, i64_w, i32_w]
    rfl
  refine take_ (i := 4) (N := (some 28)) (v := ?_) (a' := ?_) #[true, true, true, true, true, true, true, true, false, true, false, false, false, false, false, false, false] rfl rfl (by kernel_rfl) (fun _ _ _ h => h) (Or.inl ⟨by rfl, ?_⟩) hHeld ?_ ?_
  rotate_left
  · rintro w' ⟨s0, s1, s2, s3, s4⟩
    go_simp
    with_reducible rfl
  rotate_left
  · simp only [Act.put, List.setIfInBounds_toArray, List.set_cons_zero, List.set_cons_succ, i64_w, i32_w]
    rfl
  refine take_ (i := 8) (N := (some 32)) (v := ?_) (a' := ?_) #[true, true, true, true, true, true, true, true, true, true, false, false, false, false, false, false, false] rfl rfl (by kernel_rfl) (fun _ _ _ h => h) (Or.inl ⟨by rfl, ?_⟩) hHeld ?_ ?_
  rotate_left
  · rintro w' ⟨s0, s1, s2, s3, s4⟩
    go_simp
    with_reducible rfl
  rotate_left
  · simp only [Act.put, List.setIfInBounds_toArray, List.set_cons_zero, List.set_cons_succ, i64_w, i32_w]
    rfl
  refine pure_ (i := 10) (N := (some 34)) (v := ?_) (a' := ?_) #[true, true, true, true, true, true, true, true, true, true, true, false, false, false, false, false, false] rfl rfl (by kernel_rfl) (fun _ _ _ h => h) (Or.inl ⟨by rfl, ?_⟩) ?_ ?_
  rotate_left
  · intro w'
    go_simp
    with_reducible rfl
  rotate_left
  · simp only [Act.put, List.setIfInBounds_toArray, List.set_cons_zero, List.set_cons_succ, i64_w, i32_w]
    rfl
  refine take_ (i := 11) (N := (some 35)) (v := ?_) (a' := ?_) #[true, true, true, true, true, true, true, true, true, true, true, true, false, false, false, false, false] rfl rfl (by kernel_rfl) (fun _ _ _ h => h) (Or.inl ⟨by rfl, ?_⟩) hHeld ?_ ?_
  rotate_left
  · rintro w' ⟨s0, s1, s2, s3, s4⟩
    go_simp
    with_reducible rfl
  rotate_left
  · simp only [Act.put, List.setIfInBounds_toArray, List.set_cons_zero, List.set_cons_succ, i64_w, i32_w]
    rfl
  refine one_ (i := 12) (N := (some 36)) #[true, true, true, true, true, true, true, true, true, true, true, true, true, false, false, false, false] rfl rfl (by kernel_rfl) (by decide) (fun K_ hK => ?_)
  obtain ⟨v1, hv1⟩ : ∃ v : Nat, w2.heap.size = v := ⟨_, rfl⟩
  refine made_ (v := .slice (some ⟨w2.heap.size, 0, none⟩) 1 1) (w1 := w2.alloc (.cells #[.string z.f0, .int .i64 z.f1.f0, .int .i64 z.f1.f1] 29)) (by rfl) rfl (by go_simp) ?_
  have HS3 := Aside0.mk (HS2.out.alloc #[.string z.f0, .int .i64 z.f1.f0, .int .i64 z.f1.f1] 29 hv1)
  clear HS2
  rw [hv1]
  clear hv1
  clear hHeld
  refine hK.out _ _ ⟨(HS3.out.node 3 rfl).c0, (HS3.out.node 0 rfl).c0, (RowE.at (HS3.out.rowE 1 rfl) HZ.out).1, (RowE.at (HS3.out.rowE 1 rfl) HZ.out).2.1, (RowE.at (HS3.out.rowE 1 rfl) HZ.out).2.2⟩ (fun hHeld => ?_)
  clear hK K_
  generalize w2.alloc (.cells #[.string z.f0, .int .i64 z.f1.f0, .int .i64 z.f1.f1] 29) = w3 at HS3 hHeld  ⊢
  refine norm_ (a' := ?_) ?_ ?_
  rotate_left
  · show Act.put _ (some 36) _ = _
    simp only [Act.put, List.setIfInBounds_toArray, List.set_cons_zero, List.set_cons_succ, i64_w, i32_w]
    rfl
  refine one_ (i := 13) (N := (some 37)) #[true, true, true, true, true, true, true, true, true, true, true, true, true, true, false, false, false] rfl rfl (by kernel_rfl) (by decide) (fun K_ hK => ?_)
  obtain ⟨g_v1, c_v1, w4, hrun, hrow, hgrow, hown⟩ := appendE _ Ka ka z v1 _ (HS3.out.rowE 4 rfl) (HS3.out.blk 9 rfl) (by omega)
  refine appended_ (.tmp 28) (.tmp 36) 22 22 (by rfl) rfl rfl Ka (.slice (some ⟨v1, 0, none⟩) 1 1) (by rfl) (by rfl) hrun ?_
  clear hrun
  have HS4 := Aside0.mk (HS3.out.setE 4 rfl hgrow hrow hown)
  clear HS3
  clear hrow hgrow hown
  clear hHeld
  refine hK.out _ _ ⟨(HS4.out.node 3 rfl).c0, (HS4.out.node 0 rfl).c0, (RowE.at (HS4.out.rowE 1 rfl) HZ.out).1, (RowE.at (HS4.out.rowE 1 rfl) HZ.out).2.1, (RowE.at (HS4.out.rowE 1 rfl) HZ.out).2.2⟩ (fun hHeld => ?_)
  clear hK K_
  refine norm_ (a' := ?_) ?_ ?_
  rotate_left
  · show Act.put _ (some 37) _ = _
    simp only [Act.put, List.setIfInBounds_toArray, List.set_cons_zero, List.set_cons_succ, i64_w, i32_w]
    rfl
  refine pure_ (i := 14) (N := (some 38)) (v := ?_) (a' := ?_) #[true, true, true, true, true, true, true, true, true, true, true, true, true, true, true, false, false] rfl rfl (by kernel_rfl) (fun _ _ _ h => h) (Or.inl ⟨by rfl, ?_⟩) ?_ ?_
  rotate_left
  · intro w'
    go_simp
    with_reducible rfl
  rotate_left
  · simp only [Act.put, List.setIfInBounds_toArray, List.set_cons_zero, List.set_cons_succ, i64_w, i32_w]
    rfl
  refine pure_ (i := 15) (N := (some 39)) (v := ?_) (a' := ?_) #[true, true, true, true, true, true, true, true, true, true, true, true, true, true, true, true, false] rfl rfl (by kernel_rfl) (fun _ _ _ h => h) (Or.inl ⟨by rfl, ?_⟩) ?_ ?_
  rotate_left
  · intro w'
    go_simp
    with_reducible rfl
  rotate_left
  · simp only [Act.put, List.setIfInBounds_toArray, List.set_cons_zero, List.set_cons_succ, i64_w, i32_w]
    rfl
  refine last_ (i := 16) (N := none) #[true, true, true, true, true, true, true, true, true, true, true, true, true, true, true, true, true] rfl rfl (by kernel_rfl) (by decide) (fun K_ hK => ?_)
  have c_0 := (HS4.out.node 3 rfl).c0
  have c_1 := (HS4.out.node 3 rfl).fz 0
  refine skip_ (w1 := ?_) (by rfl) rfl ?_ ?_
  rotate_left
  · go_simp
    rfl
  refine hK.out _ _ ?_
  clear hK K_ hHeld c_0 c_1
  refine done_ (by kernel_rfl) ?_
  have HS5 := Aside0.mk (HS4.out.put0 3 rfl (.slice (some ⟨g_v1, 0, none⟩) (ka.length + 1) c_v1))
  clear HS4
  generalize w4.setCell ⟨a, 0, none⟩ (.slice (some ⟨g_v1, 0, none⟩) (ka.length + 1) c_v1) = w5 at HS5 ⊢
  go_wp2
  refine start_ (n := 13) (S := fun w' => w'.cell? ⟨a, 0, none⟩ = some (.slice (some ⟨g_v1, 0, none⟩) (ka.length + 1) c_v1) ∧ w'.cell? ⟨b, 0, none⟩ = some (Kb)) (ds := [12]) #[false, false, false, false, false, false, false, false, false, false, false, false, false] (by kernel_rfl) rfl rfl ⟨(HS5.out.node 3 rfl).c0, (HS5.out.node 6 rfl).c0⟩ (fun hHeld => ?_)
  have HS6 := Aside0.mk (HS5.out.drew)
  clear HS5
  generalize w5.drew = w6 at HS6 hHeld  ⊢
  refine pure_ (i := 0) (N := (some 40)) (v := ?_) (a' := ?_) #[true, false, false, false, false, false, false, false, false, false, false, false, false] rfl rfl (by kernel_rfl) (fun _ _ _ h => h) (Or.inl ⟨by rfl, ?_⟩) ?_ ?_
  rotate_left
  · intro w'
    go_simp
    with_reducible rfl
  rotate_left
  · simp only [Act.put, List.setIfInBounds_toArray, List.set_cons_zero, List.set_cons_succ, i64_w, i32_w]
    rfl
  refine pure_ (i := 1) (N := (some 41)) (v := ?_) (a' := ?_) #[true, true, false, false, false, false, false, false, false, false, false, false, false] rfl rfl (by kernel_rfl) (fun _ _ _ h => h) (Or.inl ⟨by rfl, ?_⟩) ?_ ?_
  rotate_left
  · intro w'
    go_simp
    with_reducible rfl
  rotate_left
  · simp only [Act.put, List.setIfInBounds_toArray, List.set_cons_zero, List.set_cons_succ, i64_w, i32_w]
    rfl
  refine pure_ (i := 2) (N := (some 42)) (v := ?_) (a' := ?_) #[true, true, true, false, false, false, false, false, false, false, false, false, false] rfl rfl (by kernel_rfl) (fun _ _ _ h => h) (Or.inl ⟨by rfl, ?_⟩) ?_ ?_
  rotate_left
  · intro w'
    go_simp
    with_reducible rfl
  rotate_left
  · simp only [Act.put, List.setIfInBounds_toArray, List.set_cons_zero, List.set_cons_succ, i64_w, i32_w]
    rfl
  refine pure_ (i := 3) (N := (some 43)) (v := ?_) (a' := ?_) #[true, true, true, true, false, false, false, false, false, false, false, false, false] rfl rfl (by kernel_rfl) (fun _ _ _ h => h) (Or.inl ⟨by rfl, ?_⟩) ?_ ?_
  rotate_left
  · intro w'
    go_simp
    with_reducible rfl
  rotate_left
  · simp only [Act.put, List.setIfInBounds_toArray, List.set_cons_zero, List.set_cons_succ, i64_w, i32_w]
    rfl
  refine pure_ (i := 5) (N := (some 45)) (v := ?_) (a' := ?_) #[true, true, true, true, false, true, false, false, false, false, false, false, false] rfl rfl (by kernel_rfl) (fun _ _ _ h => h) (Or.inl ⟨by rfl, ?_⟩) ?_ ?_
  rotate_left
  · intro w'
    go_simp
    with_reducible rfl
  rotate_left
  · simp only [Act.put, List.setIfInBounds_toArray, List.set_cons_zero, List.set_cons_succ, i64_w, i32_w]
    rfl
  refine pure_ (i := 6) (N := (some 46)) (v := ?_) (a' := ?_) #[true, true, true, true, false, true, true, false, false, false, false, false, false] rfl rfl (by kernel_rfl) (fun _ _ _ h => h) (Or.inl ⟨by rfl, ?_⟩) ?_ ?_
  rotate_left
  · intro w'
    go_simp
    with_reducible rfl
  rotate_left
  · simp only [Act.put, List.setIfInBounds_toArray, List.set_cons_zero, List.set_cons_succ, i64_w, i32_w]
    rfl
  refine pure_ (i := 7) (N := (some 47)) (v := ?_) (a' := ?_) #[true, true, true, true, false, true, true, true, false, false, false, false, false] rfl rfl (by kernel_rfl) (fun _ _ _ h => h) (Or.inl ⟨by rfl, ?_⟩) ?_ ?_
  rotate_left
  · intro w'
    go_simp
    with_reducible rfl
  rotate_left
  · simp only [Act.put, List.setIfInBounds_toArray, List.set_cons_zero, List.set_cons_succ, i64_w, i32_w]
    rfl
  refine take_ (i := 4) (N := (some 44)) (v := ?_) (a' := ?_) #[true, true, true, true, true, true, true, true, false, false, false, false, false] rfl rfl (by kernel_rfl) (fun _ _ _ h => h) (Or.inl ⟨by rfl, ?_⟩) hHeld ?_ ?_
  rotate_left
  · rintro w' ⟨s0, s1⟩
    go_simp
    with_reducible rfl
  rotate_left
  · simp only [Act.put, List.setIfInBounds_toArray, List.set_cons_zero, List.set_cons_succ, i64_w, i32_w]
    rfl
  refine take_ (i := 8) (N := (some 48)) (v := ?_) (a' := ?_) #[true, true, true, true, true, true, true, true, true, false, false, false, false] rfl rfl (by kernel_rfl) (fun _ _ _ h => h) (Or.inl ⟨by rfl, ?_⟩) hHeld ?_ ?_
  rotate_left
  · rintro w' ⟨s0, s1⟩
    go_simp
    with_reducible rfl
  rotate_left
  · simp only [Act.put, List.setIfInBounds_toArray, List.set_cons_zero, List.set_cons_succ, i64_w, i32_w]
    rfl
  refine one_ (i := 9) (N := (some 49)) #[true, true, true, true, true, true, true, true, true, true, false, false, false] rfl rfl (by kernel_rfl) (by decide) (fun K_ hK => ?_)
  obtain ⟨g1, c1, w7, hrun, hrow, hgrow, hown⟩ := appendEs _ ((.slice (some ⟨g_v1, 0, none⟩) (ka.length + 1) c_v1)) (Kb) (ka ++ [z]) (kb) _ (HS6.out.rowE 4 rfl) (HS6.out.rowE 7 rfl) (by rw [HKZ.out]; omega) (by omega)
  rw [HKZ.out] at hrow hown hrun
  refine appended_ (.tmp 44) (.tmp 48) 22 22 (by rfl) rfl rfl (.slice (some ⟨g_v1, 0, none⟩) (ka.length + 1) c_v1) Kb (by rfl) (by rfl) hrun ?_
  clear hrun
  have HS7 := Aside0.mk (HS6.out.setE 4 rfl hgrow hrow hown)
  clear HS6
  clear hrow hgrow hown
  clear hHeld
  refine hK.out _ _ ⟨(HS7.out.node 3 rfl).c0, (HS7.out.node 6 rfl).c0⟩ (fun hHeld => ?_)
  clear hK K_
  refine norm_ (a' := ?_) ?_ ?_
  rotate_left
  · show Act.put _ (some 49) _ = _
    simp only [Act.put, List.setIfInBounds_toArray, List.set_cons_zero, List.set_cons_succ, i64_w, i32_w]
    rfl
  refine pure_ (i := 10) (N := (some 50)) (v := ?_) (a' := ?_) #[true, true, true, true, true, true, true, true, true, true, true, false, false] rfl rfl (by kernel_rfl) (fun _ _ _ h => h) (Or.inl ⟨by rfl, ?_⟩) ?_ ?_
  rotate_left
  · intro w'
    go_simp
    with_reducible rfl
  rotate_left
  · simp only [Act.put, List.setIfInBounds_toArray, List.set_cons_zero, List.set_cons_succ, i64_w, i32_w]
    rfl
  refine pure_ (i := 11) (N := (some 51)) (v := ?_) (a' := ?_) #[true, true, true, true, true, true, true, true, true, true, true, true, false] rfl rfl (by kernel_rfl) (fun _ _ _ h => h) (Or.inl ⟨by rfl, ?_⟩) ?_ ?_
  rotate_left
  · intro w'
    go_simp
    with_reducible rfl
  rotate_left
  · simp only [Act.put, List.setIfInBounds_toArray, List.set_cons_zero, List.set_cons_succ, i64_w, i32_w]
    rfl
  refine last_ (i := 12) (N := none) #[true, true, true, true, true, true, true, true, true, true, true, true, true] rfl rfl (by kernel_rfl) (by decide) (fun K_ hK => ?_)
  have c_0 := (HS7.out.node 3 rfl).c0
  have c_1 := (HS7.out.node 3 rfl).fz 0
  refine skip_ (w1 := ?_) (by rfl) rfl ?_ ?_
  rotate_left
  · go_simp
    rfl
  refine hK.out _ _ ?_
  clear hK K_ hHeld c_0 c_1
  refine done_ (by kernel_rfl) ?_
  have HS8 := Aside0.mk (HS7.out.put0 3 rfl (.slice (some ⟨g1, 0, none⟩) (ka.length + 1 + kb.length) c1))
  clear HS7
  generalize w7.setCell ⟨a, 0, none⟩ (.slice (some ⟨g1, 0, none⟩) (ka.length + 1 + kb.length) c1) = w8 at HS8 ⊢
  go_wp2
  refine start_ (n := 13) (S := fun w' => w'.cell? ⟨a, 1, none⟩ = some (Ca) ∧ w'.cell? ⟨b, 1, none⟩ = some (Cb)) (ds := [12]) #[false, false, false, false, false, false, false, false, false, false, false, false, false] (by kernel_rfl) rfl rfl ⟨(HS8.out.node 3 rfl).c1, (HS8.out.node 6 rfl).c1⟩ (fun hHeld => ?_)
  have HS9 := Aside0.mk (HS8.out.drew)
  clear HS8
  generalize w8.drew = w9 at HS9 hHeld  ⊢
  refine pure_ (i := 0) (N := (some 52)) (v := ?_) (a' := ?_) #[true, false, false, false, false, false, false, false, false, false, false, false, false] rfl rfl (by kernel_rfl) (fun _ _ _ h => h) (Or.inl ⟨by rfl, ?_⟩) ?_ ?_
  rotate_left
  · intro w'
    go_simp
    with_reducible rfl
  rotate_left
  · simp only [Act.put, List.setIfInBounds_toArray, List.set_cons_zero, List.set_cons_succ, i64_w, i32_w]
    rfl
  refine pure_ (i := 1) (N := (some 53)) (v := ?_) (a' := ?_) #[true, true, false, false, false, false, false, false, false, false, false, false, false] rfl rfl (by kernel_rfl) (fun _ _ _ h => h) (Or.inl ⟨by rfl, ?_⟩) ?_ ?_
  rotate_left
  · intro w'
    go_simp
    with_reducible rfl
  rotate_left
  · simp only [Act.put, List.setIfInBounds_toArray, List.set_cons_zero, List.set_cons_succ, i64_w, i32_w]
    rfl
  refine pure_ (i := 2) (N := (some 54)) (v := ?_) (a' := ?_) #[true, true, true, false, false, false, false, false, false, false, false, false, false] rfl rfl (by kernel_rfl) (fun _ _ _ h => h) (Or.inl ⟨by rfl, ?_⟩) ?_ ?_
  rotate_left
  · intro w'
    go_simp
    with_reducible rfl
  rotate_left
  · simp only [Act.put, List.setIfInBounds_toArray, List.set_cons_zero, List.set_cons_succ, i64_w, i32_w]
    rfl
  refine pure_ (i := 3) (N := (some 55)) (v := ?_) (a' := ?_) #[true, true, true, true, false, false, false, false, false, false, false, false, false] rfl rfl (by kernel_rfl) (fun _ _ _ h => h) (Or.inl ⟨by rfl, ?_⟩) ?_ ?_
  rotate_left
  · intro w'
    go_simp
    with_reducible rfl
  rotate_left
  · simp only [Act.put, List.setIfInBounds_toArray, List.set_cons_zero, List.set_cons_succ, i64_w, i32_w]
    rfl
  refine pure_ (i := 5) (N := (some 57)) (v := ?_) (a' := ?_) #[true, true, true, true, false, true, false, false, false, false, false, false, false] rfl rfl (by kernel_rfl) (fun _ _ _ h => h) (Or.inl ⟨by rfl, ?_⟩) ?_ ?_
  rotate_left
  · intro w'
    go_simp
    with_reducible rfl
  rotate_left
  · simp only [Act.put, List.setIfInBounds_toArray, List.set_cons_zero, List.set_cons_succ, i64_w, i32_w]
    rfl
  refine pure_ (i := 6) (N := (some 58)) (v := ?_) (a' := ?_) #[true, true, true, true, false, true, true, false, false, false, false, false, false] rfl rfl (by kernel_rfl) (fun _ _ _ h => h) (Or.inl ⟨by rfl, ?_⟩) ?_ ?_
  rotate_left
  · intro w'
    go_simp
    with_reducible rfl
  rotate_left
  · simp only [Act.put, List.setIfInBounds_toArray, List.set_cons_zero, List.set_cons_succ, i64_w, i32_w]
    rfl
  refine pure_ (i := 7) (N := (some 59)) (v := ?_) (a' := ?_) #[true, true, true, true, false, true, true, true, false, false, false, false, false] rfl rfl (by kernel_rfl) (fun _ _ _ h => h) (Or.inl ⟨by rfl, ?_⟩) ?_ ?_
  rotate_left
  · intro w'
    go_simp
    with_reducible rfl
  rotate_left
  · simp only [Act.put, List.setIfInBounds_toArray, List.set_cons_zero, List.set_cons_succ, i64_w, i32_w]
    rfl
  refine take_ (i := 4) (N := (some 56)) (v := ?_) (a' := ?_) #[true, true, true, true, true, true, true, true, false, false, false, false, false] rfl rfl (by kernel_rfl) (fun _ _ _ h => h) (Or.inl ⟨by rfl, ?_⟩) hHeld ?_ ?_
  rotate_left
  · rintro w' ⟨s0, s1⟩
    go_simp
    with_reducible rfl
  rotate_left
  · simp only [Act.put, List.setIfInBounds_toArray, List.set_cons_zero, List.set_cons_succ, i64_w, i32_w]
    rfl
  refine take_ (i := 8) (N := (some 60)) (v := ?_) (a' := ?_) #[true, true, true, true, true, true, true, true, true, false, false, false, false] rfl rfl (by kernel_rfl) (fun _ _ _ h => h) (Or.inl ⟨by rfl, ?_⟩) hHeld ?_ ?_
  rotate_left
  · rintro w' ⟨s0, s1⟩
    go_simp
    with_reducible rfl
  rotate_left
  · simp only [Act.put, List.setIfInBounds_toArray, List.set_cons_zero, List.set_cons_succ, i64_w, i32_w]
    rfl
  refine one_ (i := 9) (N := (some 61)) #[true, true, true, true, true, true, true, true, true, true, false, false, false] rfl rfl (by kernel_rfl) (by decide) (fun K_ hK => ?_)
  obtain ⟨g2, c2, w10, hrun, hrow, hgrow, hown⟩ := appendPs _ (Ca) (Cb) (pa) (pb) _ (HS9.out.rowP 5 rfl) (HS9.out.rowP 8 rfl) (by omega) (by omega)
  refine appended_ (.tmp 56) (.tmp 60) 60 60 (by rfl) rfl rfl Ca Cb (by rfl) (by rfl) hrun ?_
  clear hrun
  have HS10 := Aside0.mk (HS9.out.setP 5 rfl hgrow hrow hown)
  clear HS9
  clear hrow hgrow hown
  clear hHeld
  refine hK.out _ _ ⟨(HS10.out.node 3 rfl).c1, (HS10.out.node 6 rfl).c1⟩ (fun hHeld => ?_)
  clear hK K_
  refine norm_ (a' := ?_) ?_ ?_
  rotate_left
  · show Act.put _ (some 61) _ = _
    simp only [Act.put, List.setIfInBounds_toArray, List.set_cons_zero, List.set_cons_succ, i64_w, i32_w]
    rfl
  refine pure_ (i := 10) (N := (some 62)) (v := ?_) (a' := ?_) #[true, true, true, true, true, true, true, true, true, true, true, false, false] rfl rfl (by kernel_rfl) (fun _ _ _ h => h) (Or.inl ⟨by rfl, ?_⟩) ?_ ?_
  rotate_left
  · intro w'
    go_simp
    with_reducible rfl
  rotate_left
  · simp only [Act.put, List.setIfInBounds_toArray, List.set_cons_zero, List.set_cons_succ, i64_w, i32_w]
    rfl
  refine pure_ (i := 11) (N := (some 63)) (v := ?_) (a' := ?_) #[true, true, true, true, true, true, true, true, true, true, true, true, false] rfl rfl (by kernel_rfl) (fun _ _ _ h => h) (Or.inl ⟨by rfl, ?_⟩) ?_ ?_
  rotate_left
  · intro w'
    go_simp
    with_reducible rfl
  rotate_left
  · simp only [Act.put, List.setIfInBounds_toArray, List.set_cons_zero, List.set_cons_succ, i64_w, i32_w]
    rfl
  refine last_ (i := 12) (N := none) #[true, true, true, true, true, true, true, true, true, true, true, true, true] rfl rfl (by kernel_rfl) (by decide) (fun K_ hK => ?_)
  have c_0 := (HS10.out.node 3 rfl).c1
  have c_1 := (HS10.out.node 3 rfl).fz 1
  refine skip_ (w1 := ?_) (by rfl) rfl ?_ ?_
  rotate_left
  · go_simp
    rfl
  refine hK.out _ _ ?_
  clear hK K_ hHeld c_0 c_1
  refine done_ (by kernel_rfl) ?_
  have HS11 := Aside0.mk (HS10.out.put1 3 rfl (.slice (some ⟨g2, 0, none⟩) (pa.length + pb.length) c2))
  clear HS10
  generalize w10.setCell ⟨a, 1, none⟩ (.slice (some ⟨g2, 0, none⟩) (pa.length + pb.length) c2) = w11 at HS11 ⊢
  have c0 := (HS11.out.node 0 rfl).c0
  go_wp2_with (first
    | (go_at_call 49; refine (deleteE _ gk nk capK i ks i ((i : Int) + 1) (HS11.out.rowE 1 rfl) HNK.out hk (by omega) rfl rfl).mono ?_; clear c0; rintro E w12 ⟨rfl, hrow, hgrow⟩; have HS12 := Aside0.mk (HS11.out.setE 1 rfl hgrow hrow (.inl rfl)); clear HS11; clear hrow hgrow; have c0 := (HS12.out.node 0 rfl).c0; have f0 := (HS12.out.node 0 rfl).fz 0; have c1 := (HS12.out.node 0 rfl).c1)
    | (go_at_call 70; have HS13 := Aside0.mk (HS12.out.put0 0 rfl (.slice (some ⟨gk, 0, none⟩) (nk - 1) capK)); clear HS12; clear c0 f0 c1; refine (deleteP _ gc n capC (i + 1) ps ((i : Int) + 1) ((i : Int) + 2) (HS13.out.rowP 2 rfl) HN.out hi (by omega) (by simp) (by simp; omega)).mono ?_; rintro E w13 ⟨rfl, hrow, hgrow⟩; have HS14 := Aside0.mk (HS13.out.setP 2 rfl hgrow hrow (.inl rfl)); clear HS13; clear hrow hgrow; have c0 := (HS14.out.node 0 rfl).c1; have f0 := (HS14.out.node 0 rfl).fz 1))
  have HS15 := Aside0.mk (HS14.out.put1 0 rfl (.slice (some ⟨gc, 0, none⟩) (n - 1) capC))
  clear HS14
  generalize w13.setCell ⟨p, 1, none⟩ (.slice (some ⟨gc, 0, none⟩) (n - 1) capC) = w14 at HS15 ⊢
  clear c0 f0
  go_end0
  rw [← HR.out]
  have hl := Aside0.mk ((HS15.out.left : St _ _ _ (par2 p _ _ _ _ a _ _ _ _)))
  exact ⟨_, _, _, _, rfl, fun h => (by cases h), hl.out⟩
end Go.Proofs.Bt
end
section
namespace Go.Proofs.Bt
open Go Go.RowKit Go.Proofs.Ytjaddmflopahiaa.Q Go.Proofs.YtjaddmflopahiaaW.PrintWords Go.Proofs.YtjaddmflopahiaaW.PrintLast Go.Proofs.YtjaddmflopahiaaW.PrintMore
set_option linter.unusedVariables false
set_option linter.unusedSimpArgs false
set_option maxRecDepth 100000
structure KF (w : World) (gc j q : Nat) (A : Option Addr) (n cp : Nat) : Prop where
  c : w.cell? ⟨gc, j, none⟩ = some (.pointer (some ⟨q, 0, none⟩))
  k : w.cell? ⟨q, 0, none⟩ = some (.slice A n cp)
def MR (Q : World → Prop) (e : Ending) (w' : World) : Prop := e = .returned (.tuple #[]) ∧ Q w'
section
variable (w : World) (p gc n capC i q ql qr : Nat) (K : Value) (A Al Ar : Option Addr) (l c ll cl lr cr : Nat) (Q : World → Prop)
set_option maxHeartbeats 1000000 in
theorem mend_well (hN : NodeAt w p K (.slice (some ⟨gc, 0, none⟩) n capC)) (hi : i < n) (hn : n < 1000) (hk : KF w gc i q A l c) (hl : 2 ≤ l) :
    Calls Try.prog 50 #[.pointer (some ⟨p, 0, none⟩), .int .i64 i] w (MR (fun w' => w' = w)) := by
  have hp := hN.c1
  have h1 := hk.c
  have h2 := hk.k
  have hi1 : (i : Int) < (n : Int) := by omega
  have hlb : decide ((2 : Int) ≤ (l : Int)) = true := by simp; omega
  clear hk hN
  go_enter Try.func50, Try.ntmps50
  go_wp2
  go_end0
  exact ⟨rfl, rfl⟩
set_option maxHeartbeats 2000000 in
theorem mend_left (hN : NodeAt w p K (.slice (some ⟨gc, 0, none⟩) n capC)) (hi : i < n) (hn : n < 1000) (hk : KF w gc i q A l c) (hl : l < 2) (hi00 : 0 < i) (hkl : KF w gc (i - 1) ql Al ll cl) (hll : 2 < ll)
    (H : Calls Try.prog 62 #[.pointer (some ⟨p, 0, none⟩), .int .i64 i] w (MR Q)) : Calls Try.prog 50 #[.pointer (some ⟨p, 0, none⟩), .int .i64 i] w (MR Q) := by
  have hp := hN.c1
  have h1 := hk.c
  have h2 := hk.k
  have hi1 : (i : Int) < (n : Int) := by omega
  have hlb : decide ((2 : Int) ≤ (l : Int)) = false := by simp; omega
  have h1l := hkl.c
  have h2l := hkl.k
  have hi0 : (0 : Int) < (i : Int) := by omega
  have hi2 : i - 1 < n := by omega
  have hlbl : decide ((2 : Int) < (ll : Int)) = true := by simp; omega
  clear hkl
  have HH := Aside0.mk H
  clear hk hN H
  go_enter Try.func50, Try.ntmps50
  go_wp2_with (go_at_call 62; refine HH.out.mono ?_; rintro E w' ⟨rfl, hq⟩)
  go_end0
  exact ⟨rfl, hq⟩
set_option maxHeartbeats 2000000 in
theorem mend_right0 (hN : NodeAt w p K (.slice (some ⟨gc, 0, none⟩) n capC)) (hi : 0 < n) (hn : n < 1000) (hk : KF w gc 0 q A l c) (hl : l < 2) (hin : 1 < n) (hkr : KF w gc 1 qr Ar lr cr) (hrl : 2 < lr)
    (H : Calls Try.prog 63 #[.pointer (some ⟨p, 0, none⟩), .int .i64 0] w (MR Q)) : Calls Try.prog 50 #[.pointer (some ⟨p, 0, none⟩), .int .i64 0] w (MR Q) := by
  have hp := hN.c1
  have h1 := hk.c
  have h2 := hk.k
  have hi1 : (0 : Int) < (n : Int) := by omega
  have hlb : decide ((2 : Int) ≤ (l : Int)) = false := by simp; omega
  have h1r := hkr.c
  have h2r := hkr.k
  have hin2 : (1 : Int) < (n : Int) := by omega
  have hlbr : decide ((2 : Int) < (lr : Int)) = true := by simp; omega
  clear hkr
  have HH := Aside0.mk H
  clear hk hN H
  go_enter Try.func50, Try.ntmps50
  go_wp2_with (go_at_call 63; refine HH.out.mono ?_; rintro E w' ⟨rfl, hq⟩)
  go_end0
  exact ⟨rfl, hq⟩
set_option maxHeartbeats 2000000 in
theorem mend_right (hN : NodeAt w p K (.slice (some ⟨gc, 0, none⟩) n capC)) (hi : i < n) (hn : n < 1000) (hk : KF w gc i q A l c) (hl : l < 2) (hi00 : 0 < i) (hkl : KF w gc (i - 1) ql Al ll cl) (hll : ll ≤ 2) (hin : i + 1 < n) (hkr : KF w gc (i + 1) qr Ar lr cr) (hrl : 2 < lr)
    (H : Calls Try.prog 63 #[.pointer (some ⟨p, 0, none⟩), .int .i64 i] w (MR Q)) : Calls Try.prog 50 #[.pointer (some ⟨p, 0, none⟩), .int .i64 i] w (MR Q) := by
  have hp := hN.c1
  have h1 := hk.c
  have h2 := hk.k
  have hi1 : (i : Int) < (n : Int) := by omega
  have hlb : decide ((2 : Int) ≤ (l : Int)) = false := by simp; omega
  have h1l := hkl.c
  have h2l := hkl.k
  have hi0 : (0 : Int) < (i : Int) := by omega
  have hi2 : i - 1 < n := by omega
  have hlbl : decide ((2 : Int) < (ll : Int)) = false := by simp; omega
  clear hkl
  have h1r := hkr.c
  have h2r := hkr.k
  have hin2 : (i : Int) + 1 < (n : Int) := by omega
  have htn : ((i : Int) + 1).toNat = i + 1 := by omega
  have hlbr : decide ((2 : Int) < (lr : Int)) = true := by simp; omega
  clear hkr
  have HH := Aside0.mk H
  clear hk hN H
  go_enter Try.func50, Try.ntmps50
  go_wp2_with (go_at_call 63; refine HH.out.mono ?_; rintro E w' ⟨rfl, hq⟩)
  go_end0
  exact ⟨rfl, hq⟩
set_option maxHeartbeats 2000000 in
theorem mend_joinl (hN : NodeAt w p K (.slice (some ⟨gc, 0, none⟩) n capC)) (hi : i < n) (hn : n < 1000) (hk : KF w gc i q A l c) (hl : l < 2) (hi00 : 0 < i) (hkl : KF w gc (i - 1) ql Al ll cl) (hll : ll ≤ 2) (hin : i + 1 = n)
    (H : Calls Try.prog 64 #[.pointer (some ⟨p, 0, none⟩), .int .i64 ((i : Int) - 1)] w (MR Q)) : Calls Try.prog 50 #[.pointer (some ⟨p, 0, none⟩), .int .i64 i] w (MR Q) := by
  have hp := hN.c1
  have h1 := hk.c
  have h2 := hk.k
  have hi1 : (i : Int) < (n : Int) := by omega
  have hlb : decide ((2 : Int) ≤ (l : Int)) = false := by simp; omega
  have h1l := hkl.c
  have h2l := hkl.k
  have hi0 : (0 : Int) < (i : Int) := by omega
  have hi2 : i - 1 < n := by omega
  have hlbl : decide ((2 : Int) < (ll : Int)) = false := by simp; omega
  clear hkl
  have hlr : decide ((i : Int) + 1 < (n : Int)) = false := by simp; omega
  clear hin
  have HH := Aside0.mk H
  clear hk hN H
  go_enter Try.func50, Try.ntmps50
  go_wp2_with (go_at_call 64; refine HH.out.mono ?_; rintro E w' ⟨rfl, hq⟩)
  go_end0
  exact ⟨rfl, hq⟩
set_option maxHeartbeats 2000000 in
theorem mend_joinl2 (hN : NodeAt w p K (.slice (some ⟨gc, 0, none⟩) n capC)) (hi : i < n) (hn : n < 1000) (hk : KF w gc i q A l c) (hl : l < 2) (hi00 : 0 < i) (hkl : KF w gc (i - 1) ql Al ll cl) (hll : ll ≤ 2) (hin : i + 1 < n) (hkr : KF w gc (i + 1) qr Ar lr cr) (hrl : lr ≤ 2)
    (H : Calls Try.prog 64 #[.pointer (some ⟨p, 0, none⟩), .int .i64 ((i : Int) - 1)] w (MR Q)) : Calls Try.prog 50 #[.pointer (some ⟨p, 0, none⟩), .int .i64 i] w (MR Q) := by
  have hp := hN.c1
  have h1 := hk.c
  have h2 := hk.k
  have hi1 : (i : Int) < (n : Int) := by omega
  have hlb : decide ((2 : Int) ≤ (l : Int)) = false := by simp; omega
  have h1l := hkl.c
  have h2l := hkl.k
  have hi0 : (0 : Int) < (i : Int) := by omega
  have hi2 : i - 1 < n := by omega
  have hlbl : decide ((2 : Int) < (ll : Int)) = false := by simp; omega
  clear hkl
  have h1r := hkr.c
  have h2r := hkr.k
  have hin2 : (i : Int) + 1 < (n : Int) := by omega
  have htn : ((i : Int) + 1).toNat = i + 1 := by omega
  have hlbr : decide ((2 : Int) < (lr : Int)) = false := by simp; omega
  clear hkr
  have HH := Aside0.mk H
  clear hk hN H
  go_enter Try.func50, Try.ntmps50
  go_wp2_with (go_at_call 64; refine HH.out.mono ?_; rintro E w' ⟨rfl, hq⟩)
  go_end0
  exact ⟨rfl, hq⟩
set_option maxHeartbeats 2000000 in
theorem mend_join0 (hN : NodeAt w p K (.slice (some ⟨gc, 0, none⟩) n capC)) (hi : 0 < n) (hn : n < 1000) (hk : KF w gc 0 q A l c) (hl : l < 2) (hin : 1 < n) (hkr : KF w gc 1 qr Ar lr cr) (hrl : lr ≤ 2)
    (H : Calls Try.prog 64 #[.pointer (some ⟨p, 0, none⟩), .int .i64 0] w (MR Q)) : Calls Try.prog 50 #[.pointer (some ⟨p, 0, none⟩), .int .i64 0] w (MR Q) := by
  have hp := hN.c1
  have h1 := hk.c
  have h2 := hk.k
  have hi1 : (0 : Int) < (n : Int) := by omega
  have hlb : decide ((2 : Int) ≤ (l : Int)) = false := by simp; omega
  have h1r := hkr.c
  have h2r := hkr.k
  have hin2 : (1 : Int) < (n : Int) := by omega
  have hlbr : decide ((2 : Int) < (lr : Int)) = false := by simp; omega
  clear hkr
  have HH := Aside0.mk H
  clear hk hN H
  go_enter Try.func50, Try.ntmps50
  go_wp2_with (go_at_call 64; refine HH.out.mono ?_; rintro E w' ⟨rfl, hq⟩)
  go_end0
  exact ⟨rfl, hq⟩
end
end Go.Proofs.Bt
end
section
namespace Go.Proofs.Bt
open Go Go.RowKit Go.Proofs.Ytjaddmflopahiaa.Q
set_option linter.unusedVariables false
set_option linter.unusedSimpArgs false
def bleft : (h : Nat) → BT h → BT h → S29 → S29 × BT h × BT h
  | 0, a, b, _ => (List.getLastD (α := S29) a z29, List.dropLast (α := S29) a, List.cons (α := S29) (List.getLastD (α := S29) a z29) b)
  | _ + 1, a, b, z => (a.1.getLastD z29, (a.1.dropLast, a.2.dropLast), (z :: b.1, a.2.getLast?.toList ++ b.2))
def bright : (h : Nat) → BT h → BT h → S29 → S29 × BT h × BT h
  | 0, a, b, _ => (List.getD (α := S29) b 1 z29, List.append (α := S29) a [List.getD (α := S29) b 0 z29], List.tail (α := S29) b)
  | _ + 1, a, b, z => (b.1.getD 0 z29, (a.1 ++ [z], a.2 ++ b.2.head?.toList), (b.1.tail, b.2.tail))
def bjoin : (h : Nat) → BT h → BT h → S29 → BT h
  | 0, a, b, _ => List.append (α := S29) a b
  | _ + 1, a, b, z => (a.1 ++ [z] ++ b.1, a.2 ++ b.2)
def blen (h : Nat) (t : BT h) : Nat := (bkeys h t).length
def bmend (h : Nat) (ks : List S29) (A : List (BT h)) (c : BT h) (B : List (BT h)) : List S29 × List (BT h) :=
  if 2 ≤ blen h c then (ks, A ++ c :: B)
  else match A.getLast? with
    | some l =>
      if 2 < blen h l then
        let r := bleft h l c (ks.getD (A.length - 1) z29)
        (ks.set (A.length - 1) r.1, A.dropLast ++ r.2.1 :: r.2.2 :: B)
      else match B with
        | r :: B' =>
          if 2 < blen h r then
            let q := bright h c r (ks.getD A.length z29)
            (ks.set A.length q.1, A ++ q.2.1 :: q.2.2 :: B')
          else (delAt ks (A.length - 1), A.dropLast ++ bjoin h l c (ks.getD (A.length - 1) z29) :: r :: B')
        | [] => (delAt ks (A.length - 1), A.dropLast ++ [bjoin h l c (ks.getD (A.length - 1) z29)])
    | none => match B with
      | r :: B' =>
        if 2 < blen h r then
          let q := bright h c r (ks.getD 0 z29)
          (ks.set 0 q.1, q.2.1 :: q.2.2 :: B')
        else (delAt ks 0, bjoin h c r (ks.getD 0 z29) :: B')
      | [] => (ks, [c])
def cutIn {β : Type} (md : List S29 → List β → β → List β → List S29 × List β) (rec : β → β × Bool) (ks : List S29) (ts : List β) (e : S29) : (List S29 × List β) × Bool :=
  match ts[kidIx ks e]? with
  | none => ((ks, ts), false)
  | some k => (md ks (ts.take (kidIx ks e)) (rec k).1 (ts.drop (kidIx ks e + 1)), (rec k).2)
def bcut : (h : Nat) → BT h → S29 → BT h × Bool
  | 0, ks, e => (if found ks e = true then delAt (α := S29) ks (low ks e) else ks, found ks e)
  | h + 1, t, e => cutIn (bmend h) (fun k => bcut h k e) t.1 t.2 e
theorem cutIn_at {β : Type} (md : List S29 → List β → β → List β → List S29 × List β) (rec : β → β × Bool) (ks : List S29) (A : List β) (k : β) (B : List β) (e : S29) (hA : A.length = kidIx ks e) :
    cutIn md rec ks (A ++ k :: B) e = (md ks A (rec k).1 B, (rec k).2) := by
  have hg : (A ++ k :: B)[kidIx ks e]? = some k := by
    rw [← hA, List.getElem?_append_right (Nat.le_refl _)]
    simp
  have ht : (A ++ k :: B).take (kidIx ks e) = A := by rw [← hA, List.take_left]
  have hd : (A ++ k :: B).drop (kidIx ks e + 1) = B := by
    rw [← hA, List.drop_append]
    simp
  unfold cutIn
  simp only [hg, ht, hd]
theorem bcut_at (h : Nat) (ks : List S29) (A : List (BT h)) (k : BT h) (B : List (BT h)) (e : S29) (hA : A.length = kidIx ks e) :
    bcut (h + 1) (ks, A ++ k :: B) e = (bmend h ks A (bcut h k e).1 B, (bcut h k e).2) := cutIn_at (bmend h) (fun k => bcut h k e) ks A k B e hA
theorem delAt_length {α : Type} (l : List α) (i : Nat) (h : i < l.length) : (delAt l i).length + 1 = l.length := by rw [delAt_len l i h]; omega
theorem bmend_shape (h : Nat) (ks : List S29) (A : List (BT h)) (c : BT h) (B : List (BT h)) (hl : A.length + B.length = ks.length) :
    (bmend h ks A c B).2.length = (bmend h ks A c B).1.length + 1 ∧ (bmend h ks A c B).1.length ≤ ks.length ∧ ks.length ≤ (bmend h ks A c B).1.length + 1 := by
  unfold bmend
  by_cases hc : 2 ≤ blen h c
  · rw [if_pos hc]
    simp; omega
  · rw [if_neg hc]
    rcases List.eq_nil_or_concat A with rfl | ⟨X, l, hAl⟩
    · simp only [List.getLast?_nil]
      cases B with
      | nil =>
        simp only [List.length_nil] at hl
        simp only [List.length_cons, List.length_nil]
        omega
      | cons r B' =>
        simp only [List.length_nil, List.length_cons, Nat.zero_add] at hl
        by_cases hr : 2 < blen h r
        · simp only [if_pos hr]
          simp; omega
        · simp only [if_neg hr]
          have := delAt_length ks 0 (by omega)
          simp; omega
    · have hAl : A = X ++ [l] := by simpa using hAl
      subst hAl
      have hgl : (X ++ [l]).getLast? = some l := by simp
      have hll : (X ++ [l]).length = X.length + 1 := by simp
      rw [hll] at hl
      simp only [hgl]
      have hd := delAt_length ks X.length (by omega)
      by_cases hl2 : 2 < blen h l
      · simp only [if_pos hl2]
        simp; omega
      · simp only [if_neg hl2]
        cases B with
        | nil =>
          simp only [List.length_nil, Nat.add_zero] at hl
          simp; omega
        | cons r B' =>
          simp only [List.length_cons] at hl
          by_cases hr : 2 < blen h r
          · simp only [if_pos hr]
            simp; omega
          · simp only [if_neg hr]
            simp; omega
def CutFit (e : S29) : (h : Nat) → BT h → Prop
  | 0, ks => List.length (α := S29) ks < 900 ∧ Mono ks e
  | h + 1, t => 1 ≤ t.1.length ∧ t.1.length < 900 ∧ Mono t.1 e ∧ t.2.length = t.1.length + 1 ∧ ∀ k ∈ t.2, CutFit e h k ∧ 2 ≤ blen h k
theorem leaf_cut_len (ks : List S29) (e : S29) : ks.length ≤ (if found ks e = true then delAt ks (low ks e) else ks).length + 1 ∧ (if found ks e = true then delAt ks (low ks e) else ks).length ≤ ks.length := by
  split
  · rename_i hf
    have := delAt_length ks _ (found_lt hf)
    omega
  · omega
theorem CutFit.lt {e : S29} : ∀ {h : Nat} {t : BT h}, CutFit e h t → blen h t < 900
  | 0, t, hf => hf.1
  | _ + 1, t, hf => hf.2.1
theorem CutFit.kids {e : S29} : ∀ {h : Nat} {t : BT h}, CutFit e h t → h = 0 ∨ bkids h t = blen h t + 1
  | 0, t, hf => .inl rfl
  | _ + 1, t, hf => .inr hf.2.2.2.1
theorem bcut_shape : ∀ (h : Nat) (t : BT h) (e : S29), CutFit e h t → blen h t ≤ blen h (bcut h t e).1 + 1 ∧ blen h (bcut h t e).1 ≤ blen h t ∧ (h = 0 ∨ bkids h (bcut h t e).1 = blen h (bcut h t e).1 + 1)
  | 0, t, e, hf => ⟨(leaf_cut_len t e).1, (leaf_cut_len t e).2, .inl rfl⟩
  | h + 1, t, e, hf => by
    obtain ⟨ks, ts⟩ := t
    obtain ⟨h1, h2, h3, h4, h5⟩ := hf
    change ts.length = ks.length + 1 at h4
    have hi := kidIx_le ks e
    obtain ⟨A, k, B, rfl, hA⟩ := cut_at ts (kidIx ks e) (by omega)
    have hx : bcut (h + 1) (ks, A ++ k :: B) e = _ := bcut_at h ks A k B e hA
    rw [List.length_append, List.length_cons] at h4
    obtain ⟨g1, g2, g3⟩ := bmend_shape h ks A (bcut h k e).1 B (by omega)
    rw [hx]
    exact ⟨g3, g2, .inr g1⟩
def tcut (h : Nat) (t : BT h) (e : S29) : (Σ h, BT h) × Bool :=
  if (bcut h t e).2 = true then (match h, (bcut h t e).1 with
    | 0, t' => ⟨0, t'⟩
    | h + 1, t' => match t'.1, t'.2 with
      | [], k :: _ => ⟨h, k⟩
      | _, _ => ⟨h + 1, t'⟩, true)
  else (⟨h, (bcut h t e).1⟩, false)
end Go.Proofs.Bt
end
