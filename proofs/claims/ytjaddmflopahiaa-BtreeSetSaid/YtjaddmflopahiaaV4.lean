/- Packed by shake.py: YtjaddmflopahiaaC3 YtjaddmflopahiaaC4 YtjaddmflopahiaaC5 YtjaddmflopahiaaC6 YtjaddmflopahiaaC7 YtjaddmflopahiaaC8 YtjaddmflopahiaaC9 YtjaddmflopahiaaD3 YtjaddmflopahiaaD1 -/
import Derived.Test.YtjaddmflopahiaaV3
section
namespace Go.Proofs.Bt
open Go Go.RowKit Go.Proofs.Ytjaddmflopahiaa.Q Go.Proofs.YtjaddmflopahiaaW.PrintWords Go.Proofs.YtjaddmflopahiaaW.PrintLast Go.Proofs.YtjaddmflopahiaaW.PrintMore
set_option linter.unusedVariables false
set_option linter.unusedSimpArgs false
set_option maxRecDepth 100000
set_option maxHeartbeats 4000000 in
theorem join_leaf (w : World) (p a b : Nat) (K C Ka Kb : Value) (ks : List S29) (ps : List Value) (i : Nat) (ka kb : List S29) (F : Nat → Prop) (hs : St w F w (par3 p K C ks ps a Ka (.slice none 0 0) ka [] b Kb (.slice none 0 0) kb []))
    (hi : i + 1 < ps.length) (hpa : ps[i]? = some (.pointer (some ⟨a, 0, none⟩))) (hpb : ps[i + 1]? = some (.pointer (some ⟨b, 0, none⟩))) (hps : ps.length < 1000) (hk : i < ks.length) (hks : ks.length < 1000) (hka : (ka).length < 1000) (hkb : (kb).length < 1000) (hpal : ([] : List Value).length < 1000) (hpbl : ([] : List Value).length < 1000) (hb0 : 0 < kb.length) :
    Calls Try.prog 64 #[.pointer (some ⟨p, 0, none⟩), .int .i64 i] w (JoinPost w F p (delAt ks i) (delAt ps (i + 1)) a (ka ++ kb) [] true) := by
  have hu29 := Try.underlying29
  have hu62 := Try.underlying62
  obtain ⟨gc, capC, rfl, hcapC⟩ := rowP_form (hs.rowP 2 rfl) (by omega)
  obtain ⟨gk, capK, rfl, hcapK⟩ := (hs.rowE 1 rfl).formS (by omega)
  have HPA := Aside0.mk hpa
  have HPB := Aside0.mk hpb
  obtain ⟨n, hn⟩ : ∃ n, ps.length = n := ⟨_, rfl⟩
  obtain ⟨nk, hnk⟩ : ∃ n, ks.length = n := ⟨_, rfl⟩
  rw [hn, hnk] at hs
  rw [hn] at hi hps hcapC
  rw [hnk] at hk hks hcapK
  have HN := Aside0.mk hn
  have HNK := Aside0.mk hnk
  obtain ⟨R, hR⟩ : ∃ R, (JoinPost w F p (delAt ks i) (delAt ps (i + 1)) a (ka ++ kb) [] true) = R := ⟨_, rfl⟩
  have HR := Aside0.mk hR
  try rw [hn, hnk]
  show Calls _ _ _ _ (JoinPost w F p (delAt ks i) (delAt ps (i + 1)) a (ka ++ kb) [] true)
  rw [hR]
  clear hR
  have HS := Aside0.mk hs
  have hi0 : (0 : Int) ≤ (i : Int) := by omega
  have hi1 : (i : Int) < (n : Int) := by omega
  have hi2 : (0 : Int) ≤ (i : Int) + 1 := by omega
  have hi3 : (i : Int) + 1 < (n : Int) := by omega
  have hik : (i : Int) < (nk : Int) := by omega
  have hw1 : IntKind.i64.wrap ((i : Int) + 1) = (i : Int) + 1 := by rw [IntKind.wrap_i64]; omega
  have htn : ((i : Int) + 1).toNat = i + 1 := by omega
  clear hs hpa hpb hn hnk
  go_enter Try.func64, Try.ntmps64
  go_wp2
  refine start_ (n := 17) (S := fun w' => w'.cell? ⟨p, 1, none⟩ = some (.slice (some ⟨gc, 0, none⟩) n capC) ∧ w'.cell? ⟨gc, i, none⟩ = some (.pointer (some ⟨a, 0, none⟩)) ∧ w'.cell? ⟨gc, i + 1, none⟩ = some (.pointer (some ⟨b, 0, none⟩))) (ds := []) #[false, false, false, false, false, false, false, false, false, false, false, false, false, false, false, false, false] (by kernel_rfl) rfl rfl ⟨(HS.out.node 0 rfl).c1, (HS.out.rowP 2 rfl).cell (by rw [← HN.out]) i _ HPA.out, (HS.out.rowP 2 rfl).cell (by rw [← HN.out]) (i + 1) _ HPB.out⟩ (fun hHeld => ?_)
  have HS1 := Aside0.mk (HS.out.drew)
  clear HS
  generalize w.drew = w1 at HS1 hHeld  ⊢
  refine pure_ (i := 0) (N := (some 6)) (v := ?_) (a' := ?_) #[true, false, false, false, false, false, false, false, false, false, false, false, false, false, false, false, false] rfl rfl (by kernel_rfl) (fun _ _ _ h => h) (Or.inl ⟨by rfl, ?_⟩) ?_ ?_
  rotate_left
  · intro w'
    go_simp
    with_reducible rfl
  rotate_left
  · simp only [Act.put, List.setIfInBounds_toArray, List.set_cons_zero, List.set_cons_succ, i64_w, i32_w]
    rfl
  refine pure_ (i := 1) (N := (some 7)) (v := ?_) (a' := ?_) #[true, true, false, false, false, false, false, false, false, false, false, false, false, false, false, false, false] rfl rfl (by kernel_rfl) (fun _ _ _ h => h) (Or.inl ⟨by rfl, ?_⟩) ?_ ?_
  rotate_left
  · intro w'
    go_simp
    with_reducible rfl
  rotate_left
  · simp only [Act.put, List.setIfInBounds_toArray, List.set_cons_zero, List.set_cons_succ, i64_w, i32_w]
    rfl
  refine pure_ (i := 2) (N := (some 8)) (v := ?_) (a' := ?_) #[true, true, true, false, false, false, false, false, false, false, false, false, false, false, false, false, false] rfl rfl (by kernel_rfl) (fun _ _ _ h => h) (Or.inl ⟨by rfl, ?_⟩) ?_ ?_
  rotate_left
  · intro w'
    go_simp
    with_reducible rfl
  rotate_left
  · simp only [Act.put, List.setIfInBounds_toArray, List.set_cons_zero, List.set_cons_succ, i64_w, i32_w]
    rfl
  refine pure_ (i := 4) (N := (some 10)) (v := ?_) (a' := ?_) #[true, true, true, false, true, false, false, false, false, false, false, false, false, false, false, false, false] rfl rfl (by kernel_rfl) (fun _ _ _ h => h) (Or.inl ⟨by rfl, ?_⟩) ?_ ?_
  rotate_left
  · intro w'
    go_simp
    with_reducible rfl
  rotate_left
  · simp only [Act.put, List.setIfInBounds_toArray, List.set_cons_zero, List.set_cons_succ, i64_w, i32_w]
    rfl
  refine pure_ (i := 7) (N := (some 13)) (v := ?_) (a' := ?_) #[true, true, true, false, true, false, false, true, false, false, false, false, false, false, false, false, false] rfl rfl (by kernel_rfl) (fun _ _ _ h => h) (Or.inl ⟨by rfl, ?_⟩) ?_ ?_
  rotate_left
  · intro w'
    go_simp
    with_reducible rfl
  rotate_left
  · simp only [Act.put, List.setIfInBounds_toArray, List.set_cons_zero, List.set_cons_succ, i64_w, i32_w]
    rfl
  refine pure_ (i := 8) (N := (some 14)) (v := ?_) (a' := ?_) #[true, true, true, false, true, false, false, true, true, false, false, false, false, false, false, false, false] rfl rfl (by kernel_rfl) (fun _ _ _ h => h) (Or.inl ⟨by rfl, ?_⟩) ?_ ?_
  rotate_left
  · intro w'
    go_simp
    with_reducible rfl
  rotate_left
  · simp only [Act.put, List.setIfInBounds_toArray, List.set_cons_zero, List.set_cons_succ, i64_w, i32_w]
    rfl
  refine pure_ (i := 9) (N := (some 15)) (v := ?_) (a' := ?_) #[true, true, true, false, true, false, false, true, true, true, false, false, false, false, false, false, false] rfl rfl (by kernel_rfl) (fun _ _ _ h => h) (Or.inl ⟨by rfl, ?_⟩) ?_ ?_
  rotate_left
  · intro w'
    go_simp
    with_reducible rfl
  rotate_left
  · simp only [Act.put, List.setIfInBounds_toArray, List.set_cons_zero, List.set_cons_succ, i64_w, i32_w]
    rfl
  refine pure_ (i := 11) (N := (some 17)) (v := ?_) (a' := ?_) #[true, true, true, false, true, false, false, true, true, true, false, true, false, false, false, false, false] rfl rfl (by kernel_rfl) (fun _ _ _ h => h) (Or.inl ⟨by rfl, ?_⟩) ?_ ?_
  rotate_left
  · intro w'
    go_simp
    with_reducible rfl
  rotate_left
  · simp only [Act.put, List.setIfInBounds_toArray, List.set_cons_zero, List.set_cons_succ, i64_w, i32_w]
    rfl
  refine pure_ (i := 12) (N := (some 18)) (v := ?_) (a' := ?_) #[true, true, true, false, true, false, false, true, true, true, false, true, true, false, false, false, false] rfl rfl (by kernel_rfl) (fun _ _ _ h => h) (Or.inl ⟨by rfl, ?_⟩) ?_ ?_
  rotate_left
  · intro w'
    go_simp
    with_reducible rfl
  rotate_left
  · simp only [Act.put, List.setIfInBounds_toArray, List.set_cons_zero, List.set_cons_succ, i64_w, i32_w]
    rfl
  refine take_ (i := 3) (N := (some 9)) (v := ?_) (a' := ?_) #[true, true, true, true, true, false, false, true, true, true, false, true, true, false, false, false, false] rfl rfl (by kernel_rfl) (fun _ _ _ h => h) (Or.inl ⟨by rfl, ?_⟩) hHeld ?_ ?_
  rotate_left
  · rintro w' ⟨s0, s1, s2⟩
    go_simp
    with_reducible rfl
  rotate_left
  · simp only [Act.put, List.setIfInBounds_toArray, List.set_cons_zero, List.set_cons_succ, i64_w, i32_w]
    rfl
  refine pure_ (i := 5) (N := (some 11)) (v := ?_) (a' := ?_) #[true, true, true, true, true, true, false, true, true, true, false, true, true, false, false, false, false] rfl rfl (by kernel_rfl) (fun _ _ _ h => h) (Or.inl ⟨by rfl, ?_⟩) ?_ ?_
  rotate_left
  · intro w'
    go_simp
    with_reducible rfl
  rotate_left
  · simp only [Act.put, List.setIfInBounds_toArray, List.set_cons_zero, List.set_cons_succ, i64_w, i32_w]
    rfl
  refine take_ (i := 6) (N := (some 12)) (v := ?_) (a' := ?_) #[true, true, true, true, true, true, true, true, true, true, false, true, true, false, false, false, false] rfl rfl (by kernel_rfl) (fun _ _ _ h => h) (Or.inl ⟨by rfl, ?_⟩) hHeld ?_ ?_
  rotate_left
  · rintro w' ⟨s0, s1, s2⟩
    go_simp
    with_reducible rfl
  rotate_left
  · simp only [Act.put, List.setIfInBounds_toArray, List.set_cons_zero, List.set_cons_succ, i64_w, i32_w]
    rfl
  refine pure_ (i := 15) (N := (some 4)) (v := ?_) (a' := ?_) #[true, true, true, true, true, true, true, true, true, true, false, true, true, false, false, true, false] rfl rfl (by kernel_rfl) (fun _ _ _ h => h) (Or.inl ⟨by rfl, ?_⟩) ?_ ?_
  rotate_left
  · intro w'
    go_simp
    with_reducible rfl
  rotate_left
  · simp only [Act.put, List.setIfInBounds_toArray, List.set_cons_zero, List.set_cons_succ, i64_w, i32_w]
    rfl
  refine take_ (i := 10) (N := (some 16)) (v := ?_) (a' := ?_) #[true, true, true, true, true, true, true, true, true, true, true, true, true, false, false, true, false] rfl rfl (by kernel_rfl) (fun _ _ _ h => h) (Or.inl ⟨by rfl, ?_⟩) hHeld ?_ ?_
  rotate_left
  · rintro w' ⟨s0, s1, s2⟩
    go_simp
    with_reducible rfl
  rotate_left
  · simp only [Act.put, List.setIfInBounds_toArray, List.set_cons_zero, List.set_cons_succ, i64_w, i32_w]
    rfl
  refine pure_ (i := 13) (N := (some 19)) (v := ?_) (a' := ?_) #[true, true, true, true, true, true, true, true, true, true, true, true, true, true, false, true, false] rfl rfl (by kernel_rfl) (fun _ _ _ h => h) (Or.inl ⟨by rfl, ?_⟩) ?_ ?_
  rotate_left
  · intro w'
    go_simp
    with_reducible rfl
  rotate_left
  · simp only [Act.put, List.setIfInBounds_toArray, List.set_cons_zero, List.set_cons_succ, i64_w, i32_w]
    rfl
  refine take_ (i := 14) (N := (some 20)) (v := ?_) (a' := ?_) #[true, true, true, true, true, true, true, true, true, true, true, true, true, true, true, true, false] rfl rfl (by kernel_rfl) (fun _ _ _ h => h) (Or.inl ⟨by rfl, ?_⟩) hHeld ?_ ?_
  rotate_left
  · rintro w' ⟨s0, s1, s2⟩
    go_simp
    with_reducible rfl
  rotate_left
  · simp only [Act.put, List.setIfInBounds_toArray, List.set_cons_zero, List.set_cons_succ, i64_w, i32_w]
    rfl
  refine pure_ (i := 16) (N := (some 5)) (v := ?_) (a' := ?_) #[true, true, true, true, true, true, true, true, true, true, true, true, true, true, true, true, true] rfl rfl (by kernel_rfl) (fun _ _ _ h => h) (Or.inl ⟨by rfl, ?_⟩) ?_ ?_
  rotate_left
  · intro w'
    go_simp
    with_reducible rfl
  rotate_left
  · simp only [Act.put, List.setIfInBounds_toArray, List.set_cons_zero, List.set_cons_succ, i64_w, i32_w]
    rfl
  refine done_ (by kernel_rfl) ?_
  go_wp2_with (first
    | (go_at_call 30; refine (leaf_calls _ a Ka none 0 0 (HS1.out.node 3 rfl)).mono ?_; rintro E w1 ⟨rfl, rfl⟩))
  refine start_ (n := 13) (S := fun w' => w'.cell? ⟨a, 0, none⟩ = some (Ka) ∧ w'.cell? ⟨b, 0, none⟩ = some (Kb)) (ds := [12]) #[false, false, false, false, false, false, false, false, false, false, false, false, false] (by kernel_rfl) rfl rfl ⟨(HS1.out.node 3 rfl).c0, (HS1.out.node 6 rfl).c0⟩ (fun hHeld => ?_)
  have HS2 := Aside0.mk (HS1.out.drew)
  clear HS1
  generalize w1.drew = w2 at HS2 hHeld  ⊢
  refine pure_ (i := 0) (N := (some 40)) (v := ?_) (a' := ?_) #[true, false, false, false, false, false, false, false, false, false, false, false, false] rfl rfl (by kernel_rfl) (fun _ _ _ h => h) (Or.inl ⟨by rfl, ?_⟩) ?_ ?_
  rotate_left
  · intro w'
    go_simp
    with_reducible rfl
  rotate_left
  · simp only [Act.put, List.setIfInBounds_toArray, List.set_cons_zero, List.set_cons_succ, i64_w, i32_w]
    rfl
  refine pure_ (i := 1) (N := (some 41)) (v := ?_) (a' := ?_) #[true, true, false, false, false, false, false, false, false, false, false, false, false] rfl rfl (by kernel_rfl) (fun _ _ _ h => h) (Or.inl ⟨by rfl, ?_⟩) ?_ ?_
  rotate_left
  · intro w'
    go_simp
    with_reducible rfl
  rotate_left
  · simp only [Act.put, List.setIfInBounds_toArray, List.set_cons_zero, List.set_cons_succ, i64_w, i32_w]
    rfl
  refine pure_ (i := 2) (N := (some 42)) (v := ?_) (a' := ?_) #[true, true, true, false, false, false, false, false, false, false, false, false, false] rfl rfl (by kernel_rfl) (fun _ _ _ h => h) (Or.inl ⟨by rfl, ?_⟩) ?_ ?_
  rotate_left
  · intro w'
    go_simp
    with_reducible rfl
  rotate_left
  · simp only [Act.put, List.setIfInBounds_toArray, List.set_cons_zero, List.set_cons_succ, i64_w, i32_w]
    rfl
  refine pure_ (i := 3) (N := (some 43)) (v := ?_) (a' := ?_) #[true, true, true, true, false, false, false, false, false, false, false, false, false] rfl rfl (by kernel_rfl) (fun _ _ _ h => h) (Or.inl ⟨by rfl, ?_⟩) ?_ ?_
  rotate_left
  · intro w'
    go_simp
    with_reducible rfl
  rotate_left
  · simp only [Act.put, List.setIfInBounds_toArray, List.set_cons_zero, List.set_cons_succ, i64_w, i32_w]
    rfl
  refine pure_ (i := 5) (N := (some 45)) (v := ?_) (a' := ?_) #[true, true, true, true, false, true, false, false, false, false, false, false, false] rfl rfl (by kernel_rfl) (fun _ _ _ h => h) (Or.inl ⟨by rfl, ?_⟩) ?_ ?_
  rotate_left
  · intro w'
    go_simp
    with_reducible rfl
  rotate_left
  · simp only [Act.put, List.setIfInBounds_toArray, List.set_cons_zero, List.set_cons_succ, i64_w, i32_w]
    rfl
  refine pure_ (i := 6) (N := (some 46)) (v := ?_) (a' := ?_) #[true, true, true, true, false, true, true, false, false, false, false, false, false] rfl rfl (by kernel_rfl) (fun _ _ _ h => h) (Or.inl ⟨by rfl, ?_⟩) ?_ ?_
  rotate_left
  · intro w'
    go_simp
    with_reducible rfl
  rotate_left
  · simp only [Act.put, List.setIfInBounds_toArray, List.set_cons_zero, List.set_cons_succ, i64_w, i32_w]
    rfl
  refine pure_ (i := 7) (N := (some 47)) (v := ?_) (a' := ?_) #[true, true, true, true, false, true, true, true, false, false, false, false, false] rfl rfl (by kernel_rfl) (fun _ _ _ h => h) (Or.inl ⟨by rfl, ?_⟩) ?_ ?_
  rotate_left
  · intro w'
    go_simp
    with_reducible rfl
  rotate_left
  · simp only [Act.put, List.setIfInBounds_toArray, List.set_cons_zero, List.set_cons_succ, i64_w, i32_w]
    rfl
  refine take_ (i := 4) (N := (some 44)) (v := ?_) (a' := ?_) #[true, true, true, true, true, true, true, true, false, false, false, false, false] rfl rfl (by kernel_rfl) (fun _ _ _ h => h) (Or.inl ⟨by rfl, ?_⟩) hHeld ?_ ?_
  rotate_left
  · rintro w' ⟨s0, s1⟩
    go_simp
    with_reducible rfl
  rotate_left
  · simp only [Act.put, List.setIfInBounds_toArray, List.set_cons_zero, List.set_cons_succ, i64_w, i32_w]
    rfl
  refine take_ (i := 8) (N := (some 48)) (v := ?_) (a' := ?_) #[true, true, true, true, true, true, true, true, true, false, false, false, false] rfl rfl (by kernel_rfl) (fun _ _ _ h => h) (Or.inl ⟨by rfl, ?_⟩) hHeld ?_ ?_
  rotate_left
  · rintro w' ⟨s0, s1⟩
    go_simp
    with_reducible rfl
  rotate_left
  · simp only [Act.put, List.setIfInBounds_toArray, List.set_cons_zero, List.set_cons_succ, i64_w, i32_w]
    rfl
  refine one_ (i := 9) (N := (some 49)) #[true, true, true, true, true, true, true, true, true, true, false, false, false] rfl rfl (by kernel_rfl) (by decide) (fun K_ hK => ?_)
  obtain ⟨g1, c1, w3, hrun, hrow, hgrow, hown⟩ := appendEs _ (Ka) (Kb) (ka) (kb) _ (HS2.out.rowE 4 rfl) (HS2.out.rowE 7 rfl) (by omega) (by omega)
  refine appended_ (.tmp 44) (.tmp 48) 22 22 (by rfl) rfl rfl Ka Kb (by rfl) (by rfl) hrun ?_
  clear hrun
  have HS3 := Aside0.mk (HS2.out.setE 4 rfl hgrow hrow hown)
  clear HS2
  clear hrow hgrow hown
  clear hHeld
  refine hK.out _ _ ⟨(HS3.out.node 3 rfl).c0, (HS3.out.node 6 rfl).c0⟩ (fun hHeld => ?_)
  clear hK K_
  refine norm_ (a' := ?_) ?_ ?_
  rotate_left
  · show Act.put _ (some 49) _ = _
    simp only [Act.put, List.setIfInBounds_toArray, List.set_cons_zero, List.set_cons_succ, i64_w, i32_w]
    rfl
  refine pure_ (i := 10) (N := (some 50)) (v := ?_) (a' := ?_) #[true, true, true, true, true, true, true, true, true, true, true, false, false] rfl rfl (by kernel_rfl) (fun _ _ _ h => h) (Or.inl ⟨by rfl, ?_⟩) ?_ ?_
  rotate_left
  · intro w'
    go_simp
    with_reducible rfl
  rotate_left
  · simp only [Act.put, List.setIfInBounds_toArray, List.set_cons_zero, List.set_cons_succ, i64_w, i32_w]
    rfl
  refine pure_ (i := 11) (N := (some 51)) (v := ?_) (a' := ?_) #[true, true, true, true, true, true, true, true, true, true, true, true, false] rfl rfl (by kernel_rfl) (fun _ _ _ h => h) (Or.inl ⟨by rfl, ?_⟩) ?_ ?_
  rotate_left
  · intro w'
    go_simp
    with_reducible rfl
  rotate_left
  · simp only [Act.put, List.setIfInBounds_toArray, List.set_cons_zero, List.set_cons_succ, i64_w, i32_w]
    rfl
  refine last_ (i := 12) (N := none) #[true, true, true, true, true, true, true, true, true, true, true, true, true] rfl rfl (by kernel_rfl) (by decide) (fun K_ hK => ?_)
  have c_0 := (HS3.out.node 3 rfl).c0
  have c_1 := (HS3.out.node 3 rfl).fz 0
  refine skip_ (w1 := ?_) (by rfl) rfl ?_ ?_
  rotate_left
  · go_simp
    rfl
  refine hK.out _ _ ?_
  clear hK K_ hHeld c_0 c_1
  refine done_ (by kernel_rfl) ?_
  have HS4 := Aside0.mk (HS3.out.put0 3 rfl (.slice (some ⟨g1, 0, none⟩) (ka.length + kb.length) c1))
  clear HS3
  generalize w3.setCell ⟨a, 0, none⟩ (.slice (some ⟨g1, 0, none⟩) (ka.length + kb.length) c1) = w4 at HS4 ⊢
  go_wp2
  refine start_ (n := 13) (S := fun w' => w'.cell? ⟨a, 1, none⟩ = some (.slice none 0 0) ∧ w'.cell? ⟨b, 1, none⟩ = some (.slice none 0 0)) (ds := [12]) #[false, false, false, false, false, false, false, false, false, false, false, false, false] (by kernel_rfl) rfl rfl ⟨(HS4.out.node 3 rfl).c1, (HS4.out.node 6 rfl).c1⟩ (fun hHeld => ?_)
  have HS5 := Aside0.mk (HS4.out.drew)
  clear HS4
  generalize w4.drew = w5 at HS5 hHeld  ⊢
  refine pure_ (i := 0) (N := (some 52)) (v := ?_) (a' := ?_) #[true, false, false, false, false, false, false, false, false, false, false, false, false] rfl rfl (by kernel_rfl) (fun _ _ _ h => h) (Or.inl ⟨by rfl, ?_⟩) ?_ ?_
  rotate_left
  · intro w'
    go_simp
    with_reducible rfl
  rotate_left
  · simp only [Act.put, List.setIfInBounds_toArray, List.set_cons_zero, List.set_cons_succ, i64_w, i32_w]
    rfl
  refine pure_ (i := 1) (N := (some 53)) (v := ?_) (a' := ?_) #[true, true, false, false, false, false, false, false, false, false, false, false, false] rfl rfl (by kernel_rfl) (fun _ _ _ h => h) (Or.inl ⟨by rfl, ?_⟩) ?_ ?_
  rotate_left
  · intro w'
    go_simp
    with_reducible rfl
  rotate_left
  · simp only [Act.put, List.setIfInBounds_toArray, List.set_cons_zero, List.set_cons_succ, i64_w, i32_w]
    rfl
  refine pure_ (i := 2) (N := (some 54)) (v := ?_) (a' := ?_) #[true, true, true, false, false, false, false, false, false, false, false, false, false] rfl rfl (by kernel_rfl) (fun _ _ _ h => h) (Or.inl ⟨by rfl, ?_⟩) ?_ ?_
  rotate_left
  · intro w'
    go_simp
    with_reducible rfl
  rotate_left
  · simp only [Act.put, List.setIfInBounds_toArray, List.set_cons_zero, List.set_cons_succ, i64_w, i32_w]
    rfl
  refine pure_ (i := 3) (N := (some 55)) (v := ?_) (a' := ?_) #[true, true, true, true, false, false, false, false, false, false, false, false, false] rfl rfl (by kernel_rfl) (fun _ _ _ h => h) (Or.inl ⟨by rfl, ?_⟩) ?_ ?_
  rotate_left
  · intro w'
    go_simp
    with_reducible rfl
  rotate_left
  · simp only [Act.put, List.setIfInBounds_toArray, List.set_cons_zero, List.set_cons_succ, i64_w, i32_w]
    rfl
  refine pure_ (i := 5) (N := (some 57)) (v := ?_) (a' := ?_) #[true, true, true, true, false, true, false, false, false, false, false, false, false] rfl rfl (by kernel_rfl) (fun _ _ _ h => h) (Or.inl ⟨by rfl, ?_⟩) ?_ ?_
  rotate_left
  · intro w'
    go_simp
    with_reducible rfl
  rotate_left
  · simp only [Act.put, List.setIfInBounds_toArray, List.set_cons_zero, List.set_cons_succ, i64_w, i32_w]
    rfl
  refine pure_ (i := 6) (N := (some 58)) (v := ?_) (a' := ?_) #[true, true, true, true, false, true, true, false, false, false, false, false, false] rfl rfl (by kernel_rfl) (fun _ _ _ h => h) (Or.inl ⟨by rfl, ?_⟩) ?_ ?_
  rotate_left
  · intro w'
    go_simp
    with_reducible rfl
  rotate_left
  · simp only [Act.put, List.setIfInBounds_toArray, List.set_cons_zero, List.set_cons_succ, i64_w, i32_w]
    rfl
  refine pure_ (i := 7) (N := (some 59)) (v := ?_) (a' := ?_) #[true, true, true, true, false, true, true, true, false, false, false, false, false] rfl rfl (by kernel_rfl) (fun _ _ _ h => h) (Or.inl ⟨by rfl, ?_⟩) ?_ ?_
  rotate_left
  · intro w'
    go_simp
    with_reducible rfl
  rotate_left
  · simp only [Act.put, List.setIfInBounds_toArray, List.set_cons_zero, List.set_cons_succ, i64_w, i32_w]
    rfl
  refine take_ (i := 4) (N := (some 56)) (v := ?_) (a' := ?_) #[true, true, true, true, true, true, true, true, false, false, false, false, false] rfl rfl (by kernel_rfl) (fun _ _ _ h => h) (Or.inl ⟨by rfl, ?_⟩) hHeld ?_ ?_
  rotate_left
  · rintro w' ⟨s0, s1⟩
    go_simp
    with_reducible rfl
  rotate_left
  · simp only [Act.put, List.setIfInBounds_toArray, List.set_cons_zero, List.set_cons_succ, i64_w, i32_w]
    rfl
  refine take_ (i := 8) (N := (some 60)) (v := ?_) (a' := ?_) #[true, true, true, true, true, true, true, true, true, false, false, false, false] rfl rfl (by kernel_rfl) (fun _ _ _ h => h) (Or.inl ⟨by rfl, ?_⟩) hHeld ?_ ?_
  rotate_left
  · rintro w' ⟨s0, s1⟩
    go_simp
    with_reducible rfl
  rotate_left
  · simp only [Act.put, List.setIfInBounds_toArray, List.set_cons_zero, List.set_cons_succ, i64_w, i32_w]
    rfl
  refine one_ (i := 9) (N := (some 61)) #[true, true, true, true, true, true, true, true, true, true, false, false, false] rfl rfl (by kernel_rfl) (by decide) (fun K_ hK => ?_)
  obtain ⟨_, hrun⟩ := (And.intro trivial (appendP_none w5 _))
  refine appended_ (.tmp 56) (.tmp 60) 60 60 (by rfl) rfl rfl (.slice none 0 0) (.slice none 0 0) (by rfl) (by rfl) hrun ?_
  clear hrun
  clear hHeld
  refine hK.out _ _ ⟨(HS5.out.node 3 rfl).c1, (HS5.out.node 6 rfl).c1⟩ (fun hHeld => ?_)
  clear hK K_
  refine norm_ (a' := ?_) ?_ ?_
  rotate_left
  · show Act.put _ (some 61) _ = _
    simp only [Act.put, List.setIfInBounds_toArray, List.set_cons_zero, List.set_cons_succ, i64_w, i32_w]
    rfl
  refine pure_ (i := 10) (N := (some 62)) (v := ?_) (a' := ?_) #[true, true, true, true, true, true, true, true, true, true, true, false, false] rfl rfl (by kernel_rfl) (fun _ _ _ h => h) (Or.inl ⟨by rfl, ?_⟩) ?_ ?_
  rotate_left
  · intro w'
    go_simp
    with_reducible rfl
  rotate_left
  · simp only [Act.put, List.setIfInBounds_toArray, List.set_cons_zero, List.set_cons_succ, i64_w, i32_w]
    rfl
  refine pure_ (i := 11) (N := (some 63)) (v := ?_) (a' := ?_) #[true, true, true, true, true, true, true, true, true, true, true, true, false] rfl rfl (by kernel_rfl) (fun _ _ _ h => h) (Or.inl ⟨by rfl, ?_⟩) ?_ ?_
  rotate_left
  · intro w'
    go_simp
    with_reducible rfl
  rotate_left
  · simp only [Act.put, List.setIfInBounds_toArray, List.set_cons_zero, List.set_cons_succ, i64_w, i32_w]
    rfl
  refine last_ (i := 12) (N := none) #[true, true, true, true, true, true, true, true, true, true, true, true, true] rfl rfl (by kernel_rfl) (by decide) (fun K_ hK => ?_)
  have c_0 := (HS5.out.node 3 rfl).c1
  have c_1 := (HS5.out.node 3 rfl).fz 1
  refine skip_ (w1 := ?_) (by rfl) rfl ?_ ?_
  rotate_left
  · go_simp
    rfl
  refine hK.out _ _ ?_
  clear hK K_ hHeld c_0 c_1
  refine done_ (by kernel_rfl) ?_
  have HS6 := Aside0.mk (HS5.out.put1 3 rfl (.slice none 0 0))
  clear HS5
  generalize w5.setCell ⟨a, 1, none⟩ (.slice none 0 0) = w7 at HS6 ⊢
  have c0 := (HS6.out.node 0 rfl).c0
  go_wp2_with (first
    | (go_at_call 49; refine (deleteE _ gk nk capK i ks i ((i : Int) + 1) (HS6.out.rowE 1 rfl) HNK.out hk (by omega) rfl rfl).mono ?_; clear c0; rintro E w8 ⟨rfl, hrow, hgrow⟩; have HS7 := Aside0.mk (HS6.out.setE 1 rfl hgrow hrow (.inl rfl)); clear HS6; clear hrow hgrow; have c0 := (HS7.out.node 0 rfl).c0; have f0 := (HS7.out.node 0 rfl).fz 0; have c1 := (HS7.out.node 0 rfl).c1)
    | (go_at_call 70; have HS8 := Aside0.mk (HS7.out.put0 0 rfl (.slice (some ⟨gk, 0, none⟩) (nk - 1) capK)); clear HS7; clear c0 f0 c1; refine (deleteP _ gc n capC (i + 1) ps ((i : Int) + 1) ((i : Int) + 2) (HS8.out.rowP 2 rfl) HN.out hi (by omega) (by simp) (by simp; omega)).mono ?_; rintro E w9 ⟨rfl, hrow, hgrow⟩; have HS9 := Aside0.mk (HS8.out.setP 2 rfl hgrow hrow (.inl rfl)); clear HS8; clear hrow hgrow; have c0 := (HS9.out.node 0 rfl).c1; have f0 := (HS9.out.node 0 rfl).fz 1))
  have HS10 := Aside0.mk (HS9.out.put1 0 rfl (.slice (some ⟨gc, 0, none⟩) (n - 1) capC))
  clear HS9
  generalize w9.setCell ⟨p, 1, none⟩ (.slice (some ⟨gc, 0, none⟩) (n - 1) capC) = w10 at HS10 ⊢
  clear c0 f0
  go_end0
  rw [← HR.out]
  have hl := Aside0.mk ((HS10.out.left : St _ _ _ (par2 p _ _ _ _ a _ _ _ _)))
  exact ⟨_, _, _, _, rfl, fun _ => rfl, hl.out⟩
set_option maxHeartbeats 4000000 in
theorem join_inner (w : World) (p a b : Nat) (K C Ka Kb Ca Cb : Value) (ks : List S29) (ps : List Value) (i : Nat) (z : S29) (ka kb : List S29) (pa pb : List Value) (F : Nat → Prop) (hs : St w F w (par3 p K C ks ps a Ka Ca ka pa b Kb Cb kb pb))
    (hi : i + 1 < ps.length) (hpa : ps[i]? = some (.pointer (some ⟨a, 0, none⟩))) (hpb : ps[i + 1]? = some (.pointer (some ⟨b, 0, none⟩))) (hps : ps.length < 1000) (hk : i < ks.length) (hks : ks.length < 1000) (hka : (ka).length < 1000) (hkb : (kb).length < 1000) (hpal : (pa : List Value).length < 1000) (hpbl : (pb : List Value).length < 1000) (hz : ks[i]? = some z) (hpa0 : 0 < pa.length) (hpb0 : 0 < pb.length) (hb0 : 0 < kb.length) :
    Calls Try.prog 64 #[.pointer (some ⟨p, 0, none⟩), .int .i64 i] w (JoinPost w F p (delAt ks i) (delAt ps (i + 1)) a (ka ++ [z] ++ kb) (pa ++ pb) false) := by
  have hu29 := Try.underlying29
  have hu62 := Try.underlying62
  obtain ⟨gc, capC, rfl, hcapC⟩ := rowP_form (hs.rowP 2 rfl) (by omega)
  obtain ⟨gk, capK, rfl, hcapK⟩ := (hs.rowE 1 rfl).formS (by omega)
  obtain ⟨Aa, cpa, hCa⟩ := rowP_slice (hs.rowP 5 rfl)
  have HLA := Aside0.mk (fun w' (h : NodeAt w' a Ka Ca) => leaf_no w' a Ka Aa pa.length cpa (by rw [← hCa]; exact h) (by omega))
  have HZ := Aside0.mk hz
  have hkz : (ka ++ [z]).length = ka.length + 1 := by simp
  have HKZ := Aside0.mk hkz
  have HPA := Aside0.mk hpa
  have HPB := Aside0.mk hpb
  obtain ⟨n, hn⟩ : ∃ n, ps.length = n := ⟨_, rfl⟩
  obtain ⟨nk, hnk⟩ : ∃ n, ks.length = n := ⟨_, rfl⟩
  rw [hn, hnk] at hs
  rw [hn] at hi hps hcapC
  rw [hnk] at hk hks hcapK
  have HN := Aside0.mk hn
  have HNK := Aside0.mk hnk
  obtain ⟨R, hR⟩ : ∃ R, (JoinPost w F p (delAt ks i) (delAt ps (i + 1)) a (ka ++ [z] ++ kb) (pa ++ pb) false) = R := ⟨_, rfl⟩
  have HR := Aside0.mk hR
  try rw [hn, hnk]
  show Calls _ _ _ _ (JoinPost w F p (delAt ks i) (delAt ps (i + 1)) a (ka ++ [z] ++ kb) (pa ++ pb) false)
  rw [hR]
  clear hR
  have HS := Aside0.mk hs
  have hi0 : (0 : Int) ≤ (i : Int) := by omega
  have hi1 : (i : Int) < (n : Int) := by omega
  have hi2 : (0 : Int) ≤ (i : Int) + 1 := by omega
  have hi3 : (i : Int) + 1 < (n : Int) := by omega
  have hik : (i : Int) < (nk : Int) := by omega
  have hw1 : IntKind.i64.wrap ((i : Int) + 1) = (i : Int) + 1 := by rw [IntKind.wrap_i64]; omega
  have htn : ((i : Int) + 1).toNat = i + 1 := by omega
  clear hs hpa hpb hn hnk hz hCa hkz
  go_enter Try.func64, Try.ntmps64
  go_wp2
  refine start_ (n := 17) (S := fun w' => w'.cell? ⟨p, 1, none⟩ = some (.slice (some ⟨gc, 0, none⟩) n capC) ∧ w'.cell? ⟨gc, i, none⟩ = some (.pointer (some ⟨a, 0, none⟩)) ∧ w'.cell? ⟨gc, i + 1, none⟩ = some (.pointer (some ⟨b, 0, none⟩))) (ds := []) #[false, false, false, false, false, false, false, false, false, false, false, false, false, false, false, false, false] (by kernel_rfl) rfl rfl ⟨(HS.out.node 0 rfl).c1, (HS.out.rowP 2 rfl).cell (by rw [← HN.out]) i _ HPA.out, (HS.out.rowP 2 rfl).cell (by rw [← HN.out]) (i + 1) _ HPB.out⟩ (fun hHeld => ?_)
  have HS1 := Aside0.mk (HS.out.drew)
  clear HS
  generalize w.drew = w1 at HS1 hHeld  ⊢
  refine pure_ (i := 0) (N := (some 6)) (v := ?_) (a' := ?_) #[true, false, false, false, false, false, false, false, false, false, false, false, false, false, false, false, false] rfl rfl (by kernel_rfl) (fun _ _ _ h => h) (Or.inl ⟨by rfl, ?_⟩) ?_ ?_
  rotate_left
  · intro w'
    go_simp
    with_reducible rfl
  rotate_left
  · simp only [Act.put, List.setIfInBounds_toArray, List.set_cons_zero, List.set_cons_succ, i64_w, i32_w]
    rfl
  refine pure_ (i := 1) (N := (some 7)) (v := ?_) (a' := ?_) #[true, true, false, false, false, false, false, false, false, false, false, false, false, false, false, false, false] rfl rfl (by kernel_rfl) (fun _ _ _ h => h) (Or.inl ⟨by rfl, ?_⟩) ?_ ?_
  rotate_left
  · intro w'
    go_simp
    with_reducible rfl
  rotate_left
  · simp only [Act.put, List.setIfInBounds_toArray, List.set_cons_zero, List.set_cons_succ, i64_w, i32_w]
    rfl
  refine pure_ (i := 2) (N := (some 8)) (v := ?_) (a' := ?_) #[true, true, true, false, false, false, false, false, false, false, false, false, false, false, false, false, false] rfl rfl (by kernel_rfl) (fun _ _ _ h => h) (Or.inl ⟨by rfl, ?_⟩) ?_ ?_
  rotate_left
  · intro w'
    go_simp
    with_reducible rfl
  rotate_left
  · simp only [Act.put, List.setIfInBounds_toArray, List.set_cons_zero, List.set_cons_succ, i64_w, i32_w]
    rfl
  refine pure_ (i := 4) (N := (some 10)) (v := ?_) (a' := ?_) #[true, true, true, false, true, false, false, false, false, false, false, false, false, false, false, false, false] rfl rfl (by kernel_rfl) (fun _ _ _ h => h) (Or.inl ⟨by rfl, ?_⟩) ?_ ?_
  rotate_left
  · intro w'
    go_simp
    with_reducible rfl
  rotate_left
  · simp only [Act.put, List.setIfInBounds_toArray, List.set_cons_zero, List.set_cons_succ, i64_w, i32_w]
    rfl
  refine pure_ (i := 7) (N := (some 13)) (v := ?_) (a' := ?_) #[true, true, true, false, true, false, false, true, false, false, false, false, false, false, false, false, false] rfl rfl (by kernel_rfl) (fun _ _ _ h => h) (Or.inl ⟨by rfl, ?_⟩) ?_ ?_
  rotate_left
  · intro w'
    go_simp
    with_reducible rfl
  rotate_left
  · simp only [Act.put, List.setIfInBounds_toArray, List.set_cons_zero, List.set_cons_succ, i64_w, i32_w]
    rfl
  refine pure_ (i := 8) (N := (some 14)) (v := ?_) (a' := ?_) #[true, true, true, false, true, false, false, true, true, false, false, false, false, false, false, false, false] rfl rfl (by kernel_rfl) (fun _ _ _ h => h) (Or.inl ⟨by rfl, ?_⟩) ?_ ?_
  rotate_left
  · intro w'
    go_simp
    with_reducible rfl
  rotate_left
  · simp only [Act.put, List.setIfInBounds_toArray, List.set_cons_zero, List.set_cons_succ, i64_w, i32_w]
    rfl
  refine pure_ (i := 9) (N := (some 15)) (v := ?_) (a' := ?_) #[true, true, true, false, true, false, false, true, true, true, false, false, false, false, false, false, false] rfl rfl (by kernel_rfl) (fun _ _ _ h => h) (Or.inl ⟨by rfl, ?_⟩) ?_ ?_
  rotate_left
  · intro w'
    go_simp
    with_reducible rfl
  rotate_left
  · simp only [Act.put, List.setIfInBounds_toArray, List.set_cons_zero, List.set_cons_succ, i64_w, i32_w]
    rfl
  refine pure_ (i := 11) (N := (some 17)) (v := ?_) (a' := ?_) #[true, true, true, false, true, false, false, true, true, true, false, true, false, false, false, false, false] rfl rfl (by kernel_rfl) (fun _ _ _ h => h) (Or.inl ⟨by rfl, ?_⟩) ?_ ?_
  rotate_left
  · intro w'
    go_simp
    with_reducible rfl
  rotate_left
  · simp only [Act.put, List.setIfInBounds_toArray, List.set_cons_zero, List.set_cons_succ, i64_w, i32_w]
    rfl
  refine pure_ (i := 12) (N := (some 18)) (v := ?_) (a' := ?_) #[true, true, true, false, true, false, false, true, true, true, false, true, true, false, false, false, false] rfl rfl (by kernel_rfl) (fun _ _ _ h => h) (Or.inl ⟨by rfl, ?_⟩) ?_ ?_
  rotate_left
  · intro w'
    go_simp
    with_reducible rfl
  rotate_left
  · simp only [Act.put, List.setIfInBounds_toArray, List.set_cons_zero, List.set_cons_succ, i64_w, i32_w]
    rfl
  refine take_ (i := 3) (N := (some 9)) (v := ?_) (a' := ?_) #[true, true, true, true, true, false, false, true, true, true, false, true, true, false, false, false, false] rfl rfl (by kernel_rfl) (fun _ _ _ h => h) (Or.inl ⟨by rfl, ?_⟩) hHeld ?_ ?_
  rotate_left
  · rintro w' ⟨s0, s1, s2⟩
    go_simp
    with_reducible rfl
  rotate_left
  · simp only [Act.put, List.setIfInBounds_toArray, List.set_cons_zero, List.set_cons_succ, i64_w, i32_w]
    rfl
  refine pure_ (i := 5) (N := (some 11)) (v := ?_) (a' := ?_) #[true, true, true, true, true, true, false, true, true, true, false, true, true, false, false, false, false] rfl rfl (by kernel_rfl) (fun _ _ _ h => h) (Or.inl ⟨by rfl, ?_⟩) ?_ ?_
  rotate_left
  · intro w'
    go_simp
    with_reducible rfl
  rotate_left
  · simp only [Act.put, List.setIfInBounds_toArray, List.set_cons_zero, List.set_cons_succ, i64_w, i32_w]
    rfl
  refine take_ (i := 6) (N := (some 12)) (v := ?_) (a' := ?_) #[true, true, true, true, true, true, true, true, true, true, false, true, true, false, false, false, false] rfl rfl (by kernel_rfl) (fun _ _ _ h => h) (Or.inl ⟨by rfl, ?_⟩) hHeld ?_ ?_
  rotate_left
  · rintro w' ⟨s0, s1, s2⟩
    go_simp
    with_reducible rfl
  rotate_left
  · simp only [Act.put, List.setIfInBounds_toArray, List.set_cons_zero, List.set_cons_succ, i64_w, i32_w]
    rfl
  refine pure_ (i := 15) (N := (some 4)) (v := ?_) (a' := ?_) #[true, true, true, true, true, true, true, true, true, true, false, true, true, false, false, true, false] rfl rfl (by kernel_rfl) (fun _ _ _ h => h) (Or.inl ⟨by rfl, ?_⟩) ?_ ?_
  rotate_left
  · intro w'
    go_simp
    with_reducible rfl
  rotate_left
  · simp only [Act.put, List.setIfInBounds_toArray, List.set_cons_zero, List.set_cons_succ, i64_w, i32_w]
    rfl
  refine take_ (i := 10) (N := (some 16)) (v := ?_) (a' := ?_) #[true, true, true, true, true, true, true, true, true, true, true, true, true, false, false, true, false] rfl rfl (by kernel_rfl) (fun _ _ _ h => h) (Or.inl ⟨by rfl, ?_⟩) hHeld ?_ ?_
  rotate_left
  · rintro w' ⟨s0, s1, s2⟩
    go_simp
    with_reducible rfl
  rotate_left
  · simp only [Act.put, List.setIfInBounds_toArray, List.set_cons_zero, List.set_cons_succ, i64_w, i32_w]
    rfl
  refine pure_ (i := 13) (N := (some 19)) (v := ?_) (a' := ?_) #[true, true, true, true, true, true, true, true, true, true, true, true, true, true, false, true, false] rfl rfl (by kernel_rfl) (fun _ _ _ h => h) (Or.inl ⟨by rfl, ?_⟩) ?_ ?_
  rotate_left
  · intro w'
    go_simp
    with_reducible rfl
  rotate_left
  · simp only [Act.put, List.setIfInBounds_toArray, List.set_cons_zero, List.set_cons_succ, i64_w, i32_w]
    rfl
  refine take_ (i := 14) (N := (some 20)) (v := ?_) (a' := ?_) #[true, true, true, true, true, true, true, true, true, true, true, true, true, true, true, true, false] rfl rfl (by kernel_rfl) (fun _ _ _ h => h) (Or.inl ⟨by rfl, ?_⟩) hHeld ?_ ?_
  rotate_left
  · rintro w' ⟨s0, s1, s2⟩
    go_simp
    with_reducible rfl
  rotate_left
  · simp only [Act.put, List.setIfInBounds_toArray, List.set_cons_zero, List.set_cons_succ, i64_w, i32_w]
    rfl
  refine pure_ (i := 16) (N := (some 5)) (v := ?_) (a' := ?_) #[true, true, true, true, true, true, true, true, true, true, true, true, true, true, true, true, true] rfl rfl (by kernel_rfl) (fun _ _ _ h => h) (Or.inl ⟨by rfl, ?_⟩) ?_ ?_
  rotate_left
  · intro w'
    go_simp
    with_reducible rfl
  rotate_left
  · simp only [Act.put, List.setIfInBounds_toArray, List.set_cons_zero, List.set_cons_succ, i64_w, i32_w]
    rfl
  refine done_ (by kernel_rfl) ?_
  go_wp2_with (first
    | (go_at_call 30; refine (HLA.out _ (HS1.out.node 3 rfl)).mono ?_; rintro E w1 ⟨rfl, rfl⟩))
  refine start_ (n := 17) (S := fun w' => w'.cell? ⟨a, 0, none⟩ = some (Ka) ∧ w'.cell? ⟨p, 0, none⟩ = some (.slice (some ⟨gk, 0, none⟩) nk capK) ∧ w'.cell? ⟨gk, i * 3, none⟩ = some (.string z.f0) ∧ w'.cell? ⟨gk, i * 3 + 1, none⟩ = some (.int .i64 z.f1.f0) ∧ w'.cell? ⟨gk, i * 3 + 2, none⟩ = some (.int .i64 z.f1.f1)) (ds := [16]) #[false, false, false, false, false, false, false, false, false, false, false, false, false, false, false, false, false] (by kernel_rfl) rfl rfl ⟨(HS1.out.node 3 rfl).c0, (HS1.out.node 0 rfl).c0, (RowE.at (HS1.out.rowE 1 rfl) HZ.out).1, (RowE.at (HS1.out.rowE 1 rfl) HZ.out).2.1, (RowE.at (HS1.out.rowE 1 rfl) HZ.out).2.2⟩ (fun hHeld => ?_)
  have HS2 := Aside0.mk (HS1.out.drew)
  clear HS1
  generalize w1.drew = w2 at HS2 hHeld  ⊢
  refine pure_ (i := 0) (N := (some 24)) (v := ?_) (a' := ?_) #[true, false, false, false, false, false, false, false, false, false, false, false, false, false, false, false, false] rfl rfl (by kernel_rfl) (fun _ _ _ h => h) (Or.inl ⟨by rfl, ?_⟩) ?_ ?_
  rotate_left
  · intro w'
    go_simp
    with_reducible rfl
  rotate_left
  · simp only [Act.put, List.setIfInBounds_toArray, List.set_cons_zero, List.set_cons_succ, i64_w, i32_w]
    rfl
  refine pure_ (i := 1) (N := (some 25)) (v := ?_) (a' := ?_) #[true, true, false, false, false, false, false, false, false, false, false, false, false, false, false, false, false] rfl rfl (by kernel_rfl) (fun _ _ _ h => h) (Or.inl ⟨by rfl, ?_⟩) ?_ ?_
  rotate_left
  · intro w'
    go_simp
    with_reducible rfl
  rotate_left
  · simp only [Act.put, List.setIfInBounds_toArray, List.set_cons_zero, List.set_cons_succ, i64_w, i32_w]
    rfl
  refine pure_ (i := 2) (N := (some 26)) (v := ?_) (a' := ?_) #[true, true, true, false, false, false, false, false, false, false, false, false, false, false, false, false, false] rfl rfl (by kernel_rfl) (fun _ _ _ h => h) (Or.inl ⟨by rfl, ?_⟩) ?_ ?_
  rotate_left
  · intro w'
    go_simp
    with_reducible rfl
  rotate_left
  · simp only [Act.put, List.setIfInBounds_toArray, List.set_cons_zero, List.set_cons_succ, i64_w, i32_w]
    rfl
  refine pure_ (i := 3) (N := (some 27)) (v := ?_) (a' := ?_) #[true, true, true, true, false, false, false, false, false, false, false, false, false, false, false, false, false] rfl rfl (by kernel_rfl) (fun _ _ _ h => h) (Or.inl ⟨by rfl, ?_⟩) ?_ ?_
  rotate_left
  · intro w'
    go_simp
    with_reducible rfl
  rotate_left
  · simp only [Act.put, List.setIfInBounds_toArray, List.set_cons_zero, List.set_cons_succ, i64_w, i32_w]
    rfl
  refine pure_ (i := 5) (N := (some 29)) (v := ?_) (a' := ?_) #[true, true, true, true, false, true, false, false, false, false, false, false, false, false, false, false, false] rfl rfl (by kernel_rfl) (fun _ _ _ h => h) (Or.inl ⟨by rfl, ?_⟩) ?_ ?_
  rotate_left
  · intro w'
    go_simp
    with_reducible rfl
  rotate_left
  · simp only [Act.put, List.setIfInBounds_toArray, List.set_cons_zero, List.set_cons_succ, i64_w, i32_w]
    rfl
  refine pure_ (i := 6) (N := (some 30)) (v := ?_) (a' := ?_) #[true, true, true, true, false, true, true, false, false, false, false, false, false, false, false, false, false] rfl rfl (by kernel_rfl) (fun _ _ _ h => h) (Or.inl ⟨by rfl, ?_⟩) ?_ ?_
  rotate_left
  · intro w'
    go_simp
    with_reducible rfl
  rotate_left
  · simp only [Act.put, List.setIfInBounds_toArray, List.set_cons_zero, List.set_cons_succ, i64_w, i32_w]
    rfl
  refine pure_ (i := 7) (N := (some 31)) (v := ?_) (a' := ?_) #[true, true, true, true, false, true, true, true, false, false, false, false, false, false, false, false, false] rfl rfl (by kernel_rfl) (fun _ _ _ h => h) (Or.inl ⟨by rfl, ?_⟩) ?_ ?_
  rotate_left
  · intro w'
    go_simp
    with_reducible rfl
  rotate_left
  · simp only [Act.put, List.setIfInBounds_toArray, List.set_cons_zero, List.set_cons_succ, i64_w, i32_w]
    rfl
  refine pure_ (i := 9) (N := (some 33)) (v := ?_) (a' := ?_) #[true, true, true, true, false, true, true, true, false, true, false, false, false, false, false, false, false] rfl rfl (by kernel_rfl) (fun _ _ _ h => h) (Or.inl ⟨by rfl, ?_⟩) ?_ ?_
  rotate_left
  · intro w'
    go_simp
    with_reducible rfl
  rotate_left
  · simp only [Act.put, List.setIfInBounds_toArray, List.set_cons_zero, List.set_cons_succ, i64_w, i32_w]
    rfl
  refine take_ (i := 4) (N := (some 28)) (v := ?_) (a' := ?_) #[true, true, true, true, true, true, true, true, false, true, false, false, false, false, false, false, false] rfl rfl (by kernel_rfl) (fun _ _ _ h => h) (Or.inl ⟨by rfl, ?_⟩) hHeld ?_ ?_
  rotate_left
  · rintro w' ⟨s0, s1, s2, s3, s4⟩
    go_simp
    with_reducible rfl
  rotate_left
  · simp only [Act.put, List.setIfInBounds_toArray, List.set_cons_zero, List.set_cons_succ, i64_w, i32_w]
    rfl
  refine take_ (i := 8) (N := (some 32)) (v := ?_) (a' := ?_) #[true, true, true, true, true, true, true, true, true, true, false, false, false, false, false, false, false] rfl rfl (by kernel_rfl) (fun _ _ _ h => h) (Or.inl ⟨by rfl, ?_⟩) hHeld ?_ ?_
  rotate_left
  · rintro w' ⟨s0, s1, s2, s3, s4⟩
    go_simp
    with_reducible rfl
  rotate_left
  · simp only [Act.put, List.setIfInBounds_toArray, List.set_cons_zero, List.set_cons_succ, i64_w, i32_w]
    rfl
  refine pure_ (i := 10) (N := (some 34)) (v := ?_) (a' := ?_) #[true, true, true, true, true, true, true, true, true, true, true, false, false, false, false, false, false] rfl rfl (by kernel_rfl) (fun _ _ _ h => h) (Or.inl ⟨by rfl, ?_⟩) ?_ ?_
  rotate_left
  · intro w'
    go_simp
    with_reducible rfl
  rotate_left
  · simp only [Act.put, List.setIfInBounds_toArray, List.set_cons_zero, List.set_cons_succ, i64_w, i32_w]
    rfl
  refine take_ (i := 11) (N := (some 35)) (v := ?_) (a' := ?_) #[true, true, true, true, true, true, true, true, true, true, true, true, false, false, false, false, false] rfl rfl (by kernel_rfl) (fun _ _ _ h => h) (Or.inl ⟨by rfl, ?_⟩) hHeld ?_ ?_
  rotate_left
  · rintro w' ⟨s0, s1, s2, s3, s4⟩
    go_simp
    with_reducible rfl
  rotate_left
  · simp only [Act.put, List.setIfInBounds_toArray, List.set_cons_zero, List.set_cons_succ, i64_w, i32_w]
    rfl
  refine one_ (i := 12) (N := (some 36)) #[true, true, true, true, true, true, true, true, true, true, true, true, true, false, false, false, false] rfl rfl (by kernel_rfl) (by decide) (fun K_ hK => ?_)
  obtain ⟨v1, hv1⟩ : ∃ v : Nat, w2.heap.size = v := ⟨_, rfl⟩
  refine made_ (v := .slice (some ⟨w2.heap.size, 0, none⟩) 1 1) (w1 := w2.alloc (.cells #[.string z.f0, .int .i64 z.f1.f0, .int .i64 z.f1.f1] 29)) (by rfl) rfl (by go_simp) ?_
  have HS3 := Aside0.mk (HS2.out.alloc #[.string z.f0, .int .i64 z.f1.f0, .int .i64 z.f1.f1] 29 hv1)
  clear HS2
  rw [hv1]
  clear hv1
  clear hHeld
  refine hK.out _ _ ⟨(HS3.out.node 3 rfl).c0, (HS3.out.node 0 rfl).c0, (RowE.at (HS3.out.rowE 1 rfl) HZ.out).1, (RowE.at (HS3.out.rowE 1 rfl) HZ.out).2.1, (RowE.at (HS3.out.rowE 1 rfl) HZ.out).2.2⟩ (fun hHeld => ?_)
  clear hK K_
  generalize w2.alloc (.cells #[.string z.f0, .int .i64 z.f1.f0, .int .i64 z.f1.f1] 29) = w3 at HS3 hHeld  ⊢
  refine norm_ (a' := ?_) ?_ ?_
  rotate_left
  · show Act.put _ (some 36) _ = _
    simp only [Act.put, List.setIfInBounds_toArray, List.set_cons_zero, List.set_cons_succ, i64_w, i32_w]
    rfl
  refine one_ (i := 13) (N := (some 37)) #[true, true, true, true, true, true, true, true, true, true, true, true, true, true, false, false, false] rfl rfl (by kernel_rfl) (by decide) (fun K_ hK => ?_)
  obtain ⟨g_v1, c_v1, w4, hrun, hrow, hgrow, hown⟩ := appendE _ Ka ka z v1 _ (HS3.out.rowE 4 rfl) (HS3.out.blk 9 rfl) (by omega)
  refine appended_ (.tmp 28) (.tmp 36) 22 22 (by rfl) rfl rfl Ka (.slice (some ⟨v1, 0, none⟩) 1 1) (by rfl) (by rfl) hrun ?_
  clear hrun
  have HS4 := Aside0.mk (HS3.out.setE 4 rfl hgrow hrow hown)
  clear HS3
  clear hrow hgrow hown
  clear hHeld
  refine hK.out _ _ ⟨(HS4.out.node 3 rfl).c0, (HS4.out.node 0 rfl).c0, (RowE.at (HS4.out.rowE 1 rfl) HZ.out).1, (RowE.at (HS4.out.rowE 1 rfl) HZ.out).2.1, (RowE.at (HS4.out.rowE 1 rfl) HZ.out).2.2⟩ (fun hHeld => ?_)
  clear hK K_
  refine norm_ (a' := ?_) ?_ ?_
  rotate_left
  · show Act.put _ (some 37) _ = _
    simp only [Act.put, List.setIfInBounds_toArray, List.set_cons_zero, List.set_cons_succ, i64_w, i32_w]
    rfl
  refine pure_ (i := 14) (N := (some 38)) (v := ?_) (a' := ?_) #[true, true, true, true, true, true, true, true, true, true, true, true, true, true, true, false, false] rfl rfl (by kernel_rfl) (fun _ _ _ h => h) (Or.inl ⟨by rfl, ?_⟩) ?_ ?_
  rotate_left
  · intro w'
    go_simp
    with_reducible rfl
  rotate_left
  · simp only [Act.put, List.setIfInBounds_toArray, List.set_cons_zero, List.set_cons_succ, i64_w, i32_w]
    rfl
  refine pure_ (i := 15) (N := (some 39)) (v := ?_) (a' := ?_) #[true, true, true, true, true, true, true, true, true, true, true, true, true, true, true, true, false] rfl rfl (by kernel_rfl) (fun _ _ _ h => h) (Or.inl ⟨by rfl, ?_⟩) ?_ ?_
  rotate_left
  · intro w'
    go_simp
    with_reducible rfl
  rotate_left
  · simp only [Act.put, List.setIfInBounds_toArray, List.set_cons_zero, List.set_cons_succ, i64_w, i32_w]
    rfl
  refine last_ (i := 16) (N := none) #[true, true, true, true, true, true, true, true, true, true, true, true, true, true, true, true, true] rfl rfl (by kernel_rfl) (by decide) (fun K_ hK => ?_)
  have c_0 := (HS4.out.node 3 rfl).c0
  have c_1 := (HS4.out.node 3 rfl).fz 0
  refine skip_ (w1 := ?_) (by rfl) rfl ?_ ?_
  rotate_left
  · go_simp
    rfl
  refine hK.out _ _ ?_
  clear hK K_ hHeld c_0 c_1
  refine done_ (by kernel_rfl) ?_
  have HS5 := Aside0.mk (HS4.out.put0 3 rfl (.slice (some ⟨g_v1, 0, none⟩) (ka.length + 1) c_v1))
  clear HS4
  generalize w4.setCell ⟨a, 0, none⟩ (.slice (some ⟨g_v1, 0, none⟩) (ka.length + 1) c_v1) = w5 at HS5 ⊢
  go_wp2
  refine start_ (n := 13) (S := fun w' => w'.cell? ⟨a, 0, none⟩ = some (.slice (some ⟨g_v1, 0, none⟩) (ka.length + 1) c_v1) ∧ w'.cell? ⟨b, 0, none⟩ = some (Kb)) (ds := [12]) #[false, false, false, false, false, false, false, false, false, false, false, false, false] (by kernel_rfl) rfl rfl ⟨(HS5.out.node 3 rfl).c0, (HS5.out.node 6 rfl).c0⟩ (fun hHeld => ?_)
  have HS6 := Aside0.mk (HS5.out.drew)
  clear HS5
  generalize w5.drew = w6 at HS6 hHeld  ⊢
  refine pure_ (i := 0) (N := (some 40)) (v := ?_) (a' := ?_) #[true, false, false, false, false, false, false, false, false, false, false, false, false] rfl rfl (by kernel_rfl) (fun _ _ _ h => h) (Or.inl ⟨by rfl, ?_⟩) ?_ ?_
  rotate_left
  · intro w'
    go_simp
    with_reducible rfl
  rotate_left
  · simp only [Act.put, List.setIfInBounds_toArray, List.set_cons_zero, List.set_cons_succ, i64_w, i32_w]
    rfl
  refine pure_ (i := 1) (N := (some 41)) (v := ?_) (a' := ?_) #[true, true, false, false, false, false, false, false, false, false, false, false, false] rfl rfl (by kernel_rfl) (fun _ _ _ h => h) (Or.inl ⟨by rfl, ?_⟩) ?_ ?_
  rotate_left
  · intro w'
    go_simp
    with_reducible rfl
  rotate_left
  · simp only [Act.put, List.setIfInBounds_toArray, List.set_cons_zero, List.set_cons_succ, i64_w, i32_w]
    rfl
  refine pure_ (i := 2) (N := (some 42)) (v := ?_) (a' := ?_) #[true, true, true, false, false, false, false, false, false, false, false, false, false] rfl rfl (by kernel_rfl) (fun _ _ _ h => h) (Or.inl ⟨by rfl, ?_⟩) ?_ ?_
  rotate_left
  · intro w'
    go_simp
    with_reducible rfl
  rotate_left
  · simp only [Act.put, List.setIfInBounds_toArray, List.set_cons_zero, List.set_cons_succ, i64_w, i32_w]
    rfl
  refine pure_ (i := 3) (N := (some 43)) (v := ?_) (a' := ?_) #[true, true, true, true, false, false, false, false, false, false, false, false, false] rfl rfl (by kernel_rfl) (fun _ _ _ h => h) (Or.inl ⟨by rfl, ?_⟩) ?_ ?_
  rotate_left
  · intro w'
    go_simp
    with_reducible rfl
  rotate_left
  · simp only [Act.put, List.setIfInBounds_toArray, List.set_cons_zero, List.set_cons_succ, i64_w, i32_w]
    rfl
  refine pure_ (i := 5) (N := (some 45)) (v := ?_) (a' := ?_) #[true, true, true, true, false, true, false, false, false, false, false, false, false] rfl rfl (by kernel_rfl) (fun _ _ _ h => h) (Or.inl ⟨by rfl, ?_⟩) ?_ ?_
  rotate_left
  · intro w'
    go_simp
    with_reducible rfl
  rotate_left
  · simp only [Act.put, List.setIfInBounds_toArray, List.set_cons_zero, List.set_cons_succ, i64_w, i32_w]
    rfl
  refine pure_ (i := 6) (N := (some 46)) (v := ?_) (a' := ?_) #[true, true, true, true, false, true, true, false, false, false, false, false, false] rfl rfl (by kernel_rfl) (fun _ _ _ h => h) (Or.inl ⟨by rfl, ?_⟩) ?_ ?_
  rotate_left
  · intro w'
    go_simp
    with_reducible rfl
  rotate_left
  · simp only [Act.put, List.setIfInBounds_toArray, List.set_cons_zero, List.set_cons_succ, i64_w, i32_w]
    rfl
  refine pure_ (i := 7) (N := (some 47)) (v := ?_) (a' := ?_) #[true, true, true, true, false, true, true, true, false, false, false, false, false] rfl rfl (by kernel_rfl) (fun _ _ _ h => h) (Or.inl ⟨by rfl, ?_⟩) ?_ ?_
  rotate_left
  · intro w'
    go_simp
    with_reducible rfl
  rotate_left
  · simp only [Act.put, List.setIfInBounds_toArray, List.set_cons_zero, List.set_cons_succ, i64_w, i32_w]
    rfl
  refine take_ (i := 4) (N := (some 44)) (v := ?_) (a' := ?_) #[true, true, true, true, true, true, true, true, false, false, false, false, false] rfl rfl (by kernel_rfl) (fun _ _ _ h => h) (Or.inl ⟨by rfl, ?_⟩) hHeld ?_ ?_
  rotate_left
  · rintro w' ⟨s0, s1⟩
    go_simp
    with_reducible rfl
  rotate_left
  · simp only [Act.put, List.setIfInBounds_toArray, List.set_cons_zero, List.set_cons_succ, i64_w, i32_w]
    rfl
  refine take_ (i := 8) (N := (some 48)) (v := ?_) (a' := ?_) #[true, true, true, true, true, true, true, true, true, false, false, false, false] rfl rfl (by kernel_rfl) (fun _ _ _ h => h) (Or.inl ⟨by rfl, ?_⟩) hHeld ?_ ?_
  rotate_left
  · rintro w' ⟨s0, s1⟩
    go_simp
    with_reducible rfl
  rotate_left
  · simp only [Act.put, List.setIfInBounds_toArray, List.set_cons_zero, List.set_cons_succ, i64_w, i32_w]
    rfl
  refine one_ (i := 9) (N := (some 49)) #[true, true, true, true, true, true, true, true, true, true, false, false, false] rfl rfl (by kernel_rfl) (by decide) (fun K_ hK => ?_)
  obtain ⟨g1, c1, w7, hrun, hrow, hgrow, hown⟩ := appendEs _ ((.slice (some ⟨g_v1, 0, none⟩) (ka.length + 1) c_v1)) (Kb) (ka ++ [z]) (kb) _ (HS6.out.rowE 4 rfl) (HS6.out.rowE 7 rfl) (by rw [HKZ.out]; omega) (by omega)
  rw [HKZ.out] at hrow hown hrun
  refine appended_ (.tmp 44) (.tmp 48) 22 22 (by rfl) rfl rfl (.slice (some ⟨g_v1, 0, none⟩) (ka.length + 1) c_v1) Kb (by rfl) (by rfl) hrun ?_
  clear hrun
  have HS7 := Aside0.mk (HS6.out.setE 4 rfl hgrow hrow hown)
  clear HS6
  clear hrow hgrow hown
  clear hHeld
  refine hK.out _ _ ⟨(HS7.out.node 3 rfl).c0, (HS7.out.node 6 rfl).c0⟩ (fun hHeld => ?_)
  clear hK K_
  refine norm_ (a' := ?_) ?_ ?_
  rotate_left
  · show Act.put _ (some 49) _ = _
    simp only [Act.put, List.setIfInBounds_toArray, List.set_cons_zero, List.set_cons_succ, i64_w, i32_w]
    rfl
  refine pure_ (i := 10) (N := (some 50)) (v := ?_) (a' := ?_) #[true, true, true, true, true, true, true, true, true, true, true, false, false] rfl rfl (by kernel_rfl) (fun _ _ _ h => h) (Or.inl ⟨by rfl, ?_⟩) ?_ ?_
  rotate_left
  · intro w'
    go_simp
    with_reducible rfl
  rotate_left
  · simp only [Act.put, List.setIfInBounds_toArray, List.set_cons_zero, List.set_cons_succ, i64_w, i32_w]
    rfl
  refine pure_ (i := 11) (N := (some 51)) (v := ?_) (a' := ?_) #[true, true, true, true, true, true, true, true, true, true, true, true, false] rfl rfl (by kernel_rfl) (fun _ _ _ h => h) (Or.inl ⟨by rfl, ?_⟩) ?_ ?_
  rotate_left
  · intro w'
    go_simp
    with_reducible rfl
  rotate_left
  · simp only [Act.put, List.setIfInBounds_toArray, List.set_cons_zero, List.set_cons_succ, i64_w, i32_w]
    rfl
  refine last_ (i := 12) (N := none) #[true, true, true, true, true, true, true, true, true, true, true, true, true] rfl rfl (by kernel_rfl) (by decide) (fun K_ hK => ?_)
  have c_0 := (HS7.out.node 3 rfl).c0
  have c_1 := (HS7.out.node 3 rfl).fz 0
  refine skip_ (w1 := ?_) (by rfl) rfl ?_ ?_
  rotate_left
  · go_simp
    rfl
  refine hK.out _ _ ?_
  clear hK K_ hHeld c_0 c_1
  refine done_ (by kernel_rfl) ?_
  have HS8 := Aside0.mk (HS7.out.put0 3 rfl (.slice (some ⟨g1, 0, none⟩) (ka.length + 1 + kb.length) c1))
  clear HS7
  generalize w7.setCell ⟨a, 0, none⟩ (.slice (some ⟨g1, 0, none⟩) (ka.length + 1 + kb.length) c1) = w8 at HS8 ⊢
  go_wp2
  refine start_ (n := 13) (S := fun w' => w'.cell? ⟨a, 1, none⟩ = some (Ca) ∧ w'.cell? ⟨b, 1, none⟩ = some (Cb)) (ds := [12]) #[false, false, false, false, false, false, false, false, false, false, false, false, false] (by kernel_rfl) rfl rfl ⟨(HS8.out.node 3 rfl).c1, (HS8.out.node 6 rfl).c1⟩ (fun hHeld => ?_)
  have HS9 := Aside0.mk (HS8.out.drew)
  clear HS8
  generalize w8.drew = w9 at HS9 hHeld  ⊢
  refine pure_ (i := 0) (N := (some 52)) (v := ?_) (a' := ?_) #[true, false, false, false, false, false, false, false, false, false, false, false, false] rfl rfl (by kernel_rfl) (fun _ _ _ h => h) (Or.inl ⟨by rfl, ?_⟩) ?_ ?_
  rotate_left
  · intro w'
    go_simp
    with_reducible rfl
  rotate_left
  · simp only [Act.put, List.setIfInBounds_toArray, List.set_cons_zero, List.set_cons_succ, i64_w, i32_w]
    rfl
  refine pure_ (i := 1) (N := (some 53)) (v := ?_) (a' := ?_) #[true, true, false, false, false, false, false, false, false, false, false, false, false] rfl rfl (by kernel_rfl) (fun _ _ _ h => h) (Or.inl ⟨by rfl, ?_⟩) ?_ ?_
  rotate_left
  · intro w'
    go_simp
    with_reducible rfl
  rotate_left
  · simp only [Act.put, List.setIfInBounds_toArray, List.set_cons_zero, List.set_cons_succ, i64_w, i32_w]
    rfl
  refine pure_ (i := 2) (N := (some 54)) (v := ?_) (a' := ?_) #[true, true, true, false, false, false, false, false, false, false, false, false, false] rfl rfl (by kernel_rfl) (fun _ _ _ h => h) (Or.inl ⟨by rfl, ?_⟩) ?_ ?_
  rotate_left
  · intro w'
    go_simp
    with_reducible rfl
  rotate_left
  · simp only [Act.put, List.setIfInBounds_toArray, List.set_cons_zero, List.set_cons_succ, i64_w, i32_w]
    rfl
  refine pure_ (i := 3) (N := (some 55)) (v := ?_) (a' := ?_) #[true, true, true, true, false, false, false, false, false, false, false, false, false] rfl rfl (by kernel_rfl) (fun _ _ _ h => h) (Or.inl ⟨by rfl, ?_⟩) ?_ ?_
  rotate_left
  · intro w'
    go_simp
    with_reducible rfl
  rotate_left
  · simp only [Act.put, List.setIfInBounds_toArray, List.set_cons_zero, List.set_cons_succ, i64_w, i32_w]
    rfl
  refine pure_ (i := 5) (N := (some 57)) (v := ?_) (a' := ?_) #[true, true, true, true, false, true, false, false, false, false, false, false, false] rfl rfl (by kernel_rfl) (fun _ _ _ h => h) (Or.inl ⟨by rfl, ?_⟩) ?_ ?_
  rotate_left
  · intro w'
    go_simp
    with_reducible rfl
  rotate_left
  · simp only [Act.put, List.setIfInBounds_toArray, List.set_cons_zero, List.set_cons_succ, i64_w, i32_w]
    rfl
  refine pure_ (i := 6) (N := (some 58)) (v := ?_) (a' := ?_) #[true, true, true, true, false, true, true, false, false, false, false, false, false] rfl rfl (by kernel_rfl) (fun _ _ _ h => h) (Or.inl ⟨by rfl, ?_⟩) ?_ ?_
  rotate_left
  · intro w'
    go_simp
    with_reducible rfl
  rotate_left
  · simp only [Act.put, List.setIfInBounds_toArray, List.set_cons_zero, List.set_cons_succ, i64_w, i32_w]
    rfl
  refine pure_ (i := 7) (N := (some 59)) (v := ?_) (a' := ?_) #[true, true, true, true, false, true, true, true, false, false, false, false, false] rfl rfl (by kernel_rfl) (fun _ _ _ h => h) (Or.inl ⟨by rfl, ?_⟩) ?_ ?_
  rotate_left
  · intro w'
    go_simp
    with_reducible rfl
  rotate_left
  · simp only [Act.put, List.setIfInBounds_toArray, List.set_cons_zero, List.set_cons_succ, i64_w, i32_w]
    rfl
  refine take_ (i := 4) (N := (some 56)) (v := ?_) (a' := ?_) #[true, true, true, true, true, true, true, true, false, false, false, false, false] rfl rfl (by kernel_rfl) (fun _ _ _ h => h) (Or.inl ⟨by rfl, ?_⟩) hHeld ?_ ?_
  rotate_left
  · rintro w' ⟨s0, s1⟩
    go_simp
    with_reducible rfl
  rotate_left
  · simp only [Act.put, List.setIfInBounds_toArray, List.set_cons_zero, List.set_cons_succ, i64_w, i32_w]
    rfl
  refine take_ (i := 8) (N := (some 60)) (v := ?_) (a' := ?_) #[true, true, true, true, true, true, true, true, true, false, false, false, false] rfl rfl (by kernel_rfl) (fun _ _ _ h => h) (Or.inl ⟨by rfl, ?_⟩) hHeld ?_ ?_
  rotate_left
  · rintro w' ⟨s0, s1⟩
    go_simp
    with_reducible rfl
  rotate_left
  · simp only [Act.put, List.setIfInBounds_toArray, List.set_cons_zero, List.set_cons_succ, i64_w, i32_w]
    rfl
  refine one_ (i := 9) (N := (some 61)) #[true, true, true, true, true, true, true, true, true, true, false, false, false] rfl rfl (by kernel_rfl) (by decide) (fun K_ hK => ?_)
  obtain ⟨g2, c2, w10, hrun, hrow, hgrow, hown⟩ := appendPs _ (Ca) (Cb) (pa) (pb) _ (HS9.out.rowP 5 rfl) (HS9.out.rowP 8 rfl) (by omega) (by omega)
  refine appended_ (.tmp 56) (.tmp 60) 60 60 (by rfl) rfl rfl Ca Cb (by rfl) (by rfl) hrun ?_
  clear hrun
  have HS10 := Aside0.mk (HS9.out.setP 5 rfl hgrow hrow hown)
  clear HS9
  clear hrow hgrow hown
  clear hHeld
  refine hK.out _ _ ⟨(HS10.out.node 3 rfl).c1, (HS10.out.node 6 rfl).c1⟩ (fun hHeld => ?_)
  clear hK K_
  refine norm_ (a' := ?_) ?_ ?_
  rotate_left
  · show Act.put _ (some 61) _ = _
    simp only [Act.put, List.setIfInBounds_toArray, List.set_cons_zero, List.set_cons_succ, i64_w, i32_w]
    rfl
  refine pure_ (i := 10) (N := (some 62)) (v := ?_) (a' := ?_) #[true, true, true, true, true, true, true, true, true, true, true, false, false] rfl rfl (by kernel_rfl) (fun _ _ _ h => h) (Or.inl ⟨by rfl, ?_⟩) ?_ ?_
  rotate_left
  · intro w'
    go_simp
    with_reducible rfl
  rotate_left
  · simp only [Act.put, List.setIfInBounds_toArray, List.set_cons_zero, List.set_cons_succ, i64_w, i32_w]
    rfl
  refine pure_ (i := 11) (N := (some 63)) (v := ?_) (a' := ?_) #[true, true, true, true, true, true, true, true, true, true, true, true, false] rfl rfl (by kernel_rfl) (fun _ _ _ h => h) (Or.inl ⟨by rfl, ?_⟩) ?_ ?_
  rotate_left
  · intro w'
    go_simp
    with_reducible rfl
  rotate_left
  · simp only [Act.put, List.setIfInBounds_toArray, List.set_cons_zero, List.set_cons_succ, i64_w, i32_w]
    rfl
  refine last_ (i := 12) (N := none) #[true, true, true, true, true, true, true, true, true, true, true, true, true] rfl rfl (by kernel_rfl) (by decide) (fun K_ hK => ?_)
  have c_0 := (HS10.out.node 3 rfl).c1
  have c_1 := (HS10.out.node 3 rfl).fz 1
  refine skip_ (w1 := ?_) (by rfl) rfl ?_ ?_
  rotate_left
  · go_simp
    rfl
  refine hK.out _ _ ?_
  clear hK K_ hHeld c_0 c_1
  refine done_ (by kernel_rfl) ?_
  have HS11 := Aside0.mk (HS10.out.put1 3 rfl (.slice (some ⟨g2, 0, none⟩) (pa.length + pb.length) c2))
  clear HS10
  generalize w10.setCell ⟨a, 1, none⟩ (.slice (some ⟨g2, 0, none⟩) (pa.length + pb.length) c2) = w11 at HS11 ⊢
  have c0 := (HS11.out.node 0 rfl).c0
  go_wp2_with (first
    | (go_at_call 49; refine (deleteE _ gk nk capK i ks i ((i : Int) + 1) (HS11.out.rowE 1 rfl) HNK.out hk (by omega) rfl rfl).mono ?_; clear c0; rintro E w12 ⟨rfl, hrow, hgrow⟩; have HS12 := Aside0.mk (HS11.out.setE 1 rfl hgrow hrow (.inl rfl)); clear HS11; clear hrow hgrow; have c0 := (HS12.out.node 0 rfl).c0; have f0 := (HS12.out.node 0 rfl).fz 0; have c1 := (HS12.out.node 0 rfl).c1)
    | (go_at_call 70; have HS13 := Aside0.mk (HS12.out.put0 0 rfl (.slice (some ⟨gk, 0, none⟩) (nk - 1) capK)); clear HS12; clear c0 f0 c1; refine (deleteP _ gc n capC (i + 1) ps ((i : Int) + 1) ((i : Int) + 2) (HS13.out.rowP 2 rfl) HN.out hi (by omega) (by simp) (by simp; omega)).mono ?_; rintro E w13 ⟨rfl, hrow, hgrow⟩; have HS14 := Aside0.mk (HS13.out.setP 2 rfl hgrow hrow (.inl rfl)); clear HS13; clear hrow hgrow; have c0 := (HS14.out.node 0 rfl).c1; have f0 := (HS14.out.node 0 rfl).fz 1))
  have HS15 := Aside0.mk (HS14.out.put1 0 rfl (.slice (some ⟨gc, 0, none⟩) (n - 1) capC))
  clear HS14
  generalize w13.setCell ⟨p, 1, none⟩ (.slice (some ⟨gc, 0, none⟩) (n - 1) capC) = w14 at HS15 ⊢
  clear c0 f0
  go_end0
  rw [← HR.out]
  have hl := Aside0.mk ((HS15.out.left : St _ _ _ (par2 p _ _ _ _ a _ _ _ _)))
  exact ⟨_, _, _, _, rfl, fun h => (by cases h), hl.out⟩
end Go.Proofs.Bt
end
section
namespace Go.Proofs.Bt
open Go Go.RowKit Go.Proofs.Ytjaddmflopahiaa.Q Go.Proofs.YtjaddmflopahiaaW.PrintWords Go.Proofs.YtjaddmflopahiaaW.PrintLast Go.Proofs.YtjaddmflopahiaaW.PrintMore
set_option linter.unusedVariables false
set_option linter.unusedSimpArgs false
set_option maxRecDepth 100000
structure KF (w : World) (gc j q : Nat) (A : Option Addr) (n cp : Nat) : Prop where
  c : w.cell? ⟨gc, j, none⟩ = some (.pointer (some ⟨q, 0, none⟩))
  k : w.cell? ⟨q, 0, none⟩ = some (.slice A n cp)
def MR (Q : World → Prop) (e : Ending) (w' : World) : Prop := e = .returned (.tuple #[]) ∧ Q w'
section
variable (w : World) (p gc n capC i q ql qr : Nat) (K : Value) (A Al Ar : Option Addr) (l c ll cl lr cr : Nat) (Q : World → Prop)
set_option maxHeartbeats 1000000 in
theorem mend_well (hN : NodeAt w p K (.slice (some ⟨gc, 0, none⟩) n capC)) (hi : i < n) (hn : n < 1000) (hk : KF w gc i q A l c) (hl : 2 ≤ l) :
    Calls Try.prog 50 #[.pointer (some ⟨p, 0, none⟩), .int .i64 i] w (MR (fun w' => w' = w)) := by
  have hp := hN.c1
  have h1 := hk.c
  have h2 := hk.k
  have hi1 : (i : Int) < (n : Int) := by omega
  have hlb : decide ((2 : Int) ≤ (l : Int)) = true := by simp; omega
  clear hk hN
  go_enter Try.func50, Try.ntmps50
  go_wp2
  go_end0
  exact ⟨rfl, rfl⟩
set_option maxHeartbeats 2000000 in
theorem mend_left (hN : NodeAt w p K (.slice (some ⟨gc, 0, none⟩) n capC)) (hi : i < n) (hn : n < 1000) (hk : KF w gc i q A l c) (hl : l < 2) (hi00 : 0 < i) (hkl : KF w gc (i - 1) ql Al ll cl) (hll : 2 < ll)
    (H : Calls Try.prog 62 #[.pointer (some ⟨p, 0, none⟩), .int .i64 i] w (MR Q)) : Calls Try.prog 50 #[.pointer (some ⟨p, 0, none⟩), .int .i64 i] w (MR Q) := by
  have hp := hN.c1
  have h1 := hk.c
  have h2 := hk.k
  have hi1 : (i : Int) < (n : Int) := by omega
  have hlb : decide ((2 : Int) ≤ (l : Int)) = false := by simp; omega
  have h1l := hkl.c
  have h2l := hkl.k
  have hi0 : (0 : Int) < (i : Int) := by omega
  have hi2 : i - 1 < n := by omega
  have hlbl : decide ((2 : Int) < (ll : Int)) = true := by simp; omega
  clear hkl
  have HH := Aside0.mk H
  clear hk hN H
  go_enter Try.func50, Try.ntmps50
  go_wp2_with (go_at_call 62; refine HH.out.mono ?_; rintro E w' ⟨rfl, hq⟩)
  go_end0
  exact ⟨rfl, hq⟩
set_option maxHeartbeats 2000000 in
theorem mend_right0 (hN : NodeAt w p K (.slice (some ⟨gc, 0, none⟩) n capC)) (hi : 0 < n) (hn : n < 1000) (hk : KF w gc 0 q A l c) (hl : l < 2) (hin : 1 < n) (hkr : KF w gc 1 qr Ar lr cr) (hrl : 2 < lr)
    (H : Calls Try.prog 63 #[.pointer (some ⟨p, 0, none⟩), .int .i64 0] w (MR Q)) : Calls Try.prog 50 #[.pointer (some ⟨p, 0, none⟩), .int .i64 0] w (MR Q) := by
  have hp := hN.c1
  have h1 := hk.c
  have h2 := hk.k
  have hi1 : (0 : Int) < (n : Int) := by omega
  have hlb : decide ((2 : Int) ≤ (l : Int)) = false := by simp; omega
  have h1r := hkr.c
  have h2r := hkr.k
  have hin2 : (1 : Int) < (n : Int) := by omega
  have hlbr : decide ((2 : Int) < (lr : Int)) = true := by simp; omega
  clear hkr
  have HH := Aside0.mk H
  clear hk hN H
  go_enter Try.func50, Try.ntmps50
  go_wp2_with (go_at_call 63; refine HH.out.mono ?_; rintro E w' ⟨rfl, hq⟩)
  go_end0
  exact ⟨rfl, hq⟩
set_option maxHeartbeats 2000000 in
theorem mend_right (hN : NodeAt w p K (.slice (some ⟨gc, 0, none⟩) n capC)) (hi : i < n) (hn : n < 1000) (hk : KF w gc i q A l c) (hl : l < 2) (hi00 : 0 < i) (hkl : KF w gc (i - 1) ql Al ll cl) (hll : ll ≤ 2) (hin : i + 1 < n) (hkr : KF w gc (i + 1) qr Ar lr cr) (hrl : 2 < lr)
    (H : Calls Try.prog 63 #[.pointer (some ⟨p, 0, none⟩), .int .i64 i] w (MR Q)) : Calls Try.prog 50 #[.pointer (some ⟨p, 0, none⟩), .int .i64 i] w (MR Q) := by
  have hp := hN.c1
  have h1 := hk.c
  have h2 := hk.k
  have hi1 : (i : Int) < (n : Int) := by omega
  have hlb : decide ((2 : Int) ≤ (l : Int)) = false := by simp; omega
  have h1l := hkl.c
  have h2l := hkl.k
  have hi0 : (0 : Int) < (i : Int) := by omega
  have hi2 : i - 1 < n := by omega
  have hlbl : decide ((2 : Int) < (ll : Int)) = false := by simp; omega
  clear hkl
  have h1r := hkr.c
  have h2r := hkr.k
  have hin2 : (i : Int) + 1 < (n : Int) := by omega
  have htn : ((i : Int) + 1).toNat = i + 1 := by omega
  have hlbr : decide ((2 : Int) < (lr : Int)) = true := by simp; omega
  clear hkr
  have HH := Aside0.mk H
  clear hk hN H
  go_enter Try.func50, Try.ntmps50
  go_wp2_with (go_at_call 63; refine HH.out.mono ?_; rintro E w' ⟨rfl, hq⟩)
  go_end0
  exact ⟨rfl, hq⟩
set_option maxHeartbeats 2000000 in
theorem mend_joinl (hN : NodeAt w p K (.slice (some ⟨gc, 0, none⟩) n capC)) (hi : i < n) (hn : n < 1000) (hk : KF w gc i q A l c) (hl : l < 2) (hi00 : 0 < i) (hkl : KF w gc (i - 1) ql Al ll cl) (hll : ll ≤ 2) (hin : i + 1 = n)
    (H : Calls Try.prog 64 #[.pointer (some ⟨p, 0, none⟩), .int .i64 ((i : Int) - 1)] w (MR Q)) : Calls Try.prog 50 #[.pointer (some ⟨p, 0, none⟩), .int .i64 i] w (MR Q) := by
  have hp := hN.c1
  have h1 := hk.c
  have h2 := hk.k
  have hi1 : (i : Int) < (n : Int) := by omega
  have hlb : decide ((2 : Int) ≤ (l : Int)) = false := by simp; omega
  have h1l := hkl.c
  have h2l := hkl.k
  have hi0 : (0 : Int) < (i : Int) := by omega
  have hi2 : i - 1 < n := by omega
  have hlbl : decide ((2 : Int) < (ll : Int)) = false := by simp; omega
  clear hkl
  have hlr : decide ((i : Int) + 1 < (n : Int)) = false := by simp; omega
  clear hin
  have HH := Aside0.mk H
  clear hk hN H
  go_enter Try.func50, Try.ntmps50
  go_wp2_with (go_at_call 64; refine HH.out.mono ?_; rintro E w' ⟨rfl, hq⟩)
  go_end0
  exact ⟨rfl, hq⟩
set_option maxHeartbeats 2000000 in
theorem mend_joinl2 (hN : NodeAt w p K (.slice (some ⟨gc, 0, none⟩) n capC)) (hi : i < n) (hn : n < 1000) (hk : KF w gc i q A l c) (hl : l < 2) (hi00 : 0 < i) (hkl : KF w gc (i - 1) ql Al ll cl) (hll : ll ≤ 2) (hin : i + 1 < n) (hkr : KF w gc (i + 1) qr Ar lr cr) (hrl : lr ≤ 2)
    (H : Calls Try.prog 64 #[.pointer (some ⟨p, 0, none⟩), .int .i64 ((i : Int) - 1)] w (MR Q)) : Calls Try.prog 50 #[.pointer (some ⟨p, 0, none⟩), .int .i64 i] w (MR Q) := by
  have hp := hN.c1
  have h1 := hk.c
  have h2 := hk.k
  have hi1 : (i : Int) < (n : Int) := by omega
  have hlb : decide ((2 : Int) ≤ (l : Int)) = false := by simp; omega
  have h1l := hkl.c
  have h2l := hkl.k
  have hi0 : (0 : Int) < (i : Int) := by omega
  have hi2 : i - 1 < n := by omega
  have hlbl : decide ((2 : Int) < (ll : Int)) = false := by simp; omega
  clear hkl
  have h1r := hkr.c
  have h2r := hkr.k
  have hin2 : (i : Int) + 1 < (n : Int) := by omega
  have htn : ((i : Int) + 1).toNat = i + 1 := by omega
  have hlbr : decide ((2 : Int) < (lr : Int)) = false := by simp; omega
  clear hkr
  have HH := Aside0.mk H
  clear hk hN H
  go_enter Try.func50, Try.ntmps50
  go_wp2_with (go_at_call 64; refine HH.out.mono ?_; rintro E w' ⟨rfl, hq⟩)
  go_end0
  exact ⟨rfl, hq⟩
set_option maxHeartbeats 2000000 in
theorem mend_join0 (hN : NodeAt w p K (.slice (some ⟨gc, 0, none⟩) n capC)) (hi : 0 < n) (hn : n < 1000) (hk : KF w gc 0 q A l c) (hl : l < 2) (hin : 1 < n) (hkr : KF w gc 1 qr Ar lr cr) (hrl : lr ≤ 2)
    (H : Calls Try.prog 64 #[.pointer (some ⟨p, 0, none⟩), .int .i64 0] w (MR Q)) : Calls Try.prog 50 #[.pointer (some ⟨p, 0, none⟩), .int .i64 0] w (MR Q) := by
  have hp := hN.c1
  have h1 := hk.c
  have h2 := hk.k
  have hi1 : (0 : Int) < (n : Int) := by omega
  have hlb : decide ((2 : Int) ≤ (l : Int)) = false := by simp; omega
  have h1r := hkr.c
  have h2r := hkr.k
  have hin2 : (1 : Int) < (n : Int) := by omega
  have hlbr : decide ((2 : Int) < (lr : Int)) = false := by simp; omega
  clear hkr
  have HH := Aside0.mk H
  clear hk hN H
  go_enter Try.func50, Try.ntmps50
  go_wp2_with (go_at_call 64; refine HH.out.mono ?_; rintro E w' ⟨rfl, hq⟩)
  go_end0
  exact ⟨rfl, hq⟩
end
end Go.Proofs.Bt
end
section
namespace Go.Proofs.Bt
open Go Go.RowKit Go.Proofs.Ytjaddmflopahiaa.Q
set_option linter.unusedVariables false
set_option linter.unusedSimpArgs false
def bleft : (h : Nat) → BT h → BT h → S29 → S29 × BT h × BT h
  | 0, a, b, _ => (List.getLastD (α := S29) a z29, List.dropLast (α := S29) a, List.cons (α := S29) (List.getLastD (α := S29) a z29) b)
  | _ + 1, a, b, z => (a.1.getLastD z29, (a.1.dropLast, a.2.dropLast), (z :: b.1, a.2.getLast?.toList ++ b.2))
def bright : (h : Nat) → BT h → BT h → S29 → S29 × BT h × BT h
  | 0, a, b, _ => (List.getD (α := S29) b 1 z29, List.append (α := S29) a [List.getD (α := S29) b 0 z29], List.tail (α := S29) b)
  | _ + 1, a, b, z => (b.1.getD 0 z29, (a.1 ++ [z], a.2 ++ b.2.head?.toList), (b.1.tail, b.2.tail))
def bjoin : (h : Nat) → BT h → BT h → S29 → BT h
  | 0, a, b, _ => List.append (α := S29) a b
  | _ + 1, a, b, z => (a.1 ++ [z] ++ b.1, a.2 ++ b.2)
def blen (h : Nat) (t : BT h) : Nat := (bkeys h t).length
def bmend (h : Nat) (ks : List S29) (A : List (BT h)) (c : BT h) (B : List (BT h)) : List S29 × List (BT h) :=
  if 2 ≤ blen h c then (ks, A ++ c :: B)
  else match A.getLast? with
    | some l =>
      if 2 < blen h l then
        let r := bleft h l c (ks.getD (A.length - 1) z29)
        (ks.set (A.length - 1) r.1, A.dropLast ++ r.2.1 :: r.2.2 :: B)
      else match B with
        | r :: B' =>
          if 2 < blen h r then
            let q := bright h c r (ks.getD A.length z29)
            (ks.set A.length q.1, A ++ q.2.1 :: q.2.2 :: B')
          else (delAt ks (A.length - 1), A.dropLast ++ bjoin h l c (ks.getD (A.length - 1) z29) :: r :: B')
        | [] => (delAt ks (A.length - 1), A.dropLast ++ [bjoin h l c (ks.getD (A.length - 1) z29)])
    | none => match B with
      | r :: B' =>
        if 2 < blen h r then
          let q := bright h c r (ks.getD 0 z29)
          (ks.set 0 q.1, q.2.1 :: q.2.2 :: B')
        else (delAt ks 0, bjoin h c r (ks.getD 0 z29) :: B')
      | [] => (ks, [c])
def cutIn {β : Type} (md : List S29 → List β → β → List β → List S29 × List β) (rec : β → β × Bool) (ks : List S29) (ts : List β) (e : S29) : (List S29 × List β) × Bool :=
  match ts[kidIx ks e]? with
  | none => ((ks, ts), false)
  | some k => (md ks (ts.take (kidIx ks e)) (rec k).1 (ts.drop (kidIx ks e + 1)), (rec k).2)
def bcut : (h : Nat) → BT h → S29 → BT h × Bool
  | 0, ks, e => (if found ks e = true then delAt (α := S29) ks (low ks e) else ks, found ks e)
  | h + 1, t, e => cutIn (bmend h) (fun k => bcut h k e) t.1 t.2 e
theorem cutIn_at {β : Type} (md : List S29 → List β → β → List β → List S29 × List β) (rec : β → β × Bool) (ks : List S29) (A : List β) (k : β) (B : List β) (e : S29) (hA : A.length = kidIx ks e) :
    cutIn md rec ks (A ++ k :: B) e = (md ks A (rec k).1 B, (rec k).2) := by
  have hg : (A ++ k :: B)[kidIx ks e]? = some k := by
    rw [← hA, List.getElem?_append_right (Nat.le_refl _)]
    simp
  have ht : (A ++ k :: B).take (kidIx ks e) = A := by rw [← hA, List.take_left]
  have hd : (A ++ k :: B).drop (kidIx ks e + 1) = B := by
    rw [← hA, List.drop_append]
    simp
  unfold cutIn
  simp only [hg, ht, hd]
theorem bcut_at (h : Nat) (ks : List S29) (A : List (BT h)) (k : BT h) (B : List (BT h)) (e : S29) (hA : A.length = kidIx ks e) :
    bcut (h + 1) (ks, A ++ k :: B) e = (bmend h ks A (bcut h k e).1 B, (bcut h k e).2) := cutIn_at (bmend h) (fun k => bcut h k e) ks A k B e hA
theorem delAt_length {α : Type} (l : List α) (i : Nat) (h : i < l.length) : (delAt l i).length + 1 = l.length := by rw [delAt_len l i h]; omega
theorem bmend_shape (h : Nat) (ks : List S29) (A : List (BT h)) (c : BT h) (B : List (BT h)) (hl : A.length + B.length = ks.length) :
    (bmend h ks A c B).2.length = (bmend h ks A c B).1.length + 1 ∧ (bmend h ks A c B).1.length ≤ ks.length ∧ ks.length ≤ (bmend h ks A c B).1.length + 1 := by
  unfold bmend
  by_cases hc : 2 ≤ blen h c
  · rw [if_pos hc]
    simp; omega
  · rw [if_neg hc]
    rcases List.eq_nil_or_concat A with rfl | ⟨X, l, hAl⟩
    · simp only [List.getLast?_nil]
      cases B with
      | nil =>
        simp only [List.length_nil] at hl
        simp only [List.length_cons, List.length_nil]
        omega
      | cons r B' =>
        simp only [List.length_nil, List.length_cons, Nat.zero_add] at hl
        by_cases hr : 2 < blen h r
        · simp only [if_pos hr]
          simp; omega
        · simp only [if_neg hr]
          have := delAt_length ks 0 (by omega)
          simp; omega
    · have hAl : A = X ++ [l] := by simpa using hAl
      subst hAl
      have hgl : (X ++ [l]).getLast? = some l := by simp
      have hll : (X ++ [l]).length = X.length + 1 := by simp
      rw [hll] at hl
      simp only [hgl]
      have hd := delAt_length ks X.length (by omega)
      by_cases hl2 : 2 < blen h l
      · simp only [if_pos hl2]
        simp; omega
      · simp only [if_neg hl2]
        cases B with
        | nil =>
          simp only [List.length_nil, Nat.add_zero] at hl
          simp; omega
        | cons r B' =>
          simp only [List.length_cons] at hl
          by_cases hr : 2 < blen h r
          · simp only [if_pos hr]
            simp; omega
          · simp only [if_neg hr]
            simp; omega
def CutFit (e : S29) : (h : Nat) → BT h → Prop
  | 0, ks => List.length (α := S29) ks < 900 ∧ Mono ks e
  | h + 1, t => 1 ≤ t.1.length ∧ t.1.length < 900 ∧ Mono t.1 e ∧ t.2.length = t.1.length + 1 ∧ ∀ k ∈ t.2, CutFit e h k ∧ 2 ≤ blen h k
theorem leaf_cut_len (ks : List S29) (e : S29) : ks.length ≤ (if found ks e = true then delAt ks (low ks e) else ks).length + 1 ∧ (if found ks e = true then delAt ks (low ks e) else ks).length ≤ ks.length := by
  split
  · rename_i hf
    have := delAt_length ks _ (found_lt hf)
    omega
  · omega
theorem CutFit.lt {e : S29} : ∀ {h : Nat} {t : BT h}, CutFit e h t → blen h t < 900
  | 0, t, hf => hf.1
  | _ + 1, t, hf => hf.2.1
theorem CutFit.kids {e : S29} : ∀ {h : Nat} {t : BT h}, CutFit e h t → h = 0 ∨ bkids h t = blen h t + 1
  | 0, t, hf => .inl rfl
  | _ + 1, t, hf => .inr hf.2.2.2.1
theorem bcut_shape : ∀ (h : Nat) (t : BT h) (e : S29), CutFit e h t → blen h t ≤ blen h (bcut h t e).1 + 1 ∧ blen h (bcut h t e).1 ≤ blen h t ∧ (h = 0 ∨ bkids h (bcut h t e).1 = blen h (bcut h t e).1 + 1)
  | 0, t, e, hf => ⟨(leaf_cut_len t e).1, (leaf_cut_len t e).2, .inl rfl⟩
  | h + 1, t, e, hf => by
    obtain ⟨ks, ts⟩ := t
    obtain ⟨h1, h2, h3, h4, h5⟩ := hf
    change ts.length = ks.length + 1 at h4
    have hi := kidIx_le ks e
    obtain ⟨A, k, B, rfl, hA⟩ := cut_at ts (kidIx ks e) (by omega)
    have hx : bcut (h + 1) (ks, A ++ k :: B) e = _ := bcut_at h ks A k B e hA
    rw [List.length_append, List.length_cons] at h4
    obtain ⟨g1, g2, g3⟩ := bmend_shape h ks A (bcut h k e).1 B (by omega)
    rw [hx]
    exact ⟨g3, g2, .inr g1⟩
def tcut (h : Nat) (t : BT h) (e : S29) : (Σ h, BT h) × Bool :=
  if (bcut h t e).2 = true then (match h, (bcut h t e).1 with
    | 0, t' => ⟨0, t'⟩
    | h + 1, t' => match t'.1, t'.2 with
      | [], k :: _ => ⟨h, k⟩
      | _, _ => ⟨h + 1, t'⟩, true)
  else (⟨h, (bcut h t e).1⟩, false)
end Go.Proofs.Bt
end
section
namespace Go.Proofs.Bt
open Go Go.RowKit Go.Proofs.Ytjaddmflopahiaa.Q Go.Proofs.YtjaddmflopahiaaW.PrintWords Go.Proofs.YtjaddmflopahiaaW.PrintLast Go.Proofs.YtjaddmflopahiaaW.PrintMore
set_option linter.unusedVariables false
set_option linter.unusedSimpArgs false
set_option maxRecDepth 100000
section
variable {w0 w w' : World} {F : Nat → Prop} {A B R : List Chunk}
theorem St.sub (s : St w0 F w (A ++ R)) : St w (fun b => b ∈ fpc A) w A :=
  St.start (fun c hc => s.h c (List.mem_append_left _ hc)) (by have := s.nd; rw [fpc_app] at this; exact (nd_app.1 this).1)
end
def two5 (p : Nat) (K C : Value) (ks : List S29) (ps : List Value) (h : Nat) (l c : MT h) : List Chunk := [nodeC p K C, rowEC K ks, rowPC C ps, treeC h l, treeC h c]
def one4 (p : Nat) (K C : Value) (ks : List S29) (ps : List Value) (h : Nat) (l : MT h) : List Chunk := [nodeC p K C, rowEC K ks, rowPC C ps, treeC h l]
theorem two5_leaf {w0 w : World} {F : Nat → Prop} {R : List Chunk} {p a b : Nat} {K C Ka Kb : Value} {ks ka kb : List S29} {ps : List Value} (s : St w0 F w (two5 p K C ks ps 0 (⟨a, Ka, ka⟩ : Leaf) (⟨b, Kb, kb⟩ : Leaf) ++ R)) :
    St w0 F w (par3 p K C ks ps a Ka (.slice none 0 0) ka [] b Kb (.slice none 0 0) kb [] ++ R) := by
  refine s.tell (fun hh => ?_) (fun x => ?_)
  · have h0 := hh (nodeC p K C) (by simp [two5])
    have h1 := hh (rowEC K ks) (by simp [two5])
    have h2 := hh (rowPC C ps) (by simp [two5])
    have h3 : Ok w 0 (⟨a, Ka, ka⟩ : Leaf) := hh (treeC 0 (⟨a, Ka, ka⟩ : Leaf)) (by simp [two5])
    have h4 : Ok w 0 (⟨b, Kb, kb⟩ : Leaf) := hh (treeC 0 (⟨b, Kb, kb⟩ : Leaf)) (by simp [two5])
    intro c hc
    simp only [par3, List.mem_cons, List.not_mem_nil, or_false] at hc
    rcases hc with rfl | rfl | rfl | rfl | rfl | rfl | rfl | rfl | rfl
    · exact h0
    · exact h1
    · exact h2
    · exact h3.1
    · exact h3.2
    · exact Row.nil _ _ _
    · exact h4.1
    · exact h4.2
    · exact Row.nil _ _ _
  · simp only [fpc, two5, par3, nodeC, rowEC, rowPC, treeC, fp, List.flatMap_cons, List.flatMap_nil, List.count_append, List.count_cons, List.count_nil]
    have : (bl (.slice none 0 0)).count x = 0 := by simp [bl, Value.ownBlock]
    omega
theorem leaf_two5 {w0 w : World} {F : Nat → Prop} {R : List Chunk} {p a b : Nat} {K C Ka Kb : Value} {ks ka kb : List S29} {ps pa pb : List Value} (s : St w0 F w (par3 p K C ks ps a Ka (.slice none 0 0) ka pa b Kb (.slice none 0 0) kb pb ++ R)) :
    St w0 F w (two5 p K C ks ps 0 (⟨a, Ka, ka⟩ : Leaf) (⟨b, Kb, kb⟩ : Leaf) ++ R) := by
  refine s.tell (fun hh => ?_) (fun x => ?_)
  · have h0 := hh (nodeC p K C) (by simp [par3])
    have h1 := hh (rowEC K ks) (by simp [par3])
    have h2 := hh (rowPC C ps) (by simp [par3])
    have h3 : Ok w 0 (⟨a, Ka, ka⟩ : Leaf) := ⟨hh (nodeC a Ka (.slice none 0 0)) (by simp [par3]), hh (rowEC Ka ka) (by simp [par3])⟩
    have h4 : Ok w 0 (⟨b, Kb, kb⟩ : Leaf) := ⟨hh (nodeC b Kb (.slice none 0 0)) (by simp [par3]), hh (rowEC Kb kb) (by simp [par3])⟩
    intro c hc
    simp only [two5, List.mem_cons, List.not_mem_nil, or_false] at hc
    rcases hc with rfl | rfl | rfl | rfl | rfl
    · exact h0
    · exact h1
    · exact h2
    · exact h3
    · exact h4
  · simp only [fpc, two5, par3, nodeC, rowEC, rowPC, treeC, fp, List.flatMap_cons, List.flatMap_nil, List.count_append, List.count_cons, List.count_nil]
    omega
def ptrs (h : Nat) (l : List (MT h)) : List Value := l.map (kidPtr h)
theorem two5_inner {w0 w : World} {F : Nat → Prop} {R : List Chunk} {p a b h : Nat} {K C Ka Kb Ca Cb : Value} {ks ka kb : List S29} {ps : List Value} {la lb : List (MT h)} (s : St w0 F w (two5 p K C ks ps (h + 1) (⟨a, Ka, Ca, ka, la⟩ : Inner (MT h)) (⟨b, Kb, Cb, kb, lb⟩ : Inner (MT h)) ++ R)) :
    St w0 F w (par3 p K C ks ps a Ka Ca ka (ptrs h la) b Kb Cb kb (ptrs h lb) ++ (forC h la :: forC h lb :: R)) ∧ 0 < la.length ∧ 0 < lb.length := by
  have hA : Ok w (h + 1) (⟨a, Ka, Ca, ka, la⟩ : Inner (MT h)) := s.h (treeC (h + 1) (⟨a, Ka, Ca, ka, la⟩ : Inner (MT h))) (by simp [two5])
  have hB : Ok w (h + 1) (⟨b, Kb, Cb, kb, lb⟩ : Inner (MT h)) := s.h (treeC (h + 1) (⟨b, Kb, Cb, kb, lb⟩ : Inner (MT h))) (by simp [two5])
  refine ⟨?_, hA.2.2.2.1, hB.2.2.2.1⟩
  have e : par3 p K C ks ps a Ka Ca ka (ptrs h la) b Kb Cb kb (ptrs h lb) ++ (forC h la :: forC h lb :: R) = (par3 p K C ks ps a Ka Ca ka (ptrs h la) b Kb Cb kb (ptrs h lb) ++ [forC h la, forC h lb]) ++ R := by simp
  rw [e]
  refine s.tell (fun hh => ?_) (fun x => ?_)
  · have h0 := hh (nodeC p K C) (by simp [two5])
    have h1 := hh (rowEC K ks) (by simp [two5])
    have h2 := hh (rowPC C ps) (by simp [two5])
    intro c hc
    simp only [par3, List.mem_append, List.mem_cons, List.not_mem_nil, or_false] at hc
    rcases hc with (rfl | rfl | rfl | rfl | rfl | rfl | rfl | rfl | rfl) | rfl | rfl
    · exact h0
    · exact h1
    · exact h2
    · exact hA.1
    · exact hA.2.1
    · show Row w 59 1 Ca (ptrs h la).length (ptrs h la)
      rw [ptrs, List.length_map]
      exact hA.2.2.1
    · exact hB.1
    · exact hB.2.1
    · show Row w 59 1 Cb (ptrs h lb).length (ptrs h lb)
      rw [ptrs, List.length_map]
      exact hB.2.2.1
    · exact hA.2.2.2.2
    · exact hB.2.2.2.2
  · simp only [fpc, two5, par3, nodeC, rowEC, rowPC, treeC, forC, fp, List.flatMap_append, List.flatMap_cons, List.flatMap_nil, List.count_append, List.count_cons, List.count_nil]
    omega
theorem inner_two5 {w0 w : World} {F : Nat → Prop} {R : List Chunk} {p a b h : Nat} {K C Ka Kb Ca Cb : Value} {ks ka kb : List S29} {ps : List Value} {la lb la' lb' : List (MT h)} (s : St w0 F w (par3 p K C ks ps a Ka Ca ka (ptrs h la') b Kb Cb kb (ptrs h lb') ++ (forC h la :: forC h lb :: R)))
    (h1 : 0 < la'.length) (h2 : 0 < lb'.length) (hp : (la' ++ lb').Perm (la ++ lb)) :
    St w0 F w (two5 p K C ks ps (h + 1) (⟨a, Ka, Ca, ka, la'⟩ : Inner (MT h)) (⟨b, Kb, Cb, kb, lb'⟩ : Inner (MT h)) ++ R) := by
  have e : par3 p K C ks ps a Ka Ca ka (ptrs h la') b Kb Cb kb (ptrs h lb') ++ (forC h la :: forC h lb :: R) = (par3 p K C ks ps a Ka Ca ka (ptrs h la') b Kb Cb kb (ptrs h lb') ++ [forC h la, forC h lb]) ++ R := by simp
  rw [e] at s
  have hmem : ∀ x, x ∈ la' ∨ x ∈ lb' → x ∈ la ∨ x ∈ lb := fun x hx => by
    rw [← List.mem_append] at hx ⊢
    exact hp.mem_iff.1 hx
  refine s.tell (fun hh => ?_) (fun x => ?_)
  · have h0 := hh (nodeC p K C) (by simp [par3])
    have h1' := hh (rowEC K ks) (by simp [par3])
    have h2' := hh (rowPC C ps) (by simp [par3])
    have fa : ∀ k ∈ la, Ok w h k := hh (forC h la) (by simp)
    have fb : ∀ k ∈ lb, Ok w h k := hh (forC h lb) (by simp)
    have fo : ∀ k, k ∈ la' ∨ k ∈ lb' → Ok w h k := fun k hk => (hmem k hk).elim (fa k) (fb k)
    have ra : Row w 59 1 Ca (ptrs h la').length (ptrs h la') := hh (rowPC Ca (ptrs h la')) (by simp [par3])
    have rb : Row w 59 1 Cb (ptrs h lb').length (ptrs h lb') := hh (rowPC Cb (ptrs h lb')) (by simp [par3])
    rw [ptrs, List.length_map] at ra rb
    have hA : Ok w (h + 1) (⟨a, Ka, Ca, ka, la'⟩ : Inner (MT h)) := ⟨hh (nodeC a Ka Ca) (by simp [par3]), hh (rowEC Ka ka) (by simp [par3]), ra, h1, fun k hk => fo k (.inl hk)⟩
    have hB : Ok w (h + 1) (⟨b, Kb, Cb, kb, lb'⟩ : Inner (MT h)) := ⟨hh (nodeC b Kb Cb) (by simp [par3]), hh (rowEC Kb kb) (by simp [par3]), rb, h2, fun k hk => fo k (.inr hk)⟩
    intro c hc
    simp only [two5, List.mem_cons, List.not_mem_nil, or_false] at hc
    rcases hc with rfl | rfl | rfl | rfl | rfl
    · exact h0
    · exact h1'
    · exact h2'
    · exact hA
    · exact hB
  · have hc : (la'.flatMap (fp h)).count x + (lb'.flatMap (fp h)).count x = (la.flatMap (fp h)).count x + (lb.flatMap (fp h)).count x := by
      rw [← List.count_append, ← List.count_append, ← List.flatMap_append, ← List.flatMap_append]
      exact (hp.flatMap_right _).count_eq x
    simp only [fpc, two5, par3, nodeC, rowEC, rowPC, treeC, forC, fp, List.flatMap_append, List.flatMap_cons, List.flatMap_nil, List.count_append, List.count_cons, List.count_nil]
    omega
end Go.Proofs.Bt
end
section
namespace Go.Proofs.Bt
open Go Go.RowKit Go.Proofs.Ytjaddmflopahiaa.Q Go.Proofs.YtjaddmflopahiaaW.PrintWords Go.Proofs.YtjaddmflopahiaaW.PrintLast Go.Proofs.YtjaddmflopahiaaW.PrintMore
set_option linter.unusedVariables false
set_option linter.unusedSimpArgs false
set_option maxRecDepth 100000
def Fine (h : Nat) (t : BT h) : Prop := blen h t < 900 ∧ (h = 0 ∨ bkids h t = blen h t + 1)
def PairPost (w : World) (F : Nat → Prop) (p : Nat) (K C : Value) (ks : List S29) (ps : List Value) (h : Nat) (r : BT h × BT h) (lp cp : Nat) (R : List Chunk) (E : Ending) (w' : World) : Prop :=
  ∃ l' c' : MT h, E = .returned (.tuple #[]) ∧ ptr h l' = lp ∧ ptr h c' = cp ∧ abs h l' = r.1 ∧ abs h c' = r.2 ∧ St w F w' (two5 p K C ks ps h l' c' ++ R)
def OnePost (w : World) (F : Nat → Prop) (p : Nat) (ks : List S29) (ps : List Value) (h : Nat) (r : BT h) (lp : Nat) (R : List Chunk) (E : Ending) (w' : World) : Prop :=
  ∃ (K C : Value) (l' : MT h), E = .returned (.tuple #[]) ∧ ptr h l' = lp ∧ abs h l' = r ∧ St w F w' (one4 p K C ks ps h l' ++ R)
theorem snoc_of {α : Type} (l : List α) (h : 0 < l.length) : ∃ l' x, l = l' ++ [x] := by
  have hne : l ≠ [] := by rintro rfl; simp at h
  exact ⟨l.dropLast, l.getLast hne, (List.dropLast_concat_getLast hne).symm⟩
theorem bleft_leaf (ka : List S29) (x : S29) (kb : List S29) (z : S29) : bleft 0 (ka ++ [x] : List S29) kb z = (x, (ka : List S29), (x :: kb : List S29)) := by
  show (List.getLastD (ka ++ [x]) z29, List.dropLast (ka ++ [x]), List.getLastD (ka ++ [x]) z29 :: kb) = _
  simp
theorem bleft_inner (h : Nat) (ka : List S29) (x : S29) (la : List (BT h)) (q : BT h) (kb : List S29) (lb : List (BT h)) (z : S29) : bleft (h + 1) (ka ++ [x], la ++ [q]) (kb, lb) z = (x, (ka, la), (z :: kb, q :: lb)) := by
  show (List.getLastD (ka ++ [x]) z29, (List.dropLast (ka ++ [x]), List.dropLast (la ++ [q])), (z :: kb, (la ++ [q]).getLast?.toList ++ lb)) = _
  simp
theorem getD_of {ks : List S29} {i : Nat} (hi : i < ks.length) : ks[i]? = some (ks.getD i z29) := by
  rw [List.getD_eq_getElem?_getD, List.getElem?_eq_getElem hi]
  rfl
theorem ptrs_snoc (h : Nat) (la : List (MT h)) (q : MT h) : ptrs h (la ++ [q]) = ptrs h la ++ [.pointer (some ⟨ptr h q, 0, none⟩)] := by simp [ptrs, kidPtr]
theorem ptrs_cons (h : Nat) (la : List (MT h)) (q : MT h) : ptrs h (q :: la) = .pointer (some ⟨ptr h q, 0, none⟩) :: ptrs h la := rfl
theorem ptrs_app (h : Nat) (la lb : List (MT h)) : ptrs h (la ++ lb) = ptrs h la ++ ptrs h lb := by simp [ptrs]
theorem ptrs_len (h : Nat) (la : List (MT h)) : (ptrs h la).length = la.length := by simp [ptrs]
section
variable (w : World) (F : Nat → Prop) (p : Nat) (K C : Value) (ks : List S29) (ps : List Value) (i : Nat) (R : List Chunk)
theorem pair_left : ∀ (h : Nat) (l c : MT h) (j : Nat) (s : St w F w (two5 p K C ks ps h l c ++ R)) (hi : i + 1 < ps.length) (hj : j = i + 1) (hpa : ps[i]? = some (kidPtr h l)) (hpb : ps[i + 1]? = some (kidPtr h c)) (hps : ps.length < 1000) (hk : i < ks.length) (hks : ks.length < 1000)
    (fl : Fine h (abs h l)) (fc : Fine h (abs h c)) (hl : 2 < blen h (abs h l)),
    Calls Try.prog 62 #[.pointer (some ⟨p, 0, none⟩), .int .i64 (j : Int)] w (PairPost w F p K C (ks.set i (bleft h (abs h l) (abs h c) (ks.getD i z29)).1) ps h (bleft h (abs h l) (abs h c) (ks.getD i z29)).2 (ptr h l) (ptr h c) R)
  | 0, l, c, j, s, hi, hj, hpa, hpb, hps, hk, hks, fl, fc, hl => by
    obtain ⟨a, Ka, ka⟩ := l
    obtain ⟨b, Kb, kb⟩ := c
    have f1 : ka.length < 900 := fl.1
    have f2 : kb.length < 900 := fc.1
    have f3 : 2 < ka.length := hl
    obtain ⟨ka, x, rfl⟩ := snoc_of ka (by omega)
    rw [List.length_append, List.length_singleton] at f1 f3
    have he : bleft 0 (abs 0 (⟨a, Ka, ka ++ [x]⟩ : Leaf)) (abs 0 (⟨b, Kb, kb⟩ : Leaf)) (ks.getD i z29) = (x, (ka : List S29), (x :: kb : List S29)) := bleft_leaf ka x kb _
    rw [he]
    have s1 := two5_leaf s
    refine (fromLeft_leaf w p a b K C Ka Kb ks ps i j x ka kb _ s1.sub hi hj hpa hpb hps hk hks (by simp; omega) (by omega) (by simp) (by simp)).mono ?_
    rintro E w' ⟨Ka', Ca', Kb', Cb', rfl, hnil, st⟩
    obtain ⟨rfl, rfl⟩ := hnil rfl
    exact ⟨(⟨a, Ka', ka⟩ : Leaf), (⟨b, Kb', x :: kb⟩ : Leaf), rfl, rfl, rfl, rfl, rfl, leaf_two5 (s1.call st)⟩
  | h + 1, l, c, j, s, hi, hj, hpa, hpb, hps, hk, hks, fl, fc, hl => by
    obtain ⟨a, Ka, Ca, ka, la⟩ := l
    obtain ⟨b, Kb, Cb, kb, lb⟩ := c
    have f1 : ka.length < 900 := fl.1
    have f2 : kb.length < 900 := fc.1
    have f3 : 2 < ka.length := hl
    have f4 : la.length = ka.length + 1 := by
      have := fl.2.resolve_left (by omega)
      change (la.map (abs h)).length = ka.length + 1 at this
      rwa [List.length_map] at this
    have f5 : lb.length = kb.length + 1 := by
      have := fc.2.resolve_left (by omega)
      change (lb.map (abs h)).length = kb.length + 1 at this
      rwa [List.length_map] at this
    obtain ⟨ka, x, rfl⟩ := snoc_of ka (by omega)
    obtain ⟨la, q, rfl⟩ := snoc_of la (by omega)
    rw [List.length_append, List.length_singleton] at f1 f3
    rw [List.length_append, List.length_singleton, List.length_append, List.length_singleton] at f4
    have he : bleft (h + 1) (abs (h + 1) (⟨a, Ka, Ca, ka ++ [x], la ++ [q]⟩ : Inner (MT h))) (abs (h + 1) (⟨b, Kb, Cb, kb, lb⟩ : Inner (MT h))) (ks.getD i z29) = (x, (ka, la.map (abs h)), (ks.getD i z29 :: kb, abs h q :: lb.map (abs h))) := by
      show bleft (h + 1) (ka ++ [x], (la ++ [q]).map (abs h)) (kb, lb.map (abs h)) _ = _
      rw [List.map_append]
      exact bleft_inner h ka x _ _ kb _ _
    rw [he]
    obtain ⟨s1, g1, g2⟩ := two5_inner s
    rw [ptrs_snoc] at s1
    refine (fromLeft_inner w p a b K C Ka Kb Ca Cb ks ps i j x (ks.getD i z29) ka kb _ (ptrs h la) (ptrs h lb) _ s1.sub hi hj hpa hpb hps hk hks (by simp; omega) (by omega) (by simp [ptrs_len]; omega) (by rw [ptrs_len]; omega) (getD_of hk) (by rw [ptrs_len]; omega) (by rw [ptrs_len]; omega)).mono ?_
    rintro E w' ⟨Ka', Ca', Kb', Cb', rfl, hnil, st⟩
    have s2 := s1.call st
    rw [← ptrs_cons] at s2
    refine ⟨(⟨a, Ka', Ca', ka, la⟩ : Inner (MT h)), (⟨b, Kb', Cb', ks.getD i z29 :: kb, q :: lb⟩ : Inner (MT h)), rfl, rfl, rfl, rfl, rfl, inner_two5 s2 (by omega) (by simp) ?_⟩
    rw [List.append_assoc]
    exact List.Perm.refl _
end
end Go.Proofs.Bt
end
section
namespace Go.Proofs.Bt
open Go Go.RowKit Go.Proofs.Ytjaddmflopahiaa.Q Go.Proofs.YtjaddmflopahiaaW.PrintWords Go.Proofs.YtjaddmflopahiaaW.PrintLast Go.Proofs.YtjaddmflopahiaaW.PrintMore
set_option linter.unusedVariables false
set_option linter.unusedSimpArgs false
set_option maxRecDepth 100000
theorem cons_of {α : Type} (l : List α) (h : 0 < l.length) : ∃ x l', l = x :: l' := by
  match l, h with
  | x :: l', _ => exact ⟨x, l', rfl⟩
theorem leaf_one4 {w0 w : World} {F : Nat → Prop} {R : List Chunk} {p a : Nat} {K C Ka : Value} {ks ka : List S29} {ps pa : List Value} (s : St w0 F w (par2 p K C ks ps a Ka (.slice none 0 0) ka pa ++ R)) : St w0 F w (one4 p K C ks ps 0 (⟨a, Ka, ka⟩ : Leaf) ++ R) := by
  refine s.tell (fun hh => ?_) (fun x => ?_)
  · have h0 := hh (nodeC p K C) (by simp [par2])
    have h1 := hh (rowEC K ks) (by simp [par2])
    have h2 := hh (rowPC C ps) (by simp [par2])
    have h3 : Ok w 0 (⟨a, Ka, ka⟩ : Leaf) := ⟨hh (nodeC a Ka (.slice none 0 0)) (by simp [par2]), hh (rowEC Ka ka) (by simp [par2])⟩
    intro c hc
    simp only [one4, List.mem_cons, List.not_mem_nil, or_false] at hc
    rcases hc with rfl | rfl | rfl | rfl
    · exact h0
    · exact h1
    · exact h2
    · exact h3
  · simp only [fpc, one4, par2, nodeC, rowEC, rowPC, treeC, fp, List.flatMap_cons, List.flatMap_nil, List.count_append, List.count_cons, List.count_nil]
    omega
theorem inner_one4 {w0 w : World} {F : Nat → Prop} {R : List Chunk} {p a h : Nat} {K C Ka Ca : Value} {ks ka : List S29} {ps : List Value} {la lb : List (MT h)} (s : St w0 F w (par2 p K C ks ps a Ka Ca ka (ptrs h (la ++ lb)) ++ (forC h la :: forC h lb :: R)))
    (h1 : 0 < la.length) : St w0 F w (one4 p K C ks ps (h + 1) (⟨a, Ka, Ca, ka, la ++ lb⟩ : Inner (MT h)) ++ R) := by
  have e : par2 p K C ks ps a Ka Ca ka (ptrs h (la ++ lb)) ++ (forC h la :: forC h lb :: R) = (par2 p K C ks ps a Ka Ca ka (ptrs h (la ++ lb)) ++ [forC h la, forC h lb]) ++ R := by simp
  rw [e] at s
  refine s.tell (fun hh => ?_) (fun x => ?_)
  · have h0 := hh (nodeC p K C) (by simp [par2])
    have h1' := hh (rowEC K ks) (by simp [par2])
    have h2' := hh (rowPC C ps) (by simp [par2])
    have fa : ∀ k ∈ la, Ok w h k := hh (forC h la) (by simp)
    have fb : ∀ k ∈ lb, Ok w h k := hh (forC h lb) (by simp)
    have ra : Row w 59 1 Ca (ptrs h (la ++ lb)).length (ptrs h (la ++ lb)) := hh (rowPC Ca (ptrs h (la ++ lb))) (by simp [par2])
    rw [ptrs_len] at ra
    have hA : Ok w (h + 1) (⟨a, Ka, Ca, ka, la ++ lb⟩ : Inner (MT h)) := ⟨hh (nodeC a Ka Ca) (by simp [par2]), hh (rowEC Ka ka) (by simp [par2]), ra, by show 0 < (la ++ lb).length; rw [List.length_append]; omega, fun k hk => (List.mem_append.1 hk).elim (fa k) (fb k)⟩
    intro c hc
    simp only [one4, List.mem_cons, List.not_mem_nil, or_false] at hc
    rcases hc with rfl | rfl | rfl | rfl
    · exact h0
    · exact h1'
    · exact h2'
    · exact hA
  · simp only [fpc, one4, par2, nodeC, rowEC, rowPC, treeC, forC, fp, List.flatMap_append, List.flatMap_cons, List.flatMap_nil, List.count_append, List.count_cons, List.count_nil]
    omega
section
variable (w : World) (F : Nat → Prop) (p : Nat) (K C : Value) (ks : List S29) (ps : List Value) (i : Nat) (R : List Chunk)
theorem pair_right : ∀ (h : Nat) (l c : MT h) (s : St w F w (two5 p K C ks ps h l c ++ R)) (hi : i + 1 < ps.length) (hpa : ps[i]? = some (kidPtr h l)) (hpb : ps[i + 1]? = some (kidPtr h c)) (hps : ps.length < 1000) (hk : i < ks.length) (hks : ks.length < 1000)
    (fl : Fine h (abs h l)) (fc : Fine h (abs h c)) (hl : 2 < blen h (abs h c)),
    Calls Try.prog 63 #[.pointer (some ⟨p, 0, none⟩), .int .i64 (i : Int)] w (PairPost w F p K C (ks.set i (bright h (abs h l) (abs h c) (ks.getD i z29)).1) ps h (bright h (abs h l) (abs h c) (ks.getD i z29)).2 (ptr h l) (ptr h c) R)
  | 0, l, c, s, hi, hpa, hpb, hps, hk, hks, fl, fc, hl => by
    obtain ⟨a, Ka, ka⟩ := l
    obtain ⟨b, Kb, kb⟩ := c
    have f1 : ka.length < 900 := fl.1
    have f2 : kb.length < 900 := fc.1
    have f3 : 2 < kb.length := hl
    obtain ⟨x, kb, rfl⟩ := cons_of kb (by omega)
    rw [List.length_cons] at f2 f3
    obtain ⟨y, kb, rfl⟩ := cons_of kb (by omega)
    rw [List.length_cons] at f2 f3
    have he : bright 0 (abs 0 (⟨a, Ka, ka⟩ : Leaf)) (abs 0 (⟨b, Kb, x :: y :: kb⟩ : Leaf)) (ks.getD i z29) = (y, (ka ++ [x] : List S29), (y :: kb : List S29)) := rfl
    rw [he]
    have s1 := two5_leaf s
    refine (fromRight_leaf w p a b K C Ka Kb ks ps i x y ka kb _ s1.sub hi hpa hpb hps hk hks (by omega) (by simp; omega) (by simp) (by simp)).mono ?_
    rintro E w' ⟨Ka', Ca', Kb', Cb', rfl, hnil, st⟩
    obtain ⟨rfl, rfl⟩ := hnil rfl
    exact ⟨(⟨a, Ka', ka ++ [x]⟩ : Leaf), (⟨b, Kb', y :: kb⟩ : Leaf), rfl, rfl, rfl, rfl, rfl, leaf_two5 (s1.call st)⟩
  | h + 1, l, c, s, hi, hpa, hpb, hps, hk, hks, fl, fc, hl => by
    obtain ⟨a, Ka, Ca, ka, la⟩ := l
    obtain ⟨b, Kb, Cb, kb, lb⟩ := c
    have f1 : ka.length < 900 := fl.1
    have f2 : kb.length < 900 := fc.1
    have f3 : 2 < kb.length := hl
    have f4 : la.length = ka.length + 1 := by
      have := fl.2.resolve_left (by omega)
      change (la.map (abs h)).length = ka.length + 1 at this
      rwa [List.length_map] at this
    have f5 : lb.length = kb.length + 1 := by
      have := fc.2.resolve_left (by omega)
      change (lb.map (abs h)).length = kb.length + 1 at this
      rwa [List.length_map] at this
    obtain ⟨x, kb, rfl⟩ := cons_of kb (by omega)
    obtain ⟨q, lb, rfl⟩ := cons_of lb (by omega)
    rw [List.length_cons] at f2 f3
    rw [List.length_cons, List.length_cons] at f5
    have he : bright (h + 1) (abs (h + 1) (⟨a, Ka, Ca, ka, la⟩ : Inner (MT h))) (abs (h + 1) (⟨b, Kb, Cb, x :: kb, q :: lb⟩ : Inner (MT h))) (ks.getD i z29) = (x, (ka ++ [ks.getD i z29], la.map (abs h) ++ [abs h q]), (kb, lb.map (abs h))) := rfl
    rw [he]
    obtain ⟨s1, g1, g2⟩ := two5_inner s
    rw [ptrs_cons] at s1
    refine (fromRight_inner w p a b K C Ka Kb Ca Cb ks ps i x (ks.getD i z29) ka kb _ (ptrs h la) (ptrs h lb) _ s1.sub hi hpa hpb hps hk hks (by omega) (by simp; omega) (by rw [ptrs_len]; omega) (by simp [ptrs_len]; omega) (getD_of hk) (by rw [ptrs_len]; omega)).mono ?_
    rintro E w' ⟨Ka', Ca', Kb', Cb', rfl, hnil, st⟩
    have s2 := s1.call st
    rw [← ptrs_snoc] at s2
    refine ⟨(⟨a, Ka', Ca', ka ++ [ks.getD i z29], la ++ [q]⟩ : Inner (MT h)), (⟨b, Kb', Cb', kb, lb⟩ : Inner (MT h)), rfl, rfl, rfl, ?_, rfl, inner_two5 s2 (by simp) (by omega) ?_⟩
    · show (ka ++ [ks.getD i z29], (la ++ [q]).map (abs h)) = _
      rw [List.map_append]
      rfl
    · rw [List.append_assoc]
      exact List.Perm.refl _
theorem pair_join : ∀ (h : Nat) (l c : MT h) (s : St w F w (two5 p K C ks ps h l c ++ R)) (hi : i + 1 < ps.length) (hpa : ps[i]? = some (kidPtr h l)) (hpb : ps[i + 1]? = some (kidPtr h c)) (hps : ps.length < 1000) (hk : i < ks.length) (hks : ks.length < 1000)
    (fl : Fine h (abs h l)) (fc : Fine h (abs h c)) (hl : 0 < blen h (abs h c)),
    Calls Try.prog 64 #[.pointer (some ⟨p, 0, none⟩), .int .i64 (i : Int)] w (OnePost w F p (delAt ks i) (delAt ps (i + 1)) h (bjoin h (abs h l) (abs h c) (ks.getD i z29)) (ptr h l) R)
  | 0, l, c, s, hi, hpa, hpb, hps, hk, hks, fl, fc, hl => by
    obtain ⟨a, Ka, ka⟩ := l
    obtain ⟨b, Kb, kb⟩ := c
    have f1 : ka.length < 900 := fl.1
    have f2 : kb.length < 900 := fc.1
    have f3 : 0 < kb.length := hl
    have s1 := two5_leaf s
    refine (join_leaf w p a b K C Ka Kb ks ps i ka kb _ s1.sub hi hpa hpb hps hk hks (by omega) (by omega) (by simp) (by simp) f3).mono ?_
    rintro E w' ⟨K', C', Ka', Ca', rfl, hnil, st⟩
    obtain rfl := hnil rfl
    exact ⟨K', C', (⟨a, Ka', ka ++ kb⟩ : Leaf), rfl, rfl, rfl, leaf_one4 (s1.call st)⟩
  | h + 1, l, c, s, hi, hpa, hpb, hps, hk, hks, fl, fc, hl => by
    obtain ⟨a, Ka, Ca, ka, la⟩ := l
    obtain ⟨b, Kb, Cb, kb, lb⟩ := c
    have f1 : ka.length < 900 := fl.1
    have f2 : kb.length < 900 := fc.1
    have f3 : 0 < kb.length := hl
    have f4 : la.length = ka.length + 1 := by
      have := fl.2.resolve_left (by omega)
      change (la.map (abs h)).length = ka.length + 1 at this
      rwa [List.length_map] at this
    have f5 : lb.length = kb.length + 1 := by
      have := fc.2.resolve_left (by omega)
      change (lb.map (abs h)).length = kb.length + 1 at this
      rwa [List.length_map] at this
    have he : bjoin (h + 1) (abs (h + 1) (⟨a, Ka, Ca, ka, la⟩ : Inner (MT h))) (abs (h + 1) (⟨b, Kb, Cb, kb, lb⟩ : Inner (MT h))) (ks.getD i z29) = (ka ++ [ks.getD i z29] ++ kb, la.map (abs h) ++ lb.map (abs h)) := rfl
    rw [he]
    obtain ⟨s1, g1, g2⟩ := two5_inner s
    refine (join_inner w p a b K C Ka Kb Ca Cb ks ps i (ks.getD i z29) ka kb (ptrs h la) (ptrs h lb) _ s1.sub hi hpa hpb hps hk hks (by omega) (by omega) (by rw [ptrs_len]; omega) (by rw [ptrs_len]; omega) (getD_of hk) (by rw [ptrs_len]; omega) (by rw [ptrs_len]; omega) f3).mono ?_
    rintro E w' ⟨K', C', Ka', Ca', rfl, hnil, st⟩
    have s2 := s1.call st
    rw [← ptrs_app] at s2
    refine ⟨K', C', (⟨a, Ka', Ca', ka ++ [ks.getD i z29] ++ kb, la ++ lb⟩ : Inner (MT h)), rfl, rfl, ?_, inner_one4 s2 g1⟩
    show (ka ++ [ks.getD i z29] ++ kb, (la ++ lb).map (abs h)) = _
    rw [List.map_append]
end
end Go.Proofs.Bt
end
section
namespace Go.Proofs.Bt
open Go Go.RowKit Go.Proofs.Ytjaddmflopahiaa.Q Go.Proofs.YtjaddmflopahiaaW.PrintWords Go.Proofs.YtjaddmflopahiaaW.PrintLast Go.Proofs.YtjaddmflopahiaaW.PrintMore
set_option linter.unusedVariables false
set_option linter.unusedSimpArgs false
set_option maxRecDepth 100000
theorem open_two {w0 w : World} {F : Nat → Prop} {R : List Chunk} {p h : Nat} {K C : Value} {ks : List S29} {X Y : List (MT h)} {l c : MT h} (s : St w0 F w (treeC (h + 1) (⟨p, K, C, ks, X ++ l :: c :: Y⟩ : Inner (MT h)) :: R)) :
    St w0 F w (two5 p K C ks (ptrs h (X ++ l :: c :: Y)) h l c ++ (forC h (X ++ Y) :: R)) := by
  have hA : Ok w (h + 1) (⟨p, K, C, ks, X ++ l :: c :: Y⟩ : Inner (MT h)) := s.h (treeC (h + 1) (⟨p, K, C, ks, X ++ l :: c :: Y⟩ : Inner (MT h))) (by simp)
  have e : two5 p K C ks (ptrs h (X ++ l :: c :: Y)) h l c ++ (forC h (X ++ Y) :: R) = (two5 p K C ks (ptrs h (X ++ l :: c :: Y)) h l c ++ [forC h (X ++ Y)]) ++ R := by simp
  rw [e]
  refine St.tell (A := [treeC (h + 1) (⟨p, K, C, ks, X ++ l :: c :: Y⟩ : Inner (MT h))]) s (fun hh => ?_) (fun x => ?_)
  · obtain ⟨a1, a2, a3, a4, a5⟩ := hA
    have a5' : ∀ k ∈ X ++ l :: c :: Y, Ok w h k := a5
    intro d hd
    simp only [two5, List.mem_append, List.mem_cons, List.not_mem_nil, or_false] at hd
    rcases hd with (rfl | rfl | rfl | rfl | rfl) | rfl
    · exact a1
    · exact a2
    · show Row w 59 1 C (ptrs h (X ++ l :: c :: Y)).length (ptrs h (X ++ l :: c :: Y))
      rw [ptrs_len]
      exact a3
    · exact a5' l (by simp)
    · exact a5' c (by simp)
    · intro k hk
      rcases List.mem_append.1 hk with hk | hk
      · exact a5' k (by simp [hk])
      · exact a5' k (by simp [hk])
  · simp only [fpc, two5, nodeC, rowEC, rowPC, treeC, forC, fp, List.flatMap_append, List.flatMap_cons, List.flatMap_nil, List.count_append, List.count_cons, List.count_nil]
    omega
theorem shut_two {w0 w : World} {F : Nat → Prop} {R : List Chunk} {p h : Nat} {K C : Value} {ks : List S29} {ps : List Value} {X Y : List (MT h)} {l c : MT h} (s : St w0 F w (two5 p K C ks ps h l c ++ (forC h (X ++ Y) :: R))) (hp : ps = ptrs h (X ++ l :: c :: Y)) :
    St w0 F w (treeC (h + 1) (⟨p, K, C, ks, X ++ l :: c :: Y⟩ : Inner (MT h)) :: R) := by
  have e : two5 p K C ks ps h l c ++ (forC h (X ++ Y) :: R) = (two5 p K C ks ps h l c ++ [forC h (X ++ Y)]) ++ R := by simp
  rw [e] at s
  refine St.tell (B := [treeC (h + 1) (⟨p, K, C, ks, X ++ l :: c :: Y⟩ : Inner (MT h))]) s (fun hh => ?_) (fun x => ?_)
  · have h0 := hh (nodeC p K C) (by simp [two5])
    have h1 := hh (rowEC K ks) (by simp [two5])
    have h2 : Row w 59 1 C ps.length ps := hh (rowPC C ps) (by simp [two5])
    have h3 : Ok w h l := hh (treeC h l) (by simp [two5])
    have h4 : Ok w h c := hh (treeC h c) (by simp [two5])
    have h5 : ∀ k ∈ X ++ Y, Ok w h k := hh (forC h (X ++ Y)) (by simp [two5])
    rw [hp, ptrs_len] at h2
    intro d hd
    simp only [List.mem_cons, List.not_mem_nil, or_false] at hd
    subst hd
    refine ⟨h0, h1, h2, by show 0 < (X ++ l :: c :: Y).length; simp; omega, fun k hk => ?_⟩
    have hk : k ∈ X ++ l :: c :: Y := hk
    simp only [List.mem_append, List.mem_cons] at hk
    rcases hk with hk | rfl | rfl | hk
    · exact h5 k (List.mem_append_left _ hk)
    · exact h3
    · exact h4
    · exact h5 k (List.mem_append_right _ hk)
  · simp only [fpc, two5, nodeC, rowEC, rowPC, treeC, forC, fp, List.flatMap_append, List.flatMap_cons, List.flatMap_nil, List.count_append, List.count_cons, List.count_nil]
    omega
theorem shut_one {w0 w : World} {F : Nat → Prop} {R : List Chunk} {p h : Nat} {K C : Value} {ks : List S29} {ps : List Value} {X Y : List (MT h)} {l : MT h} (s : St w0 F w (one4 p K C ks ps h l ++ (forC h (X ++ Y) :: R))) (hp : ps = ptrs h (X ++ l :: Y)) :
    St w0 F w (treeC (h + 1) (⟨p, K, C, ks, X ++ l :: Y⟩ : Inner (MT h)) :: R) := by
  have e : one4 p K C ks ps h l ++ (forC h (X ++ Y) :: R) = (one4 p K C ks ps h l ++ [forC h (X ++ Y)]) ++ R := by simp
  rw [e] at s
  refine St.tell (B := [treeC (h + 1) (⟨p, K, C, ks, X ++ l :: Y⟩ : Inner (MT h))]) s (fun hh => ?_) (fun x => ?_)
  · have h0 := hh (nodeC p K C) (by simp [one4])
    have h1 := hh (rowEC K ks) (by simp [one4])
    have h2 : Row w 59 1 C ps.length ps := hh (rowPC C ps) (by simp [one4])
    have h3 : Ok w h l := hh (treeC h l) (by simp [one4])
    have h5 : ∀ k ∈ X ++ Y, Ok w h k := hh (forC h (X ++ Y)) (by simp [one4])
    rw [hp, ptrs_len] at h2
    intro d hd
    simp only [List.mem_cons, List.not_mem_nil, or_false] at hd
    subst hd
    refine ⟨h0, h1, h2, by show 0 < (X ++ l :: Y).length; simp; omega, fun k hk => ?_⟩
    have hk : k ∈ X ++ l :: Y := hk
    simp only [List.mem_append, List.mem_cons] at hk
    rcases hk with hk | rfl | hk
    · exact h5 k (List.mem_append_left _ hk)
    · exact h3
    · exact h5 k (List.mem_append_right _ hk)
  · simp only [fpc, one4, nodeC, rowEC, rowPC, treeC, forC, fp, List.flatMap_append, List.flatMap_cons, List.flatMap_nil, List.count_append, List.count_cons, List.count_nil]
    omega
theorem kf_of {w : World} {p h gc n cC : Nat} {K : Value} {ks : List S29} {kids : List (MT h)} (hok : Ok w (h + 1) (⟨p, K, .slice (some ⟨gc, 0, none⟩) n cC, ks, kids⟩ : Inner (MT h))) {j : Nat} {k : MT h} (hj : kids[j]? = some k) :
    ∃ A c, KF w gc j (ptr h k) A (blen h (abs h k)) c := by
  obtain ⟨a1, a2, a3, a4, a5⟩ := hok
  have a3' : Row w 59 1 (.slice (some ⟨gc, 0, none⟩) n cC) kids.length (kids.map (kidPtr h)) := a3
  have hk : Ok w h k := a5 k (List.mem_of_getElem? hj)
  have hn : n = kids.length := by
    rcases a3'.2.2 with ⟨h1, _⟩ | ⟨g, c, cur, h1, _⟩
    · simp at h1
    · simp at h1
      exact h1.2.1
  subst hn
  obtain ⟨A, c, hs⟩ := hk.row.slice
  refine ⟨A, c, a3'.cell rfl j _ (by rw [List.getElem?_map, hj]; rfl), ?_⟩
  have := hk.node.c0
  rw [hs] at this
  rw [blen, abs_keys]
  exact this
def MendPost (w : World) (F : Nat → Prop) (p h : Nat) (t : List S29 × List (BT h)) (R : List Chunk) (w' : World) : Prop :=
  ∃ m' : MT (h + 1), ptr (h + 1) m' = p ∧ abs (h + 1) m' = t ∧ St w F w' (treeC (h + 1) m' :: R)
theorem Calls.mr {w : World} {f : FuncId} {args : Array Value} {P : Ending → World → Prop} {Q : World → Prop} (h : Calls Try.prog f args w P) (hq : ∀ E w', P E w' → E = .returned (.tuple #[]) ∧ Q w') : Calls Try.prog f args w (MR Q) := h.mono fun E w' hp => hq E w' hp
theorem ptrs_at (h : Nat) (X Y : List (MT h)) (l c : MT h) : (ptrs h (X ++ l :: c :: Y))[X.length]? = some (kidPtr h l) ∧ (ptrs h (X ++ l :: c :: Y))[X.length + 1]? = some (kidPtr h c) := by
  simp [ptrs, List.getElem?_append_right]
theorem ptrs_eq2 (h : Nat) (X Y : List (MT h)) (l c l' c' : MT h) (h1 : ptr h l' = ptr h l) (h2 : ptr h c' = ptr h c) : ptrs h (X ++ l :: c :: Y) = ptrs h (X ++ l' :: c' :: Y) := by
  simp [ptrs, kidPtr, h1, h2]
theorem ptrs_del (h : Nat) (X Y : List (MT h)) (l c l' : MT h) (h1 : ptr h l' = ptr h l) : delAt (ptrs h (X ++ l :: c :: Y)) (X.length + 1) = ptrs h (X ++ l' :: Y) := by
  unfold delAt
  have e : ptrs h (X ++ l :: c :: Y) = (ptrs h X ++ [kidPtr h l]) ++ kidPtr h c :: ptrs h Y := by simp [ptrs]
  have hl : (ptrs h X ++ [kidPtr h l]).length = X.length + 1 := by simp [ptrs]
  rw [e, ← hl, List.take_left]
  have e2 : (ptrs h X ++ [kidPtr h l]) ++ kidPtr h c :: ptrs h Y = ((ptrs h X ++ [kidPtr h l]) ++ [kidPtr h c]) ++ ptrs h Y := by simp
  have hl2 : (ptrs h X ++ [kidPtr h l]).length + 1 = ((ptrs h X ++ [kidPtr h l]) ++ [kidPtr h c]).length := by simp
  rw [e2, hl2, List.drop_left]
  simp [ptrs, kidPtr, h1]
theorem mr_pair {w w' : World} {F : Nat → Prop} {p h : Nat} {K C : Value} {ks' : List S29} {X Y : List (MT h)} {l c : MT h} {R : List Chunk} {r : BT h × BT h} {t : List S29 × List (BT h)} {E : Ending}
    (hp : PairPost w F p K C ks' (ptrs h (X ++ l :: c :: Y)) h r (ptr h l) (ptr h c) (forC h (X ++ Y) :: R) E w') (ht : t = (ks', X.map (abs h) ++ r.1 :: r.2 :: Y.map (abs h))) : E = .returned (.tuple #[]) ∧ MendPost w F p h t R w' := by
  obtain ⟨l', c', rfl, h1, h2, h3, h4, s⟩ := hp
  refine ⟨rfl, (⟨p, K, C, ks', X ++ l' :: c' :: Y⟩ : Inner (MT h)), rfl, ?_, shut_two s (ptrs_eq2 h X Y l c l' c' h1 h2)⟩
  rw [ht, ← h3, ← h4]
  show (ks', (X ++ l' :: c' :: Y).map (abs h)) = _
  rw [List.map_append, List.map_cons, List.map_cons]
theorem mr_one {w w' : World} {F : Nat → Prop} {p h i : Nat} {ks' : List S29} {X Y : List (MT h)} {l c : MT h} {R : List Chunk} {r : BT h} {t : List S29 × List (BT h)} {E : Ending} (hi : i = X.length + 1)
    (hp : OnePost w F p ks' (delAt (ptrs h (X ++ l :: c :: Y)) i) h r (ptr h l) (forC h (X ++ Y) :: R) E w') (ht : t = (ks', X.map (abs h) ++ r :: Y.map (abs h))) : E = .returned (.tuple #[]) ∧ MendPost w F p h t R w' := by
  obtain ⟨K, C, l', rfl, h1, h3, s⟩ := hp
  subst hi
  refine ⟨rfl, (⟨p, K, C, ks', X ++ l' :: Y⟩ : Inner (MT h)), rfl, ?_, shut_one s (ptrs_del h X Y l c l' h1)⟩
  rw [ht, ← h3]
  show (ks', (X ++ l' :: Y).map (abs h)) = _
  rw [List.map_append, List.map_cons]
theorem mend_calls (h : Nat) (w : World) (F : Nat → Prop) (p : Nat) (K C : Value) (ks : List S29) (A : List (MT h)) (c : MT h) (B : List (MT h)) (R : List Chunk) (s : St w F w (treeC (h + 1) (⟨p, K, C, ks, A ++ c :: B⟩ : Inner (MT h)) :: R))
    (hl : (A ++ c :: B).length = ks.length + 1) (hks : ks.length < 900) (hk1 : 1 ≤ ks.length) (fine : ∀ k ∈ A ++ c :: B, Fine h (abs h k) ∧ 1 ≤ blen h (abs h k)) :
    Calls Try.prog 50 #[.pointer (some ⟨p, 0, none⟩), .int .i64 (A.length : Int)] w (MR (MendPost w F p h (bmend h ks (A.map (abs h)) (abs h c) (B.map (abs h))) R)) := by
  have hok : Ok w (h + 1) (⟨p, K, C, ks, A ++ c :: B⟩ : Inner (MT h)) := s.h (treeC (h + 1) (⟨p, K, C, ks, A ++ c :: B⟩ : Inner (MT h))) (by simp)
  have hrow : Row w 59 1 C (ptrs h (A ++ c :: B)).length (ptrs h (A ++ c :: B)) := by rw [ptrs_len]; exact hok.2.2.1
  obtain ⟨gc, cC, rfl, hcC⟩ := rowP_form hrow (by simp [ptrs]; omega)
  rw [ptrs_len] at s hok hcC
  have hlen : (A ++ c :: B).length = A.length + B.length + 1 := by simp; omega
  obtain ⟨n, hn⟩ : ∃ n, (A ++ c :: B).length = n := ⟨_, rfl⟩
  rw [hn] at s hok hcC
  have hnl : n = A.length + B.length + 1 := by rw [← hn]; exact hlen
  have hkn : ks.length = A.length + B.length := by omega
  clear hl hlen
  have hN : NodeAt w p K (.slice (some ⟨gc, 0, none⟩) n cC) := hok.1
  obtain ⟨Ac, cc, kc⟩ := kf_of hok (j := A.length) (k := c) (by simp)
  by_cases hc : 2 ≤ blen h (abs h c)
  · refine Calls.mr (mend_well w p gc n cC A.length (ptr h c) K Ac _ cc hN (by omega) (by omega) kc hc) ?_
    rintro E w' ⟨rfl, rfl⟩
    refine ⟨rfl, (⟨p, K, .slice (some ⟨gc, 0, none⟩) n cC, ks, A ++ c :: B⟩ : Inner (MT h)), rfl, ?_, s⟩
    unfold bmend
    rw [if_pos hc]
    show (ks, (A ++ c :: B).map (abs h)) = _
    rw [List.map_append, List.map_cons]
  · have hc2 : blen h (abs h c) < 2 := by omega
    have fc := fine c (by simp)
    rcases List.eq_nil_or_concat A with rfl | ⟨X, l, hAl⟩
    ·
      simp only [List.nil_append, List.length_nil, List.map_nil, List.length_cons] at *
      obtain ⟨r, B', rfl⟩ := cons_of B (by omega)
      have fr := fine r (by simp)
      obtain ⟨Ar, cr, kr⟩ := kf_of hok (j := 1) (k := r) (by simp)
      have s2 := open_two (X := []) s
      obtain ⟨q1, q2⟩ := ptrs_at h [] B' c r
      simp only [List.length_cons] at hnl hkn
      by_cases hr : 2 < blen h (abs h r)
      · refine mend_right0 w p gc n cC (ptr h c) (ptr h r) K Ac Ar _ cc _ cr _ hN (by omega) (by omega) kc hc2 (by omega) kr hr ?_
        refine Calls.mr (pair_right w F p K _ ks _ 0 _ h c r s2 (by simp [ptrs]) q1 q2 (by rw [ptrs_len]; simp; omega) (by omega) (by omega) fc.1 fr.1 hr) ?_
        intro E w' hp
        refine mr_pair (X := []) hp ?_
        unfold bmend
        rw [if_neg hc]
        simp only [List.getLast?_nil, List.map_cons]
        rw [if_pos hr]
        rfl
      · refine mend_join0 w p gc n cC (ptr h c) (ptr h r) K Ac Ar _ cc _ cr _ hN (by omega) (by omega) kc hc2 (by omega) kr (by omega) ?_
        refine Calls.mr (pair_join w F p K _ ks _ 0 _ h c r s2 (by simp [ptrs]) q1 q2 (by rw [ptrs_len]; simp; omega) (by omega) (by omega) fc.1 fr.1 fr.2) ?_
        intro E w' hp
        refine mr_one (X := []) rfl hp ?_
        unfold bmend
        rw [if_neg hc]
        simp only [List.getLast?_nil, List.map_cons]
        rw [if_neg hr]
        rfl
    · have hAl : A = X ++ [l] := by simpa using hAl
      subst hAl
      have hAX : (X ++ [l]).length = X.length + 1 := by simp
      have hXl : X ++ [l] ++ c :: B = X ++ l :: c :: B := by simp
      rw [hAX] at kc hnl hkn ⊢
      rw [hXl] at s hok fine hn
      have fl := fine l (by simp)
      obtain ⟨Al, cl, kl⟩ := kf_of hok (j := X.length) (k := l) (by simp)
      have e0 : X.length + 1 - 1 = X.length := by omega
      have hm : (X ++ [l]).map (abs h) = X.map (abs h) ++ [abs h l] := by simp
      have hdl : (X.map (abs h) ++ [abs h l]).dropLast = X.map (abs h) := by simp
      have hgl : (X.map (abs h) ++ [abs h l]).getLast? = some (abs h l) := by simp
      have hll : (X.map (abs h) ++ [abs h l]).length = X.length + 1 := by simp
      have s2 := open_two (X := X) s
      obtain ⟨q1, q2⟩ := ptrs_at h X B l c
      rw [hm]
      by_cases hl2 : 2 < blen h (abs h l)
      · refine mend_left w p gc n cC (X.length + 1) (ptr h c) (ptr h l) K Ac Al _ cc _ cl _ hN (by omega) (by omega) kc hc2 (by omega) kl hl2 ?_
        refine Calls.mr (pair_left w F p K _ ks _ X.length _ h l c (X.length + 1) s2 (by simp [ptrs]) rfl q1 q2 (by rw [ptrs_len, hn]; omega) (by omega) (by omega) fl.1 fc.1 hl2) ?_
        intro E w' hp
        refine mr_pair (X := X) hp ?_
        unfold bmend
        rw [if_neg hc, hgl]
        simp only [hll, e0, hdl]
        rw [if_pos hl2]
      · rcases B with _ | ⟨r, B'⟩
        · refine mend_joinl w p gc n cC (X.length + 1) (ptr h c) (ptr h l) K Ac Al _ cc _ cl _ hN (by omega) (by omega) kc hc2 (by omega) kl (by omega) (by simp at hnl; omega) ?_
          rw [show (((X.length + 1 : Nat) : Int) - 1) = (X.length : Int) by omega]
          refine Calls.mr (pair_join w F p K _ ks _ X.length _ h l c s2 (by simp [ptrs]) q1 q2 (by rw [ptrs_len, hn]; omega) (by omega) (by omega) fl.1 fc.1 fc.2) ?_
          intro E w' hp
          refine mr_one (X := X) rfl hp ?_
          unfold bmend
          rw [if_neg hc, hgl]
          simp only [hll, e0, hdl, List.map_nil]
          rw [if_neg hl2]
        · have fr := fine r (by simp)
          obtain ⟨Ar, cr, kr⟩ := kf_of hok (j := X.length + 1 + 1) (k := r) (by rw [show X ++ l :: c :: r :: B' = (X ++ [l] ++ [c]) ++ r :: B' by simp, List.getElem?_append_right (by simp)]; simp)
          have hlB : (r :: B').length = B'.length + 1 := rfl
          rw [hlB] at hnl hkn
          by_cases hr : 2 < blen h (abs h r)
          · refine mend_right w p gc n cC (X.length + 1) (ptr h c) (ptr h l) (ptr h r) K Ac Al Ar _ cc _ cl _ cr _ hN (by omega) (by omega) kc hc2 (by omega) kl (by omega) (by omega) kr hr ?_
            have hXc : X ++ l :: c :: r :: B' = (X ++ [l]) ++ c :: r :: B' := by simp
            rw [hXc] at s
            have s3 := open_two (X := X ++ [l]) s
            obtain ⟨q3, q4⟩ := ptrs_at h (X ++ [l]) B' c r
            rw [hAX] at q3 q4
            refine Calls.mr (pair_right w F p K _ ks _ (X.length + 1) _ h c r s3 (by simp [ptrs]; omega) q3 q4 (by rw [ptrs_len, ← hXc, hn]; omega) (by omega) (by omega) fc.1 fr.1 hr) ?_
            intro E w' hp
            refine mr_pair (X := X ++ [l]) hp ?_
            unfold bmend
            rw [if_neg hc, hgl]
            simp only [hll, e0, hdl, List.map_cons]
            rw [if_neg hl2, if_pos hr, hm]
          · refine mend_joinl2 w p gc n cC (X.length + 1) (ptr h c) (ptr h l) (ptr h r) K Ac Al Ar _ cc _ cl _ cr _ hN (by omega) (by omega) kc hc2 (by omega) kl (by omega) (by omega) kr (by omega) ?_
            rw [show (((X.length + 1 : Nat) : Int) - 1) = (X.length : Int) by omega]
            refine Calls.mr (pair_join w F p K _ ks _ X.length _ h l c s2 (by simp [ptrs]) q1 q2 (by rw [ptrs_len, hn]; omega) (by omega) (by omega) fl.1 fc.1 fc.2) ?_
            intro E w' hp
            refine mr_one (X := X) rfl hp ?_
            unfold bmend
            rw [if_neg hc, hgl]
            simp only [hll, e0, hdl, List.map_cons]
            rw [if_neg hl2, if_neg hr]
end Go.Proofs.Bt
end
section
namespace Go.Proofs.Bt
open Go Go.RowKit Go.Proofs.Ytjaddmflopahiaa.Q Go.Proofs.YtjaddmflopahiaaW.PrintWords Go.Proofs.YtjaddmflopahiaaW.PrintLast Go.Proofs.YtjaddmflopahiaaW.PrintMore
set_option linter.unusedVariables false
set_option linter.unusedSimpArgs false
structure Pg where
  leaf : Bool
  K : Value
  C : Value
  ks : List S29
  kids : List Int
abbrev PgA := Bool × List S29 × List Int
def Pg.a (p : Pg) : PgA := (p.leaf, p.ks, p.kids)
def encPg (p : Pg) : List Value := [.bool p.leaf, p.K, p.C]
def encPgs (l : List Pg) : List Value := l.flatMap encPg
def encIs (l : List Int) : List Value := l.map (.int .i64)
theorem encPgs_len (l : List Pg) : (encPgs l).length = l.length * 3 := by
  induction l with
  | nil => rfl
  | cons p l ih =>
    show (encPg p ++ encPgs l).length = _
    rw [List.length_append, ih]
    simp [encPg]
    omega
def RowPg (w : World) (v : Value) (l : List Pg) : Prop := Row w 35 3 v l.length (encPgs l)
def RowI (w : World) (v : Value) (l : List Int) : Prop := Row w 3 1 v l.length (encIs l)
theorem RowI.move {w w' : World} {v : Value} {l : List Int} (h : RowI w v l) (hm : ∀ k, v.ownBlock = some k → w'.heap[k]? = w.heap[k]?) : RowI w' v l := Row.move h hm
theorem RowE.move' {w w' : World} {v : Value} {l : List S29} (h : RowE w v l) (hm : ∀ k, v.ownBlock = some k → w'.heap[k]? = w.heap[k]?) : RowE w' v l := Row.move h hm
def PgOk (w : World) (p : Pg) : Prop := RowE w p.K p.ks ∧ RowI w p.C p.kids
def pgB (p : Pg) : List Nat := bl p.K ++ bl p.C
theorem PgOk.move {w w' : World} {p : Pg} (h : PgOk w p) (hm : ∀ b ∈ pgB p, w'.heap[b]? = w.heap[b]?) : PgOk w' p :=
  ⟨RowE.move' h.1 fun k hk => hm k (List.mem_append_left _ (bl_mem.2 hk)), RowI.move h.2 fun k hk => hm k (List.mem_append_right _ (bl_mem.2 hk))⟩
theorem PgOk.lt {w : World} {p : Pg} (h : PgOk w p) : ∀ b ∈ pgB p, b < w.heap.size := fun b hb => (List.mem_append.1 hb).elim (fun hb => Row.lt h.1 b (bl_mem.1 hb)) (fun hb => Row.lt h.2 b (bl_mem.1 hb))
def pagesC (v : Value) (l : List Pg) : Chunk := ⟨fun w => RowPg w v l ∧ ∀ p ∈ l, PgOk w p, bl v ++ l.flatMap pgB,
  fun h x hx => (List.mem_append.1 hx).elim (fun hx => Row.lt h.1 x (bl_mem.1 hx)) (fun hx => by obtain ⟨p, hp, hx⟩ := List.mem_flatMap.1 hx; exact (h.2 p hp).lt x hx),
  fun h hm => ⟨Row.move h.1 fun k hk => hm k (List.mem_append_left _ (bl_mem.2 hk)), fun p hp => (h.2 p hp).move fun b hb => hm b (List.mem_append_right _ (List.mem_flatMap.2 ⟨p, hp, hb⟩))⟩⟩
def rowIC (v : Value) (l : List Int) : Chunk := ⟨fun w => RowI w v l, bl v, fun h x hx => Row.lt h x (bl_mem.1 hx), fun h hm => Row.move h fun k hk => hm k (bl_mem.2 hk)⟩
theorem info35 : (Try.prog.info? 35).map (fun i => (i.zero, i.size, i.bytes)) = some (some (.agg #[.bool false, .slice none 0 0, .slice none 0 0]), 3, 56) := by kernel_rfl
theorem info3 : (Try.prog.info? 3).map (fun i => (i.zero, i.size, i.bytes)) = some (some (.int .i64 0), 1, 8) := by kernel_rfl
theorem row_one {w : World} {e : TypeId} {sz n : Nat} {v : Value} {xs : List Value} (h : Row w e sz v n xs) : v.oneCell' = true := by
  rcases h.2.2 with ⟨rfl, _⟩ | ⟨g, cap, cur, rfl, _⟩ <;> rfl
theorem appendPg (w : World) (v : Value) (l : List Pg) (lf : Bool) (K : Value) (hK : K.oneCell' = true) (ks : List S29) (vb : Nat) (ty : TypeId) (hR : RowPg w v l) (hv : w.heap[vb]? = some (.cells #[.bool lf, K, .slice none 0 0] 35 (0, 0))) (hn : l.length < 100000) :
    ∃ g c w', (Builtin.append_ #[31, 31] ty #[v, .slice (some ⟨vb, 0, none⟩) 1 1]).run Try.prog w = .ok (.slice (some ⟨g, 0, none⟩) (l.length + 1) c) w' ∧ RowPg w' (.slice (some ⟨g, 0, none⟩) (l.length + 1) c) (l ++ [⟨lf, K, .slice none 0 0, ks, []⟩]) ∧ w.grownBy w' v.ownBlock ∧ Owns w v (.slice (some ⟨g, 0, none⟩) (l.length + 1) c) := by
  obtain ⟨i0, hi0, hz0, hzs, hzb⟩ := info_parts info35
  obtain ⟨v', w', h1, h2, h3, h4⟩ := run_append_R (P := Try.prog) w 31 ty 35 i0 _ 3 56 Try.underlying31 hi0 hz0 hzs hzb rfl (by decide) (by decide) v l.length (encPgs l) hR ⟨vb, 0, none⟩ 1 1 [.bool lf, K, .slice none 0 0] rfl (fun j u hu => by
    rw [Addr.add_lit, Nat.zero_add, cell_of_row w vb j _ 35 (0, 0) hv, ← hu, List.getElem?_toArray]) (fun u hu => by
    simp only [List.mem_cons, List.not_mem_nil, or_false] at hu
    rcases hu with rfl | rfl | rfl
    · rfl
    · exact hK
    · rfl) (by omega)
  obtain ⟨g, c, rfl, _⟩ := row_slice h2 (by omega)
  refine ⟨g, c, w', h1, ?_, h3, h4⟩
  unfold RowPg
  rw [List.length_append, List.length_singleton]
  have : encPgs (l ++ [⟨lf, K, .slice none 0 0, ks, []⟩]) = encPgs l ++ [.bool lf, K, .slice none 0 0] := by simp [encPgs, encPg]
  rw [this]
  exact h2
theorem appendI (w : World) (v : Value) (l : List Int) (x : Int) (vb : Nat) (ty : TypeId) (hR : RowI w v l) (hv : w.heap[vb]? = some (.cells #[.int .i64 x] 3 (0, 0))) (hn : l.length < 100000) :
    ∃ g c w', (Builtin.append_ #[33, 33] ty #[v, .slice (some ⟨vb, 0, none⟩) 1 1]).run Try.prog w = .ok (.slice (some ⟨g, 0, none⟩) (l.length + 1) c) w' ∧ RowI w' (.slice (some ⟨g, 0, none⟩) (l.length + 1) c) (l ++ [x]) ∧ w.grownBy w' v.ownBlock ∧ Owns w v (.slice (some ⟨g, 0, none⟩) (l.length + 1) c) := by
  obtain ⟨i0, hi0, hz0, hzs, hzb⟩ := info_parts info3
  obtain ⟨v', w', h1, h2, h3, h4⟩ := run_append_R (P := Try.prog) w 33 ty 3 i0 _ 1 8 Try.underlying33 hi0 hz0 hzs hzb rfl (by decide) (by decide) v l.length (encIs l) hR ⟨vb, 0, none⟩ 1 1 [.int .i64 x] rfl (fun j u hu => by
    rw [Addr.add_lit, Nat.zero_add, cell_of_row w vb j _ 3 (0, 0) hv, ← hu, List.getElem?_toArray]) (by simp [Value.oneCell']) (by omega)
  obtain ⟨g, c, rfl, _⟩ := row_slice h2 (by omega)
  refine ⟨g, c, w', h1, ?_, h3, h4⟩
  unfold RowI
  rw [List.length_append, List.length_singleton]
  have : encIs (l ++ [x]) = encIs l ++ [.int .i64 x] := by simp [encIs]
  rw [this]
  exact h2
section
variable {w0 w w' : World} {F : Nat → Prop} {R : List Chunk} {v v' K : Value} {l : List Pg} {ks : List S29} {lf : Bool}
theorem St.page (s : St w0 F w (pagesC v l :: rowEC K ks :: R)) (hg : w.grownBy w' v.ownBlock) (hr : RowPg w' v' (l ++ [⟨lf, K, .slice none 0 0, ks, []⟩])) (ho : Owns w v v') : St w0 F w' (pagesC v' (l ++ [⟨lf, K, .slice none 0 0, ks, []⟩]) :: R) := by
  have hp : RowPg w v l ∧ ∀ p ∈ l, PgOk w p := s.h (pagesC v l) (by simp)
  have hK : RowE w K ks := s.h (rowEC K ks) (by simp)
  have hnd := s.nd
  have hnil : bl (.slice none 0 0) = [] := rfl
  have hfA : ∀ x, (fpc [pagesC v l, rowEC K ks]).count x = (bl v).count x + (l.flatMap pgB).count x + (bl K).count x := fun x => by
    simp only [fpc, pagesC, rowEC, List.flatMap_cons, List.flatMap_nil, List.count_append, List.count_nil]
    omega
  have hfB : ∀ x, (fpc [pagesC v' (l ++ [⟨lf, K, .slice none 0 0, ks, []⟩])]).count x = (bl v').count x + (l.flatMap pgB).count x + (bl K).count x := fun x => by
    simp only [fpc, pagesC, pgB, hnil, List.flatMap_append, List.flatMap_cons, List.flatMap_nil, List.count_append, List.count_nil]
    omega
  have hA : ∀ x, (bl v).count x + (l.flatMap pgB).count x + (bl K).count x ≤ 1 := fun x => by
    have h1 := hnd x
    have h2 : fpc (pagesC v l :: rowEC K ks :: R) = fpc [pagesC v l, rowEC K ks] ++ fpc R := by simp [fpc]
    rw [h2, List.count_append, hfA] at h1
    omega
  have hold : ∀ x, 0 < (l.flatMap pgB).count x ∨ 0 < (bl K).count x → x < w.heap.size := fun x hx => by
    rcases hx with hx | hx
    · obtain ⟨p, hp2, hx⟩ := List.mem_flatMap.1 (count_mem.2 hx)
      exact (hp.2 p hp2).lt x hx
    · exact Row.lt hK x (bl_mem.1 (count_mem.2 hx))
  have hkeep : ∀ x, (0 < (l.flatMap pgB).count x ∨ 0 < (bl K).count x) → w'.heap[x]? = w.heap[x]? := fun x hx => hg.block x (hold x hx) fun e => by
    have h1 := hA x
    have h2 : 0 < (bl v).count x := count_mem.1 (bl_mem.2 e.symm)
    omega
  have hbv : ∀ x, 0 < (bl v').count x → 0 < (bl v).count x ∨ w.heap.size ≤ x := fun x hx => (bl_sub ho x (count_mem.2 hx)).imp (fun h => count_mem.1 h) id
  refine St.frame (A := [pagesC v l, rowEC K ks]) (B := [pagesC v' (l ++ [⟨lf, K, .slice none 0 0, ks, []⟩])]) s ⟨hg.os, hg.tape, hg.output, hg.size, fun k hk hf => hg.block k hk fun e => hf (count_mem.2 ?_)⟩ ?_ ?_ ?_
  · rw [hfA]
    have := count_mem.1 (bl_mem.2 e.symm)
    omega
  · intro c hc
    simp at hc
    subst hc
    refine ⟨hr, fun p hp2 => ?_⟩
    rcases List.mem_append.1 hp2 with hp2 | hp2
    · exact (hp.2 p hp2).move fun b hb => hkeep b (.inl (count_mem.1 (List.mem_flatMap.2 ⟨p, hp2, hb⟩)))
    · simp at hp2
      subst hp2
      exact ⟨RowE.move' hK fun k hk => hkeep k (.inr (count_mem.1 (bl_mem.2 hk))), Row.nil _ _ _⟩
  · intro x
    rw [hfB]
    have h1 := hA x
    by_cases hx : 0 < (bl v').count x
    · have h2 := nd_bl v' x
      rcases hbv x hx with h3 | h3
      · omega
      · by_cases hy : 0 < (l.flatMap pgB).count x ∨ 0 < (bl K).count x
        · have := hold x hy
          omega
        · omega
    · omega
  · intro x hx
    have hx := count_mem.1 hx
    rw [hfB] at hx
    by_cases hy : 0 < (bl v').count x
    · exact (hbv x hy).imp (fun h => count_mem.2 (by rw [hfA]; omega)) id
    · exact .inl (count_mem.2 (by rw [hfA]; omega))
theorem encPgs_set : ∀ (l : List Pg) (i : Nat) (p : Pg) (C : Value) (is : List Int), l[i]? = some p → (encPgs l).set (i * 3 + 2) C = encPgs (l.set i ⟨p.leaf, p.K, C, p.ks, is⟩)
  | [], i, p, C, is, h => by simp at h
  | q :: l, 0, p, C, is, h => by
    simp at h
    subst h
    rfl
  | q :: l, i + 1, p, C, is, h => by
    have ih := encPgs_set l i p C is (by simpa using h)
    show (encPg q ++ encPgs l).set ((i + 1) * 3 + 2) C = encPg q ++ encPgs (l.set i _)
    rw [← ih, List.set_append_right _ _ (by simp [encPg]; omega)]
    simp only [encPg, List.length_cons, List.length_nil]
    rw [show (i + 1) * 3 + 2 - (0 + 1 + 1 + 1) = i * 3 + 2 by omega]
theorem St.kids {g n c i : Nat} {p : Pg} {C : Value} {is : List Int} (s : St w0 F w (pagesC (.slice (some ⟨g, 0, none⟩) n c) l :: rowIC C is :: R)) (hi : l[i]? = some p) (hpC : p.C = .slice none 0 0) :
    St w0 F (w.setCell ⟨g, i * 3 + 2, none⟩ C) (pagesC (.slice (some ⟨g, 0, none⟩) n c) (l.set i ⟨p.leaf, p.K, C, p.ks, is⟩) :: R) := by
  have hp : RowPg w (.slice (some ⟨g, 0, none⟩) n c) l ∧ ∀ p ∈ l, PgOk w p := s.h (pagesC (.slice (some ⟨g, 0, none⟩) n c) l) (by simp)
  have hK : RowI w C is := s.h (rowIC C is) (by simp)
  have hnd := s.nd
  have hnil : bl (.slice none 0 0) = [] := rfl
  have hpm : p ∈ l := List.mem_of_getElem? hi
  obtain ⟨X, Y, hX, hX2, hXi⟩ := set_split (⟨p.leaf, p.K, C, p.ks, is⟩ : Pg) hi
  have hbs : ∀ x, (l.flatMap pgB).count x + (bl C).count x = ((l.set i ⟨p.leaf, p.K, C, p.ks, is⟩).flatMap pgB).count x := fun x => by
    rw [hX2]
    conv => lhs; rw [hX]
    simp only [pgB, hpC, hnil, List.flatMap_append, List.flatMap_cons, List.count_append, List.count_nil]
    omega
  have hfA : ∀ x, (fpc [pagesC (.slice (some ⟨g, 0, none⟩) n c) l, rowIC C is]).count x = [g].count x + (l.flatMap pgB).count x + (bl C).count x := fun x => by
    simp only [fpc, pagesC, rowIC, bl_slice, List.flatMap_cons, List.flatMap_nil, List.count_append, List.count_nil]
    omega
  have hfB : ∀ x, (fpc [pagesC (.slice (some ⟨g, 0, none⟩) n c) (l.set i ⟨p.leaf, p.K, C, p.ks, is⟩)]).count x = (fpc [pagesC (.slice (some ⟨g, 0, none⟩) n c) l, rowIC C is]).count x := fun x => by
    rw [hfA]
    have := hbs x
    simp only [fpc, pagesC, bl_slice, List.flatMap_cons, List.flatMap_nil, List.append_nil, List.count_append]
    omega
  have hA : ∀ x, [g].count x + (l.flatMap pgB).count x + (bl C).count x ≤ 1 := fun x => by
    have h1 := hnd x
    have h2 : fpc (pagesC (.slice (some ⟨g, 0, none⟩) n c) l :: rowIC C is :: R) = fpc [pagesC (.slice (some ⟨g, 0, none⟩) n c) l, rowIC C is] ++ fpc R := by simp [fpc]
    rw [h2, List.count_append, hfA] at h1
    omega
  have hgc : [g].count g = 1 := by simp
  have hkeep : ∀ x, x ≠ g → (w.setCell ⟨g, i * 3 + 2, none⟩ C).heap[x]? = w.heap[x]? := fun x hx => Below.heap_setCell w ⟨g, i * 3 + 2, none⟩ C x hx
  have hsz : (w.setCell ⟨g, i * 3 + 2, none⟩ C).heap.size = w.heap.size := by simp [World.setCell]
  refine St.frame (A := [pagesC (.slice (some ⟨g, 0, none⟩) n c) l, rowIC C is]) (B := [pagesC (.slice (some ⟨g, 0, none⟩) n c) (l.set i ⟨p.leaf, p.K, C, p.ks, is⟩)]) s (keep_set w g _ C _ (count_mem.2 (by rw [hfA]; omega))) ?_ ?_ ?_
  · intro d hd
    simp at hd
    subst hd
    refine ⟨?_, fun q hq => ?_⟩
    · obtain ⟨h0, h1, h2⟩ := hp.1
      rcases h2 with ⟨h2, _⟩ | ⟨g', cap, cur, hv, hg, hn, hm, hs, ht⟩
      · simp at h2
      · simp at hv
        obtain ⟨rfl, hnn, rfl⟩ := hv
        subst hnn
        have b1 := blk_put hg (i * 3 + 2) C rfl
        have he := encPgs_set l i p C is hi
        refine ⟨encPgs_len _, ?_, .inr ⟨g, c, _, by rw [List.length_set], b1, by rw [List.length_set]; exact hn, hm, by simpa using hs, ?_⟩⟩
        · rw [← he]
          intro u hu
          rcases List.mem_or_eq_of_mem_set hu with hu | rfl
          · exact h1 u hu
          · exact row_one hK
        · rw [← he, ← ht, List.length_set]
          simp [List.take_set]
    · have hfar : ∀ (q : Pg), (∀ b ∈ pgB q, b ≠ g) → PgOk w q → PgOk (w.setCell ⟨g, i * 3 + 2, none⟩ C) q := fun q hb ho => ho.move fun b hbq => hkeep b (hb b hbq)
      have hsep : ∀ x, 0 < (l.flatMap pgB).count x ∨ 0 < (bl C).count x → x ≠ g := fun x hx e => by
        subst e
        have := hA x
        omega
      rcases List.mem_or_eq_of_mem_set hq with hq | rfl
      · exact hfar q (fun b hb => hsep b (.inl (count_mem.1 (List.mem_flatMap.2 ⟨q, hq, hb⟩)))) (hp.2 q hq)
      · refine ⟨RowE.move' (hp.2 p hpm).1 fun k hk => hkeep k (hsep k (.inl (count_mem.1 (List.mem_flatMap.2 ⟨p, hpm, List.mem_append_left _ (bl_mem.2 hk)⟩)))), RowI.move hK fun k hk => hkeep k (hsep k (.inr (count_mem.1 (bl_mem.2 hk))))⟩
  · intro x
    rw [hfB, hfA]
    exact hA x
  · intro x hx
    have hx := count_mem.1 hx
    rw [hfB] at hx
    exact .inl (count_mem.2 hx)
theorem St.setI {cs : List Chunk} {u u' : Value} {is is' : List Int} (s : St w0 F w cs) (i : Nat) (hi : cs[i]? = some (rowIC u is)) (hg : w.grownBy w' u.ownBlock) (hr : RowI w' u' is') (ho : Owns w u u') : St w0 F w' (cs.set i (rowIC u' is')) :=
  s.upd i hi _ (keep_row hg) hr (nd_bl u') (bl_sub ho)
end
end Go.Proofs.Bt
end
section
namespace Go.Proofs.Bt
open Go Go.RowKit Go.Proofs.Ytjaddmflopahiaa.Q Go.Proofs.YtjaddmflopahiaaW.PrintWords Go.Proofs.YtjaddmflopahiaaW.PrintLast Go.Proofs.YtjaddmflopahiaaW.PrintMore
set_option linter.unusedVariables false
set_option linter.unusedSimpArgs false
set_option maxRecDepth 100000
def CutPost (h : Nat) (w : World) (m : MT h) (e : S29) (E : Ending) (w' : World) : Prop :=
  ∃ m' : MT h, E = .returned (.bool (bcut h (abs h m) e).2) ∧ ptr h m' = ptr h m ∧ abs h m' = (bcut h (abs h m) e).1 ∧ St w (fun b => b ∈ fpc [treeC h m]) w' [treeC h m']
theorem fpc_tree {h : Nat} (m : MT h) (a : Nat) : a ∈ fpc [treeC h m] ↔ a ∈ fp h m := by simp [fpc, treeC]
theorem cut_zero (w : World) (m : MT 0) (e : S29) (s : St w (fun b => b ∈ fpc [treeC 0 m]) w [treeC 0 m]) (hf : CutFit e 0 (abs 0 m)) : Calls Try.prog 29 #[.pointer (some ⟨ptr 0 m, 0, none⟩), entryV e] w (CutPost 0 w m e) := by
  obtain ⟨p, K, ks⟩ := m
  have hok : Ok w 0 (⟨p, K, ks⟩ : Leaf) := s.get 0 rfl
  obtain ⟨hN, hR⟩ := hok
  have f1 : ks.length < 900 := hf.1
  have f2 : Mono ks e := hf.2
  have hnd : ND (p :: bl K) := s.ndi 0 rfl
  have hKp : K.ownBlock ≠ some p := fun h => by
    have h1 := hnd p
    have h2 := count_mem.1 (bl_mem.2 h)
    rw [List.count_cons_self] at h1
    omega
  refine (cut_leaf w p K ks e hN hR (by omega) f2 hKp).mono ?_
  rintro E w' ⟨K', rfl, h1, h2, h3, h4⟩
  have hbl : bl K' = bl K := by unfold bl; rw [h3]
  have hfp : fp 0 (⟨p, K', if found ks e = true then delAt ks (low ks e) else ks⟩ : Leaf) = fp 0 (⟨p, K, ks⟩ : Leaf) := by
    show p :: bl K' = p :: bl K
    rw [hbl]
  refine ⟨(⟨p, K', if found ks e = true then delAt ks (low ks e) else ks⟩ : Leaf), rfl, rfl, rfl, ⟨?_, ?_, ?_, ?_⟩⟩
  · refine ⟨h4.os, h4.tape, h4.output, h4.size, fun k hk hn => h4.block k hk fun hh => hn ((fpc_tree _ _).2 ?_)⟩
    rcases hh with rfl | hh
    · exact List.mem_cons_self
    · exact List.mem_cons_of_mem _ (bl_mem.2 hh.symm)
  · intro c hc
    simp at hc
    subst hc
    exact ⟨h1, h2⟩
  · intro a
    have := s.nd a
    simp only [fpc, treeC, List.flatMap_cons, List.flatMap_nil, List.append_nil] at this ⊢
    rw [hfp]
    exact this
  · intro b hb
    have hb2 := (fpc_tree (h := 0) (⟨p, K', if found ks e = true then delAt ks (low ks e) else ks⟩ : Leaf) b).1 hb
    rw [hfp] at hb2
    exact .inl ((fpc_tree (h := 0) _ _).2 hb2)
theorem open_one {w0 w : World} {F : Nat → Prop} {R : List Chunk} {p h : Nat} {K C : Value} {ks : List S29} {X Y : List (MT h)} {k : MT h} (s : St w0 F w (treeC (h + 1) (⟨p, K, C, ks, X ++ k :: Y⟩ : Inner (MT h)) :: R)) :
    St w0 F w (treeC h k :: nodeC p K C :: rowEC K ks :: rowPC C (ptrs h (X ++ k :: Y)) :: forC h (X ++ Y) :: R) := by
  have hA : Ok w (h + 1) (⟨p, K, C, ks, X ++ k :: Y⟩ : Inner (MT h)) := s.h (treeC (h + 1) (⟨p, K, C, ks, X ++ k :: Y⟩ : Inner (MT h))) (by simp)
  refine St.tell (A := [treeC (h + 1) (⟨p, K, C, ks, X ++ k :: Y⟩ : Inner (MT h))]) (B := [treeC h k, nodeC p K C, rowEC K ks, rowPC C (ptrs h (X ++ k :: Y)), forC h (X ++ Y)]) s (fun hh => ?_) (fun x => ?_)
  · obtain ⟨a1, a2, a3, a4, a5⟩ := hA
    have a5' : ∀ j ∈ X ++ k :: Y, Ok w h j := a5
    intro d hd
    simp only [List.mem_cons, List.not_mem_nil, or_false] at hd
    rcases hd with rfl | rfl | rfl | rfl | rfl
    · exact a5' k (by simp)
    · exact a1
    · exact a2
    · show Row w 59 1 C (ptrs h (X ++ k :: Y)).length (ptrs h (X ++ k :: Y))
      rw [ptrs_len]
      exact a3
    · intro j hj
      rcases List.mem_append.1 hj with hj | hj
      · exact a5' j (by simp [hj])
      · exact a5' j (by simp [hj])
  · simp only [fpc, nodeC, rowEC, rowPC, treeC, forC, fp, List.flatMap_append, List.flatMap_cons, List.flatMap_nil, List.count_append, List.count_cons, List.count_nil]
    omega
theorem shut_one' {w0 w : World} {F : Nat → Prop} {R : List Chunk} {p h : Nat} {K C : Value} {ks : List S29} {ps : List Value} {X Y : List (MT h)} {l : MT h} (s : St w0 F w (treeC h l :: nodeC p K C :: rowEC K ks :: rowPC C ps :: forC h (X ++ Y) :: R)) (hp : ps = ptrs h (X ++ l :: Y)) :
    St w0 F w (treeC (h + 1) (⟨p, K, C, ks, X ++ l :: Y⟩ : Inner (MT h)) :: R) := by
  refine shut_one (s.perm ?_) hp
  have : one4 p K C ks ps h l ++ (forC h (X ++ Y) :: R) = [nodeC p K C, rowEC K ks, rowPC C ps] ++ treeC h l :: (forC h (X ++ Y) :: R) := rfl
  rw [this]
  exact (List.perm_middle (a := treeC h l) (l₁ := [nodeC p K C, rowEC K ks, rowPC C ps]) (l₂ := forC h (X ++ Y) :: R)).symm
set_option maxHeartbeats 4000000 in
theorem cut_succ (h : Nat) (IH : ∀ (w : World) (m : MT h) (e : S29), St w (fun b => b ∈ fpc [treeC h m]) w [treeC h m] → CutFit e h (abs h m) → Calls Try.prog 29 #[.pointer (some ⟨ptr h m, 0, none⟩), entryV e] w (CutPost h w m e))
    (w : World) (m : MT (h + 1)) (e : S29) (s : St w (fun b => b ∈ fpc [treeC (h + 1) m]) w [treeC (h + 1) m]) (hf : CutFit e (h + 1) (abs (h + 1) m)) : Calls Try.prog 29 #[.pointer (some ⟨ptr (h + 1) m, 0, none⟩), entryV e] w (CutPost (h + 1) w m e) := by
  have mixed : Try.prog.follows Departure.mixedOrders = true := by kernel_rfl
  have hu29 := Try.underlying29
  obtain ⟨p, K, C, ks, kids⟩ := m
  obtain ⟨f1, f2, f3, f4, f5⟩ := hf
  change 1 ≤ ks.length at f1
  change ks.length < 900 at f2
  change Mono ks e at f3
  change (kids.map (abs h)).length = ks.length + 1 at f4
  change ∀ k ∈ kids.map (abs h), CutFit e h k ∧ 2 ≤ blen h k at f5
  rw [List.length_map] at f4
  have hix := kidIx_le ks e
  obtain ⟨A, k, B, rfl, hA⟩ := cut_at kids (kidIx ks e) (by omega)
  have hbc := bcut_at h ks (A.map (abs h)) (abs h k) (B.map (abs h)) e (by rw [List.length_map]; exact hA)
  have hbc' : bcut (h + 1) (abs (h + 1) (⟨p, K, C, ks, A ++ k :: B⟩ : Inner (MT h))) e = (bmend h ks (A.map (abs h)) (bcut h (abs h k) e).1 (B.map (abs h)), (bcut h (abs h k) e).2) := by
    rw [← hbc]
    show bcut (h + 1) (ks, (A ++ k :: B).map (abs h)) e = _
    rw [List.map_append, List.map_cons]
  have fk := f5 (abs h k) (by simp)
  obtain ⟨b, hb⟩ : ∃ b, (bcut h (abs h k) e).2 = b := ⟨_, rfl⟩
  obtain ⟨R, hR⟩ : ∃ R, CutPost (h + 1) w (⟨p, K, C, ks, A ++ k :: B⟩ : Inner (MT h)) e = R := ⟨_, rfl⟩
  rw [hR]
  have HR := Aside0.mk hR
  have HBC := Aside0.mk hbc'
  have HB := Aside0.mk hb
  have HFK := Aside0.mk fk
  have HF5 := Aside0.mk f5
  have HF3 := Aside0.mk f3
  have HIH := Aside0.mk (fun w' s' => IH w' k e s' fk.1)
  have hrow : Row w 59 1 C (ptrs h (A ++ k :: B)).length (ptrs h (A ++ k :: B)) := by rw [ptrs_len]; exact (show Ok w (h + 1) (⟨p, K, C, ks, A ++ k :: B⟩ : Inner (MT h)) from s.get 0 rfl).2.2.1
  obtain ⟨gc, cC, rfl, hcC⟩ := rowP_form hrow (by rw [ptrs_len]; omega)
  rw [ptrs_len, f4] at s
  obtain ⟨i, hi⟩ : ∃ i, kidIx ks e = i := ⟨_, rfl⟩
  have HI := Aside0.mk hi
  rw [hi] at hA hix
  have HA := Aside0.mk hA
  obtain ⟨nk, hnk⟩ : ∃ n, ks.length = n := ⟨_, rfl⟩
  rw [hnk] at s f1 f2 f4 hix
  have HNK := Aside0.mk hnk
  have HPL := Aside0.mk (show (ptrs h (A ++ k :: B)).length = nk + 1 by rw [ptrs_len]; exact f4)
  have HPI := Aside0.mk (show (ptrs h (A ++ k :: B))[i]? = some (.pointer (some ⟨ptr h k, 0, none⟩)) by rw [← hA]; simp [ptrs, kidPtr])
  have hix2 : (i : Int) < (nk : Int) + 1 := by omega
  have hix3 : i < nk + 1 := by omega
  have hix0 : (0 : Int) ≤ (i : Int) := by omega
  have HF4 := Aside0.mk f4
  obtain ⟨n0, hn0⟩ : ∃ n, w.heap.size = n := ⟨_, rfl⟩
  have HS0 := Aside0.mk (s.alloc #[.string e.f0, .int .i64 e.f1.f0, .int .i64 e.f1.f1] 29 hn0)
  have HS := Aside0.mk (show St w (fun b => b ∈ fpc [treeC (h + 1) (⟨p, K, .slice (some ⟨gc, 0, none⟩) (nk + 1) cC, ks, A ++ k :: B⟩ : Inner (MT h))]) _ [treeC h k, nodeC p K (.slice (some ⟨gc, 0, none⟩) (nk + 1) cC), rowEC K ks, rowPC (.slice (some ⟨gc, 0, none⟩) (nk + 1) cC) (ptrs h (A ++ k :: B)), forC h (A ++ B), blkC n0 (.cells #[.string e.f0, .int .i64 e.f1.f0, .int .i64 e.f1.f1] 29 (0, 0))] from open_one HS0.out)
  clear s f3 f5 hbc hbc' fk hb hrow hi hR HS0 IH f4 hnk hA
  unfold entryV
  show Calls Try.prog 29 #[.pointer (some ⟨p, 0, none⟩), .agg #[.string e.f0, .int .i64 e.f1.f0, .int .i64 e.f1.f1]] w R
  obtain ⟨W0, hW0⟩ : ∃ W0, w.alloc (.cells #[.string e.f0, .int .i64 e.f1.f0, .int .i64 e.f1.f1] 29) = W0 := ⟨_, rfl⟩
  rw [hW0] at HS
  have b0 := blk_cell (HS.out.blk 5 rfl) 0
  have b1 := blk_cell (HS.out.blk 5 rfl) 1
  have b2 := blk_cell (HS.out.blk 5 rfl) 2
  go_enter Try.func29, Try.ntmps29
  go_wp2_with (first
    | (go_at_call 30; refine (leaf_no _ p K _ _ _ (HS.out.node 1 rfl) (by omega)).mono ?_; rintro E W0 ⟨rfl, rfl⟩)
    | (go_at_call 43; refine (kid_calls _ p K _ ks e (HS.out.node 1 rfl) (HS.out.rowE 2 rfl) (by rw [HNK.out]; omega) HF3.out).mono ?_; rintro E w1 ⟨rfl, hb⟩; rw [HI.out]; have HS1 := Aside0.mk (HS.out.below hb); clear hb HS b0 b1 b2))
  refine start_ (n := 10) (S := fun w' => w'.cell? ⟨p, 1, none⟩ = some (.slice (some ⟨gc, 0, none⟩) (nk + 1) cC) ∧ w'.cell? ⟨gc, i, none⟩ = some (.pointer (some ⟨ptr h k, 0, none⟩)) ∧ w'.cell? ⟨n0, 0, none⟩ = some (.string e.f0) ∧ w'.cell? ⟨n0, 1, none⟩ = some (.int .i64 e.f1.f0) ∧ w'.cell? ⟨n0, 2, none⟩ = some (.int .i64 e.f1.f1)) (ds := []) #[false, false, false, false, false, false, false, false, false, false] (by kernel_rfl) rfl rfl ⟨(HS1.out.node 1 rfl).c1, (HS1.out.rowP 3 rfl).cell (by rw [HPL.out]) i _ HPI.out, (blk_cell (HS1.out.blk 5 rfl) 0).trans rfl, (blk_cell (HS1.out.blk 5 rfl) 1).trans rfl, (blk_cell (HS1.out.blk 5 rfl) 2).trans rfl⟩ (fun hHeld => ?_)
  have HS2 := Aside0.mk (HS1.out.drew)
  clear HS1
  generalize w1.drew = w2 at HS2 hHeld  ⊢
  refine pure_ (i := 0) (N := (some 33)) (v := ?_) (a' := ?_) #[true, false, false, false, false, false, false, false, false, false] rfl rfl (by kernel_rfl) (fun _ _ _ h => h) (Or.inl ⟨by rfl, ?_⟩) ?_ ?_
  rotate_left
  · intro w'
    go_simp
    with_reducible rfl
  rotate_left
  · simp only [Act.put, List.setIfInBounds_toArray, List.set_cons_zero, List.set_cons_succ, i64_w, i32_w]
    rfl
  refine pure_ (i := 1) (N := (some 34)) (v := ?_) (a' := ?_) #[true, true, false, false, false, false, false, false, false, false] rfl rfl (by kernel_rfl) (fun _ _ _ h => h) (Or.inl ⟨by rfl, ?_⟩) ?_ ?_
  rotate_left
  · intro w'
    go_simp
    with_reducible rfl
  rotate_left
  · simp only [Act.put, List.setIfInBounds_toArray, List.set_cons_zero, List.set_cons_succ, i64_w, i32_w]
    rfl
  refine pure_ (i := 2) (N := (some 35)) (v := ?_) (a' := ?_) #[true, true, true, false, false, false, false, false, false, false] rfl rfl (by kernel_rfl) (fun _ _ _ h => h) (Or.inl ⟨by rfl, ?_⟩) ?_ ?_
  rotate_left
  · intro w'
    go_simp
    with_reducible rfl
  rotate_left
  · simp only [Act.put, List.setIfInBounds_toArray, List.set_cons_zero, List.set_cons_succ, i64_w, i32_w]
    rfl
  refine pure_ (i := 4) (N := (some 37)) (v := ?_) (a' := ?_) #[true, true, true, false, true, false, false, false, false, false] rfl rfl (by kernel_rfl) (fun _ _ _ h => h) (Or.inl ⟨by rfl, ?_⟩) ?_ ?_
  rotate_left
  · intro w'
    go_simp
    with_reducible rfl
  rotate_left
  · simp only [Act.put, List.setIfInBounds_toArray, List.set_cons_zero, List.set_cons_succ, i64_w, i32_w]
    rfl
  refine take_ (i := 3) (N := (some 36)) (v := ?_) (a' := ?_) #[true, true, true, true, true, false, false, false, false, false] rfl rfl (by kernel_rfl) (fun _ _ _ h => h) (Or.inl ⟨by rfl, ?_⟩) hHeld ?_ ?_
  rotate_left
  · rintro w' ⟨s0, s1, s2, s3, s4⟩
    go_simp
    with_reducible rfl
  rotate_left
  · simp only [Act.put, List.setIfInBounds_toArray, List.set_cons_zero, List.set_cons_succ, i64_w, i32_w]
    rfl
  refine pure_ (i := 5) (N := (some 38)) (v := ?_) (a' := ?_) #[true, true, true, true, true, true, false, false, false, false] rfl rfl (by kernel_rfl) (fun _ _ _ h => h) (Or.inl ⟨by rfl, ?_⟩) ?_ ?_
  rotate_left
  · intro w'
    go_simp
    with_reducible rfl
  rotate_left
  · simp only [Act.put, List.setIfInBounds_toArray, List.set_cons_zero, List.set_cons_succ, i64_w, i32_w]
    rfl
  refine take_ (i := 6) (N := (some 39)) (v := ?_) (a' := ?_) #[true, true, true, true, true, true, true, false, false, false] rfl rfl (by kernel_rfl) (fun _ _ _ h => h) (Or.inl ⟨by rfl, ?_⟩) hHeld ?_ ?_
  rotate_left
  · rintro w' ⟨s0, s1, s2, s3, s4⟩
    go_simp
    with_reducible rfl
  rotate_left
  · simp only [Act.put, List.setIfInBounds_toArray, List.set_cons_zero, List.set_cons_succ, i64_w, i32_w]
    rfl
  refine take_ (i := 7) (N := (some 40)) (v := ?_) (a' := ?_) #[true, true, true, true, true, true, true, true, false, false] rfl rfl (by kernel_rfl) (fun _ _ _ h => h) (Or.inl ⟨by rfl, ?_⟩) hHeld ?_ ?_
  rotate_left
  · rintro w' ⟨s0, s1, s2, s3, s4⟩
    go_simp
    with_reducible rfl
  rotate_left
  · simp only [Act.put, List.setIfInBounds_toArray, List.set_cons_zero, List.set_cons_succ, i64_w, i32_w]
    rfl
  refine one_ (i := 8) (N := (some 41)) #[true, true, true, true, true, true, true, true, true, false] rfl rfl (by kernel_rfl) (by decide) (fun K_ hK => ?_)
  refine goes_ Try.func29 (by kernel_rfl) rfl #[.pointer (some ⟨ptr h k, 0, none⟩), .agg #[.string e.f0, .int .i64 e.f1.f0, .int .i64 e.f1.f1]] (by rfl) rfl rfl (by (try simp only [List.map_toArray, List.map_cons, List.map_nil]); first | done | rfl) ?_
  refine (HIH.out _ (St.sub (A := [treeC h k]) HS2.out)).mono ?_
  rintro E w3 ⟨k', rfl, hpk, hak, st⟩
  have HS3 := Aside0.mk (St.call (A := [treeC h k]) HS2.out st)
  clear HS2
  rw [HB.out]
  have HPK := Aside0.mk hpk
  have HAK := Aside0.mk hak
  clear st hpk hak
  refine ⟨_, rfl, ?_⟩
  clear hHeld
  refine hK.out _ _ ⟨(HS3.out.node 1 rfl).c1, (HS3.out.rowP 3 rfl).cell (by rw [HPL.out]) i _ HPI.out, (blk_cell (HS3.out.blk 5 rfl) 0).trans rfl, (blk_cell (HS3.out.blk 5 rfl) 1).trans rfl, (blk_cell (HS3.out.blk 5 rfl) 2).trans rfl⟩ (fun hHeld => ?_)
  clear hK K_
  refine norm_ (a' := ?_) ?_ ?_
  rotate_left
  · show Act.put _ (some 41) _ = _
    simp only [Act.put, List.setIfInBounds_toArray, List.set_cons_zero, List.set_cons_succ, i64_w, i32_w]
    rfl
  refine pure_ (i := 9) (N := (some 8)) (v := ?_) (a' := ?_) #[true, true, true, true, true, true, true, true, true, true] rfl rfl (by kernel_rfl) (fun _ _ _ h => h) (Or.inl ⟨by rfl, ?_⟩) ?_ ?_
  rotate_left
  · intro w'
    go_simp
    with_reducible rfl
  rotate_left
  · simp only [Act.put, List.setIfInBounds_toArray, List.set_cons_zero, List.set_cons_succ, i64_w, i32_w]
    rfl
  refine done_ (by kernel_rfl) ?_
  have hsh := HS3.out
  have hsk := shut_one' (X := A) (Y := B) (l := k') (R := [blkC n0 (.cells #[.string e.f0, .int .i64 e.f1.f0, .int .i64 e.f1.f1] 29 (0, 0))]) hsh (by simp [ptrs, kidPtr, HPK.out])
  have HSK := Aside0.mk hsk
  have hshape := bcut_shape h (abs h k) e HFK.out.1
  rw [← HAK.out] at hshape
  have hfine : ∀ x ∈ A ++ k' :: B, Fine h (abs h x) ∧ 1 ≤ blen h (abs h x) := by
    intro x hx
    have ho : ∀ y, y ∈ A ++ k :: B → Fine h (abs h y) ∧ 2 ≤ blen h (abs h y) := fun y hy => by
      obtain ⟨q1, q2⟩ := HF5.out (abs h y) (List.mem_map_of_mem hy)
      exact ⟨⟨q1.lt, q1.kids⟩, q2⟩
    simp only [List.mem_append, List.mem_cons] at hx
    have hk2 := HFK.out.2
    have hkl := HFK.out.1.lt
    rcases hx with hx | rfl | hx
    · have := ho x (by simp [hx])
      exact ⟨this.1, by omega⟩
    · exact ⟨⟨by omega, hshape.2.2⟩, by omega⟩
    · have := ho x (by simp [hx])
      exact ⟨this.1, by omega⟩
  have hmd := mend_calls h w3 _ p K _ ks A k' B [] (St.sub (A := [treeC (h + 1) (⟨p, K, .slice (some ⟨gc, 0, none⟩) (nk + 1) cC, ks, A ++ k' :: B⟩ : Inner (MT h))]) hsk) (by have := HF4.out; rw [HNK.out]; simp at this ⊢; omega) (by rw [HNK.out]; omega) (by rw [HNK.out]; omega) hfine
  rw [HA.out] at hmd
  have HMD := Aside0.mk hmd
  clear hsh hsk hshape hfine hmd hHeld
  go_wp2_with (first
    | (go_at_call 50; refine HMD.out.mono ?_; rintro E w4 ⟨rfl, m3, hp3, ha3, st⟩; have HS4 := Aside0.mk (St.call (A := [treeC (h + 1) (⟨p, K, .slice (some ⟨gc, 0, none⟩) (nk + 1) cC, ks, A ++ k' :: B⟩ : Inner (MT h))]) HSK.out st); have HP3 := Aside0.mk hp3; have HA3 := Aside0.mk ha3; clear st hp3 ha3))
  rw [← HR.out]
  refine ⟨m3, ?_, HP3.out, ?_, (HS4.out.left)⟩
  · rw [HBC.out, HB.out]
    rfl
  · rw [HBC.out, HA3.out, HAK.out]
theorem cut_calls : ∀ (h : Nat) (w : World) (m : MT h) (e : S29), St w (fun b => b ∈ fpc [treeC h m]) w [treeC h m] → CutFit e h (abs h m) → Calls Try.prog 29 #[.pointer (some ⟨ptr h m, 0, none⟩), entryV e] w (CutPost h w m e)
  | 0, w, m, e, s, hf => cut_zero w m e s hf
  | h + 1, w, m, e, s, hf => cut_succ h (cut_calls h) w m e s hf
end Go.Proofs.Bt
end
