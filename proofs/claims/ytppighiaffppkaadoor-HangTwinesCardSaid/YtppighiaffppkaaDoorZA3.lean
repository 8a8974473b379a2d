/- The common part of the claims of this seat: words, the walks of package hang's functions, and that the examples of the document hold (awake), part 3. Condition: the laid table hang.tens, as the card ties it. -/
import Derived.WalkMore
import Derived.Outline
import Derived.Test.YtppighiaffppkaaDoorZA2
section
namespace Go.Proofs.YtppighiaffppkaaDoor.H
open Go.RowKit Go.Proofs.YtppighiaffppkaaDoorW.PrintWords Go.Proofs.YtppighiaffppkaaDoorW.PrintLast Go.Proofs.YtppighiaffppkaaDoorW.PrintMore
attribute [local go_sem] max2_int min2_int max_two min_two max_three min_three max_four min_four
set_option linter.unusedSimpArgs false
set_option linter.unusedVariables false
def hang_Compare.f (k : Nat) (a0_0 : Int) (a0_1 : Int) (a1_0 : Int) (a1_1 : Int) : Option (Int × Int) := (hang_CheckSquare.f k a0_0 a0_1).bind fun t207 => ((hang_CheckSquare.f k a1_0 a1_1).bind fun t208 => ((hang_first.f k (([t207, t208] : List Int))).bind fun t212 => (if t212 = 0 then ((hang_Square_compare.f a0_0 a0_1 a1_0 a1_1).bind fun t213 => (some (t213, 0))) else (some (0, t212)))))
set_option maxHeartbeats 8000000 in
set_option maxRecDepth 100000 in
theorem hang_Compare.calls (k : Nat) (a0_0 : Int) (a0_1 : Int) (a1_0 : Int) (a1_1 : Int) (r1 : Int) (r2 : Int) (w : World) (h : hang_Compare.f k a0_0 a0_1 a1_0 a1_1 = some (r1, r2)) :
  Calls Tryd.prog 32 #[.agg #[.int .i64 a0_0, .int .i64 a0_1], .agg #[.int .i64 a1_0, .int .i64 a1_1]] w fun e w' => e = .returned (.tuple #[.int .i64 r1, .int .i64 r2]) ∧ Below w.heap.size w w' := by
 have hu25 := Tryd.underlying25
 have HB := Z0.mk (Below.refl w.heap.size w)
 have H : ((hang_CheckSquare.f k a0_0 a0_1).bind fun t207 => ((hang_CheckSquare.f k a1_0 a1_1).bind fun t208 => ((hang_first.f k (([t207, t208] : List Int))).bind fun t212 => (if t212 = 0 then ((hang_Square_compare.f a0_0 a0_1 a1_0 a1_1).bind fun t213 => (some (t213, 0))) else (some (0, t212)))))) = some (r1, r2) := h
 clear h
 replace H := Option.bind_eq_some_iff.mp H
 obtain ⟨t207, A30, H⟩ := H
 try dsimp only at H
 have A3 := Z0.mk A30
 clear A30
 replace H := Option.bind_eq_some_iff.mp H
 obtain ⟨t208, A40, H⟩ := H
 try dsimp only at H
 have A4 := Z0.mk A40
 clear A40
 obtain ⟨y209, hy209⟩ : ∃ y_ : List Int, y_ = (([t207, t208] : List Int)) := ⟨_, rfl⟩
 replace H : ((hang_first.f k y209).bind fun t212 => (if t212 = 0 then ((hang_Square_compare.f a0_0 a0_1 a1_0 a1_1).bind fun t213 => (some (t213, 0))) else (some (0, t212)))) = some (r1, r2) := by first | (rw [hy209]; with_reducible exact H) | (have H2_ := (Option.bind_some _ _).symm.trans H; rw [hy209]; with_reducible exact H2_) | (have H2_ := (Option.bind_some _ _).symm.trans H; with_reducible exact H2_) | with_reducible exact H | (rw [hy209]; exact H) | exact H
 have Ny209 := Z0.mk hy209
 clear hy209
 replace H := Option.bind_eq_some_iff.mp H
 obtain ⟨t212, A50, H⟩ := H
 try dsimp only at H
 have A5 := Z0.mk A50
 clear A50
 by_cases c6 : t212 = 0
 ·rw [if_pos c6] at H
  have c6b0 : (t212 == 0) = true := beq_iff_eq.mpr c6
  have c6b1 : (t212 != 0) = false := bne_eq_false_iff_eq.mpr c6
  clear c6
  replace H := Option.bind_eq_some_iff.mp H
  obtain ⟨t213, A70, H⟩ := H
  try dsimp only at H
  have A7 := Z0.mk A70
  clear A70
  simp only [Option.some.injEq, Prod.mk.injEq] at H
  obtain ⟨rfl, rfl⟩ := H
  go_enter Tryd.func32, Tryd.ntmps32
  try go_wp2_with (first | ((with_reducible refine gtD (N := 2) rfl ?_); refine bxE ?hg (N := 2) ?hd (cs := #[.int .i64 a0_0, .int .i64 a0_1]) (t := 25) ?hr ?_; (case hd => rfl); (case hg => rfl); (case hr => first | (go_simp; done) | (go_simp; rfl)); intro gb205 hg w8 hbox hb; have n0_ := Z0.mk (bwT (by repeat (first | (with_reducible first | exact HB.out | apply bwA | apply bwN | apply bw1) | exact HB.out)) hb); have n1_ := Z0.mk (hbox); have n2_ := Z0.mk ((by rw [hg]; exact (bwZ (by repeat (first | (with_reducible first | exact HB.out | apply bwA | apply bwN | apply bw1) | exact HB.out))) : w.heap.size ≤ gb205)); have n3_ := Z0.mk ((by rw [hg]; exact (bwZ (by repeat (first | (with_reducible first | exact HB.out | apply bwA | apply bwN | apply bw1) | exact HB.out))) : w.heap.size ≤ gb205)); clear HB; have HB := n0_; have BK205 := n1_; have GW205 := n2_; have GE205 := n3_; clear n0_ n1_ n2_ n3_; clear hb hbox hg) | ((with_reducible refine gtD (N := 3) rfl ?_); refine bxE ?hg (N := 3) ?hd (cs := #[.int .i64 a1_0, .int .i64 a1_1]) (t := 25) ?hr ?_; (case hd => rfl); (case hg => rfl); (case hr => first | (go_simp; done) | (go_simp; rfl)); intro gb206 hg w9 hbox hb; have n0_ := Z0.mk (bkB (g := gb205) (o := .cells #[.int .i64 a0_0, .int .i64 a0_1] 25 (0, 0)) (by (with_reducible repeat (first | refine bkN ?_ _ | refine bkD ?_ | refine bkA ?_ _)); exact BK205.out) hb); have n1_ := Z0.mk (bwT (by repeat (first | (with_reducible first | exact HB.out | apply bwA | apply bwN | apply bw1 | refine bwS ?_ GE205.out) | exact HB.out)) hb); have n2_ := Z0.mk (hbox); have n3_ := Z0.mk ((by rw [hg]; exact (bwZ (by repeat (first | (with_reducible first | exact HB.out | apply bwA | apply bwN | apply bw1 | refine bwS ?_ GE205.out) | exact HB.out))) : w.heap.size ≤ gb206)); have n4_ := Z0.mk ((by rw [hg]; exact (bwZ (by repeat (first | (with_reducible first | exact HB.out | apply bwA | apply bwN | apply bw1 | refine bwS ?_ GE205.out) | exact HB.out))) : w.heap.size ≤ gb206)); have n5_ := Z0.mk ((by rw [hg]; exact Nat.ne_of_lt (blk_lt (g := gb205) (o := .cells #[.int .i64 a0_0, .int .i64 a0_1] 25 (0, 0)) (by (with_reducible repeat (first | refine bkN ?_ _ | refine bkD ?_ | refine bkA ?_ _)); exact BK205.out)) : gb205 ≠ gb206)); have n6_ := Z0.mk ((by rw [hg]; exact Nat.ne_of_gt (blk_lt (g := gb205) (o := .cells #[.int .i64 a0_0, .int .i64 a0_1] 25 (0, 0)) (by (with_reducible repeat (first | refine bkN ?_ _ | refine bkD ?_ | refine bkA ?_ _)); exact BK205.out)) : gb206 ≠ gb205)); clear BK205; clear HB; have BK205 := n0_; have HB := n1_; have BK206 := n2_; have GW206 := n3_; have GE206 := n4_; have NB205_206 := n5_; have NB206_205 := n6_; clear n0_ n1_ n2_ n3_ n4_ n5_ n6_; clear hb hbox hg))
  have n0_ := Z0.mk (bkD BK205.out)
  have n1_ := Z0.mk (bkD BK206.out)
  have n2_ := Z0.mk (bw1 HB.out)
  clear BK205
  clear BK206
  clear HB
  have BK205 := n0_
  have BK206 := n1_
  have HB := n2_
  clear n0_ n1_ n2_
  refine start_ (n := 7) (S := fun w' => w'.cell? ⟨gb205, 0, none⟩ = some (.int .i64 a0_0) ∧ w'.cell? ⟨gb205, 1, none⟩ = some (.int .i64 a0_1) ∧ w'.cell? ⟨gb206, 0, none⟩ = some (.int .i64 a1_0) ∧ w'.cell? ⟨gb206, 1, none⟩ = some (.int .i64 a1_1)) (ds := []) #[false, false, false, false, false, false, false] (by kernel_rfl) rfl rfl ⟨(bkC BK205.out 0).trans rfl, (bkC BK205.out 1).trans rfl, (bkC BK206.out 0).trans rfl, (bkC BK206.out 1).trans rfl⟩ (fun hHd => ?_)
  generalize w9.drew = w10 at BK205 BK206 HB hHd ⊢
  refine take_ (i := 0) (N := some 7) (v := ?_) (a' := ?_) #[true, false, false, false, false, false, false] rfl rfl (by kernel_rfl) (fun _ _ _ h => h) (Or.inl ⟨by rfl, ?_⟩) hHd ?_ ?_
  rotate_left
  ·rintro w' ⟨s0, s1, s2, s3⟩
   go_simp
   with_reducible rfl
  rotate_left
  ·simp only [Act.put, List.setIfInBounds_toArray, List.set_cons_zero, List.set_cons_succ, i64_w, i32_w]
   rfl
  refine take_ (i := 2) (N := some 9) (v := ?_) (a' := ?_) #[true, false, true, false, false, false, false] rfl rfl (by kernel_rfl) (fun _ _ _ h => h) (Or.inl ⟨by rfl, ?_⟩) hHd ?_ ?_
  rotate_left
  ·rintro w' ⟨s0, s1, s2, s3⟩
   go_simp
   with_reducible rfl
  rotate_left
  ·simp only [Act.put, List.setIfInBounds_toArray, List.set_cons_zero, List.set_cons_succ, i64_w, i32_w]
   rfl
  refine one_ (i := 1) (N := some 8) #[true, true, true, false, false, false, false] rfl rfl (by kernel_rfl) (by decide) (fun K hK => ?_)
  refine goes_ Tryd.func20 (by kernel_rfl) rfl #[.agg #[.int .i64 a0_0, .int .i64 a0_1]] (by rfl) rfl rfl (by (try simp only [List.map_toArray, List.map_cons, List.map_nil]) <;> rfl) ?_
  with_reducible refine (hang_CheckSquare.calls k a0_0 a0_1 t207 _ A3.out).mono ?_
  rintro e w11 ⟨rfl, hb⟩
  refine ⟨_, rfl, ?_⟩
  have n0_ := Z0.mk (bkB (g := gb205) (o := .cells #[.int .i64 a0_0, .int .i64 a0_1] 25 (0, 0)) (by (with_reducible repeat (first | refine bkN ?_ _ | refine bkD ?_ | refine bkA ?_ _)); exact BK205.out) hb)
  have n1_ := Z0.mk (bkB (g := gb206) (o := .cells #[.int .i64 a1_0, .int .i64 a1_1] 25 (0, 0)) (by (with_reducible repeat (first | refine bkN ?_ _ | refine bkD ?_ | refine bkA ?_ _)); exact BK206.out) hb)
  have n2_ := Z0.mk (bwT (by repeat (first | (with_reducible first | exact HB.out | apply bwA | apply bwN | apply bw1 | refine bwS ?_ GE205.out | refine bwS ?_ GE206.out) | exact HB.out)) hb)
  clear BK205
  clear BK206
  clear HB
  have BK205 := n0_
  have BK206 := n1_
  have HB := n2_
  clear n0_ n1_ n2_
  (try clear hb)
  (try clear hb2)
  (try clear hk)
  (try clear hi)
  refine hK.out _ _ ⟨(bkC BK205.out 0).trans rfl, (bkC BK205.out 1).trans rfl, (bkC BK206.out 0).trans rfl, (bkC BK206.out 1).trans rfl⟩ (fun hHd => ?_)
  clear hK K
  refine norm_ (a' := ?_) ?_ ?_
  rotate_left
  ·show Act.put _ (some 8) _ = _
   simp only [Act.put, List.setIfInBounds_toArray, List.set_cons_zero, List.set_cons_succ, i64_w, i32_w]
   rfl
  refine one_ (i := 3) (N := some 10) #[true, true, true, true, false, false, false] rfl rfl (by kernel_rfl) (by decide) (fun K hK => ?_)
  refine goes_ Tryd.func20 (by kernel_rfl) rfl #[.agg #[.int .i64 a1_0, .int .i64 a1_1]] (by rfl) rfl rfl (by (try simp only [List.map_toArray, List.map_cons, List.map_nil]) <;> rfl) ?_
  with_reducible refine (hang_CheckSquare.calls k a1_0 a1_1 t208 _ A4.out).mono ?_
  rintro e w12 ⟨rfl, hb⟩
  refine ⟨_, rfl, ?_⟩
  have n0_ := Z0.mk (bkB (g := gb205) (o := .cells #[.int .i64 a0_0, .int .i64 a0_1] 25 (0, 0)) (by (with_reducible repeat (first | refine bkN ?_ _ | refine bkD ?_ | refine bkA ?_ _)); exact BK205.out) hb)
  have n1_ := Z0.mk (bkB (g := gb206) (o := .cells #[.int .i64 a1_0, .int .i64 a1_1] 25 (0, 0)) (by (with_reducible repeat (first | refine bkN ?_ _ | refine bkD ?_ | refine bkA ?_ _)); exact BK206.out) hb)
  have n2_ := Z0.mk (bwT (by repeat (first | (with_reducible first | exact HB.out | apply bwA | apply bwN | apply bw1 | refine bwS ?_ GE205.out | refine bwS ?_ GE206.out) | exact HB.out)) hb)
  clear BK205
  clear BK206
  clear HB
  have BK205 := n0_
  have BK206 := n1_
  have HB := n2_
  clear n0_ n1_ n2_
  (try clear hb)
  (try clear hb2)
  (try clear hk)
  (try clear hi)
  refine hK.out _ _ ⟨(bkC BK205.out 0).trans rfl, (bkC BK205.out 1).trans rfl, (bkC BK206.out 0).trans rfl, (bkC BK206.out 1).trans rfl⟩ (fun hHd => ?_)
  clear hK K
  refine norm_ (a' := ?_) ?_ ?_
  rotate_left
  ·show Act.put _ (some 10) _ = _
   simp only [Act.put, List.setIfInBounds_toArray, List.set_cons_zero, List.set_cons_succ, i64_w, i32_w]
   rfl
  refine one_ (i := 4) (N := some 11) #[true, true, true, true, true, false, false] rfl rfl (by kernel_rfl) (by decide) (fun K hK => ?_)
  refine Kd.R_lit_step (Kd.int .i64) _ 26 ?hg (N := 11) ?hd (xs := ([t207, t208] : List Int)) (inner := [.int .i64 t207, .int .i64 t208]) (ok := fun _ => True) (okp := fun _ => True) ?hr ?hp (fun _ hk => hk) trivial (Below.refl _ _) (Nat.le_refl _) (by simp) ?_; (case hd => rfl); (case hg => rfl); (case hr => first | (go_simp; done) | (go_simp; rfl)); (case hp => exact (Reps.one (show Kd.M (Kd.int .i64) _ _ _ t207 [.int .i64 t207] from rfl) (Reps.one (show Kd.M (Kd.int .i64) _ _ _ t208 [.int .i64 t208] from rfl) (Reps.none _ _))))
  intro v210 w13 ho14 hb hg_ hnew_
  clear hg_ hnew_
  (first | rw [← Ny209.out] at ho14 | (simp only [Int.reduceToNat] at ho14; rw [← Ny209.out] at ho14))
  have n0_ := Z0.mk (Kd.R_lower ho14 (bwZ (by repeat (first | (with_reducible first | exact HB.out | apply bwA | apply bwN | apply bw1 | refine bwS ?_ GE205.out | refine bwS ?_ GE206.out) | exact HB.out))))
  have n1_ := Z0.mk (bkB (g := gb205) (o := .cells #[.int .i64 a0_0, .int .i64 a0_1] 25 (0, 0)) (by (with_reducible repeat (first | refine bkN ?_ _ | refine bkD ?_ | refine bkA ?_ _)); exact BK205.out) hb)
  have n2_ := Z0.mk (bkB (g := gb206) (o := .cells #[.int .i64 a1_0, .int .i64 a1_1] 25 (0, 0)) (by (with_reducible repeat (first | refine bkN ?_ _ | refine bkD ?_ | refine bkA ?_ _)); exact BK206.out) hb)
  have n3_ := Z0.mk (bwT (by repeat (first | (with_reducible first | exact HB.out | apply bwA | apply bwN | apply bw1 | refine bwS ?_ GE205.out | refine bwS ?_ GE206.out) | exact HB.out)) hb)
  clear BK205
  clear BK206
  clear HB
  have HO211 := n0_
  have BK205 := n1_
  have BK206 := n2_
  have HB := n3_
  clear n0_ n1_ n2_ n3_
  clear hb ho14
  obtain ⟨Ao15, co15, eo15⟩ := Kd.R_slice HO211.out
  (first | subst eo15 | (injection eo15 with f1_ f2_ f3_; have f4_ := f1_.symm; have f5_ := f3_.symm; clear f1_ f2_ f3_; subst f4_; subst f5_))
  refine hK.out _ _ ⟨(bkC BK205.out 0).trans rfl, (bkC BK205.out 1).trans rfl, (bkC BK206.out 0).trans rfl, (bkC BK206.out 1).trans rfl⟩ (fun hHd => ?_)
  clear hK K
  refine norm_ (a' := ?_) ?_ ?_
  rotate_left
  ·show Act.put _ (some 11) _ = _
   simp only [Act.put, List.setIfInBounds_toArray, List.set_cons_zero, List.set_cons_succ, i64_w, i32_w]
   rfl
  refine one_ (i := 5) (N := some 12) #[true, true, true, true, true, true, false] rfl rfl (by kernel_rfl) (by decide) (fun K hK => ?_)
  refine goes_ Tryd.func72 (by kernel_rfl) rfl #[.slice Ao15 y209.length co15] (by rfl) rfl rfl (by (try simp only [List.map_toArray, List.map_cons, List.map_nil]) <;> rfl) ?_
  with_reducible refine (hang_first.calls k _ _ y209 t212 _ ?side1 ?side2 A5.out).mono ?_
  (case side1 => repeat (first | exact (Kd.R_reads' HO211.out).2.2 | (with_reducible refine Kd.C_alloc ?_ _) | (with_reducible refine Kd.C_drewN ?_ _) | (with_reducible refine Kd.C_drew ?_)))
  (case side2 => exact (Kd.R_reads' HO211.out).2.1)
  rintro e w' ⟨rfl, ⟨nd, rfl⟩⟩
  refine ⟨_, rfl, ?_⟩
  refine hK.out _ _ ⟨(bkC BK205.out 0).trans rfl, (bkC BK205.out 1).trans rfl, (bkC BK206.out 0).trans rfl, (bkC BK206.out 1).trans rfl⟩ (fun hHd => ?_)
  clear hK K
  refine norm_ (a' := ?_) ?_ ?_
  rotate_left
  ·show Act.put _ (some 12) _ = _
   simp only [Act.put, List.setIfInBounds_toArray, List.set_cons_zero, List.set_cons_succ, i64_w, i32_w]
   rfl
  refine pure_ (i := 6) (N := some 6) (v := ?_) (a' := ?_) #[true, true, true, true, true, true, true] rfl rfl (by kernel_rfl) (fun _ _ _ h => h) (Or.inl ⟨by rfl, ?_⟩) ?_ ?_
  rotate_left
  ·intro w'
   go_simp
   with_reducible rfl
  rotate_left
  ·simp only [Act.put, List.setIfInBounds_toArray, List.set_cons_zero, List.set_cons_succ, i64_w, i32_w]
   rfl
  refine done_ (by kernel_rfl) ?_
  have hnb16 := NB205_206.out
  have hnc16 := NB206_205.out
  have hcz17_0 : w13.cell? ⟨gb205, 0, none⟩ = some (.int .i64 a0_0) := (bkC BK205.out 0).trans rfl
  have hcz17_1 : w13.cell? ⟨gb205, 1, none⟩ = some (.int .i64 a0_1) := (bkC BK205.out 1).trans rfl
  have hfz17_0 := bkZ BK205.out 0
  have hfz17_1 := bkZ BK205.out 1
  have hcz18_0 : w13.cell? ⟨gb206, 0, none⟩ = some (.int .i64 a1_0) := (bkC BK206.out 0).trans rfl
  have hcz18_1 : w13.cell? ⟨gb206, 1, none⟩ = some (.int .i64 a1_1) := (bkC BK206.out 1).trans rfl
  have hfz18_0 := bkZ BK206.out 0
  have hfz18_1 := bkZ BK206.out 1
  try go_wp2_with (first | ((with_reducible refine gtC (f := 80) rfl ?_); refine goesL_ (some 18) rfl rfl Tryd.func80 (by kernel_rfl) rfl #[.agg #[.int .i64 a0_0, .int .i64 a0_1], .agg #[.int .i64 a1_0, .int .i64 a1_1]] rfl (by (try simp only [List.map_toArray, List.map_cons, List.map_nil]) <;> rfl) ?_; (with_reducible refine (hang_Square_compare.calls a0_0 a0_1 a1_0 a1_1 t213 _ A7.out).mono ?_); rintro e w19 ⟨rfl, hb⟩; refine ⟨_, rfl, ?_⟩; have n0_ := Z0.mk (Kd.R_below (by (with_reducible repeat (first | apply Kd.R_alloc | apply Kd.R_drewN | apply Kd.R_drew)); exact HO211.out) hb); have n1_ := Z0.mk (bkB (g := gb205) (o := .cells #[.int .i64 a0_0, .int .i64 a0_1] 25 (0, 0)) (by (with_reducible repeat (first | refine bkN ?_ _ | refine bkD ?_ | refine bkA ?_ _)); exact BK205.out) hb); have n2_ := Z0.mk (bkB (g := gb206) (o := .cells #[.int .i64 a1_0, .int .i64 a1_1] 25 (0, 0)) (by (with_reducible repeat (first | refine bkN ?_ _ | refine bkD ?_ | refine bkA ?_ _)); exact BK206.out) hb); have n3_ := Z0.mk (bwT (by repeat (first | (with_reducible first | exact HB.out | apply bwA | apply bwN | apply bw1 | refine bwS ?_ GE205.out | refine bwS ?_ GE206.out) | exact HB.out)) hb); clear HO211; clear BK205; clear BK206; clear HB; have HO211 := n0_; have BK205 := n1_; have BK206 := n2_; have HB := n3_; clear n0_ n1_ n2_ n3_; (try clear hb); (try clear hb2); (try clear hk); (try clear hi)))
  go_ret2
  exact ⟨by first | rfl | (simp [errW_none, errW_some] <;> rfl) | (simp [*, errW_none, errW_some] <;> rfl), by repeat (first | (with_reducible first | exact HB.out | apply bwA | apply bwN | apply bw1 | refine bwS ?_ GE205.out | refine bwS ?_ GE206.out) | exact HB.out)⟩
 ·rw [if_neg c6] at H
  have c6b0 : (t212 == 0) = false := beq_eq_false_iff_ne.mpr c6
  have c6b1 : (t212 != 0) = true := bne_iff_ne.mpr c6
  simp only [Option.some.injEq, Prod.mk.injEq] at H
  obtain ⟨rfl, rfl⟩ := H
  go_enter Tryd.func32, Tryd.ntmps32
  try go_wp2_with (first | ((with_reducible refine gtD (N := 2) rfl ?_); refine bxE ?hg (N := 2) ?hd (cs := #[.int .i64 a0_0, .int .i64 a0_1]) (t := 25) ?hr ?_; (case hd => rfl); (case hg => rfl); (case hr => first | (go_simp; done) | (go_simp; rfl)); intro gb205 hg w20 hbox hb; have n0_ := Z0.mk (bwT (by repeat (first | (with_reducible first | exact HB.out | apply bwA | apply bwN | apply bw1) | exact HB.out)) hb); have n1_ := Z0.mk (hbox); have n2_ := Z0.mk ((by rw [hg]; exact (bwZ (by repeat (first | (with_reducible first | exact HB.out | apply bwA | apply bwN | apply bw1) | exact HB.out))) : w.heap.size ≤ gb205)); have n3_ := Z0.mk ((by rw [hg]; exact (bwZ (by repeat (first | (with_reducible first | exact HB.out | apply bwA | apply bwN | apply bw1) | exact HB.out))) : w.heap.size ≤ gb205)); clear HB; have HB := n0_; have BK205 := n1_; have GW205 := n2_; have GE205 := n3_; clear n0_ n1_ n2_ n3_; clear hb hbox hg) | ((with_reducible refine gtD (N := 3) rfl ?_); refine bxE ?hg (N := 3) ?hd (cs := #[.int .i64 a1_0, .int .i64 a1_1]) (t := 25) ?hr ?_; (case hd => rfl); (case hg => rfl); (case hr => first | (go_simp; done) | (go_simp; rfl)); intro gb206 hg w21 hbox hb; have n0_ := Z0.mk (bkB (g := gb205) (o := .cells #[.int .i64 a0_0, .int .i64 a0_1] 25 (0, 0)) (by (with_reducible repeat (first | refine bkN ?_ _ | refine bkD ?_ | refine bkA ?_ _)); exact BK205.out) hb); have n1_ := Z0.mk (bwT (by repeat (first | (with_reducible first | exact HB.out | apply bwA | apply bwN | apply bw1 | refine bwS ?_ GE205.out) | exact HB.out)) hb); have n2_ := Z0.mk (hbox); have n3_ := Z0.mk ((by rw [hg]; exact (bwZ (by repeat (first | (with_reducible first | exact HB.out | apply bwA | apply bwN | apply bw1 | refine bwS ?_ GE205.out) | exact HB.out))) : w.heap.size ≤ gb206)); have n4_ := Z0.mk ((by rw [hg]; exact (bwZ (by repeat (first | (with_reducible first | exact HB.out | apply bwA | apply bwN | apply bw1 | refine bwS ?_ GE205.out) | exact HB.out))) : w.heap.size ≤ gb206)); have n5_ := Z0.mk ((by rw [hg]; exact Nat.ne_of_lt (blk_lt (g := gb205) (o := .cells #[.int .i64 a0_0, .int .i64 a0_1] 25 (0, 0)) (by (with_reducible repeat (first | refine bkN ?_ _ | refine bkD ?_ | refine bkA ?_ _)); exact BK205.out)) : gb205 ≠ gb206)); have n6_ := Z0.mk ((by rw [hg]; exact Nat.ne_of_gt (blk_lt (g := gb205) (o := .cells #[.int .i64 a0_0, .int .i64 a0_1] 25 (0, 0)) (by (with_reducible repeat (first | refine bkN ?_ _ | refine bkD ?_ | refine bkA ?_ _)); exact BK205.out)) : gb206 ≠ gb205)); clear BK205; clear HB; have BK205 := n0_; have HB := n1_; have BK206 := n2_; have GW206 := n3_; have GE206 := n4_; have NB205_206 := n5_; have NB206_205 := n6_; clear n0_ n1_ n2_ n3_ n4_ n5_ n6_; clear hb hbox hg))
  have n0_ := Z0.mk (bkD BK205.out)
  have n1_ := Z0.mk (bkD BK206.out)
  have n2_ := Z0.mk (bw1 HB.out)
  clear BK205
  clear BK206
  clear HB
  have BK205 := n0_
  have BK206 := n1_
  have HB := n2_
  clear n0_ n1_ n2_
  refine start_ (n := 7) (S := fun w' => w'.cell? ⟨gb205, 0, none⟩ = some (.int .i64 a0_0) ∧ w'.cell? ⟨gb205, 1, none⟩ = some (.int .i64 a0_1) ∧ w'.cell? ⟨gb206, 0, none⟩ = some (.int .i64 a1_0) ∧ w'.cell? ⟨gb206, 1, none⟩ = some (.int .i64 a1_1)) (ds := []) #[false, false, false, false, false, false, false] (by kernel_rfl) rfl rfl ⟨(bkC BK205.out 0).trans rfl, (bkC BK205.out 1).trans rfl, (bkC BK206.out 0).trans rfl, (bkC BK206.out 1).trans rfl⟩ (fun hHd => ?_)
  generalize w21.drew = w22 at BK205 BK206 HB hHd ⊢
  refine take_ (i := 0) (N := some 7) (v := ?_) (a' := ?_) #[true, false, false, false, false, false, false] rfl rfl (by kernel_rfl) (fun _ _ _ h => h) (Or.inl ⟨by rfl, ?_⟩) hHd ?_ ?_
  rotate_left
  ·rintro w' ⟨s0, s1, s2, s3⟩
   go_simp
   with_reducible rfl
  rotate_left
  ·simp only [Act.put, List.setIfInBounds_toArray, List.set_cons_zero, List.set_cons_succ, i64_w, i32_w]
   rfl
  refine take_ (i := 2) (N := some 9) (v := ?_) (a' := ?_) #[true, false, true, false, false, false, false] rfl rfl (by kernel_rfl) (fun _ _ _ h => h) (Or.inl ⟨by rfl, ?_⟩) hHd ?_ ?_
  rotate_left
  ·rintro w' ⟨s0, s1, s2, s3⟩
   go_simp
   with_reducible rfl
  rotate_left
  ·simp only [Act.put, List.setIfInBounds_toArray, List.set_cons_zero, List.set_cons_succ, i64_w, i32_w]
   rfl
  refine one_ (i := 1) (N := some 8) #[true, true, true, false, false, false, false] rfl rfl (by kernel_rfl) (by decide) (fun K hK => ?_)
  refine goes_ Tryd.func20 (by kernel_rfl) rfl #[.agg #[.int .i64 a0_0, .int .i64 a0_1]] (by rfl) rfl rfl (by (try simp only [List.map_toArray, List.map_cons, List.map_nil]) <;> rfl) ?_
  with_reducible refine (hang_CheckSquare.calls k a0_0 a0_1 t207 _ A3.out).mono ?_
  rintro e w23 ⟨rfl, hb⟩
  refine ⟨_, rfl, ?_⟩
  have n0_ := Z0.mk (bkB (g := gb205) (o := .cells #[.int .i64 a0_0, .int .i64 a0_1] 25 (0, 0)) (by (with_reducible repeat (first | refine bkN ?_ _ | refine bkD ?_ | refine bkA ?_ _)); exact BK205.out) hb)
  have n1_ := Z0.mk (bkB (g := gb206) (o := .cells #[.int .i64 a1_0, .int .i64 a1_1] 25 (0, 0)) (by (with_reducible repeat (first | refine bkN ?_ _ | refine bkD ?_ | refine bkA ?_ _)); exact BK206.out) hb)
  have n2_ := Z0.mk (bwT (by repeat (first | (with_reducible first | exact HB.out | apply bwA | apply bwN | apply bw1 | refine bwS ?_ GE205.out | refine bwS ?_ GE206.out) | exact HB.out)) hb)
  clear BK205
  clear BK206
  clear HB
  have BK205 := n0_
  have BK206 := n1_
  have HB := n2_
  clear n0_ n1_ n2_
  (try clear hb)
  (try clear hb2)
  (try clear hk)
  (try clear hi)
  refine hK.out _ _ ⟨(bkC BK205.out 0).trans rfl, (bkC BK205.out 1).trans rfl, (bkC BK206.out 0).trans rfl, (bkC BK206.out 1).trans rfl⟩ (fun hHd => ?_)
  clear hK K
  refine norm_ (a' := ?_) ?_ ?_
  rotate_left
  ·show Act.put _ (some 8) _ = _
   simp only [Act.put, List.setIfInBounds_toArray, List.set_cons_zero, List.set_cons_succ, i64_w, i32_w]
   rfl
  refine one_ (i := 3) (N := some 10) #[true, true, true, true, false, false, false] rfl rfl (by kernel_rfl) (by decide) (fun K hK => ?_)
  refine goes_ Tryd.func20 (by kernel_rfl) rfl #[.agg #[.int .i64 a1_0, .int .i64 a1_1]] (by rfl) rfl rfl (by (try simp only [List.map_toArray, List.map_cons, List.map_nil]) <;> rfl) ?_
  with_reducible refine (hang_CheckSquare.calls k a1_0 a1_1 t208 _ A4.out).mono ?_
  rintro e w24 ⟨rfl, hb⟩
  refine ⟨_, rfl, ?_⟩
  have n0_ := Z0.mk (bkB (g := gb205) (o := .cells #[.int .i64 a0_0, .int .i64 a0_1] 25 (0, 0)) (by (with_reducible repeat (first | refine bkN ?_ _ | refine bkD ?_ | refine bkA ?_ _)); exact BK205.out) hb)
  have n1_ := Z0.mk (bkB (g := gb206) (o := .cells #[.int .i64 a1_0, .int .i64 a1_1] 25 (0, 0)) (by (with_reducible repeat (first | refine bkN ?_ _ | refine bkD ?_ | refine bkA ?_ _)); exact BK206.out) hb)
  have n2_ := Z0.mk (bwT (by repeat (first | (with_reducible first | exact HB.out | apply bwA | apply bwN | apply bw1 | refine bwS ?_ GE205.out | refine bwS ?_ GE206.out) | exact HB.out)) hb)
  clear BK205
  clear BK206
  clear HB
  have BK205 := n0_
  have BK206 := n1_
  have HB := n2_
  clear n0_ n1_ n2_
  (try clear hb)
  (try clear hb2)
  (try clear hk)
  (try clear hi)
  refine hK.out _ _ ⟨(bkC BK205.out 0).trans rfl, (bkC BK205.out 1).trans rfl, (bkC BK206.out 0).trans rfl, (bkC BK206.out 1).trans rfl⟩ (fun hHd => ?_)
  clear hK K
  refine norm_ (a' := ?_) ?_ ?_
  rotate_left
  ·show Act.put _ (some 10) _ = _
   simp only [Act.put, List.setIfInBounds_toArray, List.set_cons_zero, List.set_cons_succ, i64_w, i32_w]
   rfl
  refine one_ (i := 4) (N := some 11) #[true, true, true, true, true, false, false] rfl rfl (by kernel_rfl) (by decide) (fun K hK => ?_)
  refine Kd.R_lit_step (Kd.int .i64) _ 26 ?hg (N := 11) ?hd (xs := ([t207, t208] : List Int)) (inner := [.int .i64 t207, .int .i64 t208]) (ok := fun _ => True) (okp := fun _ => True) ?hr ?hp (fun _ hk => hk) trivial (Below.refl _ _) (Nat.le_refl _) (by simp) ?_; (case hd => rfl); (case hg => rfl); (case hr => first | (go_simp; done) | (go_simp; rfl)); (case hp => exact (Reps.one (show Kd.M (Kd.int .i64) _ _ _ t207 [.int .i64 t207] from rfl) (Reps.one (show Kd.M (Kd.int .i64) _ _ _ t208 [.int .i64 t208] from rfl) (Reps.none _ _))))
  intro v210 w25 ho26 hb hg_ hnew_
  clear hg_ hnew_
  (first | rw [← Ny209.out] at ho26 | (simp only [Int.reduceToNat] at ho26; rw [← Ny209.out] at ho26))
  have n0_ := Z0.mk (Kd.R_lower ho26 (bwZ (by repeat (first | (with_reducible first | exact HB.out | apply bwA | apply bwN | apply bw1 | refine bwS ?_ GE205.out | refine bwS ?_ GE206.out) | exact HB.out))))
  have n1_ := Z0.mk (bkB (g := gb205) (o := .cells #[.int .i64 a0_0, .int .i64 a0_1] 25 (0, 0)) (by (with_reducible repeat (first | refine bkN ?_ _ | refine bkD ?_ | refine bkA ?_ _)); exact BK205.out) hb)
  have n2_ := Z0.mk (bkB (g := gb206) (o := .cells #[.int .i64 a1_0, .int .i64 a1_1] 25 (0, 0)) (by (with_reducible repeat (first | refine bkN ?_ _ | refine bkD ?_ | refine bkA ?_ _)); exact BK206.out) hb)
  have n3_ := Z0.mk (bwT (by repeat (first | (with_reducible first | exact HB.out | apply bwA | apply bwN | apply bw1 | refine bwS ?_ GE205.out | refine bwS ?_ GE206.out) | exact HB.out)) hb)
  clear BK205
  clear BK206
  clear HB
  have HO211 := n0_
  have BK205 := n1_
  have BK206 := n2_
  have HB := n3_
  clear n0_ n1_ n2_ n3_
  clear hb ho26
  obtain ⟨Ao27, co27, eo27⟩ := Kd.R_slice HO211.out
  (first | subst eo27 | (injection eo27 with f1_ f2_ f3_; have f4_ := f1_.symm; have f5_ := f3_.symm; clear f1_ f2_ f3_; subst f4_; subst f5_))
  refine hK.out _ _ ⟨(bkC BK205.out 0).trans rfl, (bkC BK205.out 1).trans rfl, (bkC BK206.out 0).trans rfl, (bkC BK206.out 1).trans rfl⟩ (fun hHd => ?_)
  clear hK K
  refine norm_ (a' := ?_) ?_ ?_
  rotate_left
  ·show Act.put _ (some 11) _ = _
   simp only [Act.put, List.setIfInBounds_toArray, List.set_cons_zero, List.set_cons_succ, i64_w, i32_w]
   rfl
  refine one_ (i := 5) (N := some 12) #[true, true, true, true, true, true, false] rfl rfl (by kernel_rfl) (by decide) (fun K hK => ?_)
  refine goes_ Tryd.func72 (by kernel_rfl) rfl #[.slice Ao27 y209.length co27] (by rfl) rfl rfl (by (try simp only [List.map_toArray, List.map_cons, List.map_nil]) <;> rfl) ?_
  with_reducible refine (hang_first.calls k _ _ y209 t212 _ ?side1 ?side2 A5.out).mono ?_
  (case side1 => repeat (first | exact (Kd.R_reads' HO211.out).2.2 | (with_reducible refine Kd.C_alloc ?_ _) | (with_reducible refine Kd.C_drewN ?_ _) | (with_reducible refine Kd.C_drew ?_)))
  (case side2 => exact (Kd.R_reads' HO211.out).2.1)
  rintro e w' ⟨rfl, ⟨nd, rfl⟩⟩
  refine ⟨_, rfl, ?_⟩
  refine hK.out _ _ ⟨(bkC BK205.out 0).trans rfl, (bkC BK205.out 1).trans rfl, (bkC BK206.out 0).trans rfl, (bkC BK206.out 1).trans rfl⟩ (fun hHd => ?_)
  clear hK K
  refine norm_ (a' := ?_) ?_ ?_
  rotate_left
  ·show Act.put _ (some 12) _ = _
   simp only [Act.put, List.setIfInBounds_toArray, List.set_cons_zero, List.set_cons_succ, i64_w, i32_w]
   rfl
  refine pure_ (i := 6) (N := some 6) (v := ?_) (a' := ?_) #[true, true, true, true, true, true, true] rfl rfl (by kernel_rfl) (fun _ _ _ h => h) (Or.inl ⟨by rfl, ?_⟩) ?_ ?_
  rotate_left
  ·intro w'
   go_simp
   with_reducible rfl
  rotate_left
  ·simp only [Act.put, List.setIfInBounds_toArray, List.set_cons_zero, List.set_cons_succ, i64_w, i32_w]
   rfl
  refine done_ (by kernel_rfl) ?_
  try go_wp2
  go_ret2
  exact ⟨by first | rfl | (simp [errW_none, errW_some] <;> rfl) | (simp [*, errW_none, errW_some] <;> rfl), by repeat (first | (with_reducible first | exact HB.out | apply bwA | apply bwN | apply bw1 | refine bwS ?_ GE205.out | refine bwS ?_ GE206.out) | exact HB.out)⟩
end Go.Proofs.YtppighiaffppkaaDoor.H
end
section
namespace Go.Proofs.YtppighiaffppkaaDoor.H
open Go.RowKit Go.Proofs.YtppighiaffppkaaDoorW.PrintWords Go.Proofs.YtppighiaffppkaaDoorW.PrintLast Go.Proofs.YtppighiaffppkaaDoorW.PrintMore
set_option linter.unusedSimpArgs false
set_option linter.unusedVariables false
def isq : Nat → Nat
 | 0 => 0
 | n + 1 => if (isq n + 1) * (isq n + 1) ≤ n + 1 then isq n + 1 else isq n
theorem isq_spec (n : Nat) : isq n * isq n ≤ n ∧ n < (isq n + 1) * (isq n + 1) := by
 induction n with
 | zero => simp [isq]
 | succ n ih =>
  obtain ⟨h1, h2⟩ := ih
  simp only [isq]
  split
  ·rename_i h
   refine ⟨h, ?_⟩
   have : (isq n + 1 + 1) * (isq n + 1 + 1) = (isq n + 1) * (isq n + 1) + 2 * (isq n + 1) + 1 := by rw [Nat.add_mul, Nat.mul_add]; omega
   omega
  ·rename_i h
   exact ⟨by omega, by omega⟩
theorem isq_unique {n r : Nat} (h1 : r * r ≤ n) (h2 : n < (r + 1) * (r + 1)) : isq n = r := by
 obtain ⟨a, b⟩ := isq_spec n
 rcases Nat.lt_trichotomy (isq n) r with h | h | h
 ·have : (isq n + 1) * (isq n + 1) ≤ r * r := Nat.mul_le_mul h h
  omega
 ·exact h
 ·have : (r + 1) * (r + 1) ≤ isq n * isq n := Nat.mul_le_mul h h
  omega
theorem hid_ {p : Prop} (h : p) : Hid p := h
def hang_root.f (a0 : Int) : Option Int := if 0 ≤ a0 ∧ a0 < 4611686018427387904 then some (isq a0.toNat : Int) else none
theorem sq_le {a b : Int} (ha : 0 ≤ a) (h : a ≤ b) : a * a ≤ b * b := Int.mul_le_mul h h ha (by omega)
set_option maxHeartbeats 1000000 in
theorem hang_root.calls (a0 : Int) (r : Int) (w : World) (h : hang_root.f a0 = some r) :
  Calls Tryd.prog 81 #[.int .i64 a0] w fun e w' => e = .returned (.int .i64 r) ∧ Drawn0 w w' := by
 unfold hang_root.f at h
 split at h
 case isFalse => exact absurd h (by simp)
 rename_i hb
 obtain ⟨hb0, hb1⟩ := hb
 obtain rfl := Option.some.inj h
 clear h
 go_enter Tryd.func81, Tryd.ntmps81
 go_wp2
 go_step3
 go_wp2
 go_step3
 go_wp2
 go_loop [3, 4] (fun u v => ∃ lo hi : Int, 0 ≤ lo ∧ lo < hi ∧ hi ≤ 2147483648 ∧ Hid (lo * lo ≤ a0 ∧ a0 < hi * hi) ∧ u = .int .i64 lo ∧ v = .int .i64 hi) (fun u v => (intOf v - intOf u).toNat)
 case atStart => exact ⟨0, 2147483648, by omega, by omega, by omega, ⟨by omega, by omega⟩, rfl, rfl⟩
 case round =>
  obtain ⟨lo, hi, h0, h1, h2, h3, rfl, rfl⟩ := hrel
  by_cases hd : hi - lo = 1
  ·have hd1 : ((hi - lo) == 1) = true := beq_iff_eq.mpr hd
   have hq : (isq a0.toNat : Int) = lo := by
    obtain ⟨n, rfl⟩ := Int.eq_ofNat_of_zero_le hb0
    obtain ⟨m, rfl⟩ := Int.eq_ofNat_of_zero_le h0
    have hhi : hi = ((m + 1 : Nat) : Int) := by omega
    have h3 := h3.out
    rw [hhi] at h3
    have a1 : m * m ≤ n := by exact_mod_cast h3.1
    have a2 : n < (m + 1) * (m + 1) := by exact_mod_cast h3.2
    simp [isq_unique a1 a2]
   have Hq := hid_ hq
   clear hq hd
   go_wp2
   go_ret
   exact ⟨by rw [Hq.out]; rfl, Drawn0.refl _⟩
  ·have hd1 : ((hi - lo) == 1) = false := beq_eq_false_iff_ne.mpr hd
   have hm0 : lo < (lo + hi) / 2 := by omega
   have hm1 : (lo + hi) / 2 < hi := by omega
   have hp : (lo + hi) / 2 * ((lo + hi) / 2) ≤ 2147483648 * 2147483648 := sq_le (by omega) (by omega)
   have hp0 : 0 ≤ (lo + hi) / 2 * ((lo + hi) / 2) := Int.mul_nonneg (by omega) (by omega)
   have hw : wrap64 ((lo + hi) / 2 * ((lo + hi) / 2)) = (lo + hi) / 2 * ((lo + hi) / 2) := by unfold wrap64; omega
   clear hp hp0
   by_cases hc : (lo + hi) / 2 * ((lo + hi) / 2) ≤ a0
   ·have hc1 : decide ((lo + hi) / 2 * ((lo + hi) / 2) ≤ a0) = true := decide_eq_true hc
    have H3 : Hid ((lo + hi) / 2 * ((lo + hi) / 2) ≤ a0 ∧ a0 < hi * hi) := ⟨hc, h3.out.2⟩
    clear hd hc h3
    go_wp2
    go_round
    case rel => exact ⟨_, _, by omega, hm1, h2, H3, rfl, rfl⟩
    case measure => simp [intOf]; omega
   ·have hc1 : decide ((lo + hi) / 2 * ((lo + hi) / 2) ≤ a0) = false := decide_eq_false hc
    have H3 : Hid (lo * lo ≤ a0 ∧ a0 < (lo + hi) / 2 * ((lo + hi) / 2)) := ⟨h3.out.1, by omega⟩
    clear hd hc h3
    go_wp2
    go_round
    case rel => exact ⟨_, _, h0, hm0, by omega, H3, rfl, rfl⟩
    case measure => simp [intOf]; omega
end Go.Proofs.YtppighiaffppkaaDoor.H
end
section
namespace Go.Proofs.YtppighiaffppkaaDoor.H
structure GH (w : World) : Prop where
 c0 : w.cell? ⟨0, 0, none⟩ = some (.int .i64 1)
 c1 : w.cell? ⟨0, 1, none⟩ = some (.int .i64 10)
 c2 : w.cell? ⟨0, 2, none⟩ = some (.int .i64 100)
theorem GH.below {w w' : World} (h : GH w) (hb : RowKit.Below w.heap.size w w') : GH w' := by
 have h0 := World.block_lt_of_cell? w _ h.c0
 exact ⟨(hb.cell (p := ⟨0, 0, none⟩) h0).trans h.c0, (hb.cell (p := ⟨0, 1, none⟩) h0).trans h.c1, (hb.cell (p := ⟨0, 2, none⟩) h0).trans h.c2⟩
end Go.Proofs.YtppighiaffppkaaDoor.H
end
section
namespace Go.Proofs.YtppighiaffppkaaDoor.H
open Go.RowKit Go.Proofs.YtppighiaffppkaaDoorW.PrintWords Go.Proofs.YtppighiaffppkaaDoorW.PrintLast Go.Proofs.YtppighiaffppkaaDoorW.PrintMore
attribute [local go_sem] max2_int min2_int max_two min_two max_three min_three max_four min_four
set_option linter.unusedSimpArgs false
set_option linter.unusedVariables false
def hang_tens.f (a : Int) : Option Int := if a = 0 then some 1 else if a = 1 then some 10 else if a = 2 then some 100 else none
theorem hang_tens_cases {a t : Int} (h : hang_tens.f a = some t) : 0 ≤ a ∧ a < 3 ∧ Z0 (∀ w, GH w → w.cell? ⟨0, a.toNat, none⟩ = some (.int .i64 t)) := by
 unfold hang_tens.f at h
 repeat' split at h
 ·rename_i e; subst e; exact ⟨by omega, by omega, ⟨fun w hw => (Option.some.inj h) ▸ hw.c0⟩⟩
 ·rename_i e; subst e; exact ⟨by omega, by omega, ⟨fun w hw => (Option.some.inj h) ▸ hw.c1⟩⟩
 ·rename_i e; subst e; exact ⟨by omega, by omega, ⟨fun w hw => (Option.some.inj h) ▸ hw.c2⟩⟩
 ·cases h
def hang_Root.f (k : Nat) (a0_0 : Int) (a0_1 : Int) (a1 : Int) : Option (Int × Int × Int) := (hang_CheckSquare.f k a0_0 a0_1).bind fun t216 => ((hang_within.f a1 0 2).bind fun t217 => ((hang_first.f k (([t216, t217] : List Int))).bind fun t221 => (if t221 = 0 then ((hang_tens.f a1).bind fun t222 => (if a0_1 = 0 then (none) else ((hang_root.f (wrap64 (Int.tdiv (wrap64 ((wrap64 (a0_0 * t222)) * t222)) a0_1))).bind fun t223 => ((hang_ratio.f k t223 t222).bind fun bt224 => (some (bt224.1, bt224.2, 0)))))) else (some (0, 0, t221)))))
set_option maxHeartbeats 8000000 in
set_option maxRecDepth 100000 in
theorem hang_Root.calls (k : Nat) (a0_0 : Int) (a0_1 : Int) (a1 : Int) (r1 : Int) (r2 : Int) (r3 : Int) (w : World) (hG : GH w) (h : hang_Root.f k a0_0 a0_1 a1 = some (r1, r2, r3)) :
  Calls Tryd.prog 33 #[.agg #[.int .i64 a0_0, .int .i64 a0_1], .int .i64 a1] w fun e w' => e = .returned (.tuple #[.agg #[.int .i64 r1, .int .i64 r2], .int .i64 r3]) ∧ Below w.heap.size w w' := by
 have hu25 := Tryd.underlying25
 have hu23 := Tryd.underlying23
 have HB := Z0.mk (Below.refl w.heap.size w)
 have H : ((hang_CheckSquare.f k a0_0 a0_1).bind fun t216 => ((hang_within.f a1 0 2).bind fun t217 => ((hang_first.f k (([t216, t217] : List Int))).bind fun t221 => (if t221 = 0 then ((hang_tens.f a1).bind fun t222 => (if a0_1 = 0 then (none) else ((hang_root.f (wrap64 (Int.tdiv (wrap64 ((wrap64 (a0_0 * t222)) * t222)) a0_1))).bind fun t223 => ((hang_ratio.f k t223 t222).bind fun bt224 => (some (bt224.1, bt224.2, 0)))))) else (some (0, 0, t221)))))) = some (r1, r2, r3) := h
 clear h
 replace H := Option.bind_eq_some_iff.mp H
 obtain ⟨t216, A30, H⟩ := H
 try dsimp only at H
 have A3 := Z0.mk A30
 clear A30
 replace H := Option.bind_eq_some_iff.mp H
 obtain ⟨t217, A40, H⟩ := H
 try dsimp only at H
 have A4 := Z0.mk A40
 clear A40
 obtain ⟨y218, hy218⟩ : ∃ y_ : List Int, y_ = (([t216, t217] : List Int)) := ⟨_, rfl⟩
 replace H : ((hang_first.f k y218).bind fun t221 => (if t221 = 0 then ((hang_tens.f a1).bind fun t222 => (if a0_1 = 0 then (none) else ((hang_root.f (wrap64 (Int.tdiv (wrap64 ((wrap64 (a0_0 * t222)) * t222)) a0_1))).bind fun t223 => ((hang_ratio.f k t223 t222).bind fun bt224 => (some (bt224.1, bt224.2, 0)))))) else (some (0, 0, t221)))) = some (r1, r2, r3) := by first | (rw [hy218]; with_reducible exact H) | (have H2_ := (Option.bind_some _ _).symm.trans H; rw [hy218]; with_reducible exact H2_) | (have H2_ := (Option.bind_some _ _).symm.trans H; with_reducible exact H2_) | with_reducible exact H | (rw [hy218]; exact H) | exact H
 have Ny218 := Z0.mk hy218
 clear hy218
 replace H := Option.bind_eq_some_iff.mp H
 obtain ⟨t221, A50, H⟩ := H
 try dsimp only at H
 have A5 := Z0.mk A50
 clear A50
 by_cases c6 : t221 = 0
 ·rw [if_pos c6] at H
  have c6b0 : (t221 == 0) = true := beq_iff_eq.mpr c6
  have c6b1 : (t221 != 0) = false := bne_eq_false_iff_eq.mpr c6
  clear c6
  replace H := Option.bind_eq_some_iff.mp H
  obtain ⟨t222, A70, H⟩ := H
  try dsimp only at H
  have A7 := Z0.mk A70
  clear A70
  by_cases c8 : a0_1 = 0
  ·rw [if_pos c8] at H
   exact absurd H (by simp)
  ·rw [if_neg c8] at H
   have c8b0 : (a0_1 == 0) = false := beq_eq_false_iff_ne.mpr c8
   have c8b1 : (a0_1 != 0) = true := bne_iff_ne.mpr c8
   replace H := Option.bind_eq_some_iff.mp H
   obtain ⟨t223, A90, H⟩ := H
   try dsimp only at H
   have A9 := Z0.mk A90
   clear A90
   replace H := Option.bind_eq_some_iff.mp H
   obtain ⟨⟨t224, t225⟩, A100, H⟩ := H
   try dsimp only at H
   have A10 := Z0.mk A100
   clear A100
   simp only [Option.some.injEq, Prod.mk.injEq] at H
   obtain ⟨rfl, rfl, rfl⟩ := H
   obtain ⟨ha1, ha2, hT⟩ := hang_tens_cases A7.out
   all_goals
    go_enter Tryd.func33, Tryd.ntmps33
    go_wp2_with (first | ((with_reducible refine gtD (N := 2) rfl ?_); refine bxE ?hg (N := 2) ?hd (cs := #[.int .i64 a0_0, .int .i64 a0_1]) (t := 25) ?hr ?_; (case hd => rfl); (case hg => rfl); (case hr => first | (go_simp; done) | (go_simp; rfl)); intro gb214 hg w11 hbox hb; have n0_ := Z0.mk (bwT (by repeat (first | (with_reducible first | exact HB.out | apply bwA | apply bwN | apply bw1) | exact HB.out)) hb); have n1_ := Z0.mk (hbox); have n2_ := Z0.mk ((by rw [hg]; exact (bwZ (by repeat (first | (with_reducible first | exact HB.out | apply bwA | apply bwN | apply bw1) | exact HB.out))) : w.heap.size ≤ gb214)); have n3_ := Z0.mk ((by rw [hg]; exact (bwZ (by repeat (first | (with_reducible first | exact HB.out | apply bwA | apply bwN | apply bw1) | exact HB.out))) : w.heap.size ≤ gb214)); clear HB; have HB := n0_; have hgc := hT.out _ (hG.below HB.out); have BK214 := n1_; have GW214 := n2_; have GE214 := n3_; clear n0_ n1_ n2_ n3_; clear hb hbox hg) | ((with_reducible refine gtD (N := 4) rfl ?_); refine bxE ?hg (N := 4) ?hd (cs := #[.int .i64 0, .int .i64 0]) (t := 23) ?hr ?_; (case hd => rfl); (case hg => rfl); (case hr => first | (go_simp; done) | (go_simp; rfl)); intro gb215 hg w12 hbox hb; have n0_ := Z0.mk (bkB (g := gb214) (o := .cells #[.int .i64 a0_0, .int .i64 a0_1] 25 (0, 0)) (by (with_reducible repeat (first | refine bkN ?_ _ | refine bkD ?_ | refine bkA ?_ _)); exact BK214.out) hb); have n1_ := Z0.mk (bwT (by repeat (first | (with_reducible first | exact HB.out | apply bwA | apply bwN | apply bw1 | refine bwS ?_ GE214.out) | exact HB.out)) hb); have n2_ := Z0.mk (hbox); have n3_ := Z0.mk ((by rw [hg]; exact (bwZ (by repeat (first | (with_reducible first | exact HB.out | apply bwA | apply bwN | apply bw1 | refine bwS ?_ GE214.out) | exact HB.out))) : w.heap.size ≤ gb215)); have n4_ := Z0.mk ((by rw [hg]; exact (bwZ (by repeat (first | (with_reducible first | exact HB.out | apply bwA | apply bwN | apply bw1 | refine bwS ?_ GE214.out) | exact HB.out))) : w.heap.size ≤ gb215)); have n5_ := Z0.mk ((by rw [hg]; exact Nat.ne_of_lt (blk_lt (g := gb214) (o := .cells #[.int .i64 a0_0, .int .i64 a0_1] 25 (0, 0)) (by (with_reducible repeat (first | refine bkN ?_ _ | refine bkD ?_ | refine bkA ?_ _)); exact BK214.out)) : gb214 ≠ gb215)); have n6_ := Z0.mk ((by rw [hg]; exact Nat.ne_of_gt (blk_lt (g := gb214) (o := .cells #[.int .i64 a0_0, .int .i64 a0_1] 25 (0, 0)) (by (with_reducible repeat (first | refine bkN ?_ _ | refine bkD ?_ | refine bkA ?_ _)); exact BK214.out)) : gb215 ≠ gb214)); clear BK214; clear HB; have BK214 := n0_; have HB := n1_; have hgc := hT.out _ (hG.below HB.out); have BK215 := n2_; have GW215 := n3_; have GE215 := n4_; have NB214_215 := n5_; have NB215_214 := n6_; clear n0_ n1_ n2_ n3_ n4_ n5_ n6_; clear hb hbox hg; have hnb13 := NB214_215.out; have hnc13 := NB215_214.out; have hcz14_0 : w12.cell? ⟨gb214, 0, none⟩ = some (.int .i64 a0_0) := (bkC BK214.out 0).trans rfl; have hcz14_1 : w12.cell? ⟨gb214, 1, none⟩ = some (.int .i64 a0_1) := (bkC BK214.out 1).trans rfl; have hfz14_0 := bkZ BK214.out 0; have hfz14_1 := bkZ BK214.out 1) | ((with_reducible refine gtC (f := 20) rfl ?_); refine goesL_ (some 9) rfl rfl Tryd.func20 (by kernel_rfl) rfl #[.agg #[.int .i64 a0_0, .int .i64 a0_1]] rfl (by (try simp only [List.map_toArray, List.map_cons, List.map_nil]) <;> rfl) ?_; (with_reducible refine (hang_CheckSquare.calls k a0_0 a0_1 t216 _ A3.out).mono ?_); rintro e w15 ⟨rfl, hb⟩; refine ⟨_, rfl, ?_⟩; have n0_ := Z0.mk (bkB (g := gb214) (o := .cells #[.int .i64 a0_0, .int .i64 a0_1] 25 (0, 0)) (by (with_reducible repeat (first | refine bkN ?_ _ | refine bkD ?_ | refine bkA ?_ _)); exact BK214.out) hb); have n1_ := Z0.mk (bkB (g := gb215) (o := .cells #[.int .i64 0, .int .i64 0] 23 (0, 0)) (by (with_reducible repeat (first | refine bkN ?_ _ | refine bkD ?_ | refine bkA ?_ _)); exact BK215.out) hb); have n2_ := Z0.mk (bwT (by repeat (first | (with_reducible first | exact HB.out | apply bwA | apply bwN | apply bw1 | refine bwS ?_ GE214.out | refine bwS ?_ GE215.out) | exact HB.out)) hb); clear BK214; clear BK215; clear HB; have BK214 := n0_; have BK215 := n1_; have HB := n2_; have hgc := hT.out _ (hG.below HB.out); clear n0_ n1_ n2_; (try clear hb); (try clear hb2); (try clear hk); (try clear hi)) | ((with_reducible refine gtC (f := 73) rfl ?_); refine goesL_ (some 11) rfl rfl Tryd.func73 (by kernel_rfl) rfl #[.int .i64 a1, .int .i64 0, .int .i64 2] rfl (by (try simp only [List.map_toArray, List.map_cons, List.map_nil]) <;> rfl) ?_; (with_reducible refine (hang_within.calls a1 0 2 t217 _ A4.out).mono ?_); rintro e w' ⟨rfl, ⟨nd, rfl⟩⟩; refine ⟨_, rfl, ?_⟩; (try (rw [drewN_self w15]; generalize hq_ : World.drewN w15 _ = w15; have n0_ : Z0 (w15.heap[gb214]? = some (.cells #[.int .i64 a0_0, .int .i64 a0_1] 25 (0, 0))) := ⟨by rw [← hq_]; exact (by (with_reducible repeat (first | refine bkN ?_ _ | refine bkD ?_ | refine bkA ?_ _)); exact BK214.out)⟩; have n1_ : Z0 (w15.heap[gb215]? = some (.cells #[.int .i64 0, .int .i64 0] 23 (0, 0))) := ⟨by rw [← hq_]; exact (by (with_reducible repeat (first | refine bkN ?_ _ | refine bkD ?_ | refine bkA ?_ _)); exact BK215.out)⟩; have n2_ : Z0 (Below w.heap.size w w15) := ⟨by rw [← hq_]; exact (by repeat (first | (with_reducible first | exact HB.out | apply bwA | apply bwN | apply bw1 | refine bwS ?_ GE214.out | refine bwS ?_ GE215.out) | exact HB.out))⟩; clear BK214 BK215 HB hq_; have BK214 := n0_; have BK215 := n1_; have HB := n2_; have hgc := hT.out _ (hG.below HB.out); clear n0_ n1_ n2_))) | ((with_reducible refine gtD (N := 12) rfl ?_); refine Kd.R_lit (Kd.int .i64) _ 26 ?hg (N := 12) ?hd (xs := ([t216, t217] : List Int)) (inner := [.int .i64 t216, .int .i64 t217]) (ok := fun _ => True) (okp := fun _ => True) ?hr ?hp (fun _ hk => hk) trivial (Below.refl _ _) (Nat.le_refl _) (by simp) ?_; (case hd => rfl); (case hg => rfl); (case hr => first | (go_simp; done) | (go_simp; rfl)); (case hp => exact (Reps.one (show Kd.M (Kd.int .i64) _ _ _ t216 [.int .i64 t216] from rfl) (Reps.one (show Kd.M (Kd.int .i64) _ _ _ t217 [.int .i64 t217] from rfl) (Reps.none _ _)))); intro v219 w16 ho17 hb hg_ hnew_; clear hg_ hnew_; (first | rw [← Ny218.out] at ho17 | (simp only [Int.reduceToNat] at ho17; rw [← Ny218.out] at ho17)); have n0_ := Z0.mk (Kd.R_lower ho17 (bwZ (by repeat (first | (with_reducible first | exact HB.out | apply bwA | apply bwN | apply bw1 | refine bwS ?_ GE214.out | refine bwS ?_ GE215.out) | exact HB.out)))); have n1_ := Z0.mk (bkB (g := gb214) (o := .cells #[.int .i64 a0_0, .int .i64 a0_1] 25 (0, 0)) (by (with_reducible repeat (first | refine bkN ?_ _ | refine bkD ?_ | refine bkA ?_ _)); exact BK214.out) hb); have n2_ := Z0.mk (bkB (g := gb215) (o := .cells #[.int .i64 0, .int .i64 0] 23 (0, 0)) (by (with_reducible repeat (first | refine bkN ?_ _ | refine bkD ?_ | refine bkA ?_ _)); exact BK215.out) hb); have n3_ := Z0.mk (bwT (by repeat (first | (with_reducible first | exact HB.out | apply bwA | apply bwN | apply bw1 | refine bwS ?_ GE214.out | refine bwS ?_ GE215.out) | exact HB.out)) hb); clear BK214; clear BK215; clear HB; have HO220 := n0_; have BK214 := n1_; have BK215 := n2_; have HB := n3_; have hgc := hT.out _ (hG.below HB.out); clear n0_ n1_ n2_ n3_; clear hb ho17; obtain ⟨Ao18, co18, eo18⟩ := Kd.R_slice HO220.out; subst eo18) | ((with_reducible refine gtC (f := 72) rfl ?_); refine goesL_ (some 13) rfl rfl Tryd.func72 (by kernel_rfl) rfl #[.slice Ao18 y218.length co18] rfl (by (try simp only [List.map_toArray, List.map_cons, List.map_nil]) <;> rfl) ?_; (with_reducible refine (hang_first.calls k _ _ y218 t221 _ ?side1 ?side2 A5.out).mono ?_); (case side1 => repeat (first | exact (Kd.R_reads' HO220.out).2.2 | (with_reducible refine Kd.C_alloc ?_ _) | (with_reducible refine Kd.C_drewN ?_ _) | (with_reducible refine Kd.C_drew ?_))); (case side2 => exact (Kd.R_reads' HO220.out).2.1); rintro e w' ⟨rfl, ⟨nd, rfl⟩⟩; refine ⟨_, rfl, ?_⟩; (try (rw [drewN_self w16]; generalize hq_ : World.drewN w16 _ = w16; have n0_ : Z0 (Kd.R (Kd.int .i64) 26 w16 w.heap.size (fun _ => True) (.slice Ao18 y218.length co18) y218) := ⟨by rw [← hq_]; exact (by (with_reducible repeat (first | apply Kd.R_alloc | apply Kd.R_drewN | apply Kd.R_drew)); exact HO220.out)⟩; have n1_ : Z0 (w16.heap[gb214]? = some (.cells #[.int .i64 a0_0, .int .i64 a0_1] 25 (0, 0))) := ⟨by rw [← hq_]; exact (by (with_reducible repeat (first | refine bkN ?_ _ | refine bkD ?_ | refine bkA ?_ _)); exact BK214.out)⟩; have n2_ : Z0 (w16.heap[gb215]? = some (.cells #[.int .i64 0, .int .i64 0] 23 (0, 0))) := ⟨by rw [← hq_]; exact (by (with_reducible repeat (first | refine bkN ?_ _ | refine bkD ?_ | refine bkA ?_ _)); exact BK215.out)⟩; have n3_ : Z0 (Below w.heap.size w w16) := ⟨by rw [← hq_]; exact (by repeat (first | (with_reducible first | exact HB.out | apply bwA | apply bwN | apply bw1 | refine bwS ?_ GE214.out | refine bwS ?_ GE215.out) | exact HB.out))⟩; clear HO220 BK214 BK215 HB hq_; have HO220 := n0_; have BK214 := n1_; have BK215 := n2_; have HB := n3_; have hgc := hT.out _ (hG.below HB.out); clear n0_ n1_ n2_ n3_)); have hcz19_0 : w16.cell? ⟨gb214, 0, none⟩ = some (.int .i64 a0_0) := (bkC BK214.out 0).trans rfl; have hcz19_1 : w16.cell? ⟨gb214, 1, none⟩ = some (.int .i64 a0_1) := (bkC BK214.out 1).trans rfl; have hfz19_0 := bkZ BK214.out 0; have hfz19_1 := bkZ BK214.out 1) | ((with_reducible refine gtC (f := 81) rfl ?_); refine goesL_ (some 30) rfl rfl Tryd.func81 (by kernel_rfl) rfl #[.int .i64 (wrap64 (Int.tdiv (wrap64 ((wrap64 (a0_0 * t222)) * t222)) a0_1))] rfl (by (try simp only [List.map_toArray, List.map_cons, List.map_nil]) <;> rfl) ?_; (with_reducible refine (hang_root.calls (wrap64 (Int.tdiv (wrap64 ((wrap64 (a0_0 * t222)) * t222)) a0_1)) t223 _ A9.out).mono ?_); rintro e w' ⟨rfl, ⟨nd, rfl⟩⟩; refine ⟨_, rfl, ?_⟩; (try (rw [drewN_self w16]; generalize hq_ : World.drewN w16 _ = w16; have n0_ : Z0 (Kd.R (Kd.int .i64) 26 w16 w.heap.size (fun _ => True) (.slice Ao18 y218.length co18) y218) := ⟨by rw [← hq_]; exact (by (with_reducible repeat (first | apply Kd.R_alloc | apply Kd.R_drewN | apply Kd.R_drew)); exact HO220.out)⟩; have n1_ : Z0 (w16.heap[gb214]? = some (.cells #[.int .i64 a0_0, .int .i64 a0_1] 25 (0, 0))) := ⟨by rw [← hq_]; exact (by (with_reducible repeat (first | refine bkN ?_ _ | refine bkD ?_ | refine bkA ?_ _)); exact BK214.out)⟩; have n2_ : Z0 (w16.heap[gb215]? = some (.cells #[.int .i64 0, .int .i64 0] 23 (0, 0))) := ⟨by rw [← hq_]; exact (by (with_reducible repeat (first | refine bkN ?_ _ | refine bkD ?_ | refine bkA ?_ _)); exact BK215.out)⟩; have n3_ : Z0 (Below w.heap.size w w16) := ⟨by rw [← hq_]; exact (by repeat (first | (with_reducible first | exact HB.out | apply bwA | apply bwN | apply bw1 | refine bwS ?_ GE214.out | refine bwS ?_ GE215.out) | exact HB.out))⟩; clear HO220 BK214 BK215 HB hq_; have HO220 := n0_; have BK214 := n1_; have BK215 := n2_; have HB := n3_; have hgc := hT.out _ (hG.below HB.out); clear n0_ n1_ n2_ n3_))) | ((with_reducible refine gtC (f := 75) rfl ?_); refine goesL_ (some 32) rfl rfl Tryd.func75 (by kernel_rfl) rfl #[.int .i64 t223, .int .i64 t222] rfl (by (try simp only [List.map_toArray, List.map_cons, List.map_nil]) <;> rfl) ?_; (with_reducible refine (hang_ratio.calls k t223 t222 t224 t225 _ A10.out).mono ?_); rintro e w20 ⟨rfl, hb⟩; refine ⟨_, rfl, ?_⟩; have n0_ := Z0.mk (Kd.R_below (by (with_reducible repeat (first | apply Kd.R_alloc | apply Kd.R_drewN | apply Kd.R_drew)); exact HO220.out) hb); have n1_ := Z0.mk (bkB (g := gb214) (o := .cells #[.int .i64 a0_0, .int .i64 a0_1] 25 (0, 0)) (by (with_reducible repeat (first | refine bkN ?_ _ | refine bkD ?_ | refine bkA ?_ _)); exact BK214.out) hb); have n2_ := Z0.mk (bkB (g := gb215) (o := .cells #[.int .i64 0, .int .i64 0] 23 (0, 0)) (by (with_reducible repeat (first | refine bkN ?_ _ | refine bkD ?_ | refine bkA ?_ _)); exact BK215.out) hb); have n3_ := Z0.mk (bwT (by repeat (first | (with_reducible first | exact HB.out | apply bwA | apply bwN | apply bw1 | refine bwS ?_ GE214.out | refine bwS ?_ GE215.out) | exact HB.out)) hb); clear HO220; clear BK214; clear BK215; clear HB; have HO220 := n0_; have BK214 := n1_; have BK215 := n2_; have HB := n3_; have hgc := hT.out _ (hG.below HB.out); clear n0_ n1_ n2_ n3_; (try clear hb); (try clear hb2); (try clear hk); (try clear hi); have hcz21_0 : w20.cell? ⟨gb215, 0, none⟩ = some (.int .i64 0) := (bkC BK215.out 0).trans rfl; have hcz21_1 : w20.cell? ⟨gb215, 1, none⟩ = some (.int .i64 0) := (bkC BK215.out 1).trans rfl; have hfz21_0 := bkZ BK215.out 0; have hfz21_1 := bkZ BK215.out 1))
    refine bodyPost_ret (results_ct rfl _ _ gb215 23 #[.int .i64 t224, .int .i64 t225] (0, 0) _ rfl (by (with_reducible repeat (first | refine bkN ?_ _ | refine bkD ?_ | refine bkA ?_ _)); refine bkP (cs := #[.int .i64 t224, .int .i64 0]) ?_ 1 _ rfl; (with_reducible repeat (first | refine bkN ?_ _ | refine bkD ?_ | refine bkA ?_ _)); refine bkP (cs := #[.int .i64 0, .int .i64 0]) ?_ 0 _ rfl; (with_reducible repeat (first | refine bkN ?_ _ | refine bkD ?_ | refine bkA ?_ _)); exact BK215.out) Tryd.underlying23 rfl (by kernel_rfl)) rfl ?_
    exact ⟨by first | rfl | (simp [errW_none, errW_some] <;> rfl) | (simp [*, errW_none, errW_some] <;> rfl), by repeat (first | (with_reducible first | exact HB.out | apply bwA | apply bwN | apply bw1 | refine bwS ?_ GE214.out | refine bwS ?_ GE215.out) | exact HB.out)⟩
 ·rw [if_neg c6] at H
  have c6b0 : (t221 == 0) = false := beq_eq_false_iff_ne.mpr c6
  have c6b1 : (t221 != 0) = true := bne_iff_ne.mpr c6
  simp only [Option.some.injEq, Prod.mk.injEq] at H
  obtain ⟨rfl, rfl, rfl⟩ := H
  go_enter Tryd.func33, Tryd.ntmps33
  go_wp2_with (first | ((with_reducible refine gtD (N := 2) rfl ?_); refine bxE ?hg (N := 2) ?hd (cs := #[.int .i64 a0_0, .int .i64 a0_1]) (t := 25) ?hr ?_; (case hd => rfl); (case hg => rfl); (case hr => first | (go_simp; done) | (go_simp; rfl)); intro gb214 hg w22 hbox hb; have n0_ := Z0.mk (bwT (by repeat (first | (with_reducible first | exact HB.out | apply bwA | apply bwN | apply bw1) | exact HB.out)) hb); have n1_ := Z0.mk (hbox); have n2_ := Z0.mk ((by rw [hg]; exact (bwZ (by repeat (first | (with_reducible first | exact HB.out | apply bwA | apply bwN | apply bw1) | exact HB.out))) : w.heap.size ≤ gb214)); have n3_ := Z0.mk ((by rw [hg]; exact (bwZ (by repeat (first | (with_reducible first | exact HB.out | apply bwA | apply bwN | apply bw1) | exact HB.out))) : w.heap.size ≤ gb214)); clear HB; have HB := n0_; have BK214 := n1_; have GW214 := n2_; have GE214 := n3_; clear n0_ n1_ n2_ n3_; clear hb hbox hg) | ((with_reducible refine gtD (N := 4) rfl ?_); refine bxE ?hg (N := 4) ?hd (cs := #[.int .i64 0, .int .i64 0]) (t := 23) ?hr ?_; (case hd => rfl); (case hg => rfl); (case hr => first | (go_simp; done) | (go_simp; rfl)); intro gb215 hg w23 hbox hb; have n0_ := Z0.mk (bkB (g := gb214) (o := .cells #[.int .i64 a0_0, .int .i64 a0_1] 25 (0, 0)) (by (with_reducible repeat (first | refine bkN ?_ _ | refine bkD ?_ | refine bkA ?_ _)); exact BK214.out) hb); have n1_ := Z0.mk (bwT (by repeat (first | (with_reducible first | exact HB.out | apply bwA | apply bwN | apply bw1 | refine bwS ?_ GE214.out) | exact HB.out)) hb); have n2_ := Z0.mk (hbox); have n3_ := Z0.mk ((by rw [hg]; exact (bwZ (by repeat (first | (with_reducible first | exact HB.out | apply bwA | apply bwN | apply bw1 | refine bwS ?_ GE214.out) | exact HB.out))) : w.heap.size ≤ gb215)); have n4_ := Z0.mk ((by rw [hg]; exact (bwZ (by repeat (first | (with_reducible first | exact HB.out | apply bwA | apply bwN | apply bw1 | refine bwS ?_ GE214.out) | exact HB.out))) : w.heap.size ≤ gb215)); have n5_ := Z0.mk ((by rw [hg]; exact Nat.ne_of_lt (blk_lt (g := gb214) (o := .cells #[.int .i64 a0_0, .int .i64 a0_1] 25 (0, 0)) (by (with_reducible repeat (first | refine bkN ?_ _ | refine bkD ?_ | refine bkA ?_ _)); exact BK214.out)) : gb214 ≠ gb215)); have n6_ := Z0.mk ((by rw [hg]; exact Nat.ne_of_gt (blk_lt (g := gb214) (o := .cells #[.int .i64 a0_0, .int .i64 a0_1] 25 (0, 0)) (by (with_reducible repeat (first | refine bkN ?_ _ | refine bkD ?_ | refine bkA ?_ _)); exact BK214.out)) : gb215 ≠ gb214)); clear BK214; clear HB; have BK214 := n0_; have HB := n1_; have BK215 := n2_; have GW215 := n3_; have GE215 := n4_; have NB214_215 := n5_; have NB215_214 := n6_; clear n0_ n1_ n2_ n3_ n4_ n5_ n6_; clear hb hbox hg; have hnb24 := NB214_215.out; have hnc24 := NB215_214.out; have hcz25_0 : w23.cell? ⟨gb214, 0, none⟩ = some (.int .i64 a0_0) := (bkC BK214.out 0).trans rfl; have hcz25_1 : w23.cell? ⟨gb214, 1, none⟩ = some (.int .i64 a0_1) := (bkC BK214.out 1).trans rfl; have hfz25_0 := bkZ BK214.out 0; have hfz25_1 := bkZ BK214.out 1) | ((with_reducible refine gtC (f := 20) rfl ?_); refine goesL_ (some 9) rfl rfl Tryd.func20 (by kernel_rfl) rfl #[.agg #[.int .i64 a0_0, .int .i64 a0_1]] rfl (by (try simp only [List.map_toArray, List.map_cons, List.map_nil]) <;> rfl) ?_; (with_reducible refine (hang_CheckSquare.calls k a0_0 a0_1 t216 _ A3.out).mono ?_); rintro e w26 ⟨rfl, hb⟩; refine ⟨_, rfl, ?_⟩; have n0_ := Z0.mk (bkB (g := gb214) (o := .cells #[.int .i64 a0_0, .int .i64 a0_1] 25 (0, 0)) (by (with_reducible repeat (first | refine bkN ?_ _ | refine bkD ?_ | refine bkA ?_ _)); exact BK214.out) hb); have n1_ := Z0.mk (bkB (g := gb215) (o := .cells #[.int .i64 0, .int .i64 0] 23 (0, 0)) (by (with_reducible repeat (first | refine bkN ?_ _ | refine bkD ?_ | refine bkA ?_ _)); exact BK215.out) hb); have n2_ := Z0.mk (bwT (by repeat (first | (with_reducible first | exact HB.out | apply bwA | apply bwN | apply bw1 | refine bwS ?_ GE214.out | refine bwS ?_ GE215.out) | exact HB.out)) hb); clear BK214; clear BK215; clear HB; have BK214 := n0_; have BK215 := n1_; have HB := n2_; clear n0_ n1_ n2_; (try clear hb); (try clear hb2); (try clear hk); (try clear hi)) | ((with_reducible refine gtC (f := 73) rfl ?_); refine goesL_ (some 11) rfl rfl Tryd.func73 (by kernel_rfl) rfl #[.int .i64 a1, .int .i64 0, .int .i64 2] rfl (by (try simp only [List.map_toArray, List.map_cons, List.map_nil]) <;> rfl) ?_; (with_reducible refine (hang_within.calls a1 0 2 t217 _ A4.out).mono ?_); rintro e w' ⟨rfl, ⟨nd, rfl⟩⟩; refine ⟨_, rfl, ?_⟩; (try (rw [drewN_self w26]; generalize hq_ : World.drewN w26 _ = w26; have n0_ : Z0 (w26.heap[gb214]? = some (.cells #[.int .i64 a0_0, .int .i64 a0_1] 25 (0, 0))) := ⟨by rw [← hq_]; exact (by (with_reducible repeat (first | refine bkN ?_ _ | refine bkD ?_ | refine bkA ?_ _)); exact BK214.out)⟩; have n1_ : Z0 (w26.heap[gb215]? = some (.cells #[.int .i64 0, .int .i64 0] 23 (0, 0))) := ⟨by rw [← hq_]; exact (by (with_reducible repeat (first | refine bkN ?_ _ | refine bkD ?_ | refine bkA ?_ _)); exact BK215.out)⟩; have n2_ : Z0 (Below w.heap.size w w26) := ⟨by rw [← hq_]; exact (by repeat (first | (with_reducible first | exact HB.out | apply bwA | apply bwN | apply bw1 | refine bwS ?_ GE214.out | refine bwS ?_ GE215.out) | exact HB.out))⟩; clear BK214 BK215 HB hq_; have BK214 := n0_; have BK215 := n1_; have HB := n2_; clear n0_ n1_ n2_))) | ((with_reducible refine gtD (N := 12) rfl ?_); refine Kd.R_lit (Kd.int .i64) _ 26 ?hg (N := 12) ?hd (xs := ([t216, t217] : List Int)) (inner := [.int .i64 t216, .int .i64 t217]) (ok := fun _ => True) (okp := fun _ => True) ?hr ?hp (fun _ hk => hk) trivial (Below.refl _ _) (Nat.le_refl _) (by simp) ?_; (case hd => rfl); (case hg => rfl); (case hr => first | (go_simp; done) | (go_simp; rfl)); (case hp => exact (Reps.one (show Kd.M (Kd.int .i64) _ _ _ t216 [.int .i64 t216] from rfl) (Reps.one (show Kd.M (Kd.int .i64) _ _ _ t217 [.int .i64 t217] from rfl) (Reps.none _ _)))); intro v219 w27 ho28 hb hg_ hnew_; clear hg_ hnew_; (first | rw [← Ny218.out] at ho28 | (simp only [Int.reduceToNat] at ho28; rw [← Ny218.out] at ho28)); have n0_ := Z0.mk (Kd.R_lower ho28 (bwZ (by repeat (first | (with_reducible first | exact HB.out | apply bwA | apply bwN | apply bw1 | refine bwS ?_ GE214.out | refine bwS ?_ GE215.out) | exact HB.out)))); have n1_ := Z0.mk (bkB (g := gb214) (o := .cells #[.int .i64 a0_0, .int .i64 a0_1] 25 (0, 0)) (by (with_reducible repeat (first | refine bkN ?_ _ | refine bkD ?_ | refine bkA ?_ _)); exact BK214.out) hb); have n2_ := Z0.mk (bkB (g := gb215) (o := .cells #[.int .i64 0, .int .i64 0] 23 (0, 0)) (by (with_reducible repeat (first | refine bkN ?_ _ | refine bkD ?_ | refine bkA ?_ _)); exact BK215.out) hb); have n3_ := Z0.mk (bwT (by repeat (first | (with_reducible first | exact HB.out | apply bwA | apply bwN | apply bw1 | refine bwS ?_ GE214.out | refine bwS ?_ GE215.out) | exact HB.out)) hb); clear BK214; clear BK215; clear HB; have HO220 := n0_; have BK214 := n1_; have BK215 := n2_; have HB := n3_; clear n0_ n1_ n2_ n3_; clear hb ho28; obtain ⟨Ao29, co29, eo29⟩ := Kd.R_slice HO220.out; subst eo29) | ((with_reducible refine gtC (f := 72) rfl ?_); refine goesL_ (some 13) rfl rfl Tryd.func72 (by kernel_rfl) rfl #[.slice Ao29 y218.length co29] rfl (by (try simp only [List.map_toArray, List.map_cons, List.map_nil]) <;> rfl) ?_; (with_reducible refine (hang_first.calls k _ _ y218 t221 _ ?side1 ?side2 A5.out).mono ?_); (case side1 => repeat (first | exact (Kd.R_reads' HO220.out).2.2 | (with_reducible refine Kd.C_alloc ?_ _) | (with_reducible refine Kd.C_drewN ?_ _) | (with_reducible refine Kd.C_drew ?_))); (case side2 => exact (Kd.R_reads' HO220.out).2.1); rintro e w' ⟨rfl, ⟨nd, rfl⟩⟩; refine ⟨_, rfl, ?_⟩; (try (rw [drewN_self w27]; generalize hq_ : World.drewN w27 _ = w27; have n0_ : Z0 (Kd.R (Kd.int .i64) 26 w27 w.heap.size (fun _ => True) (.slice Ao29 y218.length co29) y218) := ⟨by rw [← hq_]; exact (by (with_reducible repeat (first | apply Kd.R_alloc | apply Kd.R_drewN | apply Kd.R_drew)); exact HO220.out)⟩; have n1_ : Z0 (w27.heap[gb214]? = some (.cells #[.int .i64 a0_0, .int .i64 a0_1] 25 (0, 0))) := ⟨by rw [← hq_]; exact (by (with_reducible repeat (first | refine bkN ?_ _ | refine bkD ?_ | refine bkA ?_ _)); exact BK214.out)⟩; have n2_ : Z0 (w27.heap[gb215]? = some (.cells #[.int .i64 0, .int .i64 0] 23 (0, 0))) := ⟨by rw [← hq_]; exact (by (with_reducible repeat (first | refine bkN ?_ _ | refine bkD ?_ | refine bkA ?_ _)); exact BK215.out)⟩; have n3_ : Z0 (Below w.heap.size w w27) := ⟨by rw [← hq_]; exact (by repeat (first | (with_reducible first | exact HB.out | apply bwA | apply bwN | apply bw1 | refine bwS ?_ GE214.out | refine bwS ?_ GE215.out) | exact HB.out))⟩; clear HO220 BK214 BK215 HB hq_; have HO220 := n0_; have BK214 := n1_; have BK215 := n2_; have HB := n3_; clear n0_ n1_ n2_ n3_)); have hcz30_0 : w27.cell? ⟨gb215, 0, none⟩ = some (.int .i64 0) := (bkC BK215.out 0).trans rfl; have hcz30_1 : w27.cell? ⟨gb215, 1, none⟩ = some (.int .i64 0) := (bkC BK215.out 1).trans rfl; have hfz30_0 := bkZ BK215.out 0; have hfz30_1 := bkZ BK215.out 1))
  refine bodyPost_ret (results_ct rfl _ _ gb215 23 #[.int .i64 0, .int .i64 0] (0, 0) _ rfl (by (with_reducible repeat (first | refine bkN ?_ _ | refine bkD ?_ | refine bkA ?_ _)); refine bkP (cs := #[.int .i64 0, .int .i64 0]) ?_ 1 _ rfl; (with_reducible repeat (first | refine bkN ?_ _ | refine bkD ?_ | refine bkA ?_ _)); refine bkP (cs := #[.int .i64 0, .int .i64 0]) ?_ 0 _ rfl; (with_reducible repeat (first | refine bkN ?_ _ | refine bkD ?_ | refine bkA ?_ _)); exact BK215.out) Tryd.underlying23 rfl (by kernel_rfl)) rfl ?_
  exact ⟨by first | rfl | (simp [errW_none, errW_some] <;> rfl) | (simp [*, errW_none, errW_some] <;> rfl), by repeat (first | (with_reducible first | exact HB.out | apply bwA | apply bwN | apply bw1 | refine bwS ?_ GE214.out | refine bwS ?_ GE215.out) | exact HB.out)⟩
end Go.Proofs.YtppighiaffppkaaDoor.H
end
section
namespace Go.Proofs.YtppighiaffppkaaDoor.H
open Go.RowKit Go.Proofs.YtppighiaffppkaaDoorW.PrintWords Go.Proofs.YtppighiaffppkaaDoorW.PrintLast Go.Proofs.YtppighiaffppkaaDoorW.PrintMore
attribute [local go_sem] max2_int min2_int max_two min_two max_three min_three max_four min_four
set_option linter.unusedVariables false
set_option linter.unusedSimpArgs false
mutual
def hang_Fullest.l0 : Nat → Int → Int → Int → Int → Option (Int × Int × Int)
 | 0, _, _, _, _ => none
 | k + 1, x0, x6, x217000, x217001 => if x6 ≤ x0 then (hang_Fullest.l1 k x0 x6 1 x217000 x217001) else (some (x217000, x217001, 0))
def hang_Fullest.l1 : Nat → Int → Int → Int → Int → Int → Option (Int × Int × Int)
 | 0, _, _, _, _, _ => none
 | k + 1, x0, x6, x7, x217000, x217001 => if x7 ≤ x6 then ((hang_CheckRatio.f k x7 x6).bind fun t218 => (if t218 = 0 then ((hang_fullness.f k x217000 x217001).bind fun bt219 => ((hang_fullness.f k x7 x6).bind fun bt221 => ((hang_Square_compare.f bt219.1 bt219.2 bt221.1 bt221.2).bind fun t223 => (if t223 < 0 then (hang_Fullest.l1 k x0 x6 (wrap64 (x7 + 1)) x7 x6) else (if t223 = 0 then (if (wrap64 (x7 * x217001)) < (wrap64 (x217000 * x6)) then (hang_Fullest.l1 k x0 x6 (wrap64 (x7 + 1)) x7 x6) else (hang_Fullest.l1 k x0 x6 (wrap64 (x7 + 1)) x217000 x217001)) else (hang_Fullest.l1 k x0 x6 (wrap64 (x7 + 1)) x217000 x217001)))))) else (hang_Fullest.l1 k x0 x6 (wrap64 (x7 + 1)) x217000 x217001))) else (hang_Fullest.l0 k x0 (wrap64 (x6 + 1)) x217000 x217001)
end
def hang_Fullest.f (k : Nat) (a0 : Int) : Option (Int × Int × Int) := (hang_within.f a0 1 30).bind fun t215 => (if t215 = 0 then (hang_Fullest.l0 k a0 1 1 1) else (some (0, 0, t215)))
set_option maxHeartbeats 8000000 in
set_option maxRecDepth 100000 in
theorem hang_Fullest.calls (k : Nat) (a0 : Int) (r1 : Int) (r2 : Int) (r3 : Int) (w : World) (h : hang_Fullest.f k a0 = some (r1, r2, r3)) :
  Calls Tryd.prog 34 #[.int .i64 a0] w fun e w' => e = .returned (.tuple #[.agg #[.int .i64 r1, .int .i64 r2], .int .i64 r3]) ∧ Below w.heap.size w w' := by
 have hu23 := Tryd.underlying23
 have HB := Z0.mk (Below.refl w.heap.size w)
 have H : ((hang_within.f a0 1 30).bind fun t215 => (if t215 = 0 then (hang_Fullest.l0 k a0 1 1 1) else (some (0, 0, t215)))) = some (r1, r2, r3) := h
 clear h
 replace H := Option.bind_eq_some_iff.mp H
 obtain ⟨t215, A20, H⟩ := H
 try dsimp only at H
 have A2 := Z0.mk A20
 clear A20
 by_cases c3 : t215 = 0
 ·rw [if_pos c3] at H
  have c3b0 : (t215 == 0) = true := beq_iff_eq.mpr c3
  have c3b1 : (t215 != 0) = false := bne_eq_false_iff_eq.mpr c3
  clear c3
  have H' := Z0.mk H
  clear H
  go_enter Tryd.func34, Tryd.ntmps34
  go_wp2_with (first | ((with_reducible refine gtD (N := 2) rfl ?_); refine bxE ?hg (N := 2) ?hd (cs := #[.int .i64 0, .int .i64 0]) (t := 23) ?hr ?_; (case hd => rfl); (case hg => rfl); (case hr => first | (go_simp; done) | (go_simp; rfl)); intro gb214 hg w4 hbox hb; have n0_ := Z0.mk (bwT (by repeat (first | (with_reducible first | exact HB.out | apply bwA | apply bwN | apply bw1) | exact HB.out)) hb); have n1_ := Z0.mk (hbox); have n2_ := Z0.mk ((by rw [hg]; exact (bwZ (by repeat (first | (with_reducible first | exact HB.out | apply bwA | apply bwN | apply bw1) | exact HB.out))) : w.heap.size ≤ gb214)); have n3_ := Z0.mk ((by rw [hg]; exact (bwZ (by repeat (first | (with_reducible first | exact HB.out | apply bwA | apply bwN | apply bw1) | exact HB.out))) : w.heap.size ≤ gb214)); clear HB; have HB := n0_; have BK214 := n1_; have GW214 := n2_; have GE214 := n3_; clear n0_ n1_ n2_ n3_; clear hb hbox hg) | ((with_reducible refine gtC (f := 73) rfl ?_); refine goesL_ (some 12) rfl rfl Tryd.func73 (by kernel_rfl) rfl #[.int .i64 a0, .int .i64 1, .int .i64 30] rfl (by (try simp only [List.map_toArray, List.map_cons, List.map_nil]) <;> rfl) ?_; (with_reducible refine (hang_within.calls a0 1 30 t215 _ A2.out).mono ?_); rintro e w' ⟨rfl, ⟨nd, rfl⟩⟩; refine ⟨_, rfl, ?_⟩; (try (rw [drewN_self w4]; generalize hq_ : World.drewN w4 _ = w4; have n0_ : Z0 (w4.heap[gb214]? = some (.cells #[.int .i64 0, .int .i64 0] 23 (0, 0))) := ⟨by rw [← hq_]; exact (by (with_reducible repeat (first | refine bkN ?_ _ | refine bkD ?_ | refine bkA ?_ _)); exact BK214.out)⟩; have n1_ : Z0 (Below w.heap.size w w4) := ⟨by rw [← hq_]; exact (by repeat (first | (with_reducible first | exact HB.out | apply bwA | apply bwN | apply bw1 | refine bwS ?_ GE214.out) | exact HB.out))⟩; clear BK214 HB hq_; have BK214 := n0_; have HB := n1_; clear n0_ n1_))) | ((with_reducible refine gtD (N := 5) rfl ?_); refine bxE ?hg (N := 5) ?hd (cs := #[.int .i64 0, .int .i64 0]) (t := 23) ?hr ?_; (case hd => rfl); (case hg => rfl); (case hr => first | (go_simp; done) | (go_simp; rfl)); intro gb216 hg w5 hbox hb; have n0_ := Z0.mk (bkB (g := gb214) (o := .cells #[.int .i64 0, .int .i64 0] 23 (0, 0)) (by (with_reducible repeat (first | refine bkN ?_ _ | refine bkD ?_ | refine bkA ?_ _)); exact BK214.out) hb); have n1_ := Z0.mk (bwT (by repeat (first | (with_reducible first | exact HB.out | apply bwA | apply bwN | apply bw1 | refine bwS ?_ GE214.out) | exact HB.out)) hb); have n2_ := Z0.mk (hbox); have n3_ := Z0.mk ((by rw [hg]; exact (bwZ (by repeat (first | (with_reducible first | exact HB.out | apply bwA | apply bwN | apply bw1 | refine bwS ?_ GE214.out) | exact HB.out))) : w.heap.size ≤ gb216)); have n4_ := Z0.mk ((by rw [hg]; exact (bwZ (by repeat (first | (with_reducible first | exact HB.out | apply bwA | apply bwN | apply bw1 | refine bwS ?_ GE214.out) | exact HB.out))) : w.heap.size ≤ gb216)); have n5_ := Z0.mk ((by rw [hg]; exact Nat.ne_of_lt (blk_lt (g := gb214) (o := .cells #[.int .i64 0, .int .i64 0] 23 (0, 0)) (by (with_reducible repeat (first | refine bkN ?_ _ | refine bkD ?_ | refine bkA ?_ _)); exact BK214.out)) : gb214 ≠ gb216)); have n6_ := Z0.mk ((by rw [hg]; exact Nat.ne_of_gt (blk_lt (g := gb214) (o := .cells #[.int .i64 0, .int .i64 0] 23 (0, 0)) (by (with_reducible repeat (first | refine bkN ?_ _ | refine bkD ?_ | refine bkA ?_ _)); exact BK214.out)) : gb216 ≠ gb214)); clear BK214; clear HB; have BK214 := n0_; have HB := n1_; have BK216 := n2_; have GW216 := n3_; have GE216 := n4_; have NB214_216 := n5_; have NB216_214 := n6_; clear n0_ n1_ n2_ n3_ n4_ n5_ n6_; clear hb hbox hg; have hnb6 := NB216_214.out; have hnc6 := NB214_216.out; have hcz7_0 : w5.cell? ⟨gb216, 0, none⟩ = some (.int .i64 0) := (bkC BK216.out 0).trans rfl; have hcz7_1 : w5.cell? ⟨gb216, 1, none⟩ = some (.int .i64 0) := (bkC BK216.out 1).trans rfl; have hfz7_0 := bkZ BK216.out 0; have hfz7_1 := bkZ BK216.out 1))
  go_loopg [6] k (fun kq v6 w' => ∃ (x6_1 : Int) (x217000_1 : Int) (x217001_1 : Int), v6 = .int .i64 x6_1 ∧ Z0 (hang_Fullest.l0 kq a0 x6_1 x217000_1 x217001_1 = some (r1, r2, r3)) ∧ Z0 (kq ≤ k) ∧ Z0 (w'.heap[gb214]? = some (.cells #[.int .i64 0, .int .i64 0] 23 (0, 0))) ∧ Z0 (w'.heap[gb216]? = some (.cells #[.int .i64 x217000_1, .int .i64 x217001_1] 23 (0, 0))) ∧ Z0 (Below w.heap.size w w'))
  case atStart => exact ⟨(1), (1), (1), (by first | rfl | (simp; done) | (simp [*]; done)), H', ⟨Nat.le_refl _⟩, ⟨by (with_reducible repeat (first | refine bkN ?_ _ | refine bkD ?_ | refine bkA ?_ _)); refine bkF ?_ NB214_216.out _; (with_reducible repeat (first | refine bkN ?_ _ | refine bkD ?_ | refine bkA ?_ _)); refine bkF ?_ NB214_216.out _; (with_reducible repeat (first | refine bkN ?_ _ | refine bkD ?_ | refine bkA ?_ _)); exact BK214.out⟩, ⟨by (with_reducible repeat (first | refine bkN ?_ _ | refine bkD ?_ | refine bkA ?_ _)); refine bkP (cs := #[.int .i64 1, .int .i64 0]) ?_ 1 _ rfl; (with_reducible repeat (first | refine bkN ?_ _ | refine bkD ?_ | refine bkA ?_ _)); refine bkP (cs := #[.int .i64 0, .int .i64 0]) ?_ 0 _ rfl; (with_reducible repeat (first | refine bkN ?_ _ | refine bkD ?_ | refine bkA ?_ _)); exact BK216.out⟩, ⟨by repeat (first | (with_reducible first | exact HB.out | apply bwA | apply bwN | apply bw1 | refine bwS ?_ GE214.out | refine bwS ?_ GE216.out) | exact HB.out)⟩⟩
  case round =>
   clear H'
   try clear p2
   try clear c3
   try clear c3b0
   try clear c3b1
   try clear c6
   try clear c7
   try clear hcz7_0
   try clear hcz7_1
   try clear hfz7_0
   try clear hfz7_1
   obtain ⟨x6_1, x217000_1, x217001_1, rfl, HA, HK1, BK214, BK216, HB⟩ := hrel
   cases gk with
   | zero => exact absurd HA.out (by simp [hang_Fullest.l0])
   | succ k1 =>
    have H := HA.out
    clear HA
    simp only [hang_Fullest.l0] at H
    by_cases c8 : x6_1 ≤ a0
    ·rw [if_pos c8] at H
     have c8b0 : decide (x6_1 ≤ a0) = true := decide_eq_true c8
     clear c8
     have H' := Z0.mk H
     clear H
     go_wp2
     go_loopg [7] k1 (fun kq v7 w' => ∃ (x7_2 : Int) (x217000_2 : Int) (x217001_2 : Int), v7 = .int .i64 x7_2 ∧ Z0 (hang_Fullest.l1 kq a0 x6_1 x7_2 x217000_2 x217001_2 = some (r1, r2, r3)) ∧ Z0 (kq ≤ k1) ∧ Z0 (w'.heap[gb214]? = some (.cells #[.int .i64 0, .int .i64 0] 23 (0, 0))) ∧ Z0 (w'.heap[gb216]? = some (.cells #[.int .i64 x217000_2, .int .i64 x217001_2] 23 (0, 0))) ∧ Z0 (Below w.heap.size w w'))
     case atStart => exact ⟨(1), (x217000_1), (x217001_1), (by first | rfl | (simp; done) | (simp [*]; done)), H', ⟨Nat.le_refl _⟩, ⟨by (with_reducible repeat (first | refine bkN ?_ _ | refine bkD ?_ | refine bkA ?_ _)); exact BK214.out⟩, ⟨by (with_reducible repeat (first | refine bkN ?_ _ | refine bkD ?_ | refine bkA ?_ _)); exact BK216.out⟩, ⟨by repeat (first | (with_reducible first | exact HB.out | apply bwA | apply bwN | apply bw1 | refine bwS ?_ GE214.out | refine bwS ?_ GE216.out) | exact HB.out)⟩⟩
     case round =>
      clear H'
      try clear p2
      try clear c3
      try clear c3b0
      try clear c3b1
      try clear c6
      try clear c7
      try clear c8
      try clear c8b0
      try clear hcz7_0
      try clear hcz7_1
      try clear hfz7_0
      try clear hfz7_1
      try clear p2
      obtain ⟨x7_2, x217000_2, x217001_2, rfl, HA, HK2, BK214, BK216, HB⟩ := hrel
      cases gk with
      | zero => exact absurd HA.out (by simp [hang_Fullest.l1])
      | succ k2 =>
       have H := HA.out
       clear HA
       simp only [hang_Fullest.l1] at H
       by_cases c9 : x7_2 ≤ x6_1
       ·rw [if_pos c9] at H
        have c9b0 : decide (x7_2 ≤ x6_1) = true := decide_eq_true c9
        clear c9
        replace H := Option.bind_eq_some_iff.mp H
        obtain ⟨t218, A100, H⟩ := H
        try dsimp only at H
        have A10 := Z0.mk A100
        clear A100
        by_cases c11 : t218 = 0
        ·rw [if_pos c11] at H
         have c11b0 : (t218 == 0) = true := beq_iff_eq.mpr c11
         have c11b1 : (t218 != 0) = false := bne_eq_false_iff_eq.mpr c11
         clear c11
         replace H := Option.bind_eq_some_iff.mp H
         obtain ⟨⟨t219, t220⟩, A120, H⟩ := H
         try dsimp only at H
         have A12 := Z0.mk A120
         clear A120
         replace H := Option.bind_eq_some_iff.mp H
         obtain ⟨⟨t221, t222⟩, A130, H⟩ := H
         try dsimp only at H
         have A13 := Z0.mk A130
         clear A130
         replace H := Option.bind_eq_some_iff.mp H
         obtain ⟨t223, A140, H⟩ := H
         try dsimp only at H
         have A14 := Z0.mk A140
         clear A140
         by_cases c15 : t223 < 0
         ·rw [if_pos c15] at H
          have c15b0 : decide (t223 < 0) = true := decide_eq_true c15
          clear c15
          have H' := Z0.mk H
          clear H
          go_wp2_with (first | ((with_reducible refine gtD (N := 8) rfl ?_); refine bxE ?hg (N := 8) ?hd (cs := #[.int .i64 0, .int .i64 0]) (t := 23) ?hr ?_; (case hd => rfl); (case hg => rfl); (case hr => first | (go_simp; done) | (go_simp; rfl)); intro gb217 hg w16 hbox hb; have n0_ := Z0.mk (bkB (g := gb214) (o := .cells #[.int .i64 0, .int .i64 0] 23 (0, 0)) (by (with_reducible repeat (first | refine bkN ?_ _ | refine bkD ?_ | refine bkA ?_ _)); exact BK214.out) hb); have n1_ := Z0.mk (bkB (g := gb216) (o := .cells #[.int .i64 x217000_2, .int .i64 x217001_2] 23 (0, 0)) (by (with_reducible repeat (first | refine bkN ?_ _ | refine bkD ?_ | refine bkA ?_ _)); exact BK216.out) hb); have n2_ := Z0.mk (bwT (by repeat (first | (with_reducible first | exact HB.out | apply bwA | apply bwN | apply bw1 | refine bwS ?_ GE214.out | refine bwS ?_ GE216.out) | exact HB.out)) hb); have n3_ := Z0.mk (hbox); have n4_ := Z0.mk ((by rw [hg]; exact (bwZ (by repeat (first | (with_reducible first | exact HB.out | apply bwA | apply bwN | apply bw1 | refine bwS ?_ GE214.out | refine bwS ?_ GE216.out) | exact HB.out))) : w.heap.size ≤ gb217)); have n5_ := Z0.mk ((by rw [hg]; exact (bwZ (by repeat (first | (with_reducible first | exact HB.out | apply bwA | apply bwN | apply bw1 | refine bwS ?_ GE214.out | refine bwS ?_ GE216.out) | exact HB.out))) : w.heap.size ≤ gb217)); have n6_ := Z0.mk ((by rw [hg]; exact Nat.ne_of_lt (blk_lt (g := gb214) (o := .cells #[.int .i64 0, .int .i64 0] 23 (0, 0)) (by (with_reducible repeat (first | refine bkN ?_ _ | refine bkD ?_ | refine bkA ?_ _)); exact BK214.out)) : gb214 ≠ gb217)); have n7_ := Z0.mk ((by rw [hg]; exact Nat.ne_of_gt (blk_lt (g := gb214) (o := .cells #[.int .i64 0, .int .i64 0] 23 (0, 0)) (by (with_reducible repeat (first | refine bkN ?_ _ | refine bkD ?_ | refine bkA ?_ _)); exact BK214.out)) : gb217 ≠ gb214)); have n8_ := Z0.mk ((by rw [hg]; exact Nat.ne_of_lt (blk_lt (g := gb216) (o := .cells #[.int .i64 x217000_2, .int .i64 x217001_2] 23 (0, 0)) (by (with_reducible repeat (first | refine bkN ?_ _ | refine bkD ?_ | refine bkA ?_ _)); exact BK216.out)) : gb216 ≠ gb217)); have n9_ := Z0.mk ((by rw [hg]; exact Nat.ne_of_gt (blk_lt (g := gb216) (o := .cells #[.int .i64 x217000_2, .int .i64 x217001_2] 23 (0, 0)) (by (with_reducible repeat (first | refine bkN ?_ _ | refine bkD ?_ | refine bkA ?_ _)); exact BK216.out)) : gb217 ≠ gb216)); clear BK214; clear BK216; clear HB; have BK214 := n0_; have BK216 := n1_; have HB := n2_; have BK217 := n3_; have GW217 := n4_; have GE217 := n5_; have NB214_217 := n6_; have NB217_214 := n7_; have NB216_217 := n8_; have NB217_216 := n9_; clear n0_ n1_ n2_ n3_ n4_ n5_ n6_ n7_ n8_ n9_; clear hb hbox hg; have hnb17 := NB217_214.out; have hnc17 := NB214_217.out; have hnb18 := NB217_216.out; have hnc18 := NB216_217.out; have hcz19_0 : w16.cell? ⟨gb217, 0, none⟩ = some (.int .i64 0) := (bkC BK217.out 0).trans rfl; have hcz19_1 : w16.cell? ⟨gb217, 1, none⟩ = some (.int .i64 0) := (bkC BK217.out 1).trans rfl; have hfz19_0 := bkZ BK217.out 0; have hfz19_1 := bkZ BK217.out 1) | ((with_reducible refine gtC (f := 19) rfl ?_); refine goesL_ (some 32) rfl rfl Tryd.func19 (by kernel_rfl) rfl #[.agg #[.int .i64 x7_2, .int .i64 x6_1]] rfl (by (try simp only [List.map_toArray, List.map_cons, List.map_nil]) <;> rfl) ?_; (with_reducible refine (hang_CheckRatio.calls k2 x7_2 x6_1 t218 _ A10.out).mono ?_); rintro e w20 ⟨rfl, hb⟩; refine ⟨_, rfl, ?_⟩; have n0_ := Z0.mk (bkB (g := gb214) (o := .cells #[.int .i64 0, .int .i64 0] 23 (0, 0)) (by (with_reducible repeat (first | refine bkN ?_ _ | refine bkD ?_ | refine bkA ?_ _)); refine bkF ?_ NB214_217.out _; (with_reducible repeat (first | refine bkN ?_ _ | refine bkD ?_ | refine bkA ?_ _)); refine bkF ?_ NB214_217.out _; (with_reducible repeat (first | refine bkN ?_ _ | refine bkD ?_ | refine bkA ?_ _)); exact BK214.out) hb); have n1_ := Z0.mk (bkB (g := gb216) (o := .cells #[.int .i64 x217000_2, .int .i64 x217001_2] 23 (0, 0)) (by (with_reducible repeat (first | refine bkN ?_ _ | refine bkD ?_ | refine bkA ?_ _)); refine bkF ?_ NB216_217.out _; (with_reducible repeat (first | refine bkN ?_ _ | refine bkD ?_ | refine bkA ?_ _)); refine bkF ?_ NB216_217.out _; (with_reducible repeat (first | refine bkN ?_ _ | refine bkD ?_ | refine bkA ?_ _)); exact BK216.out) hb); have n2_ := Z0.mk (bkB (g := gb217) (o := .cells #[.int .i64 x7_2, .int .i64 x6_1] 23 (0, 0)) (by (with_reducible repeat (first | refine bkN ?_ _ | refine bkD ?_ | refine bkA ?_ _)); refine bkP (cs := #[.int .i64 x7_2, .int .i64 0]) ?_ 1 _ rfl; (with_reducible repeat (first | refine bkN ?_ _ | refine bkD ?_ | refine bkA ?_ _)); refine bkP (cs := #[.int .i64 0, .int .i64 0]) ?_ 0 _ rfl; (with_reducible repeat (first | refine bkN ?_ _ | refine bkD ?_ | refine bkA ?_ _)); exact BK217.out) hb); have n3_ := Z0.mk (bwT (by repeat (first | (with_reducible first | exact HB.out | apply bwA | apply bwN | apply bw1 | refine bwS ?_ GE214.out | refine bwS ?_ GE216.out | refine bwS ?_ GE217.out) | exact HB.out)) hb); clear BK214; clear BK216; clear BK217; clear HB; have BK214 := n0_; have BK216 := n1_; have BK217 := n2_; have HB := n3_; clear n0_ n1_ n2_ n3_; (try clear hb); (try clear hb2); (try clear hk); (try clear hi); have hnb21 := NB216_214.out; have hnc21 := NB214_216.out; have hcz22_0 : w20.cell? ⟨gb216, 0, none⟩ = some (.int .i64 x217000_2) := (bkC BK216.out 0).trans rfl; have hcz22_1 : w20.cell? ⟨gb216, 1, none⟩ = some (.int .i64 x217001_2) := (bkC BK216.out 1).trans rfl; have hfz22_0 := bkZ BK216.out 0; have hfz22_1 := bkZ BK216.out 1) | ((with_reducible refine gtC (f := 70) rfl ?_); refine goesL_ (some 35) rfl rfl Tryd.func70 (by kernel_rfl) rfl #[.agg #[.int .i64 x217000_2, .int .i64 x217001_2]] rfl (by (try simp only [List.map_toArray, List.map_cons, List.map_nil]) <;> rfl) ?_; (with_reducible refine (hang_fullness.calls k2 x217000_2 x217001_2 t219 t220 _ A12.out).mono ?_); rintro e w23 ⟨rfl, hb⟩; refine ⟨_, rfl, ?_⟩; have n0_ := Z0.mk (bkB (g := gb214) (o := .cells #[.int .i64 0, .int .i64 0] 23 (0, 0)) (by (with_reducible repeat (first | refine bkN ?_ _ | refine bkD ?_ | refine bkA ?_ _)); exact BK214.out) hb); have n1_ := Z0.mk (bkB (g := gb216) (o := .cells #[.int .i64 x217000_2, .int .i64 x217001_2] 23 (0, 0)) (by (with_reducible repeat (first | refine bkN ?_ _ | refine bkD ?_ | refine bkA ?_ _)); exact BK216.out) hb); have n2_ := Z0.mk (bkB (g := gb217) (o := .cells #[.int .i64 x7_2, .int .i64 x6_1] 23 (0, 0)) (by (with_reducible repeat (first | refine bkN ?_ _ | refine bkD ?_ | refine bkA ?_ _)); exact BK217.out) hb); have n3_ := Z0.mk (bwT (by repeat (first | (with_reducible first | exact HB.out | apply bwA | apply bwN | apply bw1 | refine bwS ?_ GE214.out | refine bwS ?_ GE216.out | refine bwS ?_ GE217.out) | exact HB.out)) hb); clear BK214; clear BK216; clear BK217; clear HB; have BK214 := n0_; have BK216 := n1_; have BK217 := n2_; have HB := n3_; clear n0_ n1_ n2_ n3_; (try clear hb); (try clear hb2); (try clear hk); (try clear hi); have hcz24_0 : w23.cell? ⟨gb217, 0, none⟩ = some (.int .i64 x7_2) := (bkC BK217.out 0).trans rfl; have hcz24_1 : w23.cell? ⟨gb217, 1, none⟩ = some (.int .i64 x6_1) := (bkC BK217.out 1).trans rfl; have hfz24_0 := bkZ BK217.out 0; have hfz24_1 := bkZ BK217.out 1) | ((with_reducible refine gtC (f := 70) rfl ?_); refine goesL_ (some 39) rfl rfl Tryd.func70 (by kernel_rfl) rfl #[.agg #[.int .i64 x7_2, .int .i64 x6_1]] rfl (by (try simp only [List.map_toArray, List.map_cons, List.map_nil]) <;> rfl) ?_; (with_reducible refine (hang_fullness.calls k2 x7_2 x6_1 t221 t222 _ A13.out).mono ?_); rintro e w25 ⟨rfl, hb⟩; refine ⟨_, rfl, ?_⟩; have n0_ := Z0.mk (bkB (g := gb214) (o := .cells #[.int .i64 0, .int .i64 0] 23 (0, 0)) (by (with_reducible repeat (first | refine bkN ?_ _ | refine bkD ?_ | refine bkA ?_ _)); exact BK214.out) hb); have n1_ := Z0.mk (bkB (g := gb216) (o := .cells #[.int .i64 x217000_2, .int .i64 x217001_2] 23 (0, 0)) (by (with_reducible repeat (first | refine bkN ?_ _ | refine bkD ?_ | refine bkA ?_ _)); exact BK216.out) hb); have n2_ := Z0.mk (bkB (g := gb217) (o := .cells #[.int .i64 x7_2, .int .i64 x6_1] 23 (0, 0)) (by (with_reducible repeat (first | refine bkN ?_ _ | refine bkD ?_ | refine bkA ?_ _)); exact BK217.out) hb); have n3_ := Z0.mk (bwT (by repeat (first | (with_reducible first | exact HB.out | apply bwA | apply bwN | apply bw1 | refine bwS ?_ GE214.out | refine bwS ?_ GE216.out | refine bwS ?_ GE217.out) | exact HB.out)) hb); clear BK214; clear BK216; clear BK217; clear HB; have BK214 := n0_; have BK216 := n1_; have BK217 := n2_; have HB := n3_; clear n0_ n1_ n2_ n3_; (try clear hb); (try clear hb2); (try clear hk); (try clear hi)) | (go_at_call 80; (with_reducible refine (hang_Square_compare.calls t219 t220 t221 t222 t223 _ A14.out).mono ?_); rintro e w26 ⟨rfl, hb⟩; have n0_ := Z0.mk (bkB (g := gb214) (o := .cells #[.int .i64 0, .int .i64 0] 23 (0, 0)) (by (with_reducible repeat (first | refine bkN ?_ _ | refine bkD ?_ | refine bkA ?_ _)); exact BK214.out) hb); have n1_ := Z0.mk (bkB (g := gb216) (o := .cells #[.int .i64 x217000_2, .int .i64 x217001_2] 23 (0, 0)) (by (with_reducible repeat (first | refine bkN ?_ _ | refine bkD ?_ | refine bkA ?_ _)); exact BK216.out) hb); have n2_ := Z0.mk (bkB (g := gb217) (o := .cells #[.int .i64 x7_2, .int .i64 x6_1] 23 (0, 0)) (by (with_reducible repeat (first | refine bkN ?_ _ | refine bkD ?_ | refine bkA ?_ _)); exact BK217.out) hb); have n3_ := Z0.mk (bwT (by repeat (first | (with_reducible first | exact HB.out | apply bwA | apply bwN | apply bw1 | refine bwS ?_ GE214.out | refine bwS ?_ GE216.out | refine bwS ?_ GE217.out) | exact HB.out)) hb); clear BK214; clear BK216; clear BK217; clear HB; have BK214 := n0_; have BK216 := n1_; have BK217 := n2_; have HB := n3_; clear n0_ n1_ n2_ n3_; (try clear hb); (try clear hb2); (try clear hk); (try clear hi); have hcz27_0 : w26.cell? ⟨gb217, 0, none⟩ = some (.int .i64 x7_2) := (bkC BK217.out 0).trans rfl; have hcz27_1 : w26.cell? ⟨gb217, 1, none⟩ = some (.int .i64 x6_1) := (bkC BK217.out 1).trans rfl; have hfz27_0 := bkZ BK217.out 0; have hfz27_1 := bkZ BK217.out 1; have hcz28_0 : w26.cell? ⟨gb216, 0, none⟩ = some (.int .i64 x217000_2) := (bkC BK216.out 0).trans rfl; have hcz28_1 : w26.cell? ⟨gb216, 1, none⟩ = some (.int .i64 x217001_2) := (bkC BK216.out 1).trans rfl; have hfz28_0 := bkZ BK216.out 0; have hfz28_1 := bkZ BK216.out 1))
          go_roundg k2
          case measure => have := HK1.out; have := HK2.out; omega
          case rel => exact ⟨(wrap64 (x7_2 + 1)), (x7_2), (x6_1), (by first | rfl | (simp; done) | (simp [*]; done)), H', ⟨by have := HK1.out; have := HK2.out; omega⟩, ⟨by (with_reducible repeat (first | refine bkN ?_ _ | refine bkD ?_ | refine bkA ?_ _)); refine bkF ?_ NB214_216.out _; (with_reducible repeat (first | refine bkN ?_ _ | refine bkD ?_ | refine bkA ?_ _)); refine bkF ?_ NB214_216.out _; (with_reducible repeat (first | refine bkN ?_ _ | refine bkD ?_ | refine bkA ?_ _)); exact BK214.out⟩, ⟨by (with_reducible repeat (first | refine bkN ?_ _ | refine bkD ?_ | refine bkA ?_ _)); refine bkP (cs := #[.int .i64 x7_2, .int .i64 x217001_2]) ?_ 1 _ rfl; (with_reducible repeat (first | refine bkN ?_ _ | refine bkD ?_ | refine bkA ?_ _)); refine bkP (cs := #[.int .i64 x217000_2, .int .i64 x217001_2]) ?_ 0 _ rfl; (with_reducible repeat (first | refine bkN ?_ _ | refine bkD ?_ | refine bkA ?_ _)); exact BK216.out⟩, ⟨by repeat (first | (with_reducible first | exact HB.out | apply bwA | apply bwN | apply bw1 | refine bwS ?_ GE214.out | refine bwS ?_ GE216.out | refine bwS ?_ GE217.out) | exact HB.out)⟩⟩
         ·rw [if_neg c15] at H
          have c15b0 : decide (t223 < 0) = false := decide_eq_false c15
          clear c15
          by_cases c29 : t223 = 0
          ·rw [if_pos c29] at H
           have c29b0 : (t223 == 0) = true := beq_iff_eq.mpr c29
           have c29b1 : (t223 != 0) = false := bne_eq_false_iff_eq.mpr c29
           clear c29
           by_cases c30 : (wrap64 (x7_2 * x217001_2)) < (wrap64 (x217000_2 * x6_1))
           ·rw [if_pos c30] at H
            have c30b0 : decide ((wrap64 (x7_2 * x217001_2)) < (wrap64 (x217000_2 * x6_1))) = true := decide_eq_true c30
            clear c30
            have H' := Z0.mk H
            clear H
            go_wp2_with (first | ((with_reducible refine gtD (N := 8) rfl ?_); refine bxE ?hg (N := 8) ?hd (cs := #[.int .i64 0, .int .i64 0]) (t := 23) ?hr ?_; (case hd => rfl); (case hg => rfl); (case hr => first | (go_simp; done) | (go_simp; rfl)); intro gb217 hg w31 hbox hb; have n0_ := Z0.mk (bkB (g := gb214) (o := .cells #[.int .i64 0, .int .i64 0] 23 (0, 0)) (by (with_reducible repeat (first | refine bkN ?_ _ | refine bkD ?_ | refine bkA ?_ _)); exact BK214.out) hb); have n1_ := Z0.mk (bkB (g := gb216) (o := .cells #[.int .i64 x217000_2, .int .i64 x217001_2] 23 (0, 0)) (by (with_reducible repeat (first | refine bkN ?_ _ | refine bkD ?_ | refine bkA ?_ _)); exact BK216.out) hb); have n2_ := Z0.mk (bwT (by repeat (first | (with_reducible first | exact HB.out | apply bwA | apply bwN | apply bw1 | refine bwS ?_ GE214.out | refine bwS ?_ GE216.out) | exact HB.out)) hb); have n3_ := Z0.mk (hbox); have n4_ := Z0.mk ((by rw [hg]; exact (bwZ (by repeat (first | (with_reducible first | exact HB.out | apply bwA | apply bwN | apply bw1 | refine bwS ?_ GE214.out | refine bwS ?_ GE216.out) | exact HB.out))) : w.heap.size ≤ gb217)); have n5_ := Z0.mk ((by rw [hg]; exact (bwZ (by repeat (first | (with_reducible first | exact HB.out | apply bwA | apply bwN | apply bw1 | refine bwS ?_ GE214.out | refine bwS ?_ GE216.out) | exact HB.out))) : w.heap.size ≤ gb217)); have n6_ := Z0.mk ((by rw [hg]; exact Nat.ne_of_lt (blk_lt (g := gb214) (o := .cells #[.int .i64 0, .int .i64 0] 23 (0, 0)) (by (with_reducible repeat (first | refine bkN ?_ _ | refine bkD ?_ | refine bkA ?_ _)); exact BK214.out)) : gb214 ≠ gb217)); have n7_ := Z0.mk ((by rw [hg]; exact Nat.ne_of_gt (blk_lt (g := gb214) (o := .cells #[.int .i64 0, .int .i64 0] 23 (0, 0)) (by (with_reducible repeat (first | refine bkN ?_ _ | refine bkD ?_ | refine bkA ?_ _)); exact BK214.out)) : gb217 ≠ gb214)); have n8_ := Z0.mk ((by rw [hg]; exact Nat.ne_of_lt (blk_lt (g := gb216) (o := .cells #[.int .i64 x217000_2, .int .i64 x217001_2] 23 (0, 0)) (by (with_reducible repeat (first | refine bkN ?_ _ | refine bkD ?_ | refine bkA ?_ _)); exact BK216.out)) : gb216 ≠ gb217)); have n9_ := Z0.mk ((by rw [hg]; exact Nat.ne_of_gt (blk_lt (g := gb216) (o := .cells #[.int .i64 x217000_2, .int .i64 x217001_2] 23 (0, 0)) (by (with_reducible repeat (first | refine bkN ?_ _ | refine bkD ?_ | refine bkA ?_ _)); exact BK216.out)) : gb217 ≠ gb216)); clear BK214; clear BK216; clear HB; have BK214 := n0_; have BK216 := n1_; have HB := n2_; have BK217 := n3_; have GW217 := n4_; have GE217 := n5_; have NB214_217 := n6_; have NB217_214 := n7_; have NB216_217 := n8_; have NB217_216 := n9_; clear n0_ n1_ n2_ n3_ n4_ n5_ n6_ n7_ n8_ n9_; clear hb hbox hg; have hnb32 := NB217_214.out; have hnc32 := NB214_217.out; have hnb33 := NB217_216.out; have hnc33 := NB216_217.out; have hcz34_0 : w31.cell? ⟨gb217, 0, none⟩ = some (.int .i64 0) := (bkC BK217.out 0).trans rfl; have hcz34_1 : w31.cell? ⟨gb217, 1, none⟩ = some (.int .i64 0) := (bkC BK217.out 1).trans rfl; have hfz34_0 := bkZ BK217.out 0; have hfz34_1 := bkZ BK217.out 1) | ((with_reducible refine gtC (f := 19) rfl ?_); refine goesL_ (some 32) rfl rfl Tryd.func19 (by kernel_rfl) rfl #[.agg #[.int .i64 x7_2, .int .i64 x6_1]] rfl (by (try simp only [List.map_toArray, List.map_cons, List.map_nil]) <;> rfl) ?_; (with_reducible refine (hang_CheckRatio.calls k2 x7_2 x6_1 t218 _ A10.out).mono ?_); rintro e w35 ⟨rfl, hb⟩; refine ⟨_, rfl, ?_⟩; have n0_ := Z0.mk (bkB (g := gb214) (o := .cells #[.int .i64 0, .int .i64 0] 23 (0, 0)) (by (with_reducible repeat (first | refine bkN ?_ _ | refine bkD ?_ | refine bkA ?_ _)); refine bkF ?_ NB214_217.out _; (with_reducible repeat (first | refine bkN ?_ _ | refine bkD ?_ | refine bkA ?_ _)); refine bkF ?_ NB214_217.out _; (with_reducible repeat (first | refine bkN ?_ _ | refine bkD ?_ | refine bkA ?_ _)); exact BK214.out) hb); have n1_ := Z0.mk (bkB (g := gb216) (o := .cells #[.int .i64 x217000_2, .int .i64 x217001_2] 23 (0, 0)) (by (with_reducible repeat (first | refine bkN ?_ _ | refine bkD ?_ | refine bkA ?_ _)); refine bkF ?_ NB216_217.out _; (with_reducible repeat (first | refine bkN ?_ _ | refine bkD ?_ | refine bkA ?_ _)); refine bkF ?_ NB216_217.out _; (with_reducible repeat (first | refine bkN ?_ _ | refine bkD ?_ | refine bkA ?_ _)); exact BK216.out) hb); have n2_ := Z0.mk (bkB (g := gb217) (o := .cells #[.int .i64 x7_2, .int .i64 x6_1] 23 (0, 0)) (by (with_reducible repeat (first | refine bkN ?_ _ | refine bkD ?_ | refine bkA ?_ _)); refine bkP (cs := #[.int .i64 x7_2, .int .i64 0]) ?_ 1 _ rfl; (with_reducible repeat (first | refine bkN ?_ _ | refine bkD ?_ | refine bkA ?_ _)); refine bkP (cs := #[.int .i64 0, .int .i64 0]) ?_ 0 _ rfl; (with_reducible repeat (first | refine bkN ?_ _ | refine bkD ?_ | refine bkA ?_ _)); exact BK217.out) hb); have n3_ := Z0.mk (bwT (by repeat (first | (with_reducible first | exact HB.out | apply bwA | apply bwN | apply bw1 | refine bwS ?_ GE214.out | refine bwS ?_ GE216.out | refine bwS ?_ GE217.out) | exact HB.out)) hb); clear BK214; clear BK216; clear BK217; clear HB; have BK214 := n0_; have BK216 := n1_; have BK217 := n2_; have HB := n3_; clear n0_ n1_ n2_ n3_; (try clear hb); (try clear hb2); (try clear hk); (try clear hi); have hnb36 := NB216_214.out; have hnc36 := NB214_216.out; have hcz37_0 : w35.cell? ⟨gb216, 0, none⟩ = some (.int .i64 x217000_2) := (bkC BK216.out 0).trans rfl; have hcz37_1 : w35.cell? ⟨gb216, 1, none⟩ = some (.int .i64 x217001_2) := (bkC BK216.out 1).trans rfl; have hfz37_0 := bkZ BK216.out 0; have hfz37_1 := bkZ BK216.out 1) | ((with_reducible refine gtC (f := 70) rfl ?_); refine goesL_ (some 35) rfl rfl Tryd.func70 (by kernel_rfl) rfl #[.agg #[.int .i64 x217000_2, .int .i64 x217001_2]] rfl (by (try simp only [List.map_toArray, List.map_cons, List.map_nil]) <;> rfl) ?_; (with_reducible refine (hang_fullness.calls k2 x217000_2 x217001_2 t219 t220 _ A12.out).mono ?_); rintro e w38 ⟨rfl, hb⟩; refine ⟨_, rfl, ?_⟩; have n0_ := Z0.mk (bkB (g := gb214) (o := .cells #[.int .i64 0, .int .i64 0] 23 (0, 0)) (by (with_reducible repeat (first | refine bkN ?_ _ | refine bkD ?_ | refine bkA ?_ _)); exact BK214.out) hb); have n1_ := Z0.mk (bkB (g := gb216) (o := .cells #[.int .i64 x217000_2, .int .i64 x217001_2] 23 (0, 0)) (by (with_reducible repeat (first | refine bkN ?_ _ | refine bkD ?_ | refine bkA ?_ _)); exact BK216.out) hb); have n2_ := Z0.mk (bkB (g := gb217) (o := .cells #[.int .i64 x7_2, .int .i64 x6_1] 23 (0, 0)) (by (with_reducible repeat (first | refine bkN ?_ _ | refine bkD ?_ | refine bkA ?_ _)); exact BK217.out) hb); have n3_ := Z0.mk (bwT (by repeat (first | (with_reducible first | exact HB.out | apply bwA | apply bwN | apply bw1 | refine bwS ?_ GE214.out | refine bwS ?_ GE216.out | refine bwS ?_ GE217.out) | exact HB.out)) hb); clear BK214; clear BK216; clear BK217; clear HB; have BK214 := n0_; have BK216 := n1_; have BK217 := n2_; have HB := n3_; clear n0_ n1_ n2_ n3_; (try clear hb); (try clear hb2); (try clear hk); (try clear hi); have hcz39_0 : w38.cell? ⟨gb217, 0, none⟩ = some (.int .i64 x7_2) := (bkC BK217.out 0).trans rfl; have hcz39_1 : w38.cell? ⟨gb217, 1, none⟩ = some (.int .i64 x6_1) := (bkC BK217.out 1).trans rfl; have hfz39_0 := bkZ BK217.out 0; have hfz39_1 := bkZ BK217.out 1) | ((with_reducible refine gtC (f := 70) rfl ?_); refine goesL_ (some 39) rfl rfl Tryd.func70 (by kernel_rfl) rfl #[.agg #[.int .i64 x7_2, .int .i64 x6_1]] rfl (by (try simp only [List.map_toArray, List.map_cons, List.map_nil]) <;> rfl) ?_; (with_reducible refine (hang_fullness.calls k2 x7_2 x6_1 t221 t222 _ A13.out).mono ?_); rintro e w40 ⟨rfl, hb⟩; refine ⟨_, rfl, ?_⟩; have n0_ := Z0.mk (bkB (g := gb214) (o := .cells #[.int .i64 0, .int .i64 0] 23 (0, 0)) (by (with_reducible repeat (first | refine bkN ?_ _ | refine bkD ?_ | refine bkA ?_ _)); exact BK214.out) hb); have n1_ := Z0.mk (bkB (g := gb216) (o := .cells #[.int .i64 x217000_2, .int .i64 x217001_2] 23 (0, 0)) (by (with_reducible repeat (first | refine bkN ?_ _ | refine bkD ?_ | refine bkA ?_ _)); exact BK216.out) hb); have n2_ := Z0.mk (bkB (g := gb217) (o := .cells #[.int .i64 x7_2, .int .i64 x6_1] 23 (0, 0)) (by (with_reducible repeat (first | refine bkN ?_ _ | refine bkD ?_ | refine bkA ?_ _)); exact BK217.out) hb); have n3_ := Z0.mk (bwT (by repeat (first | (with_reducible first | exact HB.out | apply bwA | apply bwN | apply bw1 | refine bwS ?_ GE214.out | refine bwS ?_ GE216.out | refine bwS ?_ GE217.out) | exact HB.out)) hb); clear BK214; clear BK216; clear BK217; clear HB; have BK214 := n0_; have BK216 := n1_; have BK217 := n2_; have HB := n3_; clear n0_ n1_ n2_ n3_; (try clear hb); (try clear hb2); (try clear hk); (try clear hi)) | (go_at_call 80; (with_reducible refine (hang_Square_compare.calls t219 t220 t221 t222 t223 _ A14.out).mono ?_); rintro e w41 ⟨rfl, hb⟩; have n0_ := Z0.mk (bkB (g := gb214) (o := .cells #[.int .i64 0, .int .i64 0] 23 (0, 0)) (by (with_reducible repeat (first | refine bkN ?_ _ | refine bkD ?_ | refine bkA ?_ _)); exact BK214.out) hb); have n1_ := Z0.mk (bkB (g := gb216) (o := .cells #[.int .i64 x217000_2, .int .i64 x217001_2] 23 (0, 0)) (by (with_reducible repeat (first | refine bkN ?_ _ | refine bkD ?_ | refine bkA ?_ _)); exact BK216.out) hb); have n2_ := Z0.mk (bkB (g := gb217) (o := .cells #[.int .i64 x7_2, .int .i64 x6_1] 23 (0, 0)) (by (with_reducible repeat (first | refine bkN ?_ _ | refine bkD ?_ | refine bkA ?_ _)); exact BK217.out) hb); have n3_ := Z0.mk (bwT (by repeat (first | (with_reducible first | exact HB.out | apply bwA | apply bwN | apply bw1 | refine bwS ?_ GE214.out | refine bwS ?_ GE216.out | refine bwS ?_ GE217.out) | exact HB.out)) hb); clear BK214; clear BK216; clear BK217; clear HB; have BK214 := n0_; have BK216 := n1_; have BK217 := n2_; have HB := n3_; clear n0_ n1_ n2_ n3_; (try clear hb); (try clear hb2); (try clear hk); (try clear hi); have hcz42_0 : w41.cell? ⟨gb217, 0, none⟩ = some (.int .i64 x7_2) := (bkC BK217.out 0).trans rfl; have hcz42_1 : w41.cell? ⟨gb217, 1, none⟩ = some (.int .i64 x6_1) := (bkC BK217.out 1).trans rfl; have hfz42_0 := bkZ BK217.out 0; have hfz42_1 := bkZ BK217.out 1; have hcz43_0 : w41.cell? ⟨gb216, 0, none⟩ = some (.int .i64 x217000_2) := (bkC BK216.out 0).trans rfl; have hcz43_1 : w41.cell? ⟨gb216, 1, none⟩ = some (.int .i64 x217001_2) := (bkC BK216.out 1).trans rfl; have hfz43_0 := bkZ BK216.out 0; have hfz43_1 := bkZ BK216.out 1))
            go_roundg k2
            case measure => have := HK1.out; have := HK2.out; omega
            case rel => exact ⟨(wrap64 (x7_2 + 1)), (x7_2), (x6_1), (by first | rfl | (simp; done) | (simp [*]; done)), H', ⟨by have := HK1.out; have := HK2.out; omega⟩, ⟨by (with_reducible repeat (first | refine bkN ?_ _ | refine bkD ?_ | refine bkA ?_ _)); refine bkF ?_ NB214_216.out _; (with_reducible repeat (first | refine bkN ?_ _ | refine bkD ?_ | refine bkA ?_ _)); refine bkF ?_ NB214_216.out _; (with_reducible repeat (first | refine bkN ?_ _ | refine bkD ?_ | refine bkA ?_ _)); exact BK214.out⟩, ⟨by (with_reducible repeat (first | refine bkN ?_ _ | refine bkD ?_ | refine bkA ?_ _)); refine bkP (cs := #[.int .i64 x7_2, .int .i64 x217001_2]) ?_ 1 _ rfl; (with_reducible repeat (first | refine bkN ?_ _ | refine bkD ?_ | refine bkA ?_ _)); refine bkP (cs := #[.int .i64 x217000_2, .int .i64 x217001_2]) ?_ 0 _ rfl; (with_reducible repeat (first | refine bkN ?_ _ | refine bkD ?_ | refine bkA ?_ _)); exact BK216.out⟩, ⟨by repeat (first | (with_reducible first | exact HB.out | apply bwA | apply bwN | apply bw1 | refine bwS ?_ GE214.out | refine bwS ?_ GE216.out | refine bwS ?_ GE217.out) | exact HB.out)⟩⟩
           ·rw [if_neg c30] at H
            have c30b0 : decide ((wrap64 (x7_2 * x217001_2)) < (wrap64 (x217000_2 * x6_1))) = false := decide_eq_false c30
            clear c30
            have H' := Z0.mk H
            clear H
            go_wp2_with (first | ((with_reducible refine gtD (N := 8) rfl ?_); refine bxE ?hg (N := 8) ?hd (cs := #[.int .i64 0, .int .i64 0]) (t := 23) ?hr ?_; (case hd => rfl); (case hg => rfl); (case hr => first | (go_simp; done) | (go_simp; rfl)); intro gb217 hg w44 hbox hb; have n0_ := Z0.mk (bkB (g := gb214) (o := .cells #[.int .i64 0, .int .i64 0] 23 (0, 0)) (by (with_reducible repeat (first | refine bkN ?_ _ | refine bkD ?_ | refine bkA ?_ _)); exact BK214.out) hb); have n1_ := Z0.mk (bkB (g := gb216) (o := .cells #[.int .i64 x217000_2, .int .i64 x217001_2] 23 (0, 0)) (by (with_reducible repeat (first | refine bkN ?_ _ | refine bkD ?_ | refine bkA ?_ _)); exact BK216.out) hb); have n2_ := Z0.mk (bwT (by repeat (first | (with_reducible first | exact HB.out | apply bwA | apply bwN | apply bw1 | refine bwS ?_ GE214.out | refine bwS ?_ GE216.out) | exact HB.out)) hb); have n3_ := Z0.mk (hbox); have n4_ := Z0.mk ((by rw [hg]; exact (bwZ (by repeat (first | (with_reducible first | exact HB.out | apply bwA | apply bwN | apply bw1 | refine bwS ?_ GE214.out | refine bwS ?_ GE216.out) | exact HB.out))) : w.heap.size ≤ gb217)); have n5_ := Z0.mk ((by rw [hg]; exact (bwZ (by repeat (first | (with_reducible first | exact HB.out | apply bwA | apply bwN | apply bw1 | refine bwS ?_ GE214.out | refine bwS ?_ GE216.out) | exact HB.out))) : w.heap.size ≤ gb217)); have n6_ := Z0.mk ((by rw [hg]; exact Nat.ne_of_lt (blk_lt (g := gb214) (o := .cells #[.int .i64 0, .int .i64 0] 23 (0, 0)) (by (with_reducible repeat (first | refine bkN ?_ _ | refine bkD ?_ | refine bkA ?_ _)); exact BK214.out)) : gb214 ≠ gb217)); have n7_ := Z0.mk ((by rw [hg]; exact Nat.ne_of_gt (blk_lt (g := gb214) (o := .cells #[.int .i64 0, .int .i64 0] 23 (0, 0)) (by (with_reducible repeat (first | refine bkN ?_ _ | refine bkD ?_ | refine bkA ?_ _)); exact BK214.out)) : gb217 ≠ gb214)); have n8_ := Z0.mk ((by rw [hg]; exact Nat.ne_of_lt (blk_lt (g := gb216) (o := .cells #[.int .i64 x217000_2, .int .i64 x217001_2] 23 (0, 0)) (by (with_reducible repeat (first | refine bkN ?_ _ | refine bkD ?_ | refine bkA ?_ _)); exact BK216.out)) : gb216 ≠ gb217)); have n9_ := Z0.mk ((by rw [hg]; exact Nat.ne_of_gt (blk_lt (g := gb216) (o := .cells #[.int .i64 x217000_2, .int .i64 x217001_2] 23 (0, 0)) (by (with_reducible repeat (first | refine bkN ?_ _ | refine bkD ?_ | refine bkA ?_ _)); exact BK216.out)) : gb217 ≠ gb216)); clear BK214; clear BK216; clear HB; have BK214 := n0_; have BK216 := n1_; have HB := n2_; have BK217 := n3_; have GW217 := n4_; have GE217 := n5_; have NB214_217 := n6_; have NB217_214 := n7_; have NB216_217 := n8_; have NB217_216 := n9_; clear n0_ n1_ n2_ n3_ n4_ n5_ n6_ n7_ n8_ n9_; clear hb hbox hg; have hnb45 := NB217_214.out; have hnc45 := NB214_217.out; have hnb46 := NB217_216.out; have hnc46 := NB216_217.out; have hcz47_0 : w44.cell? ⟨gb217, 0, none⟩ = some (.int .i64 0) := (bkC BK217.out 0).trans rfl; have hcz47_1 : w44.cell? ⟨gb217, 1, none⟩ = some (.int .i64 0) := (bkC BK217.out 1).trans rfl; have hfz47_0 := bkZ BK217.out 0; have hfz47_1 := bkZ BK217.out 1) | ((with_reducible refine gtC (f := 19) rfl ?_); refine goesL_ (some 32) rfl rfl Tryd.func19 (by kernel_rfl) rfl #[.agg #[.int .i64 x7_2, .int .i64 x6_1]] rfl (by (try simp only [List.map_toArray, List.map_cons, List.map_nil]) <;> rfl) ?_; (with_reducible refine (hang_CheckRatio.calls k2 x7_2 x6_1 t218 _ A10.out).mono ?_); rintro e w48 ⟨rfl, hb⟩; refine ⟨_, rfl, ?_⟩; have n0_ := Z0.mk (bkB (g := gb214) (o := .cells #[.int .i64 0, .int .i64 0] 23 (0, 0)) (by (with_reducible repeat (first | refine bkN ?_ _ | refine bkD ?_ | refine bkA ?_ _)); refine bkF ?_ NB214_217.out _; (with_reducible repeat (first | refine bkN ?_ _ | refine bkD ?_ | refine bkA ?_ _)); refine bkF ?_ NB214_217.out _; (with_reducible repeat (first | refine bkN ?_ _ | refine bkD ?_ | refine bkA ?_ _)); exact BK214.out) hb); have n1_ := Z0.mk (bkB (g := gb216) (o := .cells #[.int .i64 x217000_2, .int .i64 x217001_2] 23 (0, 0)) (by (with_reducible repeat (first | refine bkN ?_ _ | refine bkD ?_ | refine bkA ?_ _)); refine bkF ?_ NB216_217.out _; (with_reducible repeat (first | refine bkN ?_ _ | refine bkD ?_ | refine bkA ?_ _)); refine bkF ?_ NB216_217.out _; (with_reducible repeat (first | refine bkN ?_ _ | refine bkD ?_ | refine bkA ?_ _)); exact BK216.out) hb); have n2_ := Z0.mk (bkB (g := gb217) (o := .cells #[.int .i64 x7_2, .int .i64 x6_1] 23 (0, 0)) (by (with_reducible repeat (first | refine bkN ?_ _ | refine bkD ?_ | refine bkA ?_ _)); refine bkP (cs := #[.int .i64 x7_2, .int .i64 0]) ?_ 1 _ rfl; (with_reducible repeat (first | refine bkN ?_ _ | refine bkD ?_ | refine bkA ?_ _)); refine bkP (cs := #[.int .i64 0, .int .i64 0]) ?_ 0 _ rfl; (with_reducible repeat (first | refine bkN ?_ _ | refine bkD ?_ | refine bkA ?_ _)); exact BK217.out) hb); have n3_ := Z0.mk (bwT (by repeat (first | (with_reducible first | exact HB.out | apply bwA | apply bwN | apply bw1 | refine bwS ?_ GE214.out | refine bwS ?_ GE216.out | refine bwS ?_ GE217.out) | exact HB.out)) hb); clear BK214; clear BK216; clear BK217; clear HB; have BK214 := n0_; have BK216 := n1_; have BK217 := n2_; have HB := n3_; clear n0_ n1_ n2_ n3_; (try clear hb); (try clear hb2); (try clear hk); (try clear hi); have hnb49 := NB216_214.out; have hnc49 := NB214_216.out; have hcz50_0 : w48.cell? ⟨gb216, 0, none⟩ = some (.int .i64 x217000_2) := (bkC BK216.out 0).trans rfl; have hcz50_1 : w48.cell? ⟨gb216, 1, none⟩ = some (.int .i64 x217001_2) := (bkC BK216.out 1).trans rfl; have hfz50_0 := bkZ BK216.out 0; have hfz50_1 := bkZ BK216.out 1) | ((with_reducible refine gtC (f := 70) rfl ?_); refine goesL_ (some 35) rfl rfl Tryd.func70 (by kernel_rfl) rfl #[.agg #[.int .i64 x217000_2, .int .i64 x217001_2]] rfl (by (try simp only [List.map_toArray, List.map_cons, List.map_nil]) <;> rfl) ?_; (with_reducible refine (hang_fullness.calls k2 x217000_2 x217001_2 t219 t220 _ A12.out).mono ?_); rintro e w51 ⟨rfl, hb⟩; refine ⟨_, rfl, ?_⟩; have n0_ := Z0.mk (bkB (g := gb214) (o := .cells #[.int .i64 0, .int .i64 0] 23 (0, 0)) (by (with_reducible repeat (first | refine bkN ?_ _ | refine bkD ?_ | refine bkA ?_ _)); exact BK214.out) hb); have n1_ := Z0.mk (bkB (g := gb216) (o := .cells #[.int .i64 x217000_2, .int .i64 x217001_2] 23 (0, 0)) (by (with_reducible repeat (first | refine bkN ?_ _ | refine bkD ?_ | refine bkA ?_ _)); exact BK216.out) hb); have n2_ := Z0.mk (bkB (g := gb217) (o := .cells #[.int .i64 x7_2, .int .i64 x6_1] 23 (0, 0)) (by (with_reducible repeat (first | refine bkN ?_ _ | refine bkD ?_ | refine bkA ?_ _)); exact BK217.out) hb); have n3_ := Z0.mk (bwT (by repeat (first | (with_reducible first | exact HB.out | apply bwA | apply bwN | apply bw1 | refine bwS ?_ GE214.out | refine bwS ?_ GE216.out | refine bwS ?_ GE217.out) | exact HB.out)) hb); clear BK214; clear BK216; clear BK217; clear HB; have BK214 := n0_; have BK216 := n1_; have BK217 := n2_; have HB := n3_; clear n0_ n1_ n2_ n3_; (try clear hb); (try clear hb2); (try clear hk); (try clear hi); have hcz52_0 : w51.cell? ⟨gb217, 0, none⟩ = some (.int .i64 x7_2) := (bkC BK217.out 0).trans rfl; have hcz52_1 : w51.cell? ⟨gb217, 1, none⟩ = some (.int .i64 x6_1) := (bkC BK217.out 1).trans rfl; have hfz52_0 := bkZ BK217.out 0; have hfz52_1 := bkZ BK217.out 1) | ((with_reducible refine gtC (f := 70) rfl ?_); refine goesL_ (some 39) rfl rfl Tryd.func70 (by kernel_rfl) rfl #[.agg #[.int .i64 x7_2, .int .i64 x6_1]] rfl (by (try simp only [List.map_toArray, List.map_cons, List.map_nil]) <;> rfl) ?_; (with_reducible refine (hang_fullness.calls k2 x7_2 x6_1 t221 t222 _ A13.out).mono ?_); rintro e w53 ⟨rfl, hb⟩; refine ⟨_, rfl, ?_⟩; have n0_ := Z0.mk (bkB (g := gb214) (o := .cells #[.int .i64 0, .int .i64 0] 23 (0, 0)) (by (with_reducible repeat (first | refine bkN ?_ _ | refine bkD ?_ | refine bkA ?_ _)); exact BK214.out) hb); have n1_ := Z0.mk (bkB (g := gb216) (o := .cells #[.int .i64 x217000_2, .int .i64 x217001_2] 23 (0, 0)) (by (with_reducible repeat (first | refine bkN ?_ _ | refine bkD ?_ | refine bkA ?_ _)); exact BK216.out) hb); have n2_ := Z0.mk (bkB (g := gb217) (o := .cells #[.int .i64 x7_2, .int .i64 x6_1] 23 (0, 0)) (by (with_reducible repeat (first | refine bkN ?_ _ | refine bkD ?_ | refine bkA ?_ _)); exact BK217.out) hb); have n3_ := Z0.mk (bwT (by repeat (first | (with_reducible first | exact HB.out | apply bwA | apply bwN | apply bw1 | refine bwS ?_ GE214.out | refine bwS ?_ GE216.out | refine bwS ?_ GE217.out) | exact HB.out)) hb); clear BK214; clear BK216; clear BK217; clear HB; have BK214 := n0_; have BK216 := n1_; have BK217 := n2_; have HB := n3_; clear n0_ n1_ n2_ n3_; (try clear hb); (try clear hb2); (try clear hk); (try clear hi)) | (go_at_call 80; (with_reducible refine (hang_Square_compare.calls t219 t220 t221 t222 t223 _ A14.out).mono ?_); rintro e w54 ⟨rfl, hb⟩; have n0_ := Z0.mk (bkB (g := gb214) (o := .cells #[.int .i64 0, .int .i64 0] 23 (0, 0)) (by (with_reducible repeat (first | refine bkN ?_ _ | refine bkD ?_ | refine bkA ?_ _)); exact BK214.out) hb); have n1_ := Z0.mk (bkB (g := gb216) (o := .cells #[.int .i64 x217000_2, .int .i64 x217001_2] 23 (0, 0)) (by (with_reducible repeat (first | refine bkN ?_ _ | refine bkD ?_ | refine bkA ?_ _)); exact BK216.out) hb); have n2_ := Z0.mk (bkB (g := gb217) (o := .cells #[.int .i64 x7_2, .int .i64 x6_1] 23 (0, 0)) (by (with_reducible repeat (first | refine bkN ?_ _ | refine bkD ?_ | refine bkA ?_ _)); exact BK217.out) hb); have n3_ := Z0.mk (bwT (by repeat (first | (with_reducible first | exact HB.out | apply bwA | apply bwN | apply bw1 | refine bwS ?_ GE214.out | refine bwS ?_ GE216.out | refine bwS ?_ GE217.out) | exact HB.out)) hb); clear BK214; clear BK216; clear BK217; clear HB; have BK214 := n0_; have BK216 := n1_; have BK217 := n2_; have HB := n3_; clear n0_ n1_ n2_ n3_; (try clear hb); (try clear hb2); (try clear hk); (try clear hi); have hcz55_0 : w54.cell? ⟨gb217, 0, none⟩ = some (.int .i64 x7_2) := (bkC BK217.out 0).trans rfl; have hcz55_1 : w54.cell? ⟨gb217, 1, none⟩ = some (.int .i64 x6_1) := (bkC BK217.out 1).trans rfl; have hfz55_0 := bkZ BK217.out 0; have hfz55_1 := bkZ BK217.out 1; have hcz56_0 : w54.cell? ⟨gb216, 0, none⟩ = some (.int .i64 x217000_2) := (bkC BK216.out 0).trans rfl; have hcz56_1 : w54.cell? ⟨gb216, 1, none⟩ = some (.int .i64 x217001_2) := (bkC BK216.out 1).trans rfl; have hfz56_0 := bkZ BK216.out 0; have hfz56_1 := bkZ BK216.out 1))
            go_roundg k2
            case measure => have := HK1.out; have := HK2.out; omega
            case rel => exact ⟨(wrap64 (x7_2 + 1)), (x217000_2), (x217001_2), (by first | rfl | (simp; done) | (simp [*]; done)), H', ⟨by have := HK1.out; have := HK2.out; omega⟩, ⟨by (with_reducible repeat (first | refine bkN ?_ _ | refine bkD ?_ | refine bkA ?_ _)); exact BK214.out⟩, ⟨by (with_reducible repeat (first | refine bkN ?_ _ | refine bkD ?_ | refine bkA ?_ _)); exact BK216.out⟩, ⟨by repeat (first | (with_reducible first | exact HB.out | apply bwA | apply bwN | apply bw1 | refine bwS ?_ GE214.out | refine bwS ?_ GE216.out | refine bwS ?_ GE217.out) | exact HB.out)⟩⟩
          ·rw [if_neg c29] at H
           have c29b0 : (t223 == 0) = false := beq_eq_false_iff_ne.mpr c29
           have c29b1 : (t223 != 0) = true := bne_iff_ne.mpr c29
           have H' := Z0.mk H
           clear H
           go_wp2_with (first | ((with_reducible refine gtD (N := 8) rfl ?_); refine bxE ?hg (N := 8) ?hd (cs := #[.int .i64 0, .int .i64 0]) (t := 23) ?hr ?_; (case hd => rfl); (case hg => rfl); (case hr => first | (go_simp; done) | (go_simp; rfl)); intro gb217 hg w57 hbox hb; have n0_ := Z0.mk (bkB (g := gb214) (o := .cells #[.int .i64 0, .int .i64 0] 23 (0, 0)) (by (with_reducible repeat (first | refine bkN ?_ _ | refine bkD ?_ | refine bkA ?_ _)); exact BK214.out) hb); have n1_ := Z0.mk (bkB (g := gb216) (o := .cells #[.int .i64 x217000_2, .int .i64 x217001_2] 23 (0, 0)) (by (with_reducible repeat (first | refine bkN ?_ _ | refine bkD ?_ | refine bkA ?_ _)); exact BK216.out) hb); have n2_ := Z0.mk (bwT (by repeat (first | (with_reducible first | exact HB.out | apply bwA | apply bwN | apply bw1 | refine bwS ?_ GE214.out | refine bwS ?_ GE216.out) | exact HB.out)) hb); have n3_ := Z0.mk (hbox); have n4_ := Z0.mk ((by rw [hg]; exact (bwZ (by repeat (first | (with_reducible first | exact HB.out | apply bwA | apply bwN | apply bw1 | refine bwS ?_ GE214.out | refine bwS ?_ GE216.out) | exact HB.out))) : w.heap.size ≤ gb217)); have n5_ := Z0.mk ((by rw [hg]; exact (bwZ (by repeat (first | (with_reducible first | exact HB.out | apply bwA | apply bwN | apply bw1 | refine bwS ?_ GE214.out | refine bwS ?_ GE216.out) | exact HB.out))) : w.heap.size ≤ gb217)); have n6_ := Z0.mk ((by rw [hg]; exact Nat.ne_of_lt (blk_lt (g := gb214) (o := .cells #[.int .i64 0, .int .i64 0] 23 (0, 0)) (by (with_reducible repeat (first | refine bkN ?_ _ | refine bkD ?_ | refine bkA ?_ _)); exact BK214.out)) : gb214 ≠ gb217)); have n7_ := Z0.mk ((by rw [hg]; exact Nat.ne_of_gt (blk_lt (g := gb214) (o := .cells #[.int .i64 0, .int .i64 0] 23 (0, 0)) (by (with_reducible repeat (first | refine bkN ?_ _ | refine bkD ?_ | refine bkA ?_ _)); exact BK214.out)) : gb217 ≠ gb214)); have n8_ := Z0.mk ((by rw [hg]; exact Nat.ne_of_lt (blk_lt (g := gb216) (o := .cells #[.int .i64 x217000_2, .int .i64 x217001_2] 23 (0, 0)) (by (with_reducible repeat (first | refine bkN ?_ _ | refine bkD ?_ | refine bkA ?_ _)); exact BK216.out)) : gb216 ≠ gb217)); have n9_ := Z0.mk ((by rw [hg]; exact Nat.ne_of_gt (blk_lt (g := gb216) (o := .cells #[.int .i64 x217000_2, .int .i64 x217001_2] 23 (0, 0)) (by (with_reducible repeat (first | refine bkN ?_ _ | refine bkD ?_ | refine bkA ?_ _)); exact BK216.out)) : gb217 ≠ gb216)); clear BK214; clear BK216; clear HB; have BK214 := n0_; have BK216 := n1_; have HB := n2_; have BK217 := n3_; have GW217 := n4_; have GE217 := n5_; have NB214_217 := n6_; have NB217_214 := n7_; have NB216_217 := n8_; have NB217_216 := n9_; clear n0_ n1_ n2_ n3_ n4_ n5_ n6_ n7_ n8_ n9_; clear hb hbox hg; have hnb58 := NB217_214.out; have hnc58 := NB214_217.out; have hnb59 := NB217_216.out; have hnc59 := NB216_217.out; have hcz60_0 : w57.cell? ⟨gb217, 0, none⟩ = some (.int .i64 0) := (bkC BK217.out 0).trans rfl; have hcz60_1 : w57.cell? ⟨gb217, 1, none⟩ = some (.int .i64 0) := (bkC BK217.out 1).trans rfl; have hfz60_0 := bkZ BK217.out 0; have hfz60_1 := bkZ BK217.out 1) | ((with_reducible refine gtC (f := 19) rfl ?_); refine goesL_ (some 32) rfl rfl Tryd.func19 (by kernel_rfl) rfl #[.agg #[.int .i64 x7_2, .int .i64 x6_1]] rfl (by (try simp only [List.map_toArray, List.map_cons, List.map_nil]) <;> rfl) ?_; (with_reducible refine (hang_CheckRatio.calls k2 x7_2 x6_1 t218 _ A10.out).mono ?_); rintro e w61 ⟨rfl, hb⟩; refine ⟨_, rfl, ?_⟩; have n0_ := Z0.mk (bkB (g := gb214) (o := .cells #[.int .i64 0, .int .i64 0] 23 (0, 0)) (by (with_reducible repeat (first | refine bkN ?_ _ | refine bkD ?_ | refine bkA ?_ _)); refine bkF ?_ NB214_217.out _; (with_reducible repeat (first | refine bkN ?_ _ | refine bkD ?_ | refine bkA ?_ _)); refine bkF ?_ NB214_217.out _; (with_reducible repeat (first | refine bkN ?_ _ | refine bkD ?_ | refine bkA ?_ _)); exact BK214.out) hb); have n1_ := Z0.mk (bkB (g := gb216) (o := .cells #[.int .i64 x217000_2, .int .i64 x217001_2] 23 (0, 0)) (by (with_reducible repeat (first | refine bkN ?_ _ | refine bkD ?_ | refine bkA ?_ _)); refine bkF ?_ NB216_217.out _; (with_reducible repeat (first | refine bkN ?_ _ | refine bkD ?_ | refine bkA ?_ _)); refine bkF ?_ NB216_217.out _; (with_reducible repeat (first | refine bkN ?_ _ | refine bkD ?_ | refine bkA ?_ _)); exact BK216.out) hb); have n2_ := Z0.mk (bkB (g := gb217) (o := .cells #[.int .i64 x7_2, .int .i64 x6_1] 23 (0, 0)) (by (with_reducible repeat (first | refine bkN ?_ _ | refine bkD ?_ | refine bkA ?_ _)); refine bkP (cs := #[.int .i64 x7_2, .int .i64 0]) ?_ 1 _ rfl; (with_reducible repeat (first | refine bkN ?_ _ | refine bkD ?_ | refine bkA ?_ _)); refine bkP (cs := #[.int .i64 0, .int .i64 0]) ?_ 0 _ rfl; (with_reducible repeat (first | refine bkN ?_ _ | refine bkD ?_ | refine bkA ?_ _)); exact BK217.out) hb); have n3_ := Z0.mk (bwT (by repeat (first | (with_reducible first | exact HB.out | apply bwA | apply bwN | apply bw1 | refine bwS ?_ GE214.out | refine bwS ?_ GE216.out | refine bwS ?_ GE217.out) | exact HB.out)) hb); clear BK214; clear BK216; clear BK217; clear HB; have BK214 := n0_; have BK216 := n1_; have BK217 := n2_; have HB := n3_; clear n0_ n1_ n2_ n3_; (try clear hb); (try clear hb2); (try clear hk); (try clear hi); have hnb62 := NB216_214.out; have hnc62 := NB214_216.out; have hcz63_0 : w61.cell? ⟨gb216, 0, none⟩ = some (.int .i64 x217000_2) := (bkC BK216.out 0).trans rfl; have hcz63_1 : w61.cell? ⟨gb216, 1, none⟩ = some (.int .i64 x217001_2) := (bkC BK216.out 1).trans rfl; have hfz63_0 := bkZ BK216.out 0; have hfz63_1 := bkZ BK216.out 1) | ((with_reducible refine gtC (f := 70) rfl ?_); refine goesL_ (some 35) rfl rfl Tryd.func70 (by kernel_rfl) rfl #[.agg #[.int .i64 x217000_2, .int .i64 x217001_2]] rfl (by (try simp only [List.map_toArray, List.map_cons, List.map_nil]) <;> rfl) ?_; (with_reducible refine (hang_fullness.calls k2 x217000_2 x217001_2 t219 t220 _ A12.out).mono ?_); rintro e w64 ⟨rfl, hb⟩; refine ⟨_, rfl, ?_⟩; have n0_ := Z0.mk (bkB (g := gb214) (o := .cells #[.int .i64 0, .int .i64 0] 23 (0, 0)) (by (with_reducible repeat (first | refine bkN ?_ _ | refine bkD ?_ | refine bkA ?_ _)); exact BK214.out) hb); have n1_ := Z0.mk (bkB (g := gb216) (o := .cells #[.int .i64 x217000_2, .int .i64 x217001_2] 23 (0, 0)) (by (with_reducible repeat (first | refine bkN ?_ _ | refine bkD ?_ | refine bkA ?_ _)); exact BK216.out) hb); have n2_ := Z0.mk (bkB (g := gb217) (o := .cells #[.int .i64 x7_2, .int .i64 x6_1] 23 (0, 0)) (by (with_reducible repeat (first | refine bkN ?_ _ | refine bkD ?_ | refine bkA ?_ _)); exact BK217.out) hb); have n3_ := Z0.mk (bwT (by repeat (first | (with_reducible first | exact HB.out | apply bwA | apply bwN | apply bw1 | refine bwS ?_ GE214.out | refine bwS ?_ GE216.out | refine bwS ?_ GE217.out) | exact HB.out)) hb); clear BK214; clear BK216; clear BK217; clear HB; have BK214 := n0_; have BK216 := n1_; have BK217 := n2_; have HB := n3_; clear n0_ n1_ n2_ n3_; (try clear hb); (try clear hb2); (try clear hk); (try clear hi); have hcz65_0 : w64.cell? ⟨gb217, 0, none⟩ = some (.int .i64 x7_2) := (bkC BK217.out 0).trans rfl; have hcz65_1 : w64.cell? ⟨gb217, 1, none⟩ = some (.int .i64 x6_1) := (bkC BK217.out 1).trans rfl; have hfz65_0 := bkZ BK217.out 0; have hfz65_1 := bkZ BK217.out 1) | ((with_reducible refine gtC (f := 70) rfl ?_); refine goesL_ (some 39) rfl rfl Tryd.func70 (by kernel_rfl) rfl #[.agg #[.int .i64 x7_2, .int .i64 x6_1]] rfl (by (try simp only [List.map_toArray, List.map_cons, List.map_nil]) <;> rfl) ?_; (with_reducible refine (hang_fullness.calls k2 x7_2 x6_1 t221 t222 _ A13.out).mono ?_); rintro e w66 ⟨rfl, hb⟩; refine ⟨_, rfl, ?_⟩; have n0_ := Z0.mk (bkB (g := gb214) (o := .cells #[.int .i64 0, .int .i64 0] 23 (0, 0)) (by (with_reducible repeat (first | refine bkN ?_ _ | refine bkD ?_ | refine bkA ?_ _)); exact BK214.out) hb); have n1_ := Z0.mk (bkB (g := gb216) (o := .cells #[.int .i64 x217000_2, .int .i64 x217001_2] 23 (0, 0)) (by (with_reducible repeat (first | refine bkN ?_ _ | refine bkD ?_ | refine bkA ?_ _)); exact BK216.out) hb); have n2_ := Z0.mk (bkB (g := gb217) (o := .cells #[.int .i64 x7_2, .int .i64 x6_1] 23 (0, 0)) (by (with_reducible repeat (first | refine bkN ?_ _ | refine bkD ?_ | refine bkA ?_ _)); exact BK217.out) hb); have n3_ := Z0.mk (bwT (by repeat (first | (with_reducible first | exact HB.out | apply bwA | apply bwN | apply bw1 | refine bwS ?_ GE214.out | refine bwS ?_ GE216.out | refine bwS ?_ GE217.out) | exact HB.out)) hb); clear BK214; clear BK216; clear BK217; clear HB; have BK214 := n0_; have BK216 := n1_; have BK217 := n2_; have HB := n3_; clear n0_ n1_ n2_ n3_; (try clear hb); (try clear hb2); (try clear hk); (try clear hi)) | (go_at_call 80; (with_reducible refine (hang_Square_compare.calls t219 t220 t221 t222 t223 _ A14.out).mono ?_); rintro e w67 ⟨rfl, hb⟩; have n0_ := Z0.mk (bkB (g := gb214) (o := .cells #[.int .i64 0, .int .i64 0] 23 (0, 0)) (by (with_reducible repeat (first | refine bkN ?_ _ | refine bkD ?_ | refine bkA ?_ _)); exact BK214.out) hb); have n1_ := Z0.mk (bkB (g := gb216) (o := .cells #[.int .i64 x217000_2, .int .i64 x217001_2] 23 (0, 0)) (by (with_reducible repeat (first | refine bkN ?_ _ | refine bkD ?_ | refine bkA ?_ _)); exact BK216.out) hb); have n2_ := Z0.mk (bkB (g := gb217) (o := .cells #[.int .i64 x7_2, .int .i64 x6_1] 23 (0, 0)) (by (with_reducible repeat (first | refine bkN ?_ _ | refine bkD ?_ | refine bkA ?_ _)); exact BK217.out) hb); have n3_ := Z0.mk (bwT (by repeat (first | (with_reducible first | exact HB.out | apply bwA | apply bwN | apply bw1 | refine bwS ?_ GE214.out | refine bwS ?_ GE216.out | refine bwS ?_ GE217.out) | exact HB.out)) hb); clear BK214; clear BK216; clear BK217; clear HB; have BK214 := n0_; have BK216 := n1_; have BK217 := n2_; have HB := n3_; clear n0_ n1_ n2_ n3_; (try clear hb); (try clear hb2); (try clear hk); (try clear hi)))
           go_roundg k2
           case measure => have := HK1.out; have := HK2.out; omega
           case rel => exact ⟨(wrap64 (x7_2 + 1)), (x217000_2), (x217001_2), (by first | rfl | (simp; done) | (simp [*]; done)), H', ⟨by have := HK1.out; have := HK2.out; omega⟩, ⟨by (with_reducible repeat (first | refine bkN ?_ _ | refine bkD ?_ | refine bkA ?_ _)); exact BK214.out⟩, ⟨by (with_reducible repeat (first | refine bkN ?_ _ | refine bkD ?_ | refine bkA ?_ _)); exact BK216.out⟩, ⟨by repeat (first | (with_reducible first | exact HB.out | apply bwA | apply bwN | apply bw1 | refine bwS ?_ GE214.out | refine bwS ?_ GE216.out | refine bwS ?_ GE217.out) | exact HB.out)⟩⟩
        ·rw [if_neg c11] at H
         have c11b0 : (t218 == 0) = false := beq_eq_false_iff_ne.mpr c11
         have c11b1 : (t218 != 0) = true := bne_iff_ne.mpr c11
         have H' := Z0.mk H
         clear H
         go_wp2_with (first | ((with_reducible refine gtD (N := 8) rfl ?_); refine bxE ?hg (N := 8) ?hd (cs := #[.int .i64 0, .int .i64 0]) (t := 23) ?hr ?_; (case hd => rfl); (case hg => rfl); (case hr => first | (go_simp; done) | (go_simp; rfl)); intro gb217 hg w68 hbox hb; have n0_ := Z0.mk (bkB (g := gb214) (o := .cells #[.int .i64 0, .int .i64 0] 23 (0, 0)) (by (with_reducible repeat (first | refine bkN ?_ _ | refine bkD ?_ | refine bkA ?_ _)); exact BK214.out) hb); have n1_ := Z0.mk (bkB (g := gb216) (o := .cells #[.int .i64 x217000_2, .int .i64 x217001_2] 23 (0, 0)) (by (with_reducible repeat (first | refine bkN ?_ _ | refine bkD ?_ | refine bkA ?_ _)); exact BK216.out) hb); have n2_ := Z0.mk (bwT (by repeat (first | (with_reducible first | exact HB.out | apply bwA | apply bwN | apply bw1 | refine bwS ?_ GE214.out | refine bwS ?_ GE216.out) | exact HB.out)) hb); have n3_ := Z0.mk (hbox); have n4_ := Z0.mk ((by rw [hg]; exact (bwZ (by repeat (first | (with_reducible first | exact HB.out | apply bwA | apply bwN | apply bw1 | refine bwS ?_ GE214.out | refine bwS ?_ GE216.out) | exact HB.out))) : w.heap.size ≤ gb217)); have n5_ := Z0.mk ((by rw [hg]; exact (bwZ (by repeat (first | (with_reducible first | exact HB.out | apply bwA | apply bwN | apply bw1 | refine bwS ?_ GE214.out | refine bwS ?_ GE216.out) | exact HB.out))) : w.heap.size ≤ gb217)); have n6_ := Z0.mk ((by rw [hg]; exact Nat.ne_of_lt (blk_lt (g := gb214) (o := .cells #[.int .i64 0, .int .i64 0] 23 (0, 0)) (by (with_reducible repeat (first | refine bkN ?_ _ | refine bkD ?_ | refine bkA ?_ _)); exact BK214.out)) : gb214 ≠ gb217)); have n7_ := Z0.mk ((by rw [hg]; exact Nat.ne_of_gt (blk_lt (g := gb214) (o := .cells #[.int .i64 0, .int .i64 0] 23 (0, 0)) (by (with_reducible repeat (first | refine bkN ?_ _ | refine bkD ?_ | refine bkA ?_ _)); exact BK214.out)) : gb217 ≠ gb214)); have n8_ := Z0.mk ((by rw [hg]; exact Nat.ne_of_lt (blk_lt (g := gb216) (o := .cells #[.int .i64 x217000_2, .int .i64 x217001_2] 23 (0, 0)) (by (with_reducible repeat (first | refine bkN ?_ _ | refine bkD ?_ | refine bkA ?_ _)); exact BK216.out)) : gb216 ≠ gb217)); have n9_ := Z0.mk ((by rw [hg]; exact Nat.ne_of_gt (blk_lt (g := gb216) (o := .cells #[.int .i64 x217000_2, .int .i64 x217001_2] 23 (0, 0)) (by (with_reducible repeat (first | refine bkN ?_ _ | refine bkD ?_ | refine bkA ?_ _)); exact BK216.out)) : gb217 ≠ gb216)); clear BK214; clear BK216; clear HB; have BK214 := n0_; have BK216 := n1_; have HB := n2_; have BK217 := n3_; have GW217 := n4_; have GE217 := n5_; have NB214_217 := n6_; have NB217_214 := n7_; have NB216_217 := n8_; have NB217_216 := n9_; clear n0_ n1_ n2_ n3_ n4_ n5_ n6_ n7_ n8_ n9_; clear hb hbox hg; have hnb69 := NB217_214.out; have hnc69 := NB214_217.out; have hnb70 := NB217_216.out; have hnc70 := NB216_217.out; have hcz71_0 : w68.cell? ⟨gb217, 0, none⟩ = some (.int .i64 0) := (bkC BK217.out 0).trans rfl; have hcz71_1 : w68.cell? ⟨gb217, 1, none⟩ = some (.int .i64 0) := (bkC BK217.out 1).trans rfl; have hfz71_0 := bkZ BK217.out 0; have hfz71_1 := bkZ BK217.out 1) | ((with_reducible refine gtC (f := 19) rfl ?_); refine goesL_ (some 32) rfl rfl Tryd.func19 (by kernel_rfl) rfl #[.agg #[.int .i64 x7_2, .int .i64 x6_1]] rfl (by (try simp only [List.map_toArray, List.map_cons, List.map_nil]) <;> rfl) ?_; (with_reducible refine (hang_CheckRatio.calls k2 x7_2 x6_1 t218 _ A10.out).mono ?_); rintro e w72 ⟨rfl, hb⟩; refine ⟨_, rfl, ?_⟩; have n0_ := Z0.mk (bkB (g := gb214) (o := .cells #[.int .i64 0, .int .i64 0] 23 (0, 0)) (by (with_reducible repeat (first | refine bkN ?_ _ | refine bkD ?_ | refine bkA ?_ _)); refine bkF ?_ NB214_217.out _; (with_reducible repeat (first | refine bkN ?_ _ | refine bkD ?_ | refine bkA ?_ _)); refine bkF ?_ NB214_217.out _; (with_reducible repeat (first | refine bkN ?_ _ | refine bkD ?_ | refine bkA ?_ _)); exact BK214.out) hb); have n1_ := Z0.mk (bkB (g := gb216) (o := .cells #[.int .i64 x217000_2, .int .i64 x217001_2] 23 (0, 0)) (by (with_reducible repeat (first | refine bkN ?_ _ | refine bkD ?_ | refine bkA ?_ _)); refine bkF ?_ NB216_217.out _; (with_reducible repeat (first | refine bkN ?_ _ | refine bkD ?_ | refine bkA ?_ _)); refine bkF ?_ NB216_217.out _; (with_reducible repeat (first | refine bkN ?_ _ | refine bkD ?_ | refine bkA ?_ _)); exact BK216.out) hb); have n2_ := Z0.mk (bkB (g := gb217) (o := .cells #[.int .i64 x7_2, .int .i64 x6_1] 23 (0, 0)) (by (with_reducible repeat (first | refine bkN ?_ _ | refine bkD ?_ | refine bkA ?_ _)); refine bkP (cs := #[.int .i64 x7_2, .int .i64 0]) ?_ 1 _ rfl; (with_reducible repeat (first | refine bkN ?_ _ | refine bkD ?_ | refine bkA ?_ _)); refine bkP (cs := #[.int .i64 0, .int .i64 0]) ?_ 0 _ rfl; (with_reducible repeat (first | refine bkN ?_ _ | refine bkD ?_ | refine bkA ?_ _)); exact BK217.out) hb); have n3_ := Z0.mk (bwT (by repeat (first | (with_reducible first | exact HB.out | apply bwA | apply bwN | apply bw1 | refine bwS ?_ GE214.out | refine bwS ?_ GE216.out | refine bwS ?_ GE217.out) | exact HB.out)) hb); clear BK214; clear BK216; clear BK217; clear HB; have BK214 := n0_; have BK216 := n1_; have BK217 := n2_; have HB := n3_; clear n0_ n1_ n2_ n3_; (try clear hb); (try clear hb2); (try clear hk); (try clear hi)))
         go_roundg k2
         case measure => have := HK1.out; have := HK2.out; omega
         case rel => exact ⟨(wrap64 (x7_2 + 1)), (x217000_2), (x217001_2), (by first | rfl | (simp; done) | (simp [*]; done)), H', ⟨by have := HK1.out; have := HK2.out; omega⟩, ⟨by (with_reducible repeat (first | refine bkN ?_ _ | refine bkD ?_ | refine bkA ?_ _)); exact BK214.out⟩, ⟨by (with_reducible repeat (first | refine bkN ?_ _ | refine bkD ?_ | refine bkA ?_ _)); exact BK216.out⟩, ⟨by repeat (first | (with_reducible first | exact HB.out | apply bwA | apply bwN | apply bw1 | refine bwS ?_ GE214.out | refine bwS ?_ GE216.out | refine bwS ?_ GE217.out) | exact HB.out)⟩⟩
       ·rw [if_neg c9] at H
        have c9b0 : decide (x7_2 ≤ x6_1) = false := decide_eq_false c9
        clear c9
        have H' := Z0.mk H
        clear H
        go_wp2
        go_roundg k2
        case measure => have := HK1.out; have := HK2.out; omega
        case rel => exact ⟨(wrap64 (x6_1 + 1)), (x217000_2), (x217001_2), (by first | rfl | (simp; done) | (simp [*]; done)), H', ⟨by have := HK1.out; have := HK2.out; omega⟩, ⟨by (with_reducible repeat (first | refine bkN ?_ _ | refine bkD ?_ | refine bkA ?_ _)); exact BK214.out⟩, ⟨by (with_reducible repeat (first | refine bkN ?_ _ | refine bkD ?_ | refine bkA ?_ _)); exact BK216.out⟩, ⟨by repeat (first | (with_reducible first | exact HB.out | apply bwA | apply bwN | apply bw1 | refine bwS ?_ GE214.out | refine bwS ?_ GE216.out) | exact HB.out)⟩⟩
    ·rw [if_neg c8] at H
     have c8b0 : decide (x6_1 ≤ a0) = false := decide_eq_false c8
     clear c8
     simp only [Option.some.injEq, Prod.mk.injEq] at H
     obtain ⟨rfl, rfl, rfl⟩ := H
     have hnb73 := NB216_214.out
     have hnc73 := NB214_216.out
     have hcz74_0 : wr.cell? ⟨gb216, 0, none⟩ = some (.int .i64 x217000_1) := (bkC BK216.out 0).trans rfl
     have hcz74_1 : wr.cell? ⟨gb216, 1, none⟩ = some (.int .i64 x217001_1) := (bkC BK216.out 1).trans rfl
     have hfz74_0 := bkZ BK216.out 0
     have hfz74_1 := bkZ BK216.out 1
     have hcz75_0 : wr.cell? ⟨gb214, 0, none⟩ = some (.int .i64 0) := (bkC BK214.out 0).trans rfl
     have hcz75_1 : wr.cell? ⟨gb214, 1, none⟩ = some (.int .i64 0) := (bkC BK214.out 1).trans rfl
     have hfz75_0 := bkZ BK214.out 0
     have hfz75_1 := bkZ BK214.out 1
     go_wp2
     refine bodyPost_ret (results_ct rfl _ _ gb214 23 #[.int .i64 x217000_1, .int .i64 x217001_1] (0, 0) _ rfl (by (with_reducible repeat (first | refine bkN ?_ _ | refine bkD ?_ | refine bkA ?_ _)); refine bkP (cs := #[.int .i64 x217000_1, .int .i64 0]) ?_ 1 _ rfl; (with_reducible repeat (first | refine bkN ?_ _ | refine bkD ?_ | refine bkA ?_ _)); refine bkP (cs := #[.int .i64 0, .int .i64 0]) ?_ 0 _ rfl; (with_reducible repeat (first | refine bkN ?_ _ | refine bkD ?_ | refine bkA ?_ _)); exact BK214.out) Tryd.underlying23 rfl (by kernel_rfl)) rfl ?_
     exact ⟨by first | rfl | (simp [errW_none, errW_some] <;> rfl) | (simp [*, errW_none, errW_some] <;> rfl), by repeat (first | (with_reducible first | exact HB.out | apply bwA | apply bwN | apply bw1 | refine bwS ?_ GE214.out | refine bwS ?_ GE216.out) | exact HB.out)⟩
 ·rw [if_neg c3] at H
  have c3b0 : (t215 == 0) = false := beq_eq_false_iff_ne.mpr c3
  have c3b1 : (t215 != 0) = true := bne_iff_ne.mpr c3
  simp only [Option.some.injEq, Prod.mk.injEq] at H
  obtain ⟨rfl, rfl, rfl⟩ := H
  go_enter Tryd.func34, Tryd.ntmps34
  go_wp2_with (first | ((with_reducible refine gtD (N := 2) rfl ?_); refine bxE ?hg (N := 2) ?hd (cs := #[.int .i64 0, .int .i64 0]) (t := 23) ?hr ?_; (case hd => rfl); (case hg => rfl); (case hr => first | (go_simp; done) | (go_simp; rfl)); intro gb214 hg w76 hbox hb; have n0_ := Z0.mk (bwT (by repeat (first | (with_reducible first | exact HB.out | apply bwA | apply bwN | apply bw1) | exact HB.out)) hb); have n1_ := Z0.mk (hbox); have n2_ := Z0.mk ((by rw [hg]; exact (bwZ (by repeat (first | (with_reducible first | exact HB.out | apply bwA | apply bwN | apply bw1) | exact HB.out))) : w.heap.size ≤ gb214)); have n3_ := Z0.mk ((by rw [hg]; exact (bwZ (by repeat (first | (with_reducible first | exact HB.out | apply bwA | apply bwN | apply bw1) | exact HB.out))) : w.heap.size ≤ gb214)); clear HB; have HB := n0_; have BK214 := n1_; have GW214 := n2_; have GE214 := n3_; clear n0_ n1_ n2_ n3_; clear hb hbox hg) | ((with_reducible refine gtC (f := 73) rfl ?_); refine goesL_ (some 12) rfl rfl Tryd.func73 (by kernel_rfl) rfl #[.int .i64 a0, .int .i64 1, .int .i64 30] rfl (by (try simp only [List.map_toArray, List.map_cons, List.map_nil]) <;> rfl) ?_; (with_reducible refine (hang_within.calls a0 1 30 t215 _ A2.out).mono ?_); rintro e w' ⟨rfl, ⟨nd, rfl⟩⟩; refine ⟨_, rfl, ?_⟩; (try (rw [drewN_self w76]; generalize hq_ : World.drewN w76 _ = w76; have n0_ : Z0 (w76.heap[gb214]? = some (.cells #[.int .i64 0, .int .i64 0] 23 (0, 0))) := ⟨by rw [← hq_]; exact (by (with_reducible repeat (first | refine bkN ?_ _ | refine bkD ?_ | refine bkA ?_ _)); exact BK214.out)⟩; have n1_ : Z0 (Below w.heap.size w w76) := ⟨by rw [← hq_]; exact (by repeat (first | (with_reducible first | exact HB.out | apply bwA | apply bwN | apply bw1 | refine bwS ?_ GE214.out) | exact HB.out))⟩; clear BK214 HB hq_; have BK214 := n0_; have HB := n1_; clear n0_ n1_)); have hcz77_0 : w76.cell? ⟨gb214, 0, none⟩ = some (.int .i64 0) := (bkC BK214.out 0).trans rfl; have hcz77_1 : w76.cell? ⟨gb214, 1, none⟩ = some (.int .i64 0) := (bkC BK214.out 1).trans rfl; have hfz77_0 := bkZ BK214.out 0; have hfz77_1 := bkZ BK214.out 1))
  refine bodyPost_ret (results_ct rfl _ _ gb214 23 #[.int .i64 0, .int .i64 0] (0, 0) _ rfl (by (with_reducible repeat (first | refine bkN ?_ _ | refine bkD ?_ | refine bkA ?_ _)); refine bkP (cs := #[.int .i64 0, .int .i64 0]) ?_ 1 _ rfl; (with_reducible repeat (first | refine bkN ?_ _ | refine bkD ?_ | refine bkA ?_ _)); refine bkP (cs := #[.int .i64 0, .int .i64 0]) ?_ 0 _ rfl; (with_reducible repeat (first | refine bkN ?_ _ | refine bkD ?_ | refine bkA ?_ _)); exact BK214.out) Tryd.underlying23 rfl (by kernel_rfl)) rfl ?_
  exact ⟨by first | rfl | (simp [errW_none, errW_some] <;> rfl) | (simp [*, errW_none, errW_some] <;> rfl), by repeat (first | (with_reducible first | exact HB.out | apply bwA | apply bwN | apply bw1 | refine bwS ?_ GE214.out) | exact HB.out)⟩
end Go.Proofs.YtppighiaffppkaaDoor.H
end
