/- The texts of this claim, part 5: what the statement's proof uses of the words, the functions' walks and the plain laws. -/
import Derived.Laws.OwnMore
import Derived.Laws.CopyOwn
import Derived.Test.YtppighiaffppkaaDoorZHangChecks4
section
namespace Go.Proofs.YtppighiaffppkaaDoor.H
open Go.RowKit Go.Proofs.YtppighiaffppkaaDoorW.PrintWords Go.Proofs.YtppighiaffppkaaDoorW.PrintLast Go.Proofs.YtppighiaffppkaaDoorW.PrintMore
attribute [local go_sem] max2_int min2_int max_two min_two max_three min_three max_four min_four
set_option linter.unusedVariables false
set_option linter.unusedSimpArgs false
def hang_checkSections_1.f (k : Nat) (a0_0 : Int) (a0_1 : Int) (a0_2 : Int) : Option (Int) := (hang_checkMeshes.f a0_0).bind fun t839 => ((hang_CheckRatio.f k a0_1 a0_2).bind fun t840 => ((hang_first.f k (([t839, t840] : List Int))).bind fun t844 => (some t844)))
def hang_checkSections_1.T1 : Bool × List (List Nat × List Nat) := (true, [([], []), ([0], [0]), ([1], [1]), ([], []), ([3], [3]), ([4, 2], [4]), ([2, 5], [2, 5]), ([6, 5], [6]), ([7, 7, 0, 1, 2, 3, 4, 5, 6, 7], [7])])
def hang_checkSections_1.B1 : List Nat := [0, 1, 3, 0, 8, 31, 63, 127, 255]
theorem hang_checkSections_1.tab1 : rtab .any (opsOf Tryd.f107 1) = hang_checkSections_1.T1 := by kernel_rfl
theorem hang_checkSections_1.bits1 : waitsOk hang_checkSections_1.T1.2 hang_checkSections_1.B1 = true := by kernel_rfl
set_option maxHeartbeats 8000000 in
set_option maxRecDepth 100000 in
theorem hang_checkSections_1.calls (k : Nat) (a0_0 : Int) (a0_1 : Int) (a0_2 : Int) (r : Int) (w : World) (h : hang_checkSections_1.f k a0_0 a0_1 a0_2 = some r) :
  Calls Tryd.prog 107 #[.agg #[.int .i64 a0_0, .int .i64 a0_1, .int .i64 a0_2]] w fun e w' => e = .returned (.int .i64 r) ∧ Below w.heap.size w w' := by
 have hu131 := Tryd.underlying131
 have hu23 := Tryd.underlying23
 have HB := Aside0.mk (Below.refl w.heap.size w)
 have H : ((hang_checkMeshes.f a0_0).bind fun t839 => ((hang_CheckRatio.f k a0_1 a0_2).bind fun t840 => ((hang_first.f k (([t839, t840] : List Int))).bind fun t844 => (some t844)))) = some r := h
 clear h
 replace H := Option.bind_eq_some_iff.mp H
 obtain ⟨t839, A20, H⟩ := H
 replace H : ((hang_CheckRatio.f k a0_1 a0_2).bind fun t840 => ((hang_first.f k (([t839, t840] : List Int))).bind fun t844 => (some t844))) = some r := H
 have A2 := Aside0.mk A20
 clear A20
 replace H := Option.bind_eq_some_iff.mp H
 obtain ⟨t840, A30, H⟩ := H
 replace H : ((hang_first.f k (([t839, t840] : List Int))).bind fun t844 => (some t844)) = some r := H
 have A3 := Aside0.mk A30
 clear A30
 obtain ⟨y841, hy841⟩ : ∃ y_ : List Int, y_ = (([t839, t840] : List Int)) := ⟨_, rfl⟩
 replace H : ((hang_first.f k y841).bind fun t844 => (some t844)) = some r := by first | (rw [hy841]; with_reducible exact H) | (have H2_ := (Option.bind_some _ _).symm.trans H; rw [hy841]; with_reducible exact H2_) | (have H2_ := (Option.bind_some _ _).symm.trans H; with_reducible exact H2_) | with_reducible exact H | (rw [hy841]; exact H) | exact H
 have Ny841 := Aside0.mk hy841
 clear hy841
 replace H := Option.bind_eq_some_iff.mp H
 obtain ⟨t844, A40, H⟩ := H
 replace H : (some t844) = some r := H
 have A4 := Aside0.mk A40
 clear A40
 obtain rfl := Option.some.inj H
 go_enter Tryd.func107, Tryd.ntmps107
 try go_wp2_with (first | ((with_reducible refine gate_dst (N := 1) rfl ?_); refine box_event ?hg (N := 1) ?hd (cs := #[.int .i64 a0_0, .int .i64 a0_1, .int .i64 a0_2]) (t := 131) ?hr ?_; (case hd => rfl); (case hg => rfl); (case hr => first | (go_simp; done) | (go_simp; rfl)); intro gb838 hg w5 hbox hb; have n0_ := Aside0.mk (below_step (by repeat (first | (with_reducible first | exact HB.out | apply below_alloc | apply pw_below_drewN | apply below_drew1) | exact HB.out)) hb); have n1_ := Aside0.mk (hbox); have n2_ := Aside0.mk ((by rw [hg]; exact (below_size (by repeat (first | (with_reducible first | exact HB.out | apply below_alloc | apply pw_below_drewN | apply below_drew1) | exact HB.out))) : w.heap.size ≤ gb838)); have n3_ := Aside0.mk ((by rw [hg]; exact (below_size (by repeat (first | (with_reducible first | exact HB.out | apply below_alloc | apply pw_below_drewN | apply below_drew1) | exact HB.out))) : w.heap.size ≤ gb838)); clear HB; have HB := n0_; have BK838 := n1_; have GW838 := n2_; have GE838 := n3_; clear n0_ n1_ n2_ n3_; clear hb hbox hg))
 have n0_ := Aside0.mk (blk_drew BK838.out)
 have n1_ := Aside0.mk (below_drew1 HB.out)
 clear BK838
 clear HB
 have BK838 := n0_
 have HB := n1_
 clear n0_ n1_
 refine start_ (n := 9) (S := fun w' => w'.cell? ⟨gb838, 0, none⟩ = some (.int .i64 a0_0) ∧ w'.cell? ⟨gb838, 1, none⟩ = some (.int .i64 a0_1) ∧ w'.cell? ⟨gb838, 2, none⟩ = some (.int .i64 a0_2)) (ds := []) #[false, false, false, false, false, false, false, false, false] (by kernel_rfl) rfl rfl ⟨(blk_cell BK838.out 0).trans rfl, (blk_cell BK838.out 1).trans rfl, (blk_cell BK838.out 2).trans rfl⟩ (fun hHeld => ?_); refine with_tabW hang_checkSections_1.tab1 hang_checkSections_1.bits1 (fun HT_ HW_ => ?_)
 generalize w5.drew = w6 at BK838 HB hHeld ⊢
 refine pure_ (i := 0) (N := some 3) (v := ?_) (a' := ?_) #[true, false, false, false, false, false, false, false, false] rfl rfl (any_of HT_.out (by kernel_rfl)) (fun _ _ _ h => h) (Or.inl ⟨by rfl, ?_⟩) ?_ ?_
 rotate_left
 ·intro w'
  go_simp
  with_reducible rfl
 rotate_left
 ·simp only [Act.put, List.setIfInBounds_toArray, List.set_cons_zero, List.set_cons_succ, i64_w, i32_w]
  rfl
 refine pure_ (i := 3) (N := some 6) (v := ?_) (a' := ?_) #[true, false, false, true, false, false, false, false, false] rfl rfl (any_of HT_.out (by kernel_rfl)) (fun _ _ _ h => h) (Or.inl ⟨by rfl, ?_⟩) ?_ ?_
 rotate_left
 ·intro w'
  go_simp
  with_reducible rfl
 rotate_left
 ·simp only [Act.put, List.setIfInBounds_toArray, List.set_cons_zero, List.set_cons_succ, i64_w, i32_w]
  rfl
 refine take_ (i := 1) (N := some 4) (v := ?_) (a' := ?_) #[true, true, false, true, false, false, false, false, false] rfl rfl (take_ofW HT_.out HW_.out (by kernel_rfl)) (fun _ _ _ h => h) (Or.inl ⟨by rfl, ?_⟩) hHeld ?_ ?_
 rotate_left
 ·rintro w' ⟨s0, s1, s2⟩
  go_simp
  with_reducible rfl
 rotate_left
 ·simp only [Act.put, List.setIfInBounds_toArray, List.set_cons_zero, List.set_cons_succ, i64_w, i32_w]
  rfl
 refine take_ (i := 4) (N := some 7) (v := ?_) (a' := ?_) #[true, true, false, true, true, false, false, false, false] rfl rfl (take_ofW HT_.out HW_.out (by kernel_rfl)) (fun _ _ _ h => h) (Or.inl ⟨by rfl, ?_⟩) hHeld ?_ ?_
 rotate_left
 ·rintro w' ⟨s0, s1, s2⟩
  go_simp
  with_reducible rfl
 rotate_left
 ·simp only [Act.put, List.setIfInBounds_toArray, List.set_cons_zero, List.set_cons_succ, i64_w, i32_w]
  rfl
 refine one_ (i := 2) (N := some 5) #[true, true, true, true, true, false, false, false, false] rfl rfl (one_of HT_.out (by kernel_rfl)) (by decide) (fun K hK => ?_)
 refine goes_ Tryd.func78 (by kernel_rfl) rfl #[.int .i64 a0_0] (by rfl) rfl rfl (by (try simp only [List.map_toArray, List.map_cons, List.map_nil]); first | done | rfl | (simp only [List.length_drop, List.length_take]; rfl)) ?_
 with_reducible refine (hang_checkMeshes.calls a0_0 t839 _ A2.out).mono ?_
 rintro e w' ⟨rfl, ⟨nd, rfl⟩⟩
 refine ⟨_, rfl, ?_⟩
 refine hK.out _ _ ⟨(blk_cell BK838.out 0).trans rfl, (blk_cell BK838.out 1).trans rfl, (blk_cell BK838.out 2).trans rfl⟩ (fun hHeld => ?_)
 clear hK K
 refine norm_ (a' := ?_) ?_ ?_
 rotate_left
 ·show Act.put _ (some 5) _ = _
  simp only [Act.put, List.setIfInBounds_toArray, List.set_cons_zero, List.set_cons_succ, i64_w, i32_w]
  rfl
 refine one_ (i := 5) (N := some 8) #[true, true, true, true, true, true, false, false, false] rfl rfl (one_of HT_.out (by kernel_rfl)) (by decide) (fun K hK => ?_)
 refine goes_ Tryd.func19 (by kernel_rfl) rfl #[.agg #[.int .i64 a0_1, .int .i64 a0_2]] (by rfl) rfl rfl (by (try simp only [List.map_toArray, List.map_cons, List.map_nil]); first | done | rfl | (simp only [List.length_drop, List.length_take]; rfl)) ?_
 with_reducible refine (hang_CheckRatio.calls k a0_1 a0_2 t840 _ A3.out).mono ?_
 rintro e w7 ⟨rfl, hb⟩
 refine ⟨_, rfl, ?_⟩
 have n0_ := Aside0.mk (blk_below (g := gb838) (o := .cells #[.int .i64 a0_0, .int .i64 a0_1, .int .i64 a0_2] 131 (0, 0)) (by (with_reducible repeat (first | refine blk_drewN ?_ _ | refine blk_drew ?_ | refine blk_alloc ?_ _)); exact BK838.out) hb)
 have n1_ := Aside0.mk (below_step (by repeat (first | (with_reducible first | exact HB.out | apply below_alloc | apply pw_below_drewN | apply below_drew1 | refine below_set ?_ GE838.out) | exact HB.out)) hb)
 clear BK838
 clear HB
 have BK838 := n0_
 have HB := n1_
 clear n0_ n1_
 (try clear hb)
 (try clear hb2)
 (try clear hk)
 (try clear hi)
 refine hK.out _ _ ⟨(blk_cell BK838.out 0).trans rfl, (blk_cell BK838.out 1).trans rfl, (blk_cell BK838.out 2).trans rfl⟩ (fun hHeld => ?_)
 clear hK K
 refine norm_ (a' := ?_) ?_ ?_
 rotate_left
 ·show Act.put _ (some 8) _ = _
  simp only [Act.put, List.setIfInBounds_toArray, List.set_cons_zero, List.set_cons_succ, i64_w, i32_w]
  rfl
 refine one_ (i := 6) (N := some 9) #[true, true, true, true, true, true, true, false, false] rfl rfl (one_of HT_.out (by kernel_rfl)) (by decide) (fun K hK => ?_)
 refine Kd.R_lit_step (Kd.int .i64) _ 26 ?hg (N := 9) ?hd (xs := ([t839, t840] : List Int)) (inner := [.int .i64 t839, .int .i64 t840]) (ok := fun _ => True) (okp := fun _ => True) ?hr ?hp (fun _ hk => hk) trivial (Below.refl _ _) (Nat.le_refl _) (by simp) ?_; (case hd => rfl); (case hg => rfl); (case hr => first | (go_simp; done) | (go_simp; rfl)); (case hp => exact (Reps.one (show Kd.M (Kd.int .i64) _ _ _ t839 [.int .i64 t839] from rfl) (Reps.one (show Kd.M (Kd.int .i64) _ _ _ t840 [.int .i64 t840] from rfl) (Reps.none _ _))))
 intro v842 w8 ho9 hb hg_ hnew_
 clear hg_ hnew_
 (first | rw [← Ny841.out] at ho9 | (simp only [Int.reduceToNat] at ho9; rw [← Ny841.out] at ho9))
 have n0_ := Aside0.mk (Kd.R_lower ho9 (below_size (by repeat (first | (with_reducible first | exact HB.out | apply below_alloc | apply pw_below_drewN | apply below_drew1 | refine below_set ?_ GE838.out) | exact HB.out))))
 have n1_ := Aside0.mk (blk_below (g := gb838) (o := .cells #[.int .i64 a0_0, .int .i64 a0_1, .int .i64 a0_2] 131 (0, 0)) (by (with_reducible repeat (first | refine blk_drewN ?_ _ | refine blk_drew ?_ | refine blk_alloc ?_ _)); exact BK838.out) hb)
 have n2_ := Aside0.mk (below_step (by repeat (first | (with_reducible first | exact HB.out | apply below_alloc | apply pw_below_drewN | apply below_drew1 | refine below_set ?_ GE838.out) | exact HB.out)) hb)
 clear BK838
 clear HB
 have HO843 := n0_
 have BK838 := n1_
 have HB := n2_
 clear n0_ n1_ n2_
 clear hb ho9
 obtain ⟨Ao10, co10, eo10⟩ := Kd.R_slice HO843.out
 (first | subst eo10 | (injection eo10 with f1_ f2_ f3_; have f4_ := f1_.symm; have f5_ := f3_.symm; clear f1_ f2_ f3_; subst f4_; subst f5_))
 refine hK.out _ _ ⟨(blk_cell BK838.out 0).trans rfl, (blk_cell BK838.out 1).trans rfl, (blk_cell BK838.out 2).trans rfl⟩ (fun hHeld => ?_)
 clear hK K
 refine norm_ (a' := ?_) ?_ ?_
 rotate_left
 ·show Act.put _ (some 9) _ = _
  simp only [Act.put, List.setIfInBounds_toArray, List.set_cons_zero, List.set_cons_succ, i64_w, i32_w]
  rfl
 refine one_ (i := 7) (N := some 10) #[true, true, true, true, true, true, true, true, false] rfl rfl (one_of HT_.out (by kernel_rfl)) (by decide) (fun K hK => ?_)
 refine goes_ Tryd.func72 (by kernel_rfl) rfl #[.slice Ao10 y841.length co10] (by rfl) rfl rfl (by (try simp only [List.map_toArray, List.map_cons, List.map_nil]); first | done | rfl | (simp only [List.length_drop, List.length_take]; rfl)) ?_
 with_reducible refine (hang_first.calls k _ _ y841 t844 _ ?side1 ?side2 A4.out).mono ?_
 (case side1 => repeat (first | exact (Kd.R_reads' HO843.out).2.2 | (with_reducible refine Kd.C_alloc ?_ _) | (with_reducible refine Kd.C_drewN ?_ _) | (with_reducible refine Kd.C_drew ?_)))
 (case side2 => exact (Kd.R_reads' HO843.out).2.1)
 rintro e w' ⟨rfl, ⟨nd, rfl⟩⟩
 refine ⟨_, rfl, ?_⟩
 refine hK.out _ _ ⟨(blk_cell BK838.out 0).trans rfl, (blk_cell BK838.out 1).trans rfl, (blk_cell BK838.out 2).trans rfl⟩ (fun hHeld => ?_)
 clear hK K
 refine norm_ (a' := ?_) ?_ ?_
 rotate_left
 ·show Act.put _ (some 10) _ = _
  simp only [Act.put, List.setIfInBounds_toArray, List.set_cons_zero, List.set_cons_succ, i64_w, i32_w]
  rfl
 refine pure_ (i := 8) (N := some 2) (v := ?_) (a' := ?_) #[true, true, true, true, true, true, true, true, true] rfl rfl (any_of HT_.out (by kernel_rfl)) (fun _ _ _ h => h) (Or.inl ⟨by rfl, ?_⟩) ?_ ?_
 rotate_left
 ·intro w'
  go_simp
  with_reducible rfl
 rotate_left
 ·simp only [Act.put, List.setIfInBounds_toArray, List.set_cons_zero, List.set_cons_succ, i64_w, i32_w]
  rfl
 refine done_ (done_of HT_.out (by kernel_rfl)) ?_
 try go_wp2
 go_ret
 exact ⟨by first | rfl | (simp [errW_none, errW_some] <;> rfl) | (simp [*, errW_none, errW_some] <;> rfl), by repeat (first | (with_reducible first | exact HB.out | apply below_alloc | apply pw_below_drewN | apply below_drew1 | refine below_set ?_ GE838.out) | exact HB.out)⟩
end Go.Proofs.YtppighiaffppkaaDoor.H
end
section
namespace Go.Proofs.YtppighiaffppkaaDoor.H
open Go.RowKit Go.Proofs.YtppighiaffppkaaDoorW.PrintWords Go.Proofs.YtppighiaffppkaaDoorW.PrintLast Go.Proofs.YtppighiaffppkaaDoorW.PrintMore Go.Shelf
def hang_secErrs.f (k : Nat) (l : List S131) : Option (List Int) := api_Errno_106.f (fun x0 x1 x2 => hang_checkSections_1.f k x0 x1 x2) k l
theorem hang_secErrs.calls (k : Nat) (A0 : Option Addr) (c0 : Nat) (l0 : List (S131)) (r : List Int) (w : World) (hr0 : Kd.C k131 w A0 l0.length l0) (hc0 : l0.length ≤ c0) (h : hang_secErrs.f k l0 = some r) :
  Calls Tryd.prog 106 #[.slice A0 l0.length c0, .func (.func 107) #[] #[]] w fun e w' => ∃ v0_ : Value, e = .returned (v0_) ∧ Kd.R (Kd.int .i64) 26 w' w.heap.size (fun _ => True) v0_ r ∧ Below w.heap.size w w' :=
 api_Errno_106.calls k A0 c0 l0 _ r w 107 #[] (enters_of Tryd.func107 (by kernel_rfl) rfl) (fun x0 x1 x2 r_ w1 _ hx => hang_checkSections_1.calls k x0 x1 x2 r_ w1 hx) hr0 hc0 h
end Go.Proofs.YtppighiaffppkaaDoor.H
end
section
namespace Go.Proofs.YtppighiaffppkaaDoor.H
open Go.RowKit Go.Proofs.YtppighiaffppkaaDoorW.PrintWords Go.Proofs.YtppighiaffppkaaDoorW.PrintLast Go.Proofs.YtppighiaffppkaaDoorW.PrintMore
attribute [local go_sem] max2_int min2_int max_two min_two max_three min_three max_four min_four
set_option linter.unusedVariables false
set_option linter.unusedSimpArgs false
def hang_checkSections.f (k : Nat) (l0 : List (S131)) : Option (Int) := (hang_when.f ((l0.length : Int) == 0) 12).bind fun t220 => ((hang_when.f (decide ((l0.length : Int) > 32)) 5).bind fun t221 => ((hang_first.f k (([t220, t221] : List Int))).bind fun t225 => (if t225 = 0 then ((hang_secErrs.f k l0).bind fun t226 => ((hang_first.f k t226).bind fun t229 => (some t229))) else (some t225))))
set_option maxHeartbeats 8000000 in
set_option maxRecDepth 100000 in
theorem hang_checkSections.calls (k : Nat) (A0 : Option Addr) (c0 : Nat) (l0 : List (S131)) (r : Int) (w : World) (hr0 : Kd.C k131 w A0 l0.length l0) (hc0 : l0.length ≤ c0) (h : hang_checkSections.f k l0 = some r) :
  Calls Tryd.prog 82 #[.slice A0 l0.length c0] w fun e w' => e = .returned (.int .i64 r) ∧ Below w.heap.size w w' := by
 have HR0 := Aside0.mk hr0
 have HC0 := Aside0.mk hc0
 clear hr0 hc0
 have HB := Aside0.mk (Below.refl w.heap.size w)
 have H : ((hang_when.f ((l0.length : Int) == 0) 12).bind fun t220 => ((hang_when.f (decide ((l0.length : Int) > 32)) 5).bind fun t221 => ((hang_first.f k (([t220, t221] : List Int))).bind fun t225 => (if t225 = 0 then ((hang_secErrs.f k l0).bind fun t226 => ((hang_first.f k t226).bind fun t229 => (some t229))) else (some t225))))) = some r := h
 clear h
 replace H := Option.bind_eq_some_iff.mp H
 obtain ⟨t220, A20, H⟩ := H
 replace H : ((hang_when.f (decide ((l0.length : Int) > 32)) 5).bind fun t221 => ((hang_first.f k (([t220, t221] : List Int))).bind fun t225 => (if t225 = 0 then ((hang_secErrs.f k l0).bind fun t226 => ((hang_first.f k t226).bind fun t229 => (some t229))) else (some t225)))) = some r := H
 have A2 := Aside0.mk A20
 clear A20
 replace H := Option.bind_eq_some_iff.mp H
 obtain ⟨t221, A30, H⟩ := H
 replace H : ((hang_first.f k (([t220, t221] : List Int))).bind fun t225 => (if t225 = 0 then ((hang_secErrs.f k l0).bind fun t226 => ((hang_first.f k t226).bind fun t229 => (some t229))) else (some t225))) = some r := H
 have A3 := Aside0.mk A30
 clear A30
 obtain ⟨y222, hy222⟩ : ∃ y_ : List Int, y_ = (([t220, t221] : List Int)) := ⟨_, rfl⟩
 replace H : ((hang_first.f k y222).bind fun t225 => (if t225 = 0 then ((hang_secErrs.f k l0).bind fun t226 => ((hang_first.f k t226).bind fun t229 => (some t229))) else (some t225))) = some r := by first | (rw [hy222]; with_reducible exact H) | (have H2_ := (Option.bind_some _ _).symm.trans H; rw [hy222]; with_reducible exact H2_) | (have H2_ := (Option.bind_some _ _).symm.trans H; with_reducible exact H2_) | with_reducible exact H | (rw [hy222]; exact H) | exact H
 have Ny222 := Aside0.mk hy222
 clear hy222
 replace H := Option.bind_eq_some_iff.mp H
 obtain ⟨t225, A40, H⟩ := H
 replace H : (if t225 = 0 then ((hang_secErrs.f k l0).bind fun t226 => ((hang_first.f k t226).bind fun t229 => (some t229))) else (some t225)) = some r := H
 have A4 := Aside0.mk A40
 clear A40
 by_cases c5 : t225 = 0
 ·rw [if_pos c5] at H
  have c5b0 : (t225 == 0) = true := beq_iff_eq.mpr c5
  have c5b1 : (t225 != 0) = false := bne_eq_false_iff_eq.mpr c5
  clear c5
  replace H := Option.bind_eq_some_iff.mp H
  obtain ⟨t226, A60, H⟩ := H
  replace H : ((hang_first.f k t226).bind fun t229 => (some t229)) = some r := H
  have A6 := Aside0.mk A60
  clear A60
  replace H := Option.bind_eq_some_iff.mp H
  obtain ⟨t229, A70, H⟩ := H
  replace H : (some t229) = some r := H
  have A7 := Aside0.mk A70
  clear A70
  obtain rfl := Option.some.inj H
  go_enter Tryd.func82, Tryd.ntmps82
  go_wp2_with (first | ((with_reducible refine gate_callee (f := 74) rfl ?_); refine goesL_ (some 7) rfl rfl Tryd.func74 (by kernel_rfl) rfl #[.bool ((l0.length : Int) == 0), .int .i64 12] rfl (by (try simp only [List.map_toArray, List.map_cons, List.map_nil]); first | done | rfl | (simp only [List.length_drop, List.length_take]; rfl)) ?_; (with_reducible refine (hang_when.calls ((l0.length : Int) == 0) 12 t220 _ A2.out).mono ?_); rintro e w' ⟨rfl, ⟨nd, rfl⟩⟩; refine ⟨_, rfl, ?_⟩) | ((with_reducible refine gate_callee (f := 74) rfl ?_); refine goesL_ (some 11) rfl rfl Tryd.func74 (by kernel_rfl) rfl #[.bool (decide ((l0.length : Int) > 32)), .int .i64 5] rfl (by (try simp only [List.map_toArray, List.map_cons, List.map_nil]); first | done | rfl | (simp only [List.length_drop, List.length_take]; rfl)) ?_; (with_reducible refine (hang_when.calls (decide ((l0.length : Int) > 32)) 5 t221 _ A3.out).mono ?_); rintro e w' ⟨rfl, ⟨nd, rfl⟩⟩; refine ⟨_, rfl, ?_⟩) | ((with_reducible refine gate_dst (N := 12) rfl ?_); refine Kd.R_lit (Kd.int .i64) _ 26 ?hg (N := 12) ?hd (xs := ([t220, t221] : List Int)) (inner := [.int .i64 t220, .int .i64 t221]) (ok := fun _ => True) (okp := fun _ => True) ?hr ?hp (fun _ hk => hk) trivial (Below.refl _ _) (Nat.le_refl _) (by simp) ?_; (case hd => rfl); (case hg => rfl); (case hr => first | (go_simp; done) | (go_simp; rfl)); (case hp => exact (Reps.one (show Kd.M (Kd.int .i64) _ _ _ t220 [.int .i64 t220] from rfl) (Reps.one (show Kd.M (Kd.int .i64) _ _ _ t221 [.int .i64 t221] from rfl) (Reps.none _ _)))); intro v223 w8 ho9 hb hg_ hnew_; clear hg_ hnew_; (first | rw [← Ny222.out] at ho9 | (simp only [Int.reduceToNat] at ho9; rw [← Ny222.out] at ho9)); have n0_ := Aside0.mk (Kd.R_lower ho9 (below_size (by repeat (first | (with_reducible first | exact HB.out | apply below_alloc | apply pw_below_drewN | apply below_drew1) | exact HB.out)))); have n1_ := Aside0.mk (below_step (by repeat (first | (with_reducible first | exact HB.out | apply below_alloc | apply pw_below_drewN | apply below_drew1) | exact HB.out)) hb); clear HB; have HO224 := n0_; have HB := n1_; clear n0_ n1_; clear hb ho9; obtain ⟨Ao10, co10, eo10⟩ := Kd.R_slice HO224.out; subst eo10) | ((with_reducible refine gate_callee (f := 72) rfl ?_); refine goesL_ (some 13) rfl rfl Tryd.func72 (by kernel_rfl) rfl #[.slice Ao10 y222.length co10] rfl (by (try simp only [List.map_toArray, List.map_cons, List.map_nil]); first | done | rfl | (simp only [List.length_drop, List.length_take]; rfl)) ?_; (with_reducible refine (hang_first.calls k _ _ y222 t225 _ ?side1 ?side2 A4.out).mono ?_); (case side1 => repeat (first | exact (Kd.R_reads' HO224.out).2.2 | (with_reducible refine Kd.C_alloc ?_ _) | (with_reducible refine Kd.C_drewN ?_ _) | (with_reducible refine Kd.C_drew ?_))); (case side2 => exact (Kd.R_reads' HO224.out).2.1); rintro e w' ⟨rfl, ⟨nd, rfl⟩⟩; refine ⟨_, rfl, ?_⟩) | ((with_reducible refine gate_callee (f := 106) rfl ?_); refine goesL_ (some 18) rfl rfl Tryd.func106 (by kernel_rfl) rfl #[.slice A0 l0.length c0, .func (.func 107) #[] #[]] rfl (by (try simp only [List.map_toArray, List.map_cons, List.map_nil]); first | done | rfl | (simp only [List.length_drop, List.length_take]; rfl)) ?_; (with_reducible refine (hang_secErrs.calls k _ _ l0 t226 _ ?side1 ?side2 A6.out).mono ?_); (case side1 => repeat (first | exact (Kd.C_below HR0.out (by repeat (first | (with_reducible first | exact HB.out | apply below_alloc | apply pw_below_drewN | apply below_drew1) | exact HB.out))) | (with_reducible refine Kd.C_alloc ?_ _) | (with_reducible refine Kd.C_drewN ?_ _) | (with_reducible refine Kd.C_drew ?_))); (case side2 => exact HC0.out); rintro e w11 ⟨v227, rfl, ho0, hb⟩; refine ⟨_, rfl, ?_⟩; have n0_ := Aside0.mk (Kd.R_below (by (with_reducible repeat (first | apply Kd.R_alloc | apply Kd.R_drewN | apply Kd.R_drew)); exact HO224.out) hb); have n1_ := Aside0.mk (Kd.R_lower ho0 (below_size (by repeat (first | (with_reducible first | exact HB.out | apply below_alloc | apply pw_below_drewN | apply below_drew1) | exact HB.out)))); have n2_ := Aside0.mk (below_step (by repeat (first | (with_reducible first | exact HB.out | apply below_alloc | apply pw_below_drewN | apply below_drew1) | exact HB.out)) hb); clear HO224; clear HB; have HO224 := n0_; have HO228 := n1_; have HB := n2_; clear n0_ n1_ n2_; (try clear hb); (try clear hb2); (try clear hk); (try clear hi); (try clear ho0); obtain ⟨Ao12, co12, eo12⟩ := Kd.R_slice HO228.out; subst eo12) | ((with_reducible refine gate_callee (f := 72) rfl ?_); refine goesL_ (some 19) rfl rfl Tryd.func72 (by kernel_rfl) rfl #[.slice Ao12 t226.length co12] rfl (by (try simp only [List.map_toArray, List.map_cons, List.map_nil]); first | done | rfl | (simp only [List.length_drop, List.length_take]; rfl)) ?_; (with_reducible refine (hang_first.calls k _ _ t226 t229 _ ?side1 ?side2 A7.out).mono ?_); (case side1 => repeat (first | exact (Kd.R_reads' HO228.out).2.2 | (with_reducible refine Kd.C_alloc ?_ _) | (with_reducible refine Kd.C_drewN ?_ _) | (with_reducible refine Kd.C_drew ?_))); (case side2 => exact (Kd.R_reads' HO228.out).2.1); rintro e w' ⟨rfl, ⟨nd, rfl⟩⟩; refine ⟨_, rfl, ?_⟩))
  go_ret
  exact ⟨by first | rfl | (simp [errW_none, errW_some] <;> rfl) | (simp [*, errW_none, errW_some] <;> rfl), by repeat (first | (with_reducible first | exact HB.out | apply below_alloc | apply pw_below_drewN | apply below_drew1) | exact HB.out)⟩
 ·rw [if_neg c5] at H
  have c5b0 : (t225 == 0) = false := beq_eq_false_iff_ne.mpr c5
  have c5b1 : (t225 != 0) = true := bne_iff_ne.mpr c5
  obtain rfl := Option.some.inj H
  go_enter Tryd.func82, Tryd.ntmps82
  go_wp2_with (first | ((with_reducible refine gate_callee (f := 74) rfl ?_); refine goesL_ (some 7) rfl rfl Tryd.func74 (by kernel_rfl) rfl #[.bool ((l0.length : Int) == 0), .int .i64 12] rfl (by (try simp only [List.map_toArray, List.map_cons, List.map_nil]); first | done | rfl | (simp only [List.length_drop, List.length_take]; rfl)) ?_; (with_reducible refine (hang_when.calls ((l0.length : Int) == 0) 12 t220 _ A2.out).mono ?_); rintro e w' ⟨rfl, ⟨nd, rfl⟩⟩; refine ⟨_, rfl, ?_⟩) | ((with_reducible refine gate_callee (f := 74) rfl ?_); refine goesL_ (some 11) rfl rfl Tryd.func74 (by kernel_rfl) rfl #[.bool (decide ((l0.length : Int) > 32)), .int .i64 5] rfl (by (try simp only [List.map_toArray, List.map_cons, List.map_nil]); first | done | rfl | (simp only [List.length_drop, List.length_take]; rfl)) ?_; (with_reducible refine (hang_when.calls (decide ((l0.length : Int) > 32)) 5 t221 _ A3.out).mono ?_); rintro e w' ⟨rfl, ⟨nd, rfl⟩⟩; refine ⟨_, rfl, ?_⟩) | ((with_reducible refine gate_dst (N := 12) rfl ?_); refine Kd.R_lit (Kd.int .i64) _ 26 ?hg (N := 12) ?hd (xs := ([t220, t221] : List Int)) (inner := [.int .i64 t220, .int .i64 t221]) (ok := fun _ => True) (okp := fun _ => True) ?hr ?hp (fun _ hk => hk) trivial (Below.refl _ _) (Nat.le_refl _) (by simp) ?_; (case hd => rfl); (case hg => rfl); (case hr => first | (go_simp; done) | (go_simp; rfl)); (case hp => exact (Reps.one (show Kd.M (Kd.int .i64) _ _ _ t220 [.int .i64 t220] from rfl) (Reps.one (show Kd.M (Kd.int .i64) _ _ _ t221 [.int .i64 t221] from rfl) (Reps.none _ _)))); intro v223 w13 ho14 hb hg_ hnew_; clear hg_ hnew_; (first | rw [← Ny222.out] at ho14 | (simp only [Int.reduceToNat] at ho14; rw [← Ny222.out] at ho14)); have n0_ := Aside0.mk (Kd.R_lower ho14 (below_size (by repeat (first | (with_reducible first | exact HB.out | apply below_alloc | apply pw_below_drewN | apply below_drew1) | exact HB.out)))); have n1_ := Aside0.mk (below_step (by repeat (first | (with_reducible first | exact HB.out | apply below_alloc | apply pw_below_drewN | apply below_drew1) | exact HB.out)) hb); clear HB; have HO224 := n0_; have HB := n1_; clear n0_ n1_; clear hb ho14; obtain ⟨Ao15, co15, eo15⟩ := Kd.R_slice HO224.out; subst eo15) | ((with_reducible refine gate_callee (f := 72) rfl ?_); refine goesL_ (some 13) rfl rfl Tryd.func72 (by kernel_rfl) rfl #[.slice Ao15 y222.length co15] rfl (by (try simp only [List.map_toArray, List.map_cons, List.map_nil]); first | done | rfl | (simp only [List.length_drop, List.length_take]; rfl)) ?_; (with_reducible refine (hang_first.calls k _ _ y222 t225 _ ?side1 ?side2 A4.out).mono ?_); (case side1 => repeat (first | exact (Kd.R_reads' HO224.out).2.2 | (with_reducible refine Kd.C_alloc ?_ _) | (with_reducible refine Kd.C_drewN ?_ _) | (with_reducible refine Kd.C_drew ?_))); (case side2 => exact (Kd.R_reads' HO224.out).2.1); rintro e w' ⟨rfl, ⟨nd, rfl⟩⟩; refine ⟨_, rfl, ?_⟩))
  go_ret
  exact ⟨by first | rfl | (simp [errW_none, errW_some] <;> rfl) | (simp [*, errW_none, errW_some] <;> rfl), by repeat (first | (with_reducible first | exact HB.out | apply below_alloc | apply pw_below_drewN | apply below_drew1) | exact HB.out)⟩
end Go.Proofs.YtppighiaffppkaaDoor.H
end
section
namespace Go.Proofs.YtppighiaffppkaaDoor.H
open Go.RowKit Go.Proofs.YtppighiaffppkaaDoorW.PrintWords Go.Proofs.YtppighiaffppkaaDoorW.PrintLast Go.Proofs.YtppighiaffppkaaDoorW.PrintMore
attribute [local go_sem] max2_int min2_int max_two min_two max_three min_three max_four min_four
set_option linter.unusedVariables false
set_option linter.unusedSimpArgs false
def hang_large.f (a0_0 : Int) (a0_1 : Int) : Option (Int) := if a0_0 > 999999999 then ((hang_when.f true 4).bind fun t215 => (some t215)) else ((hang_when.f (decide (a0_1 > 999999999)) 4).bind fun t216 => (some t216))
set_option maxHeartbeats 8000000 in
set_option maxRecDepth 100000 in
theorem hang_large.calls (a0_0 : Int) (a0_1 : Int) (r : Int) (w : World) (h : hang_large.f a0_0 a0_1 = some r) :
  Calls Tryd.prog 84 #[.agg #[.int .i64 a0_0, .int .i64 a0_1]] w fun e w' => e = .returned (.int .i64 r) ∧ Below w.heap.size w w' := by
 have hu23 := Tryd.underlying23
 have HB := Aside0.mk (Below.refl w.heap.size w)
 have H : (if a0_0 > 999999999 then ((hang_when.f true 4).bind fun t215 => (some t215)) else ((hang_when.f (decide (a0_1 > 999999999)) 4).bind fun t216 => (some t216))) = some r := h
 clear h
 by_cases c2 : a0_0 > 999999999
 ·rw [if_pos c2] at H
  have c2b0 : decide (999999999 < a0_0) = true := decide_eq_true c2
  clear c2
  replace H := Option.bind_eq_some_iff.mp H
  obtain ⟨t215, A30, H⟩ := H
  replace H : (some t215) = some r := H
  have A3 := Aside0.mk A30
  clear A30
  obtain rfl := Option.some.inj H
  go_enter Tryd.func84, Tryd.ntmps84
  go_wp2_with (first | ((with_reducible refine gate_dst (N := 1) rfl ?_); refine box_event ?hg (N := 1) ?hd (cs := #[.int .i64 a0_0, .int .i64 a0_1]) (t := 23) ?hr ?_; (case hd => rfl); (case hg => rfl); (case hr => first | (go_simp; done) | (go_simp; rfl)); intro gb214 hg w4 hbox hb; have n0_ := Aside0.mk (below_step (by repeat (first | (with_reducible first | exact HB.out | apply below_alloc | apply pw_below_drewN | apply below_drew1) | exact HB.out)) hb); have n1_ := Aside0.mk (hbox); have n2_ := Aside0.mk ((by rw [hg]; exact (below_size (by repeat (first | (with_reducible first | exact HB.out | apply below_alloc | apply pw_below_drewN | apply below_drew1) | exact HB.out))) : w.heap.size ≤ gb214)); have n3_ := Aside0.mk ((by rw [hg]; exact (below_size (by repeat (first | (with_reducible first | exact HB.out | apply below_alloc | apply pw_below_drewN | apply below_drew1) | exact HB.out))) : w.heap.size ≤ gb214)); clear HB; have HB := n0_; have BK214 := n1_; have GW214 := n2_; have GE214 := n3_; clear n0_ n1_ n2_ n3_; clear hb hbox hg; have hcz5_0 : w4.cell? ⟨gb214, 0, none⟩ = some (.int .i64 a0_0) := (blk_cell BK214.out 0).trans rfl; have hcz5_1 : w4.cell? ⟨gb214, 1, none⟩ = some (.int .i64 a0_1) := (blk_cell BK214.out 1).trans rfl; have hfz5_0 := blk_frozen BK214.out 0; have hfz5_1 := blk_frozen BK214.out 1) | ((with_reducible refine gate_callee (f := 74) rfl ?_); refine goesL_ (some 11) rfl rfl Tryd.func74 (by kernel_rfl) rfl #[.bool true, .int .i64 4] rfl (by (try simp only [List.map_toArray, List.map_cons, List.map_nil]); first | done | rfl | (simp only [List.length_drop, List.length_take]; rfl)) ?_; (with_reducible refine (hang_when.calls true 4 t215 _ A3.out).mono ?_); rintro e w' ⟨rfl, ⟨nd, rfl⟩⟩; refine ⟨_, rfl, ?_⟩))
  go_ret
  exact ⟨by first | rfl | (simp [errW_none, errW_some] <;> rfl) | (simp [*, errW_none, errW_some] <;> rfl), by repeat (first | (with_reducible first | exact HB.out | apply below_alloc | apply pw_below_drewN | apply below_drew1 | refine below_set ?_ GE214.out) | exact HB.out)⟩
 ·rw [if_neg c2] at H
  have c2b0 : decide (999999999 < a0_0) = false := decide_eq_false c2
  clear c2
  replace H := Option.bind_eq_some_iff.mp H
  obtain ⟨t216, A60, H⟩ := H
  replace H : (some t216) = some r := H
  have A6 := Aside0.mk A60
  clear A60
  obtain rfl := Option.some.inj H
  go_enter Tryd.func84, Tryd.ntmps84
  go_wp2_with (first | ((with_reducible refine gate_dst (N := 1) rfl ?_); refine box_event ?hg (N := 1) ?hd (cs := #[.int .i64 a0_0, .int .i64 a0_1]) (t := 23) ?hr ?_; (case hd => rfl); (case hg => rfl); (case hr => first | (go_simp; done) | (go_simp; rfl)); intro gb214 hg w7 hbox hb; have n0_ := Aside0.mk (below_step (by repeat (first | (with_reducible first | exact HB.out | apply below_alloc | apply pw_below_drewN | apply below_drew1) | exact HB.out)) hb); have n1_ := Aside0.mk (hbox); have n2_ := Aside0.mk ((by rw [hg]; exact (below_size (by repeat (first | (with_reducible first | exact HB.out | apply below_alloc | apply pw_below_drewN | apply below_drew1) | exact HB.out))) : w.heap.size ≤ gb214)); have n3_ := Aside0.mk ((by rw [hg]; exact (below_size (by repeat (first | (with_reducible first | exact HB.out | apply below_alloc | apply pw_below_drewN | apply below_drew1) | exact HB.out))) : w.heap.size ≤ gb214)); clear HB; have HB := n0_; have BK214 := n1_; have GW214 := n2_; have GE214 := n3_; clear n0_ n1_ n2_ n3_; clear hb hbox hg; have hcz8_0 : w7.cell? ⟨gb214, 0, none⟩ = some (.int .i64 a0_0) := (blk_cell BK214.out 0).trans rfl; have hcz8_1 : w7.cell? ⟨gb214, 1, none⟩ = some (.int .i64 a0_1) := (blk_cell BK214.out 1).trans rfl; have hfz8_0 := blk_frozen BK214.out 0; have hfz8_1 := blk_frozen BK214.out 1) | ((with_reducible refine gate_callee (f := 74) rfl ?_); refine goesL_ (some 11) rfl rfl Tryd.func74 (by kernel_rfl) rfl #[.bool (decide (a0_1 > 999999999)), .int .i64 4] rfl (by (try simp only [List.map_toArray, List.map_cons, List.map_nil]); first | done | rfl | (simp only [List.length_drop, List.length_take]; rfl)) ?_; (with_reducible refine (hang_when.calls (decide (a0_1 > 999999999)) 4 t216 _ A6.out).mono ?_); rintro e w' ⟨rfl, ⟨nd, rfl⟩⟩; refine ⟨_, rfl, ?_⟩))
  go_ret
  exact ⟨by first | rfl | (simp [errW_none, errW_some] <;> rfl) | (simp [*, errW_none, errW_some] <;> rfl), by repeat (first | (with_reducible first | exact HB.out | apply below_alloc | apply pw_below_drewN | apply below_drew1 | refine below_set ?_ GE214.out) | exact HB.out)⟩
end Go.Proofs.YtppighiaffppkaaDoor.H
end
section
namespace Go.Proofs.YtppighiaffppkaaDoor.H
open Go.RowKit Go.Proofs.YtppighiaffppkaaDoorW.PrintWords Go.Proofs.YtppighiaffppkaaDoorW.PrintLast Go.Proofs.YtppighiaffppkaaDoorW.PrintMore
open Go.Shelf
attribute [local go_sem] Oper.semAt_some
attribute [local go_sem] max2_int min2_int max_two min_two max_three min_three max_four min_four
set_option linter.unusedVariables false
set_option linter.unusedSimpArgs false
def markOk (l : List S131) : Bool := l.all (fun s => s.f1.f1 != 0 && decide (s.f0 ≤ 4611686018427387904)) && decide (l.length ≤ 4611686018427387904)
def hang_lastMark.f (l : List S131) (bar : Int) : Option Int := if markOk l = true then some ((markAll bar l).getLast?.getD 0) else none
theorem markOk_parts {l : List S131} (h : markOk l = true) : (∀ s ∈ l, s.f1.f1 ≠ 0) ∧ (∀ s ∈ l, s.f0 ≤ 4611686018427387904) ∧ l.length ≤ 4611686018427387904 := by
 unfold markOk at h
 simp only [Bool.and_eq_true, List.all_eq_true, bne_iff_ne, decide_eq_true_eq] at h
 exact ⟨fun s hs => (h.1 s hs).1, fun s hs => (h.1 s hs).2, h.2⟩
theorem hang_lastMark.ok {l : List S131} {bar t : Int} (h : hang_lastMark.f l bar = some t) : (∀ s ∈ l, s.f1.f1 ≠ 0) ∧ (∀ s ∈ l, s.f0 ≤ 4611686018427387904) ∧ l.length ≤ 4611686018427387904 ∧ t = (markAll bar l).getLast?.getD 0 := by
 unfold hang_lastMark.f at h
 split at h
 ·rename_i h'
  have := markOk_parts h'
  exact ⟨this.1, this.2.1, this.2.2, (Option.some.inj h).symm⟩
 ·cases h
theorem own_blk {β : Type} (B g : Nat) (cs : β → Array Value) (t : TypeId) : OwnFrom B (fun (s : β) W => W.heap[g]? = some (.cells (cs s) t (0, 0))) := fun s W W' row hs hg hr =>
 (hg.block g (blk_lt hs) (fun e => by obtain ⟨_, o, ho, hc⟩ := hr g e.symm; rw [hs] at ho; cases ho; cases hc)).trans hs
def hang_Rope.f (k : Nat) (l0 : List (S131)) (a1 : Int) : Option (Int × Int × Int) := (hang_checkSections.f k l0).bind fun t218 => ((hang_checkBar.f a1).bind fun t219 => ((hang_first.f k (([t218, t219] : List Int))).bind fun t223 => (if t223 = 0 then ((hang_lastMark.f l0 a1).bind fun t224 => ((hang_ratio.f k t224 2329089562800).bind fun bt225 => ((hang_large.f bt225.1 bt225.2).bind fun t228 => (if t228 = 0 then (some (bt225.1, bt225.2, 0)) else (some (0, 0, t228)))))) else (some (0, 0, t223)))))
set_option maxHeartbeats 8000000 in
set_option maxRecDepth 100000 in
theorem hang_Rope.calls (k : Nat) (A0 : Option Addr) (c0 : Nat) (l0 : List (S131)) (a1 : Int) (r1 : Int) (r2 : Int) (r3 : Int) (w : World) (hr0 : Kd.C k131 w A0 l0.length l0) (hc0 : l0.length ≤ c0) (h : hang_Rope.f k l0 a1 = some (r1, r2, r3)) :
  Calls Tryd.prog 39 #[.slice A0 l0.length c0, .int .i64 a1] w fun e w' => e = .returned (.tuple #[.agg #[.int .i64 r1, .int .i64 r2], .int .i64 r3]) ∧ Below w.heap.size w w' := by
 have hu23 := Tryd.underlying23
 have HR0 := Aside0.mk hr0
 have HC0 := Aside0.mk hc0
 clear hr0 hc0
 have HB := Aside0.mk (Below.refl w.heap.size w)
 have H : ((hang_checkSections.f k l0).bind fun t218 => ((hang_checkBar.f a1).bind fun t219 => ((hang_first.f k (([t218, t219] : List Int))).bind fun t223 => (if t223 = 0 then ((hang_lastMark.f l0 a1).bind fun t224 => ((hang_ratio.f k t224 2329089562800).bind fun bt225 => ((hang_large.f bt225.1 bt225.2).bind fun t228 => (if t228 = 0 then (some (bt225.1, bt225.2, 0)) else (some (0, 0, t228)))))) else (some (0, 0, t223)))))) = some (r1, r2, r3) := h
 clear h
 replace H := Option.bind_eq_some_iff.mp H
 obtain ⟨t218, A30, H⟩ := H
 replace H : ((hang_checkBar.f a1).bind fun t219 => ((hang_first.f k (([t218, t219] : List Int))).bind fun t223 => (if t223 = 0 then ((hang_lastMark.f l0 a1).bind fun t224 => ((hang_ratio.f k t224 2329089562800).bind fun bt225 => ((hang_large.f bt225.1 bt225.2).bind fun t228 => (if t228 = 0 then (some (bt225.1, bt225.2, 0)) else (some (0, 0, t228)))))) else (some (0, 0, t223))))) = some (r1, r2, r3) := H
 have A3 := Aside0.mk A30
 clear A30
 replace H := Option.bind_eq_some_iff.mp H
 obtain ⟨t219, A40, H⟩ := H
 replace H : ((hang_first.f k (([t218, t219] : List Int))).bind fun t223 => (if t223 = 0 then ((hang_lastMark.f l0 a1).bind fun t224 => ((hang_ratio.f k t224 2329089562800).bind fun bt225 => ((hang_large.f bt225.1 bt225.2).bind fun t228 => (if t228 = 0 then (some (bt225.1, bt225.2, 0)) else (some (0, 0, t228)))))) else (some (0, 0, t223)))) = some (r1, r2, r3) := H
 have A4 := Aside0.mk A40
 clear A40
 obtain ⟨y220, hy220⟩ : ∃ y_ : List Int, y_ = (([t218, t219] : List Int)) := ⟨_, rfl⟩
 replace H : ((hang_first.f k y220).bind fun t223 => (if t223 = 0 then ((hang_lastMark.f l0 a1).bind fun t224 => ((hang_ratio.f k t224 2329089562800).bind fun bt225 => ((hang_large.f bt225.1 bt225.2).bind fun t228 => (if t228 = 0 then (some (bt225.1, bt225.2, 0)) else (some (0, 0, t228)))))) else (some (0, 0, t223)))) = some (r1, r2, r3) := by first | (rw [hy220]; with_reducible exact H) | (have H2_ := (Option.bind_some _ _).symm.trans H; rw [hy220]; with_reducible exact H2_) | (have H2_ := (Option.bind_some _ _).symm.trans H; with_reducible exact H2_) | with_reducible exact H | (rw [hy220]; exact H) | exact H
 have Ny220 := Aside0.mk hy220
 clear hy220
 replace H := Option.bind_eq_some_iff.mp H
 obtain ⟨t223, A50, H⟩ := H
 replace H : (if t223 = 0 then ((hang_lastMark.f l0 a1).bind fun t224 => ((hang_ratio.f k t224 2329089562800).bind fun bt225 => ((hang_large.f bt225.1 bt225.2).bind fun t228 => (if t228 = 0 then (some (bt225.1, bt225.2, 0)) else (some (0, 0, t228)))))) else (some (0, 0, t223))) = some (r1, r2, r3) := H
 have A5 := Aside0.mk A50
 clear A50
 by_cases c6 : t223 = 0
 ·rw [if_pos c6] at H
  have c6b0 : (t223 == 0) = true := beq_iff_eq.mpr c6
  have c6b1 : (t223 != 0) = false := bne_eq_false_iff_eq.mpr c6
  clear c6
  replace H := Option.bind_eq_some_iff.mp H
  obtain ⟨t224, A70, H⟩ := H
  replace H : ((hang_ratio.f k t224 2329089562800).bind fun bt225 => ((hang_large.f bt225.1 bt225.2).bind fun t228 => (if t228 = 0 then (some (bt225.1, bt225.2, 0)) else (some (0, 0, t228))))) = some (r1, r2, r3) := H
  have A7 := Aside0.mk A70
  clear A70
  replace H := Option.bind_eq_some_iff.mp H
  obtain ⟨⟨t225, t226⟩, A80, H⟩ := H
  replace H : ((hang_large.f t225 t226).bind fun t228 => (if t228 = 0 then (some (t225, t226, 0)) else (some (0, 0, t228)))) = some (r1, r2, r3) := H
  have A8 := Aside0.mk A80
  clear A80
  replace H := Option.bind_eq_some_iff.mp H
  obtain ⟨t228, A90, H⟩ := H
  replace H : (if t228 = 0 then (some (t225, t226, 0)) else (some (0, 0, t228))) = some (r1, r2, r3) := H
  have A9 := Aside0.mk A90
  clear A90
  by_cases c10 : t228 = 0
  ·rw [if_pos c10] at H
   have c10b0 : (t228 == 0) = true := beq_iff_eq.mpr c10
   have c10b1 : (t228 != 0) = false := bne_eq_false_iff_eq.mpr c10
   clear c10
   simp only [Option.some.injEq, Prod.mk.injEq] at H
   obtain ⟨rfl, rfl, rfl⟩ := H
   refine (callsIn_wide (n := 6)).1 (callsIn_of_wp_marks Tryd.func39 rfl trivial ?_ rfl)
   simp only [Tryd.ntmps39, List.size_toArray, List.length_cons, List.length_nil, Nat.reduceAdd, Nat.reduceSub, Array.replicate_succ, Array.replicate_zero, List.push_toArray, List.append_toArray, List.nil_append, List.cons_append]
   refine wpIn_wide.2 ?_
   go_wp2_with (first | ((with_reducible refine gate_dst (N := 4) rfl ?_); refine box_event ?hg (N := 4) ?hd (cs := #[.int .i64 0, .int .i64 0]) (t := 23) ?hr ?_; (case hd => rfl); (case hg => rfl); (case hr => first | (go_simp; done) | (go_simp; rfl)); intro gb217 hg w11 hbox hb; have n0_ := Aside0.mk (below_step (by repeat (first | (with_reducible first | exact HB.out | apply below_alloc | apply pw_below_drewN | apply below_drew1) | exact HB.out)) hb); have n1_ := Aside0.mk (hbox); have n2_ := Aside0.mk ((by rw [hg]; exact (below_size (by repeat (first | (with_reducible first | exact HB.out | apply below_alloc | apply pw_below_drewN | apply below_drew1) | exact HB.out))) : w.heap.size ≤ gb217)); have n3_ := Aside0.mk ((by rw [hg]; exact (below_size (by repeat (first | (with_reducible first | exact HB.out | apply below_alloc | apply pw_below_drewN | apply below_drew1) | exact HB.out))) : w.heap.size ≤ gb217)); clear HB; have HB := n0_; have BK217 := n1_; have GW217 := n2_; have GE217 := n3_; clear n0_ n1_ n2_ n3_; clear hb hbox hg) | ((with_reducible refine gate_callee (f := 82) rfl ?_); refine goesL_ (some 12) rfl rfl Tryd.func82 (by kernel_rfl) rfl #[.slice A0 l0.length c0] rfl (by (try simp only [List.map_toArray, List.map_cons, List.map_nil]); first | done | rfl | (simp only [List.length_drop, List.length_take]; rfl)) ?_; (with_reducible refine (hang_checkSections.calls k _ _ l0 t218 _ ?side1 ?side2 A3.out).mono ?_); (case side1 => repeat (first | exact (Kd.C_below HR0.out HB.out) | (with_reducible refine Kd.C_alloc ?_ _) | (with_reducible refine Kd.C_drewN ?_ _) | (with_reducible refine Kd.C_drew ?_))); (case side2 => exact HC0.out); rintro e w12 ⟨rfl, hb⟩; refine ⟨_, rfl, ?_⟩; have n0_ := Aside0.mk (blk_below (g := gb217) (o := .cells #[.int .i64 0, .int .i64 0] 23 (0, 0)) (by (with_reducible repeat (first | refine blk_drewN ?_ _ | refine blk_drew ?_ | refine blk_alloc ?_ _)); exact BK217.out) hb); have n1_ := Aside0.mk (below_step (by repeat (first | (with_reducible first | exact HB.out | apply below_alloc | apply pw_below_drewN | apply below_drew1 | refine below_set ?_ GE217.out) | exact HB.out)) hb); clear BK217; clear HB; have BK217 := n0_; have HB := n1_; clear n0_ n1_; (try clear hb); (try clear hb2); (try clear hk); (try clear hi)) | ((with_reducible refine gate_callee (f := 77) rfl ?_); refine goesL_ (some 14) rfl rfl Tryd.func77 (by kernel_rfl) rfl #[.int .i64 a1] rfl (by (try simp only [List.map_toArray, List.map_cons, List.map_nil]); first | done | rfl | (simp only [List.length_drop, List.length_take]; rfl)) ?_; (with_reducible refine (hang_checkBar.calls a1 t219 _ A4.out).mono ?_); rintro e w' ⟨rfl, ⟨nd, rfl⟩⟩; refine ⟨_, rfl, ?_⟩; (try (rw [drewN_self w12]; generalize hq_ : World.drewN w12 _ = w12; have n0_ : Aside0 (w12.heap[gb217]? = some (.cells #[.int .i64 0, .int .i64 0] 23 (0, 0))) := ⟨by rw [← hq_]; exact (by (with_reducible repeat (first | refine blk_drewN ?_ _ | refine blk_drew ?_ | refine blk_alloc ?_ _)); exact BK217.out)⟩; have n1_ : Aside0 (Below w.heap.size w w12) := ⟨by rw [← hq_]; exact (by repeat (first | (with_reducible first | exact HB.out | apply below_alloc | apply pw_below_drewN | apply below_drew1 | refine below_set ?_ GE217.out) | exact HB.out))⟩; clear BK217 HB hq_; have BK217 := n0_; have HB := n1_; clear n0_ n1_))) | ((with_reducible refine gate_dst (N := 15) rfl ?_); refine Kd.R_lit (Kd.int .i64) _ 26 ?hg (N := 15) ?hd (xs := ([t218, t219] : List Int)) (inner := [.int .i64 t218, .int .i64 t219]) (ok := fun _ => True) (okp := fun _ => True) ?hr ?hp (fun _ hk => hk) trivial (Below.refl _ _) (Nat.le_refl _) (by simp) ?_; (case hd => rfl); (case hg => rfl); (case hr => first | (go_simp; done) | (go_simp; rfl)); (case hp => exact (Reps.one (show Kd.M (Kd.int .i64) _ _ _ t218 [.int .i64 t218] from rfl) (Reps.one (show Kd.M (Kd.int .i64) _ _ _ t219 [.int .i64 t219] from rfl) (Reps.none _ _)))); intro v221 w13 ho14 hb hg_ hnew_; clear hg_ hnew_; (first | rw [← Ny220.out] at ho14 | (simp only [Int.reduceToNat] at ho14; rw [← Ny220.out] at ho14)); have n0_ := Aside0.mk (Kd.R_lower ho14 (below_size (by repeat (first | (with_reducible first | exact HB.out | apply below_alloc | apply pw_below_drewN | apply below_drew1 | refine below_set ?_ GE217.out) | exact HB.out)))); have n1_ := Aside0.mk (blk_below (g := gb217) (o := .cells #[.int .i64 0, .int .i64 0] 23 (0, 0)) (by (with_reducible repeat (first | refine blk_drewN ?_ _ | refine blk_drew ?_ | refine blk_alloc ?_ _)); exact BK217.out) hb); have n2_ := Aside0.mk (below_step (by repeat (first | (with_reducible first | exact HB.out | apply below_alloc | apply pw_below_drewN | apply below_drew1 | refine below_set ?_ GE217.out) | exact HB.out)) hb); clear BK217; clear HB; have HO222 := n0_; have BK217 := n1_; have HB := n2_; clear n0_ n1_ n2_; clear hb ho14; obtain ⟨Ao15, co15, eo15⟩ := Kd.R_slice HO222.out; subst eo15) | ((with_reducible refine gate_callee (f := 72) rfl ?_); refine goesL_ (some 16) rfl rfl Tryd.func72 (by kernel_rfl) rfl #[.slice Ao15 y220.length co15] rfl (by (try simp only [List.map_toArray, List.map_cons, List.map_nil]); first | done | rfl | (simp only [List.length_drop, List.length_take]; rfl)) ?_; (with_reducible refine (hang_first.calls k _ _ y220 t223 _ ?side1 ?side2 A5.out).mono ?_); (case side1 => repeat (first | exact (Kd.R_reads' HO222.out).2.2 | (with_reducible refine Kd.C_alloc ?_ _) | (with_reducible refine Kd.C_drewN ?_ _) | (with_reducible refine Kd.C_drew ?_))); (case side2 => exact (Kd.R_reads' HO222.out).2.1); rintro e w' ⟨rfl, ⟨nd, rfl⟩⟩; refine ⟨_, rfl, ?_⟩; (try (rw [drewN_self w13]; generalize hq_ : World.drewN w13 _ = w13; have n0_ : Aside0 (Kd.R (Kd.int .i64) 26 w13 w.heap.size (fun _ => True) (.slice Ao15 y220.length co15) y220) := ⟨by rw [← hq_]; exact (by (with_reducible repeat (first | apply Kd.R_alloc | apply Kd.R_drewN | apply Kd.R_drew)); exact HO222.out)⟩; have n1_ : Aside0 (w13.heap[gb217]? = some (.cells #[.int .i64 0, .int .i64 0] 23 (0, 0))) := ⟨by rw [← hq_]; exact (by (with_reducible repeat (first | refine blk_drewN ?_ _ | refine blk_drew ?_ | refine blk_alloc ?_ _)); exact BK217.out)⟩; have n2_ : Aside0 (Below w.heap.size w w13) := ⟨by rw [← hq_]; exact (by repeat (first | (with_reducible first | exact HB.out | apply below_alloc | apply pw_below_drewN | apply below_drew1 | refine below_set ?_ GE217.out) | exact HB.out))⟩; clear HO222 BK217 HB hq_; have HO222 := n0_; have BK217 := n1_; have HB := n2_; clear n0_ n1_ n2_))) | ((with_reducible refine gate_callee (f := 83) rfl ?_); refine goesL_ (some 23) rfl rfl Tryd.func83 (by kernel_rfl) rfl #[.slice A0 l0.length c0, .int .i64 a1] rfl (by (try simp only [List.map_toArray, List.map_cons, List.map_nil]); first | done | rfl) ?_; (with_reducible refine (hang_marks.calls A0 l0.length c0 a1 _).mono ?_); rintro e w' ⟨rfl, rfl⟩; refine ⟨_, rfl, ?_⟩))
   rename World => wq
   rename_i K_ aK_
   have hB0 : Below w.heap.size w (((wq.alloc (.cells #[.int .i64 0] 3)).alloc (.cells #[.slice A0 l0.length c0] 63)).alloc (.cells #[.int .i64 a1] 3)) := (by repeat (first | (with_reducible first | exact HB.out | apply below_alloc | apply pw_below_drewN | apply below_drew1 | refine below_set ?_ GE217.out) | exact HB.out))
   have hBq : Below wq.heap.size wq (((wq.alloc (.cells #[.int .i64 0] 3)).alloc (.cells #[.slice A0 l0.length c0] 63)).alloc (.cells #[.int .i64 a1] 3)) := (((Below.refl _ wq).alloc (Nat.le_refl _) _).alloc (by simp) _).alloc (by simp; omega) _
   have hk7 : (((wq.alloc (.cells #[.int .i64 0] 3)).alloc (.cells #[.slice A0 l0.length c0] 63)).alloc (.cells #[.int .i64 a1] 3)).heap[wq.heap.size]? = some (.cells #[.int .i64 0] 3 (0, 0)) := blk_alloc (blk_alloc (blk_new wq _) _) _
   have hk8 : (((wq.alloc (.cells #[.int .i64 0] 3)).alloc (.cells #[.slice A0 l0.length c0] 63)).alloc (.cells #[.int .i64 a1] 3)).heap[wq.heap.size + 1]? = some (.cells #[.slice A0 l0.length c0] 63 (0, 0)) := by have := blk_new (wq.alloc (.cells #[.int .i64 0] 3)) (.cells #[.slice A0 l0.length c0] 63); rw [World.size_alloc] at this; exact blk_alloc this _
   have hk9 : (((wq.alloc (.cells #[.int .i64 0] 3)).alloc (.cells #[.slice A0 l0.length c0] 63)).alloc (.cells #[.int .i64 a1] 3)).heap[wq.heap.size + 1 + 1]? = some (.cells #[.int .i64 a1] 3 (0, 0)) := by have := blk_new ((wq.alloc (.cells #[.int .i64 0] 3)).alloc (.cells #[.slice A0 l0.length c0] 63)) (.cells #[.int .i64 a1] 3); rw [World.size_alloc, World.size_alloc] at this; exact this
   have hsq : (((wq.alloc (.cells #[.int .i64 0] 3)).alloc (.cells #[.slice A0 l0.length c0] 63)).alloc (.cells #[.int .i64 a1] 3)).heap.size = wq.heap.size + 3 := by simp
   have hwq : w.heap.size ≤ wq.heap.size := HB.out.size
   rw [World.size_alloc]
   obtain ⟨W0, hW0⟩ : ∃ W0, ((wq.alloc (.cells #[.int .i64 0] 3)).alloc (.cells #[.slice A0 l0.length c0] 63)).alloc (.cells #[.int .i64 a1] 3) = W0 := ⟨_, rfl⟩
   rw [hW0] at hB0 hBq hk7 hk8 hk9 hsq ⊢
   clear hW0
   obtain ⟨hok1, hok2, hok3, hlast⟩ := hang_lastMark.ok A7.out
   refine (wpIn_wide (n := 6)).1 ?_
   refine wpIn_rangeFunc_ownG (F := Fence.wide) rfl (by decide) (gf := 108) (lb := #[.pointer (some ⟨wq.heap.size + 1, 0, none⟩), .pointer (some ⟨wq.heap.size + 1 + 1, 0, none⟩)]) rfl trivial (enters_of Tryd.func108 (by kernel_rfl) rfl)
    (hang_marks1.stops 5 (by decide) (wq.heap.size + 1) (wq.heap.size + 1 + 1) w.heap.size A0 c0 l0 a1 hok1 hok2 hok3 W0 ((blk_cell hk8 0).trans rfl) ((blk_cell hk9 0).trans rfl) (Kd.C_below HR0.out hB0) hB0.size (marks_low HR0.out)) markK_t
    (fun W l o o' hl h hc _ => markK_b hB0.size W l o o' hl h hc) (Below.refl _ _) (fun _ => rfl)
    (fun pre W => W.heap[wq.heap.size]? = some (.cells #[.int .i64 (pre.getLast?.getD 0)] 3 (0, 0)) ∧ Below wq.heap.size wq W)
    (fun _ _ _ => False)
    (OwnFrom.and (own_blk _ _ _ _) (ownFrom_below (Nat.le_refl _) (by omega)))
    (fun _ _ _ _ _ hs _ _ => hs)
    ⟨hk7, hBq⟩
    (fun x => { tmps := #[.slice A0 l0.length c0, .int .i64 a1, undef, undef, .pointer (some ⟨gb217, 0, none⟩), .int .i64 0, .int .i64 t223, .pointer (some ⟨wq.heap.size, 0, none⟩), .int .i64 x, undef, undef, .slice A0 l0.length c0, .int .i64 t218, .int .i64 a1, .int .i64 t219, .slice Ao15 y220.length co15, .int .i64 t223, .int .i64 t223, .bool false, undef, undef, .slice A0 l0.length c0, .int .i64 a1, .func (.func 108) #[] #[.pointer (some ⟨wq.heap.size + 1, 0, none⟩), .pointer (some ⟨wq.heap.size + 1 + 1, 0, none⟩)], .int .i64 x, undef, undef, undef, undef, undef, undef, undef, undef, undef, undef], defers := [] }) ?assign ?body ?done ?stop
   case assign =>
    intro l x W K hK
    gi_wp2
    exact hK
   case body =>
    rintro l pre x W ⟨h7, hBW⟩ _
    have hcz : W.cell? ⟨wq.heap.size, 0, none⟩ = some (.int .i64 (pre.getLast?.getD 0)) := (blk_cell h7 0).trans rfl
    have hfz := blk_frozen h7 0
    gi_wp2
    exact ⟨(KeepsOthers.setCell _ _ _).from _, markK_set h7 (by decide) hwq (by omega) (by omega) 0 _, by refine (blk_put h7 0 (.int .i64 x) rfl).trans ?_; simp, hBW.setCell (p := ⟨wq.heap.size, 0, none⟩) (Nat.le_refl _) _⟩
   case stop =>
    rintro D c pre W _ _ h _
    exact h.elim
   case done =>
    rintro D_ ys W2 hD rfl ⟨h7, hBW⟩ hK
    rw [← hlast] at h7
    clear hlast
    have hcz : W2.cell? ⟨wq.heap.size, 0, none⟩ = some (.int .i64 t224) := (blk_cell h7 0).trans rfl
    have hfz := blk_frozen h7 0
    have n0_ := Aside0.mk (Kd.R_below HO222.out hBW)
    have n1_ := Aside0.mk (blk_below BK217.out hBW)
    have n2_ := Aside0.mk (below_step HB.out hBW)
    have hne_ : gb217 ≠ D_ := by have := blk_lt BK217.out; omega
    have HD_ := Aside0.mk hK
    have hDw : w.heap.size ≤ D_ := by omega
    clear HO222 BK217 HB hK
    have HO222 := n0_
    have BK217 := n1_
    have HB := n2_
    clear n0_ n1_ n2_
    refine aK_ _ _ ?_
    go_wp2_with (first | ((with_reducible refine gate_callee (f := 75) rfl ?_); refine goesL_ (some 27) rfl rfl Tryd.func75 (by kernel_rfl) rfl #[.int .i64 t224, .int .i64 2329089562800] rfl (by (try simp only [List.map_toArray, List.map_cons, List.map_nil]); first | done | rfl | (simp only [List.length_drop, List.length_take]; rfl)) ?_; (with_reducible refine (hang_ratio.calls k t224 2329089562800 t225 t226 _ A8.out).mono ?_); rintro e w17 ⟨rfl, hb⟩; refine ⟨_, rfl, ?_⟩; have nD_ := Aside0.mk (blk_below (g := D_) (o := .deferred (some [])) (by (with_reducible repeat (first | refine blk_drewN ?_ _ | refine blk_drew ?_ | refine blk_alloc ?_ _ | refine kept_set ?_ _ _)); exact HD_.out) hb); clear HD_; have HD_ := nD_; clear nD_; have n0_ := Aside0.mk (Kd.R_below (by (with_reducible repeat (first | apply Kd.R_alloc | apply Kd.R_drewN | apply Kd.R_drew)); exact HO222.out) hb); have n1_ := Aside0.mk (blk_below (g := gb217) (o := .cells #[.int .i64 0, .int .i64 0] 23 (0, 0)) (by (with_reducible repeat (first | refine blk_drewN ?_ _ | refine blk_drew ?_ | refine blk_alloc ?_ _)); exact BK217.out) hb); have n2_ := Aside0.mk (below_step (by repeat (first | (with_reducible first | exact HB.out | apply below_alloc | apply pw_below_drewN | apply below_drew1 | refine below_set ?_ GE217.out) | exact HB.out)) hb); clear HO222; clear BK217; clear HB; have HO222 := n0_; have BK217 := n1_; have HB := n2_; clear n0_ n1_ n2_; (try clear hb); (try clear hb2); (try clear hk); (try clear hi)) | ((with_reducible refine gate_dst (N := 9) rfl ?_); refine box_event ?hg (N := 9) ?hd (cs := #[.int .i64 0, .int .i64 0]) (t := 23) ?hr ?_; (case hd => rfl); (case hg => rfl); (case hr => first | (go_simp; done) | (go_simp; rfl)); intro gb227 hg w18 hbox hb; have nD_ := Aside0.mk (blk_below (g := D_) (o := .deferred (some [])) (by (with_reducible repeat (first | refine blk_drewN ?_ _ | refine blk_drew ?_ | refine blk_alloc ?_ _ | refine kept_set ?_ _ _)); exact HD_.out) hb); clear HD_; have HD_ := nD_; clear nD_; have n0_ := Aside0.mk (Kd.R_below (by (with_reducible repeat (first | apply Kd.R_alloc | apply Kd.R_drewN | apply Kd.R_drew)); exact HO222.out) hb); have n1_ := Aside0.mk (blk_below (g := gb217) (o := .cells #[.int .i64 0, .int .i64 0] 23 (0, 0)) (by (with_reducible repeat (first | refine blk_drewN ?_ _ | refine blk_drew ?_ | refine blk_alloc ?_ _)); exact BK217.out) hb); have n2_ := Aside0.mk (below_step (by repeat (first | (with_reducible first | exact HB.out | apply below_alloc | apply pw_below_drewN | apply below_drew1 | refine below_set ?_ GE217.out) | exact HB.out)) hb); have n3_ := Aside0.mk (hbox); have n4_ := Aside0.mk ((by rw [hg]; exact (below_size (by repeat (first | (with_reducible first | exact HB.out | apply below_alloc | apply pw_below_drewN | apply below_drew1 | refine below_set ?_ GE217.out) | exact HB.out))) : w.heap.size ≤ gb227)); have n5_ := Aside0.mk ((by rw [hg]; exact (below_size (by repeat (first | (with_reducible first | exact HB.out | apply below_alloc | apply pw_below_drewN | apply below_drew1 | refine below_set ?_ GE217.out) | exact HB.out))) : w.heap.size ≤ gb227)); have n6_ := Aside0.mk ((by rw [hg]; exact Nat.ne_of_lt (blk_lt (g := gb217) (o := .cells #[.int .i64 0, .int .i64 0] 23 (0, 0)) (by (with_reducible repeat (first | refine blk_drewN ?_ _ | refine blk_drew ?_ | refine blk_alloc ?_ _)); exact BK217.out)) : gb217 ≠ gb227)); have n7_ := Aside0.mk ((by rw [hg]; exact Nat.ne_of_gt (blk_lt (g := gb217) (o := .cells #[.int .i64 0, .int .i64 0] 23 (0, 0)) (by (with_reducible repeat (first | refine blk_drewN ?_ _ | refine blk_drew ?_ | refine blk_alloc ?_ _)); exact BK217.out)) : gb227 ≠ gb217)); clear HO222; clear BK217; clear HB; have HO222 := n0_; have BK217 := n1_; have HB := n2_; have BK227 := n3_; have GW227 := n4_; have GE227 := n5_; have NB217_227 := n6_; have NB227_217 := n7_; clear n0_ n1_ n2_ n3_ n4_ n5_ n6_ n7_; clear hb hbox hg; have hnb19 := NB227_217.out; have hnc19 := NB217_227.out; have hcz20_0 : w18.cell? ⟨gb227, 0, none⟩ = some (.int .i64 0) := (blk_cell BK227.out 0).trans rfl; have hcz20_1 : w18.cell? ⟨gb227, 1, none⟩ = some (.int .i64 0) := (blk_cell BK227.out 1).trans rfl; have hfz20_0 := blk_frozen BK227.out 0; have hfz20_1 := blk_frozen BK227.out 1) | ((with_reducible refine gate_callee (f := 84) rfl ?_); refine goesL_ (some 29) rfl rfl Tryd.func84 (by kernel_rfl) rfl #[.agg #[.int .i64 t225, .int .i64 t226]] rfl (by (try simp only [List.map_toArray, List.map_cons, List.map_nil]); first | done | rfl | (simp only [List.length_drop, List.length_take]; rfl)) ?_; (with_reducible refine (hang_large.calls t225 t226 t228 _ A9.out).mono ?_); rintro e w21 ⟨rfl, hb⟩; refine ⟨_, rfl, ?_⟩; have nD_ := Aside0.mk (blk_below (g := D_) (o := .deferred (some [])) (by (with_reducible repeat (first | refine blk_drewN ?_ _ | refine blk_drew ?_ | refine blk_alloc ?_ _ | refine kept_set ?_ _ _)); exact HD_.out) hb); clear HD_; have HD_ := nD_; clear nD_; have n0_ := Aside0.mk (Kd.R_below (by (with_reducible repeat (first | apply Kd.R_alloc | apply Kd.R_drewN | apply Kd.R_drew)); exact (Kd.R_mono (Kd.R_far (p := ⟨gb227, 1, none⟩) (Kd.R_far (p := ⟨gb227, 0, none⟩) (Kd.R_types HO222.out BK227.out (by decide)) (fun _ hk => hk.2) (.int .i64 t225)) (fun _ hk => hk.2) (.int .i64 t226)) (fun _ h_ => h_.1))) hb); have n1_ := Aside0.mk (blk_below (g := gb217) (o := .cells #[.int .i64 0, .int .i64 0] 23 (0, 0)) (by (with_reducible repeat (first | refine blk_drewN ?_ _ | refine blk_drew ?_ | refine blk_alloc ?_ _)); refine blk_far ?_ NB217_227.out _; (with_reducible repeat (first | refine blk_drewN ?_ _ | refine blk_drew ?_ | refine blk_alloc ?_ _)); refine blk_far ?_ NB217_227.out _; (with_reducible repeat (first | refine blk_drewN ?_ _ | refine blk_drew ?_ | refine blk_alloc ?_ _)); exact BK217.out) hb); have n2_ := Aside0.mk (blk_below (g := gb227) (o := .cells #[.int .i64 t225, .int .i64 t226] 23 (0, 0)) (by (with_reducible repeat (first | refine blk_drewN ?_ _ | refine blk_drew ?_ | refine blk_alloc ?_ _)); refine blk_put (cs := #[.int .i64 t225, .int .i64 0]) ?_ 1 _ rfl; (with_reducible repeat (first | refine blk_drewN ?_ _ | refine blk_drew ?_ | refine blk_alloc ?_ _)); refine blk_put (cs := #[.int .i64 0, .int .i64 0]) ?_ 0 _ rfl; (with_reducible repeat (first | refine blk_drewN ?_ _ | refine blk_drew ?_ | refine blk_alloc ?_ _)); exact BK227.out) hb); have n3_ := Aside0.mk (below_step (by repeat (first | (with_reducible first | exact HB.out | apply below_alloc | apply pw_below_drewN | apply below_drew1 | refine below_set ?_ GE217.out | refine below_set ?_ GE227.out) | exact HB.out)) hb); clear HO222; clear BK217; clear BK227; clear HB; have HO222 := n0_; have BK217 := n1_; have BK227 := n2_; have HB := n3_; clear n0_ n1_ n2_ n3_; (try clear hb); (try clear hb2); (try clear hk); (try clear hi); have hcz22_0 : w21.cell? ⟨gb227, 0, none⟩ = some (.int .i64 t225) := (blk_cell BK227.out 0).trans rfl; have hcz22_1 : w21.cell? ⟨gb227, 1, none⟩ = some (.int .i64 t226) := (blk_cell BK227.out 1).trans rfl; have hfz22_0 := blk_frozen BK227.out 0; have hfz22_1 := blk_frozen BK227.out 1; have hcz23_0 : w21.cell? ⟨gb217, 0, none⟩ = some (.int .i64 0) := (blk_cell BK217.out 0).trans rfl; have hcz23_1 : w21.cell? ⟨gb217, 1, none⟩ = some (.int .i64 0) := (blk_cell BK217.out 1).trans rfl; have hfz23_0 := blk_frozen BK217.out 0; have hfz23_1 := blk_frozen BK217.out 1))
    refine ⟨by simp, .inl ⟨_, _, rfl, run_takeDeferred (by (with_reducible repeat (first | refine blk_drewN ?_ _ | refine blk_drew ?_ | refine blk_alloc ?_ _ | refine kept_set ?_ _ _)); exact HD_.out), _, results_ct rfl _ _ gb217 23 #[.int .i64 t225, .int .i64 t226] (0, 0) _ rfl ((World.putObj_heap_other hne_).trans (by (with_reducible repeat (first | refine blk_drewN ?_ _ | refine blk_drew ?_ | refine blk_alloc ?_ _)); refine blk_put (cs := #[.int .i64 t225, .int .i64 0]) ?_ 1 _ rfl; (with_reducible repeat (first | refine blk_drewN ?_ _ | refine blk_drew ?_ | refine blk_alloc ?_ _)); refine blk_put (cs := #[.int .i64 0, .int .i64 0]) ?_ 0 _ rfl; (with_reducible repeat (first | refine blk_drewN ?_ _ | refine blk_drew ?_ | refine blk_alloc ?_ _)); exact BK217.out)) Tryd.underlying23 rfl (by kernel_rfl), ?_⟩⟩
    refine ⟨by first | rfl | (simp [errW_none, errW_some] <;> rfl) | (simp [*, errW_none, errW_some] <;> rfl), ?_⟩
    refine Below.trans ?_ (belowK_b (w := w) (Nat.le_refl _) _ D_ (.deferred (some [])) _ hDw (by (with_reducible repeat (first | refine blk_drewN ?_ _ | refine blk_drew ?_ | refine blk_alloc ?_ _ | refine kept_set ?_ _ _)); exact HD_.out) rfl rfl)
    repeat (first | (with_reducible first | exact HB.out | apply below_alloc | apply pw_below_drewN | apply below_drew1 | refine below_set ?_ GE217.out | refine below_set ?_ GE227.out) | exact HB.out)
  ·rw [if_neg c10] at H
   have c10b0 : (t228 == 0) = false := beq_eq_false_iff_ne.mpr c10
   have c10b1 : (t228 != 0) = true := bne_iff_ne.mpr c10
   simp only [Option.some.injEq, Prod.mk.injEq] at H
   obtain ⟨rfl, rfl, rfl⟩ := H
   refine (callsIn_wide (n := 6)).1 (callsIn_of_wp_marks Tryd.func39 rfl trivial ?_ rfl)
   simp only [Tryd.ntmps39, List.size_toArray, List.length_cons, List.length_nil, Nat.reduceAdd, Nat.reduceSub, Array.replicate_succ, Array.replicate_zero, List.push_toArray, List.append_toArray, List.nil_append, List.cons_append]
   refine wpIn_wide.2 ?_
   go_wp2_with (first | ((with_reducible refine gate_dst (N := 4) rfl ?_); refine box_event ?hg (N := 4) ?hd (cs := #[.int .i64 0, .int .i64 0]) (t := 23) ?hr ?_; (case hd => rfl); (case hg => rfl); (case hr => first | (go_simp; done) | (go_simp; rfl)); intro gb217 hg w24 hbox hb; have n0_ := Aside0.mk (below_step (by repeat (first | (with_reducible first | exact HB.out | apply below_alloc | apply pw_below_drewN | apply below_drew1) | exact HB.out)) hb); have n1_ := Aside0.mk (hbox); have n2_ := Aside0.mk ((by rw [hg]; exact (below_size (by repeat (first | (with_reducible first | exact HB.out | apply below_alloc | apply pw_below_drewN | apply below_drew1) | exact HB.out))) : w.heap.size ≤ gb217)); have n3_ := Aside0.mk ((by rw [hg]; exact (below_size (by repeat (first | (with_reducible first | exact HB.out | apply below_alloc | apply pw_below_drewN | apply below_drew1) | exact HB.out))) : w.heap.size ≤ gb217)); clear HB; have HB := n0_; have BK217 := n1_; have GW217 := n2_; have GE217 := n3_; clear n0_ n1_ n2_ n3_; clear hb hbox hg) | ((with_reducible refine gate_callee (f := 82) rfl ?_); refine goesL_ (some 12) rfl rfl Tryd.func82 (by kernel_rfl) rfl #[.slice A0 l0.length c0] rfl (by (try simp only [List.map_toArray, List.map_cons, List.map_nil]); first | done | rfl | (simp only [List.length_drop, List.length_take]; rfl)) ?_; (with_reducible refine (hang_checkSections.calls k _ _ l0 t218 _ ?side1 ?side2 A3.out).mono ?_); (case side1 => repeat (first | exact (Kd.C_below HR0.out HB.out) | (with_reducible refine Kd.C_alloc ?_ _) | (with_reducible refine Kd.C_drewN ?_ _) | (with_reducible refine Kd.C_drew ?_))); (case side2 => exact HC0.out); rintro e w25 ⟨rfl, hb⟩; refine ⟨_, rfl, ?_⟩; have n0_ := Aside0.mk (blk_below (g := gb217) (o := .cells #[.int .i64 0, .int .i64 0] 23 (0, 0)) (by (with_reducible repeat (first | refine blk_drewN ?_ _ | refine blk_drew ?_ | refine blk_alloc ?_ _)); exact BK217.out) hb); have n1_ := Aside0.mk (below_step (by repeat (first | (with_reducible first | exact HB.out | apply below_alloc | apply pw_below_drewN | apply below_drew1 | refine below_set ?_ GE217.out) | exact HB.out)) hb); clear BK217; clear HB; have BK217 := n0_; have HB := n1_; clear n0_ n1_; (try clear hb); (try clear hb2); (try clear hk); (try clear hi)) | ((with_reducible refine gate_callee (f := 77) rfl ?_); refine goesL_ (some 14) rfl rfl Tryd.func77 (by kernel_rfl) rfl #[.int .i64 a1] rfl (by (try simp only [List.map_toArray, List.map_cons, List.map_nil]); first | done | rfl | (simp only [List.length_drop, List.length_take]; rfl)) ?_; (with_reducible refine (hang_checkBar.calls a1 t219 _ A4.out).mono ?_); rintro e w' ⟨rfl, ⟨nd, rfl⟩⟩; refine ⟨_, rfl, ?_⟩; (try (rw [drewN_self w25]; generalize hq_ : World.drewN w25 _ = w25; have n0_ : Aside0 (w25.heap[gb217]? = some (.cells #[.int .i64 0, .int .i64 0] 23 (0, 0))) := ⟨by rw [← hq_]; exact (by (with_reducible repeat (first | refine blk_drewN ?_ _ | refine blk_drew ?_ | refine blk_alloc ?_ _)); exact BK217.out)⟩; have n1_ : Aside0 (Below w.heap.size w w25) := ⟨by rw [← hq_]; exact (by repeat (first | (with_reducible first | exact HB.out | apply below_alloc | apply pw_below_drewN | apply below_drew1 | refine below_set ?_ GE217.out) | exact HB.out))⟩; clear BK217 HB hq_; have BK217 := n0_; have HB := n1_; clear n0_ n1_))) | ((with_reducible refine gate_dst (N := 15) rfl ?_); refine Kd.R_lit (Kd.int .i64) _ 26 ?hg (N := 15) ?hd (xs := ([t218, t219] : List Int)) (inner := [.int .i64 t218, .int .i64 t219]) (ok := fun _ => True) (okp := fun _ => True) ?hr ?hp (fun _ hk => hk) trivial (Below.refl _ _) (Nat.le_refl _) (by simp) ?_; (case hd => rfl); (case hg => rfl); (case hr => first | (go_simp; done) | (go_simp; rfl)); (case hp => exact (Reps.one (show Kd.M (Kd.int .i64) _ _ _ t218 [.int .i64 t218] from rfl) (Reps.one (show Kd.M (Kd.int .i64) _ _ _ t219 [.int .i64 t219] from rfl) (Reps.none _ _)))); intro v221 w26 ho27 hb hg_ hnew_; clear hg_ hnew_; (first | rw [← Ny220.out] at ho27 | (simp only [Int.reduceToNat] at ho27; rw [← Ny220.out] at ho27)); have n0_ := Aside0.mk (Kd.R_lower ho27 (below_size (by repeat (first | (with_reducible first | exact HB.out | apply below_alloc | apply pw_below_drewN | apply below_drew1 | refine below_set ?_ GE217.out) | exact HB.out)))); have n1_ := Aside0.mk (blk_below (g := gb217) (o := .cells #[.int .i64 0, .int .i64 0] 23 (0, 0)) (by (with_reducible repeat (first | refine blk_drewN ?_ _ | refine blk_drew ?_ | refine blk_alloc ?_ _)); exact BK217.out) hb); have n2_ := Aside0.mk (below_step (by repeat (first | (with_reducible first | exact HB.out | apply below_alloc | apply pw_below_drewN | apply below_drew1 | refine below_set ?_ GE217.out) | exact HB.out)) hb); clear BK217; clear HB; have HO222 := n0_; have BK217 := n1_; have HB := n2_; clear n0_ n1_ n2_; clear hb ho27; obtain ⟨Ao28, co28, eo28⟩ := Kd.R_slice HO222.out; subst eo28) | ((with_reducible refine gate_callee (f := 72) rfl ?_); refine goesL_ (some 16) rfl rfl Tryd.func72 (by kernel_rfl) rfl #[.slice Ao28 y220.length co28] rfl (by (try simp only [List.map_toArray, List.map_cons, List.map_nil]); first | done | rfl | (simp only [List.length_drop, List.length_take]; rfl)) ?_; (with_reducible refine (hang_first.calls k _ _ y220 t223 _ ?side1 ?side2 A5.out).mono ?_); (case side1 => repeat (first | exact (Kd.R_reads' HO222.out).2.2 | (with_reducible refine Kd.C_alloc ?_ _) | (with_reducible refine Kd.C_drewN ?_ _) | (with_reducible refine Kd.C_drew ?_))); (case side2 => exact (Kd.R_reads' HO222.out).2.1); rintro e w' ⟨rfl, ⟨nd, rfl⟩⟩; refine ⟨_, rfl, ?_⟩; (try (rw [drewN_self w26]; generalize hq_ : World.drewN w26 _ = w26; have n0_ : Aside0 (Kd.R (Kd.int .i64) 26 w26 w.heap.size (fun _ => True) (.slice Ao28 y220.length co28) y220) := ⟨by rw [← hq_]; exact (by (with_reducible repeat (first | apply Kd.R_alloc | apply Kd.R_drewN | apply Kd.R_drew)); exact HO222.out)⟩; have n1_ : Aside0 (w26.heap[gb217]? = some (.cells #[.int .i64 0, .int .i64 0] 23 (0, 0))) := ⟨by rw [← hq_]; exact (by (with_reducible repeat (first | refine blk_drewN ?_ _ | refine blk_drew ?_ | refine blk_alloc ?_ _)); exact BK217.out)⟩; have n2_ : Aside0 (Below w.heap.size w w26) := ⟨by rw [← hq_]; exact (by repeat (first | (with_reducible first | exact HB.out | apply below_alloc | apply pw_below_drewN | apply below_drew1 | refine below_set ?_ GE217.out) | exact HB.out))⟩; clear HO222 BK217 HB hq_; have HO222 := n0_; have BK217 := n1_; have HB := n2_; clear n0_ n1_ n2_))) | ((with_reducible refine gate_callee (f := 83) rfl ?_); refine goesL_ (some 23) rfl rfl Tryd.func83 (by kernel_rfl) rfl #[.slice A0 l0.length c0, .int .i64 a1] rfl (by (try simp only [List.map_toArray, List.map_cons, List.map_nil]); first | done | rfl) ?_; (with_reducible refine (hang_marks.calls A0 l0.length c0 a1 _).mono ?_); rintro e w' ⟨rfl, rfl⟩; refine ⟨_, rfl, ?_⟩))
   rename World => wq
   rename_i K_ aK_
   have hB0 : Below w.heap.size w (((wq.alloc (.cells #[.int .i64 0] 3)).alloc (.cells #[.slice A0 l0.length c0] 63)).alloc (.cells #[.int .i64 a1] 3)) := (by repeat (first | (with_reducible first | exact HB.out | apply below_alloc | apply pw_below_drewN | apply below_drew1 | refine below_set ?_ GE217.out) | exact HB.out))
   have hBq : Below wq.heap.size wq (((wq.alloc (.cells #[.int .i64 0] 3)).alloc (.cells #[.slice A0 l0.length c0] 63)).alloc (.cells #[.int .i64 a1] 3)) := (((Below.refl _ wq).alloc (Nat.le_refl _) _).alloc (by simp) _).alloc (by simp; omega) _
   have hk7 : (((wq.alloc (.cells #[.int .i64 0] 3)).alloc (.cells #[.slice A0 l0.length c0] 63)).alloc (.cells #[.int .i64 a1] 3)).heap[wq.heap.size]? = some (.cells #[.int .i64 0] 3 (0, 0)) := blk_alloc (blk_alloc (blk_new wq _) _) _
   have hk8 : (((wq.alloc (.cells #[.int .i64 0] 3)).alloc (.cells #[.slice A0 l0.length c0] 63)).alloc (.cells #[.int .i64 a1] 3)).heap[wq.heap.size + 1]? = some (.cells #[.slice A0 l0.length c0] 63 (0, 0)) := by have := blk_new (wq.alloc (.cells #[.int .i64 0] 3)) (.cells #[.slice A0 l0.length c0] 63); rw [World.size_alloc] at this; exact blk_alloc this _
   have hk9 : (((wq.alloc (.cells #[.int .i64 0] 3)).alloc (.cells #[.slice A0 l0.length c0] 63)).alloc (.cells #[.int .i64 a1] 3)).heap[wq.heap.size + 1 + 1]? = some (.cells #[.int .i64 a1] 3 (0, 0)) := by have := blk_new ((wq.alloc (.cells #[.int .i64 0] 3)).alloc (.cells #[.slice A0 l0.length c0] 63)) (.cells #[.int .i64 a1] 3); rw [World.size_alloc, World.size_alloc] at this; exact this
   have hsq : (((wq.alloc (.cells #[.int .i64 0] 3)).alloc (.cells #[.slice A0 l0.length c0] 63)).alloc (.cells #[.int .i64 a1] 3)).heap.size = wq.heap.size + 3 := by simp
   have hwq : w.heap.size ≤ wq.heap.size := HB.out.size
   rw [World.size_alloc]
   obtain ⟨W0, hW0⟩ : ∃ W0, ((wq.alloc (.cells #[.int .i64 0] 3)).alloc (.cells #[.slice A0 l0.length c0] 63)).alloc (.cells #[.int .i64 a1] 3) = W0 := ⟨_, rfl⟩
   rw [hW0] at hB0 hBq hk7 hk8 hk9 hsq ⊢
   clear hW0
   obtain ⟨hok1, hok2, hok3, hlast⟩ := hang_lastMark.ok A7.out
   refine (wpIn_wide (n := 6)).1 ?_
   refine wpIn_rangeFunc_ownG (F := Fence.wide) rfl (by decide) (gf := 108) (lb := #[.pointer (some ⟨wq.heap.size + 1, 0, none⟩), .pointer (some ⟨wq.heap.size + 1 + 1, 0, none⟩)]) rfl trivial (enters_of Tryd.func108 (by kernel_rfl) rfl)
    (hang_marks1.stops 5 (by decide) (wq.heap.size + 1) (wq.heap.size + 1 + 1) w.heap.size A0 c0 l0 a1 hok1 hok2 hok3 W0 ((blk_cell hk8 0).trans rfl) ((blk_cell hk9 0).trans rfl) (Kd.C_below HR0.out hB0) hB0.size (marks_low HR0.out)) markK_t
    (fun W l o o' hl h hc _ => markK_b hB0.size W l o o' hl h hc) (Below.refl _ _) (fun _ => rfl)
    (fun pre W => W.heap[wq.heap.size]? = some (.cells #[.int .i64 (pre.getLast?.getD 0)] 3 (0, 0)) ∧ Below wq.heap.size wq W)
    (fun _ _ _ => False)
    (OwnFrom.and (own_blk _ _ _ _) (ownFrom_below (Nat.le_refl _) (by omega)))
    (fun _ _ _ _ _ hs _ _ => hs)
    ⟨hk7, hBq⟩
    (fun x => { tmps := #[.slice A0 l0.length c0, .int .i64 a1, undef, undef, .pointer (some ⟨gb217, 0, none⟩), .int .i64 0, .int .i64 t223, .pointer (some ⟨wq.heap.size, 0, none⟩), .int .i64 x, undef, undef, .slice A0 l0.length c0, .int .i64 t218, .int .i64 a1, .int .i64 t219, .slice Ao28 y220.length co28, .int .i64 t223, .int .i64 t223, .bool false, undef, undef, .slice A0 l0.length c0, .int .i64 a1, .func (.func 108) #[] #[.pointer (some ⟨wq.heap.size + 1, 0, none⟩), .pointer (some ⟨wq.heap.size + 1 + 1, 0, none⟩)], .int .i64 x, undef, undef, undef, undef, undef, undef, undef, undef, undef, undef], defers := [] }) ?assign ?body ?done ?stop
   case assign =>
    intro l x W K hK
    gi_wp2
    exact hK
   case body =>
    rintro l pre x W ⟨h7, hBW⟩ _
    have hcz : W.cell? ⟨wq.heap.size, 0, none⟩ = some (.int .i64 (pre.getLast?.getD 0)) := (blk_cell h7 0).trans rfl
    have hfz := blk_frozen h7 0
    gi_wp2
    exact ⟨(KeepsOthers.setCell _ _ _).from _, markK_set h7 (by decide) hwq (by omega) (by omega) 0 _, by refine (blk_put h7 0 (.int .i64 x) rfl).trans ?_; simp, hBW.setCell (p := ⟨wq.heap.size, 0, none⟩) (Nat.le_refl _) _⟩
   case stop =>
    rintro D c pre W _ _ h _
    exact h.elim
   case done =>
    rintro D_ ys W2 hD rfl ⟨h7, hBW⟩ hK
    rw [← hlast] at h7
    clear hlast
    have hcz : W2.cell? ⟨wq.heap.size, 0, none⟩ = some (.int .i64 t224) := (blk_cell h7 0).trans rfl
    have hfz := blk_frozen h7 0
    have n0_ := Aside0.mk (Kd.R_below HO222.out hBW)
    have n1_ := Aside0.mk (blk_below BK217.out hBW)
    have n2_ := Aside0.mk (below_step HB.out hBW)
    have hne_ : gb217 ≠ D_ := by have := blk_lt BK217.out; omega
    have HD_ := Aside0.mk hK
    have hDw : w.heap.size ≤ D_ := by omega
    clear HO222 BK217 HB hK
    have HO222 := n0_
    have BK217 := n1_
    have HB := n2_
    clear n0_ n1_ n2_
    refine aK_ _ _ ?_
    go_wp2_with (first | ((with_reducible refine gate_callee (f := 75) rfl ?_); refine goesL_ (some 27) rfl rfl Tryd.func75 (by kernel_rfl) rfl #[.int .i64 t224, .int .i64 2329089562800] rfl (by (try simp only [List.map_toArray, List.map_cons, List.map_nil]); first | done | rfl | (simp only [List.length_drop, List.length_take]; rfl)) ?_; (with_reducible refine (hang_ratio.calls k t224 2329089562800 t225 t226 _ A8.out).mono ?_); rintro e w30 ⟨rfl, hb⟩; refine ⟨_, rfl, ?_⟩; have nD_ := Aside0.mk (blk_below (g := D_) (o := .deferred (some [])) (by (with_reducible repeat (first | refine blk_drewN ?_ _ | refine blk_drew ?_ | refine blk_alloc ?_ _ | refine kept_set ?_ _ _)); exact HD_.out) hb); clear HD_; have HD_ := nD_; clear nD_; have n0_ := Aside0.mk (Kd.R_below (by (with_reducible repeat (first | apply Kd.R_alloc | apply Kd.R_drewN | apply Kd.R_drew)); exact HO222.out) hb); have n1_ := Aside0.mk (blk_below (g := gb217) (o := .cells #[.int .i64 0, .int .i64 0] 23 (0, 0)) (by (with_reducible repeat (first | refine blk_drewN ?_ _ | refine blk_drew ?_ | refine blk_alloc ?_ _)); exact BK217.out) hb); have n2_ := Aside0.mk (below_step (by repeat (first | (with_reducible first | exact HB.out | apply below_alloc | apply pw_below_drewN | apply below_drew1 | refine below_set ?_ GE217.out) | exact HB.out)) hb); clear HO222; clear BK217; clear HB; have HO222 := n0_; have BK217 := n1_; have HB := n2_; clear n0_ n1_ n2_; (try clear hb); (try clear hb2); (try clear hk); (try clear hi)) | ((with_reducible refine gate_dst (N := 9) rfl ?_); refine box_event ?hg (N := 9) ?hd (cs := #[.int .i64 0, .int .i64 0]) (t := 23) ?hr ?_; (case hd => rfl); (case hg => rfl); (case hr => first | (go_simp; done) | (go_simp; rfl)); intro gb227 hg w31 hbox hb; have nD_ := Aside0.mk (blk_below (g := D_) (o := .deferred (some [])) (by (with_reducible repeat (first | refine blk_drewN ?_ _ | refine blk_drew ?_ | refine blk_alloc ?_ _ | refine kept_set ?_ _ _)); exact HD_.out) hb); clear HD_; have HD_ := nD_; clear nD_; have n0_ := Aside0.mk (Kd.R_below (by (with_reducible repeat (first | apply Kd.R_alloc | apply Kd.R_drewN | apply Kd.R_drew)); exact HO222.out) hb); have n1_ := Aside0.mk (blk_below (g := gb217) (o := .cells #[.int .i64 0, .int .i64 0] 23 (0, 0)) (by (with_reducible repeat (first | refine blk_drewN ?_ _ | refine blk_drew ?_ | refine blk_alloc ?_ _)); exact BK217.out) hb); have n2_ := Aside0.mk (below_step (by repeat (first | (with_reducible first | exact HB.out | apply below_alloc | apply pw_below_drewN | apply below_drew1 | refine below_set ?_ GE217.out) | exact HB.out)) hb); have n3_ := Aside0.mk (hbox); have n4_ := Aside0.mk ((by rw [hg]; exact (below_size (by repeat (first | (with_reducible first | exact HB.out | apply below_alloc | apply pw_below_drewN | apply below_drew1 | refine below_set ?_ GE217.out) | exact HB.out))) : w.heap.size ≤ gb227)); have n5_ := Aside0.mk ((by rw [hg]; exact (below_size (by repeat (first | (with_reducible first | exact HB.out | apply below_alloc | apply pw_below_drewN | apply below_drew1 | refine below_set ?_ GE217.out) | exact HB.out))) : w.heap.size ≤ gb227)); have n6_ := Aside0.mk ((by rw [hg]; exact Nat.ne_of_lt (blk_lt (g := gb217) (o := .cells #[.int .i64 0, .int .i64 0] 23 (0, 0)) (by (with_reducible repeat (first | refine blk_drewN ?_ _ | refine blk_drew ?_ | refine blk_alloc ?_ _)); exact BK217.out)) : gb217 ≠ gb227)); have n7_ := Aside0.mk ((by rw [hg]; exact Nat.ne_of_gt (blk_lt (g := gb217) (o := .cells #[.int .i64 0, .int .i64 0] 23 (0, 0)) (by (with_reducible repeat (first | refine blk_drewN ?_ _ | refine blk_drew ?_ | refine blk_alloc ?_ _)); exact BK217.out)) : gb227 ≠ gb217)); clear HO222; clear BK217; clear HB; have HO222 := n0_; have BK217 := n1_; have HB := n2_; have BK227 := n3_; have GW227 := n4_; have GE227 := n5_; have NB217_227 := n6_; have NB227_217 := n7_; clear n0_ n1_ n2_ n3_ n4_ n5_ n6_ n7_; clear hb hbox hg; have hnb32 := NB227_217.out; have hnc32 := NB217_227.out; have hcz33_0 : w31.cell? ⟨gb227, 0, none⟩ = some (.int .i64 0) := (blk_cell BK227.out 0).trans rfl; have hcz33_1 : w31.cell? ⟨gb227, 1, none⟩ = some (.int .i64 0) := (blk_cell BK227.out 1).trans rfl; have hfz33_0 := blk_frozen BK227.out 0; have hfz33_1 := blk_frozen BK227.out 1) | ((with_reducible refine gate_callee (f := 84) rfl ?_); refine goesL_ (some 29) rfl rfl Tryd.func84 (by kernel_rfl) rfl #[.agg #[.int .i64 t225, .int .i64 t226]] rfl (by (try simp only [List.map_toArray, List.map_cons, List.map_nil]); first | done | rfl | (simp only [List.length_drop, List.length_take]; rfl)) ?_; (with_reducible refine (hang_large.calls t225 t226 t228 _ A9.out).mono ?_); rintro e w34 ⟨rfl, hb⟩; refine ⟨_, rfl, ?_⟩; have nD_ := Aside0.mk (blk_below (g := D_) (o := .deferred (some [])) (by (with_reducible repeat (first | refine blk_drewN ?_ _ | refine blk_drew ?_ | refine blk_alloc ?_ _ | refine kept_set ?_ _ _)); exact HD_.out) hb); clear HD_; have HD_ := nD_; clear nD_; have n0_ := Aside0.mk (Kd.R_below (by (with_reducible repeat (first | apply Kd.R_alloc | apply Kd.R_drewN | apply Kd.R_drew)); exact (Kd.R_mono (Kd.R_far (p := ⟨gb227, 1, none⟩) (Kd.R_far (p := ⟨gb227, 0, none⟩) (Kd.R_types HO222.out BK227.out (by decide)) (fun _ hk => hk.2) (.int .i64 t225)) (fun _ hk => hk.2) (.int .i64 t226)) (fun _ h_ => h_.1))) hb); have n1_ := Aside0.mk (blk_below (g := gb217) (o := .cells #[.int .i64 0, .int .i64 0] 23 (0, 0)) (by (with_reducible repeat (first | refine blk_drewN ?_ _ | refine blk_drew ?_ | refine blk_alloc ?_ _)); refine blk_far ?_ NB217_227.out _; (with_reducible repeat (first | refine blk_drewN ?_ _ | refine blk_drew ?_ | refine blk_alloc ?_ _)); refine blk_far ?_ NB217_227.out _; (with_reducible repeat (first | refine blk_drewN ?_ _ | refine blk_drew ?_ | refine blk_alloc ?_ _)); exact BK217.out) hb); have n2_ := Aside0.mk (blk_below (g := gb227) (o := .cells #[.int .i64 t225, .int .i64 t226] 23 (0, 0)) (by (with_reducible repeat (first | refine blk_drewN ?_ _ | refine blk_drew ?_ | refine blk_alloc ?_ _)); refine blk_put (cs := #[.int .i64 t225, .int .i64 0]) ?_ 1 _ rfl; (with_reducible repeat (first | refine blk_drewN ?_ _ | refine blk_drew ?_ | refine blk_alloc ?_ _)); refine blk_put (cs := #[.int .i64 0, .int .i64 0]) ?_ 0 _ rfl; (with_reducible repeat (first | refine blk_drewN ?_ _ | refine blk_drew ?_ | refine blk_alloc ?_ _)); exact BK227.out) hb); have n3_ := Aside0.mk (below_step (by repeat (first | (with_reducible first | exact HB.out | apply below_alloc | apply pw_below_drewN | apply below_drew1 | refine below_set ?_ GE217.out | refine below_set ?_ GE227.out) | exact HB.out)) hb); clear HO222; clear BK217; clear BK227; clear HB; have HO222 := n0_; have BK217 := n1_; have BK227 := n2_; have HB := n3_; clear n0_ n1_ n2_ n3_; (try clear hb); (try clear hb2); (try clear hk); (try clear hi); have hcz35_0 : w34.cell? ⟨gb217, 0, none⟩ = some (.int .i64 0) := (blk_cell BK217.out 0).trans rfl; have hcz35_1 : w34.cell? ⟨gb217, 1, none⟩ = some (.int .i64 0) := (blk_cell BK217.out 1).trans rfl; have hfz35_0 := blk_frozen BK217.out 0; have hfz35_1 := blk_frozen BK217.out 1))
    refine ⟨by simp, .inl ⟨_, _, rfl, run_takeDeferred (by (with_reducible repeat (first | refine blk_drewN ?_ _ | refine blk_drew ?_ | refine blk_alloc ?_ _ | refine kept_set ?_ _ _)); exact HD_.out), _, results_ct rfl _ _ gb217 23 #[.int .i64 0, .int .i64 0] (0, 0) _ rfl ((World.putObj_heap_other hne_).trans (by (with_reducible repeat (first | refine blk_drewN ?_ _ | refine blk_drew ?_ | refine blk_alloc ?_ _)); refine blk_put (cs := #[.int .i64 0, .int .i64 0]) ?_ 1 _ rfl; (with_reducible repeat (first | refine blk_drewN ?_ _ | refine blk_drew ?_ | refine blk_alloc ?_ _)); refine blk_put (cs := #[.int .i64 0, .int .i64 0]) ?_ 0 _ rfl; (with_reducible repeat (first | refine blk_drewN ?_ _ | refine blk_drew ?_ | refine blk_alloc ?_ _)); exact BK217.out)) Tryd.underlying23 rfl (by kernel_rfl), ?_⟩⟩
    refine ⟨by first | rfl | (simp [errW_none, errW_some] <;> rfl) | (simp [*, errW_none, errW_some] <;> rfl), ?_⟩
    refine Below.trans ?_ (belowK_b (w := w) (Nat.le_refl _) _ D_ (.deferred (some [])) _ hDw (by (with_reducible repeat (first | refine blk_drewN ?_ _ | refine blk_drew ?_ | refine blk_alloc ?_ _ | refine kept_set ?_ _ _)); exact HD_.out) rfl rfl)
    repeat (first | (with_reducible first | exact HB.out | apply below_alloc | apply pw_below_drewN | apply below_drew1 | refine below_set ?_ GE217.out | refine below_set ?_ GE227.out) | exact HB.out)
 ·rw [if_neg c6] at H
  have c6b0 : (t223 == 0) = false := beq_eq_false_iff_ne.mpr c6
  have c6b1 : (t223 != 0) = true := bne_iff_ne.mpr c6
  simp only [Option.some.injEq, Prod.mk.injEq] at H
  obtain ⟨rfl, rfl, rfl⟩ := H
  go_enter Tryd.func39, Tryd.ntmps39
  go_wp2_with (first | ((with_reducible refine gate_dst (N := 4) rfl ?_); refine box_event ?hg (N := 4) ?hd (cs := #[.int .i64 0, .int .i64 0]) (t := 23) ?hr ?_; (case hd => rfl); (case hg => rfl); (case hr => first | (go_simp; done) | (go_simp; rfl)); intro gb217 hg w36 hbox hb; have n0_ := Aside0.mk (below_step (by repeat (first | (with_reducible first | exact HB.out | apply below_alloc | apply pw_below_drewN | apply below_drew1) | exact HB.out)) hb); have n1_ := Aside0.mk (hbox); have n2_ := Aside0.mk ((by rw [hg]; exact (below_size (by repeat (first | (with_reducible first | exact HB.out | apply below_alloc | apply pw_below_drewN | apply below_drew1) | exact HB.out))) : w.heap.size ≤ gb217)); have n3_ := Aside0.mk ((by rw [hg]; exact (below_size (by repeat (first | (with_reducible first | exact HB.out | apply below_alloc | apply pw_below_drewN | apply below_drew1) | exact HB.out))) : w.heap.size ≤ gb217)); clear HB; have HB := n0_; have BK217 := n1_; have GW217 := n2_; have GE217 := n3_; clear n0_ n1_ n2_ n3_; clear hb hbox hg) | ((with_reducible refine gate_callee (f := 82) rfl ?_); refine goesL_ (some 12) rfl rfl Tryd.func82 (by kernel_rfl) rfl #[.slice A0 l0.length c0] rfl (by (try simp only [List.map_toArray, List.map_cons, List.map_nil]); first | done | rfl | (simp only [List.length_drop, List.length_take]; rfl)) ?_; (with_reducible refine (hang_checkSections.calls k _ _ l0 t218 _ ?side1 ?side2 A3.out).mono ?_); (case side1 => repeat (first | exact (Kd.C_below HR0.out HB.out) | (with_reducible refine Kd.C_alloc ?_ _) | (with_reducible refine Kd.C_drewN ?_ _) | (with_reducible refine Kd.C_drew ?_))); (case side2 => exact HC0.out); rintro e w37 ⟨rfl, hb⟩; refine ⟨_, rfl, ?_⟩; have n0_ := Aside0.mk (blk_below (g := gb217) (o := .cells #[.int .i64 0, .int .i64 0] 23 (0, 0)) (by (with_reducible repeat (first | refine blk_drewN ?_ _ | refine blk_drew ?_ | refine blk_alloc ?_ _)); exact BK217.out) hb); have n1_ := Aside0.mk (below_step (by repeat (first | (with_reducible first | exact HB.out | apply below_alloc | apply pw_below_drewN | apply below_drew1 | refine below_set ?_ GE217.out) | exact HB.out)) hb); clear BK217; clear HB; have BK217 := n0_; have HB := n1_; clear n0_ n1_; (try clear hb); (try clear hb2); (try clear hk); (try clear hi)) | ((with_reducible refine gate_callee (f := 77) rfl ?_); refine goesL_ (some 14) rfl rfl Tryd.func77 (by kernel_rfl) rfl #[.int .i64 a1] rfl (by (try simp only [List.map_toArray, List.map_cons, List.map_nil]); first | done | rfl | (simp only [List.length_drop, List.length_take]; rfl)) ?_; (with_reducible refine (hang_checkBar.calls a1 t219 _ A4.out).mono ?_); rintro e w' ⟨rfl, ⟨nd, rfl⟩⟩; refine ⟨_, rfl, ?_⟩; (try (rw [drewN_self w37]; generalize hq_ : World.drewN w37 _ = w37; have n0_ : Aside0 (w37.heap[gb217]? = some (.cells #[.int .i64 0, .int .i64 0] 23 (0, 0))) := ⟨by rw [← hq_]; exact (by (with_reducible repeat (first | refine blk_drewN ?_ _ | refine blk_drew ?_ | refine blk_alloc ?_ _)); exact BK217.out)⟩; have n1_ : Aside0 (Below w.heap.size w w37) := ⟨by rw [← hq_]; exact (by repeat (first | (with_reducible first | exact HB.out | apply below_alloc | apply pw_below_drewN | apply below_drew1 | refine below_set ?_ GE217.out) | exact HB.out))⟩; clear BK217 HB hq_; have BK217 := n0_; have HB := n1_; clear n0_ n1_))) | ((with_reducible refine gate_dst (N := 15) rfl ?_); refine Kd.R_lit (Kd.int .i64) _ 26 ?hg (N := 15) ?hd (xs := ([t218, t219] : List Int)) (inner := [.int .i64 t218, .int .i64 t219]) (ok := fun _ => True) (okp := fun _ => True) ?hr ?hp (fun _ hk => hk) trivial (Below.refl _ _) (Nat.le_refl _) (by simp) ?_; (case hd => rfl); (case hg => rfl); (case hr => first | (go_simp; done) | (go_simp; rfl)); (case hp => exact (Reps.one (show Kd.M (Kd.int .i64) _ _ _ t218 [.int .i64 t218] from rfl) (Reps.one (show Kd.M (Kd.int .i64) _ _ _ t219 [.int .i64 t219] from rfl) (Reps.none _ _)))); intro v221 w38 ho39 hb hg_ hnew_; clear hg_ hnew_; (first | rw [← Ny220.out] at ho39 | (simp only [Int.reduceToNat] at ho39; rw [← Ny220.out] at ho39)); have n0_ := Aside0.mk (Kd.R_lower ho39 (below_size (by repeat (first | (with_reducible first | exact HB.out | apply below_alloc | apply pw_below_drewN | apply below_drew1 | refine below_set ?_ GE217.out) | exact HB.out)))); have n1_ := Aside0.mk (blk_below (g := gb217) (o := .cells #[.int .i64 0, .int .i64 0] 23 (0, 0)) (by (with_reducible repeat (first | refine blk_drewN ?_ _ | refine blk_drew ?_ | refine blk_alloc ?_ _)); exact BK217.out) hb); have n2_ := Aside0.mk (below_step (by repeat (first | (with_reducible first | exact HB.out | apply below_alloc | apply pw_below_drewN | apply below_drew1 | refine below_set ?_ GE217.out) | exact HB.out)) hb); clear BK217; clear HB; have HO222 := n0_; have BK217 := n1_; have HB := n2_; clear n0_ n1_ n2_; clear hb ho39; obtain ⟨Ao40, co40, eo40⟩ := Kd.R_slice HO222.out; subst eo40) | ((with_reducible refine gate_callee (f := 72) rfl ?_); refine goesL_ (some 16) rfl rfl Tryd.func72 (by kernel_rfl) rfl #[.slice Ao40 y220.length co40] rfl (by (try simp only [List.map_toArray, List.map_cons, List.map_nil]); first | done | rfl | (simp only [List.length_drop, List.length_take]; rfl)) ?_; (with_reducible refine (hang_first.calls k _ _ y220 t223 _ ?side1 ?side2 A5.out).mono ?_); (case side1 => repeat (first | exact (Kd.R_reads' HO222.out).2.2 | (with_reducible refine Kd.C_alloc ?_ _) | (with_reducible refine Kd.C_drewN ?_ _) | (with_reducible refine Kd.C_drew ?_))); (case side2 => exact (Kd.R_reads' HO222.out).2.1); rintro e w' ⟨rfl, ⟨nd, rfl⟩⟩; refine ⟨_, rfl, ?_⟩; (try (rw [drewN_self w38]; generalize hq_ : World.drewN w38 _ = w38; have n0_ : Aside0 (Kd.R (Kd.int .i64) 26 w38 w.heap.size (fun _ => True) (.slice Ao40 y220.length co40) y220) := ⟨by rw [← hq_]; exact (by (with_reducible repeat (first | apply Kd.R_alloc | apply Kd.R_drewN | apply Kd.R_drew)); exact HO222.out)⟩; have n1_ : Aside0 (w38.heap[gb217]? = some (.cells #[.int .i64 0, .int .i64 0] 23 (0, 0))) := ⟨by rw [← hq_]; exact (by (with_reducible repeat (first | refine blk_drewN ?_ _ | refine blk_drew ?_ | refine blk_alloc ?_ _)); exact BK217.out)⟩; have n2_ : Aside0 (Below w.heap.size w w38) := ⟨by rw [← hq_]; exact (by repeat (first | (with_reducible first | exact HB.out | apply below_alloc | apply pw_below_drewN | apply below_drew1 | refine below_set ?_ GE217.out) | exact HB.out))⟩; clear HO222 BK217 HB hq_; have HO222 := n0_; have BK217 := n1_; have HB := n2_; clear n0_ n1_ n2_)); have hcz41_0 : w38.cell? ⟨gb217, 0, none⟩ = some (.int .i64 0) := (blk_cell BK217.out 0).trans rfl; have hcz41_1 : w38.cell? ⟨gb217, 1, none⟩ = some (.int .i64 0) := (blk_cell BK217.out 1).trans rfl; have hfz41_0 := blk_frozen BK217.out 0; have hfz41_1 := blk_frozen BK217.out 1))
  refine bodyPost_ret (results_ct rfl _ _ gb217 23 #[.int .i64 0, .int .i64 0] (0, 0) _ rfl (by (with_reducible repeat (first | refine blk_drewN ?_ _ | refine blk_drew ?_ | refine blk_alloc ?_ _)); refine blk_put (cs := #[.int .i64 0, .int .i64 0]) ?_ 1 _ rfl; (with_reducible repeat (first | refine blk_drewN ?_ _ | refine blk_drew ?_ | refine blk_alloc ?_ _)); refine blk_put (cs := #[.int .i64 0, .int .i64 0]) ?_ 0 _ rfl; (with_reducible repeat (first | refine blk_drewN ?_ _ | refine blk_drew ?_ | refine blk_alloc ?_ _)); exact BK217.out) Tryd.underlying23 rfl (by kernel_rfl)) rfl ?_
  exact ⟨by first | rfl | (simp [errW_none, errW_some] <;> rfl) | (simp [*, errW_none, errW_some] <;> rfl), by repeat (first | (with_reducible first | exact HB.out | apply below_alloc | apply pw_below_drewN | apply below_drew1 | refine below_set ?_ GE217.out) | exact HB.out)⟩
end Go.Proofs.YtppighiaffppkaaDoor.H
end
section
namespace Go.Proofs.YtppighiaffppkaaDoor.H
open Go.RowKit Go.Shelf Go.Proofs.YtppighiaffppkaaDoorW.PrintWords Go.Proofs.YtppighiaffppkaaDoorW.PrintLast Go.Proofs.YtppighiaffppkaaDoorW.PrintMore
set_option linter.unusedVariables false
set_option linter.unusedSimpArgs false
section
variable {P : Program} {ops : Array Oper} {Q : Exit → Act → World → Prop} {l n : Nat}
def noDefer (o : Oper) : Bool := match o.op with | .defer _ => false | _ => true
theorem oper_round {o : Oper} {a : Act} {w : World} {K K' : Act → World → Prop} (hd : noDefer o = true) (hK : ∀ a w, K a w → K' a w) (h : o.wp P a w K Q) : o.wpIn (Fence.wide.inRound l) n P a w K' Q := by
 refine ⟨fun _ _ => trivial, ?_⟩
 have e : o.semAt (Fence.wide.inRound l).round a.eval = execOp a.eval o := Oper.semAt_eq _ _ o (fun c hc => by simp [noDefer, hc] at hd)
 rw [e]
 unfold Oper.wp at h
 revert h
 generalize (execOp a.eval o).run P w = r
 intro h
 cases r with
 | ok x w' =>
  cases x with
  | value v => exact hK _ _ h
  | skip => exact hK _ _ h
  | defer d => exact hK _ _ h
  | enter f args =>
   refine ⟨fun hs => absurd hs (by simp [Fence.wide]), CallsIn.inRound l (callsIn_wide.2 ?_)⟩
   refine Calls.mono h ?_
   intro e w'' q
   cases e with
   | returned v => exact hK _ _ q
   | _ => exact q
  | row row args =>
   refine ⟨fun hs => absurd hs (by simp [Fence.wide]), fun c cs _ => ?_⟩
   obtain ⟨v, w'', r, s⟩ := h c cs
   exact ⟨v, w'', hK _ _ r, stepsIn_wide.2 s⟩
  | round => exact h.elim
  | _ => exact h.elim
 | halt x w' => cases x <;> first | exact h | exact h.elim
theorem wpListIn_round (hL : ¬ LetsOut Q) : ∀ (es : List Oper) (a : Act) (w : World), es.all noDefer = true → wpList P ops Q es a w → wpListIn (Fence.wide.inRound l) n P ops Q es a w
 | [], _, _, _, h => h
 | o :: es, a, w, hd, h => by
  simp only [List.all_cons, Bool.and_eq_true] at hd
  unfold wpListIn
  unfold wpList at h
  split
  ·rename_i hw
   rw [if_pos hw] at h
   exact oper_round hd.1 (fun a w hk => wpListIn_round hL es a w hd.2 hk) (h.resolve_right (fun hh => hL hh.2))
  ·rename_i hw
   rw [if_neg hw] at h
   exact ⟨fun _ _ => trivial, wpListIn_round hL es _ w hd.2 h⟩
end
theorem run_copy_rowN {P : Program} (w : World) (dT sT ty elem : TypeId) (g dCap n sz : Nat) (a : Addr) (sCap : Nat) (cur : Array Value) (t : TypeId) (cs : List Value)
  (hu : P.underlying dT = some (.slice elem)) (hs : (P.info? elem).map (·.size) = some sz)
  (hg : w.heap[g]? = some (.cells cur t (0, 0))) (hn : cs.length = n * sz)
  (hsrc : ∀ j v, cs[j]? = some v → w.cell? (a.add j) = some v) (hfit : cs.length ≤ cur.size) (h1 : ∀ v ∈ cs, v.oneCell' = true) :
  (Builtin.copy_ #[dT, sT] ty #[.slice (some ⟨g, 0, none⟩) n dCap, .slice (some a) n sCap]).run P w =
   .ok (goInt n) (w.setRow g (cs ++ cur.toList.drop cs.length).toArray) := by
 have hl := run_loadCells_list (P := P) w a cs hsrc
 have hst := run_storeCells_at P g 0 t cs 0 cur w hg (by simpa using hfit) h1
 cases hq : P.info? elem with
 | none => simp [hq] at hs
 | some i =>
  have hi : i.size = sz := by simpa [hq] using hs
  simp [Builtin.copy_, run_underlying hu, Builtin.lenOf, Builtin.firstCells, sizeOf, typeInfo, hq, hi, ← hn, hl, hst]
structure BodyKp (n₀ Bs Bb q : Nat) (A B : World) : Prop where
 keeps : KeepsOthers A B
 mkp : MarkKp n₀ Bs Bb A B
 low : Below q A B
theorem bk_trans {n₀ Bs Bb q : Nat} {A B C : World} (h : BodyKp n₀ Bs Bb q A B) (k : BodyKp n₀ Bs Bb q B C) : BodyKp n₀ Bs Bb q A C := ⟨h.keeps.trans k.keeps, markK_t h.mkp k.mkp, h.low.trans k.low⟩
theorem bk_below {n₀ Bs Bb q : Nat} {A B : World} (h : Below A.heap.size A B) (hn : n₀ ≤ A.heap.size) (hq : q ≤ A.heap.size) : BodyKp n₀ Bs Bb q A B :=
 ⟨⟨h.size, fun k o hk _ => (h.block k (blk_lt hk)).trans hk⟩, markK_below h hn, h.mono hq⟩
theorem bk_set {n₀ Bs Bb q g : Nat} {W : World} {cs : Array Value} {t : TypeId} {z : Nat × Nat} (h : W.heap[g]? = some (.cells cs t z)) (ht : t ≠ 131) (h0 : n₀ ≤ g) (hq : q ≤ g) (hs : Bs ≠ g) (hb : Bb ≠ g) (i : Nat) (v : Value) : BodyKp n₀ Bs Bb q W (W.setCell ⟨g, i, none⟩ v) :=
 ⟨KeepsOthers.setCell _ _ _, markK_set h ht h0 hs hb i v, (Below.refl _ _).setCell (p := ⟨g, i, none⟩) hq v⟩
theorem bk_grown {n₀ Bs Bb q base : Nat} {W W' : World} {ok : Nat → Prop} {v : Value} {xs : List S23} (hR : Kd.R k23 23 W base ok v xs) (h0 : n₀ ≤ base) (hq : q ≤ base) (hbw : base ≤ W.heap.size) (hok : ∀ k, ok k → k ≠ Bs ∧ k ≠ Bb) (hg : W.grownBy W' v.ownBlock) : BodyKp n₀ Bs Bb q W W' := by
 obtain ⟨h1, inner, hown, hr⟩ := hR
 have hty := own_typed hown
 have hbs := own_base hown
 have hcell : ∀ (b : Nat) (u : Value), b = Bs ∨ b = Bb → W.cell? ⟨b, 0, none⟩ = some u → W'.cell? ⟨b, 0, none⟩ = some u := by
  intro b u hb hc
  have hlt := World.block_lt_of_cell? W _ hc
  refine (World.cell?_of_block (hg.block b hlt ?_)).trans hc
  intro e
  have := hok b (h1 b e.symm)
  rcases hb with hb | hb
  ·exact this.1 hb
  ·exact this.2 hb
 refine ⟨KeepsOthers.of_grownBy hg (fun j o e ho => ?_), ⟨?_, fun u => hcell Bs u (.inl rfl), fun u => hcell Bb u (.inr rfl), fun b cs z e => ?_⟩, ?_⟩
 ·obtain ⟨cells, hc⟩ := hty j e
  rw [hc] at ho; cases ho; rfl
 ·exact (Below.refl n₀ W).grown hg (by omega) (fun k e => Nat.le_trans h0 (hbs k e))
 ·refine (hg.block b (blk_lt e) ?_).trans e
  intro he
  obtain ⟨cells, hc⟩ := hty b he.symm
  rw [hc] at e; cases e
 ·exact (Below.refl q W).grown hg (by omega) (fun k e => Nat.le_trans hq (hbs k e))
theorem own_R {β α : Type} (B e base : Nat) (d : Kd α) (ok : Nat → Prop) (v : β → Value) (xs : β → List α) : OwnFrom B (fun s W => Kd.R d e W base ok (v s) (xs s)) := fun s W W' row hs hg hr =>
 Kd.R_mono (Kd.R_grown (Kd.R_bound hs) hg (fun k hk he => by
  obtain ⟨_, _, _, q, _, cells, hc⟩ := hk
  obtain ⟨_, o, ho, hno⟩ := hr k he.symm
  rw [hc] at ho; cases ho; cases hno)) (fun _ hk => hk.1)
theorem R_copy {W : World} {base : Nat} {ok : Nat → Prop} {v : Value} {xs : List S23} (h : Kd.R k23 23 W base ok v xs) (hn : 0 < xs.length) :
  ∃ (ad : Addr) (c : Nat) (inner : List Value), v = .slice (some ad) xs.length c ∧ inner.length = xs.length * 2 ∧ (∀ j u, inner[j]? = some u → W.cell? (ad.add j) = some u) ∧ (∀ u ∈ inner, u.oneCell' = true) ∧
   ∀ (W' : World) (base' g : Nat), W'.heap[g]? = some (.cells inner.toArray 23 (0, 0)) → base' ≤ g → xs.length ≤ maxLen → Kd.R k23 23 W' base' (fun _ => True) (.slice (some ⟨g, 0, none⟩) xs.length xs.length) xs := by
 obtain ⟨h0, inner, hown, hr⟩ := h
 have hsz : k23.sz = 2 := rfl
 rw [hsz] at hown hr
 obtain ⟨hlen, hv⟩ := hown
 rcases hv with ⟨_, hz⟩ | ⟨g, cap, cur, rfl, hg, hh, hnc, hcap, hcs, htk⟩
 ·omega
 refine ⟨⟨g, 0, none⟩, cap, inner, rfl, hlen, ?_, ?_, ?_⟩
 ·intro j u hu
  have : (⟨g, 0, none⟩ : Addr).add j = ⟨g, j, none⟩ := by
   unfold Addr.add
   by_cases hj : j = 0
   ·subst hj; rfl
   ·simp [hj]
  rw [this, blk_cell hh j]
  rw [← htk] at hu
  have hjl : j < xs.length * 2 := by
   have := (List.getElem?_eq_some_iff.1 hu).1
   rw [List.length_take] at this
   omega
  rw [List.getElem?_take_of_lt hjl] at hu
  simpa using hu
 ·intro u hu
  obtain ⟨i, hi, rfl⟩ := List.getElem_of_mem hu
  have hj : i / 2 < xs.length := by omega
  have h2 := k23_openM (hr.2 (i / 2) _ (List.getElem?_eq_getElem hj))
  have h3 : ((inner.drop (i / 2 * 2)).take 2)[i - i / 2 * 2]? = some inner[i] := by
   rw [List.getElem?_take_of_lt (by omega), List.getElem?_drop, show i / 2 * 2 + (i - i / 2 * 2) = i by omega, List.getElem?_eq_getElem hi]
  rw [h2] at h3
  have h4 := List.mem_of_getElem? h3
  simp only [List.mem_cons, List.not_mem_nil, or_false] at h4
  rcases h4 with h4 | h4 <;> rw [h4] <;> rfl
 ·intro W' base' g' hg' hb hm
  refine ⟨fun _ _ => trivial, inner, ⟨hlen, .inr ⟨g', xs.length, inner.toArray, rfl, hb, hg', Nat.le_refl _, hm, by rw [hsz]; simpa using hlen, by rw [hsz, ← hlen]; simp⟩⟩, ?_⟩
  rw [hsz]
  refine hr.imp_ (fun p c hp => ?_)
  have := k23_openM hp
  rw [this]
  exact k23_mkM _ _ _ p
def hang_place.f (k : Nat) (x : Int) : Option (S23 × Int) := (hang_ratio.f k x 2329089562800).bind fun b => (hang_large.f b.1 b.2).bind fun e => some (⟨b.1, b.2⟩, e)
def placesAll (k : Nat) : List Int → Option (List (S23 × Int))
 | [] => some []
 | x :: r => (hang_place.f k x).bind fun p => (placesAll k r).bind fun q => some (p :: q)
def firstErr : List (S23 × Int) → Int
 | [] => 0
 | p :: l => if p.2 = 0 then firstErr l else p.2
def hang_places.f (k : Nat) (l : List S131) (bar : Int) : Option (List S23 × Int) :=
 if markOk l = true then (if (markAll bar l).length < 1000000000000 then (placesAll k (markAll bar l)).bind fun ps => some (if firstErr ps = 0 then (ps.map (·.1), 0) else ([], firstErr ps)) else none) else none
def gP (k : Nat) (x : Int) : S23 × Int := (hang_place.f k x).getD (⟨0, 0⟩, 0)
theorem placesAll_map {k : Nat} : ∀ {xs : List Int} {ps}, placesAll k xs = some ps → ps = xs.map (gP k) ∧ ∀ x ∈ xs, hang_place.f k x = some (gP k x)
 | [], ps, h => by
  simp only [placesAll, Option.some.injEq] at h
  subst h
  exact ⟨rfl, fun x hx => by cases hx⟩
 | x :: r, ps, h => by
  simp only [placesAll] at h
  obtain ⟨p, hp, h⟩ := Option.bind_eq_some_iff.mp h
  obtain ⟨q, hq, h⟩ := Option.bind_eq_some_iff.mp h
  obtain rfl := Option.some.inj h
  obtain ⟨e, hr⟩ := placesAll_map hq
  have hg : gP k x = p := by unfold gP; rw [hp]; rfl
  refine ⟨by rw [List.map_cons, hg, e], fun y hy => ?_⟩
  rcases List.mem_cons.1 hy with rfl | hy
  ·rw [hg]; exact hp
  ·exact hr y hy
theorem firstErr_none : ∀ {l : List (S23 × Int)}, (∀ p ∈ l, p.2 = 0) → firstErr l = 0
 | [], _ => rfl
 | p :: l, h => by
  unfold firstErr
  rw [if_pos (h p (by simp))]
  exact firstErr_none (fun q hq => h q (by simp [hq]))
theorem firstErr_hit : ∀ {l1 : List (S23 × Int)} {p : S23 × Int} {l2}, (∀ p ∈ l1, p.2 = 0) → p.2 ≠ 0 → firstErr (l1 ++ p :: l2) = p.2
 | [], p, l2, _, h => by
  show firstErr (p :: l2) = _
  unfold firstErr
  rw [if_neg h]
 | q :: l, p, l2, h, hp => by
  show firstErr (q :: (l ++ p :: l2)) = _
  unfold firstErr
  rw [if_pos (h q (by simp))]
  exact firstErr_hit (fun r hr => h r (by simp [hr])) hp
end Go.Proofs.YtppighiaffppkaaDoor.H
end
section
set_option linter.unusedVariables false
set_option linter.unusedSimpArgs false
namespace Go.Proofs.YtppighiaffppkaaDoor.H
open Go.Proofs.YtppighiaffppkaaDoorW.PrintWords
def rangeE (n lo hi : Int) : Int := if n < lo then 3 else if n > hi then 3 else 0
def firstE : List Int → Int
 | [] => 0
 | x :: l => if x = 0 then firstE l else x
def whenE (c : Bool) (e : Int) : Int := if c = true then e else 0
def gcdI (a b : Int) : Int := (Nat.gcd a.toNat b.toNat : Int)
def lowI (a b : Int) : Int × Int := (a / gcdI a b, b / gcdI a b)
def checkR (p q : Int) : Int := if p < 1 ∨ p > 30 ∨ q < 1 ∨ q > 30 then 3 else if p > q then 11 else if gcdI p q = 1 then 0 else 1
def checkS (n d : Int) : Int := if n < 0 ∨ n > 4000000000000 ∨ d < 1 ∨ d > 810000 then 3 else if gcdI n d = 1 then 0 else 1
theorem gcdI_pos {a b : Int} (h : 0 < a ∨ 0 < b) : 0 < gcdI a b := by
 unfold gcdI
 have : 0 < Nat.gcd a.toNat b.toNat := by
  rcases h with h | h
  ·exact Nat.gcd_pos_of_pos_left _ (by omega)
  ·exact Nat.gcd_pos_of_pos_right _ (by omega)
 omega
theorem gcdI_le_right {a b : Int} (h : 0 < b) : gcdI a b ≤ b := by
 unfold gcdI
 have : Nat.gcd a.toNat b.toNat ≤ b.toNat := Nat.gcd_le_right _ (by omega)
 omega
theorem gcdI_dvd_right {a b : Int} (h : 0 ≤ b) : gcdI a b ∣ b := by
 unfold gcdI
 obtain ⟨n, rfl⟩ := Int.eq_ofNat_of_zero_le h
 exact Int.ofNat_dvd.mpr (by simpa using Nat.gcd_dvd_right a.toNat n)
theorem gcdI_zero_right {a : Int} (h : 0 ≤ a) : gcdI a 0 = a := by unfold gcdI; simp; omega
theorem gcdI_step {a b : Int} (ha : 0 ≤ a) (hb : 0 < b) : gcdI b (Int.tmod a b) = gcdI a b := by
 rw [Int.tmod_eq_emod_of_nonneg ha]
 obtain ⟨n, rfl⟩ := Int.eq_ofNat_of_zero_le ha
 obtain ⟨m, rfl⟩ := Int.eq_ofNat_of_zero_le (Int.le_of_lt hb)
 unfold gcdI
 rw [← Int.natCast_emod]
 simp only [Int.toNat_natCast]
 rw [Nat.gcd_comm m (n % m), ← Nat.gcd_rec m n, Nat.gcd_comm m n]
theorem lowI_den_pos {a b : Int} (hb : 0 < b) : 0 < (lowI a b).2 := by
 unfold lowI
 have h1 := gcdI_pos (a := a) (Or.inr hb)
 have h2 := gcdI_le_right (a := a) hb
 exact Int.ediv_pos_of_pos_of_dvd hb (by omega) (gcdI_dvd_right (by omega))
theorem lowI_same {a b : Int} (ha : 0 ≤ a) (hb : 0 < b) : lowI a b = (a, b) ↔ gcdI a b = 1 := by
 have h1 := gcdI_pos (a := a) (Or.inr hb)
 have h2 := gcdI_dvd_right (a := a) (b := b) (by omega)
 constructor
 ·intro h
  have e : b / gcdI a b = b := congrArg Prod.snd h
  obtain ⟨c, hc⟩ := h2
  have : b / gcdI a b = c := Int.ediv_eq_of_eq_mul_right (by omega) hc
  have hcb : c = b := this.symm.trans e
  rw [hcb] at hc
  have hb' : b * 1 = b * gcdI a b := by rw [Int.mul_one, Int.mul_comm]; exact hc
  exact (Int.eq_of_mul_eq_mul_left (by omega) hb').symm
 ·intro h
  unfold lowI
  rw [h]; simp
end Go.Proofs.YtppighiaffppkaaDoor.H
end
section
namespace Go.Proofs.YtppighiaffppkaaDoor.H
open Go.RowKit Go.Shelf Go.Proofs.YtppighiaffppkaaDoorW.PrintWords Go.Proofs.YtppighiaffppkaaDoorW.PrintLast Go.Proofs.YtppighiaffppkaaDoorW.PrintMore
attribute [local go_sem] Oper.semAt_some
attribute [local go_sem] max2_int min2_int max_two min_two max_three min_three max_four min_four
set_option linter.unusedVariables false
set_option linter.unusedSimpArgs false
def hang_Marks.f (k : Nat) (l0 : List S131) (a1 : Int) : Option (List S23 × Int) := (hang_checkSections.f k l0).bind fun t218 => ((hang_checkBar.f a1).bind fun t219 => ((hang_first.f k (([t218, t219] : List Int))).bind fun t223 => (if t223 = 0 then hang_places.f k l0 a1 else (some ([], t223)))))
theorem size23 : (Tryd.prog.info? 23).map (·.size) = some 2 := by kernel_rfl
theorem make65 (n : Nat) (hn : n < 1000000000000) (W : World) : (Instr.makeSlice 65 (.int .i64 (n : Int)) (.int .i64 (n : Int))).run Tryd.prog W = .ok (.slice (some ⟨W.heap.size, 0, none⟩) n n) (W.alloc (.cells (madeCells (Value.agg #[.int .i64 0, .int .i64 0]).cells (n * 2)) 23)) := by
 have hi := info23
 cases hq : Tryd.prog.info? 23 with
 | none => simp [hq] at hi
 | some i =>
  rw [hq] at hi
  simp only [Option.map_some, Option.some.injEq, Prod.mk.injEq] at hi
  obtain ⟨hz, hs, hb⟩ := hi
  have := run_make (P := Tryd.prog) W 65 23 i _ Tryd.underlying65 hq hz .i64 .i64 (n : Int) (n : Int) (by omega) (Int.le_refl _) (by rw [hb]; omega) (by omega)
  rw [hs] at this
  simpa using this
theorem wpList_copyN {P : Program} {w : World} {ops : Array Oper} {rest : List Oper} {o : Oper} {a : Act} {Q : Exit → Act → World → Prop} (hgd : o.guard = none) (d s : Operand) (dT sT : TypeId)
  (ho : o.op = .call { callee := .builtin .copy, args := #[d, s], argTypes := #[dT, sT] }) (elem : TypeId) (hu : P.underlying dT = some (.slice elem)) (sz : Nat) (hsz : (P.info? elem).map (·.size) = some sz)
  (g n dCap : Nat) (ad : Addr) (sCap : Nat) (hd : a.eval d = .slice (some ⟨g, 0, none⟩) n dCap) (hs : a.eval s = .slice (some ad) n sCap)
  (cur : Array Value) (t : TypeId) (hg : w.heap[g]? = some (.cells cur t (0, 0))) (cs : List Value) (hn : cs.length = n * sz)
  (hsrc : ∀ j v, cs[j]? = some v → w.cell? (ad.add j) = some v) (hfit : cs.length ≤ cur.size) (h1 : ∀ v ∈ cs, v.oneCell' = true)
  (h : wpList P ops Q rest (a.put o.dst (goInt n)) (w.setRow g (cs ++ cur.toList.drop cs.length).toArray)) : wpList P ops Q (o :: rest) a w := by
 refine wpList_plain hgd fun K hK => ?_
 have hrun := run_copy_rowN (P := P) w dT sT o.type elem g dCap n sz ad sCap cur t cs hu hsz hg hn hsrc hfit h1
 unfold Oper.wp
 simp [execOp, ho, resolve, invoke, builtin, hd, hs, hrun, Result.andThen]
 exact hK _ _ h
theorem hang_places.parts {k : Nat} {l : List S131} {bar : Int} {r : List S23 × Int} (h : hang_places.f k l bar = some r) : markOk l = true ∧ (markAll bar l).length < 1000000000000 ∧ ∃ ps, placesAll k (markAll bar l) = some ps ∧ r = (if firstErr ps = 0 then (ps.map (·.1), 0) else ([], firstErr ps)) := by
 unfold hang_places.f at h
 split at h
 ·split at h
  ·obtain ⟨ps, hp, h⟩ := Option.bind_eq_some_iff.mp h
   exact ⟨by assumption, by assumption, ps, hp, (Option.some.inj h).symm⟩
  ·cases h
 ·cases h
theorem marks_results {tmps : Array Value} {w : World} (g4 g5 : Nat) (u : Value × Int) (k4 : w.heap[g4]? = some (.cells #[u.1] 65 (0, 0))) (k5 : w.heap[g5]? = some (.cells #[.int .i64 u.2] 26 (0, 0))) (h4 : tmps.getD 4 undef = .pointer (some ⟨g4, 0, none⟩)) (h5 : tmps.getD 5 undef = .pointer (some ⟨g5, 0, none⟩)) (hA : ∃ A n c, u.1 = .slice A n c) :
  (results Tryd.f41 tmps).run Tryd.prog w = .ok (.tuple #[u.1, .int .i64 u.2]) w := by
 have c4 := (blk_cell k4 0).trans (rfl : (#[u.1] : Array Value)[0]? = some u.1)
 have c5 := (blk_cell k5 0).trans (rfl : (#[Value.int .i64 u.2] : Array Value)[0]? = some (.int .i64 u.2))
 obtain ⟨A, n, c, e⟩ := hA
 rw [e] at c4 ⊢
 have h4' : tmps[4]?.getD undef = .pointer (some ⟨g4, 0, none⟩) := by simpa using h4
 have h5' : tmps[5]?.getD undef = .pointer (some ⟨g5, 0, none⟩) := by simpa using h5
 simp [results, Tryd.f41, go_sem, h4', h5', c4, c5]
set_option maxHeartbeats 8000000 in
set_option maxRecDepth 100000 in
theorem hang_Marks.calls (k : Nat) (A0 : Option Addr) (c0 : Nat) (l0 : List S131) (a1 : Int) (r1 : List S23) (r2 : Int) (w : World) (hr0 : Kd.C k131 w A0 l0.length l0) (hc0 : l0.length ≤ c0) (h : hang_Marks.f k l0 a1 = some (r1, r2)) :
  Calls Tryd.prog 41 #[.slice A0 l0.length c0, .int .i64 a1] w fun e w' => ∃ v0_ : Value, e = .returned (.tuple #[v0_, .int .i64 r2]) ∧ Kd.R k23 23 w' w.heap.size (fun _ => True) v0_ r1 ∧ Below w.heap.size w w' := by
 have hu23 := Tryd.underlying23
 have HR0 := Aside0.mk hr0
 have HC0 := Aside0.mk hc0
 clear hr0 hc0
 unfold hang_Marks.f at h
 obtain ⟨t218, A30, h⟩ := Option.bind_eq_some_iff.mp h
 obtain ⟨t219, A40, h⟩ := Option.bind_eq_some_iff.mp h
 obtain ⟨y220, hy220⟩ : ∃ y_ : List Int, y_ = (([t218, t219] : List Int)) := ⟨_, rfl⟩
 rw [← hy220] at h
 obtain ⟨t223, A50, h⟩ := Option.bind_eq_some_iff.mp h
 have A3 := Aside0.mk A30
 have A4 := Aside0.mk A40
 have A5 := Aside0.mk A50
 have Ny220 := Aside0.mk hy220
 clear A30 A40 A50 hy220
 by_cases c6 : t223 = 0
 ·rw [if_pos c6] at h
  have c6b0 : (t223 == 0) = true := beq_iff_eq.mpr c6
  have c6b1 : (t223 != 0) = false := bne_eq_false_iff_eq.mpr c6
  clear c6
  have A7 := Aside0.mk h
  clear h
  refine (callsIn_wide (n := 6)).1 (callsIn_of_wp_marks Tryd.func41 rfl trivial ?_ rfl)
  simp only [Tryd.ntmps41, List.size_toArray, List.length_cons, List.length_nil, Nat.reduceAdd, Nat.reduceSub, Array.replicate_succ, Array.replicate_zero, List.push_toArray, List.append_toArray, List.nil_append, List.cons_append]
  refine wpIn_wide.2 ?_
  go_wp2_with (first | ((with_reducible refine gate_callee (f := 82) rfl ?_); obtain ⟨w2, hw2⟩ : ∃ w2, ((w.alloc (.cells #[.slice none 0 0] 65)).alloc (.cells #[.int .i64 0] 26)) = w2 := ⟨_, rfl⟩; have hbw : Below w.heap.size w w2 := (by rw [← hw2]; exact ((Below.refl _ w).alloc (Nat.le_refl _) _).alloc (by simp) _); have hk4 : w2.heap[w.heap.size]? = some (.cells #[.slice none 0 0] 65 (0, 0)) := (by rw [← hw2]; exact blk_alloc (blk_new w _) _); have hk5 : w2.heap[w.heap.size + 1]? = some (.cells #[.int .i64 0] 26 (0, 0)) := (by rw [← hw2]; have := blk_new (w.alloc (.cells #[.slice none 0 0] 65)) (.cells #[.int .i64 0] 26); rw [World.size_alloc] at this; exact this); rw [hw2]; clear hw2; refine goesL_ (some 13) rfl rfl Tryd.func82 (by kernel_rfl) rfl #[.slice A0 l0.length c0] rfl (by (try simp only [List.map_toArray, List.map_cons, List.map_nil]); first | done | rfl) ?_; (with_reducible refine (hang_checkSections.calls k _ _ l0 t218 _ (Kd.C_below HR0.out hbw) HC0.out A3.out).mono ?_); rintro e w12 ⟨rfl, hb⟩; refine ⟨_, rfl, ?_⟩; have HB := Aside0.mk hb; have HBW := Aside0.mk hbw; have BK4 := Aside0.mk hk4; have BK5 := Aside0.mk hk5; clear hb hbw hk4 hk5) | ((with_reducible refine gate_callee (f := 77) rfl ?_); refine goesL_ (some 15) rfl rfl Tryd.func77 (by kernel_rfl) rfl #[.int .i64 a1] rfl (by (try simp only [List.map_toArray, List.map_cons, List.map_nil]); first | done | rfl) ?_; (with_reducible refine (hang_checkBar.calls a1 t219 _ A4.out).mono ?_); rintro e w' ⟨rfl, ⟨nd, rfl⟩⟩; refine ⟨_, rfl, ?_⟩; generalize hq_ : World.drewN w12 _ = w13; have n1_ : Aside0 (Below w2.heap.size w2 w13) := ⟨(by rw [← hq_]; exact pw_below_drewN HB.out _)⟩; clear HB hq_; have HB := n1_; clear n1_) | ((with_reducible refine gate_dst (N := 16) rfl ?_); refine Kd.R_lit (Kd.int .i64) _ 26 ?hg (N := 16) ?hd (xs := ([t218, t219] : List Int)) (inner := [.int .i64 t218, .int .i64 t219]) (ok := fun _ => True) (okp := fun _ => True) ?hr ?hp (fun _ hk => hk) trivial (Below.refl _ _) (Nat.le_refl _) (by simp) ?_; (case hd => rfl); (case hg => rfl); (case hr => first | (go_simp; done) | (go_simp; rfl)); (case hp => exact (Reps.one (show Kd.M (Kd.int .i64) _ _ _ t218 [.int .i64 t218] from rfl) (Reps.one (show Kd.M (Kd.int .i64) _ _ _ t219 [.int .i64 t219] from rfl) (Reps.none _ _)))); intro v221 w14 ho14 hb hg_ hnew_; clear hg_ hnew_; (first | rw [← Ny220.out] at ho14 | (simp only [Int.reduceToNat] at ho14; rw [← Ny220.out] at ho14)); have n2_ := Aside0.mk (below_step HB.out hb); clear HB; have HB := n2_; clear n2_; have HO := Aside0.mk ho14; clear hb ho14; obtain ⟨Ao15, co15, eo15⟩ := Kd.R_slice HO.out; subst eo15) | ((with_reducible refine gate_callee (f := 72) rfl ?_); refine goesL_ (some 17) rfl rfl Tryd.func72 (by kernel_rfl) rfl #[.slice Ao15 y220.length co15] rfl (by (try simp only [List.map_toArray, List.map_cons, List.map_nil]); first | done | rfl) ?_; (with_reducible refine (hang_first.calls k _ _ y220 t223 _ (Kd.R_reads' HO.out).2.2 (Kd.R_reads' HO.out).2.1 A5.out).mono ?_); rintro e w' ⟨rfl, ⟨nd, rfl⟩⟩; refine ⟨_, rfl, ?_⟩; generalize hq_ : World.drewN w14 _ = w15; have n1_ : Aside0 (Below w2.heap.size w2 w15) := ⟨(by rw [← hq_]; exact pw_below_drewN HB.out _)⟩; clear HB hq_ HO; have HB := n1_; clear n1_; have K4 := Aside0.mk (blk_below BK4.out HB.out); have K5 := Aside0.mk (blk_below BK5.out HB.out); have hc4 : w15.cell? ⟨w.heap.size, 0, none⟩ = some (.slice none 0 0) := (blk_cell K4.out 0).trans rfl; have hf4 := blk_frozen K4.out 0; have hc5 : w15.cell? ⟨w.heap.size + 1, 0, none⟩ = some (.int .i64 0) := (blk_cell K5.out 0).trans rfl; have hf5 := blk_frozen K5.out 0) | ((with_reducible refine gate_callee (f := 83) rfl ?_); refine goesL_ (some 23) rfl rfl Tryd.func83 (by kernel_rfl) rfl #[.slice A0 l0.length c0, .int .i64 a1] rfl (by (try simp only [List.map_toArray, List.map_cons, List.map_nil]); first | done | rfl) ?_; (with_reducible refine (hang_marks.calls A0 l0.length c0 a1 _).mono ?_); rintro e w' ⟨rfl, rfl⟩; refine ⟨_, rfl, ?_⟩))
  rename_i K_ aK_
  have hww : w.heap.size + 2 ≤ w2.heap.size := blk_lt BK5.out
  have hw2q : w2.heap.size ≤ w15.heap.size := HB.out.size
  have HQW : Aside0 (w.heap.size + 2 ≤ w15.heap.size) := ⟨by omega⟩
  have hBw : Below w.heap.size w w15 := below_then HBW.out HBW.out.size HB.out
  have HB15 := Aside0.mk hBw
  have hBq : Below w15.heap.size w15 (((w15.alloc (.cells #[.slice none 0 0] 65)).alloc (.cells #[.slice A0 l0.length c0] 63)).alloc (.cells #[.int .i64 a1] 3)) := (((Below.refl _ w15).alloc (Nat.le_refl _) _).alloc (by simp) _).alloc (by simp; omega) _
  have hk7 : (((w15.alloc (.cells #[.slice none 0 0] 65)).alloc (.cells #[.slice A0 l0.length c0] 63)).alloc (.cells #[.int .i64 a1] 3)).heap[w15.heap.size]? = some (.cells #[.slice none 0 0] 65 (0, 0)) := blk_alloc (blk_alloc (blk_new w15 _) _) _
  have hk8 : (((w15.alloc (.cells #[.slice none 0 0] 65)).alloc (.cells #[.slice A0 l0.length c0] 63)).alloc (.cells #[.int .i64 a1] 3)).heap[w15.heap.size + 1]? = some (.cells #[.slice A0 l0.length c0] 63 (0, 0)) := by have := blk_new (w15.alloc (.cells #[.slice none 0 0] 65)) (.cells #[.slice A0 l0.length c0] 63); rw [World.size_alloc] at this; exact blk_alloc this _
  have hk9 : (((w15.alloc (.cells #[.slice none 0 0] 65)).alloc (.cells #[.slice A0 l0.length c0] 63)).alloc (.cells #[.int .i64 a1] 3)).heap[w15.heap.size + 1 + 1]? = some (.cells #[.int .i64 a1] 3 (0, 0)) := by have := blk_new ((w15.alloc (.cells #[.slice none 0 0] 65)).alloc (.cells #[.slice A0 l0.length c0] 63)) (.cells #[.int .i64 a1] 3); rw [World.size_alloc, World.size_alloc] at this; exact this
  have hsq : (((w15.alloc (.cells #[.slice none 0 0] 65)).alloc (.cells #[.slice A0 l0.length c0] 63)).alloc (.cells #[.int .i64 a1] 3)).heap.size = w15.heap.size + 3 := by simp
  rw [World.size_alloc]
  obtain ⟨W0, hW0⟩ : ∃ W0, (((w15.alloc (.cells #[.slice none 0 0] 65)).alloc (.cells #[.slice A0 l0.length c0] 63)).alloc (.cells #[.int .i64 a1] 3)) = W0 := ⟨_, rfl⟩
  rw [hW0] at hBq hk7 hk8 hk9 hsq ⊢
  clear hW0 hc4 hf4 hc5 hf5
  have hB0 : Below w.heap.size w W0 := below_then hBw hBw.size hBq
  obtain ⟨hok, hmlen, ps, hps, hres⟩ := hang_places.parts A7.out
  obtain ⟨hden, hmes, hmany⟩ := markOk_parts hok
  obtain ⟨hpe, hpl⟩ := placesAll_map hps
  refine (wpIn_wide (n := 6)).1 ?_
  refine wpIn_rangeFunc_ownG (F := Fence.wide) rfl (by decide) (gf := 108) (lb := #[.pointer (some ⟨w15.heap.size + 1, 0, none⟩), .pointer (some ⟨w15.heap.size + 1 + 1, 0, none⟩)]) rfl trivial (enters_of Tryd.func108 (by kernel_rfl) rfl)
   (hang_marks1.stopsS 5 (by decide) (w15.heap.size + 1) (w15.heap.size + 1 + 1) w.heap.size A0 c0 l0 a1 hden hmes hmany W0 ((blk_cell hk8 0).trans rfl) ((blk_cell hk9 0).trans rfl) (Kd.C_below HR0.out hB0) hB0.size (marks_low HR0.out)) markK_t
   (fun W l o o' hl h hc _ => markK_b hB0.size W l o o' hl h hc) (Below.refl _ _) (fun _ => rfl)
   (fun pre W => (∃ v, W.heap[w15.heap.size]? = some (.cells #[v] 65 (0, 0)) ∧ Kd.R k23 23 W w15.heap.size (fun k_ => k_ ≠ w15.heap.size ∧ k_ ≠ w15.heap.size + 1 ∧ k_ ≠ w15.heap.size + 1 + 1) v (pre.map fun x => (gP k x.1).1)) ∧ (∀ x ∈ pre, (gP k x.1).2 = 0) ∧ Below w15.heap.size w15 W ∧ w15.heap.size + 3 ≤ W.heap.size)
   (fun c pre W => (c = .ret ∧ ∃ ini last, pre = ini ++ [last] ∧ (∀ x ∈ ini, (gP k x.1).2 = 0) ∧ (gP k last.1).2 ≠ 0 ∧ W.heap[w.heap.size]? = some (.cells #[.slice none 0 0] 65 (0, 0)) ∧ W.heap[w.heap.size + 1]? = some (.cells #[.int .i64 (gP k last.1).2] 26 (0, 0))) ∧ Below w.heap.size w W)
   (fun s A B row hs hg hr => by obtain ⟨⟨v, h7, hR⟩, hz, hBW, hsz⟩ := hs; exact ⟨⟨v, own_blk _ _ (fun _ => #[v]) _ s A B row h7 hg hr, own_R _ _ _ _ _ (fun _ => v) (fun s => s.map fun x => (gP k x.1).1) s A B row hR hg hr⟩, hz, ownFrom_below (Nat.le_refl _) (by omega) s A B row hBW hg hr, Nat.le_trans hsz hg.size⟩)
   (fun c s A B row hs hg hr => by obtain ⟨⟨hc, ini, last, e1, e2, e3, k4, k5⟩, hB⟩ := hs; exact ⟨⟨hc, ini, last, e1, e2, e3, own_blk _ _ (fun _ => _) _ s A B row k4 hg hr, own_blk _ _ (fun _ => _) _ s A B row k5 hg hr⟩, ownFrom_below (Nat.le_refl _) (by omega) s A B row hB hg hr⟩)
   ⟨⟨_, hk7, Kd.R_nil _ _ _ _ _⟩, (fun x hx => by cases hx), hBq, by omega⟩
   (fun x => { tmps := #[.slice A0 l0.length c0, .int .i64 a1, undef, undef, .pointer (some ⟨w.heap.size, 0, none⟩), .pointer (some ⟨w.heap.size + 1, 0, none⟩), .int .i64 t223, .pointer (some ⟨w15.heap.size, 0, none⟩), .int .i64 x.1, undef, undef, undef, .slice A0 l0.length c0, .int .i64 t218, .int .i64 a1, .int .i64 t219, .slice Ao15 y220.length co15, .int .i64 t223, .int .i64 t223, .bool false, undef, .slice A0 l0.length c0, .int .i64 a1, .func (.func 108) #[] #[.pointer (some ⟨w15.heap.size + 1, 0, none⟩), .pointer (some ⟨w15.heap.size + 1 + 1, 0, none⟩)], .int .i64 x.1, undef, undef, undef, undef, undef, undef, undef, undef, undef, undef, undef, undef, undef, undef, undef, undef, undef, undef], defers := [] }) ?assign ?body ?done ?stop
  case assign =>
   intro l x W K hK
   gi_wp2
   exact hK
  case body =>
   rintro l pre x W ⟨⟨v, h7, hR⟩, hz, hBW, hsz⟩ hlen
   have hp := hpl x.1 x.2
   unfold hang_place.f at hp
   obtain ⟨⟨p_, q_⟩, hra, hp⟩ := Option.bind_eq_some_iff.mp hp
   obtain ⟨e_, hla, hp⟩ := Option.bind_eq_some_iff.mp hp
   have hgp : gP k x.1 = (⟨p_, q_⟩, e_) := (Option.some.inj hp).symm
   clear hp
   obtain ⟨ys, hys⟩ : ∃ z, z = pre.map (fun x => (gP k x.1).1) := ⟨_, rfl⟩
   rw [← hys] at hR
   obtain ⟨Av, cv, rfl⟩ := Kd.R_slice hR
   have HRA := Aside0.mk hra
   have HLA := Aside0.mk hla
   have H7 := Aside0.mk h7
   have HRR := Aside0.mk hR
   have HBP := Aside0.mk hBW
   have HSZ := Aside0.mk hsz
   have HN0 : Aside0 (w.heap.size ≤ W.heap.size) := ⟨by have := HQW.out; omega⟩
   have HNQ : Aside0 (w15.heap.size ≤ W.heap.size) := ⟨by omega⟩
   have HLN : Aside0 (ys.length < 1000000000000) := ⟨by rw [hys, List.length_map]; omega⟩
   have HYS := Aside0.mk hys
   have HGP := Aside0.mk hgp
   have HZ := Aside0.mk hz
   clear hra hla h7 hR hBW hsz hys hgp hz hlen hps hpl hpe hres hok hmlen hden hmes hmany hk7 hk8 hk9 hBq hB0 hBw
   by_cases ce : e_ = 0
   ·have ce0 : (e_ == 0) = true := beq_iff_eq.mpr ce
    have ce1 : (e_ != 0) = false := bne_eq_false_iff_eq.mpr ce
    have CE := Aside0.mk ce
    clear ce
    gi_wp2_with (refine wpListIn_round ?nl _ _ _ ?nd ?_; (case nl => exact (fun ⟨_, _, h_⟩ => h_)); (case nd => rfl); go_wp2_with (first | ((with_reducible refine gate_callee (f := 75) rfl ?_); refine goesL_ (some 26) rfl rfl Tryd.func75 (by kernel_rfl) rfl #[.int .i64 x.1, .int .i64 2329089562800] rfl (by (try simp only [List.map_toArray, List.map_cons, List.map_nil]); first | done | rfl) ?_; (with_reducible refine (hang_ratio.calls k x.1 2329089562800 p_ q_ _ HRA.out).mono ?_); rintro e_ wA ⟨rfl, hb⟩; refine ⟨_, rfl, ?_⟩; have HS := Aside0.mk (bk_below (n₀ := w.heap.size) (Bs := w15.heap.size + 1) (Bb := w15.heap.size + 1 + 1) (q := w15.heap.size) hb HN0.out HNQ.out); have BK7 := Aside0.mk (blk_below H7.out hb); have HO := Aside0.mk (Kd.R_below HRR.out hb); clear hb) | ((with_reducible refine gate_dst (N := 9) rfl ?_); refine box_event ?hg (N := 9) ?hd (cs := #[.int .i64 0, .int .i64 0]) (t := 23) ?hr ?_; (case hd => rfl); (case hg => rfl); (case hr => first | (go_simp; done) | (go_simp; rfl)); intro gb9 hg wB hbox hb; have hgA : w15.heap.size + 3 ≤ gb9 := (by rw [hg]; exact Nat.le_trans HSZ.out HS.out.keeps.size); have n0_ := Aside0.mk (bk_trans HS.out (bk_below hb (Nat.le_trans HN0.out HS.out.keeps.size) (Nat.le_trans HNQ.out HS.out.keeps.size))); have n1_ := Aside0.mk (blk_below BK7.out hb); have n2_ := Aside0.mk (Kd.R_below (Kd.R_mono (ok' := fun k_ => (k_ ≠ w15.heap.size ∧ k_ ≠ w15.heap.size + 1 ∧ k_ ≠ w15.heap.size + 1 + 1) ∧ k_ ≠ gb9) (Kd.R_bound HO.out) (fun k_ hk => ⟨hk.1, (by have := hk.2.2.1; omega)⟩)) hb); have n3_ := Aside0.mk hbox; have n4_ := Aside0.mk hgA; clear HS BK7 HO; have HS := n0_; have BK7 := n1_; have HO := n2_; have BK9 := n3_; have HGA := n4_; clear n0_ n1_ n2_ n3_ n4_ hb hbox hg hgA; have hcz_0 : wB.cell? ⟨gb9, 0, none⟩ = some (.int .i64 0) := (blk_cell BK9.out 0).trans rfl; have hcz_1 : wB.cell? ⟨gb9, 1, none⟩ = some (.int .i64 0) := (blk_cell BK9.out 1).trans rfl; have hfz_0 := blk_frozen BK9.out 0; have hfz_1 := blk_frozen BK9.out 1) | ((with_reducible refine gate_callee (f := 84) rfl ?_); refine goesL_ (some 28) rfl rfl Tryd.func84 (by kernel_rfl) rfl #[.agg #[.int .i64 p_, .int .i64 q_]] rfl (by (try simp only [List.map_toArray, List.map_cons, List.map_nil]); first | done | rfl) ?_; (with_reducible refine (hang_large.calls p_ q_ e_ _ HLA.out).mono ?_); rintro e1_ wC ⟨rfl, hb⟩; refine ⟨_, rfl, ?_⟩; have hga := HGA.out; have hqw := HQW.out; have hszB : w15.heap.size ≤ wB.heap.size := Nat.le_trans HNQ.out HS.out.keeps.size; have n0_ := Aside0.mk (bk_trans HS.out (bk_trans (bk_set BK9.out (by decide) (by omega) (by omega) (by omega) (by omega) 0 (.int .i64 p_)) (bk_trans (bk_set (blk_put (cs := #[.int .i64 0, .int .i64 0]) BK9.out 0 (.int .i64 p_) rfl) (by decide) (by omega) (by omega) (by omega) (by omega) 1 (.int .i64 q_)) (bk_below hb (by simp [World.setCell]; omega) (by simp [World.setCell]; omega))))); have n1_ := Aside0.mk (blk_below (blk_far (blk_far BK7.out (p := ⟨gb9, 0, none⟩) (show w15.heap.size ≠ gb9 by omega) (.int .i64 p_)) (p := ⟨gb9, 1, none⟩) (show w15.heap.size ≠ gb9 by omega) (.int .i64 q_)) hb); have n2_ := Aside0.mk (Kd.R_below (Kd.R_far (p := ⟨gb9, 1, none⟩) (Kd.R_far (p := ⟨gb9, 0, none⟩) HO.out (fun _ hk => hk.2) (.int .i64 p_)) (fun _ hk => hk.2) (.int .i64 q_)) hb); have n3_ := Aside0.mk (blk_below (blk_put (cs := #[.int .i64 p_, .int .i64 0]) (blk_put (cs := #[.int .i64 0, .int .i64 0]) BK9.out 0 (.int .i64 p_) rfl) 1 (.int .i64 q_) rfl) hb); clear HS BK7 HO BK9; have HS := n0_; have BK7 := n1_; have HO := n2_; have BK9 := n3_; clear n0_ n1_ n2_ n3_ hb hga hqw hszB; have hcy_0 : wC.cell? ⟨gb9, 0, none⟩ = some (.int .i64 p_) := (blk_cell BK9.out 0).trans rfl; have hcy_1 : wC.cell? ⟨gb9, 1, none⟩ = some (.int .i64 q_) := (blk_cell BK9.out 1).trans rfl; have hfy_0 := blk_frozen BK9.out 0; have hfy_1 := blk_frozen BK9.out 1; have hc7 : wC.cell? ⟨w15.heap.size, 0, none⟩ = some (.slice Av ys.length cv) := (blk_cell BK7.out 0).trans rfl; have hf7 := blk_frozen BK7.out 0; have K4C := Aside0.mk (((HBP.out.trans HS.out.low).block w.heap.size (by have := HQW.out; omega)).trans K4.out); have K5C := Aside0.mk (((HBP.out.trans HS.out.low).block (w.heap.size + 1) (by have := HQW.out; omega)).trans K5.out); have hd4 : wC.cell? ⟨w.heap.size, 0, none⟩ = some (.slice none 0 0) := (blk_cell K4C.out 0).trans rfl; have hg4 := blk_frozen K4C.out 0; have hd5 : wC.cell? ⟨w.heap.size + 1, 0, none⟩ = some (.int .i64 0) := (blk_cell K5C.out 0).trans rfl; have hg5 := blk_frozen K5C.out 0) | ((with_reducible refine gate_builtin (b := .append) (xs := #[.tmp 32, .tmp 34]) rfl ?_); at_builtin; refine Kd.R_append k23 (w0 := w15) w15.heap.size rfl (.tmp 32) (.tmp 34) 65 23 (.agg #[(.int .i64 0), (.int .i64 0)]) 16 rfl Tryd.underlying65 info23 rfl (by decide) (by omega) (.slice Av ys.length cv) ys (⟨p_, q_⟩ : S23) [.int .i64 p_, .int .i64 q_] (fun k_ => k_ ≠ w15.heap.size ∧ k_ ≠ w15.heap.size + 1 ∧ k_ ≠ w15.heap.size + 1 + 1) (fun _ => False) rfl (by first | (go_simp; done) | (go_simp; rfl)) ?aP (fun _ hk => hk.elim) ?aF ?aO ?aB ?aS ?aL ?_; (case aP => exact k23_mkM _ _ _ (⟨p_, q_⟩ : S23)); (case aF => exact (fun k_ hk => by have := Nat.le_trans HSZ.out HS.out.keeps.size; exact ⟨by omega, by omega, by omega⟩)); (case aO => exact Kd.R_mono HO.out (fun _ hk => hk.1)); (case aB => exact HBP.out.trans HS.out.low); (case aS => exact Nat.le_trans HNQ.out HS.out.keeps.size); (case aL => have := HLN.out; omega); intro v5 wD ho hb hg hat; obtain ⟨ys2, hys2⟩ : ∃ z, z = ys ++ [(⟨p_, q_⟩ : S23)] := ⟨_, rfl⟩; rw [← hys2] at ho; obtain ⟨A5, c5, rfl⟩ := Kd.R_slice ho; have n0_ := Aside0.mk (bk_trans HS.out (bk_grown (n₀ := w.heap.size) (Bs := w15.heap.size + 1) (Bb := w15.heap.size + 1 + 1) (q := w15.heap.size) (Kd.R_mono HO.out (fun _ hk => hk.1)) (by have := HQW.out; omega) (Nat.le_refl _) (Nat.le_trans HNQ.out HS.out.keeps.size) (fun _ hk => ⟨hk.2.1, hk.2.2⟩) hg)); have n1_ := Aside0.mk (blk_grown BK7.out hg (Kd.R_ne HO.out BK7.out (by decide))); have n2_ := Aside0.mk ho; have n3_ := Aside0.mk hys2; clear HS BK7 HO BK9; have HS := n0_; have BK7 := n1_; have HO := n2_; have NYS := n3_; clear n0_ n1_ n2_ n3_ ho hb hg hat hys2; have hc8 : wD.cell? ⟨w15.heap.size, 0, none⟩ = some (.slice Av ys.length cv) := (blk_cell BK7.out 0).trans rfl; have hf8 := blk_frozen BK7.out 0)))
    have hfin := bk_set (n₀ := w.heap.size) (Bs := w15.heap.size + 1) (Bb := w15.heap.size + 1 + 1) (q := w15.heap.size) BK7.out (by decide) (by have := HQW.out; omega) (Nat.le_refl _) (by omega) (by omega) 0 (.slice A5 ys2.length c5)
    have hall := bk_trans HS.out hfin
    exact ⟨hall.keeps.from _, hall.mkp, ⟨⟨.slice A5 ys2.length c5, blk_put BK7.out 0 _ rfl, by have hl_ := Kd.R_far (p := ⟨w15.heap.size, 0, none⟩) HO.out (fun _ hk => hk.1) (.slice A5 ys2.length c5); rw [List.map_append, List.map_cons, List.map_nil, HGP.out, ← HYS.out, ← NYS.out]; exact hl_⟩, fun y hy => (List.mem_append.1 hy).elim (HZ.out y) (fun e => by simp only [List.mem_singleton] at e; subst e; rw [HGP.out]; exact CE.out), HBP.out.trans hall.low, Nat.le_trans HSZ.out hall.keeps.size⟩⟩
   ·have ce0 : (e_ == 0) = false := beq_eq_false_iff_ne.mpr ce
    have ce1 : (e_ != 0) = true := bne_iff_ne.mpr ce
    gi_wp2_with (refine wpListIn_round ?nl _ _ _ ?nd ?_; (case nl => exact (fun ⟨_, _, h_⟩ => h_)); (case nd => rfl); go_wp2_with (first | ((with_reducible refine gate_callee (f := 75) rfl ?_); refine goesL_ (some 26) rfl rfl Tryd.func75 (by kernel_rfl) rfl #[.int .i64 x.1, .int .i64 2329089562800] rfl (by (try simp only [List.map_toArray, List.map_cons, List.map_nil]); first | done | rfl) ?_; (with_reducible refine (hang_ratio.calls k x.1 2329089562800 p_ q_ _ HRA.out).mono ?_); rintro e_ wA ⟨rfl, hb⟩; refine ⟨_, rfl, ?_⟩; have HS := Aside0.mk (bk_below (n₀ := w.heap.size) (Bs := w15.heap.size + 1) (Bb := w15.heap.size + 1 + 1) (q := w15.heap.size) hb HN0.out HNQ.out); have BK7 := Aside0.mk (blk_below H7.out hb); have HO := Aside0.mk (Kd.R_below HRR.out hb); clear hb) | ((with_reducible refine gate_dst (N := 9) rfl ?_); refine box_event ?hg (N := 9) ?hd (cs := #[.int .i64 0, .int .i64 0]) (t := 23) ?hr ?_; (case hd => rfl); (case hg => rfl); (case hr => first | (go_simp; done) | (go_simp; rfl)); intro gb9 hg wB hbox hb; have hgA : w15.heap.size + 3 ≤ gb9 := (by rw [hg]; exact Nat.le_trans HSZ.out HS.out.keeps.size); have n0_ := Aside0.mk (bk_trans HS.out (bk_below hb (Nat.le_trans HN0.out HS.out.keeps.size) (Nat.le_trans HNQ.out HS.out.keeps.size))); have n1_ := Aside0.mk (blk_below BK7.out hb); have n2_ := Aside0.mk (Kd.R_below (Kd.R_mono (ok' := fun k_ => (k_ ≠ w15.heap.size ∧ k_ ≠ w15.heap.size + 1 ∧ k_ ≠ w15.heap.size + 1 + 1) ∧ k_ ≠ gb9) (Kd.R_bound HO.out) (fun k_ hk => ⟨hk.1, (by have := hk.2.2.1; omega)⟩)) hb); have n3_ := Aside0.mk hbox; have n4_ := Aside0.mk hgA; clear HS BK7 HO; have HS := n0_; have BK7 := n1_; have HO := n2_; have BK9 := n3_; have HGA := n4_; clear n0_ n1_ n2_ n3_ n4_ hb hbox hg hgA; have hcz_0 : wB.cell? ⟨gb9, 0, none⟩ = some (.int .i64 0) := (blk_cell BK9.out 0).trans rfl; have hcz_1 : wB.cell? ⟨gb9, 1, none⟩ = some (.int .i64 0) := (blk_cell BK9.out 1).trans rfl; have hfz_0 := blk_frozen BK9.out 0; have hfz_1 := blk_frozen BK9.out 1) | ((with_reducible refine gate_callee (f := 84) rfl ?_); refine goesL_ (some 28) rfl rfl Tryd.func84 (by kernel_rfl) rfl #[.agg #[.int .i64 p_, .int .i64 q_]] rfl (by (try simp only [List.map_toArray, List.map_cons, List.map_nil]); first | done | rfl) ?_; (with_reducible refine (hang_large.calls p_ q_ e_ _ HLA.out).mono ?_); rintro e1_ wC ⟨rfl, hb⟩; refine ⟨_, rfl, ?_⟩; have hga := HGA.out; have hqw := HQW.out; have hszB : w15.heap.size ≤ wB.heap.size := Nat.le_trans HNQ.out HS.out.keeps.size; have n0_ := Aside0.mk (bk_trans HS.out (bk_trans (bk_set BK9.out (by decide) (by omega) (by omega) (by omega) (by omega) 0 (.int .i64 p_)) (bk_trans (bk_set (blk_put (cs := #[.int .i64 0, .int .i64 0]) BK9.out 0 (.int .i64 p_) rfl) (by decide) (by omega) (by omega) (by omega) (by omega) 1 (.int .i64 q_)) (bk_below hb (by simp [World.setCell]; omega) (by simp [World.setCell]; omega))))); have n1_ := Aside0.mk (blk_below (blk_far (blk_far BK7.out (p := ⟨gb9, 0, none⟩) (show w15.heap.size ≠ gb9 by omega) (.int .i64 p_)) (p := ⟨gb9, 1, none⟩) (show w15.heap.size ≠ gb9 by omega) (.int .i64 q_)) hb); have n2_ := Aside0.mk (Kd.R_below (Kd.R_far (p := ⟨gb9, 1, none⟩) (Kd.R_far (p := ⟨gb9, 0, none⟩) HO.out (fun _ hk => hk.2) (.int .i64 p_)) (fun _ hk => hk.2) (.int .i64 q_)) hb); have n3_ := Aside0.mk (blk_below (blk_put (cs := #[.int .i64 p_, .int .i64 0]) (blk_put (cs := #[.int .i64 0, .int .i64 0]) BK9.out 0 (.int .i64 p_) rfl) 1 (.int .i64 q_) rfl) hb); clear HS BK7 HO BK9; have HS := n0_; have BK7 := n1_; have HO := n2_; have BK9 := n3_; clear n0_ n1_ n2_ n3_ hb hga hqw hszB; have hcy_0 : wC.cell? ⟨gb9, 0, none⟩ = some (.int .i64 p_) := (blk_cell BK9.out 0).trans rfl; have hcy_1 : wC.cell? ⟨gb9, 1, none⟩ = some (.int .i64 q_) := (blk_cell BK9.out 1).trans rfl; have hfy_0 := blk_frozen BK9.out 0; have hfy_1 := blk_frozen BK9.out 1; have hc7 : wC.cell? ⟨w15.heap.size, 0, none⟩ = some (.slice Av ys.length cv) := (blk_cell BK7.out 0).trans rfl; have hf7 := blk_frozen BK7.out 0; have K4C := Aside0.mk (((HBP.out.trans HS.out.low).block w.heap.size (by have := HQW.out; omega)).trans K4.out); have K5C := Aside0.mk (((HBP.out.trans HS.out.low).block (w.heap.size + 1) (by have := HQW.out; omega)).trans K5.out); have hd4 : wC.cell? ⟨w.heap.size, 0, none⟩ = some (.slice none 0 0) := (blk_cell K4C.out 0).trans rfl; have hg4 := blk_frozen K4C.out 0; have hd5 : wC.cell? ⟨w.heap.size + 1, 0, none⟩ = some (.int .i64 0) := (blk_cell K5C.out 0).trans rfl; have hg5 := blk_frozen K5C.out 0)))
    have hk1 := (HS.out.keeps.trans (KeepsOthers.setCell wC ⟨w.heap.size, 0, none⟩ (.slice none 0 0))).trans (KeepsOthers.setCell _ ⟨w.heap.size + 1, 0, none⟩ (.int .i64 e_))
    have hbb := (((HB15.out.trans ((HBP.out.trans HS.out.low).mono (by have := HQW.out; omega))).setCell (p := ⟨w.heap.size, 0, none⟩) (Nat.le_refl _) (.slice none 0 0))).setCell (p := ⟨w.heap.size + 1, 0, none⟩) (Nat.le_add_right _ 1) (.int .i64 e_)
    exact ⟨hk1.from _, ⟨rfl, pre, x, rfl, HZ.out, by rw [HGP.out]; exact ce, blk_far (blk_put K4C.out 0 _ rfl) (by simp) _, by rw [HGP.out]; exact blk_put (blk_far K5C.out (by simp) _) 0 _ rfl⟩, hbb⟩
  case stop =>
   rintro D c pre W2 hD ⟨rest, hpre⟩ ⟨⟨rfl, ini, last, e1, e2, e3, k4, k5⟩, hB⟩ hK
   gi_wp2
   have hD2 : w.heap.size + 2 ≤ D := by have := HQW.out; omega
   have n4 : ((W2.putObj D (.deferred none))).heap[w.heap.size]? = some (.cells #[.slice none 0 0] 65 (0, 0)) := (World.putObj_heap_other (by omega)).trans k4
   have n5 : ((W2.putObj D (.deferred none))).heap[w.heap.size + 1]? = some (.cells #[.int .i64 (gP k last.1).2] 26 (0, 0)) := (World.putObj_heap_other (by omega)).trans k5
   have hfe : firstErr ps = (gP k last.1).2 := by have hm_ := congrArg (List.map (gP k)) hpre.symm; rw [hpe, hm_, e1]; simp only [List.map_append, List.map_cons, List.map_nil, List.append_assoc, List.cons_append, List.nil_append]; exact firstErr_hit (fun p hp => by simp only [List.mem_map] at hp; obtain ⟨y, ⟨x, hx, rfl⟩, rfl⟩ := hp; exact e2 x hx) e3
   rw [hfe, if_neg e3] at hres
   obtain ⟨rfl, rfl⟩ := Prod.mk.inj hres
   refine ⟨by simp, .inl ⟨_, _, rfl, run_takeDeferred hK, _, marks_results w.heap.size (w.heap.size + 1) (.slice none 0 0, (gP k last.1).2) n4 n5 rfl rfl ⟨_, _, _, rfl⟩, ?_⟩⟩
   exact ⟨_, rfl, Kd.R_nil _ _ _ _ _, hB.trans (belowK_b (w := w) (Nat.le_refl _) W2 D (.deferred (some [])) _ (by omega) hK rfl rfl)⟩
  case done =>
   rintro D_ ys W2 hD hys ⟨⟨v, h7, hR⟩, hz, hBW, hsz⟩ hK
   obtain ⟨zs, hzs⟩ : ∃ z, z = ys.map (fun x => (gP k x.1).1) := ⟨_, rfl⟩
   rw [← hzs] at hR
   have hzl : zs.length = (markAll a1 l0).length := by have hml_ := congrArg List.length hys; rw [hzs, List.length_map]; simpa using hml_
   have hpos : 0 < zs.length := by rw [hzl]; simp [markAll]
   have hm_ := congrArg (List.map (gP k)) hys.symm
   have hfe : firstErr ps = 0 := by rw [hpe, hm_]; exact firstErr_none (fun p hp => by simp only [List.mem_map] at hp; obtain ⟨y, ⟨x, hx, rfl⟩, rfl⟩ := hp; exact hz x hx)
   have hps1 : ps.map (·.1) = zs := by rw [hpe, hm_, hzs]; simp only [List.map_map]; rfl
   rw [hfe, if_pos rfl, hps1] at hres
   obtain ⟨hr1, hr2⟩ := Prod.mk.inj hres
   have hr1' := hr1.symm
   have hzn : zs.length < 1000000000000 := by omega
   subst hr1'
   subst hr2
   obtain ⟨ad, c, inner, hv, hil, hic, h1c, hmk⟩ := R_copy hR hpos
   subst hv
   have hmake := fun W => make65 zs.length hzn W
   have hc7 : W2.cell? ⟨w15.heap.size, 0, none⟩ = some (.slice (some ad) zs.length c) := (blk_cell h7 0).trans rfl
   have hf7 := blk_frozen h7 0
   have hc7a : ∀ o, (W2.alloc o).cell? ⟨w15.heap.size, 0, none⟩ = some (.slice (some ad) zs.length c) := fun o => (((Below.refl _ W2).alloc (Nat.le_refl _) o).cell (World.block_lt_of_cell? _ _ hc7)).trans hc7
   have K4W := Aside0.mk ((hBW.block w.heap.size (by have := HQW.out; omega)).trans K4.out)
   have K5W := Aside0.mk ((hBW.block (w.heap.size + 1) (by have := HQW.out; omega)).trans K5.out)
   have HD0 := Aside0.mk hK
   have HDW : Aside0 (w.heap.size + 2 ≤ D_) := ⟨by have := HQW.out; omega⟩
   have HD2 : Aside0 (w.heap.size ≤ W2.heap.size) := ⟨by have := HQW.out; omega⟩
   have HBF := Aside0.mk (HB15.out.trans (hBW.mono (by have := HQW.out; omega)))
   have HIL := Aside0.mk hil
   have HIC := Aside0.mk hic
   have H1C := Aside0.mk h1c
   have HMK := Aside0.mk hmk
   have HZN := Aside0.mk hzn
   clear hK hBW hres hps hpl hpe hm_ hfe hps1 hr1 hz hR h7 hsz hys hzs hzl hpos hil hic h1c hmk hok hmlen hden hmes hmany hk7 hk8 hk9 hBq hB0 hBw hzn
   refine aK_ _ _ ?_
   go_wp2_with (first | ((with_reducible refine gate_builtin (b := .copy) (xs := #[.tmp 39, .tmp 40]) rfl ?_); refine wpList_copyN rfl (.tmp 39) (.tmp 40) 65 65 rfl 23 Tryd.underlying65 2 size23 W2.heap.size zs.length zs.length ad c rfl rfl _ 23 (blk_new W2 _) inner HIL.out (fun j u hj => (((Below.refl _ W2).alloc (Nat.le_refl _) _).cell (World.block_lt_of_cell? _ _ (HIC.out j u hj))).trans (HIC.out j u hj)) (by rw [size_madeCells, HIL.out]; exact Nat.le_refl _) H1C.out ?_; generalize hW4 : World.setRow _ _ _ = W4; have n0_ : Aside0 (Below W2.heap.size W2 W4) := ⟨(by rw [← hW4]; exact below_setRow ((Below.refl _ W2).alloc (Nat.le_refl _) _) (Nat.le_refl _) _)⟩; have n1_ : Aside0 (W4.heap[W2.heap.size]? = some (.cells inner.toArray 23 (0, 0))) := ⟨(by rw [← hW4]; refine (setRow_heap _ _ _ _ _ _ (blk_new W2 _)).trans ?_; rw [List.drop_eq_nil_of_le (by rw [Array.length_toList, size_madeCells, HIL.out]; exact Nat.le_refl _), List.append_nil])⟩; clear hW4; have K4D := Aside0.mk (blk_below K4W.out n0_.out); have K5D := Aside0.mk (blk_below K5W.out n0_.out); have HD_ := Aside0.mk (blk_below HD0.out n0_.out); have hd4 : W4.cell? ⟨w.heap.size, 0, none⟩ = some (.slice none 0 0) := (blk_cell K4D.out 0).trans rfl; have hg4 := blk_frozen K4D.out 0; have hd5 : W4.cell? ⟨w.heap.size + 1, 0, none⟩ = some (.int .i64 0) := (blk_cell K5D.out 0).trans rfl; have hg5 := blk_frozen K5D.out 0))
   have hdw := HDW.out
   have hw2 := HD2.out
   have hlw2 := blk_lt HD0.out
   have n4 : (((W4.setCell ⟨w.heap.size, 0, none⟩ (.slice (some ⟨W2.heap.size, 0, none⟩) zs.length zs.length)).setCell ⟨w.heap.size + 1, 0, none⟩ (.int .i64 0)).putObj D_ (.deferred none)).heap[w.heap.size]? = some (.cells #[.slice (some ⟨W2.heap.size, 0, none⟩) zs.length zs.length] 65 (0, 0)) := (World.putObj_heap_other (by omega)).trans (blk_far (blk_put K4D.out 0 _ rfl) (by simp) _)
   have n5 : (((W4.setCell ⟨w.heap.size, 0, none⟩ (.slice (some ⟨W2.heap.size, 0, none⟩) zs.length zs.length)).setCell ⟨w.heap.size + 1, 0, none⟩ (.int .i64 0)).putObj D_ (.deferred none)).heap[w.heap.size + 1]? = some (.cells #[.int .i64 0] 26 (0, 0)) := (World.putObj_heap_other (by omega)).trans (blk_put (blk_far K5D.out (by simp) _) 0 _ rfl)
   have n10 : (((W4.setCell ⟨w.heap.size, 0, none⟩ (.slice (some ⟨W2.heap.size, 0, none⟩) zs.length zs.length)).setCell ⟨w.heap.size + 1, 0, none⟩ (.int .i64 0)).putObj D_ (.deferred none)).heap[W2.heap.size]? = some (.cells inner.toArray 23 (0, 0)) := (World.putObj_heap_other (by omega)).trans (blk_far (blk_far n1_.out (by simp; omega) _) (by simp; omega) _)
   refine ⟨by simp, .inl ⟨_, _, rfl, run_takeDeferred (by (with_reducible repeat (first | refine blk_drewN ?_ _ | refine blk_drew ?_ | refine blk_alloc ?_ _ | refine kept_set ?_ _ _)); exact HD_.out), _, marks_results w.heap.size (w.heap.size + 1) (.slice (some ⟨W2.heap.size, 0, none⟩) zs.length zs.length, 0) n4 n5 rfl rfl ⟨_, _, _, rfl⟩, ?_⟩⟩
   refine ⟨_, rfl, HMK.out _ _ _ n10 hw2 (by have := HZN.out; simp [maxLen]; omega), ?_⟩
   refine Below.trans ?_ (belowK_b (w := w) (Nat.le_refl _) _ D_ (.deferred (some [])) _ (by omega) (by (with_reducible repeat (first | refine blk_drewN ?_ _ | refine blk_drew ?_ | refine blk_alloc ?_ _ | refine kept_set ?_ _ _)); exact HD_.out) rfl rfl)
   exact ((HBF.out.trans (n0_.out.mono hw2)).setCell (p := ⟨w.heap.size, 0, none⟩) (Nat.le_refl _) _).setCell (p := ⟨w.heap.size + 1, 0, none⟩) (Nat.le_add_right _ 1) _
 ·rw [if_neg c6] at h
  have c6b0 : (t223 == 0) = false := beq_eq_false_iff_ne.mpr c6
  have c6b1 : (t223 != 0) = true := bne_iff_ne.mpr c6
  simp only [Option.some.injEq, Prod.mk.injEq] at h
  obtain ⟨rfl, rfl⟩ := h
  go_enter Tryd.func41, Tryd.ntmps41
  go_wp2_with (first | ((with_reducible refine gate_callee (f := 82) rfl ?_); obtain ⟨w2, hw2⟩ : ∃ w2, ((w.alloc (.cells #[.slice none 0 0] 65)).alloc (.cells #[.int .i64 0] 26)) = w2 := ⟨_, rfl⟩; have hbw : Below w.heap.size w w2 := (by rw [← hw2]; exact ((Below.refl _ w).alloc (Nat.le_refl _) _).alloc (by simp) _); have hk4 : w2.heap[w.heap.size]? = some (.cells #[.slice none 0 0] 65 (0, 0)) := (by rw [← hw2]; exact blk_alloc (blk_new w _) _); have hk5 : w2.heap[w.heap.size + 1]? = some (.cells #[.int .i64 0] 26 (0, 0)) := (by rw [← hw2]; have := blk_new (w.alloc (.cells #[.slice none 0 0] 65)) (.cells #[.int .i64 0] 26); rw [World.size_alloc] at this; exact this); rw [hw2]; clear hw2; refine goesL_ (some 13) rfl rfl Tryd.func82 (by kernel_rfl) rfl #[.slice A0 l0.length c0] rfl (by (try simp only [List.map_toArray, List.map_cons, List.map_nil]); first | done | rfl) ?_; (with_reducible refine (hang_checkSections.calls k _ _ l0 t218 _ (Kd.C_below HR0.out hbw) HC0.out A3.out).mono ?_); rintro e w12 ⟨rfl, hb⟩; refine ⟨_, rfl, ?_⟩; have HB := Aside0.mk hb; have HBW := Aside0.mk hbw; have BK4 := Aside0.mk hk4; have BK5 := Aside0.mk hk5; clear hb hbw hk4 hk5) | ((with_reducible refine gate_callee (f := 77) rfl ?_); refine goesL_ (some 15) rfl rfl Tryd.func77 (by kernel_rfl) rfl #[.int .i64 a1] rfl (by (try simp only [List.map_toArray, List.map_cons, List.map_nil]); first | done | rfl) ?_; (with_reducible refine (hang_checkBar.calls a1 t219 _ A4.out).mono ?_); rintro e w' ⟨rfl, ⟨nd, rfl⟩⟩; refine ⟨_, rfl, ?_⟩; generalize hq_ : World.drewN w12 _ = w13; have n1_ : Aside0 (Below w2.heap.size w2 w13) := ⟨(by rw [← hq_]; exact pw_below_drewN HB.out _)⟩; clear HB hq_; have HB := n1_; clear n1_) | ((with_reducible refine gate_dst (N := 16) rfl ?_); refine Kd.R_lit (Kd.int .i64) _ 26 ?hg (N := 16) ?hd (xs := ([t218, t219] : List Int)) (inner := [.int .i64 t218, .int .i64 t219]) (ok := fun _ => True) (okp := fun _ => True) ?hr ?hp (fun _ hk => hk) trivial (Below.refl _ _) (Nat.le_refl _) (by simp) ?_; (case hd => rfl); (case hg => rfl); (case hr => first | (go_simp; done) | (go_simp; rfl)); (case hp => exact (Reps.one (show Kd.M (Kd.int .i64) _ _ _ t218 [.int .i64 t218] from rfl) (Reps.one (show Kd.M (Kd.int .i64) _ _ _ t219 [.int .i64 t219] from rfl) (Reps.none _ _)))); intro v221 w14 ho14 hb hg_ hnew_; clear hg_ hnew_; (first | rw [← Ny220.out] at ho14 | (simp only [Int.reduceToNat] at ho14; rw [← Ny220.out] at ho14)); have n2_ := Aside0.mk (below_step HB.out hb); clear HB; have HB := n2_; clear n2_; have HO := Aside0.mk ho14; clear hb ho14; obtain ⟨Ao15, co15, eo15⟩ := Kd.R_slice HO.out; subst eo15) | ((with_reducible refine gate_callee (f := 72) rfl ?_); refine goesL_ (some 17) rfl rfl Tryd.func72 (by kernel_rfl) rfl #[.slice Ao15 y220.length co15] rfl (by (try simp only [List.map_toArray, List.map_cons, List.map_nil]); first | done | rfl) ?_; (with_reducible refine (hang_first.calls k _ _ y220 t223 _ (Kd.R_reads' HO.out).2.2 (Kd.R_reads' HO.out).2.1 A5.out).mono ?_); rintro e w' ⟨rfl, ⟨nd, rfl⟩⟩; refine ⟨_, rfl, ?_⟩; generalize hq_ : World.drewN w14 _ = w15; have n1_ : Aside0 (Below w2.heap.size w2 w15) := ⟨(by rw [← hq_]; exact pw_below_drewN HB.out _)⟩; clear HB hq_ HO; have HB := n1_; clear n1_; have K4 := Aside0.mk (blk_below BK4.out HB.out); have K5 := Aside0.mk (blk_below BK5.out HB.out); have hc4 : w15.cell? ⟨w.heap.size, 0, none⟩ = some (.slice none 0 0) := (blk_cell K4.out 0).trans rfl; have hf4 := blk_frozen K4.out 0; have hc5 : w15.cell? ⟨w.heap.size + 1, 0, none⟩ = some (.int .i64 0) := (blk_cell K5.out 0).trans rfl; have hf5 := blk_frozen K5.out 0))
  have hB9 : Below w.heap.size w ((w15.setCell ⟨w.heap.size, 0, none⟩ (.slice none 0 0)).setCell ⟨w.heap.size + 1, 0, none⟩ (.int .i64 t223)) := ((below_then HBW.out HBW.out.size HB.out).setCell (p := ⟨w.heap.size, 0, none⟩) (Nat.le_refl _) _).setCell (p := ⟨w.heap.size + 1, 0, none⟩) (by simp) _
  have k4 : ((w15.setCell ⟨w.heap.size, 0, none⟩ (.slice none 0 0)).setCell ⟨w.heap.size + 1, 0, none⟩ (.int .i64 t223)).heap[w.heap.size]? = some (.cells #[.slice none 0 0] 65 (0, 0)) := blk_far (blk_put K4.out 0 _ rfl) (by simp) _
  have k5 : ((w15.setCell ⟨w.heap.size, 0, none⟩ (.slice none 0 0)).setCell ⟨w.heap.size + 1, 0, none⟩ (.int .i64 t223)).heap[w.heap.size + 1]? = some (.cells #[.int .i64 t223] 26 (0, 0)) := blk_put (blk_far K5.out (by simp) _) 0 _ rfl
  refine bodyPost_ret (v := .tuple #[.slice none 0 0, .int .i64 t223]) (marks_results w.heap.size (w.heap.size + 1) (.slice none 0 0, t223) k4 k5 rfl rfl ⟨_, _, _, rfl⟩) rfl ?_
  exact ⟨_, rfl, Kd.R_nil _ _ _ _ _, hB9⟩
end Go.Proofs.YtppighiaffppkaaDoor.H
end
