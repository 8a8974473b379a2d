/- What the statement HangRoots needs beyond the common part: walks of the functions that it calls, the plain law, the row and its card, part 2. Condition: the laid table hang.tens, as the card ties it. -/
import Derived.Test.YtppighiaffppkaaDoorZHangRoots1
section
namespace Go.Proofs.YtppighiaffppkaaDoor.H
open Go.RowKit Go.Proofs.YtppighiaffppkaaDoorW.PrintWords Go.Proofs.YtppighiaffppkaaDoorW.PrintLast Go.Proofs.YtppighiaffppkaaDoorW.PrintMore
attribute [local go_sem] max2_int min2_int max_two min_two max_three min_three max_four min_four
set_option linter.unusedVariables false
set_option linter.unusedSimpArgs false
attribute [local go_sem high] eqA23
mutual
def cl6_HangRoots.j0 : Nat → Int → Int → Int → Int → Int → Int → Int → Int → Int → Int → Int → Int → Int → Int → Int → Int → Int → Int → Int → Int → Option (Bool)
 | 0, _, _, _, _, _, _, _, _, _, _, _, _, _, _, _, _, _, _, _, _ => none
 | k + 1, x7, x8, x10, x12, x13, x14, x15, x16, x348000, x348001, x350000, x350001, x356000, x356001, x360000, x360001, x374000, x374001, x375000, x375001 => if x14 = 0 then ((cr6_Root.f k x348000 x348001 x350000).bind fun bt376 => (cl6_HangRoots.j1 k x7 x8 x10 x12 x13 x14 x15 x16 x350000 x350001 x356000 x356001 x360000 x360001 bt376.1 bt376.2 x375000 x375001)) else (cl6_HangRoots.j1 k x7 x8 x10 x12 x13 x14 x15 x16 x350000 x350001 x356000 x356001 x360000 x360001 x374000 x374001 x375000 x375001)
def cl6_HangRoots.j1 : Nat → Int → Int → Int → Int → Int → Int → Int → Int → Int → Int → Int → Int → Int → Int → Int → Int → Int → Int → Option (Bool)
 | 0, _, _, _, _, _, _, _, _, _, _, _, _, _, _, _, _, _, _ => none
 | k + 1, x7, x8, x10, x12, x13, x14, x15, x16, x350000, x350001, x356000, x356001, x360000, x360001, x374000, x374001, x375000, x375001 => if x15 = 0 then ((cr6_Fullest.f k x350001).bind fun bt378 => (if x7 = x16 then (if x8 = x13 then (if (x356000 == x374000 && (x356001 == x374001)) = true then (if x10 = x14 then (if (x360000 == bt378.1 && (x360001 == bt378.2)) = true then (if x12 = x15 then ((cl6_awake.f k).bind fun t380 => (some t380)) else (none)) else (none)) else (none)) else (none)) else (none)) else (none))) else (if x7 = x16 then (if x8 = x13 then (if (x356000 == x374000 && (x356001 == x374001)) = true then (if x10 = x14 then (if (x360000 == x375000 && (x360001 == x375001)) = true then (if x12 = x15 then ((cl6_awake.f k).bind fun t381 => (some t381)) else (none)) else (none)) else (none)) else (none)) else (none)) else (none))
end
def cl6_HangRoots.f (k : Nat) (a0_0 : Int) (a0_1 : Int) (a1_0 : Int) (a1_1 : Int) (a2_0 : Int) (a2_1 : Int) : Option (Bool) := (hang_Compare.f k a0_0 a0_1 a1_0 a1_1).bind fun bt350 => ((hang_Root.f k a0_0 a0_1 a2_0).bind fun bt352 => ((hang_Fullest.f k a2_1).bind fun bt356 => ((cr6_CheckSquare.f k a0_0 a0_1).bind fun t360 => ((cr6_CheckSquare.f k a1_0 a1_1).bind fun t361 => ((cr1_First.f k (([t360, t361] : List Int))).bind fun t365 => ((cr6_CheckSquare.f k a0_0 a0_1).bind fun t366 => ((cr1_CheckRange.f a2_0 0 2).bind fun t367 => ((cr1_First.f k (([t366, t367] : List Int))).bind fun t371 => ((cr1_CheckRange.f a2_1 1 30).bind fun t372 => (if t365 = 0 then ((cr6_Compare.f a0_0 a0_1 a1_0 a1_1).bind fun t375 => (cl6_HangRoots.j0 k bt350.1 bt350.2 bt352.2.2 bt356.2.2 t365 t371 t372 t375 a0_0 a0_1 a2_0 a2_1 bt352.1 bt352.2.1 bt356.1 bt356.2.1 0 0 0 0)) else (cl6_HangRoots.j0 k bt350.1 bt350.2 bt352.2.2 bt356.2.2 t365 t371 t372 0 a0_0 a0_1 a2_0 a2_1 bt352.1 bt352.2.1 bt356.1 bt356.2.1 0 0 0 0)))))))))))
def cl6_HangRoots.T5 : Bool × List (List Nat × List Nat) := (true, [([], []), ([0], [0]), ([], []), ([2], [2]), ([3, 1], [3]), ([1, 4], [1, 4]), ([5, 4], [5]), ([6, 6, 0, 1, 2, 3, 4, 5, 6], [6])])
def cl6_HangRoots.B5 : List Nat := [0, 1, 0, 4, 15, 31, 63, 127]
theorem cl6_HangRoots.tab5 : rtab .any (opsOf Tryd.f5 5) = cl6_HangRoots.T5 := by kernel_rfl
theorem cl6_HangRoots.bits5 : waitsOk cl6_HangRoots.T5.2 cl6_HangRoots.B5 = true := by kernel_rfl
set_option maxHeartbeats 8000000 in
set_option maxRecDepth 100000 in
theorem cl6_HangRoots.calls (k : Nat) (a0_0 : Int) (a0_1 : Int) (a1_0 : Int) (a1_1 : Int) (a2_0 : Int) (a2_1 : Int) (r : Bool) (w : World) (hG : GH w) (h : cl6_HangRoots.f k a0_0 a0_1 a1_0 a1_1 a2_0 a2_1 = some r) :
  Calls Tryd.prog 5 #[.agg #[.int .i64 a0_0, .int .i64 a0_1], .agg #[.int .i64 a1_0, .int .i64 a1_1], .agg #[.int .i64 a2_0, .int .i64 a2_1]] w fun e w' => e = .returned (.bool r) ∧ Below w.heap.size w w' := by
 have hu24 := Tryd.underlying24
 have hu51 := Tryd.underlying51
 have hu23 := Tryd.underlying23
 have HB := Z0.mk (Below.refl w.heap.size w)
 have H : ((hang_Compare.f k a0_0 a0_1 a1_0 a1_1).bind fun bt350 => ((hang_Root.f k a0_0 a0_1 a2_0).bind fun bt352 => ((hang_Fullest.f k a2_1).bind fun bt356 => ((cr6_CheckSquare.f k a0_0 a0_1).bind fun t360 => ((cr6_CheckSquare.f k a1_0 a1_1).bind fun t361 => ((cr1_First.f k (([t360, t361] : List Int))).bind fun t365 => ((cr6_CheckSquare.f k a0_0 a0_1).bind fun t366 => ((cr1_CheckRange.f a2_0 0 2).bind fun t367 => ((cr1_First.f k (([t366, t367] : List Int))).bind fun t371 => ((cr1_CheckRange.f a2_1 1 30).bind fun t372 => (if t365 = 0 then ((cr6_Compare.f a0_0 a0_1 a1_0 a1_1).bind fun t375 => (cl6_HangRoots.j0 k bt350.1 bt350.2 bt352.2.2 bt356.2.2 t365 t371 t372 t375 a0_0 a0_1 a2_0 a2_1 bt352.1 bt352.2.1 bt356.1 bt356.2.1 0 0 0 0)) else (cl6_HangRoots.j0 k bt350.1 bt350.2 bt352.2.2 bt356.2.2 t365 t371 t372 0 a0_0 a0_1 a2_0 a2_1 bt352.1 bt352.2.1 bt356.1 bt356.2.1 0 0 0 0)))))))))))) = some r := h
 clear h
 replace H := Option.bind_eq_some_iff.mp H
 obtain ⟨⟨t350, t351⟩, A40, H⟩ := H
 replace H : ((hang_Root.f k a0_0 a0_1 a2_0).bind fun bt352 => ((hang_Fullest.f k a2_1).bind fun bt356 => ((cr6_CheckSquare.f k a0_0 a0_1).bind fun t360 => ((cr6_CheckSquare.f k a1_0 a1_1).bind fun t361 => ((cr1_First.f k (([t360, t361] : List Int))).bind fun t365 => ((cr6_CheckSquare.f k a0_0 a0_1).bind fun t366 => ((cr1_CheckRange.f a2_0 0 2).bind fun t367 => ((cr1_First.f k (([t366, t367] : List Int))).bind fun t371 => ((cr1_CheckRange.f a2_1 1 30).bind fun t372 => (if t365 = 0 then ((cr6_Compare.f a0_0 a0_1 a1_0 a1_1).bind fun t375 => (cl6_HangRoots.j0 k t350 t351 bt352.2.2 bt356.2.2 t365 t371 t372 t375 a0_0 a0_1 a2_0 a2_1 bt352.1 bt352.2.1 bt356.1 bt356.2.1 0 0 0 0)) else (cl6_HangRoots.j0 k t350 t351 bt352.2.2 bt356.2.2 t365 t371 t372 0 a0_0 a0_1 a2_0 a2_1 bt352.1 bt352.2.1 bt356.1 bt356.2.1 0 0 0 0))))))))))) = some r := H
 have A4 := Z0.mk A40
 clear A40
 replace H := Option.bind_eq_some_iff.mp H
 obtain ⟨⟨t352, t353, t354⟩, A50, H⟩ := H
 replace H : ((hang_Fullest.f k a2_1).bind fun bt356 => ((cr6_CheckSquare.f k a0_0 a0_1).bind fun t360 => ((cr6_CheckSquare.f k a1_0 a1_1).bind fun t361 => ((cr1_First.f k (([t360, t361] : List Int))).bind fun t365 => ((cr6_CheckSquare.f k a0_0 a0_1).bind fun t366 => ((cr1_CheckRange.f a2_0 0 2).bind fun t367 => ((cr1_First.f k (([t366, t367] : List Int))).bind fun t371 => ((cr1_CheckRange.f a2_1 1 30).bind fun t372 => (if t365 = 0 then ((cr6_Compare.f a0_0 a0_1 a1_0 a1_1).bind fun t375 => (cl6_HangRoots.j0 k t350 t351 t354 bt356.2.2 t365 t371 t372 t375 a0_0 a0_1 a2_0 a2_1 t352 t353 bt356.1 bt356.2.1 0 0 0 0)) else (cl6_HangRoots.j0 k t350 t351 t354 bt356.2.2 t365 t371 t372 0 a0_0 a0_1 a2_0 a2_1 t352 t353 bt356.1 bt356.2.1 0 0 0 0)))))))))) = some r := H
 have A5 := Z0.mk A50
 clear A50
 replace H := Option.bind_eq_some_iff.mp H
 obtain ⟨⟨t356, t357, t358⟩, A60, H⟩ := H
 replace H : ((cr6_CheckSquare.f k a0_0 a0_1).bind fun t360 => ((cr6_CheckSquare.f k a1_0 a1_1).bind fun t361 => ((cr1_First.f k (([t360, t361] : List Int))).bind fun t365 => ((cr6_CheckSquare.f k a0_0 a0_1).bind fun t366 => ((cr1_CheckRange.f a2_0 0 2).bind fun t367 => ((cr1_First.f k (([t366, t367] : List Int))).bind fun t371 => ((cr1_CheckRange.f a2_1 1 30).bind fun t372 => (if t365 = 0 then ((cr6_Compare.f a0_0 a0_1 a1_0 a1_1).bind fun t375 => (cl6_HangRoots.j0 k t350 t351 t354 t358 t365 t371 t372 t375 a0_0 a0_1 a2_0 a2_1 t352 t353 t356 t357 0 0 0 0)) else (cl6_HangRoots.j0 k t350 t351 t354 t358 t365 t371 t372 0 a0_0 a0_1 a2_0 a2_1 t352 t353 t356 t357 0 0 0 0))))))))) = some r := H
 have A6 := Z0.mk A60
 clear A60
 replace H := Option.bind_eq_some_iff.mp H
 obtain ⟨t360, A70, H⟩ := H
 replace H : ((cr6_CheckSquare.f k a1_0 a1_1).bind fun t361 => ((cr1_First.f k (([t360, t361] : List Int))).bind fun t365 => ((cr6_CheckSquare.f k a0_0 a0_1).bind fun t366 => ((cr1_CheckRange.f a2_0 0 2).bind fun t367 => ((cr1_First.f k (([t366, t367] : List Int))).bind fun t371 => ((cr1_CheckRange.f a2_1 1 30).bind fun t372 => (if t365 = 0 then ((cr6_Compare.f a0_0 a0_1 a1_0 a1_1).bind fun t375 => (cl6_HangRoots.j0 k t350 t351 t354 t358 t365 t371 t372 t375 a0_0 a0_1 a2_0 a2_1 t352 t353 t356 t357 0 0 0 0)) else (cl6_HangRoots.j0 k t350 t351 t354 t358 t365 t371 t372 0 a0_0 a0_1 a2_0 a2_1 t352 t353 t356 t357 0 0 0 0)))))))) = some r := H
 have A7 := Z0.mk A70
 clear A70
 replace H := Option.bind_eq_some_iff.mp H
 obtain ⟨t361, A80, H⟩ := H
 replace H : ((cr1_First.f k (([t360, t361] : List Int))).bind fun t365 => ((cr6_CheckSquare.f k a0_0 a0_1).bind fun t366 => ((cr1_CheckRange.f a2_0 0 2).bind fun t367 => ((cr1_First.f k (([t366, t367] : List Int))).bind fun t371 => ((cr1_CheckRange.f a2_1 1 30).bind fun t372 => (if t365 = 0 then ((cr6_Compare.f a0_0 a0_1 a1_0 a1_1).bind fun t375 => (cl6_HangRoots.j0 k t350 t351 t354 t358 t365 t371 t372 t375 a0_0 a0_1 a2_0 a2_1 t352 t353 t356 t357 0 0 0 0)) else (cl6_HangRoots.j0 k t350 t351 t354 t358 t365 t371 t372 0 a0_0 a0_1 a2_0 a2_1 t352 t353 t356 t357 0 0 0 0))))))) = some r := H
 have A8 := Z0.mk A80
 clear A80
 obtain ⟨y362, hy362⟩ : ∃ y_ : List Int, y_ = (([t360, t361] : List Int)) := ⟨_, rfl⟩
 replace H : ((cr1_First.f k y362).bind fun t365 => ((cr6_CheckSquare.f k a0_0 a0_1).bind fun t366 => ((cr1_CheckRange.f a2_0 0 2).bind fun t367 => ((cr1_First.f k (([t366, t367] : List Int))).bind fun t371 => ((cr1_CheckRange.f a2_1 1 30).bind fun t372 => (if t365 = 0 then ((cr6_Compare.f a0_0 a0_1 a1_0 a1_1).bind fun t375 => (cl6_HangRoots.j0 k t350 t351 t354 t358 t365 t371 t372 t375 a0_0 a0_1 a2_0 a2_1 t352 t353 t356 t357 0 0 0 0)) else (cl6_HangRoots.j0 k t350 t351 t354 t358 t365 t371 t372 0 a0_0 a0_1 a2_0 a2_1 t352 t353 t356 t357 0 0 0 0))))))) = some r := by first | (rw [hy362]; with_reducible exact H) | (have H2_ := (Option.bind_some _ _).symm.trans H; rw [hy362]; with_reducible exact H2_) | (have H2_ := (Option.bind_some _ _).symm.trans H; with_reducible exact H2_) | with_reducible exact H | (rw [hy362]; exact H) | exact H
 have Ny362 := Z0.mk hy362
 clear hy362
 replace H := Option.bind_eq_some_iff.mp H
 obtain ⟨t365, A90, H⟩ := H
 replace H : ((cr6_CheckSquare.f k a0_0 a0_1).bind fun t366 => ((cr1_CheckRange.f a2_0 0 2).bind fun t367 => ((cr1_First.f k (([t366, t367] : List Int))).bind fun t371 => ((cr1_CheckRange.f a2_1 1 30).bind fun t372 => (if t365 = 0 then ((cr6_Compare.f a0_0 a0_1 a1_0 a1_1).bind fun t375 => (cl6_HangRoots.j0 k t350 t351 t354 t358 t365 t371 t372 t375 a0_0 a0_1 a2_0 a2_1 t352 t353 t356 t357 0 0 0 0)) else (cl6_HangRoots.j0 k t350 t351 t354 t358 t365 t371 t372 0 a0_0 a0_1 a2_0 a2_1 t352 t353 t356 t357 0 0 0 0)))))) = some r := H
 have A9 := Z0.mk A90
 clear A90
 replace H := Option.bind_eq_some_iff.mp H
 obtain ⟨t366, A100, H⟩ := H
 replace H : ((cr1_CheckRange.f a2_0 0 2).bind fun t367 => ((cr1_First.f k (([t366, t367] : List Int))).bind fun t371 => ((cr1_CheckRange.f a2_1 1 30).bind fun t372 => (if t365 = 0 then ((cr6_Compare.f a0_0 a0_1 a1_0 a1_1).bind fun t375 => (cl6_HangRoots.j0 k t350 t351 t354 t358 t365 t371 t372 t375 a0_0 a0_1 a2_0 a2_1 t352 t353 t356 t357 0 0 0 0)) else (cl6_HangRoots.j0 k t350 t351 t354 t358 t365 t371 t372 0 a0_0 a0_1 a2_0 a2_1 t352 t353 t356 t357 0 0 0 0))))) = some r := H
 have A10 := Z0.mk A100
 clear A100
 replace H := Option.bind_eq_some_iff.mp H
 obtain ⟨t367, A110, H⟩ := H
 replace H : ((cr1_First.f k (([t366, t367] : List Int))).bind fun t371 => ((cr1_CheckRange.f a2_1 1 30).bind fun t372 => (if t365 = 0 then ((cr6_Compare.f a0_0 a0_1 a1_0 a1_1).bind fun t375 => (cl6_HangRoots.j0 k t350 t351 t354 t358 t365 t371 t372 t375 a0_0 a0_1 a2_0 a2_1 t352 t353 t356 t357 0 0 0 0)) else (cl6_HangRoots.j0 k t350 t351 t354 t358 t365 t371 t372 0 a0_0 a0_1 a2_0 a2_1 t352 t353 t356 t357 0 0 0 0)))) = some r := H
 have A11 := Z0.mk A110
 clear A110
 obtain ⟨y368, hy368⟩ : ∃ y_ : List Int, y_ = (([t366, t367] : List Int)) := ⟨_, rfl⟩
 replace H : ((cr1_First.f k y368).bind fun t371 => ((cr1_CheckRange.f a2_1 1 30).bind fun t372 => (if t365 = 0 then ((cr6_Compare.f a0_0 a0_1 a1_0 a1_1).bind fun t375 => (cl6_HangRoots.j0 k t350 t351 t354 t358 t365 t371 t372 t375 a0_0 a0_1 a2_0 a2_1 t352 t353 t356 t357 0 0 0 0)) else (cl6_HangRoots.j0 k t350 t351 t354 t358 t365 t371 t372 0 a0_0 a0_1 a2_0 a2_1 t352 t353 t356 t357 0 0 0 0)))) = some r := by first | (rw [hy368]; with_reducible exact H) | (have H2_ := (Option.bind_some _ _).symm.trans H; rw [hy368]; with_reducible exact H2_) | (have H2_ := (Option.bind_some _ _).symm.trans H; with_reducible exact H2_) | with_reducible exact H | (rw [hy368]; exact H) | exact H
 have Ny368 := Z0.mk hy368
 clear hy368
 replace H := Option.bind_eq_some_iff.mp H
 obtain ⟨t371, A120, H⟩ := H
 replace H : ((cr1_CheckRange.f a2_1 1 30).bind fun t372 => (if t365 = 0 then ((cr6_Compare.f a0_0 a0_1 a1_0 a1_1).bind fun t375 => (cl6_HangRoots.j0 k t350 t351 t354 t358 t365 t371 t372 t375 a0_0 a0_1 a2_0 a2_1 t352 t353 t356 t357 0 0 0 0)) else (cl6_HangRoots.j0 k t350 t351 t354 t358 t365 t371 t372 0 a0_0 a0_1 a2_0 a2_1 t352 t353 t356 t357 0 0 0 0))) = some r := H
 have A12 := Z0.mk A120
 clear A120
 replace H := Option.bind_eq_some_iff.mp H
 obtain ⟨t372, A130, H⟩ := H
 replace H : (if t365 = 0 then ((cr6_Compare.f a0_0 a0_1 a1_0 a1_1).bind fun t375 => (cl6_HangRoots.j0 k t350 t351 t354 t358 t365 t371 t372 t375 a0_0 a0_1 a2_0 a2_1 t352 t353 t356 t357 0 0 0 0)) else (cl6_HangRoots.j0 k t350 t351 t354 t358 t365 t371 t372 0 a0_0 a0_1 a2_0 a2_1 t352 t353 t356 t357 0 0 0 0)) = some r := H
 have A13 := Z0.mk A130
 clear A130
 have HC14 := Z0.mk H
 clear H
 go_enter Tryd.func5, Tryd.ntmps5
 try go_wp2_with (first | ((with_reducible refine gtD (N := 3) rfl ?_); refine bxE ?hg (N := 3) ?hd (cs := #[.int .i64 a0_0, .int .i64 a0_1]) (t := 24) ?hr ?_; (case hd => rfl); (case hg => rfl); (case hr => first | (go_simp; done) | (go_simp; rfl)); intro gb347 hg w15 hbox hb; have n0_ := Z0.mk (bwT (by repeat (first | (with_reducible first | exact HB.out | apply bwA | apply bwN | apply bw1) | exact HB.out)) hb); have n1_ := Z0.mk (hbox); have n2_ := Z0.mk ((by rw [hg]; exact (bwZ (by repeat (first | (with_reducible first | exact HB.out | apply bwA | apply bwN | apply bw1) | exact HB.out))) : w.heap.size ≤ gb347)); have n3_ := Z0.mk ((by rw [hg]; exact (bwZ (by repeat (first | (with_reducible first | exact HB.out | apply bwA | apply bwN | apply bw1) | exact HB.out))) : w.heap.size ≤ gb347)); clear HB; have HB := n0_; have BK347 := n1_; have GW347 := n2_; have GE347 := n3_; clear n0_ n1_ n2_ n3_; clear hb hbox hg) | ((with_reducible refine gtD (N := 4) rfl ?_); refine bxE ?hg (N := 4) ?hd (cs := #[.int .i64 a1_0, .int .i64 a1_1]) (t := 24) ?hr ?_; (case hd => rfl); (case hg => rfl); (case hr => first | (go_simp; done) | (go_simp; rfl)); intro gb348 hg w16 hbox hb; have n0_ := Z0.mk (bkB (g := gb347) (o := .cells #[.int .i64 a0_0, .int .i64 a0_1] 24 (0, 0)) (by (with_reducible repeat (first | refine bkN ?_ _ | refine bkD ?_ | refine bkA ?_ _)); exact BK347.out) hb); have n1_ := Z0.mk (bwT (by repeat (first | (with_reducible first | exact HB.out | apply bwA | apply bwN | apply bw1 | refine bwS ?_ GE347.out) | exact HB.out)) hb); have n2_ := Z0.mk (hbox); have n3_ := Z0.mk ((by rw [hg]; exact (bwZ (by repeat (first | (with_reducible first | exact HB.out | apply bwA | apply bwN | apply bw1 | refine bwS ?_ GE347.out) | exact HB.out))) : w.heap.size ≤ gb348)); have n4_ := Z0.mk ((by rw [hg]; exact (bwZ (by repeat (first | (with_reducible first | exact HB.out | apply bwA | apply bwN | apply bw1 | refine bwS ?_ GE347.out) | exact HB.out))) : w.heap.size ≤ gb348)); have n5_ := Z0.mk ((by rw [hg]; exact Nat.ne_of_lt (blk_lt (g := gb347) (o := .cells #[.int .i64 a0_0, .int .i64 a0_1] 24 (0, 0)) (by (with_reducible repeat (first | refine bkN ?_ _ | refine bkD ?_ | refine bkA ?_ _)); exact BK347.out)) : gb347 ≠ gb348)); have n6_ := Z0.mk ((by rw [hg]; exact Nat.ne_of_gt (blk_lt (g := gb347) (o := .cells #[.int .i64 a0_0, .int .i64 a0_1] 24 (0, 0)) (by (with_reducible repeat (first | refine bkN ?_ _ | refine bkD ?_ | refine bkA ?_ _)); exact BK347.out)) : gb348 ≠ gb347)); clear BK347; clear HB; have BK347 := n0_; have HB := n1_; have BK348 := n2_; have GW348 := n3_; have GE348 := n4_; have NB347_348 := n5_; have NB348_347 := n6_; clear n0_ n1_ n2_ n3_ n4_ n5_ n6_; clear hb hbox hg) | ((with_reducible refine gtD (N := 5) rfl ?_); refine bxE ?hg (N := 5) ?hd (cs := #[.int .i64 a2_0, .int .i64 a2_1]) (t := 51) ?hr ?_; (case hd => rfl); (case hg => rfl); (case hr => first | (go_simp; done) | (go_simp; rfl)); intro gb349 hg w17 hbox hb; have n0_ := Z0.mk (bkB (g := gb347) (o := .cells #[.int .i64 a0_0, .int .i64 a0_1] 24 (0, 0)) (by (with_reducible repeat (first | refine bkN ?_ _ | refine bkD ?_ | refine bkA ?_ _)); exact BK347.out) hb); have n1_ := Z0.mk (bkB (g := gb348) (o := .cells #[.int .i64 a1_0, .int .i64 a1_1] 24 (0, 0)) (by (with_reducible repeat (first | refine bkN ?_ _ | refine bkD ?_ | refine bkA ?_ _)); exact BK348.out) hb); have n2_ := Z0.mk (bwT (by repeat (first | (with_reducible first | exact HB.out | apply bwA | apply bwN | apply bw1 | refine bwS ?_ GE347.out | refine bwS ?_ GE348.out) | exact HB.out)) hb); have n3_ := Z0.mk (hbox); have n4_ := Z0.mk ((by rw [hg]; exact (bwZ (by repeat (first | (with_reducible first | exact HB.out | apply bwA | apply bwN | apply bw1 | refine bwS ?_ GE347.out | refine bwS ?_ GE348.out) | exact HB.out))) : w.heap.size ≤ gb349)); have n5_ := Z0.mk ((by rw [hg]; exact (bwZ (by repeat (first | (with_reducible first | exact HB.out | apply bwA | apply bwN | apply bw1 | refine bwS ?_ GE347.out | refine bwS ?_ GE348.out) | exact HB.out))) : w.heap.size ≤ gb349)); have n6_ := Z0.mk ((by rw [hg]; exact Nat.ne_of_lt (blk_lt (g := gb347) (o := .cells #[.int .i64 a0_0, .int .i64 a0_1] 24 (0, 0)) (by (with_reducible repeat (first | refine bkN ?_ _ | refine bkD ?_ | refine bkA ?_ _)); exact BK347.out)) : gb347 ≠ gb349)); have n7_ := Z0.mk ((by rw [hg]; exact Nat.ne_of_gt (blk_lt (g := gb347) (o := .cells #[.int .i64 a0_0, .int .i64 a0_1] 24 (0, 0)) (by (with_reducible repeat (first | refine bkN ?_ _ | refine bkD ?_ | refine bkA ?_ _)); exact BK347.out)) : gb349 ≠ gb347)); have n8_ := Z0.mk ((by rw [hg]; exact Nat.ne_of_lt (blk_lt (g := gb348) (o := .cells #[.int .i64 a1_0, .int .i64 a1_1] 24 (0, 0)) (by (with_reducible repeat (first | refine bkN ?_ _ | refine bkD ?_ | refine bkA ?_ _)); exact BK348.out)) : gb348 ≠ gb349)); have n9_ := Z0.mk ((by rw [hg]; exact Nat.ne_of_gt (blk_lt (g := gb348) (o := .cells #[.int .i64 a1_0, .int .i64 a1_1] 24 (0, 0)) (by (with_reducible repeat (first | refine bkN ?_ _ | refine bkD ?_ | refine bkA ?_ _)); exact BK348.out)) : gb349 ≠ gb348)); clear BK347; clear BK348; clear HB; have BK347 := n0_; have BK348 := n1_; have HB := n2_; have BK349 := n3_; have GW349 := n4_; have GE349 := n5_; have NB347_349 := n6_; have NB349_347 := n7_; have NB348_349 := n8_; have NB349_348 := n9_; clear n0_ n1_ n2_ n3_ n4_ n5_ n6_ n7_ n8_ n9_; clear hb hbox hg; have hnb18 := NB347_348.out; have hnc18 := NB348_347.out; have hnb19 := NB347_349.out; have hnc19 := NB349_347.out; have hcz20_0 : w17.cell? ⟨gb347, 0, none⟩ = some (.int .i64 a0_0) := (bkC BK347.out 0).trans rfl; have hcz20_1 : w17.cell? ⟨gb347, 1, none⟩ = some (.int .i64 a0_1) := (bkC BK347.out 1).trans rfl; have hfz20_0 := bkZ BK347.out 0; have hfz20_1 := bkZ BK347.out 1; have hnb21 := NB348_349.out; have hnc21 := NB349_348.out; have hcz22_0 : w17.cell? ⟨gb348, 0, none⟩ = some (.int .i64 a1_0) := (bkC BK348.out 0).trans rfl; have hcz22_1 : w17.cell? ⟨gb348, 1, none⟩ = some (.int .i64 a1_1) := (bkC BK348.out 1).trans rfl; have hfz22_0 := bkZ BK348.out 0; have hfz22_1 := bkZ BK348.out 1) | ((with_reducible refine gtC (f := 32) rfl ?_); refine goesL_ (some 22) rfl rfl Tryd.func32 (by kernel_rfl) rfl #[.agg #[.int .i64 a0_0, .int .i64 a0_1], .agg #[.int .i64 a1_0, .int .i64 a1_1]] rfl (by (try simp only [List.map_toArray, List.map_cons, List.map_nil]); first | done | rfl | (simp only [List.length_drop, List.length_take]; rfl)) ?_; (with_reducible refine (hang_Compare.calls k a0_0 a0_1 a1_0 a1_1 t350 t351 _ A4.out).mono ?_); rintro e w23 ⟨rfl, hb⟩; refine ⟨_, rfl, ?_⟩; have n0_ := Z0.mk (bkB (g := gb347) (o := .cells #[.int .i64 a0_0, .int .i64 a0_1] 24 (0, 0)) (by (with_reducible repeat (first | refine bkN ?_ _ | refine bkD ?_ | refine bkA ?_ _)); exact BK347.out) hb); have n1_ := Z0.mk (bkB (g := gb348) (o := .cells #[.int .i64 a1_0, .int .i64 a1_1] 24 (0, 0)) (by (with_reducible repeat (first | refine bkN ?_ _ | refine bkD ?_ | refine bkA ?_ _)); exact BK348.out) hb); have n2_ := Z0.mk (bkB (g := gb349) (o := .cells #[.int .i64 a2_0, .int .i64 a2_1] 51 (0, 0)) (by (with_reducible repeat (first | refine bkN ?_ _ | refine bkD ?_ | refine bkA ?_ _)); exact BK349.out) hb); have n3_ := Z0.mk (bwT (by repeat (first | (with_reducible first | exact HB.out | apply bwA | apply bwN | apply bw1 | refine bwS ?_ GE347.out | refine bwS ?_ GE348.out | refine bwS ?_ GE349.out) | exact HB.out)) hb); clear BK347; clear BK348; clear BK349; clear HB; have BK347 := n0_; have BK348 := n1_; have BK349 := n2_; have HB := n3_; clear n0_ n1_ n2_ n3_; (try clear hb); (try clear hb2); (try clear hk); (try clear hi); have hcz24_0 : w23.cell? ⟨gb347, 0, none⟩ = some (.int .i64 a0_0) := (bkC BK347.out 0).trans rfl; have hcz24_1 : w23.cell? ⟨gb347, 1, none⟩ = some (.int .i64 a0_1) := (bkC BK347.out 1).trans rfl; have hfz24_0 := bkZ BK347.out 0; have hfz24_1 := bkZ BK347.out 1; have hcz25_0 : w23.cell? ⟨gb349, 0, none⟩ = some (.int .i64 a2_0) := (bkC BK349.out 0).trans rfl; have hcz25_1 : w23.cell? ⟨gb349, 1, none⟩ = some (.int .i64 a2_1) := (bkC BK349.out 1).trans rfl; have hfz25_0 := bkZ BK349.out 0; have hfz25_1 := bkZ BK349.out 1) | ((with_reducible refine gtC (f := 33) rfl ?_); refine goesL_ (some 29) rfl rfl Tryd.func33 (by kernel_rfl) rfl #[.agg #[.int .i64 a0_0, .int .i64 a0_1], .int .i64 a2_0] rfl (by (try simp only [List.map_toArray, List.map_cons, List.map_nil]); first | done | rfl | (simp only [List.length_drop, List.length_take]; rfl)) ?_; (with_reducible refine (hang_Root.calls k a0_0 a0_1 a2_0 t352 t353 t354 _ (hG.below (by repeat (first | (with_reducible first | exact HB.out | apply bwA | apply bwN | apply bw1 | refine bwS ?_ GE347.out | refine bwS ?_ GE348.out | refine bwS ?_ GE349.out) | exact HB.out))) A5.out).mono ?_); rintro e w26 ⟨rfl, hb⟩; refine ⟨_, rfl, ?_⟩; have n0_ := Z0.mk (bkB (g := gb347) (o := .cells #[.int .i64 a0_0, .int .i64 a0_1] 24 (0, 0)) (by (with_reducible repeat (first | refine bkN ?_ _ | refine bkD ?_ | refine bkA ?_ _)); exact BK347.out) hb); have n1_ := Z0.mk (bkB (g := gb348) (o := .cells #[.int .i64 a1_0, .int .i64 a1_1] 24 (0, 0)) (by (with_reducible repeat (first | refine bkN ?_ _ | refine bkD ?_ | refine bkA ?_ _)); exact BK348.out) hb); have n2_ := Z0.mk (bkB (g := gb349) (o := .cells #[.int .i64 a2_0, .int .i64 a2_1] 51 (0, 0)) (by (with_reducible repeat (first | refine bkN ?_ _ | refine bkD ?_ | refine bkA ?_ _)); exact BK349.out) hb); have n3_ := Z0.mk (bwT (by repeat (first | (with_reducible first | exact HB.out | apply bwA | apply bwN | apply bw1 | refine bwS ?_ GE347.out | refine bwS ?_ GE348.out | refine bwS ?_ GE349.out) | exact HB.out)) hb); clear BK347; clear BK348; clear BK349; clear HB; have BK347 := n0_; have BK348 := n1_; have BK349 := n2_; have HB := n3_; clear n0_ n1_ n2_ n3_; (try clear hb); (try clear hb2); (try clear hk); (try clear hi)) | ((with_reducible refine gtD (N := 9) rfl ?_); refine bxE ?hg (N := 9) ?hd (cs := #[.int .i64 0, .int .i64 0]) (t := 23) ?hr ?_; (case hd => rfl); (case hg => rfl); (case hr => first | (go_simp; done) | (go_simp; rfl)); intro gb355 hg w27 hbox hb; have n0_ := Z0.mk (bkB (g := gb347) (o := .cells #[.int .i64 a0_0, .int .i64 a0_1] 24 (0, 0)) (by (with_reducible repeat (first | refine bkN ?_ _ | refine bkD ?_ | refine bkA ?_ _)); exact BK347.out) hb); have n1_ := Z0.mk (bkB (g := gb348) (o := .cells #[.int .i64 a1_0, .int .i64 a1_1] 24 (0, 0)) (by (with_reducible repeat (first | refine bkN ?_ _ | refine bkD ?_ | refine bkA ?_ _)); exact BK348.out) hb); have n2_ := Z0.mk (bkB (g := gb349) (o := .cells #[.int .i64 a2_0, .int .i64 a2_1] 51 (0, 0)) (by (with_reducible repeat (first | refine bkN ?_ _ | refine bkD ?_ | refine bkA ?_ _)); exact BK349.out) hb); have n3_ := Z0.mk (bwT (by repeat (first | (with_reducible first | exact HB.out | apply bwA | apply bwN | apply bw1 | refine bwS ?_ GE347.out | refine bwS ?_ GE348.out | refine bwS ?_ GE349.out) | exact HB.out)) hb); have n4_ := Z0.mk (hbox); have n5_ := Z0.mk ((by rw [hg]; exact (bwZ (by repeat (first | (with_reducible first | exact HB.out | apply bwA | apply bwN | apply bw1 | refine bwS ?_ GE347.out | refine bwS ?_ GE348.out | refine bwS ?_ GE349.out) | exact HB.out))) : w.heap.size ≤ gb355)); have n6_ := Z0.mk ((by rw [hg]; exact (bwZ (by repeat (first | (with_reducible first | exact HB.out | apply bwA | apply bwN | apply bw1 | refine bwS ?_ GE347.out | refine bwS ?_ GE348.out | refine bwS ?_ GE349.out) | exact HB.out))) : w.heap.size ≤ gb355)); have n7_ := Z0.mk ((by rw [hg]; exact Nat.ne_of_lt (blk_lt (g := gb347) (o := .cells #[.int .i64 a0_0, .int .i64 a0_1] 24 (0, 0)) (by (with_reducible repeat (first | refine bkN ?_ _ | refine bkD ?_ | refine bkA ?_ _)); exact BK347.out)) : gb347 ≠ gb355)); have n8_ := Z0.mk ((by rw [hg]; exact Nat.ne_of_gt (blk_lt (g := gb347) (o := .cells #[.int .i64 a0_0, .int .i64 a0_1] 24 (0, 0)) (by (with_reducible repeat (first | refine bkN ?_ _ | refine bkD ?_ | refine bkA ?_ _)); exact BK347.out)) : gb355 ≠ gb347)); have n9_ := Z0.mk ((by rw [hg]; exact Nat.ne_of_lt (blk_lt (g := gb348) (o := .cells #[.int .i64 a1_0, .int .i64 a1_1] 24 (0, 0)) (by (with_reducible repeat (first | refine bkN ?_ _ | refine bkD ?_ | refine bkA ?_ _)); exact BK348.out)) : gb348 ≠ gb355)); have n10_ := Z0.mk ((by rw [hg]; exact Nat.ne_of_gt (blk_lt (g := gb348) (o := .cells #[.int .i64 a1_0, .int .i64 a1_1] 24 (0, 0)) (by (with_reducible repeat (first | refine bkN ?_ _ | refine bkD ?_ | refine bkA ?_ _)); exact BK348.out)) : gb355 ≠ gb348)); have n11_ := Z0.mk ((by rw [hg]; exact Nat.ne_of_lt (blk_lt (g := gb349) (o := .cells #[.int .i64 a2_0, .int .i64 a2_1] 51 (0, 0)) (by (with_reducible repeat (first | refine bkN ?_ _ | refine bkD ?_ | refine bkA ?_ _)); exact BK349.out)) : gb349 ≠ gb355)); have n12_ := Z0.mk ((by rw [hg]; exact Nat.ne_of_gt (blk_lt (g := gb349) (o := .cells #[.int .i64 a2_0, .int .i64 a2_1] 51 (0, 0)) (by (with_reducible repeat (first | refine bkN ?_ _ | refine bkD ?_ | refine bkA ?_ _)); exact BK349.out)) : gb355 ≠ gb349)); clear BK347; clear BK348; clear BK349; clear HB; have BK347 := n0_; have BK348 := n1_; have BK349 := n2_; have HB := n3_; have BK355 := n4_; have GW355 := n5_; have GE355 := n6_; have NB347_355 := n7_; have NB355_347 := n8_; have NB348_355 := n9_; have NB355_348 := n10_; have NB349_355 := n11_; have NB355_349 := n12_; clear n0_ n1_ n2_ n3_ n4_ n5_ n6_ n7_ n8_ n9_ n10_ n11_ n12_; clear hb hbox hg; have hnb28 := NB355_347.out; have hnc28 := NB347_355.out; have hnb29 := NB355_348.out; have hnc29 := NB348_355.out; have hnb30 := NB355_349.out; have hnc30 := NB349_355.out; have hcz31_0 : w27.cell? ⟨gb355, 0, none⟩ = some (.int .i64 0) := (bkC BK355.out 0).trans rfl; have hcz31_1 : w27.cell? ⟨gb355, 1, none⟩ = some (.int .i64 0) := (bkC BK355.out 1).trans rfl; have hfz31_0 := bkZ BK355.out 0; have hfz31_1 := bkZ BK355.out 1; have hcz32_0 : w27.cell? ⟨gb349, 0, none⟩ = some (.int .i64 a2_0) := (bkC BK349.out 0).trans rfl; have hcz32_1 : w27.cell? ⟨gb349, 1, none⟩ = some (.int .i64 a2_1) := (bkC BK349.out 1).trans rfl; have hfz32_0 := bkZ BK349.out 0; have hfz32_1 := bkZ BK349.out 1) | ((with_reducible refine gtC (f := 34) rfl ?_); refine goesL_ (some 35) rfl rfl Tryd.func34 (by kernel_rfl) rfl #[.int .i64 a2_1] rfl (by (try simp only [List.map_toArray, List.map_cons, List.map_nil]); first | done | rfl | (simp only [List.length_drop, List.length_take]; rfl)) ?_; (with_reducible refine (hang_Fullest.calls k a2_1 t356 t357 t358 _ A6.out).mono ?_); rintro e w33 ⟨rfl, hb⟩; refine ⟨_, rfl, ?_⟩; have n0_ := Z0.mk (bkB (g := gb347) (o := .cells #[.int .i64 a0_0, .int .i64 a0_1] 24 (0, 0)) (by (with_reducible repeat (first | refine bkN ?_ _ | refine bkD ?_ | refine bkA ?_ _)); refine bkF ?_ NB347_355.out _; (with_reducible repeat (first | refine bkN ?_ _ | refine bkD ?_ | refine bkA ?_ _)); refine bkF ?_ NB347_355.out _; (with_reducible repeat (first | refine bkN ?_ _ | refine bkD ?_ | refine bkA ?_ _)); exact BK347.out) hb); have n1_ := Z0.mk (bkB (g := gb348) (o := .cells #[.int .i64 a1_0, .int .i64 a1_1] 24 (0, 0)) (by (with_reducible repeat (first | refine bkN ?_ _ | refine bkD ?_ | refine bkA ?_ _)); refine bkF ?_ NB348_355.out _; (with_reducible repeat (first | refine bkN ?_ _ | refine bkD ?_ | refine bkA ?_ _)); refine bkF ?_ NB348_355.out _; (with_reducible repeat (first | refine bkN ?_ _ | refine bkD ?_ | refine bkA ?_ _)); exact BK348.out) hb); have n2_ := Z0.mk (bkB (g := gb349) (o := .cells #[.int .i64 a2_0, .int .i64 a2_1] 51 (0, 0)) (by (with_reducible repeat (first | refine bkN ?_ _ | refine bkD ?_ | refine bkA ?_ _)); refine bkF ?_ NB349_355.out _; (with_reducible repeat (first | refine bkN ?_ _ | refine bkD ?_ | refine bkA ?_ _)); refine bkF ?_ NB349_355.out _; (with_reducible repeat (first | refine bkN ?_ _ | refine bkD ?_ | refine bkA ?_ _)); exact BK349.out) hb); have n3_ := Z0.mk (bkB (g := gb355) (o := .cells #[.int .i64 t352, .int .i64 t353] 23 (0, 0)) (by (with_reducible repeat (first | refine bkN ?_ _ | refine bkD ?_ | refine bkA ?_ _)); refine bkP (cs := #[.int .i64 t352, .int .i64 0]) ?_ 1 _ rfl; (with_reducible repeat (first | refine bkN ?_ _ | refine bkD ?_ | refine bkA ?_ _)); refine bkP (cs := #[.int .i64 0, .int .i64 0]) ?_ 0 _ rfl; (with_reducible repeat (first | refine bkN ?_ _ | refine bkD ?_ | refine bkA ?_ _)); exact BK355.out) hb); have n4_ := Z0.mk (bwT (by repeat (first | (with_reducible first | exact HB.out | apply bwA | apply bwN | apply bw1 | refine bwS ?_ GE347.out | refine bwS ?_ GE348.out | refine bwS ?_ GE349.out | refine bwS ?_ GE355.out) | exact HB.out)) hb); clear BK347; clear BK348; clear BK349; clear BK355; clear HB; have BK347 := n0_; have BK348 := n1_; have BK349 := n2_; have BK355 := n3_; have HB := n4_; clear n0_ n1_ n2_ n3_ n4_; (try clear hb); (try clear hb2); (try clear hk); (try clear hi)) | ((with_reducible refine gtD (N := 11) rfl ?_); refine bxE ?hg (N := 11) ?hd (cs := #[.int .i64 0, .int .i64 0]) (t := 23) ?hr ?_; (case hd => rfl); (case hg => rfl); (case hr => first | (go_simp; done) | (go_simp; rfl)); intro gb359 hg w34 hbox hb; have n0_ := Z0.mk (bkB (g := gb347) (o := .cells #[.int .i64 a0_0, .int .i64 a0_1] 24 (0, 0)) (by (with_reducible repeat (first | refine bkN ?_ _ | refine bkD ?_ | refine bkA ?_ _)); exact BK347.out) hb); have n1_ := Z0.mk (bkB (g := gb348) (o := .cells #[.int .i64 a1_0, .int .i64 a1_1] 24 (0, 0)) (by (with_reducible repeat (first | refine bkN ?_ _ | refine bkD ?_ | refine bkA ?_ _)); exact BK348.out) hb); have n2_ := Z0.mk (bkB (g := gb349) (o := .cells #[.int .i64 a2_0, .int .i64 a2_1] 51 (0, 0)) (by (with_reducible repeat (first | refine bkN ?_ _ | refine bkD ?_ | refine bkA ?_ _)); exact BK349.out) hb); have n3_ := Z0.mk (bkB (g := gb355) (o := .cells #[.int .i64 t352, .int .i64 t353] 23 (0, 0)) (by (with_reducible repeat (first | refine bkN ?_ _ | refine bkD ?_ | refine bkA ?_ _)); exact BK355.out) hb); have n4_ := Z0.mk (bwT (by repeat (first | (with_reducible first | exact HB.out | apply bwA | apply bwN | apply bw1 | refine bwS ?_ GE347.out | refine bwS ?_ GE348.out | refine bwS ?_ GE349.out | refine bwS ?_ GE355.out) | exact HB.out)) hb); have n5_ := Z0.mk (hbox); have n6_ := Z0.mk ((by rw [hg]; exact (bwZ (by repeat (first | (with_reducible first | exact HB.out | apply bwA | apply bwN | apply bw1 | refine bwS ?_ GE347.out | refine bwS ?_ GE348.out | refine bwS ?_ GE349.out | refine bwS ?_ GE355.out) | exact HB.out))) : w.heap.size ≤ gb359)); have n7_ := Z0.mk ((by rw [hg]; exact (bwZ (by repeat (first | (with_reducible first | exact HB.out | apply bwA | apply bwN | apply bw1 | refine bwS ?_ GE347.out | refine bwS ?_ GE348.out | refine bwS ?_ GE349.out | refine bwS ?_ GE355.out) | exact HB.out))) : w.heap.size ≤ gb359)); have n8_ := Z0.mk ((by rw [hg]; exact Nat.ne_of_lt (blk_lt (g := gb347) (o := .cells #[.int .i64 a0_0, .int .i64 a0_1] 24 (0, 0)) (by (with_reducible repeat (first | refine bkN ?_ _ | refine bkD ?_ | refine bkA ?_ _)); exact BK347.out)) : gb347 ≠ gb359)); have n9_ := Z0.mk ((by rw [hg]; exact Nat.ne_of_gt (blk_lt (g := gb347) (o := .cells #[.int .i64 a0_0, .int .i64 a0_1] 24 (0, 0)) (by (with_reducible repeat (first | refine bkN ?_ _ | refine bkD ?_ | refine bkA ?_ _)); exact BK347.out)) : gb359 ≠ gb347)); have n10_ := Z0.mk ((by rw [hg]; exact Nat.ne_of_lt (blk_lt (g := gb348) (o := .cells #[.int .i64 a1_0, .int .i64 a1_1] 24 (0, 0)) (by (with_reducible repeat (first | refine bkN ?_ _ | refine bkD ?_ | refine bkA ?_ _)); exact BK348.out)) : gb348 ≠ gb359)); have n11_ := Z0.mk ((by rw [hg]; exact Nat.ne_of_gt (blk_lt (g := gb348) (o := .cells #[.int .i64 a1_0, .int .i64 a1_1] 24 (0, 0)) (by (with_reducible repeat (first | refine bkN ?_ _ | refine bkD ?_ | refine bkA ?_ _)); exact BK348.out)) : gb359 ≠ gb348)); have n12_ := Z0.mk ((by rw [hg]; exact Nat.ne_of_lt (blk_lt (g := gb349) (o := .cells #[.int .i64 a2_0, .int .i64 a2_1] 51 (0, 0)) (by (with_reducible repeat (first | refine bkN ?_ _ | refine bkD ?_ | refine bkA ?_ _)); exact BK349.out)) : gb349 ≠ gb359)); have n13_ := Z0.mk ((by rw [hg]; exact Nat.ne_of_gt (blk_lt (g := gb349) (o := .cells #[.int .i64 a2_0, .int .i64 a2_1] 51 (0, 0)) (by (with_reducible repeat (first | refine bkN ?_ _ | refine bkD ?_ | refine bkA ?_ _)); exact BK349.out)) : gb359 ≠ gb349)); have n14_ := Z0.mk ((by rw [hg]; exact Nat.ne_of_lt (blk_lt (g := gb355) (o := .cells #[.int .i64 t352, .int .i64 t353] 23 (0, 0)) (by (with_reducible repeat (first | refine bkN ?_ _ | refine bkD ?_ | refine bkA ?_ _)); exact BK355.out)) : gb355 ≠ gb359)); have n15_ := Z0.mk ((by rw [hg]; exact Nat.ne_of_gt (blk_lt (g := gb355) (o := .cells #[.int .i64 t352, .int .i64 t353] 23 (0, 0)) (by (with_reducible repeat (first | refine bkN ?_ _ | refine bkD ?_ | refine bkA ?_ _)); exact BK355.out)) : gb359 ≠ gb355)); clear BK347; clear BK348; clear BK349; clear BK355; clear HB; have BK347 := n0_; have BK348 := n1_; have BK349 := n2_; have BK355 := n3_; have HB := n4_; have BK359 := n5_; have GW359 := n6_; have GE359 := n7_; have NB347_359 := n8_; have NB359_347 := n9_; have NB348_359 := n10_; have NB359_348 := n11_; have NB349_359 := n12_; have NB359_349 := n13_; have NB355_359 := n14_; have NB359_355 := n15_; clear n0_ n1_ n2_ n3_ n4_ n5_ n6_ n7_ n8_ n9_ n10_ n11_ n12_ n13_ n14_ n15_; clear hb hbox hg; have hnb35 := NB359_347.out; have hnc35 := NB347_359.out; have hnb36 := NB359_348.out; have hnc36 := NB348_359.out; have hnb37 := NB359_349.out; have hnc37 := NB349_359.out; have hnb38 := NB359_355.out; have hnc38 := NB355_359.out; have hcz39_0 : w34.cell? ⟨gb359, 0, none⟩ = some (.int .i64 0) := (bkC BK359.out 0).trans rfl; have hcz39_1 : w34.cell? ⟨gb359, 1, none⟩ = some (.int .i64 0) := (bkC BK359.out 1).trans rfl; have hfz39_0 := bkZ BK359.out 0; have hfz39_1 := bkZ BK359.out 1))
 have n0_ : Z0 (((w34.setCell ⟨gb359, 0, none⟩ (.int .i64 t356)).setCell ⟨gb359, 1, none⟩ (.int .i64 t357)).heap[gb347]? = some (.cells #[.int .i64 a0_0, .int .i64 a0_1] 24 (0, 0))) := ⟨by (with_reducible repeat (first | refine bkN ?_ _ | refine bkD ?_ | refine bkA ?_ _)); refine bkF ?_ NB347_359.out _; (with_reducible repeat (first | refine bkN ?_ _ | refine bkD ?_ | refine bkA ?_ _)); refine bkF ?_ NB347_359.out _; (with_reducible repeat (first | refine bkN ?_ _ | refine bkD ?_ | refine bkA ?_ _)); exact BK347.out⟩
 have n1_ : Z0 (((w34.setCell ⟨gb359, 0, none⟩ (.int .i64 t356)).setCell ⟨gb359, 1, none⟩ (.int .i64 t357)).heap[gb348]? = some (.cells #[.int .i64 a1_0, .int .i64 a1_1] 24 (0, 0))) := ⟨by (with_reducible repeat (first | refine bkN ?_ _ | refine bkD ?_ | refine bkA ?_ _)); refine bkF ?_ NB348_359.out _; (with_reducible repeat (first | refine bkN ?_ _ | refine bkD ?_ | refine bkA ?_ _)); refine bkF ?_ NB348_359.out _; (with_reducible repeat (first | refine bkN ?_ _ | refine bkD ?_ | refine bkA ?_ _)); exact BK348.out⟩
 have n2_ : Z0 (((w34.setCell ⟨gb359, 0, none⟩ (.int .i64 t356)).setCell ⟨gb359, 1, none⟩ (.int .i64 t357)).heap[gb349]? = some (.cells #[.int .i64 a2_0, .int .i64 a2_1] 51 (0, 0))) := ⟨by (with_reducible repeat (first | refine bkN ?_ _ | refine bkD ?_ | refine bkA ?_ _)); refine bkF ?_ NB349_359.out _; (with_reducible repeat (first | refine bkN ?_ _ | refine bkD ?_ | refine bkA ?_ _)); refine bkF ?_ NB349_359.out _; (with_reducible repeat (first | refine bkN ?_ _ | refine bkD ?_ | refine bkA ?_ _)); exact BK349.out⟩
 have n3_ : Z0 (((w34.setCell ⟨gb359, 0, none⟩ (.int .i64 t356)).setCell ⟨gb359, 1, none⟩ (.int .i64 t357)).heap[gb355]? = some (.cells #[.int .i64 t352, .int .i64 t353] 23 (0, 0))) := ⟨by (with_reducible repeat (first | refine bkN ?_ _ | refine bkD ?_ | refine bkA ?_ _)); refine bkF ?_ NB355_359.out _; (with_reducible repeat (first | refine bkN ?_ _ | refine bkD ?_ | refine bkA ?_ _)); refine bkF ?_ NB355_359.out _; (with_reducible repeat (first | refine bkN ?_ _ | refine bkD ?_ | refine bkA ?_ _)); exact BK355.out⟩
 have n4_ : Z0 (((w34.setCell ⟨gb359, 0, none⟩ (.int .i64 t356)).setCell ⟨gb359, 1, none⟩ (.int .i64 t357)).heap[gb359]? = some (.cells #[.int .i64 t356, .int .i64 t357] 23 (0, 0))) := ⟨by (with_reducible repeat (first | refine bkN ?_ _ | refine bkD ?_ | refine bkA ?_ _)); refine bkP (cs := #[.int .i64 t356, .int .i64 0]) ?_ 1 _ rfl; (with_reducible repeat (first | refine bkN ?_ _ | refine bkD ?_ | refine bkA ?_ _)); refine bkP (cs := #[.int .i64 0, .int .i64 0]) ?_ 0 _ rfl; (with_reducible repeat (first | refine bkN ?_ _ | refine bkD ?_ | refine bkA ?_ _)); exact BK359.out⟩
 have n5_ : Z0 (Below w.heap.size w ((w34.setCell ⟨gb359, 0, none⟩ (.int .i64 t356)).setCell ⟨gb359, 1, none⟩ (.int .i64 t357))) := ⟨by repeat (first | (with_reducible first | exact HB.out | apply bwA | apply bwN | apply bw1 | refine bwS ?_ GE347.out | refine bwS ?_ GE348.out | refine bwS ?_ GE349.out | refine bwS ?_ GE355.out | refine bwS ?_ GE359.out) | exact HB.out)⟩
 (try clear BK347)
 (try clear BK348)
 (try clear BK349)
 (try clear BK355)
 (try clear BK359)
 (try clear HB)
 generalize ((w34.setCell ⟨gb359, 0, none⟩ (.int .i64 t356)).setCell ⟨gb359, 1, none⟩ (.int .i64 t357)) = w40 at n0_ n1_ n2_ n3_ n4_ n5_ ⊢
 have BK347 := n0_
 have BK348 := n1_
 have BK349 := n2_
 have BK355 := n3_
 have BK359 := n4_
 have HB := n5_
 clear n0_ n1_ n2_ n3_ n4_ n5_
 have n0_ := Z0.mk (bkD BK347.out)
 have n1_ := Z0.mk (bkD BK348.out)
 have n2_ := Z0.mk (bkD BK349.out)
 have n3_ := Z0.mk (bkD BK355.out)
 have n4_ := Z0.mk (bkD BK359.out)
 have n5_ := Z0.mk (bw1 HB.out)
 clear BK347
 clear BK348
 clear BK349
 clear BK355
 clear BK359
 clear HB
 have BK347 := n0_
 have BK348 := n1_
 have BK349 := n2_
 have BK355 := n3_
 have BK359 := n4_
 have HB := n5_
 clear n0_ n1_ n2_ n3_ n4_ n5_
 refine start_ (n := 7) (S := fun w' => w'.cell? ⟨gb347, 0, none⟩ = some (.int .i64 a0_0) ∧ w'.cell? ⟨gb347, 1, none⟩ = some (.int .i64 a0_1) ∧ w'.cell? ⟨gb348, 0, none⟩ = some (.int .i64 a1_0) ∧ w'.cell? ⟨gb348, 1, none⟩ = some (.int .i64 a1_1)) (ds := []) #[false, false, false, false, false, false, false] (by kernel_rfl) rfl rfl ⟨(bkC BK347.out 0).trans rfl, (bkC BK347.out 1).trans rfl, (bkC BK348.out 0).trans rfl, (bkC BK348.out 1).trans rfl⟩ (fun hHd => ?_)
 generalize w40.drew = w41 at BK347 BK348 BK349 BK355 BK359 HB hHd ⊢
 refine take_ (i := 0) (N := some 38) (v := ?_) (a' := ?_) #[true, false, false, false, false, false, false] rfl rfl (by kernel_rfl) (fun _ _ _ h => h) (Or.inl ⟨by rfl, ?_⟩) hHd ?_ ?_
 rotate_left
 ·rintro w' ⟨s0, s1, s2, s3⟩
  go_simp
  with_reducible rfl
 rotate_left
 ·simp only [Act.put, List.setIfInBounds_toArray, List.set_cons_zero, List.set_cons_succ, i64_w, i32_w]
  rfl
 refine take_ (i := 2) (N := some 40) (v := ?_) (a' := ?_) #[true, false, true, false, false, false, false] rfl rfl (by kernel_rfl) (fun _ _ _ h => h) (Or.inl ⟨by rfl, ?_⟩) hHd ?_ ?_
 rotate_left
 ·rintro w' ⟨s0, s1, s2, s3⟩
  go_simp
  with_reducible rfl
 rotate_left
 ·simp only [Act.put, List.setIfInBounds_toArray, List.set_cons_zero, List.set_cons_succ, i64_w, i32_w]
  rfl
 refine one_ (i := 1) (N := some 39) #[true, true, true, false, false, false, false] rfl rfl (by kernel_rfl) (by decide) (fun K hK => ?_)
 refine goes_ Tryd.func21 (by kernel_rfl) rfl #[.agg #[.int .i64 a0_0, .int .i64 a0_1]] (by rfl) rfl rfl (by (try simp only [List.map_toArray, List.map_cons, List.map_nil]); first | done | rfl | (simp only [List.length_drop, List.length_take]; rfl)) ?_
 with_reducible refine (cr6_CheckSquare.calls k a0_0 a0_1 t360 _ A7.out).mono ?_
 rintro e w42 ⟨rfl, hb⟩
 refine ⟨_, rfl, ?_⟩
 have n0_ := Z0.mk (bkB (g := gb347) (o := .cells #[.int .i64 a0_0, .int .i64 a0_1] 24 (0, 0)) (by (with_reducible repeat (first | refine bkN ?_ _ | refine bkD ?_ | refine bkA ?_ _)); exact BK347.out) hb)
 have n1_ := Z0.mk (bkB (g := gb348) (o := .cells #[.int .i64 a1_0, .int .i64 a1_1] 24 (0, 0)) (by (with_reducible repeat (first | refine bkN ?_ _ | refine bkD ?_ | refine bkA ?_ _)); exact BK348.out) hb)
 have n2_ := Z0.mk (bkB (g := gb349) (o := .cells #[.int .i64 a2_0, .int .i64 a2_1] 51 (0, 0)) (by (with_reducible repeat (first | refine bkN ?_ _ | refine bkD ?_ | refine bkA ?_ _)); exact BK349.out) hb)
 have n3_ := Z0.mk (bkB (g := gb355) (o := .cells #[.int .i64 t352, .int .i64 t353] 23 (0, 0)) (by (with_reducible repeat (first | refine bkN ?_ _ | refine bkD ?_ | refine bkA ?_ _)); exact BK355.out) hb)
 have n4_ := Z0.mk (bkB (g := gb359) (o := .cells #[.int .i64 t356, .int .i64 t357] 23 (0, 0)) (by (with_reducible repeat (first | refine bkN ?_ _ | refine bkD ?_ | refine bkA ?_ _)); exact BK359.out) hb)
 have n5_ := Z0.mk (bwT (by repeat (first | (with_reducible first | exact HB.out | apply bwA | apply bwN | apply bw1 | refine bwS ?_ GE347.out | refine bwS ?_ GE348.out | refine bwS ?_ GE349.out | refine bwS ?_ GE355.out | refine bwS ?_ GE359.out) | exact HB.out)) hb)
 clear BK347
 clear BK348
 clear BK349
 clear BK355
 clear BK359
 clear HB
 have BK347 := n0_
 have BK348 := n1_
 have BK349 := n2_
 have BK355 := n3_
 have BK359 := n4_
 have HB := n5_
 clear n0_ n1_ n2_ n3_ n4_ n5_
 (try clear hb)
 (try clear hb2)
 (try clear hk)
 (try clear hi)
 refine hK.out _ _ ⟨(bkC BK347.out 0).trans rfl, (bkC BK347.out 1).trans rfl, (bkC BK348.out 0).trans rfl, (bkC BK348.out 1).trans rfl⟩ (fun hHd => ?_)
 clear hK K
 refine norm_ (a' := ?_) ?_ ?_
 rotate_left
 ·show Act.put _ (some 39) _ = _
  simp only [Act.put, List.setIfInBounds_toArray, List.set_cons_zero, List.set_cons_succ, i64_w, i32_w]
  rfl
 refine one_ (i := 3) (N := some 41) #[true, true, true, true, false, false, false] rfl rfl (by kernel_rfl) (by decide) (fun K hK => ?_)
 refine goes_ Tryd.func21 (by kernel_rfl) rfl #[.agg #[.int .i64 a1_0, .int .i64 a1_1]] (by rfl) rfl rfl (by (try simp only [List.map_toArray, List.map_cons, List.map_nil]); first | done | rfl | (simp only [List.length_drop, List.length_take]; rfl)) ?_
 with_reducible refine (cr6_CheckSquare.calls k a1_0 a1_1 t361 _ A8.out).mono ?_
 rintro e w43 ⟨rfl, hb⟩
 refine ⟨_, rfl, ?_⟩
 have n0_ := Z0.mk (bkB (g := gb347) (o := .cells #[.int .i64 a0_0, .int .i64 a0_1] 24 (0, 0)) (by (with_reducible repeat (first | refine bkN ?_ _ | refine bkD ?_ | refine bkA ?_ _)); exact BK347.out) hb)
 have n1_ := Z0.mk (bkB (g := gb348) (o := .cells #[.int .i64 a1_0, .int .i64 a1_1] 24 (0, 0)) (by (with_reducible repeat (first | refine bkN ?_ _ | refine bkD ?_ | refine bkA ?_ _)); exact BK348.out) hb)
 have n2_ := Z0.mk (bkB (g := gb349) (o := .cells #[.int .i64 a2_0, .int .i64 a2_1] 51 (0, 0)) (by (with_reducible repeat (first | refine bkN ?_ _ | refine bkD ?_ | refine bkA ?_ _)); exact BK349.out) hb)
 have n3_ := Z0.mk (bkB (g := gb355) (o := .cells #[.int .i64 t352, .int .i64 t353] 23 (0, 0)) (by (with_reducible repeat (first | refine bkN ?_ _ | refine bkD ?_ | refine bkA ?_ _)); exact BK355.out) hb)
 have n4_ := Z0.mk (bkB (g := gb359) (o := .cells #[.int .i64 t356, .int .i64 t357] 23 (0, 0)) (by (with_reducible repeat (first | refine bkN ?_ _ | refine bkD ?_ | refine bkA ?_ _)); exact BK359.out) hb)
 have n5_ := Z0.mk (bwT (by repeat (first | (with_reducible first | exact HB.out | apply bwA | apply bwN | apply bw1 | refine bwS ?_ GE347.out | refine bwS ?_ GE348.out | refine bwS ?_ GE349.out | refine bwS ?_ GE355.out | refine bwS ?_ GE359.out) | exact HB.out)) hb)
 clear BK347
 clear BK348
 clear BK349
 clear BK355
 clear BK359
 clear HB
 have BK347 := n0_
 have BK348 := n1_
 have BK349 := n2_
 have BK355 := n3_
 have BK359 := n4_
 have HB := n5_
 clear n0_ n1_ n2_ n3_ n4_ n5_
 (try clear hb)
 (try clear hb2)
 (try clear hk)
 (try clear hi)
 refine hK.out _ _ ⟨(bkC BK347.out 0).trans rfl, (bkC BK347.out 1).trans rfl, (bkC BK348.out 0).trans rfl, (bkC BK348.out 1).trans rfl⟩ (fun hHd => ?_)
 clear hK K
 refine norm_ (a' := ?_) ?_ ?_
 rotate_left
 ·show Act.put _ (some 41) _ = _
  simp only [Act.put, List.setIfInBounds_toArray, List.set_cons_zero, List.set_cons_succ, i64_w, i32_w]
  rfl
 refine one_ (i := 4) (N := some 42) #[true, true, true, true, true, false, false] rfl rfl (by kernel_rfl) (by decide) (fun K hK => ?_)
 refine Kd.R_lit_step (Kd.int .i64) _ 3 ?hg (N := 42) ?hd (xs := ([t360, t361] : List Int)) (inner := [.int .i64 t360, .int .i64 t361]) (ok := fun _ => True) (okp := fun _ => True) ?hr ?hp (fun _ hk => hk) trivial (Below.refl _ _) (Nat.le_refl _) (by simp) ?_; (case hd => rfl); (case hg => rfl); (case hr => first | (go_simp; done) | (go_simp; rfl)); (case hp => exact (Reps.one (show Kd.M (Kd.int .i64) _ _ _ t360 [.int .i64 t360] from rfl) (Reps.one (show Kd.M (Kd.int .i64) _ _ _ t361 [.int .i64 t361] from rfl) (Reps.none _ _))))
 intro v363 w44 ho45 hb hg_ hnew_
 clear hg_ hnew_
 (first | rw [← Ny362.out] at ho45 | (simp only [Int.reduceToNat] at ho45; rw [← Ny362.out] at ho45))
 have n0_ := Z0.mk (Kd.R_lower ho45 (bwZ (by repeat (first | (with_reducible first | exact HB.out | apply bwA | apply bwN | apply bw1 | refine bwS ?_ GE347.out | refine bwS ?_ GE348.out | refine bwS ?_ GE349.out | refine bwS ?_ GE355.out | refine bwS ?_ GE359.out) | exact HB.out))))
 have n1_ := Z0.mk (bkB (g := gb347) (o := .cells #[.int .i64 a0_0, .int .i64 a0_1] 24 (0, 0)) (by (with_reducible repeat (first | refine bkN ?_ _ | refine bkD ?_ | refine bkA ?_ _)); exact BK347.out) hb)
 have n2_ := Z0.mk (bkB (g := gb348) (o := .cells #[.int .i64 a1_0, .int .i64 a1_1] 24 (0, 0)) (by (with_reducible repeat (first | refine bkN ?_ _ | refine bkD ?_ | refine bkA ?_ _)); exact BK348.out) hb)
 have n3_ := Z0.mk (bkB (g := gb349) (o := .cells #[.int .i64 a2_0, .int .i64 a2_1] 51 (0, 0)) (by (with_reducible repeat (first | refine bkN ?_ _ | refine bkD ?_ | refine bkA ?_ _)); exact BK349.out) hb)
 have n4_ := Z0.mk (bkB (g := gb355) (o := .cells #[.int .i64 t352, .int .i64 t353] 23 (0, 0)) (by (with_reducible repeat (first | refine bkN ?_ _ | refine bkD ?_ | refine bkA ?_ _)); exact BK355.out) hb)
 have n5_ := Z0.mk (bkB (g := gb359) (o := .cells #[.int .i64 t356, .int .i64 t357] 23 (0, 0)) (by (with_reducible repeat (first | refine bkN ?_ _ | refine bkD ?_ | refine bkA ?_ _)); exact BK359.out) hb)
 have n6_ := Z0.mk (bwT (by repeat (first | (with_reducible first | exact HB.out | apply bwA | apply bwN | apply bw1 | refine bwS ?_ GE347.out | refine bwS ?_ GE348.out | refine bwS ?_ GE349.out | refine bwS ?_ GE355.out | refine bwS ?_ GE359.out) | exact HB.out)) hb)
 clear BK347
 clear BK348
 clear BK349
 clear BK355
 clear BK359
 clear HB
 have HO364 := n0_
 have BK347 := n1_
 have BK348 := n2_
 have BK349 := n3_
 have BK355 := n4_
 have BK359 := n5_
 have HB := n6_
 clear n0_ n1_ n2_ n3_ n4_ n5_ n6_
 clear hb ho45
 obtain ⟨Ao46, co46, eo46⟩ := Kd.R_slice HO364.out
 (first | subst eo46 | (injection eo46 with f1_ f2_ f3_; have f4_ := f1_.symm; have f5_ := f3_.symm; clear f1_ f2_ f3_; subst f4_; subst f5_))
 refine hK.out _ _ ⟨(bkC BK347.out 0).trans rfl, (bkC BK347.out 1).trans rfl, (bkC BK348.out 0).trans rfl, (bkC BK348.out 1).trans rfl⟩ (fun hHd => ?_)
 clear hK K
 refine norm_ (a' := ?_) ?_ ?_
 rotate_left
 ·show Act.put _ (some 42) _ = _
  simp only [Act.put, List.setIfInBounds_toArray, List.set_cons_zero, List.set_cons_succ, i64_w, i32_w]
  rfl
 refine one_ (i := 5) (N := some 43) #[true, true, true, true, true, true, false] rfl rfl (by kernel_rfl) (by decide) (fun K hK => ?_)
 refine goes_ Tryd.func26 (by kernel_rfl) rfl #[.slice Ao46 y362.length co46] (by rfl) rfl rfl (by (try simp only [List.map_toArray, List.map_cons, List.map_nil]); first | done | rfl | (simp only [List.length_drop, List.length_take]; rfl)) ?_
 with_reducible refine (cr1_First.calls k _ _ y362 t365 _ ?side1 ?side2 A9.out).mono ?_
 (case side1 => repeat (first | exact (Kd.R_reads' HO364.out).2.2 | (with_reducible refine Kd.C_alloc ?_ _) | (with_reducible refine Kd.C_drewN ?_ _) | (with_reducible refine Kd.C_drew ?_)))
 (case side2 => exact (Kd.R_reads' HO364.out).2.1)
 rintro e w' ⟨rfl, ⟨nd, rfl⟩⟩
 refine ⟨_, rfl, ?_⟩
 refine hK.out _ _ ⟨(bkC BK347.out 0).trans rfl, (bkC BK347.out 1).trans rfl, (bkC BK348.out 0).trans rfl, (bkC BK348.out 1).trans rfl⟩ (fun hHd => ?_)
 clear hK K
 refine norm_ (a' := ?_) ?_ ?_
 rotate_left
 ·show Act.put _ (some 43) _ = _
  simp only [Act.put, List.setIfInBounds_toArray, List.set_cons_zero, List.set_cons_succ, i64_w, i32_w]
  rfl
 refine pure_ (i := 6) (N := some 13) (v := ?_) (a' := ?_) #[true, true, true, true, true, true, true] rfl rfl (by kernel_rfl) (fun _ _ _ h => h) (Or.inl ⟨by rfl, ?_⟩) ?_ ?_
 rotate_left
 ·intro w'
  go_simp
  with_reducible rfl
 rotate_left
 ·simp only [Act.put, List.setIfInBounds_toArray, List.set_cons_zero, List.set_cons_succ, i64_w, i32_w]
  rfl
 refine done_ (by kernel_rfl) ?_
 try go_wp2
 (try (rw [drewN_self w44]; generalize hq_ : World.drewN w44 _ = w44; have n0_ : Z0 (Kd.R (Kd.int .i64) 3 w44 w.heap.size (fun _ => True) (.slice Ao46 y362.length co46) y362) := ⟨by rw [← hq_]; exact (by (with_reducible repeat (first | apply Kd.R_alloc | apply Kd.R_drewN | apply Kd.R_drew)); exact HO364.out)⟩; have n1_ : Z0 (w44.heap[gb347]? = some (.cells #[.int .i64 a0_0, .int .i64 a0_1] 24 (0, 0))) := ⟨by rw [← hq_]; exact (by (with_reducible repeat (first | refine bkN ?_ _ | refine bkD ?_ | refine bkA ?_ _)); exact BK347.out)⟩; have n2_ : Z0 (w44.heap[gb348]? = some (.cells #[.int .i64 a1_0, .int .i64 a1_1] 24 (0, 0))) := ⟨by rw [← hq_]; exact (by (with_reducible repeat (first | refine bkN ?_ _ | refine bkD ?_ | refine bkA ?_ _)); exact BK348.out)⟩; have n3_ : Z0 (w44.heap[gb349]? = some (.cells #[.int .i64 a2_0, .int .i64 a2_1] 51 (0, 0))) := ⟨by rw [← hq_]; exact (by (with_reducible repeat (first | refine bkN ?_ _ | refine bkD ?_ | refine bkA ?_ _)); exact BK349.out)⟩; have n4_ : Z0 (w44.heap[gb355]? = some (.cells #[.int .i64 t352, .int .i64 t353] 23 (0, 0))) := ⟨by rw [← hq_]; exact (by (with_reducible repeat (first | refine bkN ?_ _ | refine bkD ?_ | refine bkA ?_ _)); exact BK355.out)⟩; have n5_ : Z0 (w44.heap[gb359]? = some (.cells #[.int .i64 t356, .int .i64 t357] 23 (0, 0))) := ⟨by rw [← hq_]; exact (by (with_reducible repeat (first | refine bkN ?_ _ | refine bkD ?_ | refine bkA ?_ _)); exact BK359.out)⟩; have n6_ : Z0 (Below w.heap.size w w44) := ⟨by rw [← hq_]; exact (by repeat (first | (with_reducible first | exact HB.out | apply bwA | apply bwN | apply bw1 | refine bwS ?_ GE347.out | refine bwS ?_ GE348.out | refine bwS ?_ GE349.out | refine bwS ?_ GE355.out | refine bwS ?_ GE359.out) | exact HB.out))⟩; clear HO364 BK347 BK348 BK349 BK355 BK359 HB hq_; have HO364 := n0_; have BK347 := n1_; have BK348 := n2_; have BK349 := n3_; have BK355 := n4_; have BK359 := n5_; have HB := n6_; clear n0_ n1_ n2_ n3_ n4_ n5_ n6_))
 have n0_ := Z0.mk (Kd.R_drew HO364.out)
 have n1_ := Z0.mk (bkD BK347.out)
 have n2_ := Z0.mk (bkD BK348.out)
 have n3_ := Z0.mk (bkD BK349.out)
 have n4_ := Z0.mk (bkD BK355.out)
 have n5_ := Z0.mk (bkD BK359.out)
 have n6_ := Z0.mk (bw1 HB.out)
 clear HO364
 clear BK347
 clear BK348
 clear BK349
 clear BK355
 clear BK359
 clear HB
 have HO364 := n0_
 have BK347 := n1_
 have BK348 := n2_
 have BK349 := n3_
 have BK355 := n4_
 have BK359 := n5_
 have HB := n6_
 clear n0_ n1_ n2_ n3_ n4_ n5_ n6_
 refine start_ (n := 8) (S := fun w' => w'.cell? ⟨gb347, 0, none⟩ = some (.int .i64 a0_0) ∧ w'.cell? ⟨gb347, 1, none⟩ = some (.int .i64 a0_1) ∧ w'.cell? ⟨gb349, 0, none⟩ = some (.int .i64 a2_0) ∧ w'.cell? ⟨gb349, 1, none⟩ = some (.int .i64 a2_1)) (ds := []) #[false, false, false, false, false, false, false, false] (by kernel_rfl) rfl rfl ⟨(bkC BK347.out 0).trans rfl, (bkC BK347.out 1).trans rfl, (bkC BK349.out 0).trans rfl, (bkC BK349.out 1).trans rfl⟩ (fun hHd => ?_); refine with_tabW cl6_HangRoots.tab5 cl6_HangRoots.bits5 (fun HT_ HW_ => ?_)
 generalize w44.drew = w47 at HO364 BK347 BK348 BK349 BK355 BK359 HB hHd ⊢
 refine pure_ (i := 2) (N := some 46) (v := ?_) (a' := ?_) #[false, false, true, false, false, false, false, false] rfl rfl (any_of HT_.out (by kernel_rfl)) (fun _ _ _ h => h) (Or.inl ⟨by rfl, ?_⟩) ?_ ?_
 rotate_left
 ·intro w'
  go_simp
  with_reducible rfl
 rotate_left
 ·simp only [Act.put, List.setIfInBounds_toArray, List.set_cons_zero, List.set_cons_succ, i64_w, i32_w]
  rfl
 refine take_ (i := 0) (N := some 44) (v := ?_) (a' := ?_) #[true, false, true, false, false, false, false, false] rfl rfl (take_ofW HT_.out HW_.out (by kernel_rfl)) (fun _ _ _ h => h) (Or.inl ⟨by rfl, ?_⟩) hHd ?_ ?_
 rotate_left
 ·rintro w' ⟨s0, s1, s2, s3⟩
  go_simp
  with_reducible rfl
 rotate_left
 ·simp only [Act.put, List.setIfInBounds_toArray, List.set_cons_zero, List.set_cons_succ, i64_w, i32_w]
  rfl
 refine take_ (i := 3) (N := some 47) (v := ?_) (a' := ?_) #[true, false, true, true, false, false, false, false] rfl rfl (take_ofW HT_.out HW_.out (by kernel_rfl)) (fun _ _ _ h => h) (Or.inl ⟨by rfl, ?_⟩) hHd ?_ ?_
 rotate_left
 ·rintro w' ⟨s0, s1, s2, s3⟩
  go_simp
  with_reducible rfl
 rotate_left
 ·simp only [Act.put, List.setIfInBounds_toArray, List.set_cons_zero, List.set_cons_succ, i64_w, i32_w]
  rfl
 refine one_ (i := 1) (N := some 45) #[true, true, true, true, false, false, false, false] rfl rfl (one_of HT_.out (by kernel_rfl)) (by decide) (fun K hK => ?_)
 refine goes_ Tryd.func21 (by kernel_rfl) rfl #[.agg #[.int .i64 a0_0, .int .i64 a0_1]] (by rfl) rfl rfl (by (try simp only [List.map_toArray, List.map_cons, List.map_nil]); first | done | rfl | (simp only [List.length_drop, List.length_take]; rfl)) ?_
 with_reducible refine (cr6_CheckSquare.calls k a0_0 a0_1 t366 _ A10.out).mono ?_
 rintro e w48 ⟨rfl, hb⟩
 refine ⟨_, rfl, ?_⟩
 have n0_ := Z0.mk (Kd.R_below (by (with_reducible repeat (first | apply Kd.R_alloc | apply Kd.R_drewN | apply Kd.R_drew)); exact HO364.out) hb)
 have n1_ := Z0.mk (bkB (g := gb347) (o := .cells #[.int .i64 a0_0, .int .i64 a0_1] 24 (0, 0)) (by (with_reducible repeat (first | refine bkN ?_ _ | refine bkD ?_ | refine bkA ?_ _)); exact BK347.out) hb)
 have n2_ := Z0.mk (bkB (g := gb348) (o := .cells #[.int .i64 a1_0, .int .i64 a1_1] 24 (0, 0)) (by (with_reducible repeat (first | refine bkN ?_ _ | refine bkD ?_ | refine bkA ?_ _)); exact BK348.out) hb)
 have n3_ := Z0.mk (bkB (g := gb349) (o := .cells #[.int .i64 a2_0, .int .i64 a2_1] 51 (0, 0)) (by (with_reducible repeat (first | refine bkN ?_ _ | refine bkD ?_ | refine bkA ?_ _)); exact BK349.out) hb)
 have n4_ := Z0.mk (bkB (g := gb355) (o := .cells #[.int .i64 t352, .int .i64 t353] 23 (0, 0)) (by (with_reducible repeat (first | refine bkN ?_ _ | refine bkD ?_ | refine bkA ?_ _)); exact BK355.out) hb)
 have n5_ := Z0.mk (bkB (g := gb359) (o := .cells #[.int .i64 t356, .int .i64 t357] 23 (0, 0)) (by (with_reducible repeat (first | refine bkN ?_ _ | refine bkD ?_ | refine bkA ?_ _)); exact BK359.out) hb)
 have n6_ := Z0.mk (bwT (by repeat (first | (with_reducible first | exact HB.out | apply bwA | apply bwN | apply bw1 | refine bwS ?_ GE347.out | refine bwS ?_ GE348.out | refine bwS ?_ GE349.out | refine bwS ?_ GE355.out | refine bwS ?_ GE359.out) | exact HB.out)) hb)
 clear HO364
 clear BK347
 clear BK348
 clear BK349
 clear BK355
 clear BK359
 clear HB
 have HO364 := n0_
 have BK347 := n1_
 have BK348 := n2_
 have BK349 := n3_
 have BK355 := n4_
 have BK359 := n5_
 have HB := n6_
 clear n0_ n1_ n2_ n3_ n4_ n5_ n6_
 (try clear hb)
 (try clear hb2)
 (try clear hk)
 (try clear hi)
 refine hK.out _ _ ⟨(bkC BK347.out 0).trans rfl, (bkC BK347.out 1).trans rfl, (bkC BK349.out 0).trans rfl, (bkC BK349.out 1).trans rfl⟩ (fun hHd => ?_)
 clear hK K
 refine norm_ (a' := ?_) ?_ ?_
 rotate_left
 ·show Act.put _ (some 45) _ = _
  simp only [Act.put, List.setIfInBounds_toArray, List.set_cons_zero, List.set_cons_succ, i64_w, i32_w]
  rfl
 refine one_ (i := 4) (N := some 48) #[true, true, true, true, true, false, false, false] rfl rfl (one_of HT_.out (by kernel_rfl)) (by decide) (fun K hK => ?_)
 refine goes_ Tryd.func27 (by kernel_rfl) rfl #[.int .i64 a2_0, .int .i64 0, .int .i64 2] (by rfl) rfl rfl (by (try simp only [List.map_toArray, List.map_cons, List.map_nil]); first | done | rfl | (simp only [List.length_drop, List.length_take]; rfl)) ?_
 with_reducible refine (cr1_CheckRange.calls a2_0 0 2 t367 _ A11.out).mono ?_
 rintro e w' ⟨rfl, ⟨nd, rfl⟩⟩
 refine ⟨_, rfl, ?_⟩
 refine hK.out _ _ ⟨(bkC BK347.out 0).trans rfl, (bkC BK347.out 1).trans rfl, (bkC BK349.out 0).trans rfl, (bkC BK349.out 1).trans rfl⟩ (fun hHd => ?_)
 clear hK K
 refine norm_ (a' := ?_) ?_ ?_
 rotate_left
 ·show Act.put _ (some 48) _ = _
  simp only [Act.put, List.setIfInBounds_toArray, List.set_cons_zero, List.set_cons_succ, i64_w, i32_w]
  rfl
 refine one_ (i := 5) (N := some 49) #[true, true, true, true, true, true, false, false] rfl rfl (one_of HT_.out (by kernel_rfl)) (by decide) (fun K hK => ?_)
 refine Kd.R_lit_step (Kd.int .i64) _ 3 ?hg (N := 49) ?hd (xs := ([t366, t367] : List Int)) (inner := [.int .i64 t366, .int .i64 t367]) (ok := fun _ => True) (okp := fun _ => True) ?hr ?hp (fun _ hk => hk) trivial (Below.refl _ _) (Nat.le_refl _) (by simp) ?_; (case hd => rfl); (case hg => rfl); (case hr => first | (go_simp; done) | (go_simp; rfl)); (case hp => exact (Reps.one (show Kd.M (Kd.int .i64) _ _ _ t366 [.int .i64 t366] from rfl) (Reps.one (show Kd.M (Kd.int .i64) _ _ _ t367 [.int .i64 t367] from rfl) (Reps.none _ _))))
 intro v369 w49 ho50 hb hg_ hnew_
 clear hg_ hnew_
 (first | rw [← Ny368.out] at ho50 | (simp only [Int.reduceToNat] at ho50; rw [← Ny368.out] at ho50))
 have n0_ := Z0.mk (Kd.R_elder' (by (with_reducible repeat (first | apply Kd.R_alloc | apply Kd.R_drewN | apply Kd.R_drew)); exact HO364.out) (Kd.R_base ho50) hb)
 have n1_ := Z0.mk (Kd.R_lower (Kd.R_new' ho50 (Kd.R_lt (by (with_reducible repeat (first | apply Kd.R_alloc | apply Kd.R_drewN | apply Kd.R_drew)); exact HO364.out))) (bwZ (by repeat (first | (with_reducible first | exact HB.out | apply bwA | apply bwN | apply bw1 | refine bwS ?_ GE347.out | refine bwS ?_ GE348.out | refine bwS ?_ GE349.out | refine bwS ?_ GE355.out | refine bwS ?_ GE359.out) | exact HB.out))))
 have n2_ := Z0.mk (bkB (g := gb347) (o := .cells #[.int .i64 a0_0, .int .i64 a0_1] 24 (0, 0)) (by (with_reducible repeat (first | refine bkN ?_ _ | refine bkD ?_ | refine bkA ?_ _)); exact BK347.out) hb)
 have n3_ := Z0.mk (bkB (g := gb348) (o := .cells #[.int .i64 a1_0, .int .i64 a1_1] 24 (0, 0)) (by (with_reducible repeat (first | refine bkN ?_ _ | refine bkD ?_ | refine bkA ?_ _)); exact BK348.out) hb)
 have n4_ := Z0.mk (bkB (g := gb349) (o := .cells #[.int .i64 a2_0, .int .i64 a2_1] 51 (0, 0)) (by (with_reducible repeat (first | refine bkN ?_ _ | refine bkD ?_ | refine bkA ?_ _)); exact BK349.out) hb)
 have n5_ := Z0.mk (bkB (g := gb355) (o := .cells #[.int .i64 t352, .int .i64 t353] 23 (0, 0)) (by (with_reducible repeat (first | refine bkN ?_ _ | refine bkD ?_ | refine bkA ?_ _)); exact BK355.out) hb)
 have n6_ := Z0.mk (bkB (g := gb359) (o := .cells #[.int .i64 t356, .int .i64 t357] 23 (0, 0)) (by (with_reducible repeat (first | refine bkN ?_ _ | refine bkD ?_ | refine bkA ?_ _)); exact BK359.out) hb)
 have n7_ := Z0.mk (bwT (by repeat (first | (with_reducible first | exact HB.out | apply bwA | apply bwN | apply bw1 | refine bwS ?_ GE347.out | refine bwS ?_ GE348.out | refine bwS ?_ GE349.out | refine bwS ?_ GE355.out | refine bwS ?_ GE359.out) | exact HB.out)) hb)
 clear HO364
 clear BK347
 clear BK348
 clear BK349
 clear BK355
 clear BK359
 clear HB
 have HO364 := n0_
 have HO370 := n1_
 have BK347 := n2_
 have BK348 := n3_
 have BK349 := n4_
 have BK355 := n5_
 have BK359 := n6_
 have HB := n7_
 clear n0_ n1_ n2_ n3_ n4_ n5_ n6_ n7_
 clear hb ho50
 obtain ⟨Ao51, co51, eo51⟩ := Kd.R_slice HO370.out
 (first | subst eo51 | (injection eo51 with f1_ f2_ f3_; have f4_ := f1_.symm; have f5_ := f3_.symm; clear f1_ f2_ f3_; subst f4_; subst f5_))
 refine hK.out _ _ ⟨(bkC BK347.out 0).trans rfl, (bkC BK347.out 1).trans rfl, (bkC BK349.out 0).trans rfl, (bkC BK349.out 1).trans rfl⟩ (fun hHd => ?_)
 clear hK K
 refine norm_ (a' := ?_) ?_ ?_
 rotate_left
 ·show Act.put _ (some 49) _ = _
  simp only [Act.put, List.setIfInBounds_toArray, List.set_cons_zero, List.set_cons_succ, i64_w, i32_w]
  rfl
 refine one_ (i := 6) (N := some 50) #[true, true, true, true, true, true, true, false] rfl rfl (one_of HT_.out (by kernel_rfl)) (by decide) (fun K hK => ?_)
 refine goes_ Tryd.func26 (by kernel_rfl) rfl #[.slice Ao51 y368.length co51] (by rfl) rfl rfl (by (try simp only [List.map_toArray, List.map_cons, List.map_nil]); first | done | rfl | (simp only [List.length_drop, List.length_take]; rfl)) ?_
 with_reducible refine (cr1_First.calls k _ _ y368 t371 _ ?side1 ?side2 A12.out).mono ?_
 (case side1 => repeat (first | exact (Kd.R_reads' HO370.out).2.2 | (with_reducible refine Kd.C_alloc ?_ _) | (with_reducible refine Kd.C_drewN ?_ _) | (with_reducible refine Kd.C_drew ?_)))
 (case side2 => exact (Kd.R_reads' HO370.out).2.1)
 rintro e w' ⟨rfl, ⟨nd, rfl⟩⟩
 refine ⟨_, rfl, ?_⟩
 refine hK.out _ _ ⟨(bkC BK347.out 0).trans rfl, (bkC BK347.out 1).trans rfl, (bkC BK349.out 0).trans rfl, (bkC BK349.out 1).trans rfl⟩ (fun hHd => ?_)
 clear hK K
 refine norm_ (a' := ?_) ?_ ?_
 rotate_left
 ·show Act.put _ (some 50) _ = _
  simp only [Act.put, List.setIfInBounds_toArray, List.set_cons_zero, List.set_cons_succ, i64_w, i32_w]
  rfl
 refine pure_ (i := 7) (N := some 14) (v := ?_) (a' := ?_) #[true, true, true, true, true, true, true, true] rfl rfl (any_of HT_.out (by kernel_rfl)) (fun _ _ _ h => h) (Or.inl ⟨by rfl, ?_⟩) ?_ ?_
 rotate_left
 ·intro w'
  go_simp
  with_reducible rfl
 rotate_left
 ·simp only [Act.put, List.setIfInBounds_toArray, List.set_cons_zero, List.set_cons_succ, i64_w, i32_w]
  rfl
 refine done_ (done_of HT_.out (by kernel_rfl)) ?_
 have hcz52_0 : w49.cell? ⟨gb349, 0, none⟩ = some (.int .i64 a2_0) := (bkC BK349.out 0).trans rfl
 have hcz52_1 : w49.cell? ⟨gb349, 1, none⟩ = some (.int .i64 a2_1) := (bkC BK349.out 1).trans rfl
 have hfz52_0 := bkZ BK349.out 0
 have hfz52_1 := bkZ BK349.out 1
 go_upto_if 55 with (first | ((with_reducible refine gtC (f := 27) rfl ?_); refine goesL_ (some 53) rfl rfl Tryd.func27 (by kernel_rfl) rfl #[.int .i64 a2_1, .int .i64 1, .int .i64 30] rfl (by (try simp only [List.map_toArray, List.map_cons, List.map_nil]); first | done | rfl | (simp only [List.length_drop, List.length_take]; rfl)) ?_; (with_reducible refine (cr1_CheckRange.calls a2_1 1 30 t372 _ A13.out).mono ?_); rintro e w' ⟨rfl, ⟨nd, rfl⟩⟩; refine ⟨_, rfl, ?_⟩) | ((with_reducible refine gtD (N := 17) rfl ?_); refine bxE ?hg (N := 17) ?hd (cs := #[.int .i64 0, .int .i64 0]) (t := 23) ?hr ?_; (case hd => rfl); (case hg => rfl); (case hr => first | (go_simp; done) | (go_simp; rfl)); intro gb373 hg w53 hbox hb; have n0_ := Z0.mk (Kd.R_below (by (with_reducible repeat (first | apply Kd.R_alloc | apply Kd.R_drewN | apply Kd.R_drew)); exact HO364.out) hb); have n1_ := Z0.mk (Kd.R_below (by (with_reducible repeat (first | apply Kd.R_alloc | apply Kd.R_drewN | apply Kd.R_drew)); exact HO370.out) hb); have n2_ := Z0.mk (bkB (g := gb347) (o := .cells #[.int .i64 a0_0, .int .i64 a0_1] 24 (0, 0)) (by (with_reducible repeat (first | refine bkN ?_ _ | refine bkD ?_ | refine bkA ?_ _)); exact BK347.out) hb); have n3_ := Z0.mk (bkB (g := gb348) (o := .cells #[.int .i64 a1_0, .int .i64 a1_1] 24 (0, 0)) (by (with_reducible repeat (first | refine bkN ?_ _ | refine bkD ?_ | refine bkA ?_ _)); exact BK348.out) hb); have n4_ := Z0.mk (bkB (g := gb349) (o := .cells #[.int .i64 a2_0, .int .i64 a2_1] 51 (0, 0)) (by (with_reducible repeat (first | refine bkN ?_ _ | refine bkD ?_ | refine bkA ?_ _)); exact BK349.out) hb); have n5_ := Z0.mk (bkB (g := gb355) (o := .cells #[.int .i64 t352, .int .i64 t353] 23 (0, 0)) (by (with_reducible repeat (first | refine bkN ?_ _ | refine bkD ?_ | refine bkA ?_ _)); exact BK355.out) hb); have n6_ := Z0.mk (bkB (g := gb359) (o := .cells #[.int .i64 t356, .int .i64 t357] 23 (0, 0)) (by (with_reducible repeat (first | refine bkN ?_ _ | refine bkD ?_ | refine bkA ?_ _)); exact BK359.out) hb); have n7_ := Z0.mk (bwT (by repeat (first | (with_reducible first | exact HB.out | apply bwA | apply bwN | apply bw1 | refine bwS ?_ GE347.out | refine bwS ?_ GE348.out | refine bwS ?_ GE349.out | refine bwS ?_ GE355.out | refine bwS ?_ GE359.out) | exact HB.out)) hb); have n8_ := Z0.mk (hbox); have n9_ := Z0.mk ((by rw [hg]; exact (bwZ (by repeat (first | (with_reducible first | exact HB.out | apply bwA | apply bwN | apply bw1 | refine bwS ?_ GE347.out | refine bwS ?_ GE348.out | refine bwS ?_ GE349.out | refine bwS ?_ GE355.out | refine bwS ?_ GE359.out) | exact HB.out))) : w.heap.size ≤ gb373)); have n10_ := Z0.mk ((by rw [hg]; exact (bwZ (by repeat (first | (with_reducible first | exact HB.out | apply bwA | apply bwN | apply bw1 | refine bwS ?_ GE347.out | refine bwS ?_ GE348.out | refine bwS ?_ GE349.out | refine bwS ?_ GE355.out | refine bwS ?_ GE359.out) | exact HB.out))) : w.heap.size ≤ gb373)); have n11_ := Z0.mk ((by rw [hg]; exact Nat.ne_of_lt (blk_lt (g := gb347) (o := .cells #[.int .i64 a0_0, .int .i64 a0_1] 24 (0, 0)) (by (with_reducible repeat (first | refine bkN ?_ _ | refine bkD ?_ | refine bkA ?_ _)); exact BK347.out)) : gb347 ≠ gb373)); have n12_ := Z0.mk ((by rw [hg]; exact Nat.ne_of_gt (blk_lt (g := gb347) (o := .cells #[.int .i64 a0_0, .int .i64 a0_1] 24 (0, 0)) (by (with_reducible repeat (first | refine bkN ?_ _ | refine bkD ?_ | refine bkA ?_ _)); exact BK347.out)) : gb373 ≠ gb347)); have n13_ := Z0.mk ((by rw [hg]; exact Nat.ne_of_lt (blk_lt (g := gb348) (o := .cells #[.int .i64 a1_0, .int .i64 a1_1] 24 (0, 0)) (by (with_reducible repeat (first | refine bkN ?_ _ | refine bkD ?_ | refine bkA ?_ _)); exact BK348.out)) : gb348 ≠ gb373)); have n14_ := Z0.mk ((by rw [hg]; exact Nat.ne_of_gt (blk_lt (g := gb348) (o := .cells #[.int .i64 a1_0, .int .i64 a1_1] 24 (0, 0)) (by (with_reducible repeat (first | refine bkN ?_ _ | refine bkD ?_ | refine bkA ?_ _)); exact BK348.out)) : gb373 ≠ gb348)); have n15_ := Z0.mk ((by rw [hg]; exact Nat.ne_of_lt (blk_lt (g := gb349) (o := .cells #[.int .i64 a2_0, .int .i64 a2_1] 51 (0, 0)) (by (with_reducible repeat (first | refine bkN ?_ _ | refine bkD ?_ | refine bkA ?_ _)); exact BK349.out)) : gb349 ≠ gb373)); have n16_ := Z0.mk ((by rw [hg]; exact Nat.ne_of_gt (blk_lt (g := gb349) (o := .cells #[.int .i64 a2_0, .int .i64 a2_1] 51 (0, 0)) (by (with_reducible repeat (first | refine bkN ?_ _ | refine bkD ?_ | refine bkA ?_ _)); exact BK349.out)) : gb373 ≠ gb349)); have n17_ := Z0.mk ((by rw [hg]; exact Nat.ne_of_lt (blk_lt (g := gb355) (o := .cells #[.int .i64 t352, .int .i64 t353] 23 (0, 0)) (by (with_reducible repeat (first | refine bkN ?_ _ | refine bkD ?_ | refine bkA ?_ _)); exact BK355.out)) : gb355 ≠ gb373)); have n18_ := Z0.mk ((by rw [hg]; exact Nat.ne_of_gt (blk_lt (g := gb355) (o := .cells #[.int .i64 t352, .int .i64 t353] 23 (0, 0)) (by (with_reducible repeat (first | refine bkN ?_ _ | refine bkD ?_ | refine bkA ?_ _)); exact BK355.out)) : gb373 ≠ gb355)); have n19_ := Z0.mk ((by rw [hg]; exact Nat.ne_of_lt (blk_lt (g := gb359) (o := .cells #[.int .i64 t356, .int .i64 t357] 23 (0, 0)) (by (with_reducible repeat (first | refine bkN ?_ _ | refine bkD ?_ | refine bkA ?_ _)); exact BK359.out)) : gb359 ≠ gb373)); have n20_ := Z0.mk ((by rw [hg]; exact Nat.ne_of_gt (blk_lt (g := gb359) (o := .cells #[.int .i64 t356, .int .i64 t357] 23 (0, 0)) (by (with_reducible repeat (first | refine bkN ?_ _ | refine bkD ?_ | refine bkA ?_ _)); exact BK359.out)) : gb373 ≠ gb359)); clear HO364; clear HO370; clear BK347; clear BK348; clear BK349; clear BK355; clear BK359; clear HB; have HO364 := n0_; have HO370 := n1_; have BK347 := n2_; have BK348 := n3_; have BK349 := n4_; have BK355 := n5_; have BK359 := n6_; have HB := n7_; have BK373 := n8_; have GW373 := n9_; have GE373 := n10_; have NB347_373 := n11_; have NB373_347 := n12_; have NB348_373 := n13_; have NB373_348 := n14_; have NB349_373 := n15_; have NB373_349 := n16_; have NB355_373 := n17_; have NB373_355 := n18_; have NB359_373 := n19_; have NB373_359 := n20_; clear n0_ n1_ n2_ n3_ n4_ n5_ n6_ n7_ n8_ n9_ n10_ n11_ n12_ n13_ n14_ n15_ n16_ n17_ n18_ n19_ n20_; clear hb hbox hg) | ((with_reducible refine gtD (N := 18) rfl ?_); refine bxE ?hg (N := 18) ?hd (cs := #[.int .i64 0, .int .i64 0]) (t := 23) ?hr ?_; (case hd => rfl); (case hg => rfl); (case hr => first | (go_simp; done) | (go_simp; rfl)); intro gb374 hg w54 hbox hb; have n0_ := Z0.mk (Kd.R_below (by (with_reducible repeat (first | apply Kd.R_alloc | apply Kd.R_drewN | apply Kd.R_drew)); exact HO364.out) hb); have n1_ := Z0.mk (Kd.R_below (by (with_reducible repeat (first | apply Kd.R_alloc | apply Kd.R_drewN | apply Kd.R_drew)); exact HO370.out) hb); have n2_ := Z0.mk (bkB (g := gb347) (o := .cells #[.int .i64 a0_0, .int .i64 a0_1] 24 (0, 0)) (by (with_reducible repeat (first | refine bkN ?_ _ | refine bkD ?_ | refine bkA ?_ _)); exact BK347.out) hb); have n3_ := Z0.mk (bkB (g := gb348) (o := .cells #[.int .i64 a1_0, .int .i64 a1_1] 24 (0, 0)) (by (with_reducible repeat (first | refine bkN ?_ _ | refine bkD ?_ | refine bkA ?_ _)); exact BK348.out) hb); have n4_ := Z0.mk (bkB (g := gb349) (o := .cells #[.int .i64 a2_0, .int .i64 a2_1] 51 (0, 0)) (by (with_reducible repeat (first | refine bkN ?_ _ | refine bkD ?_ | refine bkA ?_ _)); exact BK349.out) hb); have n5_ := Z0.mk (bkB (g := gb355) (o := .cells #[.int .i64 t352, .int .i64 t353] 23 (0, 0)) (by (with_reducible repeat (first | refine bkN ?_ _ | refine bkD ?_ | refine bkA ?_ _)); exact BK355.out) hb); have n6_ := Z0.mk (bkB (g := gb359) (o := .cells #[.int .i64 t356, .int .i64 t357] 23 (0, 0)) (by (with_reducible repeat (first | refine bkN ?_ _ | refine bkD ?_ | refine bkA ?_ _)); exact BK359.out) hb); have n7_ := Z0.mk (bkB (g := gb373) (o := .cells #[.int .i64 0, .int .i64 0] 23 (0, 0)) (by (with_reducible repeat (first | refine bkN ?_ _ | refine bkD ?_ | refine bkA ?_ _)); exact BK373.out) hb); have n8_ := Z0.mk (bwT (by repeat (first | (with_reducible first | exact HB.out | apply bwA | apply bwN | apply bw1 | refine bwS ?_ GE347.out | refine bwS ?_ GE348.out | refine bwS ?_ GE349.out | refine bwS ?_ GE355.out | refine bwS ?_ GE359.out | refine bwS ?_ GE373.out) | exact HB.out)) hb); have n9_ := Z0.mk (hbox); have n10_ := Z0.mk ((by rw [hg]; exact (bwZ (by repeat (first | (with_reducible first | exact HB.out | apply bwA | apply bwN | apply bw1 | refine bwS ?_ GE347.out | refine bwS ?_ GE348.out | refine bwS ?_ GE349.out | refine bwS ?_ GE355.out | refine bwS ?_ GE359.out | refine bwS ?_ GE373.out) | exact HB.out))) : w.heap.size ≤ gb374)); have n11_ := Z0.mk ((by rw [hg]; exact (bwZ (by repeat (first | (with_reducible first | exact HB.out | apply bwA | apply bwN | apply bw1 | refine bwS ?_ GE347.out | refine bwS ?_ GE348.out | refine bwS ?_ GE349.out | refine bwS ?_ GE355.out | refine bwS ?_ GE359.out | refine bwS ?_ GE373.out) | exact HB.out))) : w.heap.size ≤ gb374)); have n12_ := Z0.mk ((by rw [hg]; exact Nat.ne_of_lt (blk_lt (g := gb347) (o := .cells #[.int .i64 a0_0, .int .i64 a0_1] 24 (0, 0)) (by (with_reducible repeat (first | refine bkN ?_ _ | refine bkD ?_ | refine bkA ?_ _)); exact BK347.out)) : gb347 ≠ gb374)); have n13_ := Z0.mk ((by rw [hg]; exact Nat.ne_of_gt (blk_lt (g := gb347) (o := .cells #[.int .i64 a0_0, .int .i64 a0_1] 24 (0, 0)) (by (with_reducible repeat (first | refine bkN ?_ _ | refine bkD ?_ | refine bkA ?_ _)); exact BK347.out)) : gb374 ≠ gb347)); have n14_ := Z0.mk ((by rw [hg]; exact Nat.ne_of_lt (blk_lt (g := gb348) (o := .cells #[.int .i64 a1_0, .int .i64 a1_1] 24 (0, 0)) (by (with_reducible repeat (first | refine bkN ?_ _ | refine bkD ?_ | refine bkA ?_ _)); exact BK348.out)) : gb348 ≠ gb374)); have n15_ := Z0.mk ((by rw [hg]; exact Nat.ne_of_gt (blk_lt (g := gb348) (o := .cells #[.int .i64 a1_0, .int .i64 a1_1] 24 (0, 0)) (by (with_reducible repeat (first | refine bkN ?_ _ | refine bkD ?_ | refine bkA ?_ _)); exact BK348.out)) : gb374 ≠ gb348)); have n16_ := Z0.mk ((by rw [hg]; exact Nat.ne_of_lt (blk_lt (g := gb349) (o := .cells #[.int .i64 a2_0, .int .i64 a2_1] 51 (0, 0)) (by (with_reducible repeat (first | refine bkN ?_ _ | refine bkD ?_ | refine bkA ?_ _)); exact BK349.out)) : gb349 ≠ gb374)); have n17_ := Z0.mk ((by rw [hg]; exact Nat.ne_of_gt (blk_lt (g := gb349) (o := .cells #[.int .i64 a2_0, .int .i64 a2_1] 51 (0, 0)) (by (with_reducible repeat (first | refine bkN ?_ _ | refine bkD ?_ | refine bkA ?_ _)); exact BK349.out)) : gb374 ≠ gb349)); have n18_ := Z0.mk ((by rw [hg]; exact Nat.ne_of_lt (blk_lt (g := gb355) (o := .cells #[.int .i64 t352, .int .i64 t353] 23 (0, 0)) (by (with_reducible repeat (first | refine bkN ?_ _ | refine bkD ?_ | refine bkA ?_ _)); exact BK355.out)) : gb355 ≠ gb374)); have n19_ := Z0.mk ((by rw [hg]; exact Nat.ne_of_gt (blk_lt (g := gb355) (o := .cells #[.int .i64 t352, .int .i64 t353] 23 (0, 0)) (by (with_reducible repeat (first | refine bkN ?_ _ | refine bkD ?_ | refine bkA ?_ _)); exact BK355.out)) : gb374 ≠ gb355)); have n20_ := Z0.mk ((by rw [hg]; exact Nat.ne_of_lt (blk_lt (g := gb359) (o := .cells #[.int .i64 t356, .int .i64 t357] 23 (0, 0)) (by (with_reducible repeat (first | refine bkN ?_ _ | refine bkD ?_ | refine bkA ?_ _)); exact BK359.out)) : gb359 ≠ gb374)); have n21_ := Z0.mk ((by rw [hg]; exact Nat.ne_of_gt (blk_lt (g := gb359) (o := .cells #[.int .i64 t356, .int .i64 t357] 23 (0, 0)) (by (with_reducible repeat (first | refine bkN ?_ _ | refine bkD ?_ | refine bkA ?_ _)); exact BK359.out)) : gb374 ≠ gb359)); have n22_ := Z0.mk ((by rw [hg]; exact Nat.ne_of_lt (blk_lt (g := gb373) (o := .cells #[.int .i64 0, .int .i64 0] 23 (0, 0)) (by (with_reducible repeat (first | refine bkN ?_ _ | refine bkD ?_ | refine bkA ?_ _)); exact BK373.out)) : gb373 ≠ gb374)); have n23_ := Z0.mk ((by rw [hg]; exact Nat.ne_of_gt (blk_lt (g := gb373) (o := .cells #[.int .i64 0, .int .i64 0] 23 (0, 0)) (by (with_reducible repeat (first | refine bkN ?_ _ | refine bkD ?_ | refine bkA ?_ _)); exact BK373.out)) : gb374 ≠ gb373)); clear HO364; clear HO370; clear BK347; clear BK348; clear BK349; clear BK355; clear BK359; clear BK373; clear HB; have HO364 := n0_; have HO370 := n1_; have BK347 := n2_; have BK348 := n3_; have BK349 := n4_; have BK355 := n5_; have BK359 := n6_; have BK373 := n7_; have HB := n8_; have BK374 := n9_; have GW374 := n10_; have GE374 := n11_; have NB347_374 := n12_; have NB374_347 := n13_; have NB348_374 := n14_; have NB374_348 := n15_; have NB349_374 := n16_; have NB374_349 := n17_; have NB355_374 := n18_; have NB374_355 := n19_; have NB359_374 := n20_; have NB374_359 := n21_; have NB373_374 := n22_; have NB374_373 := n23_; clear n0_ n1_ n2_ n3_ n4_ n5_ n6_ n7_ n8_ n9_ n10_ n11_ n12_ n13_ n14_ n15_ n16_ n17_ n18_ n19_ n20_ n21_ n22_ n23_; clear hb hbox hg))
 (try simp only [Act.put, List.setIfInBounds_toArray, List.set_cons_zero, List.set_cons_succ])
 go_cut [16] (fun v16 wc => ∃ (kq : Nat) (x16_13 : Int), v16 = .int .i64 x16_13 ∧ Z0 (cl6_HangRoots.j0 kq t350 t351 t354 t358 t365 t371 t372 x16_13 a0_0 a0_1 a2_0 a2_1 t352 t353 t356 t357 0 0 0 0 = some r) ∧ Z0 (kq ≤ k) ∧ Z0 (wc.heap[gb347]? = some (.cells #[.int .i64 a0_0, .int .i64 a0_1] 24 (0, 0))) ∧ Z0 (wc.heap[gb348]? = some (.cells #[.int .i64 a1_0, .int .i64 a1_1] 24 (0, 0))) ∧ Z0 (wc.heap[gb349]? = some (.cells #[.int .i64 a2_0, .int .i64 a2_1] 51 (0, 0))) ∧ Z0 (wc.heap[gb355]? = some (.cells #[.int .i64 t352, .int .i64 t353] 23 (0, 0))) ∧ Z0 (wc.heap[gb359]? = some (.cells #[.int .i64 t356, .int .i64 t357] 23 (0, 0))) ∧ Z0 (wc.heap[gb373]? = some (.cells #[.int .i64 0, .int .i64 0] 23 (0, 0))) ∧ Z0 (wc.heap[gb374]? = some (.cells #[.int .i64 0, .int .i64 0] 23 (0, 0))) ∧ Z0 (Below w.heap.size w wc))
 case first =>
  have H := HC14.out
  clear HC14
  by_cases c55 : t365 = 0
  ·rw [if_pos c55] at H
   have c55b0 : (t365 == 0) = true := beq_iff_eq.mpr c55
   have c55b1 : (t365 != 0) = false := bne_eq_false_iff_eq.mpr c55
   clear c55
   (first | rw [c55b0] | (simp only [i64_w, i32_w]; rw [c55b0]) | skip)
   replace H := Option.bind_eq_some_iff.mp H
   obtain ⟨t375, A560, H⟩ := H
   replace H : (cl6_HangRoots.j0 k t350 t351 t354 t358 t365 t371 t372 t375 a0_0 a0_1 a2_0 a2_1 t352 t353 t356 t357 0 0 0 0) = some r := H
   have A56 := Z0.mk A560
   clear A560
   have H' := Z0.mk H
   clear H
   have hnb57 := NB347_348.out
   have hnc57 := NB348_347.out
   have hnb58 := NB347_349.out
   have hnc58 := NB349_347.out
   have hnb59 := NB347_355.out
   have hnc59 := NB355_347.out
   have hnb60 := NB347_359.out
   have hnc60 := NB359_347.out
   have hnb61 := NB347_373.out
   have hnc61 := NB373_347.out
   have hnb62 := NB347_374.out
   have hnc62 := NB374_347.out
   have hcz63_0 : w54.cell? ⟨gb347, 0, none⟩ = some (.int .i64 a0_0) := (bkC BK347.out 0).trans rfl
   have hcz63_1 : w54.cell? ⟨gb347, 1, none⟩ = some (.int .i64 a0_1) := (bkC BK347.out 1).trans rfl
   have hfz63_0 := bkZ BK347.out 0
   have hfz63_1 := bkZ BK347.out 1
   have hnb64 := NB348_349.out
   have hnc64 := NB349_348.out
   have hnb65 := NB348_355.out
   have hnc65 := NB355_348.out
   have hnb66 := NB348_359.out
   have hnc66 := NB359_348.out
   have hnb67 := NB348_373.out
   have hnc67 := NB373_348.out
   have hnb68 := NB348_374.out
   have hnc68 := NB374_348.out
   have hcz69_0 : w54.cell? ⟨gb348, 0, none⟩ = some (.int .i64 a1_0) := (bkC BK348.out 0).trans rfl
   have hcz69_1 : w54.cell? ⟨gb348, 1, none⟩ = some (.int .i64 a1_1) := (bkC BK348.out 1).trans rfl
   have hfz69_0 := bkZ BK348.out 0
   have hfz69_1 := bkZ BK348.out 1
   go_wp2_with (first | ((with_reducible refine gtC (f := 35) rfl ?_); refine goesL_ (some 58) rfl rfl Tryd.func35 (by kernel_rfl) rfl #[.agg #[.int .i64 a0_0, .int .i64 a0_1], .agg #[.int .i64 a1_0, .int .i64 a1_1]] rfl (by (try simp only [List.map_toArray, List.map_cons, List.map_nil]); first | done | rfl | (simp only [List.length_drop, List.length_take]; rfl)) ?_; (with_reducible refine (cr6_Compare.calls a0_0 a0_1 a1_0 a1_1 t375 _ A56.out).mono ?_); rintro e w70 ⟨rfl, hb⟩; refine ⟨_, rfl, ?_⟩; have n0_ := Z0.mk (Kd.R_below (by (with_reducible repeat (first | apply Kd.R_alloc | apply Kd.R_drewN | apply Kd.R_drew)); exact HO364.out) hb); have n1_ := Z0.mk (Kd.R_below (by (with_reducible repeat (first | apply Kd.R_alloc | apply Kd.R_drewN | apply Kd.R_drew)); exact HO370.out) hb); have n2_ := Z0.mk (bkB (g := gb347) (o := .cells #[.int .i64 a0_0, .int .i64 a0_1] 24 (0, 0)) (by (with_reducible repeat (first | refine bkN ?_ _ | refine bkD ?_ | refine bkA ?_ _)); exact BK347.out) hb); have n3_ := Z0.mk (bkB (g := gb348) (o := .cells #[.int .i64 a1_0, .int .i64 a1_1] 24 (0, 0)) (by (with_reducible repeat (first | refine bkN ?_ _ | refine bkD ?_ | refine bkA ?_ _)); exact BK348.out) hb); have n4_ := Z0.mk (bkB (g := gb349) (o := .cells #[.int .i64 a2_0, .int .i64 a2_1] 51 (0, 0)) (by (with_reducible repeat (first | refine bkN ?_ _ | refine bkD ?_ | refine bkA ?_ _)); exact BK349.out) hb); have n5_ := Z0.mk (bkB (g := gb355) (o := .cells #[.int .i64 t352, .int .i64 t353] 23 (0, 0)) (by (with_reducible repeat (first | refine bkN ?_ _ | refine bkD ?_ | refine bkA ?_ _)); exact BK355.out) hb); have n6_ := Z0.mk (bkB (g := gb359) (o := .cells #[.int .i64 t356, .int .i64 t357] 23 (0, 0)) (by (with_reducible repeat (first | refine bkN ?_ _ | refine bkD ?_ | refine bkA ?_ _)); exact BK359.out) hb); have n7_ := Z0.mk (bkB (g := gb373) (o := .cells #[.int .i64 0, .int .i64 0] 23 (0, 0)) (by (with_reducible repeat (first | refine bkN ?_ _ | refine bkD ?_ | refine bkA ?_ _)); exact BK373.out) hb); have n8_ := Z0.mk (bkB (g := gb374) (o := .cells #[.int .i64 0, .int .i64 0] 23 (0, 0)) (by (with_reducible repeat (first | refine bkN ?_ _ | refine bkD ?_ | refine bkA ?_ _)); exact BK374.out) hb); have n9_ := Z0.mk (bwT (by repeat (first | (with_reducible first | exact HB.out | apply bwA | apply bwN | apply bw1 | refine bwS ?_ GE347.out | refine bwS ?_ GE348.out | refine bwS ?_ GE349.out | refine bwS ?_ GE355.out | refine bwS ?_ GE359.out | refine bwS ?_ GE373.out | refine bwS ?_ GE374.out) | exact HB.out)) hb); clear HO364; clear HO370; clear BK347; clear BK348; clear BK349; clear BK355; clear BK359; clear BK373; clear BK374; clear HB; have HO364 := n0_; have HO370 := n1_; have BK347 := n2_; have BK348 := n3_; have BK349 := n4_; have BK355 := n5_; have BK359 := n6_; have BK373 := n7_; have BK374 := n8_; have HB := n9_; clear n0_ n1_ n2_ n3_ n4_ n5_ n6_ n7_ n8_ n9_; (try clear hb); (try clear hb2); (try clear hk); (try clear hi)))
   go_meet
   case rel => exact ⟨_, (t375), (by first | rfl | (simp; done) | (simp [*]; done)), H', ⟨by first | omega | exact Nat.le_refl _⟩, ⟨by (with_reducible repeat (first | refine bkN ?_ _ | refine bkD ?_ | refine bkA ?_ _)); exact BK347.out⟩, ⟨by (with_reducible repeat (first | refine bkN ?_ _ | refine bkD ?_ | refine bkA ?_ _)); exact BK348.out⟩, ⟨by (with_reducible repeat (first | refine bkN ?_ _ | refine bkD ?_ | refine bkA ?_ _)); exact BK349.out⟩, ⟨by (with_reducible repeat (first | refine bkN ?_ _ | refine bkD ?_ | refine bkA ?_ _)); exact BK355.out⟩, ⟨by (with_reducible repeat (first | refine bkN ?_ _ | refine bkD ?_ | refine bkA ?_ _)); exact BK359.out⟩, ⟨by (with_reducible repeat (first | refine bkN ?_ _ | refine bkD ?_ | refine bkA ?_ _)); exact BK373.out⟩, ⟨by (with_reducible repeat (first | refine bkN ?_ _ | refine bkD ?_ | refine bkA ?_ _)); exact BK374.out⟩, ⟨by repeat (first | (with_reducible first | exact HB.out | apply bwA | apply bwN | apply bw1 | refine bwS ?_ GE347.out | refine bwS ?_ GE348.out | refine bwS ?_ GE349.out | refine bwS ?_ GE355.out | refine bwS ?_ GE359.out | refine bwS ?_ GE373.out | refine bwS ?_ GE374.out) | exact HB.out)⟩⟩
  ·rw [if_neg c55] at H
   have c55b0 : (t365 == 0) = false := beq_eq_false_iff_ne.mpr c55
   have c55b1 : (t365 != 0) = true := bne_iff_ne.mpr c55
   (first | rw [c55b0] | (simp only [i64_w, i32_w]; rw [c55b0]) | skip)
   have H' := Z0.mk H
   clear H
   go_wp2
   go_meet
   case rel => exact ⟨_, (0), (by first | rfl | (simp; done) | (simp [*]; done)), H', ⟨by first | omega | exact Nat.le_refl _⟩, ⟨by (with_reducible repeat (first | refine bkN ?_ _ | refine bkD ?_ | refine bkA ?_ _)); exact BK347.out⟩, ⟨by (with_reducible repeat (first | refine bkN ?_ _ | refine bkD ?_ | refine bkA ?_ _)); exact BK348.out⟩, ⟨by (with_reducible repeat (first | refine bkN ?_ _ | refine bkD ?_ | refine bkA ?_ _)); exact BK349.out⟩, ⟨by (with_reducible repeat (first | refine bkN ?_ _ | refine bkD ?_ | refine bkA ?_ _)); exact BK355.out⟩, ⟨by (with_reducible repeat (first | refine bkN ?_ _ | refine bkD ?_ | refine bkA ?_ _)); exact BK359.out⟩, ⟨by (with_reducible repeat (first | refine bkN ?_ _ | refine bkD ?_ | refine bkA ?_ _)); exact BK373.out⟩, ⟨by (with_reducible repeat (first | refine bkN ?_ _ | refine bkD ?_ | refine bkA ?_ _)); exact BK374.out⟩, ⟨by repeat (first | (with_reducible first | exact HB.out | apply bwA | apply bwN | apply bw1 | refine bwS ?_ GE347.out | refine bwS ?_ GE348.out | refine bwS ?_ GE349.out | refine bwS ?_ GE355.out | refine bwS ?_ GE359.out | refine bwS ?_ GE373.out | refine bwS ?_ GE374.out) | exact HB.out)⟩⟩
 case rest =>
  clear HC14
  try clear c1
  try clear c2
  try clear p2
  try clear c3
  try clear c5
  try clear c6
  try clear c18
  try clear c19
  try clear c21
  try clear c26
  try clear c27
  try clear c28
  try clear c29
  try clear c30
  try clear c32
  try clear c33
  try clear c34
  try clear c35
  try clear c36
  try clear c37
  try clear c38
  try clear c55
  try clear c55b0
  try clear c55b1
  try clear c57
  try clear c58
  try clear c59
  try clear c60
  try clear c61
  try clear c62
  try clear c64
  try clear c65
  try clear c66
  try clear c67
  try clear c68
  try clear hcz20_0
  try clear hcz20_1
  try clear hcz22_0
  try clear hcz22_1
  try clear hcz24_0
  try clear hcz24_1
  try clear hcz25_0
  try clear hcz25_1
  try clear hcz31_0
  try clear hcz31_1
  try clear hcz32_0
  try clear hcz32_1
  try clear hcz39_0
  try clear hcz39_1
  try clear hcz52_0
  try clear hcz52_1
  try clear hcz63_0
  try clear hcz63_1
  try clear hcz69_0
  try clear hcz69_1
  try clear hfz20_0
  try clear hfz20_1
  try clear hfz22_0
  try clear hfz22_1
  try clear hfz24_0
  try clear hfz24_1
  try clear hfz25_0
  try clear hfz25_1
  try clear hfz31_0
  try clear hfz31_1
  try clear hfz32_0
  try clear hfz32_1
  try clear hfz39_0
  try clear hfz39_1
  try clear hfz52_0
  try clear hfz52_1
  try clear hfz63_0
  try clear hfz63_1
  try clear hfz69_0
  try clear hfz69_1
  obtain ⟨kq, x16_13, rfl, HA, HJ13, BK347, BK348, BK349, BK355, BK359, BK373, BK374, HB⟩ := hcut
  cases kq with
  | zero => exact absurd HA.out (by simp [cl6_HangRoots.j0])
  | succ kj13 =>
   have H := HA.out
   clear HA
   simp only [cl6_HangRoots.j0] at H
   have HC71 := Z0.mk H
   clear H
   go_upto_if 60 with (fail)
   go_cut [] (fun wc => ∃ (kq : Nat) (x374000_70 : Int) (x374001_70 : Int), Z0 (cl6_HangRoots.j1 kq t350 t351 t354 t358 t365 t371 t372 x16_13 a2_0 a2_1 t352 t353 t356 t357 x374000_70 x374001_70 0 0 = some r) ∧ Z0 (kq ≤ kj13) ∧ Z0 (wc.heap[gb347]? = some (.cells #[.int .i64 a0_0, .int .i64 a0_1] 24 (0, 0))) ∧ Z0 (wc.heap[gb348]? = some (.cells #[.int .i64 a1_0, .int .i64 a1_1] 24 (0, 0))) ∧ Z0 (wc.heap[gb349]? = some (.cells #[.int .i64 a2_0, .int .i64 a2_1] 51 (0, 0))) ∧ Z0 (wc.heap[gb355]? = some (.cells #[.int .i64 t352, .int .i64 t353] 23 (0, 0))) ∧ Z0 (wc.heap[gb359]? = some (.cells #[.int .i64 t356, .int .i64 t357] 23 (0, 0))) ∧ Z0 (wc.heap[gb373]? = some (.cells #[.int .i64 x374000_70, .int .i64 x374001_70] 23 (0, 0))) ∧ Z0 (wc.heap[gb374]? = some (.cells #[.int .i64 0, .int .i64 0] 23 (0, 0))) ∧ Z0 (Below w.heap.size w wc))
   case first =>
    have H := HC71.out
    clear HC71
    by_cases c72 : t371 = 0
    ·rw [if_pos c72] at H
     have c72b0 : (t371 == 0) = true := beq_iff_eq.mpr c72
     have c72b1 : (t371 != 0) = false := bne_eq_false_iff_eq.mpr c72
     clear c72
     (first | rw [c72b0] | (simp only [i64_w, i32_w]; rw [c72b0]) | skip)
     replace H := Option.bind_eq_some_iff.mp H
     obtain ⟨⟨t376, t377⟩, A730, H⟩ := H
     replace H : (cl6_HangRoots.j1 kj13 t350 t351 t354 t358 t365 t371 t372 x16_13 a2_0 a2_1 t352 t353 t356 t357 t376 t377 0 0) = some r := H
     have A73 := Z0.mk A730
     clear A730
     have H' := Z0.mk H
     clear H
     have hnb74 := NB347_348.out
     have hnc74 := NB348_347.out
     have hnb75 := NB347_349.out
     have hnc75 := NB349_347.out
     have hnb76 := NB347_355.out
     have hnc76 := NB355_347.out
     have hnb77 := NB347_359.out
     have hnc77 := NB359_347.out
     have hnb78 := NB347_373.out
     have hnc78 := NB373_347.out
     have hnb79 := NB347_374.out
     have hnc79 := NB374_347.out
     have hcz80_0 : wc.cell? ⟨gb347, 0, none⟩ = some (.int .i64 a0_0) := (bkC BK347.out 0).trans rfl
     have hcz80_1 : wc.cell? ⟨gb347, 1, none⟩ = some (.int .i64 a0_1) := (bkC BK347.out 1).trans rfl
     have hfz80_0 := bkZ BK347.out 0
     have hfz80_1 := bkZ BK347.out 1
     have hnb81 := NB349_348.out
     have hnc81 := NB348_349.out
     have hnb82 := NB349_355.out
     have hnc82 := NB355_349.out
     have hnb83 := NB349_359.out
     have hnc83 := NB359_349.out
     have hnb84 := NB349_373.out
     have hnc84 := NB373_349.out
     have hnb85 := NB349_374.out
     have hnc85 := NB374_349.out
     have hcz86_0 : wc.cell? ⟨gb349, 0, none⟩ = some (.int .i64 a2_0) := (bkC BK349.out 0).trans rfl
     have hcz86_1 : wc.cell? ⟨gb349, 1, none⟩ = some (.int .i64 a2_1) := (bkC BK349.out 1).trans rfl
     have hfz86_0 := bkZ BK349.out 0
     have hfz86_1 := bkZ BK349.out 1
     go_wp2_with (first | ((with_reducible refine gtC (f := 36) rfl ?_); refine goesL_ (some 64) rfl rfl Tryd.func36 (by kernel_rfl) rfl #[.agg #[.int .i64 a0_0, .int .i64 a0_1], .int .i64 a2_0] rfl (by (try simp only [List.map_toArray, List.map_cons, List.map_nil]); first | done | rfl | (simp only [List.length_drop, List.length_take]; rfl)) ?_; (with_reducible refine (cr6_Root.calls kj13 a0_0 a0_1 a2_0 t376 t377 _ A73.out).mono ?_); rintro e w87 ⟨rfl, hb⟩; refine ⟨_, rfl, ?_⟩; have n0_ := Z0.mk (bkB (g := gb347) (o := .cells #[.int .i64 a0_0, .int .i64 a0_1] 24 (0, 0)) (by (with_reducible repeat (first | refine bkN ?_ _ | refine bkD ?_ | refine bkA ?_ _)); exact BK347.out) hb); have n1_ := Z0.mk (bkB (g := gb348) (o := .cells #[.int .i64 a1_0, .int .i64 a1_1] 24 (0, 0)) (by (with_reducible repeat (first | refine bkN ?_ _ | refine bkD ?_ | refine bkA ?_ _)); exact BK348.out) hb); have n2_ := Z0.mk (bkB (g := gb349) (o := .cells #[.int .i64 a2_0, .int .i64 a2_1] 51 (0, 0)) (by (with_reducible repeat (first | refine bkN ?_ _ | refine bkD ?_ | refine bkA ?_ _)); exact BK349.out) hb); have n3_ := Z0.mk (bkB (g := gb355) (o := .cells #[.int .i64 t352, .int .i64 t353] 23 (0, 0)) (by (with_reducible repeat (first | refine bkN ?_ _ | refine bkD ?_ | refine bkA ?_ _)); exact BK355.out) hb); have n4_ := Z0.mk (bkB (g := gb359) (o := .cells #[.int .i64 t356, .int .i64 t357] 23 (0, 0)) (by (with_reducible repeat (first | refine bkN ?_ _ | refine bkD ?_ | refine bkA ?_ _)); exact BK359.out) hb); have n5_ := Z0.mk (bkB (g := gb373) (o := .cells #[.int .i64 0, .int .i64 0] 23 (0, 0)) (by (with_reducible repeat (first | refine bkN ?_ _ | refine bkD ?_ | refine bkA ?_ _)); exact BK373.out) hb); have n6_ := Z0.mk (bkB (g := gb374) (o := .cells #[.int .i64 0, .int .i64 0] 23 (0, 0)) (by (with_reducible repeat (first | refine bkN ?_ _ | refine bkD ?_ | refine bkA ?_ _)); exact BK374.out) hb); have n7_ := Z0.mk (bwT (by repeat (first | (with_reducible first | exact HB.out | apply bwA | apply bwN | apply bw1 | refine bwS ?_ GE347.out | refine bwS ?_ GE348.out | refine bwS ?_ GE349.out | refine bwS ?_ GE355.out | refine bwS ?_ GE359.out | refine bwS ?_ GE373.out | refine bwS ?_ GE374.out) | exact HB.out)) hb); clear BK347; clear BK348; clear BK349; clear BK355; clear BK359; clear BK373; clear BK374; clear HB; have BK347 := n0_; have BK348 := n1_; have BK349 := n2_; have BK355 := n3_; have BK359 := n4_; have BK373 := n5_; have BK374 := n6_; have HB := n7_; clear n0_ n1_ n2_ n3_ n4_ n5_ n6_ n7_; (try clear hb); (try clear hb2); (try clear hk); (try clear hi); have hnb88 := NB373_348.out; have hnc88 := NB348_373.out; have hnb89 := NB373_355.out; have hnc89 := NB355_373.out; have hnb90 := NB373_359.out; have hnc90 := NB359_373.out; have hnb91 := NB373_374.out; have hnc91 := NB374_373.out; have hcz92_0 : w87.cell? ⟨gb373, 0, none⟩ = some (.int .i64 0) := (bkC BK373.out 0).trans rfl; have hcz92_1 : w87.cell? ⟨gb373, 1, none⟩ = some (.int .i64 0) := (bkC BK373.out 1).trans rfl; have hfz92_0 := bkZ BK373.out 0; have hfz92_1 := bkZ BK373.out 1))
     go_meet
     case rel => exact ⟨_, (t376), (t377), H', ⟨by have := HJ13.out; first | omega | exact Nat.le_refl _⟩, ⟨by (with_reducible repeat (first | refine bkN ?_ _ | refine bkD ?_ | refine bkA ?_ _)); refine bkF ?_ NB347_373.out _; (with_reducible repeat (first | refine bkN ?_ _ | refine bkD ?_ | refine bkA ?_ _)); refine bkF ?_ NB347_373.out _; (with_reducible repeat (first | refine bkN ?_ _ | refine bkD ?_ | refine bkA ?_ _)); exact BK347.out⟩, ⟨by (with_reducible repeat (first | refine bkN ?_ _ | refine bkD ?_ | refine bkA ?_ _)); refine bkF ?_ NB348_373.out _; (with_reducible repeat (first | refine bkN ?_ _ | refine bkD ?_ | refine bkA ?_ _)); refine bkF ?_ NB348_373.out _; (with_reducible repeat (first | refine bkN ?_ _ | refine bkD ?_ | refine bkA ?_ _)); exact BK348.out⟩, ⟨by (with_reducible repeat (first | refine bkN ?_ _ | refine bkD ?_ | refine bkA ?_ _)); refine bkF ?_ NB349_373.out _; (with_reducible repeat (first | refine bkN ?_ _ | refine bkD ?_ | refine bkA ?_ _)); refine bkF ?_ NB349_373.out _; (with_reducible repeat (first | refine bkN ?_ _ | refine bkD ?_ | refine bkA ?_ _)); exact BK349.out⟩, ⟨by (with_reducible repeat (first | refine bkN ?_ _ | refine bkD ?_ | refine bkA ?_ _)); refine bkF ?_ NB355_373.out _; (with_reducible repeat (first | refine bkN ?_ _ | refine bkD ?_ | refine bkA ?_ _)); refine bkF ?_ NB355_373.out _; (with_reducible repeat (first | refine bkN ?_ _ | refine bkD ?_ | refine bkA ?_ _)); exact BK355.out⟩, ⟨by (with_reducible repeat (first | refine bkN ?_ _ | refine bkD ?_ | refine bkA ?_ _)); refine bkF ?_ NB359_373.out _; (with_reducible repeat (first | refine bkN ?_ _ | refine bkD ?_ | refine bkA ?_ _)); refine bkF ?_ NB359_373.out _; (with_reducible repeat (first | refine bkN ?_ _ | refine bkD ?_ | refine bkA ?_ _)); exact BK359.out⟩, ⟨by (with_reducible repeat (first | refine bkN ?_ _ | refine bkD ?_ | refine bkA ?_ _)); refine bkP (cs := #[.int .i64 t376, .int .i64 0]) ?_ 1 _ rfl; (with_reducible repeat (first | refine bkN ?_ _ | refine bkD ?_ | refine bkA ?_ _)); refine bkP (cs := #[.int .i64 0, .int .i64 0]) ?_ 0 _ rfl; (with_reducible repeat (first | refine bkN ?_ _ | refine bkD ?_ | refine bkA ?_ _)); exact BK373.out⟩, ⟨by (with_reducible repeat (first | refine bkN ?_ _ | refine bkD ?_ | refine bkA ?_ _)); refine bkF ?_ NB374_373.out _; (with_reducible repeat (first | refine bkN ?_ _ | refine bkD ?_ | refine bkA ?_ _)); refine bkF ?_ NB374_373.out _; (with_reducible repeat (first | refine bkN ?_ _ | refine bkD ?_ | refine bkA ?_ _)); exact BK374.out⟩, ⟨by repeat (first | (with_reducible first | exact HB.out | apply bwA | apply bwN | apply bw1 | refine bwS ?_ GE347.out | refine bwS ?_ GE348.out | refine bwS ?_ GE349.out | refine bwS ?_ GE355.out | refine bwS ?_ GE359.out | refine bwS ?_ GE373.out | refine bwS ?_ GE374.out) | exact HB.out)⟩⟩
    ·rw [if_neg c72] at H
     have c72b0 : (t371 == 0) = false := beq_eq_false_iff_ne.mpr c72
     have c72b1 : (t371 != 0) = true := bne_iff_ne.mpr c72
     (first | rw [c72b0] | (simp only [i64_w, i32_w]; rw [c72b0]) | skip)
     have H' := Z0.mk H
     clear H
     go_wp2
     go_meet
     case rel => exact ⟨_, (0), (0), H', ⟨by have := HJ13.out; first | omega | exact Nat.le_refl _⟩, ⟨by (with_reducible repeat (first | refine bkN ?_ _ | refine bkD ?_ | refine bkA ?_ _)); exact BK347.out⟩, ⟨by (with_reducible repeat (first | refine bkN ?_ _ | refine bkD ?_ | refine bkA ?_ _)); exact BK348.out⟩, ⟨by (with_reducible repeat (first | refine bkN ?_ _ | refine bkD ?_ | refine bkA ?_ _)); exact BK349.out⟩, ⟨by (with_reducible repeat (first | refine bkN ?_ _ | refine bkD ?_ | refine bkA ?_ _)); exact BK355.out⟩, ⟨by (with_reducible repeat (first | refine bkN ?_ _ | refine bkD ?_ | refine bkA ?_ _)); exact BK359.out⟩, ⟨by (with_reducible repeat (first | refine bkN ?_ _ | refine bkD ?_ | refine bkA ?_ _)); exact BK373.out⟩, ⟨by (with_reducible repeat (first | refine bkN ?_ _ | refine bkD ?_ | refine bkA ?_ _)); exact BK374.out⟩, ⟨by repeat (first | (with_reducible first | exact HB.out | apply bwA | apply bwN | apply bw1 | refine bwS ?_ GE347.out | refine bwS ?_ GE348.out | refine bwS ?_ GE349.out | refine bwS ?_ GE355.out | refine bwS ?_ GE359.out | refine bwS ?_ GE373.out | refine bwS ?_ GE374.out) | exact HB.out)⟩⟩
   case rest =>
    clear HC71
    try clear c1
    try clear c2
    try clear p2
    try clear c3
    try clear c5
    try clear c6
    try clear c7
    try clear c8
    try clear c9
    try clear c18
    try clear c19
    try clear c21
    try clear c26
    try clear c27
    try clear c28
    try clear c29
    try clear c30
    try clear c32
    try clear c33
    try clear c34
    try clear c35
    try clear c36
    try clear c37
    try clear c38
    try clear c55
    try clear c55b0
    try clear c55b1
    try clear c57
    try clear c58
    try clear c59
    try clear c60
    try clear c61
    try clear c62
    try clear c64
    try clear c65
    try clear c66
    try clear c67
    try clear c68
    try clear c72
    try clear c72b0
    try clear c72b1
    try clear c74
    try clear c75
    try clear c76
    try clear c77
    try clear c78
    try clear c79
    try clear c81
    try clear c82
    try clear c83
    try clear c84
    try clear c85
    try clear c88
    try clear c89
    try clear c90
    try clear c91
    try clear hcz20_0
    try clear hcz20_1
    try clear hcz22_0
    try clear hcz22_1
    try clear hcz24_0
    try clear hcz24_1
    try clear hcz25_0
    try clear hcz25_1
    try clear hcz31_0
    try clear hcz31_1
    try clear hcz32_0
    try clear hcz32_1
    try clear hcz39_0
    try clear hcz39_1
    try clear hcz52_0
    try clear hcz52_1
    try clear hcz63_0
    try clear hcz63_1
    try clear hcz69_0
    try clear hcz69_1
    try clear hcz80_0
    try clear hcz80_1
    try clear hcz86_0
    try clear hcz86_1
    try clear hcz92_0
    try clear hcz92_1
    try clear hfz20_0
    try clear hfz20_1
    try clear hfz22_0
    try clear hfz22_1
    try clear hfz24_0
    try clear hfz24_1
    try clear hfz25_0
    try clear hfz25_1
    try clear hfz31_0
    try clear hfz31_1
    try clear hfz32_0
    try clear hfz32_1
    try clear hfz39_0
    try clear hfz39_1
    try clear hfz52_0
    try clear hfz52_1
    try clear hfz63_0
    try clear hfz63_1
    try clear hfz69_0
    try clear hfz69_1
    try clear hfz80_0
    try clear hfz80_1
    try clear hfz86_0
    try clear hfz86_1
    try clear hfz92_0
    try clear hfz92_1
    try clear p2
    obtain ⟨kq, x374000_70, x374001_70, HA, HJ70, BK347, BK348, BK349, BK355, BK359, BK373, BK374, HB⟩ := hcut
    cases kq with
    | zero => exact absurd HA.out (by simp [cl6_HangRoots.j1])
    | succ kj70 =>
     have H := HA.out
     clear HA
     simp only [cl6_HangRoots.j1] at H
     by_cases c93 : t372 = 0
     ·rw [if_pos c93] at H
      have c93b0 : (t372 == 0) = true := beq_iff_eq.mpr c93
      have c93b1 : (t372 != 0) = false := bne_eq_false_iff_eq.mpr c93
      clear c93
      replace H := Option.bind_eq_some_iff.mp H
      obtain ⟨⟨t378, t379⟩, A940, H⟩ := H
      replace H : (if t350 = x16_13 then (if t351 = t365 then (if (t352 == x374000_70 && (t353 == x374001_70)) = true then (if t354 = t371 then (if (t356 == t378 && (t357 == t379)) = true then (if t358 = t372 then ((cl6_awake.f kj70).bind fun t380 => (some t380)) else (none)) else (none)) else (none)) else (none)) else (none)) else (none)) = some r := H
      have A94 := Z0.mk A940
      clear A940
      by_cases c95 : t350 = x16_13
      ·rw [if_pos c95] at H
       have c95b0 : (t350 == x16_13) = true := beq_iff_eq.mpr c95
       have c95b1 : (t350 != x16_13) = false := bne_eq_false_iff_eq.mpr c95
       clear c95
       by_cases c96 : t351 = t365
       ·rw [if_pos c96] at H
        have c96b0 : (t351 == t365) = true := beq_iff_eq.mpr c96
        have c96b1 : (t351 != t365) = false := bne_eq_false_iff_eq.mpr c96
        clear c96
        by_cases c97 : (t352 == x374000_70 && (t353 == x374001_70)) = true
        ·rw [if_pos c97] at H
         have c97b0 : (t352 == x374000_70 && (t353 == x374001_70)) = true := c97
         (try (have c97b1 : decide (t352 = x374000_70 && (t353 == x374001_70)) = true := by simpa using c97))
         (try (have c97b2 : (t352 == x374000_70 && (t353 == x374001_70)) = true := by simpa using c97))
         clear c97
         by_cases c98 : t354 = t371
         ·rw [if_pos c98] at H
          have c98b0 : (t354 == t371) = true := beq_iff_eq.mpr c98
          have c98b1 : (t354 != t371) = false := bne_eq_false_iff_eq.mpr c98
          clear c98
          by_cases c99 : (t356 == t378 && (t357 == t379)) = true
          ·rw [if_pos c99] at H
           have c99b0 : (t356 == t378 && (t357 == t379)) = true := c99
           (try (have c99b1 : decide (t356 = t378 && (t357 == t379)) = true := by simpa using c99))
           (try (have c99b2 : (t356 == t378 && (t357 == t379)) = true := by simpa using c99))
           clear c99
           by_cases c100 : t358 = t372
           ·rw [if_pos c100] at H
            have c100b0 : (t358 == t372) = true := beq_iff_eq.mpr c100
            have c100b1 : (t358 != t372) = false := bne_eq_false_iff_eq.mpr c100
            clear c100
            replace H := Option.bind_eq_some_iff.mp H
            obtain ⟨t380, A1010, H⟩ := H
            replace H : (some t380) = some r := H
            have A101 := Z0.mk A1010
            clear A1010
            obtain rfl := Option.some.inj H
            have hnb102 := NB349_347.out
            have hnc102 := NB347_349.out
            have hnb103 := NB349_348.out
            have hnc103 := NB348_349.out
            have hnb104 := NB349_355.out
            have hnc104 := NB355_349.out
            have hnb105 := NB349_359.out
            have hnc105 := NB359_349.out
            have hnb106 := NB349_373.out
            have hnc106 := NB373_349.out
            have hnb107 := NB349_374.out
            have hnc107 := NB374_349.out
            have hcz108_0 : wc.cell? ⟨gb349, 0, none⟩ = some (.int .i64 a2_0) := (bkC BK349.out 0).trans rfl
            have hcz108_1 : wc.cell? ⟨gb349, 1, none⟩ = some (.int .i64 a2_1) := (bkC BK349.out 1).trans rfl
            have hfz108_0 := bkZ BK349.out 0
            have hfz108_1 := bkZ BK349.out 1
            go_wp2_with (first | ((with_reducible refine gtC (f := 37) rfl ?_); refine goesL_ (some 69) rfl rfl Tryd.func37 (by kernel_rfl) rfl #[.int .i64 a2_1] rfl (by (try simp only [List.map_toArray, List.map_cons, List.map_nil]); first | done | rfl | (simp only [List.length_drop, List.length_take]; rfl)) ?_; (with_reducible refine (cr6_Fullest.calls kj70 a2_1 t378 t379 _ A94.out).mono ?_); rintro e w109 ⟨rfl, hb⟩; refine ⟨_, rfl, ?_⟩; have n0_ := Z0.mk (bkB (g := gb347) (o := .cells #[.int .i64 a0_0, .int .i64 a0_1] 24 (0, 0)) (by (with_reducible repeat (first | refine bkN ?_ _ | refine bkD ?_ | refine bkA ?_ _)); exact BK347.out) hb); have n1_ := Z0.mk (bkB (g := gb348) (o := .cells #[.int .i64 a1_0, .int .i64 a1_1] 24 (0, 0)) (by (with_reducible repeat (first | refine bkN ?_ _ | refine bkD ?_ | refine bkA ?_ _)); exact BK348.out) hb); have n2_ := Z0.mk (bkB (g := gb349) (o := .cells #[.int .i64 a2_0, .int .i64 a2_1] 51 (0, 0)) (by (with_reducible repeat (first | refine bkN ?_ _ | refine bkD ?_ | refine bkA ?_ _)); exact BK349.out) hb); have n3_ := Z0.mk (bkB (g := gb355) (o := .cells #[.int .i64 t352, .int .i64 t353] 23 (0, 0)) (by (with_reducible repeat (first | refine bkN ?_ _ | refine bkD ?_ | refine bkA ?_ _)); exact BK355.out) hb); have n4_ := Z0.mk (bkB (g := gb359) (o := .cells #[.int .i64 t356, .int .i64 t357] 23 (0, 0)) (by (with_reducible repeat (first | refine bkN ?_ _ | refine bkD ?_ | refine bkA ?_ _)); exact BK359.out) hb); have n5_ := Z0.mk (bkB (g := gb373) (o := .cells #[.int .i64 x374000_70, .int .i64 x374001_70] 23 (0, 0)) (by (with_reducible repeat (first | refine bkN ?_ _ | refine bkD ?_ | refine bkA ?_ _)); exact BK373.out) hb); have n6_ := Z0.mk (bkB (g := gb374) (o := .cells #[.int .i64 0, .int .i64 0] 23 (0, 0)) (by (with_reducible repeat (first | refine bkN ?_ _ | refine bkD ?_ | refine bkA ?_ _)); exact BK374.out) hb); have n7_ := Z0.mk (bwT (by repeat (first | (with_reducible first | exact HB.out | apply bwA | apply bwN | apply bw1 | refine bwS ?_ GE347.out | refine bwS ?_ GE348.out | refine bwS ?_ GE349.out | refine bwS ?_ GE355.out | refine bwS ?_ GE359.out | refine bwS ?_ GE373.out | refine bwS ?_ GE374.out) | exact HB.out)) hb); clear BK347; clear BK348; clear BK349; clear BK355; clear BK359; clear BK373; clear BK374; clear HB; have BK347 := n0_; have BK348 := n1_; have BK349 := n2_; have BK355 := n3_; have BK359 := n4_; have BK373 := n5_; have BK374 := n6_; have HB := n7_; clear n0_ n1_ n2_ n3_ n4_ n5_ n6_ n7_; (try clear hb); (try clear hb2); (try clear hk); (try clear hi); have hnb110 := NB374_347.out; have hnc110 := NB347_374.out; have hnb111 := NB374_348.out; have hnc111 := NB348_374.out; have hnb112 := NB374_355.out; have hnc112 := NB355_374.out; have hnb113 := NB374_359.out; have hnc113 := NB359_374.out; have hnb114 := NB374_373.out; have hnc114 := NB373_374.out; have hcz115_0 : w109.cell? ⟨gb374, 0, none⟩ = some (.int .i64 0) := (bkC BK374.out 0).trans rfl; have hcz115_1 : w109.cell? ⟨gb374, 1, none⟩ = some (.int .i64 0) := (bkC BK374.out 1).trans rfl; have hfz115_0 := bkZ BK374.out 0; have hfz115_1 := bkZ BK374.out 1; have hnb116 := NB355_347.out; have hnc116 := NB347_355.out; have hnb117 := NB355_348.out; have hnc117 := NB348_355.out; have hnb118 := NB355_359.out; have hnc118 := NB359_355.out; have hnb119 := NB355_373.out; have hnc119 := NB373_355.out; have hcz120_0 : w109.cell? ⟨gb355, 0, none⟩ = some (.int .i64 t352) := (bkC BK355.out 0).trans rfl; have hcz120_1 : w109.cell? ⟨gb355, 1, none⟩ = some (.int .i64 t353) := (bkC BK355.out 1).trans rfl; have hfz120_0 := bkZ BK355.out 0; have hfz120_1 := bkZ BK355.out 1; have hnb121 := NB373_347.out; have hnc121 := NB347_373.out; have hnb122 := NB373_348.out; have hnc122 := NB348_373.out; have hnb123 := NB373_359.out; have hnc123 := NB359_373.out; have hcz124_0 : w109.cell? ⟨gb373, 0, none⟩ = some (.int .i64 x374000_70) := (bkC BK373.out 0).trans rfl; have hcz124_1 : w109.cell? ⟨gb373, 1, none⟩ = some (.int .i64 x374001_70) := (bkC BK373.out 1).trans rfl; have hfz124_0 := bkZ BK373.out 0; have hfz124_1 := bkZ BK373.out 1; have hnb125 := NB359_347.out; have hnc125 := NB347_359.out; have hnb126 := NB359_348.out; have hnc126 := NB348_359.out; have hcz127_0 : w109.cell? ⟨gb359, 0, none⟩ = some (.int .i64 t356) := (bkC BK359.out 0).trans rfl; have hcz127_1 : w109.cell? ⟨gb359, 1, none⟩ = some (.int .i64 t357) := (bkC BK359.out 1).trans rfl; have hfz127_0 := bkZ BK359.out 0; have hfz127_1 := bkZ BK359.out 1) | (go_at_call 22; (with_reducible refine (cl6_awake.calls kj70  t380 _ (hG.below (by repeat (first | (with_reducible first | exact HB.out | apply bwA | apply bwN | apply bw1 | refine bwS ?_ GE347.out | refine bwS ?_ GE348.out | refine bwS ?_ GE349.out | refine bwS ?_ GE355.out | refine bwS ?_ GE359.out | refine bwS ?_ GE373.out | refine bwS ?_ GE374.out) | exact HB.out))) A101.out).mono ?_); rintro e w128 ⟨rfl, hb⟩; have n0_ := Z0.mk (bkB (g := gb347) (o := .cells #[.int .i64 a0_0, .int .i64 a0_1] 24 (0, 0)) (by (with_reducible repeat (first | refine bkN ?_ _ | refine bkD ?_ | refine bkA ?_ _)); refine bkF ?_ NB347_374.out _; (with_reducible repeat (first | refine bkN ?_ _ | refine bkD ?_ | refine bkA ?_ _)); refine bkF ?_ NB347_374.out _; (with_reducible repeat (first | refine bkN ?_ _ | refine bkD ?_ | refine bkA ?_ _)); exact BK347.out) hb); have n1_ := Z0.mk (bkB (g := gb348) (o := .cells #[.int .i64 a1_0, .int .i64 a1_1] 24 (0, 0)) (by (with_reducible repeat (first | refine bkN ?_ _ | refine bkD ?_ | refine bkA ?_ _)); refine bkF ?_ NB348_374.out _; (with_reducible repeat (first | refine bkN ?_ _ | refine bkD ?_ | refine bkA ?_ _)); refine bkF ?_ NB348_374.out _; (with_reducible repeat (first | refine bkN ?_ _ | refine bkD ?_ | refine bkA ?_ _)); exact BK348.out) hb); have n2_ := Z0.mk (bkB (g := gb349) (o := .cells #[.int .i64 a2_0, .int .i64 a2_1] 51 (0, 0)) (by (with_reducible repeat (first | refine bkN ?_ _ | refine bkD ?_ | refine bkA ?_ _)); refine bkF ?_ NB349_374.out _; (with_reducible repeat (first | refine bkN ?_ _ | refine bkD ?_ | refine bkA ?_ _)); refine bkF ?_ NB349_374.out _; (with_reducible repeat (first | refine bkN ?_ _ | refine bkD ?_ | refine bkA ?_ _)); exact BK349.out) hb); have n3_ := Z0.mk (bkB (g := gb355) (o := .cells #[.int .i64 t352, .int .i64 t353] 23 (0, 0)) (by (with_reducible repeat (first | refine bkN ?_ _ | refine bkD ?_ | refine bkA ?_ _)); refine bkF ?_ NB355_374.out _; (with_reducible repeat (first | refine bkN ?_ _ | refine bkD ?_ | refine bkA ?_ _)); refine bkF ?_ NB355_374.out _; (with_reducible repeat (first | refine bkN ?_ _ | refine bkD ?_ | refine bkA ?_ _)); exact BK355.out) hb); have n4_ := Z0.mk (bkB (g := gb359) (o := .cells #[.int .i64 t356, .int .i64 t357] 23 (0, 0)) (by (with_reducible repeat (first | refine bkN ?_ _ | refine bkD ?_ | refine bkA ?_ _)); refine bkF ?_ NB359_374.out _; (with_reducible repeat (first | refine bkN ?_ _ | refine bkD ?_ | refine bkA ?_ _)); refine bkF ?_ NB359_374.out _; (with_reducible repeat (first | refine bkN ?_ _ | refine bkD ?_ | refine bkA ?_ _)); exact BK359.out) hb); have n5_ := Z0.mk (bkB (g := gb373) (o := .cells #[.int .i64 x374000_70, .int .i64 x374001_70] 23 (0, 0)) (by (with_reducible repeat (first | refine bkN ?_ _ | refine bkD ?_ | refine bkA ?_ _)); refine bkF ?_ NB373_374.out _; (with_reducible repeat (first | refine bkN ?_ _ | refine bkD ?_ | refine bkA ?_ _)); refine bkF ?_ NB373_374.out _; (with_reducible repeat (first | refine bkN ?_ _ | refine bkD ?_ | refine bkA ?_ _)); exact BK373.out) hb); have n6_ := Z0.mk (bkB (g := gb374) (o := .cells #[.int .i64 t378, .int .i64 t379] 23 (0, 0)) (by (with_reducible repeat (first | refine bkN ?_ _ | refine bkD ?_ | refine bkA ?_ _)); refine bkP (cs := #[.int .i64 t378, .int .i64 0]) ?_ 1 _ rfl; (with_reducible repeat (first | refine bkN ?_ _ | refine bkD ?_ | refine bkA ?_ _)); refine bkP (cs := #[.int .i64 0, .int .i64 0]) ?_ 0 _ rfl; (with_reducible repeat (first | refine bkN ?_ _ | refine bkD ?_ | refine bkA ?_ _)); exact BK374.out) hb); have n7_ := Z0.mk (bwT (by repeat (first | (with_reducible first | exact HB.out | apply bwA | apply bwN | apply bw1 | refine bwS ?_ GE347.out | refine bwS ?_ GE348.out | refine bwS ?_ GE349.out | refine bwS ?_ GE355.out | refine bwS ?_ GE359.out | refine bwS ?_ GE373.out | refine bwS ?_ GE374.out) | exact HB.out)) hb); clear BK347; clear BK348; clear BK349; clear BK355; clear BK359; clear BK373; clear BK374; clear HB; have BK347 := n0_; have BK348 := n1_; have BK349 := n2_; have BK355 := n3_; have BK359 := n4_; have BK373 := n5_; have BK374 := n6_; have HB := n7_; clear n0_ n1_ n2_ n3_ n4_ n5_ n6_ n7_; (try clear hb); (try clear hb2); (try clear hk); (try clear hi)))
            go_ret
            exact ⟨by first | rfl | (simp [errW_none, errW_some] <;> rfl) | (simp [*, errW_none, errW_some] <;> rfl), by repeat (first | (with_reducible first | exact HB.out | apply bwA | apply bwN | apply bw1 | refine bwS ?_ GE347.out | refine bwS ?_ GE348.out | refine bwS ?_ GE349.out | refine bwS ?_ GE355.out | refine bwS ?_ GE359.out | refine bwS ?_ GE373.out | refine bwS ?_ GE374.out) | exact HB.out)⟩
           ·rw [if_neg c100] at H
            exact absurd H (by simp)
          ·rw [if_neg c99] at H
           exact absurd H (by simp)
         ·rw [if_neg c98] at H
          exact absurd H (by simp)
        ·rw [if_neg c97] at H
         exact absurd H (by simp)
       ·rw [if_neg c96] at H
        exact absurd H (by simp)
      ·rw [if_neg c95] at H
       exact absurd H (by simp)
     ·rw [if_neg c93] at H
      have c93b0 : (t372 == 0) = false := beq_eq_false_iff_ne.mpr c93
      have c93b1 : (t372 != 0) = true := bne_iff_ne.mpr c93
      by_cases c129 : t350 = x16_13
      ·rw [if_pos c129] at H
       have c129b0 : (t350 == x16_13) = true := beq_iff_eq.mpr c129
       have c129b1 : (t350 != x16_13) = false := bne_eq_false_iff_eq.mpr c129
       clear c129
       by_cases c130 : t351 = t365
       ·rw [if_pos c130] at H
        have c130b0 : (t351 == t365) = true := beq_iff_eq.mpr c130
        have c130b1 : (t351 != t365) = false := bne_eq_false_iff_eq.mpr c130
        clear c130
        by_cases c131 : (t352 == x374000_70 && (t353 == x374001_70)) = true
        ·rw [if_pos c131] at H
         have c131b0 : (t352 == x374000_70 && (t353 == x374001_70)) = true := c131
         (try (have c131b1 : decide (t352 = x374000_70 && (t353 == x374001_70)) = true := by simpa using c131))
         (try (have c131b2 : (t352 == x374000_70 && (t353 == x374001_70)) = true := by simpa using c131))
         clear c131
         by_cases c132 : t354 = t371
         ·rw [if_pos c132] at H
          have c132b0 : (t354 == t371) = true := beq_iff_eq.mpr c132
          have c132b1 : (t354 != t371) = false := bne_eq_false_iff_eq.mpr c132
          clear c132
          by_cases c133 : (t356 == 0 && (t357 == 0)) = true
          ·rw [if_pos c133] at H
           have c133b0 : (t356 == 0 && (t357 == 0)) = true := c133
           (try (have c133b1 : decide (t356 = 0 && (t357 == 0)) = true := by simpa using c133))
           (try (have c133b2 : (t356 == 0 && (t357 == 0)) = true := by simpa using c133))
           clear c133
           by_cases c134 : t358 = t372
           ·rw [if_pos c134] at H
            have c134b0 : (t358 == t372) = true := beq_iff_eq.mpr c134
            have c134b1 : (t358 != t372) = false := bne_eq_false_iff_eq.mpr c134
            clear c134
            replace H := Option.bind_eq_some_iff.mp H
            obtain ⟨t381, A1350, H⟩ := H
            replace H : (some t381) = some r := H
            have A135 := Z0.mk A1350
            clear A1350
            obtain rfl := Option.some.inj H
            have hnb136 := NB355_347.out
            have hnc136 := NB347_355.out
            have hnb137 := NB355_348.out
            have hnc137 := NB348_355.out
            have hnb138 := NB355_349.out
            have hnc138 := NB349_355.out
            have hnb139 := NB355_359.out
            have hnc139 := NB359_355.out
            have hnb140 := NB355_373.out
            have hnc140 := NB373_355.out
            have hnb141 := NB355_374.out
            have hnc141 := NB374_355.out
            have hcz142_0 : wc.cell? ⟨gb355, 0, none⟩ = some (.int .i64 t352) := (bkC BK355.out 0).trans rfl
            have hcz142_1 : wc.cell? ⟨gb355, 1, none⟩ = some (.int .i64 t353) := (bkC BK355.out 1).trans rfl
            have hfz142_0 := bkZ BK355.out 0
            have hfz142_1 := bkZ BK355.out 1
            have hnb143 := NB373_347.out
            have hnc143 := NB347_373.out
            have hnb144 := NB373_348.out
            have hnc144 := NB348_373.out
            have hnb145 := NB373_349.out
            have hnc145 := NB349_373.out
            have hnb146 := NB373_359.out
            have hnc146 := NB359_373.out
            have hnb147 := NB373_374.out
            have hnc147 := NB374_373.out
            have hcz148_0 : wc.cell? ⟨gb373, 0, none⟩ = some (.int .i64 x374000_70) := (bkC BK373.out 0).trans rfl
            have hcz148_1 : wc.cell? ⟨gb373, 1, none⟩ = some (.int .i64 x374001_70) := (bkC BK373.out 1).trans rfl
            have hfz148_0 := bkZ BK373.out 0
            have hfz148_1 := bkZ BK373.out 1
            have hnb149 := NB359_347.out
            have hnc149 := NB347_359.out
            have hnb150 := NB359_348.out
            have hnc150 := NB348_359.out
            have hnb151 := NB359_349.out
            have hnc151 := NB349_359.out
            have hnb152 := NB359_374.out
            have hnc152 := NB374_359.out
            have hcz153_0 : wc.cell? ⟨gb359, 0, none⟩ = some (.int .i64 t356) := (bkC BK359.out 0).trans rfl
            have hcz153_1 : wc.cell? ⟨gb359, 1, none⟩ = some (.int .i64 t357) := (bkC BK359.out 1).trans rfl
            have hfz153_0 := bkZ BK359.out 0
            have hfz153_1 := bkZ BK359.out 1
            have hnb154 := NB374_347.out
            have hnc154 := NB347_374.out
            have hnb155 := NB374_348.out
            have hnc155 := NB348_374.out
            have hnb156 := NB374_349.out
            have hnc156 := NB349_374.out
            have hcz157_0 : wc.cell? ⟨gb374, 0, none⟩ = some (.int .i64 0) := (bkC BK374.out 0).trans rfl
            have hcz157_1 : wc.cell? ⟨gb374, 1, none⟩ = some (.int .i64 0) := (bkC BK374.out 1).trans rfl
            have hfz157_0 := bkZ BK374.out 0
            have hfz157_1 := bkZ BK374.out 1
            go_wp2_with (first | (go_at_call 22; (with_reducible refine (cl6_awake.calls kj70  t381 _ (hG.below (by repeat (first | (with_reducible first | exact HB.out | apply bwA | apply bwN | apply bw1 | refine bwS ?_ GE347.out | refine bwS ?_ GE348.out | refine bwS ?_ GE349.out | refine bwS ?_ GE355.out | refine bwS ?_ GE359.out | refine bwS ?_ GE373.out | refine bwS ?_ GE374.out) | exact HB.out))) A135.out).mono ?_); rintro e w158 ⟨rfl, hb⟩; have n0_ := Z0.mk (bkB (g := gb347) (o := .cells #[.int .i64 a0_0, .int .i64 a0_1] 24 (0, 0)) (by (with_reducible repeat (first | refine bkN ?_ _ | refine bkD ?_ | refine bkA ?_ _)); exact BK347.out) hb); have n1_ := Z0.mk (bkB (g := gb348) (o := .cells #[.int .i64 a1_0, .int .i64 a1_1] 24 (0, 0)) (by (with_reducible repeat (first | refine bkN ?_ _ | refine bkD ?_ | refine bkA ?_ _)); exact BK348.out) hb); have n2_ := Z0.mk (bkB (g := gb349) (o := .cells #[.int .i64 a2_0, .int .i64 a2_1] 51 (0, 0)) (by (with_reducible repeat (first | refine bkN ?_ _ | refine bkD ?_ | refine bkA ?_ _)); exact BK349.out) hb); have n3_ := Z0.mk (bkB (g := gb355) (o := .cells #[.int .i64 t352, .int .i64 t353] 23 (0, 0)) (by (with_reducible repeat (first | refine bkN ?_ _ | refine bkD ?_ | refine bkA ?_ _)); exact BK355.out) hb); have n4_ := Z0.mk (bkB (g := gb359) (o := .cells #[.int .i64 t356, .int .i64 t357] 23 (0, 0)) (by (with_reducible repeat (first | refine bkN ?_ _ | refine bkD ?_ | refine bkA ?_ _)); exact BK359.out) hb); have n5_ := Z0.mk (bkB (g := gb373) (o := .cells #[.int .i64 x374000_70, .int .i64 x374001_70] 23 (0, 0)) (by (with_reducible repeat (first | refine bkN ?_ _ | refine bkD ?_ | refine bkA ?_ _)); exact BK373.out) hb); have n6_ := Z0.mk (bkB (g := gb374) (o := .cells #[.int .i64 0, .int .i64 0] 23 (0, 0)) (by (with_reducible repeat (first | refine bkN ?_ _ | refine bkD ?_ | refine bkA ?_ _)); exact BK374.out) hb); have n7_ := Z0.mk (bwT (by repeat (first | (with_reducible first | exact HB.out | apply bwA | apply bwN | apply bw1 | refine bwS ?_ GE347.out | refine bwS ?_ GE348.out | refine bwS ?_ GE349.out | refine bwS ?_ GE355.out | refine bwS ?_ GE359.out | refine bwS ?_ GE373.out | refine bwS ?_ GE374.out) | exact HB.out)) hb); clear BK347; clear BK348; clear BK349; clear BK355; clear BK359; clear BK373; clear BK374; clear HB; have BK347 := n0_; have BK348 := n1_; have BK349 := n2_; have BK355 := n3_; have BK359 := n4_; have BK373 := n5_; have BK374 := n6_; have HB := n7_; clear n0_ n1_ n2_ n3_ n4_ n5_ n6_ n7_; (try clear hb); (try clear hb2); (try clear hk); (try clear hi)))
            go_ret
            exact ⟨by first | rfl | (simp [errW_none, errW_some] <;> rfl) | (simp [*, errW_none, errW_some] <;> rfl), by repeat (first | (with_reducible first | exact HB.out | apply bwA | apply bwN | apply bw1 | refine bwS ?_ GE347.out | refine bwS ?_ GE348.out | refine bwS ?_ GE349.out | refine bwS ?_ GE355.out | refine bwS ?_ GE359.out | refine bwS ?_ GE373.out | refine bwS ?_ GE374.out) | exact HB.out)⟩
           ·rw [if_neg c134] at H
            exact absurd H (by simp)
          ·rw [if_neg c133] at H
           exact absurd H (by simp)
         ·rw [if_neg c132] at H
          exact absurd H (by simp)
        ·rw [if_neg c131] at H
         exact absurd H (by simp)
       ·rw [if_neg c130] at H
        exact absurd H (by simp)
      ·rw [if_neg c129] at H
       exact absurd H (by simp)
end Go.Proofs.YtppighiaffppkaaDoor.H
end
section
namespace Go.Proofs.YtppighiaffppkaaDoor.H
open Go.RowKit Go.Proofs.YtppighiaffppkaaDoorW.PrintWords Go.Proofs.YtppighiaffppkaaDoorW.PrintLast Go.Proofs.YtppighiaffppkaaDoorW.PrintMore
set_option linter.unusedSimpArgs false
set_option linter.unusedVariables false
theorem mul_bd {a b A B : Int} (h0 : 0 ≤ a) (h1 : a ≤ A) (h2 : 0 ≤ b) (h3 : b ≤ B) : 0 ≤ a * b ∧ a * b ≤ A * B := ⟨Int.mul_nonneg h0 h2, Int.mul_le_mul h1 h3 h2 (by omega)⟩
theorem Ev.eqb {α β : Type} {x : Option α} {f : Nat → α → Option β} {a : α} {r : β} (h : x = Option.some a) (k : Ev (fun n => f n a) r) : Ev (fun n => x.bind (f n)) r := by
 subst h; exact k
theorem Ev.pos {α : Type} {c : Prop} [Decidable c] {g f : Nat → Option α} {r : α} (hc : c) (k : Ev g r) : Ev (fun n => if c then g n else f n) r := by simpa [hc] using k
theorem Ev.neg {α : Type} {c : Prop} [Decidable c] {g f : Nat → Option α} {r : α} (hc : ¬ c) (k : Ev f r) : Ev (fun n => if c then g n else f n) r := by simpa [hc] using k
theorem ref_CheckRange_eq (n lo hi : Int) : cr1_CheckRange.f n lo hi = some (rangeE n lo hi) := by
 unfold cr1_CheckRange.f rangeE
 split
 ·rfl
 ·split <;> rfl
theorem ref_First_loop (l : List Int) (hl : l.length < 9223372036854775807) : ∀ (d i k : Nat), i + d = l.length → d < k → cr1_First.l0 k l (i : Int) = some (firstE (l.drop i)) := by
 intro d
 induction d with
 | zero =>
  intro i k hi hk
  obtain ⟨k, rfl⟩ : ∃ m, k = m + 1 := ⟨k - 1, by omega⟩
  simp only [cr1_First.l0]
  rw [if_neg (by omega), List.drop_eq_nil_of_le (by omega)]
  rfl
 | succ d ih =>
  intro i k hi hk
  obtain ⟨k, rfl⟩ : ∃ m, k = m + 1 := ⟨k - 1, by omega⟩
  simp only [cr1_First.l0]
  rw [if_pos (by omega), if_pos (by omega), rd_drop (by omega), List.drop_eq_getElem_cons (by omega), wrap_id (by omega) (by omega)]
  have e : ((i : Int) + 1) = ((i + 1 : Nat) : Int) := by omega
  rw [e, ih (i + 1) k (by omega) (by omega)]
  simp only [firstE]
  split <;> rfl
theorem ref_First_ev (l : List Int) (hl : l.length < 9223372036854775807) : Ev (fun k => cr1_First.f k l) (firstE l) :=
 ⟨l.length + 1, fun k hk => by
  have := ref_First_loop l hl l.length 0 k (by omega) (by omega)
  simpa [cr1_First.f] using this⟩
theorem ref_Divisor_loop : ∀ (n k : Nat) (a b : Int), 0 ≤ a → 0 ≤ b → b.toNat ≤ n → n < k → cr6_Divisor.f k a b = some (gcdI a b) := by
 intro n
 induction n with
 | zero =>
  intro k a b ha hb hn hk
  obtain ⟨k, rfl⟩ : ∃ m, k = m + 1 := ⟨k - 1, by omega⟩
  obtain rfl : b = 0 := by omega
  simp only [cr6_Divisor.f]
  rw [if_pos trivial, gcdI_zero_right ha]
 | succ n ih =>
  intro k a b ha hb hn hk
  obtain ⟨k, rfl⟩ : ∃ m, k = m + 1 := ⟨k - 1, by omega⟩
  simp only [cr6_Divisor.f]
  by_cases h : b = 0
  ·subst h; rw [if_pos rfl, gcdI_zero_right ha]
  ·rw [if_neg h]
   have h1 : Int.tmod a b = a % b := Int.tmod_eq_emod_of_nonneg ha
   have h2 : 0 ≤ a % b := Int.emod_nonneg _ h
   have h3 : a % b < b := Int.emod_lt_of_pos _ (by omega)
   rw [ih k b (Int.tmod a b) hb (by omega) (by omega) (by omega), gcdI_step ha (by omega)]
   rfl
theorem ref_Divisor_ev (a b : Int) (ha : 0 ≤ a) (hb : 0 ≤ b) : Ev (fun k => cr6_Divisor.f k a b) (gcdI a b) :=
 ⟨b.toNat + 1, fun k hk => ref_Divisor_loop b.toNat k a b ha hb (by omega) (by omega)⟩
theorem ref_square_ev (a b : Int) (ha : 0 ≤ a) (hb : 0 < b) (ha1 : a ≤ 9223372036854775807) (hb1 : b ≤ 9223372036854775807) : Ev (fun k => cr6_square.f k a b) (lowI a b) := by
 unfold cr6_square.f
 refine (ref_Divisor_ev a b ha (by omega)).bind (Ev.some ?_)
 have h := gcdI_pos (a := a) (Or.inr hb)
 rw [if_neg (by omega), lowI_eq ha hb ha1 hb1]
theorem ref_CheckSquare_ev (n d : Int) : Ev (fun k => cr6_CheckSquare.f k n d) (checkS n d) := by
 unfold cr6_CheckSquare.f checkS
 by_cases h1 : n < 0
 ·refine Ev.pos h1 (Ev.step (fun _ => rfl) (Ev.some ?_)); rw [if_pos (by omega)]
 refine Ev.neg h1 ?_
 by_cases h2 : n > 4000000000000
 ·refine Ev.pos h2 (Ev.step (fun _ => rfl) (Ev.some ?_)); rw [if_pos (by omega)]
 refine Ev.neg h2 ?_
 by_cases h3 : d < 1
 ·refine Ev.pos h3 (Ev.step (fun _ => rfl) (Ev.some ?_)); rw [if_pos (by omega)]
 refine Ev.neg h3 (Ev.step (fun _ => rfl) ?_)
 by_cases h4 : d > 810000
 ·refine Ev.pos (by simpa using h4) (Ev.some ?_); rw [if_pos (by omega)]
 refine Ev.neg (by simpa using h4) ?_
 rw [if_neg (by omega)]
 refine (ref_Divisor_ev n d (by omega) (by omega)).bind (Ev.some ?_)
 split <;> rfl
theorem checkR_ok {p q : Int} (h : checkR p q = 0) : 1 ≤ p ∧ p ≤ q ∧ q ≤ 30 ∧ gcdI p q = 1 := by
 unfold checkR at h
 split at h
 ·omega
 ·split at h
  ·omega
  ·split at h <;> omega
theorem checkS_ok {n d : Int} (h : checkS n d = 0) : 0 ≤ n ∧ n ≤ 4000000000000 ∧ 1 ≤ d ∧ d ≤ 810000 ∧ gcdI n d = 1 := by
 unfold checkS at h
 split at h
 ·omega
 ·split at h <;> omega
theorem sq_bd {p q : Int} (h1 : 1 ≤ p) (h2 : p ≤ q) (h3 : q ≤ 30) : 1 ≤ p * p ∧ p * p ≤ q * q ∧ q * q ≤ 900 ∧ wrap64 (p * p) = p * p ∧ wrap64 (q * q) = q * q ∧ wrap64 (wrap64 (q * q) - wrap64 (p * p)) = q * q - p * p := by
 have a := mul_bd (a := p - 1) (b := p - 1) (by omega) (Int.le_refl _) (by omega) (Int.le_refl _)
 have b := mul_bd (by omega : 0 ≤ p) h2 (by omega : 0 ≤ p) h2
 have c := mul_bd (by omega : 0 ≤ q) h3 (by omega : 0 ≤ q) h3
 have e : (p - 1) * (p - 1) = p * p - 2 * p + 1 := by rw [Int.sub_mul, Int.mul_sub]; omega
 have w1 : wrap64 (p * p) = p * p := wrap_id (by omega) (by omega)
 have w2 : wrap64 (q * q) = q * q := wrap_id (by omega) (by omega)
 refine ⟨by omega, b.2, c.2, w1, w2, ?_⟩
 rw [w1, w2, wrap_id (by omega) (by omega)]
def fullI (p q : Int) : Int × Int := lowI (4 * (p * p) * (q * q - p * p)) (q * q * (q * q))
theorem full_bd {p q : Int} (h1 : 1 ≤ p) (h2 : p ≤ q) (h3 : q ≤ 30) : 0 ≤ 4 * (p * p) * (q * q - p * p) ∧ 4 * (p * p) * (q * q - p * p) ≤ 3600 * 900 ∧ 1 ≤ q * q * (q * q) ∧ q * q * (q * q) ≤ 810000 ∧ wrap64 (wrap64 (4 * wrap64 (p * p)) * wrap64 (wrap64 (q * q) - wrap64 (p * p))) = 4 * (p * p) * (q * q - p * p) ∧ wrap64 (wrap64 (q * q) * wrap64 (q * q)) = q * q * (q * q) := by
 obtain ⟨a1, a2, a3, a4, a5, a6⟩ := sq_bd h1 h2 h3
 have c := mul_bd (a := 4 * (p * p)) (b := q * q - p * p) (A := 3600) (B := 900) (by omega) (by omega) (by omega) (by omega)
 have d := mul_bd (a := q * q) (b := q * q) (A := 900) (B := 900) (by omega) (by omega) (by omega) (by omega)
 have e : (1 : Int) * 1 ≤ q * q * (q * q) := Int.mul_le_mul (by omega) (by omega) (by omega) (by omega)
 have w : wrap64 (4 * (p * p)) = 4 * (p * p) := wrap_id (by omega) (by omega)
 refine ⟨c.1, c.2, e, d.2, ?_, ?_⟩
 ·rw [a6, a4, w, wrap_id (by omega) (by omega)]
 ·rw [a5, wrap_id (by omega) (by omega)]
theorem hang_fullness_ev {p q : Int} (h1 : 1 ≤ p) (h2 : p ≤ q) (h3 : q ≤ 30) : Ev (fun k => hang_fullness.f k p q) (fullI p q) := by
 obtain ⟨b1, b2, b3, b4, b5, b6⟩ := full_bd h1 h2 h3
 unfold hang_fullness.f
 rw [b5, b6]
 exact (hang_square_ev _ _ b1 (by omega) (by omega) (by omega)).bind (Ev.some rfl)
theorem ref_Fullness_ev {p q : Int} (h1 : 1 ≤ p) (h2 : p ≤ q) (h3 : q ≤ 30) : Ev (fun k => cr6_Fullness.f k p q) (fullI p q) := by
 obtain ⟨b1, b2, b3, b4, b5, b6⟩ := full_bd h1 h2 h3
 unfold cr6_Fullness.f
 rw [b5, b6]
 exact (ref_square_ev _ _ b1 (by omega) (by omega) (by omega)).bind (Ev.some rfl)
def ifOk (e : Int) (x : Int × Int) : Int × Int × Int := if e = 0 then (x.1, x.2, 0) else (0, 0, e)
theorem ref_ratio_ev (a b : Int) (ha : 0 ≤ a) (hb : 0 < b) (ha1 : a ≤ 9223372036854775807) (hb1 : b ≤ 9223372036854775807) : Ev (fun k => cr6_ratio.f k a b) (lowI a b) := by
 unfold cr6_ratio.f
 refine (ref_Divisor_ev a b ha (by omega)).bind (Ev.some ?_)
 have h := gcdI_pos (a := a) (Or.inr hb)
 rw [if_neg (by omega), lowI_eq ha hb ha1 hb1]
theorem firstE_ok2 {a b : Int} (h : firstE [a, b] = 0) : a = 0 ∧ b = 0 := by
 simp only [firstE] at h
 split at h
 ·split at h
  ·exact ⟨by assumption, by assumption⟩
  ·contradiction
 ·contradiction
theorem rangeE_ok {n lo hi : Int} (h : rangeE n lo hi = 0) : lo ≤ n ∧ n ≤ hi := by
 unfold rangeE at h
 split at h
 ·omega
 ·split at h <;> omega
def cmpI (a b : Int) : Int := if a < b then -1 else if a > b then 1 else 0
theorem cmp_eq (a b : Int) : cmp_Compare_int.f a b = some (cmpI a b) := by
 unfold cmp_Compare_int.f cmp_isNaN_int.f cmpI
 simp only [Option.bind_some]
 have e : ∀ x : Int, ¬ ((x != x) = true) := fun x h => by simp at h
 rw [if_neg (e a), if_neg (e b)]
 split
 ·rfl
 ·split <;> rfl
def sqCmp (n d m e : Int) : Int := cmpI (wrap64 (n * e)) (wrap64 (m * d))
theorem hang_sqCmp_eq (n d m e : Int) : hang_Square_compare.f n d m e = some (sqCmp n d m e) := by
 unfold hang_Square_compare.f; rw [cmp_eq]; rfl
theorem ref_Compare_eq (n d m e : Int) : cr6_Compare.f n d m e = some (sqCmp n d m e) := by
 unfold cr6_Compare.f sqCmp cmpI
 split
 ·rfl
 ·split <;> rfl
def cmpE (n d m e : Int) : Int := firstE [checkS n d, checkS m e]
theorem hang_Compare_ev (n d m e : Int) : Ev (fun k => hang_Compare.f k n d m e) (if cmpE n d m e = 0 then (sqCmp n d m e, 0) else (0, cmpE n d m e)) := by
 unfold hang_Compare.f
 refine (hang_CheckSquare_ev n d).bind ((hang_CheckSquare_ev m e).bind ((hang_first_ev _ (by simp)).bind ?_))
 have q : firstE [checkS n d, checkS m e] = cmpE n d m e := rfl
 rw [q]
 by_cases h : cmpE n d m e = 0
 ·refine Ev.pos h ?_; rw [if_pos h]; exact Ev.eqb (hang_sqCmp_eq ..) (Ev.some rfl)
 ·refine Ev.neg h ?_; rw [if_neg h]; exact Ev.some rfl
def rootE (n d c : Int) : Int := firstE [checkS n d, rangeE c 0 2]
def tenI (c : Int) : Int := if c = 0 then 1 else if c = 1 then 10 else 100
def rootN (n d c : Int) : Int := (isq (n * tenI c * tenI c / d).toNat : Int)
theorem tenI_bd (c : Int) : 1 ≤ tenI c ∧ tenI c ≤ 100 := by unfold tenI; split <;> (try split) <;> omega
theorem root_bd {n d c : Int} (h : checkS n d = 0) : wrap64 (wrap64 (n * tenI c) * tenI c) = n * tenI c * tenI c ∧ 0 ≤ n * tenI c * tenI c / d ∧ n * tenI c * tenI c / d ≤ 40000000000000000 ∧ wrap64 (Int.tdiv (n * tenI c * tenI c) d) = n * tenI c * tenI c / d := by
 obtain ⟨h1, h2, h3, h4, _⟩ := checkS_ok h
 obtain ⟨t1, t2⟩ := tenI_bd c
 have a := mul_bd (a := n) (b := tenI c) (A := 4000000000000) (B := 100) h1 h2 (by omega) t2
 have b := mul_bd (a := n * tenI c) (b := tenI c) (A := 400000000000000) (B := 100) a.1 a.2 (by omega) t2
 have w : wrap64 (n * tenI c) = n * tenI c := wrap_id (by have := a.1; omega) (by have := a.2; omega)
 have w2 : wrap64 (n * tenI c * tenI c) = n * tenI c * tenI c := wrap_id (by have := b.1; omega) (by have := b.2; omega)
 have e : Int.tdiv (n * tenI c * tenI c) d = n * tenI c * tenI c / d := Int.tdiv_eq_ediv_of_nonneg b.1
 have l1 : 0 ≤ n * tenI c * tenI c / d := Int.ediv_nonneg b.1 (by omega)
 have l2 : n * tenI c * tenI c / d ≤ n * tenI c * tenI c := Int.ediv_le_self _ b.1
 refine ⟨by rw [w, w2], l1, by have := b.2; omega, ?_⟩
 rw [e, wrap_id (by omega) (by have := b.2; omega)]
theorem isq_le {m R : Nat} (h : m < R * R) : isq m < R := by
 obtain ⟨a, _⟩ := isq_spec m
 refine Nat.lt_of_not_le fun hc => ?_
 have := Nat.mul_le_mul hc hc
 omega
theorem rootN_bd {n d c : Int} (h : checkS n d = 0) : 0 ≤ rootN n d c ∧ rootN n d c < 1000000000 := by
 obtain ⟨_, h1, h2, _⟩ := root_bd (c := c) h
 unfold rootN
 have := isq_le (m := (n * tenI c * tenI c / d).toNat) (R := 1000000000) (by omega)
 omega
def rootI (n d c : Int) : Int × Int := lowI (rootN n d c) (tenI c)
theorem tens_eq {c : Int} (h0 : 0 ≤ c) (h1 : c ≤ 2) : hang_tens.f c = some (tenI c) := by
 unfold hang_tens.f tenI
 split
 ·rfl
 ·split
  ·rfl
  ·rw [if_pos (by omega)]
theorem hang_Root_ev (n d c : Int) : Ev (fun k => hang_Root.f k n d c) (ifOk (rootE n d c) (rootI n d c)) := by
 unfold hang_Root.f ifOk
 refine (hang_CheckSquare_ev n d).bind (Ev.eqb (hang_within_eq ..) ((hang_first_ev _ (by simp)).bind ?_))
 have q : firstE [checkS n d, rangeE c 0 2] = rootE n d c := rfl
 rw [q]
 by_cases h : rootE n d c = 0
 ·obtain ⟨h1, h2⟩ := firstE_ok2 h
  have hc := rangeE_ok h2
  have hs := checkS_ok h1
  obtain ⟨b1, b2, b3, b4⟩ := root_bd (c := c) h1
  have r1 := rootN_bd (c := c) h1
  have t1 := tenI_bd c
  refine Ev.pos h ?_
  rw [if_pos h]
  refine Ev.eqb (tens_eq hc.1 hc.2) (Ev.neg (by omega) ?_)
  rw [b1, b4]
  refine Ev.eqb (a := rootN n d c) ?_ ((hang_ratio_ev _ _ r1.1 (by omega) (by omega) (by omega)).bind (Ev.some rfl))
  unfold hang_root.f
  rw [if_pos ⟨b2, by omega⟩]
  rfl
 ·refine Ev.neg h ?_; rw [if_neg h]; exact Ev.some rfl
theorem ref_Root_halves {n d c : Int} (h : checkS n d = 0) : ∀ (g : Nat) (lo hi : Int), 0 ≤ lo → lo < hi → hi ≤ 1000000000 → (hi - lo).toNat ≤ g + 1 → lo * lo ≤ n * tenI c * tenI c / d → n * tenI c * tenI c / d < hi * hi →
  Ev (fun k => cr6_Root.l1 k (tenI c) lo hi n d) (rootI n d c) := by
 obtain ⟨b1, b2, b3, b4⟩ := root_bd (c := c) h
 obtain ⟨s1, s2, s3, s4, _⟩ := checkS_ok h
 have t1 := tenI_bd c
 intro g
 induction g with
 | zero =>
  intro lo hi h0 h1 h2 h3 h4 h5
  refine Ev.step (fun _ => rfl) ?_
  simp only [cr6_Root.l1]
  rw [wrap_id (x := hi - lo) (by omega) (by omega)]
  refine Ev.neg (by omega) ?_
  have e : lo = rootN n d c := by
   have hh : hi = lo + 1 := by omega
   subst hh
   unfold rootN
   rw [isq_unique (r := lo.toNat)]
   ·omega
   ·have : ((lo.toNat * lo.toNat : Nat) : Int) = lo * lo := by rw [Int.natCast_mul, Int.toNat_of_nonneg h0]
    omega
   ·have : (((lo.toNat + 1) * (lo.toNat + 1) : Nat) : Int) = (lo + 1) * (lo + 1) := by rw [Int.natCast_mul, Int.natCast_add, Int.toNat_of_nonneg h0]; rfl
    omega
  subst e
  exact (ref_ratio_ev _ _ h0 (by omega) (by omega) (by omega)).bind (Ev.some rfl)
 | succ g ih =>
  intro lo hi h0 h1 h2 h3 h4 h5
  by_cases hd : hi - lo > 1
  ·refine Ev.step (fun _ => rfl) ?_
   simp only [cr6_Root.l1]
   rw [wrap_id (x := hi - lo) (by omega) (by omega)]
   refine Ev.pos hd (Ev.neg (by omega) ?_)
   have e1 : wrap64 (lo + hi) = lo + hi := wrap_id (by omega) (by omega)
   have e2 : Int.tdiv (lo + hi) 2 = (lo + hi) / 2 := Int.tdiv_eq_ediv_of_nonneg (by omega)
   have e3 : wrap64 ((lo + hi) / 2) = (lo + hi) / 2 := wrap_id (by omega) (by omega)
   have m := mul_bd (a := (lo + hi) / 2) (b := (lo + hi) / 2) (A := 1000000000) (B := 1000000000) (by omega) (by omega) (by omega) (by omega)
   have e4 : wrap64 ((lo + hi) / 2 * ((lo + hi) / 2)) = (lo + hi) / 2 * ((lo + hi) / 2) := wrap_id (by have := m.1; omega) (by have := m.2; omega)
   rw [e1, e2, e3, e4, b1, b4]
   by_cases hm : (lo + hi) / 2 * ((lo + hi) / 2) ≤ n * tenI c * tenI c / d
   ·exact Ev.pos hm (ih _ _ (by omega) (by omega) h2 (by omega) hm h5)
   ·exact Ev.neg hm (ih _ _ h0 (by omega) (by omega) (by omega) h4 (by omega))
  ·refine ih lo hi h0 h1 h2 (by omega) h4 h5
theorem ref_Root_ev {n d c : Int} (h : rootE n d c = 0) : Ev (fun k => cr6_Root.f k n d c) (rootI n d c) := by
 obtain ⟨h1, h2⟩ := firstE_ok2 h
 have hc := rangeE_ok h2
 obtain ⟨b1, b2, b3, b4⟩ := root_bd (c := c) h1
 have fin : Ev (fun k => cr6_Root.l1 k (tenI c) 0 1000000000 n d) (rootI n d c) := ref_Root_halves h1 1000000000 0 1000000000 (by omega) (by omega) (by omega) (by omega) (by simpa using b2) (by omega)
 unfold cr6_Root.f
 have w10 : wrap64 (1 * 10) = 10 := wrap_id (by omega) (by omega)
 have w100 : wrap64 (10 * 10) = 100 := wrap_id (by omega) (by omega)
 have w1 : wrap64 (0 + 1) = 1 := wrap_id (by omega) (by omega)
 have w2 : wrap64 (1 + 1) = 2 := wrap_id (by omega) (by omega)
 rcases (by omega : c = 0 ∨ c = 1 ∨ c = 2) with rfl | rfl | rfl
 ·exact Ev.step (fun _ => rfl) (Ev.neg (by omega) fin)
 ·refine Ev.step (fun _ => rfl) (Ev.pos (by omega) ?_)
  rw [w10, w1]
  exact Ev.step (fun _ => rfl) (Ev.neg (by omega) fin)
 ·refine Ev.step (fun _ => rfl) (Ev.pos (by omega) ?_)
  rw [w10, w1]
  refine Ev.step (fun _ => rfl) (Ev.pos (by omega) ?_)
  rw [w100, w2]
  exact Ev.step (fun _ => rfl) (Ev.neg (by omega) fin)
end Go.Proofs.YtppighiaffppkaaDoor.H
end
section
namespace Go.Proofs.YtppighiaffppkaaDoor.Pure
open Go.RowKit H R Go.Proofs.YtppighiaffppkaaDoorW.PrintWords Go.Proofs.YtppighiaffppkaaDoorW.PrintLast Go.Proofs.YtppighiaffppkaaDoorW.PrintMore
theorem beq2r (a b : Int) : (a == a && (b == b)) = true := by simp
theorem cmpI_swap (a b : Int) : cmpI b a = - cmpI a b := by
 unfold cmpI
 by_cases h1 : a < b
 ·rw [if_pos h1, if_neg (by omega), if_pos (by omega)]; rfl
 ·by_cases h2 : b < a
  ·rw [if_pos h2, if_neg h1, if_pos (by omega)]
  ·rw [if_neg h2, if_neg h1, if_neg (by omega), if_neg (by omega)]; rfl
theorem sqCmp_swap (n d m e : Int) : sqCmp m e n d = - sqCmp n d m e := cmpI_swap _ _
theorem full_sim (x0 : Int) (hx : x0 ≤ 30) : ∀ (g : Nat) (x6 x7 b0 b1 : Int), 1 ≤ b0 → b0 ≤ b1 → b1 ≤ 30 → 1 ≤ x7 → x7 ≤ x6 + 1 → x6 ≤ x0 → ((x0 - x6) * 64 + (x6 + 1 - x7)).toNat ≤ g →
  ∃ r : Int × Int, Ev (fun k => hang_Fullest.l1 k x0 x6 x7 b0 b1) (r.1, r.2, 0) ∧ Ev (fun k => cr6_Fullest.l1 k x0 x6 x7 b0 b1) r := by
 intro g
 induction g with
 | zero =>
  intro x6 x7 b0 b1 h1 h2 h3 h4 h5 h6 h7
  refine ⟨(b0, b1), ?_, ?_⟩
  ·refine Ev.step (fun _ => rfl) (Ev.neg (by omega) ?_)
   rw [wrap_id (by omega) (by omega)]
   exact Ev.step (fun _ => rfl) (Ev.neg (by omega) (Ev.now _))
  ·refine Ev.step (fun _ => rfl) (Ev.neg (by omega) ?_)
   rw [wrap_id (by omega) (by omega)]
   exact Ev.step (fun _ => rfl) (Ev.neg (by omega) (Ev.now _))
 | succ g ih =>
  intro x6 x7 b0 b1 h1 h2 h3 h4 h5 h6 h7
  by_cases hle : x7 ≤ x6
  ·have w : wrap64 (x7 + 1) = x7 + 1 := wrap_id (by omega) (by omega)
   obtain ⟨r, hr1, hr2⟩ := ih x6 (x7 + 1) b0 b1 h1 h2 h3 (by omega) (by omega) h6 (by omega)
   obtain ⟨s, hs1, hs2⟩ := ih x6 (x7 + 1) x7 x6 h4 hle (by omega) (by omega) (by omega) h6 (by omega)
   have hc : checkR x7 x6 = if gcdI x7 x6 = 1 then 0 else 1 := by
    unfold checkR; rw [if_neg (by omega), if_neg (by omega)]
   by_cases hg : gcdI x7 x6 = 1
   ·rw [if_pos hg] at hc
    have t1 := hang_fullness_ev h1 h2 h3
    have t2 := hang_fullness_ev h4 hle (by omega)
    have t3 := ref_Fullness_ev h1 h2 h3
    have t4 := ref_Fullness_ev h4 hle (by omega)
    have e := sqCmp_swap (fullI b0 b1).1 (fullI b0 b1).2 (fullI x7 x6).1 (fullI x7 x6).2
    by_cases c1 : sqCmp (fullI b0 b1).1 (fullI b0 b1).2 (fullI x7 x6).1 (fullI x7 x6).2 < 0
    ·refine ⟨s, ?_, ?_⟩
     ·refine Ev.step (fun _ => rfl) (Ev.pos hle ((hang_CheckRatio_ev x7 x6).bind (Ev.pos hc (t1.bind (t2.bind (Ev.eqb (hang_sqCmp_eq ..) (Ev.pos c1 ?_)))))))
      rw [w]; exact hs1
     ·refine Ev.step (fun _ => rfl) (Ev.pos hle ((ref_Divisor_ev x7 x6 (by omega) (by omega)).bind (Ev.pos hg (t4.bind (t3.bind (Ev.eqb (ref_Compare_eq ..) (Ev.pos (by omega) ?_)))))))
      rw [w]; exact hs2
    ·by_cases c2 : sqCmp (fullI b0 b1).1 (fullI b0 b1).2 (fullI x7 x6).1 (fullI x7 x6).2 = 0
     ·by_cases c3 : wrap64 (x7 * b1) < wrap64 (b0 * x6)
      ·refine ⟨s, ?_, ?_⟩
       ·refine Ev.step (fun _ => rfl) (Ev.pos hle ((hang_CheckRatio_ev x7 x6).bind (Ev.pos hc (t1.bind (t2.bind (Ev.eqb (hang_sqCmp_eq ..) (Ev.neg c1 (Ev.pos c2 (Ev.pos c3 ?_)))))))))
        rw [w]; exact hs1
       ·refine Ev.step (fun _ => rfl) (Ev.pos hle ((ref_Divisor_ev x7 x6 (by omega) (by omega)).bind (Ev.pos hg (t4.bind (t3.bind (Ev.eqb (ref_Compare_eq ..) (Ev.neg (by omega) (Ev.pos (by omega) (Ev.pos c3 ?_)))))))))
        rw [w]; exact hs2
      ·refine ⟨r, ?_, ?_⟩
       ·refine Ev.step (fun _ => rfl) (Ev.pos hle ((hang_CheckRatio_ev x7 x6).bind (Ev.pos hc (t1.bind (t2.bind (Ev.eqb (hang_sqCmp_eq ..) (Ev.neg c1 (Ev.pos c2 (Ev.neg c3 ?_)))))))))
        rw [w]; exact hr1
       ·refine Ev.step (fun _ => rfl) (Ev.pos hle ((ref_Divisor_ev x7 x6 (by omega) (by omega)).bind (Ev.pos hg (t4.bind (t3.bind (Ev.eqb (ref_Compare_eq ..) (Ev.neg (by omega) (Ev.pos (by omega) (Ev.neg c3 ?_)))))))))
        rw [w]; exact hr2
     ·refine ⟨r, ?_, ?_⟩
      ·refine Ev.step (fun _ => rfl) (Ev.pos hle ((hang_CheckRatio_ev x7 x6).bind (Ev.pos hc (t1.bind (t2.bind (Ev.eqb (hang_sqCmp_eq ..) (Ev.neg c1 (Ev.neg c2 ?_))))))))
       rw [w]; exact hr1
      ·refine Ev.step (fun _ => rfl) (Ev.pos hle ((ref_Divisor_ev x7 x6 (by omega) (by omega)).bind (Ev.pos hg (t4.bind (t3.bind (Ev.eqb (ref_Compare_eq ..) (Ev.neg (by omega) (Ev.neg (by omega) ?_))))))))
       rw [w]; exact hr2
   ·rw [if_neg hg] at hc
    refine ⟨r, ?_, ?_⟩
    ·refine Ev.step (fun _ => rfl) (Ev.pos hle ((hang_CheckRatio_ev x7 x6).bind (Ev.neg (by omega) ?_)))
     rw [w]; exact hr1
    ·refine Ev.step (fun _ => rfl) (Ev.pos hle ((ref_Divisor_ev x7 x6 (by omega) (by omega)).bind (Ev.neg hg ?_)))
     rw [w]; exact hr2
  ·have w : wrap64 (x6 + 1) = x6 + 1 := wrap_id (by omega) (by omega)
   by_cases hx6 : x6 + 1 ≤ x0
   ·obtain ⟨r, hr1, hr2⟩ := ih (x6 + 1) 1 b0 b1 h1 h2 h3 (by omega) (by omega) hx6 (by omega)
    refine ⟨r, ?_, ?_⟩
    ·refine Ev.step (fun _ => rfl) (Ev.neg hle ?_)
     rw [w]; exact Ev.step (fun _ => rfl) (Ev.pos hx6 hr1)
    ·refine Ev.step (fun _ => rfl) (Ev.neg hle ?_)
     rw [w]; exact Ev.step (fun _ => rfl) (Ev.pos hx6 hr2)
   ·refine ⟨(b0, b1), ?_, ?_⟩
    ·refine Ev.step (fun _ => rfl) (Ev.neg hle ?_)
     rw [w]; exact Ev.step (fun _ => rfl) (Ev.neg hx6 (Ev.now _))
    ·refine Ev.step (fun _ => rfl) (Ev.neg hle ?_)
     rw [w]; exact Ev.step (fun _ => rfl) (Ev.neg hx6 (Ev.now _))
theorem fullest_both (n : Int) : (rangeE n 1 30 = 0 → ∃ r : Int × Int, Ev (fun k => hang_Fullest.f k n) (r.1, r.2, 0) ∧ Ev (fun k => cr6_Fullest.f k n) r) ∧ (rangeE n 1 30 ≠ 0 → Ev (fun k => hang_Fullest.f k n) (0, 0, rangeE n 1 30)) := by
 constructor
 ·intro h
  have hn := rangeE_ok h
  obtain ⟨r, h1, h2⟩ := full_sim n hn.2 _ 1 1 1 1 (by omega) (by omega) (by omega) (by omega) (by omega) hn.1 (Nat.le_refl _)
  refine ⟨r, ?_, ?_⟩
  ·exact Ev.eqb (hang_within_eq ..) (Ev.pos h (Ev.step (fun _ => rfl) (Ev.pos hn.1 h1)))
  ·exact Ev.step (fun _ => rfl) (Ev.pos hn.1 h2)
 ·intro h
  exact Ev.eqb (hang_within_eq ..) (Ev.neg h (Ev.some rfl))
theorem pure_HangRoots (n d m e c p : Int) (_ : okI n) (_ : okI d) (_ : okI m) (_ : okI e) (_ : okI c) (_ : okI p) : ∃ k, cl6_HangRoots.f k n d m e c p = some true := by
 refine Ev.rounds (g := fun k => cl6_HangRoots.f k n d m e c p) ?_
 unfold cl6_HangRoots.f
 have fin : ∀ (x7 x8 x16 x13 f0 f1 x12 : Int) (u0 u1 : Int), x7 = x16 → x8 = x13 → (ifOk (rootE n d c) (rootI n d c)).1 = u0 → (ifOk (rootE n d c) (rootI n d c)).2.1 = u1 → Ev (fun k => hang_Fullest.f k p) (f0, f1, x12) →
   Ev (fun k => cl6_HangRoots.j1 k x7 x8 (ifOk (rootE n d c) (rootI n d c)).2.2 x12 x13 (rootE n d c) (rangeE p 1 30) x16 c p (ifOk (rootE n d c) (rootI n d c)).1 (ifOk (rootE n d c) (rootI n d c)).2.1 f0 f1 u0 u1 0 0) true := by
  rintro x7 x8 _ _ f0 f1 x12 u0 u1 rfl rfl rfl rfl hf
  have e3 : (ifOk (rootE n d c) (rootI n d c)).2.2 = rootE n d c := by
   unfold ifOk; by_cases h : rootE n d c = 0
   ·rw [if_pos h, h]
   ·rw [if_neg h]
  refine Ev.step (fun _ => rfl) ?_
  by_cases h : rangeE p 1 30 = 0
  ·obtain ⟨r, h1, h2⟩ := (fullest_both p).1 h
   have q : (f0, f1, x12) = (r.1, r.2, (0 : Int)) := by
    obtain ⟨K1, k1⟩ := hf; obtain ⟨K2, k2⟩ := h1
    have a := k1 (K1 + K2) (by omega); have b := k2 (K1 + K2) (by omega)
    exact Option.some.inj (a.symm.trans b)
   simp only [Prod.mk.injEq] at q
   obtain ⟨rfl, rfl, rfl⟩ := q
   exact Ev.pos h (h2.bind (Ev.pos rfl (Ev.pos rfl (Ev.pos (beq2r _ _) (Ev.pos e3 (Ev.pos (beq2r _ _) (Ev.pos h.symm (Ev.now true))))))))
  ·have q : (f0, f1, x12) = ((0 : Int), (0 : Int), rangeE p 1 30) := by
    obtain ⟨K1, k1⟩ := hf; obtain ⟨K2, k2⟩ := (fullest_both p).2 h
    have a := k1 (K1 + K2) (by omega); have b := k2 (K1 + K2) (by omega)
    exact Option.some.inj (a.symm.trans b)
   simp only [Prod.mk.injEq] at q
   obtain ⟨rfl, rfl, rfl⟩ := q
   exact Ev.neg h (Ev.pos rfl (Ev.pos rfl (Ev.pos (beq2r _ _) (Ev.pos e3 (Ev.pos (beq2r _ _) (Ev.pos rfl (Ev.now true)))))))
 have mid : ∀ (x7 x8 x16 x13 f0 f1 x12 : Int), x7 = x16 → x8 = x13 → Ev (fun k => hang_Fullest.f k p) (f0, f1, x12) →
   Ev (fun k => cl6_HangRoots.j0 k x7 x8 (ifOk (rootE n d c) (rootI n d c)).2.2 x12 x13 (rootE n d c) (rangeE p 1 30) x16 n d c p (ifOk (rootE n d c) (rootI n d c)).1 (ifOk (rootE n d c) (rootI n d c)).2.1 f0 f1 0 0 0 0) true := by
  intro x7 x8 x16 x13 f0 f1 x12 q1 q2 hf
  refine Ev.step (fun _ => rfl) ?_
  by_cases h : rootE n d c = 0
  ·refine Ev.pos h ((ref_Root_ev h).bind (fin _ _ _ _ _ _ _ _ _ q1 q2 ?_ ?_ hf))
   ·unfold ifOk; rw [if_pos h]
   ·unfold ifOk; rw [if_pos h]
  ·refine Ev.neg h (fin _ _ _ _ _ _ _ _ _ q1 q2 ?_ ?_ hf)
   ·unfold ifOk; rw [if_neg h]
   ·unfold ifOk; rw [if_neg h]
 have full : ∃ f : Int × Int × Int, Ev (fun k => hang_Fullest.f k p) f := by
  by_cases h : rangeE p 1 30 = 0
  ·obtain ⟨r, h1, _⟩ := (fullest_both p).1 h; exact ⟨_, h1⟩
  ·exact ⟨_, (fullest_both p).2 h⟩
 obtain ⟨⟨f0, f1, f2⟩, hf⟩ := full
 refine (hang_Compare_ev n d m e).bind ((hang_Root_ev n d c).bind (hf.bind ((ref_CheckSquare_ev n d).bind ((ref_CheckSquare_ev m e).bind ((ref_First_ev _ (by simp)).bind ((ref_CheckSquare_ev n d).bind (Ev.eqb (ref_CheckRange_eq ..) ((ref_First_ev _ (by simp)).bind (Ev.eqb (ref_CheckRange_eq ..) ?_)))))))))
 have q1 : firstE [checkS n d, checkS m e] = cmpE n d m e := rfl
 have q2 : firstE [checkS n d, rangeE c 0 2] = rootE n d c := rfl
 rw [q1, q2]
 by_cases h : cmpE n d m e = 0
 ·rw [if_pos h]
  exact Ev.pos h (Ev.eqb (ref_Compare_eq ..) (mid _ _ _ _ _ _ _ rfl h.symm hf))
 ·rw [if_neg h]
  exact Ev.neg h (mid _ _ _ _ _ _ _ rfl rfl hf)
end Go.Proofs.YtppighiaffppkaaDoor.Pure
end
