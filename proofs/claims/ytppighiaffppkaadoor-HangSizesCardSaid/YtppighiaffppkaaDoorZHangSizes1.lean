/- What the statement HangSizes needs beyond the common part: walks of the functions that it calls, the plain law, the row and its card, part 1. Condition: the laid table hang.tens, as the card ties it. -/
import Derived.Test.YtppighiaffppkaaDoorZHangSizes0
section
namespace Go.Proofs.YtppighiaffppkaaDoor.H
open Go.RowKit Go.Proofs.YtppighiaffppkaaDoorW.PrintWords Go.Proofs.YtppighiaffppkaaDoorW.PrintLast Go.Proofs.YtppighiaffppkaaDoorW.PrintMore
attribute [local go_sem high] eqA23 eqA24 eqA25
attribute [local go_sem] max2_int min2_int max_two min_two max_three min_three max_four min_four
set_option linter.unusedSimpArgs false
set_option linter.unusedVariables false
def cl6_HangSizes.j0 : Nat → Int → Int → Int → Int → Int → Int → Int → Int → Int → Int → Int → Int → Int → Int → Int → Int → Int → Int → Int → Int → Int → Int → Option (Bool)
 | 0, _, _, _, _, _, _, _, _, _, _, _, _, _, _, _, _, _, _, _, _, _, _ => none
 | k + 1, x4, x6, x8, x9, x10, x296000, x296001, x296002, x296003, x296004, x300000, x300001, x304000, x304001, x308000, x308001, x321000, x321001, x322000, x322001, x323000, x323001 => if x10 = 0 then ((cr6_Width.f k x296000 x296001 x296003 x296004).bind fun bt326 => ((cr6_Height.f k x296000 x296001 x296003 x296004).bind fun bt328 => (if (x300000 == x321000 && (x300001 == x321001)) = true then (if x4 = x9 then (if (x304000 == bt326.1 && (x304001 == bt326.2)) = true then (if x6 = x10 then (if (x308000 == bt328.1 && (x308001 == bt328.2)) = true then (if x8 = x10 then ((cl6_awake.f k).bind fun t330 => (some t330)) else (none)) else (none)) else (none)) else (none)) else (none)) else (none)))) else (if (x300000 == x321000 && (x300001 == x321001)) = true then (if x4 = x9 then (if (x304000 == x322000 && (x304001 == x322001)) = true then (if x6 = x10 then (if (x308000 == x323000 && (x308001 == x323001)) = true then (if x8 = x10 then ((cl6_awake.f k).bind fun t331 => (some t331)) else (none)) else (none)) else (none)) else (none)) else (none)) else (none))
def cl6_HangSizes.f (k : Nat) (a0_0 : Int) (a0_1 : Int) (a0_2 : Int) (a0_3 : Int) (a0_4 : Int) : Option (Bool) := (hang_Hanging.f k a0_2 a0_3 a0_4).bind fun bt296 => ((hang_Width.f k a0_0 a0_1 a0_3 a0_4).bind fun bt300 => ((hang_Height.f k a0_0 a0_1 a0_3 a0_4).bind fun bt304 => ((cr1_CheckRange.f a0_2 1 60000).bind fun t308 => ((cr6_CheckNetting.f k a0_3 a0_4).bind fun t309 => ((cr1_First.f k (([t308, t309] : List Int))).bind fun t313 => ((cr6_CheckRatio.f k a0_0 a0_1).bind fun t314 => ((cr6_CheckNetting.f k a0_3 a0_4).bind fun t315 => ((cr1_First.f k (([t314, t315] : List Int))).bind fun t319 => (if t313 = 0 then ((cr6_Hanging.f k a0_2 a0_3 a0_4).bind fun bt323 => (cl6_HangSizes.j0 k bt296.2.2 bt300.2.2 bt304.2.2 bt323.2.2 t319 a0_0 a0_1 a0_2 a0_3 a0_4 bt296.1 bt296.2.1 bt300.1 bt300.2.1 bt304.1 bt304.2.1 bt323.1 bt323.2.1 0 0 0 0)) else (cl6_HangSizes.j0 k bt296.2.2 bt300.2.2 bt304.2.2 t313 t319 a0_0 a0_1 a0_2 a0_3 a0_4 bt296.1 bt296.2.1 bt300.1 bt300.2.1 bt304.1 bt304.2.1 0 0 0 0 0 0))))))))))
def cl6_HangSizes.T4 : Bool × List (List Nat × List Nat) := (true, [([], []), ([0], [0]), ([1], [1]), ([], []), ([3], [3]), ([], []), ([5], [5]), ([4, 6, 2], [4, 6]), ([2, 7], [2, 7]), ([8, 7], [8]), ([9, 9, 0, 1, 2, 3, 4, 5, 6, 7, 8, 9], [9])])
def cl6_HangSizes.B4 : List Nat := [0, 1, 3, 0, 8, 0, 32, 127, 255, 511, 1023]
theorem cl6_HangSizes.tab4 : rtab .any (opsOf Tryd.f4 4) = cl6_HangSizes.T4 := by kernel_rfl
theorem cl6_HangSizes.bits4 : waitsOk cl6_HangSizes.T4.2 cl6_HangSizes.B4 = true := by kernel_rfl
def cl6_HangSizes.T5 : Bool × List (List Nat × List Nat) := (true, [([], []), ([0], [0]), ([1], [1]), ([], []), ([3], [3]), ([], []), ([5], [5]), ([4, 6, 2], [4, 6]), ([2, 7], [2, 7]), ([8, 7], [8]), ([9, 9, 0, 1, 2, 3, 4, 5, 6, 7, 8, 9], [9])])
def cl6_HangSizes.B5 : List Nat := [0, 1, 3, 0, 8, 0, 32, 127, 255, 511, 1023]
theorem cl6_HangSizes.tab5 : rtab .any (opsOf Tryd.f4 5) = cl6_HangSizes.T5 := by kernel_rfl
theorem cl6_HangSizes.bits5 : waitsOk cl6_HangSizes.T5.2 cl6_HangSizes.B5 = true := by kernel_rfl
def cl6_HangSizes.T11 : Bool × List (List Nat × List Nat) := (true, [([], []), ([0], [0]), ([], []), ([2], [2]), ([], []), ([4], [4]), ([1, 3, 5], [1, 3, 5]), ([], []), ([7], [7]), ([], []), ([9], [9]), ([], []), ([11], [11]), ([8, 10, 12, 6], [8, 10, 12]), ([6, 13, 0, 1, 2, 3, 4, 5, 6], [6]), ([13, 14, 0, 1, 2, 3, 4, 5, 6, 7, 8, 9, 10, 11, 12, 13, 14], [13])])
def cl6_HangSizes.B11 : List Nat := [0, 1, 0, 4, 0, 16, 63, 0, 128, 0, 512, 0, 2048, 8191, 16383, 32767]
theorem cl6_HangSizes.tab11 : rtab .any (opsOf Tryd.f4 11) = cl6_HangSizes.T11 := by kernel_rfl
theorem cl6_HangSizes.bits11 : waitsOk cl6_HangSizes.T11.2 cl6_HangSizes.B11 = true := by kernel_rfl
set_option maxHeartbeats 8000000 in
set_option maxRecDepth 100000 in
theorem cl6_HangSizes.calls (k : Nat) (a0_0 : Int) (a0_1 : Int) (a0_2 : Int) (a0_3 : Int) (a0_4 : Int) (r : Bool) (w : World) (hG : GH w) (h : cl6_HangSizes.f k a0_0 a0_1 a0_2 a0_3 a0_4 = some r) :
  Calls Tryd.prog 4 #[.agg #[.int .i64 a0_0, .int .i64 a0_1, .int .i64 a0_2, .int .i64 a0_3, .int .i64 a0_4]] w fun e w' => e = .returned (.bool r) ∧ Below w.heap.size w w' := by
 have hu37 := Tryd.underlying37
 have hu23 := Tryd.underlying23
 have hu25 := Tryd.underlying25
 have hu24 := Tryd.underlying24
 have HB := Z0.mk (Below.refl w.heap.size w)
 have H : ((hang_Hanging.f k a0_2 a0_3 a0_4).bind fun bt296 => ((hang_Width.f k a0_0 a0_1 a0_3 a0_4).bind fun bt300 => ((hang_Height.f k a0_0 a0_1 a0_3 a0_4).bind fun bt304 => ((cr1_CheckRange.f a0_2 1 60000).bind fun t308 => ((cr6_CheckNetting.f k a0_3 a0_4).bind fun t309 => ((cr1_First.f k (([t308, t309] : List Int))).bind fun t313 => ((cr6_CheckRatio.f k a0_0 a0_1).bind fun t314 => ((cr6_CheckNetting.f k a0_3 a0_4).bind fun t315 => ((cr1_First.f k (([t314, t315] : List Int))).bind fun t319 => (if t313 = 0 then ((cr6_Hanging.f k a0_2 a0_3 a0_4).bind fun bt323 => (cl6_HangSizes.j0 k bt296.2.2 bt300.2.2 bt304.2.2 bt323.2.2 t319 a0_0 a0_1 a0_2 a0_3 a0_4 bt296.1 bt296.2.1 bt300.1 bt300.2.1 bt304.1 bt304.2.1 bt323.1 bt323.2.1 0 0 0 0)) else (cl6_HangSizes.j0 k bt296.2.2 bt300.2.2 bt304.2.2 t313 t319 a0_0 a0_1 a0_2 a0_3 a0_4 bt296.1 bt296.2.1 bt300.1 bt300.2.1 bt304.1 bt304.2.1 0 0 0 0 0 0))))))))))) = some r := h
 clear h
 replace H := Option.bind_eq_some_iff.mp H
 obtain ⟨⟨t296, t297, t298⟩, A20, H⟩ := H
 replace H : ((hang_Width.f k a0_0 a0_1 a0_3 a0_4).bind fun bt300 => ((hang_Height.f k a0_0 a0_1 a0_3 a0_4).bind fun bt304 => ((cr1_CheckRange.f a0_2 1 60000).bind fun t308 => ((cr6_CheckNetting.f k a0_3 a0_4).bind fun t309 => ((cr1_First.f k (([t308, t309] : List Int))).bind fun t313 => ((cr6_CheckRatio.f k a0_0 a0_1).bind fun t314 => ((cr6_CheckNetting.f k a0_3 a0_4).bind fun t315 => ((cr1_First.f k (([t314, t315] : List Int))).bind fun t319 => (if t313 = 0 then ((cr6_Hanging.f k a0_2 a0_3 a0_4).bind fun bt323 => (cl6_HangSizes.j0 k t298 bt300.2.2 bt304.2.2 bt323.2.2 t319 a0_0 a0_1 a0_2 a0_3 a0_4 t296 t297 bt300.1 bt300.2.1 bt304.1 bt304.2.1 bt323.1 bt323.2.1 0 0 0 0)) else (cl6_HangSizes.j0 k t298 bt300.2.2 bt304.2.2 t313 t319 a0_0 a0_1 a0_2 a0_3 a0_4 t296 t297 bt300.1 bt300.2.1 bt304.1 bt304.2.1 0 0 0 0 0 0)))))))))) = some r := H
 have A2 := Z0.mk A20
 clear A20
 replace H := Option.bind_eq_some_iff.mp H
 obtain ⟨⟨t300, t301, t302⟩, A30, H⟩ := H
 replace H : ((hang_Height.f k a0_0 a0_1 a0_3 a0_4).bind fun bt304 => ((cr1_CheckRange.f a0_2 1 60000).bind fun t308 => ((cr6_CheckNetting.f k a0_3 a0_4).bind fun t309 => ((cr1_First.f k (([t308, t309] : List Int))).bind fun t313 => ((cr6_CheckRatio.f k a0_0 a0_1).bind fun t314 => ((cr6_CheckNetting.f k a0_3 a0_4).bind fun t315 => ((cr1_First.f k (([t314, t315] : List Int))).bind fun t319 => (if t313 = 0 then ((cr6_Hanging.f k a0_2 a0_3 a0_4).bind fun bt323 => (cl6_HangSizes.j0 k t298 t302 bt304.2.2 bt323.2.2 t319 a0_0 a0_1 a0_2 a0_3 a0_4 t296 t297 t300 t301 bt304.1 bt304.2.1 bt323.1 bt323.2.1 0 0 0 0)) else (cl6_HangSizes.j0 k t298 t302 bt304.2.2 t313 t319 a0_0 a0_1 a0_2 a0_3 a0_4 t296 t297 t300 t301 bt304.1 bt304.2.1 0 0 0 0 0 0))))))))) = some r := H
 have A3 := Z0.mk A30
 clear A30
 replace H := Option.bind_eq_some_iff.mp H
 obtain ⟨⟨t304, t305, t306⟩, A40, H⟩ := H
 replace H : ((cr1_CheckRange.f a0_2 1 60000).bind fun t308 => ((cr6_CheckNetting.f k a0_3 a0_4).bind fun t309 => ((cr1_First.f k (([t308, t309] : List Int))).bind fun t313 => ((cr6_CheckRatio.f k a0_0 a0_1).bind fun t314 => ((cr6_CheckNetting.f k a0_3 a0_4).bind fun t315 => ((cr1_First.f k (([t314, t315] : List Int))).bind fun t319 => (if t313 = 0 then ((cr6_Hanging.f k a0_2 a0_3 a0_4).bind fun bt323 => (cl6_HangSizes.j0 k t298 t302 t306 bt323.2.2 t319 a0_0 a0_1 a0_2 a0_3 a0_4 t296 t297 t300 t301 t304 t305 bt323.1 bt323.2.1 0 0 0 0)) else (cl6_HangSizes.j0 k t298 t302 t306 t313 t319 a0_0 a0_1 a0_2 a0_3 a0_4 t296 t297 t300 t301 t304 t305 0 0 0 0 0 0)))))))) = some r := H
 have A4 := Z0.mk A40
 clear A40
 replace H := Option.bind_eq_some_iff.mp H
 obtain ⟨t308, A50, H⟩ := H
 replace H : ((cr6_CheckNetting.f k a0_3 a0_4).bind fun t309 => ((cr1_First.f k (([t308, t309] : List Int))).bind fun t313 => ((cr6_CheckRatio.f k a0_0 a0_1).bind fun t314 => ((cr6_CheckNetting.f k a0_3 a0_4).bind fun t315 => ((cr1_First.f k (([t314, t315] : List Int))).bind fun t319 => (if t313 = 0 then ((cr6_Hanging.f k a0_2 a0_3 a0_4).bind fun bt323 => (cl6_HangSizes.j0 k t298 t302 t306 bt323.2.2 t319 a0_0 a0_1 a0_2 a0_3 a0_4 t296 t297 t300 t301 t304 t305 bt323.1 bt323.2.1 0 0 0 0)) else (cl6_HangSizes.j0 k t298 t302 t306 t313 t319 a0_0 a0_1 a0_2 a0_3 a0_4 t296 t297 t300 t301 t304 t305 0 0 0 0 0 0))))))) = some r := H
 have A5 := Z0.mk A50
 clear A50
 replace H := Option.bind_eq_some_iff.mp H
 obtain ⟨t309, A60, H⟩ := H
 replace H : ((cr1_First.f k (([t308, t309] : List Int))).bind fun t313 => ((cr6_CheckRatio.f k a0_0 a0_1).bind fun t314 => ((cr6_CheckNetting.f k a0_3 a0_4).bind fun t315 => ((cr1_First.f k (([t314, t315] : List Int))).bind fun t319 => (if t313 = 0 then ((cr6_Hanging.f k a0_2 a0_3 a0_4).bind fun bt323 => (cl6_HangSizes.j0 k t298 t302 t306 bt323.2.2 t319 a0_0 a0_1 a0_2 a0_3 a0_4 t296 t297 t300 t301 t304 t305 bt323.1 bt323.2.1 0 0 0 0)) else (cl6_HangSizes.j0 k t298 t302 t306 t313 t319 a0_0 a0_1 a0_2 a0_3 a0_4 t296 t297 t300 t301 t304 t305 0 0 0 0 0 0)))))) = some r := H
 have A6 := Z0.mk A60
 clear A60
 obtain ⟨y310, hy310⟩ : ∃ y_ : List Int, y_ = (([t308, t309] : List Int)) := ⟨_, rfl⟩
 replace H : ((cr1_First.f k y310).bind fun t313 => ((cr6_CheckRatio.f k a0_0 a0_1).bind fun t314 => ((cr6_CheckNetting.f k a0_3 a0_4).bind fun t315 => ((cr1_First.f k (([t314, t315] : List Int))).bind fun t319 => (if t313 = 0 then ((cr6_Hanging.f k a0_2 a0_3 a0_4).bind fun bt323 => (cl6_HangSizes.j0 k t298 t302 t306 bt323.2.2 t319 a0_0 a0_1 a0_2 a0_3 a0_4 t296 t297 t300 t301 t304 t305 bt323.1 bt323.2.1 0 0 0 0)) else (cl6_HangSizes.j0 k t298 t302 t306 t313 t319 a0_0 a0_1 a0_2 a0_3 a0_4 t296 t297 t300 t301 t304 t305 0 0 0 0 0 0)))))) = some r := by first | (rw [hy310]; with_reducible exact H) | (have H2_ := (Option.bind_some _ _).symm.trans H; rw [hy310]; with_reducible exact H2_) | (have H2_ := (Option.bind_some _ _).symm.trans H; with_reducible exact H2_) | with_reducible exact H | (rw [hy310]; exact H) | exact H
 have Ny310 := Z0.mk hy310
 clear hy310
 replace H := Option.bind_eq_some_iff.mp H
 obtain ⟨t313, A70, H⟩ := H
 replace H : ((cr6_CheckRatio.f k a0_0 a0_1).bind fun t314 => ((cr6_CheckNetting.f k a0_3 a0_4).bind fun t315 => ((cr1_First.f k (([t314, t315] : List Int))).bind fun t319 => (if t313 = 0 then ((cr6_Hanging.f k a0_2 a0_3 a0_4).bind fun bt323 => (cl6_HangSizes.j0 k t298 t302 t306 bt323.2.2 t319 a0_0 a0_1 a0_2 a0_3 a0_4 t296 t297 t300 t301 t304 t305 bt323.1 bt323.2.1 0 0 0 0)) else (cl6_HangSizes.j0 k t298 t302 t306 t313 t319 a0_0 a0_1 a0_2 a0_3 a0_4 t296 t297 t300 t301 t304 t305 0 0 0 0 0 0))))) = some r := H
 have A7 := Z0.mk A70
 clear A70
 replace H := Option.bind_eq_some_iff.mp H
 obtain ⟨t314, A80, H⟩ := H
 replace H : ((cr6_CheckNetting.f k a0_3 a0_4).bind fun t315 => ((cr1_First.f k (([t314, t315] : List Int))).bind fun t319 => (if t313 = 0 then ((cr6_Hanging.f k a0_2 a0_3 a0_4).bind fun bt323 => (cl6_HangSizes.j0 k t298 t302 t306 bt323.2.2 t319 a0_0 a0_1 a0_2 a0_3 a0_4 t296 t297 t300 t301 t304 t305 bt323.1 bt323.2.1 0 0 0 0)) else (cl6_HangSizes.j0 k t298 t302 t306 t313 t319 a0_0 a0_1 a0_2 a0_3 a0_4 t296 t297 t300 t301 t304 t305 0 0 0 0 0 0)))) = some r := H
 have A8 := Z0.mk A80
 clear A80
 replace H := Option.bind_eq_some_iff.mp H
 obtain ⟨t315, A90, H⟩ := H
 replace H : ((cr1_First.f k (([t314, t315] : List Int))).bind fun t319 => (if t313 = 0 then ((cr6_Hanging.f k a0_2 a0_3 a0_4).bind fun bt323 => (cl6_HangSizes.j0 k t298 t302 t306 bt323.2.2 t319 a0_0 a0_1 a0_2 a0_3 a0_4 t296 t297 t300 t301 t304 t305 bt323.1 bt323.2.1 0 0 0 0)) else (cl6_HangSizes.j0 k t298 t302 t306 t313 t319 a0_0 a0_1 a0_2 a0_3 a0_4 t296 t297 t300 t301 t304 t305 0 0 0 0 0 0))) = some r := H
 have A9 := Z0.mk A90
 clear A90
 obtain ⟨y316, hy316⟩ : ∃ y_ : List Int, y_ = (([t314, t315] : List Int)) := ⟨_, rfl⟩
 replace H : ((cr1_First.f k y316).bind fun t319 => (if t313 = 0 then ((cr6_Hanging.f k a0_2 a0_3 a0_4).bind fun bt323 => (cl6_HangSizes.j0 k t298 t302 t306 bt323.2.2 t319 a0_0 a0_1 a0_2 a0_3 a0_4 t296 t297 t300 t301 t304 t305 bt323.1 bt323.2.1 0 0 0 0)) else (cl6_HangSizes.j0 k t298 t302 t306 t313 t319 a0_0 a0_1 a0_2 a0_3 a0_4 t296 t297 t300 t301 t304 t305 0 0 0 0 0 0))) = some r := by first | (rw [hy316]; with_reducible exact H) | (have H2_ := (Option.bind_some _ _).symm.trans H; rw [hy316]; with_reducible exact H2_) | (have H2_ := (Option.bind_some _ _).symm.trans H; with_reducible exact H2_) | with_reducible exact H | (rw [hy316]; exact H) | exact H
 have Ny316 := Z0.mk hy316
 clear hy316
 replace H := Option.bind_eq_some_iff.mp H
 obtain ⟨t319, A100, H⟩ := H
 replace H : (if t313 = 0 then ((cr6_Hanging.f k a0_2 a0_3 a0_4).bind fun bt323 => (cl6_HangSizes.j0 k t298 t302 t306 bt323.2.2 t319 a0_0 a0_1 a0_2 a0_3 a0_4 t296 t297 t300 t301 t304 t305 bt323.1 bt323.2.1 0 0 0 0)) else (cl6_HangSizes.j0 k t298 t302 t306 t313 t319 a0_0 a0_1 a0_2 a0_3 a0_4 t296 t297 t300 t301 t304 t305 0 0 0 0 0 0)) = some r := H
 have A10 := Z0.mk A100
 clear A100
 have HC11 := Z0.mk H
 clear H
 go_enter Tryd.func4, Tryd.ntmps4
 try go_wp2_with (first | ((with_reducible refine gtD (N := 1) rfl ?_); refine bxE ?hg (N := 1) ?hd (cs := #[.int .i64 a0_0, .int .i64 a0_1, .int .i64 a0_2, .int .i64 a0_3, .int .i64 a0_4]) (t := 37) ?hr ?_; (case hd => rfl); (case hg => rfl); (case hr => first | (go_simp; done) | (go_simp; rfl)); intro gb295 hg w12 hbox hb; have n0_ := Z0.mk (bwT (by repeat (first | (with_reducible first | exact HB.out | apply bwA | apply bwN | apply bw1) | exact HB.out)) hb); have n1_ := Z0.mk (hbox); have n2_ := Z0.mk ((by rw [hg]; exact (bwZ (by repeat (first | (with_reducible first | exact HB.out | apply bwA | apply bwN | apply bw1) | exact HB.out))) : w.heap.size ≤ gb295)); have n3_ := Z0.mk ((by rw [hg]; exact (bwZ (by repeat (first | (with_reducible first | exact HB.out | apply bwA | apply bwN | apply bw1) | exact HB.out))) : w.heap.size ≤ gb295)); clear HB; have HB := n0_; have BK295 := n1_; have GW295 := n2_; have GE295 := n3_; clear n0_ n1_ n2_ n3_; clear hb hbox hg; have hcz13_0 : w12.cell? ⟨gb295, 0, none⟩ = some (.int .i64 a0_0) := (bkC BK295.out 0).trans rfl; have hcz13_1 : w12.cell? ⟨gb295, 1, none⟩ = some (.int .i64 a0_1) := (bkC BK295.out 1).trans rfl; have hcz13_2 : w12.cell? ⟨gb295, 2, none⟩ = some (.int .i64 a0_2) := (bkC BK295.out 2).trans rfl; have hcz13_3 : w12.cell? ⟨gb295, 3, none⟩ = some (.int .i64 a0_3) := (bkC BK295.out 3).trans rfl; have hcz13_4 : w12.cell? ⟨gb295, 4, none⟩ = some (.int .i64 a0_4) := (bkC BK295.out 4).trans rfl; have hfz13_0 := bkZ BK295.out 0; have hfz13_1 := bkZ BK295.out 1; have hfz13_2 := bkZ BK295.out 2; have hfz13_3 := bkZ BK295.out 3; have hfz13_4 := bkZ BK295.out 4) | ((with_reducible refine gtC (f := 23) rfl ?_); refine goesL_ (some 21) rfl rfl Tryd.func23 (by kernel_rfl) rfl #[.int .i64 a0_2, .int .i64 a0_3, .int .i64 a0_4] rfl (by (try simp only [List.map_toArray, List.map_cons, List.map_nil]); first | done | rfl | (simp only [List.length_drop, List.length_take]; rfl)) ?_; (with_reducible refine (hang_Hanging.calls k a0_2 a0_3 a0_4 t296 t297 t298 _ A2.out).mono ?_); rintro e w14 ⟨rfl, hb⟩; refine ⟨_, rfl, ?_⟩; have n0_ := Z0.mk (bkB (g := gb295) (o := .cells #[.int .i64 a0_0, .int .i64 a0_1, .int .i64 a0_2, .int .i64 a0_3, .int .i64 a0_4] 37 (0, 0)) (by (with_reducible repeat (first | refine bkN ?_ _ | refine bkD ?_ | refine bkA ?_ _)); exact BK295.out) hb); have n1_ := Z0.mk (bwT (by repeat (first | (with_reducible first | exact HB.out | apply bwA | apply bwN | apply bw1 | refine bwS ?_ GE295.out) | exact HB.out)) hb); clear BK295; clear HB; have BK295 := n0_; have HB := n1_; clear n0_ n1_; (try clear hb); (try clear hb2); (try clear hk); (try clear hi)) | ((with_reducible refine gtD (N := 3) rfl ?_); refine bxE ?hg (N := 3) ?hd (cs := #[.int .i64 0, .int .i64 0]) (t := 23) ?hr ?_; (case hd => rfl); (case hg => rfl); (case hr => first | (go_simp; done) | (go_simp; rfl)); intro gb299 hg w15 hbox hb; have n0_ := Z0.mk (bkB (g := gb295) (o := .cells #[.int .i64 a0_0, .int .i64 a0_1, .int .i64 a0_2, .int .i64 a0_3, .int .i64 a0_4] 37 (0, 0)) (by (with_reducible repeat (first | refine bkN ?_ _ | refine bkD ?_ | refine bkA ?_ _)); exact BK295.out) hb); have n1_ := Z0.mk (bwT (by repeat (first | (with_reducible first | exact HB.out | apply bwA | apply bwN | apply bw1 | refine bwS ?_ GE295.out) | exact HB.out)) hb); have n2_ := Z0.mk (hbox); have n3_ := Z0.mk ((by rw [hg]; exact (bwZ (by repeat (first | (with_reducible first | exact HB.out | apply bwA | apply bwN | apply bw1 | refine bwS ?_ GE295.out) | exact HB.out))) : w.heap.size ≤ gb299)); have n4_ := Z0.mk ((by rw [hg]; exact (bwZ (by repeat (first | (with_reducible first | exact HB.out | apply bwA | apply bwN | apply bw1 | refine bwS ?_ GE295.out) | exact HB.out))) : w.heap.size ≤ gb299)); have n5_ := Z0.mk ((by rw [hg]; exact Nat.ne_of_lt (blk_lt (g := gb295) (o := .cells #[.int .i64 a0_0, .int .i64 a0_1, .int .i64 a0_2, .int .i64 a0_3, .int .i64 a0_4] 37 (0, 0)) (by (with_reducible repeat (first | refine bkN ?_ _ | refine bkD ?_ | refine bkA ?_ _)); exact BK295.out)) : gb295 ≠ gb299)); have n6_ := Z0.mk ((by rw [hg]; exact Nat.ne_of_gt (blk_lt (g := gb295) (o := .cells #[.int .i64 a0_0, .int .i64 a0_1, .int .i64 a0_2, .int .i64 a0_3, .int .i64 a0_4] 37 (0, 0)) (by (with_reducible repeat (first | refine bkN ?_ _ | refine bkD ?_ | refine bkA ?_ _)); exact BK295.out)) : gb299 ≠ gb295)); clear BK295; clear HB; have BK295 := n0_; have HB := n1_; have BK299 := n2_; have GW299 := n3_; have GE299 := n4_; have NB295_299 := n5_; have NB299_295 := n6_; clear n0_ n1_ n2_ n3_ n4_ n5_ n6_; clear hb hbox hg; have hnb16 := NB299_295.out; have hnc16 := NB295_299.out; have hcz17_0 : w15.cell? ⟨gb299, 0, none⟩ = some (.int .i64 0) := (bkC BK299.out 0).trans rfl; have hcz17_1 : w15.cell? ⟨gb299, 1, none⟩ = some (.int .i64 0) := (bkC BK299.out 1).trans rfl; have hfz17_0 := bkZ BK299.out 0; have hfz17_1 := bkZ BK299.out 1; have hcz18_0 : w15.cell? ⟨gb295, 0, none⟩ = some (.int .i64 a0_0) := (bkC BK295.out 0).trans rfl; have hcz18_1 : w15.cell? ⟨gb295, 1, none⟩ = some (.int .i64 a0_1) := (bkC BK295.out 1).trans rfl; have hcz18_2 : w15.cell? ⟨gb295, 2, none⟩ = some (.int .i64 a0_2) := (bkC BK295.out 2).trans rfl; have hcz18_3 : w15.cell? ⟨gb295, 3, none⟩ = some (.int .i64 a0_3) := (bkC BK295.out 3).trans rfl; have hcz18_4 : w15.cell? ⟨gb295, 4, none⟩ = some (.int .i64 a0_4) := (bkC BK295.out 4).trans rfl; have hfz18_0 := bkZ BK295.out 0; have hfz18_1 := bkZ BK295.out 1; have hfz18_2 := bkZ BK295.out 2; have hfz18_3 := bkZ BK295.out 3; have hfz18_4 := bkZ BK295.out 4) | ((with_reducible refine gtC (f := 24) rfl ?_); refine goesL_ (some 31) rfl rfl Tryd.func24 (by kernel_rfl) rfl #[.agg #[.int .i64 a0_0, .int .i64 a0_1], .int .i64 a0_3, .int .i64 a0_4] rfl (by (try simp only [List.map_toArray, List.map_cons, List.map_nil]); first | done | rfl | (simp only [List.length_drop, List.length_take]; rfl)) ?_; (with_reducible refine (hang_Width.calls k a0_0 a0_1 a0_3 a0_4 t300 t301 t302 _ A3.out).mono ?_); rintro e w19 ⟨rfl, hb⟩; refine ⟨_, rfl, ?_⟩; have n0_ := Z0.mk (bkB (g := gb295) (o := .cells #[.int .i64 a0_0, .int .i64 a0_1, .int .i64 a0_2, .int .i64 a0_3, .int .i64 a0_4] 37 (0, 0)) (by (with_reducible repeat (first | refine bkN ?_ _ | refine bkD ?_ | refine bkA ?_ _)); refine bkF ?_ NB295_299.out _; (with_reducible repeat (first | refine bkN ?_ _ | refine bkD ?_ | refine bkA ?_ _)); refine bkF ?_ NB295_299.out _; (with_reducible repeat (first | refine bkN ?_ _ | refine bkD ?_ | refine bkA ?_ _)); exact BK295.out) hb); have n1_ := Z0.mk (bkB (g := gb299) (o := .cells #[.int .i64 t296, .int .i64 t297] 23 (0, 0)) (by (with_reducible repeat (first | refine bkN ?_ _ | refine bkD ?_ | refine bkA ?_ _)); refine bkP (cs := #[.int .i64 t296, .int .i64 0]) ?_ 1 _ rfl; (with_reducible repeat (first | refine bkN ?_ _ | refine bkD ?_ | refine bkA ?_ _)); refine bkP (cs := #[.int .i64 0, .int .i64 0]) ?_ 0 _ rfl; (with_reducible repeat (first | refine bkN ?_ _ | refine bkD ?_ | refine bkA ?_ _)); exact BK299.out) hb); have n2_ := Z0.mk (bwT (by repeat (first | (with_reducible first | exact HB.out | apply bwA | apply bwN | apply bw1 | refine bwS ?_ GE295.out | refine bwS ?_ GE299.out) | exact HB.out)) hb); clear BK295; clear BK299; clear HB; have BK295 := n0_; have BK299 := n1_; have HB := n2_; clear n0_ n1_ n2_; (try clear hb); (try clear hb2); (try clear hk); (try clear hi)) | ((with_reducible refine gtD (N := 5) rfl ?_); refine bxE ?hg (N := 5) ?hd (cs := #[.int .i64 0, .int .i64 0]) (t := 23) ?hr ?_; (case hd => rfl); (case hg => rfl); (case hr => first | (go_simp; done) | (go_simp; rfl)); intro gb303 hg w20 hbox hb; have n0_ := Z0.mk (bkB (g := gb295) (o := .cells #[.int .i64 a0_0, .int .i64 a0_1, .int .i64 a0_2, .int .i64 a0_3, .int .i64 a0_4] 37 (0, 0)) (by (with_reducible repeat (first | refine bkN ?_ _ | refine bkD ?_ | refine bkA ?_ _)); exact BK295.out) hb); have n1_ := Z0.mk (bkB (g := gb299) (o := .cells #[.int .i64 t296, .int .i64 t297] 23 (0, 0)) (by (with_reducible repeat (first | refine bkN ?_ _ | refine bkD ?_ | refine bkA ?_ _)); exact BK299.out) hb); have n2_ := Z0.mk (bwT (by repeat (first | (with_reducible first | exact HB.out | apply bwA | apply bwN | apply bw1 | refine bwS ?_ GE295.out | refine bwS ?_ GE299.out) | exact HB.out)) hb); have n3_ := Z0.mk (hbox); have n4_ := Z0.mk ((by rw [hg]; exact (bwZ (by repeat (first | (with_reducible first | exact HB.out | apply bwA | apply bwN | apply bw1 | refine bwS ?_ GE295.out | refine bwS ?_ GE299.out) | exact HB.out))) : w.heap.size ≤ gb303)); have n5_ := Z0.mk ((by rw [hg]; exact (bwZ (by repeat (first | (with_reducible first | exact HB.out | apply bwA | apply bwN | apply bw1 | refine bwS ?_ GE295.out | refine bwS ?_ GE299.out) | exact HB.out))) : w.heap.size ≤ gb303)); have n6_ := Z0.mk ((by rw [hg]; exact Nat.ne_of_lt (blk_lt (g := gb295) (o := .cells #[.int .i64 a0_0, .int .i64 a0_1, .int .i64 a0_2, .int .i64 a0_3, .int .i64 a0_4] 37 (0, 0)) (by (with_reducible repeat (first | refine bkN ?_ _ | refine bkD ?_ | refine bkA ?_ _)); exact BK295.out)) : gb295 ≠ gb303)); have n7_ := Z0.mk ((by rw [hg]; exact Nat.ne_of_gt (blk_lt (g := gb295) (o := .cells #[.int .i64 a0_0, .int .i64 a0_1, .int .i64 a0_2, .int .i64 a0_3, .int .i64 a0_4] 37 (0, 0)) (by (with_reducible repeat (first | refine bkN ?_ _ | refine bkD ?_ | refine bkA ?_ _)); exact BK295.out)) : gb303 ≠ gb295)); have n8_ := Z0.mk ((by rw [hg]; exact Nat.ne_of_lt (blk_lt (g := gb299) (o := .cells #[.int .i64 t296, .int .i64 t297] 23 (0, 0)) (by (with_reducible repeat (first | refine bkN ?_ _ | refine bkD ?_ | refine bkA ?_ _)); exact BK299.out)) : gb299 ≠ gb303)); have n9_ := Z0.mk ((by rw [hg]; exact Nat.ne_of_gt (blk_lt (g := gb299) (o := .cells #[.int .i64 t296, .int .i64 t297] 23 (0, 0)) (by (with_reducible repeat (first | refine bkN ?_ _ | refine bkD ?_ | refine bkA ?_ _)); exact BK299.out)) : gb303 ≠ gb299)); clear BK295; clear BK299; clear HB; have BK295 := n0_; have BK299 := n1_; have HB := n2_; have BK303 := n3_; have GW303 := n4_; have GE303 := n5_; have NB295_303 := n6_; have NB303_295 := n7_; have NB299_303 := n8_; have NB303_299 := n9_; clear n0_ n1_ n2_ n3_ n4_ n5_ n6_ n7_ n8_ n9_; clear hb hbox hg; have hnb21 := NB303_295.out; have hnc21 := NB295_303.out; have hnb22 := NB303_299.out; have hnc22 := NB299_303.out; have hcz23_0 : w20.cell? ⟨gb303, 0, none⟩ = some (.int .i64 0) := (bkC BK303.out 0).trans rfl; have hcz23_1 : w20.cell? ⟨gb303, 1, none⟩ = some (.int .i64 0) := (bkC BK303.out 1).trans rfl; have hfz23_0 := bkZ BK303.out 0; have hfz23_1 := bkZ BK303.out 1; have hcz24_0 : w20.cell? ⟨gb295, 0, none⟩ = some (.int .i64 a0_0) := (bkC BK295.out 0).trans rfl; have hcz24_1 : w20.cell? ⟨gb295, 1, none⟩ = some (.int .i64 a0_1) := (bkC BK295.out 1).trans rfl; have hcz24_2 : w20.cell? ⟨gb295, 2, none⟩ = some (.int .i64 a0_2) := (bkC BK295.out 2).trans rfl; have hcz24_3 : w20.cell? ⟨gb295, 3, none⟩ = some (.int .i64 a0_3) := (bkC BK295.out 3).trans rfl; have hcz24_4 : w20.cell? ⟨gb295, 4, none⟩ = some (.int .i64 a0_4) := (bkC BK295.out 4).trans rfl; have hfz24_0 := bkZ BK295.out 0; have hfz24_1 := bkZ BK295.out 1; have hfz24_2 := bkZ BK295.out 2; have hfz24_3 := bkZ BK295.out 3; have hfz24_4 := bkZ BK295.out 4) | ((with_reducible refine gtC (f := 25) rfl ?_); refine goesL_ (some 41) rfl rfl Tryd.func25 (by kernel_rfl) rfl #[.agg #[.int .i64 a0_0, .int .i64 a0_1], .int .i64 a0_3, .int .i64 a0_4] rfl (by (try simp only [List.map_toArray, List.map_cons, List.map_nil]); first | done | rfl | (simp only [List.length_drop, List.length_take]; rfl)) ?_; (with_reducible refine (hang_Height.calls k a0_0 a0_1 a0_3 a0_4 t304 t305 t306 _ A4.out).mono ?_); rintro e w25 ⟨rfl, hb⟩; refine ⟨_, rfl, ?_⟩; have n0_ := Z0.mk (bkB (g := gb295) (o := .cells #[.int .i64 a0_0, .int .i64 a0_1, .int .i64 a0_2, .int .i64 a0_3, .int .i64 a0_4] 37 (0, 0)) (by (with_reducible repeat (first | refine bkN ?_ _ | refine bkD ?_ | refine bkA ?_ _)); refine bkF ?_ NB295_303.out _; (with_reducible repeat (first | refine bkN ?_ _ | refine bkD ?_ | refine bkA ?_ _)); refine bkF ?_ NB295_303.out _; (with_reducible repeat (first | refine bkN ?_ _ | refine bkD ?_ | refine bkA ?_ _)); exact BK295.out) hb); have n1_ := Z0.mk (bkB (g := gb299) (o := .cells #[.int .i64 t296, .int .i64 t297] 23 (0, 0)) (by (with_reducible repeat (first | refine bkN ?_ _ | refine bkD ?_ | refine bkA ?_ _)); refine bkF ?_ NB299_303.out _; (with_reducible repeat (first | refine bkN ?_ _ | refine bkD ?_ | refine bkA ?_ _)); refine bkF ?_ NB299_303.out _; (with_reducible repeat (first | refine bkN ?_ _ | refine bkD ?_ | refine bkA ?_ _)); exact BK299.out) hb); have n2_ := Z0.mk (bkB (g := gb303) (o := .cells #[.int .i64 t300, .int .i64 t301] 23 (0, 0)) (by (with_reducible repeat (first | refine bkN ?_ _ | refine bkD ?_ | refine bkA ?_ _)); refine bkP (cs := #[.int .i64 t300, .int .i64 0]) ?_ 1 _ rfl; (with_reducible repeat (first | refine bkN ?_ _ | refine bkD ?_ | refine bkA ?_ _)); refine bkP (cs := #[.int .i64 0, .int .i64 0]) ?_ 0 _ rfl; (with_reducible repeat (first | refine bkN ?_ _ | refine bkD ?_ | refine bkA ?_ _)); exact BK303.out) hb); have n3_ := Z0.mk (bwT (by repeat (first | (with_reducible first | exact HB.out | apply bwA | apply bwN | apply bw1 | refine bwS ?_ GE295.out | refine bwS ?_ GE299.out | refine bwS ?_ GE303.out) | exact HB.out)) hb); clear BK295; clear BK299; clear BK303; clear HB; have BK295 := n0_; have BK299 := n1_; have BK303 := n2_; have HB := n3_; clear n0_ n1_ n2_ n3_; (try clear hb); (try clear hb2); (try clear hk); (try clear hi)) | ((with_reducible refine gtD (N := 7) rfl ?_); refine bxE ?hg (N := 7) ?hd (cs := #[.int .i64 0, .int .i64 0]) (t := 25) ?hr ?_; (case hd => rfl); (case hg => rfl); (case hr => first | (go_simp; done) | (go_simp; rfl)); intro gb307 hg w26 hbox hb; have n0_ := Z0.mk (bkB (g := gb295) (o := .cells #[.int .i64 a0_0, .int .i64 a0_1, .int .i64 a0_2, .int .i64 a0_3, .int .i64 a0_4] 37 (0, 0)) (by (with_reducible repeat (first | refine bkN ?_ _ | refine bkD ?_ | refine bkA ?_ _)); exact BK295.out) hb); have n1_ := Z0.mk (bkB (g := gb299) (o := .cells #[.int .i64 t296, .int .i64 t297] 23 (0, 0)) (by (with_reducible repeat (first | refine bkN ?_ _ | refine bkD ?_ | refine bkA ?_ _)); exact BK299.out) hb); have n2_ := Z0.mk (bkB (g := gb303) (o := .cells #[.int .i64 t300, .int .i64 t301] 23 (0, 0)) (by (with_reducible repeat (first | refine bkN ?_ _ | refine bkD ?_ | refine bkA ?_ _)); exact BK303.out) hb); have n3_ := Z0.mk (bwT (by repeat (first | (with_reducible first | exact HB.out | apply bwA | apply bwN | apply bw1 | refine bwS ?_ GE295.out | refine bwS ?_ GE299.out | refine bwS ?_ GE303.out) | exact HB.out)) hb); have n4_ := Z0.mk (hbox); have n5_ := Z0.mk ((by rw [hg]; exact (bwZ (by repeat (first | (with_reducible first | exact HB.out | apply bwA | apply bwN | apply bw1 | refine bwS ?_ GE295.out | refine bwS ?_ GE299.out | refine bwS ?_ GE303.out) | exact HB.out))) : w.heap.size ≤ gb307)); have n6_ := Z0.mk ((by rw [hg]; exact (bwZ (by repeat (first | (with_reducible first | exact HB.out | apply bwA | apply bwN | apply bw1 | refine bwS ?_ GE295.out | refine bwS ?_ GE299.out | refine bwS ?_ GE303.out) | exact HB.out))) : w.heap.size ≤ gb307)); have n7_ := Z0.mk ((by rw [hg]; exact Nat.ne_of_lt (blk_lt (g := gb295) (o := .cells #[.int .i64 a0_0, .int .i64 a0_1, .int .i64 a0_2, .int .i64 a0_3, .int .i64 a0_4] 37 (0, 0)) (by (with_reducible repeat (first | refine bkN ?_ _ | refine bkD ?_ | refine bkA ?_ _)); exact BK295.out)) : gb295 ≠ gb307)); have n8_ := Z0.mk ((by rw [hg]; exact Nat.ne_of_gt (blk_lt (g := gb295) (o := .cells #[.int .i64 a0_0, .int .i64 a0_1, .int .i64 a0_2, .int .i64 a0_3, .int .i64 a0_4] 37 (0, 0)) (by (with_reducible repeat (first | refine bkN ?_ _ | refine bkD ?_ | refine bkA ?_ _)); exact BK295.out)) : gb307 ≠ gb295)); have n9_ := Z0.mk ((by rw [hg]; exact Nat.ne_of_lt (blk_lt (g := gb299) (o := .cells #[.int .i64 t296, .int .i64 t297] 23 (0, 0)) (by (with_reducible repeat (first | refine bkN ?_ _ | refine bkD ?_ | refine bkA ?_ _)); exact BK299.out)) : gb299 ≠ gb307)); have n10_ := Z0.mk ((by rw [hg]; exact Nat.ne_of_gt (blk_lt (g := gb299) (o := .cells #[.int .i64 t296, .int .i64 t297] 23 (0, 0)) (by (with_reducible repeat (first | refine bkN ?_ _ | refine bkD ?_ | refine bkA ?_ _)); exact BK299.out)) : gb307 ≠ gb299)); have n11_ := Z0.mk ((by rw [hg]; exact Nat.ne_of_lt (blk_lt (g := gb303) (o := .cells #[.int .i64 t300, .int .i64 t301] 23 (0, 0)) (by (with_reducible repeat (first | refine bkN ?_ _ | refine bkD ?_ | refine bkA ?_ _)); exact BK303.out)) : gb303 ≠ gb307)); have n12_ := Z0.mk ((by rw [hg]; exact Nat.ne_of_gt (blk_lt (g := gb303) (o := .cells #[.int .i64 t300, .int .i64 t301] 23 (0, 0)) (by (with_reducible repeat (first | refine bkN ?_ _ | refine bkD ?_ | refine bkA ?_ _)); exact BK303.out)) : gb307 ≠ gb303)); clear BK295; clear BK299; clear BK303; clear HB; have BK295 := n0_; have BK299 := n1_; have BK303 := n2_; have HB := n3_; have BK307 := n4_; have GW307 := n5_; have GE307 := n6_; have NB295_307 := n7_; have NB307_295 := n8_; have NB299_307 := n9_; have NB307_299 := n10_; have NB303_307 := n11_; have NB307_303 := n12_; clear n0_ n1_ n2_ n3_ n4_ n5_ n6_ n7_ n8_ n9_ n10_ n11_ n12_; clear hb hbox hg; have hnb27 := NB307_295.out; have hnc27 := NB295_307.out; have hnb28 := NB307_299.out; have hnc28 := NB299_307.out; have hnb29 := NB307_303.out; have hnc29 := NB303_307.out; have hcz30_0 : w26.cell? ⟨gb307, 0, none⟩ = some (.int .i64 0) := (bkC BK307.out 0).trans rfl; have hcz30_1 : w26.cell? ⟨gb307, 1, none⟩ = some (.int .i64 0) := (bkC BK307.out 1).trans rfl; have hfz30_0 := bkZ BK307.out 0; have hfz30_1 := bkZ BK307.out 1))
 have n0_ : Z0 (((w26.setCell ⟨gb307, 0, none⟩ (.int .i64 t304)).setCell ⟨gb307, 1, none⟩ (.int .i64 t305)).heap[gb295]? = some (.cells #[.int .i64 a0_0, .int .i64 a0_1, .int .i64 a0_2, .int .i64 a0_3, .int .i64 a0_4] 37 (0, 0))) := ⟨by (with_reducible repeat (first | refine bkN ?_ _ | refine bkD ?_ | refine bkA ?_ _)); refine bkF ?_ NB295_307.out _; (with_reducible repeat (first | refine bkN ?_ _ | refine bkD ?_ | refine bkA ?_ _)); refine bkF ?_ NB295_307.out _; (with_reducible repeat (first | refine bkN ?_ _ | refine bkD ?_ | refine bkA ?_ _)); exact BK295.out⟩
 have n1_ : Z0 (((w26.setCell ⟨gb307, 0, none⟩ (.int .i64 t304)).setCell ⟨gb307, 1, none⟩ (.int .i64 t305)).heap[gb299]? = some (.cells #[.int .i64 t296, .int .i64 t297] 23 (0, 0))) := ⟨by (with_reducible repeat (first | refine bkN ?_ _ | refine bkD ?_ | refine bkA ?_ _)); refine bkF ?_ NB299_307.out _; (with_reducible repeat (first | refine bkN ?_ _ | refine bkD ?_ | refine bkA ?_ _)); refine bkF ?_ NB299_307.out _; (with_reducible repeat (first | refine bkN ?_ _ | refine bkD ?_ | refine bkA ?_ _)); exact BK299.out⟩
 have n2_ : Z0 (((w26.setCell ⟨gb307, 0, none⟩ (.int .i64 t304)).setCell ⟨gb307, 1, none⟩ (.int .i64 t305)).heap[gb303]? = some (.cells #[.int .i64 t300, .int .i64 t301] 23 (0, 0))) := ⟨by (with_reducible repeat (first | refine bkN ?_ _ | refine bkD ?_ | refine bkA ?_ _)); refine bkF ?_ NB303_307.out _; (with_reducible repeat (first | refine bkN ?_ _ | refine bkD ?_ | refine bkA ?_ _)); refine bkF ?_ NB303_307.out _; (with_reducible repeat (first | refine bkN ?_ _ | refine bkD ?_ | refine bkA ?_ _)); exact BK303.out⟩
 have n3_ : Z0 (((w26.setCell ⟨gb307, 0, none⟩ (.int .i64 t304)).setCell ⟨gb307, 1, none⟩ (.int .i64 t305)).heap[gb307]? = some (.cells #[.int .i64 t304, .int .i64 t305] 25 (0, 0))) := ⟨by (with_reducible repeat (first | refine bkN ?_ _ | refine bkD ?_ | refine bkA ?_ _)); refine bkP (cs := #[.int .i64 t304, .int .i64 0]) ?_ 1 _ rfl; (with_reducible repeat (first | refine bkN ?_ _ | refine bkD ?_ | refine bkA ?_ _)); refine bkP (cs := #[.int .i64 0, .int .i64 0]) ?_ 0 _ rfl; (with_reducible repeat (first | refine bkN ?_ _ | refine bkD ?_ | refine bkA ?_ _)); exact BK307.out⟩
 have n4_ : Z0 (Below w.heap.size w ((w26.setCell ⟨gb307, 0, none⟩ (.int .i64 t304)).setCell ⟨gb307, 1, none⟩ (.int .i64 t305))) := ⟨by repeat (first | (with_reducible first | exact HB.out | apply bwA | apply bwN | apply bw1 | refine bwS ?_ GE295.out | refine bwS ?_ GE299.out | refine bwS ?_ GE303.out | refine bwS ?_ GE307.out) | exact HB.out)⟩
 (try clear BK295)
 (try clear BK299)
 (try clear BK303)
 (try clear BK307)
 (try clear HB)
 generalize ((w26.setCell ⟨gb307, 0, none⟩ (.int .i64 t304)).setCell ⟨gb307, 1, none⟩ (.int .i64 t305)) = w31 at n0_ n1_ n2_ n3_ n4_ ⊢
 have BK295 := n0_
 have BK299 := n1_
 have BK303 := n2_
 have BK307 := n3_
 have HB := n4_
 clear n0_ n1_ n2_ n3_ n4_
 have n0_ := Z0.mk (bkD BK295.out)
 have n1_ := Z0.mk (bkD BK299.out)
 have n2_ := Z0.mk (bkD BK303.out)
 have n3_ := Z0.mk (bkD BK307.out)
 have n4_ := Z0.mk (bw1 HB.out)
 clear BK295
 clear BK299
 clear BK303
 clear BK307
 clear HB
 have BK295 := n0_
 have BK299 := n1_
 have BK303 := n2_
 have BK307 := n3_
 have HB := n4_
 clear n0_ n1_ n2_ n3_ n4_
 refine start_ (n := 11) (S := fun w' => w'.cell? ⟨gb295, 0, none⟩ = some (.int .i64 a0_0) ∧ w'.cell? ⟨gb295, 1, none⟩ = some (.int .i64 a0_1) ∧ w'.cell? ⟨gb295, 2, none⟩ = some (.int .i64 a0_2) ∧ w'.cell? ⟨gb295, 3, none⟩ = some (.int .i64 a0_3) ∧ w'.cell? ⟨gb295, 4, none⟩ = some (.int .i64 a0_4)) (ds := []) #[false, false, false, false, false, false, false, false, false, false, false] (by kernel_rfl) rfl rfl ⟨(bkC BK295.out 0).trans rfl, (bkC BK295.out 1).trans rfl, (bkC BK295.out 2).trans rfl, (bkC BK295.out 3).trans rfl, (bkC BK295.out 4).trans rfl⟩ (fun hHd => ?_); refine with_tabW cl6_HangSizes.tab4 cl6_HangSizes.bits4 (fun HT_ HW_ => ?_)
 generalize w31.drew = w32 at BK295 BK299 BK303 BK307 HB hHd ⊢
 refine pure_ (i := 0) (N := some 44) (v := ?_) (a' := ?_) #[true, false, false, false, false, false, false, false, false, false, false] rfl rfl (any_of HT_.out (by kernel_rfl)) (fun _ _ _ h => h) (Or.inl ⟨by rfl, ?_⟩) ?_ ?_
 rotate_left
 ·intro w'
  go_simp
  with_reducible rfl
 rotate_left
 ·simp only [Act.put, List.setIfInBounds_toArray, List.set_cons_zero, List.set_cons_succ, i64_w, i32_w]
  rfl
 refine pure_ (i := 3) (N := some 47) (v := ?_) (a' := ?_) #[true, false, false, true, false, false, false, false, false, false, false] rfl rfl (any_of HT_.out (by kernel_rfl)) (fun _ _ _ h => h) (Or.inl ⟨by rfl, ?_⟩) ?_ ?_
 rotate_left
 ·intro w'
  go_simp
  with_reducible rfl
 rotate_left
 ·simp only [Act.put, List.setIfInBounds_toArray, List.set_cons_zero, List.set_cons_succ, i64_w, i32_w]
  rfl
 refine pure_ (i := 5) (N := some 49) (v := ?_) (a' := ?_) #[true, false, false, true, false, true, false, false, false, false, false] rfl rfl (any_of HT_.out (by kernel_rfl)) (fun _ _ _ h => h) (Or.inl ⟨by rfl, ?_⟩) ?_ ?_
 rotate_left
 ·intro w'
  go_simp
  with_reducible rfl
 rotate_left
 ·simp only [Act.put, List.setIfInBounds_toArray, List.set_cons_zero, List.set_cons_succ, i64_w, i32_w]
  rfl
 refine take_ (i := 1) (N := some 45) (v := ?_) (a' := ?_) #[true, true, false, true, false, true, false, false, false, false, false] rfl rfl (take_ofW HT_.out HW_.out (by kernel_rfl)) (fun _ _ _ h => h) (Or.inl ⟨by rfl, ?_⟩) hHd ?_ ?_
 rotate_left
 ·rintro w' ⟨s0, s1, s2, s3, s4⟩
  go_simp
  with_reducible rfl
 rotate_left
 ·simp only [Act.put, List.setIfInBounds_toArray, List.set_cons_zero, List.set_cons_succ, i64_w, i32_w]
  rfl
 refine take_ (i := 4) (N := some 48) (v := ?_) (a' := ?_) #[true, true, false, true, true, true, false, false, false, false, false] rfl rfl (take_ofW HT_.out HW_.out (by kernel_rfl)) (fun _ _ _ h => h) (Or.inl ⟨by rfl, ?_⟩) hHd ?_ ?_
 rotate_left
 ·rintro w' ⟨s0, s1, s2, s3, s4⟩
  go_simp
  with_reducible rfl
 rotate_left
 ·simp only [Act.put, List.setIfInBounds_toArray, List.set_cons_zero, List.set_cons_succ, i64_w, i32_w]
  rfl
 refine take_ (i := 6) (N := some 50) (v := ?_) (a' := ?_) #[true, true, false, true, true, true, true, false, false, false, false] rfl rfl (take_ofW HT_.out HW_.out (by kernel_rfl)) (fun _ _ _ h => h) (Or.inl ⟨by rfl, ?_⟩) hHd ?_ ?_
 rotate_left
 ·rintro w' ⟨s0, s1, s2, s3, s4⟩
  go_simp
  with_reducible rfl
 rotate_left
 ·simp only [Act.put, List.setIfInBounds_toArray, List.set_cons_zero, List.set_cons_succ, i64_w, i32_w]
  rfl
 refine one_ (i := 2) (N := some 46) #[true, true, true, true, true, true, true, false, false, false, false] rfl rfl (one_of HT_.out (by kernel_rfl)) (by decide) (fun K hK => ?_)
 refine goes_ Tryd.func27 (by kernel_rfl) rfl #[.int .i64 a0_2, .int .i64 1, .int .i64 60000] (by rfl) rfl rfl (by (try simp only [List.map_toArray, List.map_cons, List.map_nil]); first | done | rfl | (simp only [List.length_drop, List.length_take]; rfl)) ?_
 with_reducible refine (cr1_CheckRange.calls a0_2 1 60000 t308 _ A5.out).mono ?_
 rintro e w' ⟨rfl, ⟨nd, rfl⟩⟩
 refine ⟨_, rfl, ?_⟩
 refine hK.out _ _ ⟨(bkC BK295.out 0).trans rfl, (bkC BK295.out 1).trans rfl, (bkC BK295.out 2).trans rfl, (bkC BK295.out 3).trans rfl, (bkC BK295.out 4).trans rfl⟩ (fun hHd => ?_)
 clear hK K
 refine norm_ (a' := ?_) ?_ ?_
 rotate_left
 ·show Act.put _ (some 46) _ = _
  simp only [Act.put, List.setIfInBounds_toArray, List.set_cons_zero, List.set_cons_succ, i64_w, i32_w]
  rfl
 refine one_ (i := 7) (N := some 51) #[true, true, true, true, true, true, true, true, false, false, false] rfl rfl (one_of HT_.out (by kernel_rfl)) (by decide) (fun K hK => ?_)
 refine goes_ Tryd.func28 (by kernel_rfl) rfl #[.int .i64 a0_3, .int .i64 a0_4] (by rfl) rfl rfl (by (try simp only [List.map_toArray, List.map_cons, List.map_nil]); first | done | rfl | (simp only [List.length_drop, List.length_take]; rfl)) ?_
 with_reducible refine (cr6_CheckNetting.calls k a0_3 a0_4 t309 _ A6.out).mono ?_
 rintro e w33 ⟨rfl, hb⟩
 refine ⟨_, rfl, ?_⟩
 have n0_ := Z0.mk (bkB (g := gb295) (o := .cells #[.int .i64 a0_0, .int .i64 a0_1, .int .i64 a0_2, .int .i64 a0_3, .int .i64 a0_4] 37 (0, 0)) (by (with_reducible repeat (first | refine bkN ?_ _ | refine bkD ?_ | refine bkA ?_ _)); exact BK295.out) hb)
 have n1_ := Z0.mk (bkB (g := gb299) (o := .cells #[.int .i64 t296, .int .i64 t297] 23 (0, 0)) (by (with_reducible repeat (first | refine bkN ?_ _ | refine bkD ?_ | refine bkA ?_ _)); exact BK299.out) hb)
 have n2_ := Z0.mk (bkB (g := gb303) (o := .cells #[.int .i64 t300, .int .i64 t301] 23 (0, 0)) (by (with_reducible repeat (first | refine bkN ?_ _ | refine bkD ?_ | refine bkA ?_ _)); exact BK303.out) hb)
 have n3_ := Z0.mk (bkB (g := gb307) (o := .cells #[.int .i64 t304, .int .i64 t305] 25 (0, 0)) (by (with_reducible repeat (first | refine bkN ?_ _ | refine bkD ?_ | refine bkA ?_ _)); exact BK307.out) hb)
 have n4_ := Z0.mk (bwT (by repeat (first | (with_reducible first | exact HB.out | apply bwA | apply bwN | apply bw1 | refine bwS ?_ GE295.out | refine bwS ?_ GE299.out | refine bwS ?_ GE303.out | refine bwS ?_ GE307.out) | exact HB.out)) hb)
 clear BK295
 clear BK299
 clear BK303
 clear BK307
 clear HB
 have BK295 := n0_
 have BK299 := n1_
 have BK303 := n2_
 have BK307 := n3_
 have HB := n4_
 clear n0_ n1_ n2_ n3_ n4_
 (try clear hb)
 (try clear hb2)
 (try clear hk)
 (try clear hi)
 refine hK.out _ _ ⟨(bkC BK295.out 0).trans rfl, (bkC BK295.out 1).trans rfl, (bkC BK295.out 2).trans rfl, (bkC BK295.out 3).trans rfl, (bkC BK295.out 4).trans rfl⟩ (fun hHd => ?_)
 clear hK K
 refine norm_ (a' := ?_) ?_ ?_
 rotate_left
 ·show Act.put _ (some 51) _ = _
  simp only [Act.put, List.setIfInBounds_toArray, List.set_cons_zero, List.set_cons_succ, i64_w, i32_w]
  rfl
 refine one_ (i := 8) (N := some 52) #[true, true, true, true, true, true, true, true, true, false, false] rfl rfl (one_of HT_.out (by kernel_rfl)) (by decide) (fun K hK => ?_)
 refine Kd.R_lit_step (Kd.int .i64) _ 3 ?hg (N := 52) ?hd (xs := ([t308, t309] : List Int)) (inner := [.int .i64 t308, .int .i64 t309]) (ok := fun _ => True) (okp := fun _ => True) ?hr ?hp (fun _ hk => hk) trivial (Below.refl _ _) (Nat.le_refl _) (by simp) ?_; (case hd => rfl); (case hg => rfl); (case hr => first | (go_simp; done) | (go_simp; rfl)); (case hp => exact (Reps.one (show Kd.M (Kd.int .i64) _ _ _ t308 [.int .i64 t308] from rfl) (Reps.one (show Kd.M (Kd.int .i64) _ _ _ t309 [.int .i64 t309] from rfl) (Reps.none _ _))))
 intro v311 w34 ho35 hb hg_ hnew_
 clear hg_ hnew_
 (first | rw [← Ny310.out] at ho35 | (simp only [Int.reduceToNat] at ho35; rw [← Ny310.out] at ho35))
 have n0_ := Z0.mk (Kd.R_lower ho35 (bwZ (by repeat (first | (with_reducible first | exact HB.out | apply bwA | apply bwN | apply bw1 | refine bwS ?_ GE295.out | refine bwS ?_ GE299.out | refine bwS ?_ GE303.out | refine bwS ?_ GE307.out) | exact HB.out))))
 have n1_ := Z0.mk (bkB (g := gb295) (o := .cells #[.int .i64 a0_0, .int .i64 a0_1, .int .i64 a0_2, .int .i64 a0_3, .int .i64 a0_4] 37 (0, 0)) (by (with_reducible repeat (first | refine bkN ?_ _ | refine bkD ?_ | refine bkA ?_ _)); exact BK295.out) hb)
 have n2_ := Z0.mk (bkB (g := gb299) (o := .cells #[.int .i64 t296, .int .i64 t297] 23 (0, 0)) (by (with_reducible repeat (first | refine bkN ?_ _ | refine bkD ?_ | refine bkA ?_ _)); exact BK299.out) hb)
 have n3_ := Z0.mk (bkB (g := gb303) (o := .cells #[.int .i64 t300, .int .i64 t301] 23 (0, 0)) (by (with_reducible repeat (first | refine bkN ?_ _ | refine bkD ?_ | refine bkA ?_ _)); exact BK303.out) hb)
 have n4_ := Z0.mk (bkB (g := gb307) (o := .cells #[.int .i64 t304, .int .i64 t305] 25 (0, 0)) (by (with_reducible repeat (first | refine bkN ?_ _ | refine bkD ?_ | refine bkA ?_ _)); exact BK307.out) hb)
 have n5_ := Z0.mk (bwT (by repeat (first | (with_reducible first | exact HB.out | apply bwA | apply bwN | apply bw1 | refine bwS ?_ GE295.out | refine bwS ?_ GE299.out | refine bwS ?_ GE303.out | refine bwS ?_ GE307.out) | exact HB.out)) hb)
 clear BK295
 clear BK299
 clear BK303
 clear BK307
 clear HB
 have HO312 := n0_
 have BK295 := n1_
 have BK299 := n2_
 have BK303 := n3_
 have BK307 := n4_
 have HB := n5_
 clear n0_ n1_ n2_ n3_ n4_ n5_
 clear hb ho35
 obtain ⟨Ao36, co36, eo36⟩ := Kd.R_slice HO312.out
 (first | subst eo36 | (injection eo36 with f1_ f2_ f3_; have f4_ := f1_.symm; have f5_ := f3_.symm; clear f1_ f2_ f3_; subst f4_; subst f5_))
 refine hK.out _ _ ⟨(bkC BK295.out 0).trans rfl, (bkC BK295.out 1).trans rfl, (bkC BK295.out 2).trans rfl, (bkC BK295.out 3).trans rfl, (bkC BK295.out 4).trans rfl⟩ (fun hHd => ?_)
 clear hK K
 refine norm_ (a' := ?_) ?_ ?_
 rotate_left
 ·show Act.put _ (some 52) _ = _
  simp only [Act.put, List.setIfInBounds_toArray, List.set_cons_zero, List.set_cons_succ, i64_w, i32_w]
  rfl
 refine one_ (i := 9) (N := some 53) #[true, true, true, true, true, true, true, true, true, true, false] rfl rfl (one_of HT_.out (by kernel_rfl)) (by decide) (fun K hK => ?_)
 refine goes_ Tryd.func26 (by kernel_rfl) rfl #[.slice Ao36 y310.length co36] (by rfl) rfl rfl (by (try simp only [List.map_toArray, List.map_cons, List.map_nil]); first | done | rfl | (simp only [List.length_drop, List.length_take]; rfl)) ?_
 with_reducible refine (cr1_First.calls k _ _ y310 t313 _ ?side1 ?side2 A7.out).mono ?_
 (case side1 => repeat (first | exact (Kd.R_reads' HO312.out).2.2 | (with_reducible refine Kd.C_alloc ?_ _) | (with_reducible refine Kd.C_drewN ?_ _) | (with_reducible refine Kd.C_drew ?_)))
 (case side2 => exact (Kd.R_reads' HO312.out).2.1)
 rintro e w' ⟨rfl, ⟨nd, rfl⟩⟩
 refine ⟨_, rfl, ?_⟩
 refine hK.out _ _ ⟨(bkC BK295.out 0).trans rfl, (bkC BK295.out 1).trans rfl, (bkC BK295.out 2).trans rfl, (bkC BK295.out 3).trans rfl, (bkC BK295.out 4).trans rfl⟩ (fun hHd => ?_)
 clear hK K
 refine norm_ (a' := ?_) ?_ ?_
 rotate_left
 ·show Act.put _ (some 53) _ = _
  simp only [Act.put, List.setIfInBounds_toArray, List.set_cons_zero, List.set_cons_succ, i64_w, i32_w]
  rfl
 refine pure_ (i := 10) (N := some 9) (v := ?_) (a' := ?_) #[true, true, true, true, true, true, true, true, true, true, true] rfl rfl (any_of HT_.out (by kernel_rfl)) (fun _ _ _ h => h) (Or.inl ⟨by rfl, ?_⟩) ?_ ?_
 rotate_left
 ·intro w'
  go_simp
  with_reducible rfl
 rotate_left
 ·simp only [Act.put, List.setIfInBounds_toArray, List.set_cons_zero, List.set_cons_succ, i64_w, i32_w]
  rfl
 refine done_ (done_of HT_.out (by kernel_rfl)) ?_
 try go_wp2
 (try (rw [drewN_self w34]; generalize hq_ : World.drewN w34 _ = w34; have n0_ : Z0 (Kd.R (Kd.int .i64) 3 w34 w.heap.size (fun _ => True) (.slice Ao36 y310.length co36) y310) := ⟨by rw [← hq_]; exact (by (with_reducible repeat (first | apply Kd.R_alloc | apply Kd.R_drewN | apply Kd.R_drew)); exact HO312.out)⟩; have n1_ : Z0 (w34.heap[gb295]? = some (.cells #[.int .i64 a0_0, .int .i64 a0_1, .int .i64 a0_2, .int .i64 a0_3, .int .i64 a0_4] 37 (0, 0))) := ⟨by rw [← hq_]; exact (by (with_reducible repeat (first | refine bkN ?_ _ | refine bkD ?_ | refine bkA ?_ _)); exact BK295.out)⟩; have n2_ : Z0 (w34.heap[gb299]? = some (.cells #[.int .i64 t296, .int .i64 t297] 23 (0, 0))) := ⟨by rw [← hq_]; exact (by (with_reducible repeat (first | refine bkN ?_ _ | refine bkD ?_ | refine bkA ?_ _)); exact BK299.out)⟩; have n3_ : Z0 (w34.heap[gb303]? = some (.cells #[.int .i64 t300, .int .i64 t301] 23 (0, 0))) := ⟨by rw [← hq_]; exact (by (with_reducible repeat (first | refine bkN ?_ _ | refine bkD ?_ | refine bkA ?_ _)); exact BK303.out)⟩; have n4_ : Z0 (w34.heap[gb307]? = some (.cells #[.int .i64 t304, .int .i64 t305] 25 (0, 0))) := ⟨by rw [← hq_]; exact (by (with_reducible repeat (first | refine bkN ?_ _ | refine bkD ?_ | refine bkA ?_ _)); exact BK307.out)⟩; have n5_ : Z0 (Below w.heap.size w w34) := ⟨by rw [← hq_]; exact (by repeat (first | (with_reducible first | exact HB.out | apply bwA | apply bwN | apply bw1 | refine bwS ?_ GE295.out | refine bwS ?_ GE299.out | refine bwS ?_ GE303.out | refine bwS ?_ GE307.out) | exact HB.out))⟩; clear HO312 BK295 BK299 BK303 BK307 HB hq_; have HO312 := n0_; have BK295 := n1_; have BK299 := n2_; have BK303 := n3_; have BK307 := n4_; have HB := n5_; clear n0_ n1_ n2_ n3_ n4_ n5_))
 have n0_ := Z0.mk (Kd.R_drew HO312.out)
 have n1_ := Z0.mk (bkD BK295.out)
 have n2_ := Z0.mk (bkD BK299.out)
 have n3_ := Z0.mk (bkD BK303.out)
 have n4_ := Z0.mk (bkD BK307.out)
 have n5_ := Z0.mk (bw1 HB.out)
 clear HO312
 clear BK295
 clear BK299
 clear BK303
 clear BK307
 clear HB
 have HO312 := n0_
 have BK295 := n1_
 have BK299 := n2_
 have BK303 := n3_
 have BK307 := n4_
 have HB := n5_
 clear n0_ n1_ n2_ n3_ n4_ n5_
 refine start_ (n := 11) (S := fun w' => w'.cell? ⟨gb295, 0, none⟩ = some (.int .i64 a0_0) ∧ w'.cell? ⟨gb295, 1, none⟩ = some (.int .i64 a0_1) ∧ w'.cell? ⟨gb295, 2, none⟩ = some (.int .i64 a0_2) ∧ w'.cell? ⟨gb295, 3, none⟩ = some (.int .i64 a0_3) ∧ w'.cell? ⟨gb295, 4, none⟩ = some (.int .i64 a0_4)) (ds := []) #[false, false, false, false, false, false, false, false, false, false, false] (by kernel_rfl) rfl rfl ⟨(bkC BK295.out 0).trans rfl, (bkC BK295.out 1).trans rfl, (bkC BK295.out 2).trans rfl, (bkC BK295.out 3).trans rfl, (bkC BK295.out 4).trans rfl⟩ (fun hHd => ?_); refine with_tabW cl6_HangSizes.tab5 cl6_HangSizes.bits5 (fun HT_ HW_ => ?_)
 generalize w34.drew = w37 at HO312 BK295 BK299 BK303 BK307 HB hHd ⊢
 refine pure_ (i := 0) (N := some 54) (v := ?_) (a' := ?_) #[true, false, false, false, false, false, false, false, false, false, false] rfl rfl (any_of HT_.out (by kernel_rfl)) (fun _ _ _ h => h) (Or.inl ⟨by rfl, ?_⟩) ?_ ?_
 rotate_left
 ·intro w'
  go_simp
  with_reducible rfl
 rotate_left
 ·simp only [Act.put, List.setIfInBounds_toArray, List.set_cons_zero, List.set_cons_succ, i64_w, i32_w]
  rfl
 refine pure_ (i := 3) (N := some 57) (v := ?_) (a' := ?_) #[true, false, false, true, false, false, false, false, false, false, false] rfl rfl (any_of HT_.out (by kernel_rfl)) (fun _ _ _ h => h) (Or.inl ⟨by rfl, ?_⟩) ?_ ?_
 rotate_left
 ·intro w'
  go_simp
  with_reducible rfl
 rotate_left
 ·simp only [Act.put, List.setIfInBounds_toArray, List.set_cons_zero, List.set_cons_succ, i64_w, i32_w]
  rfl
 refine pure_ (i := 5) (N := some 59) (v := ?_) (a' := ?_) #[true, false, false, true, false, true, false, false, false, false, false] rfl rfl (any_of HT_.out (by kernel_rfl)) (fun _ _ _ h => h) (Or.inl ⟨by rfl, ?_⟩) ?_ ?_
 rotate_left
 ·intro w'
  go_simp
  with_reducible rfl
 rotate_left
 ·simp only [Act.put, List.setIfInBounds_toArray, List.set_cons_zero, List.set_cons_succ, i64_w, i32_w]
  rfl
 refine take_ (i := 1) (N := some 55) (v := ?_) (a' := ?_) #[true, true, false, true, false, true, false, false, false, false, false] rfl rfl (take_ofW HT_.out HW_.out (by kernel_rfl)) (fun _ _ _ h => h) (Or.inl ⟨by rfl, ?_⟩) hHd ?_ ?_
 rotate_left
 ·rintro w' ⟨s0, s1, s2, s3, s4⟩
  go_simp
  with_reducible rfl
 rotate_left
 ·simp only [Act.put, List.setIfInBounds_toArray, List.set_cons_zero, List.set_cons_succ, i64_w, i32_w]
  rfl
 refine take_ (i := 4) (N := some 58) (v := ?_) (a' := ?_) #[true, true, false, true, true, true, false, false, false, false, false] rfl rfl (take_ofW HT_.out HW_.out (by kernel_rfl)) (fun _ _ _ h => h) (Or.inl ⟨by rfl, ?_⟩) hHd ?_ ?_
 rotate_left
 ·rintro w' ⟨s0, s1, s2, s3, s4⟩
  go_simp
  with_reducible rfl
 rotate_left
 ·simp only [Act.put, List.setIfInBounds_toArray, List.set_cons_zero, List.set_cons_succ, i64_w, i32_w]
  rfl
 refine take_ (i := 6) (N := some 60) (v := ?_) (a' := ?_) #[true, true, false, true, true, true, true, false, false, false, false] rfl rfl (take_ofW HT_.out HW_.out (by kernel_rfl)) (fun _ _ _ h => h) (Or.inl ⟨by rfl, ?_⟩) hHd ?_ ?_
 rotate_left
 ·rintro w' ⟨s0, s1, s2, s3, s4⟩
  go_simp
  with_reducible rfl
 rotate_left
 ·simp only [Act.put, List.setIfInBounds_toArray, List.set_cons_zero, List.set_cons_succ, i64_w, i32_w]
  rfl
 refine one_ (i := 2) (N := some 56) #[true, true, true, true, true, true, true, false, false, false, false] rfl rfl (one_of HT_.out (by kernel_rfl)) (by decide) (fun K hK => ?_)
 refine goes_ Tryd.func16 (by kernel_rfl) rfl #[.agg #[.int .i64 a0_0, .int .i64 a0_1]] (by rfl) rfl rfl (by (try simp only [List.map_toArray, List.map_cons, List.map_nil]); first | done | rfl | (simp only [List.length_drop, List.length_take]; rfl)) ?_
 with_reducible refine (cr6_CheckRatio.calls k a0_0 a0_1 t314 _ A8.out).mono ?_
 rintro e w38 ⟨rfl, hb⟩
 refine ⟨_, rfl, ?_⟩
 have n0_ := Z0.mk (Kd.R_below (by (with_reducible repeat (first | apply Kd.R_alloc | apply Kd.R_drewN | apply Kd.R_drew)); exact HO312.out) hb)
 have n1_ := Z0.mk (bkB (g := gb295) (o := .cells #[.int .i64 a0_0, .int .i64 a0_1, .int .i64 a0_2, .int .i64 a0_3, .int .i64 a0_4] 37 (0, 0)) (by (with_reducible repeat (first | refine bkN ?_ _ | refine bkD ?_ | refine bkA ?_ _)); exact BK295.out) hb)
 have n2_ := Z0.mk (bkB (g := gb299) (o := .cells #[.int .i64 t296, .int .i64 t297] 23 (0, 0)) (by (with_reducible repeat (first | refine bkN ?_ _ | refine bkD ?_ | refine bkA ?_ _)); exact BK299.out) hb)
 have n3_ := Z0.mk (bkB (g := gb303) (o := .cells #[.int .i64 t300, .int .i64 t301] 23 (0, 0)) (by (with_reducible repeat (first | refine bkN ?_ _ | refine bkD ?_ | refine bkA ?_ _)); exact BK303.out) hb)
 have n4_ := Z0.mk (bkB (g := gb307) (o := .cells #[.int .i64 t304, .int .i64 t305] 25 (0, 0)) (by (with_reducible repeat (first | refine bkN ?_ _ | refine bkD ?_ | refine bkA ?_ _)); exact BK307.out) hb)
 have n5_ := Z0.mk (bwT (by repeat (first | (with_reducible first | exact HB.out | apply bwA | apply bwN | apply bw1 | refine bwS ?_ GE295.out | refine bwS ?_ GE299.out | refine bwS ?_ GE303.out | refine bwS ?_ GE307.out) | exact HB.out)) hb)
 clear HO312
 clear BK295
 clear BK299
 clear BK303
 clear BK307
 clear HB
 have HO312 := n0_
 have BK295 := n1_
 have BK299 := n2_
 have BK303 := n3_
 have BK307 := n4_
 have HB := n5_
 clear n0_ n1_ n2_ n3_ n4_ n5_
 (try clear hb)
 (try clear hb2)
 (try clear hk)
 (try clear hi)
 refine hK.out _ _ ⟨(bkC BK295.out 0).trans rfl, (bkC BK295.out 1).trans rfl, (bkC BK295.out 2).trans rfl, (bkC BK295.out 3).trans rfl, (bkC BK295.out 4).trans rfl⟩ (fun hHd => ?_)
 clear hK K
 refine norm_ (a' := ?_) ?_ ?_
 rotate_left
 ·show Act.put _ (some 56) _ = _
  simp only [Act.put, List.setIfInBounds_toArray, List.set_cons_zero, List.set_cons_succ, i64_w, i32_w]
  rfl
 refine one_ (i := 7) (N := some 61) #[true, true, true, true, true, true, true, true, false, false, false] rfl rfl (one_of HT_.out (by kernel_rfl)) (by decide) (fun K hK => ?_)
 refine goes_ Tryd.func28 (by kernel_rfl) rfl #[.int .i64 a0_3, .int .i64 a0_4] (by rfl) rfl rfl (by (try simp only [List.map_toArray, List.map_cons, List.map_nil]); first | done | rfl | (simp only [List.length_drop, List.length_take]; rfl)) ?_
 with_reducible refine (cr6_CheckNetting.calls k a0_3 a0_4 t315 _ A9.out).mono ?_
 rintro e w39 ⟨rfl, hb⟩
 refine ⟨_, rfl, ?_⟩
 have n0_ := Z0.mk (Kd.R_below (by (with_reducible repeat (first | apply Kd.R_alloc | apply Kd.R_drewN | apply Kd.R_drew)); exact HO312.out) hb)
 have n1_ := Z0.mk (bkB (g := gb295) (o := .cells #[.int .i64 a0_0, .int .i64 a0_1, .int .i64 a0_2, .int .i64 a0_3, .int .i64 a0_4] 37 (0, 0)) (by (with_reducible repeat (first | refine bkN ?_ _ | refine bkD ?_ | refine bkA ?_ _)); exact BK295.out) hb)
 have n2_ := Z0.mk (bkB (g := gb299) (o := .cells #[.int .i64 t296, .int .i64 t297] 23 (0, 0)) (by (with_reducible repeat (first | refine bkN ?_ _ | refine bkD ?_ | refine bkA ?_ _)); exact BK299.out) hb)
 have n3_ := Z0.mk (bkB (g := gb303) (o := .cells #[.int .i64 t300, .int .i64 t301] 23 (0, 0)) (by (with_reducible repeat (first | refine bkN ?_ _ | refine bkD ?_ | refine bkA ?_ _)); exact BK303.out) hb)
 have n4_ := Z0.mk (bkB (g := gb307) (o := .cells #[.int .i64 t304, .int .i64 t305] 25 (0, 0)) (by (with_reducible repeat (first | refine bkN ?_ _ | refine bkD ?_ | refine bkA ?_ _)); exact BK307.out) hb)
 have n5_ := Z0.mk (bwT (by repeat (first | (with_reducible first | exact HB.out | apply bwA | apply bwN | apply bw1 | refine bwS ?_ GE295.out | refine bwS ?_ GE299.out | refine bwS ?_ GE303.out | refine bwS ?_ GE307.out) | exact HB.out)) hb)
 clear HO312
 clear BK295
 clear BK299
 clear BK303
 clear BK307
 clear HB
 have HO312 := n0_
 have BK295 := n1_
 have BK299 := n2_
 have BK303 := n3_
 have BK307 := n4_
 have HB := n5_
 clear n0_ n1_ n2_ n3_ n4_ n5_
 (try clear hb)
 (try clear hb2)
 (try clear hk)
 (try clear hi)
 refine hK.out _ _ ⟨(bkC BK295.out 0).trans rfl, (bkC BK295.out 1).trans rfl, (bkC BK295.out 2).trans rfl, (bkC BK295.out 3).trans rfl, (bkC BK295.out 4).trans rfl⟩ (fun hHd => ?_)
 clear hK K
 refine norm_ (a' := ?_) ?_ ?_
 rotate_left
 ·show Act.put _ (some 61) _ = _
  simp only [Act.put, List.setIfInBounds_toArray, List.set_cons_zero, List.set_cons_succ, i64_w, i32_w]
  rfl
 refine one_ (i := 8) (N := some 62) #[true, true, true, true, true, true, true, true, true, false, false] rfl rfl (one_of HT_.out (by kernel_rfl)) (by decide) (fun K hK => ?_)
 refine Kd.R_lit_step (Kd.int .i64) _ 3 ?hg (N := 62) ?hd (xs := ([t314, t315] : List Int)) (inner := [.int .i64 t314, .int .i64 t315]) (ok := fun _ => True) (okp := fun _ => True) ?hr ?hp (fun _ hk => hk) trivial (Below.refl _ _) (Nat.le_refl _) (by simp) ?_; (case hd => rfl); (case hg => rfl); (case hr => first | (go_simp; done) | (go_simp; rfl)); (case hp => exact (Reps.one (show Kd.M (Kd.int .i64) _ _ _ t314 [.int .i64 t314] from rfl) (Reps.one (show Kd.M (Kd.int .i64) _ _ _ t315 [.int .i64 t315] from rfl) (Reps.none _ _))))
 intro v317 w40 ho41 hb hg_ hnew_
 clear hg_ hnew_
 (first | rw [← Ny316.out] at ho41 | (simp only [Int.reduceToNat] at ho41; rw [← Ny316.out] at ho41))
 have n0_ := Z0.mk (Kd.R_elder' (by (with_reducible repeat (first | apply Kd.R_alloc | apply Kd.R_drewN | apply Kd.R_drew)); exact HO312.out) (Kd.R_base ho41) hb)
 have n1_ := Z0.mk (Kd.R_lower (Kd.R_new' ho41 (Kd.R_lt (by (with_reducible repeat (first | apply Kd.R_alloc | apply Kd.R_drewN | apply Kd.R_drew)); exact HO312.out))) (bwZ (by repeat (first | (with_reducible first | exact HB.out | apply bwA | apply bwN | apply bw1 | refine bwS ?_ GE295.out | refine bwS ?_ GE299.out | refine bwS ?_ GE303.out | refine bwS ?_ GE307.out) | exact HB.out))))
 have n2_ := Z0.mk (bkB (g := gb295) (o := .cells #[.int .i64 a0_0, .int .i64 a0_1, .int .i64 a0_2, .int .i64 a0_3, .int .i64 a0_4] 37 (0, 0)) (by (with_reducible repeat (first | refine bkN ?_ _ | refine bkD ?_ | refine bkA ?_ _)); exact BK295.out) hb)
 have n3_ := Z0.mk (bkB (g := gb299) (o := .cells #[.int .i64 t296, .int .i64 t297] 23 (0, 0)) (by (with_reducible repeat (first | refine bkN ?_ _ | refine bkD ?_ | refine bkA ?_ _)); exact BK299.out) hb)
 have n4_ := Z0.mk (bkB (g := gb303) (o := .cells #[.int .i64 t300, .int .i64 t301] 23 (0, 0)) (by (with_reducible repeat (first | refine bkN ?_ _ | refine bkD ?_ | refine bkA ?_ _)); exact BK303.out) hb)
 have n5_ := Z0.mk (bkB (g := gb307) (o := .cells #[.int .i64 t304, .int .i64 t305] 25 (0, 0)) (by (with_reducible repeat (first | refine bkN ?_ _ | refine bkD ?_ | refine bkA ?_ _)); exact BK307.out) hb)
 have n6_ := Z0.mk (bwT (by repeat (first | (with_reducible first | exact HB.out | apply bwA | apply bwN | apply bw1 | refine bwS ?_ GE295.out | refine bwS ?_ GE299.out | refine bwS ?_ GE303.out | refine bwS ?_ GE307.out) | exact HB.out)) hb)
 clear HO312
 clear BK295
 clear BK299
 clear BK303
 clear BK307
 clear HB
 have HO312 := n0_
 have HO318 := n1_
 have BK295 := n2_
 have BK299 := n3_
 have BK303 := n4_
 have BK307 := n5_
 have HB := n6_
 clear n0_ n1_ n2_ n3_ n4_ n5_ n6_
 clear hb ho41
 obtain ⟨Ao42, co42, eo42⟩ := Kd.R_slice HO318.out
 (first | subst eo42 | (injection eo42 with f1_ f2_ f3_; have f4_ := f1_.symm; have f5_ := f3_.symm; clear f1_ f2_ f3_; subst f4_; subst f5_))
 refine hK.out _ _ ⟨(bkC BK295.out 0).trans rfl, (bkC BK295.out 1).trans rfl, (bkC BK295.out 2).trans rfl, (bkC BK295.out 3).trans rfl, (bkC BK295.out 4).trans rfl⟩ (fun hHd => ?_)
 clear hK K
 refine norm_ (a' := ?_) ?_ ?_
 rotate_left
 ·show Act.put _ (some 62) _ = _
  simp only [Act.put, List.setIfInBounds_toArray, List.set_cons_zero, List.set_cons_succ, i64_w, i32_w]
  rfl
 refine one_ (i := 9) (N := some 63) #[true, true, true, true, true, true, true, true, true, true, false] rfl rfl (one_of HT_.out (by kernel_rfl)) (by decide) (fun K hK => ?_)
 refine goes_ Tryd.func26 (by kernel_rfl) rfl #[.slice Ao42 y316.length co42] (by rfl) rfl rfl (by (try simp only [List.map_toArray, List.map_cons, List.map_nil]); first | done | rfl | (simp only [List.length_drop, List.length_take]; rfl)) ?_
 with_reducible refine (cr1_First.calls k _ _ y316 t319 _ ?side1 ?side2 A10.out).mono ?_
 (case side1 => repeat (first | exact (Kd.R_reads' HO318.out).2.2 | (with_reducible refine Kd.C_alloc ?_ _) | (with_reducible refine Kd.C_drewN ?_ _) | (with_reducible refine Kd.C_drew ?_)))
 (case side2 => exact (Kd.R_reads' HO318.out).2.1)
 rintro e w' ⟨rfl, ⟨nd, rfl⟩⟩
 refine ⟨_, rfl, ?_⟩
 refine hK.out _ _ ⟨(bkC BK295.out 0).trans rfl, (bkC BK295.out 1).trans rfl, (bkC BK295.out 2).trans rfl, (bkC BK295.out 3).trans rfl, (bkC BK295.out 4).trans rfl⟩ (fun hHd => ?_)
 clear hK K
 refine norm_ (a' := ?_) ?_ ?_
 rotate_left
 ·show Act.put _ (some 63) _ = _
  simp only [Act.put, List.setIfInBounds_toArray, List.set_cons_zero, List.set_cons_succ, i64_w, i32_w]
  rfl
 refine pure_ (i := 10) (N := some 10) (v := ?_) (a' := ?_) #[true, true, true, true, true, true, true, true, true, true, true] rfl rfl (any_of HT_.out (by kernel_rfl)) (fun _ _ _ h => h) (Or.inl ⟨by rfl, ?_⟩) ?_ ?_
 rotate_left
 ·intro w'
  go_simp
  with_reducible rfl
 rotate_left
 ·simp only [Act.put, List.setIfInBounds_toArray, List.set_cons_zero, List.set_cons_succ, i64_w, i32_w]
  rfl
 refine done_ (done_of HT_.out (by kernel_rfl)) ?_
 go_upto_if 65 with (first | ((with_reducible refine gtD (N := 11) rfl ?_); refine bxE ?hg (N := 11) ?hd (cs := #[.int .i64 0, .int .i64 0]) (t := 23) ?hr ?_; (case hd => rfl); (case hg => rfl); (case hr => first | (go_simp; done) | (go_simp; rfl)); intro gb320 hg w43 hbox hb; have n0_ := Z0.mk (Kd.R_below (by (with_reducible repeat (first | apply Kd.R_alloc | apply Kd.R_drewN | apply Kd.R_drew)); exact HO312.out) hb); have n1_ := Z0.mk (Kd.R_below (by (with_reducible repeat (first | apply Kd.R_alloc | apply Kd.R_drewN | apply Kd.R_drew)); exact HO318.out) hb); have n2_ := Z0.mk (bkB (g := gb295) (o := .cells #[.int .i64 a0_0, .int .i64 a0_1, .int .i64 a0_2, .int .i64 a0_3, .int .i64 a0_4] 37 (0, 0)) (by (with_reducible repeat (first | refine bkN ?_ _ | refine bkD ?_ | refine bkA ?_ _)); exact BK295.out) hb); have n3_ := Z0.mk (bkB (g := gb299) (o := .cells #[.int .i64 t296, .int .i64 t297] 23 (0, 0)) (by (with_reducible repeat (first | refine bkN ?_ _ | refine bkD ?_ | refine bkA ?_ _)); exact BK299.out) hb); have n4_ := Z0.mk (bkB (g := gb303) (o := .cells #[.int .i64 t300, .int .i64 t301] 23 (0, 0)) (by (with_reducible repeat (first | refine bkN ?_ _ | refine bkD ?_ | refine bkA ?_ _)); exact BK303.out) hb); have n5_ := Z0.mk (bkB (g := gb307) (o := .cells #[.int .i64 t304, .int .i64 t305] 25 (0, 0)) (by (with_reducible repeat (first | refine bkN ?_ _ | refine bkD ?_ | refine bkA ?_ _)); exact BK307.out) hb); have n6_ := Z0.mk (bwT (by repeat (first | (with_reducible first | exact HB.out | apply bwA | apply bwN | apply bw1 | refine bwS ?_ GE295.out | refine bwS ?_ GE299.out | refine bwS ?_ GE303.out | refine bwS ?_ GE307.out) | exact HB.out)) hb); have n7_ := Z0.mk (hbox); have n8_ := Z0.mk ((by rw [hg]; exact (bwZ (by repeat (first | (with_reducible first | exact HB.out | apply bwA | apply bwN | apply bw1 | refine bwS ?_ GE295.out | refine bwS ?_ GE299.out | refine bwS ?_ GE303.out | refine bwS ?_ GE307.out) | exact HB.out))) : w.heap.size ≤ gb320)); have n9_ := Z0.mk ((by rw [hg]; exact (bwZ (by repeat (first | (with_reducible first | exact HB.out | apply bwA | apply bwN | apply bw1 | refine bwS ?_ GE295.out | refine bwS ?_ GE299.out | refine bwS ?_ GE303.out | refine bwS ?_ GE307.out) | exact HB.out))) : w.heap.size ≤ gb320)); have n10_ := Z0.mk ((by rw [hg]; exact Nat.ne_of_lt (blk_lt (g := gb295) (o := .cells #[.int .i64 a0_0, .int .i64 a0_1, .int .i64 a0_2, .int .i64 a0_3, .int .i64 a0_4] 37 (0, 0)) (by (with_reducible repeat (first | refine bkN ?_ _ | refine bkD ?_ | refine bkA ?_ _)); exact BK295.out)) : gb295 ≠ gb320)); have n11_ := Z0.mk ((by rw [hg]; exact Nat.ne_of_gt (blk_lt (g := gb295) (o := .cells #[.int .i64 a0_0, .int .i64 a0_1, .int .i64 a0_2, .int .i64 a0_3, .int .i64 a0_4] 37 (0, 0)) (by (with_reducible repeat (first | refine bkN ?_ _ | refine bkD ?_ | refine bkA ?_ _)); exact BK295.out)) : gb320 ≠ gb295)); have n12_ := Z0.mk ((by rw [hg]; exact Nat.ne_of_lt (blk_lt (g := gb299) (o := .cells #[.int .i64 t296, .int .i64 t297] 23 (0, 0)) (by (with_reducible repeat (first | refine bkN ?_ _ | refine bkD ?_ | refine bkA ?_ _)); exact BK299.out)) : gb299 ≠ gb320)); have n13_ := Z0.mk ((by rw [hg]; exact Nat.ne_of_gt (blk_lt (g := gb299) (o := .cells #[.int .i64 t296, .int .i64 t297] 23 (0, 0)) (by (with_reducible repeat (first | refine bkN ?_ _ | refine bkD ?_ | refine bkA ?_ _)); exact BK299.out)) : gb320 ≠ gb299)); have n14_ := Z0.mk ((by rw [hg]; exact Nat.ne_of_lt (blk_lt (g := gb303) (o := .cells #[.int .i64 t300, .int .i64 t301] 23 (0, 0)) (by (with_reducible repeat (first | refine bkN ?_ _ | refine bkD ?_ | refine bkA ?_ _)); exact BK303.out)) : gb303 ≠ gb320)); have n15_ := Z0.mk ((by rw [hg]; exact Nat.ne_of_gt (blk_lt (g := gb303) (o := .cells #[.int .i64 t300, .int .i64 t301] 23 (0, 0)) (by (with_reducible repeat (first | refine bkN ?_ _ | refine bkD ?_ | refine bkA ?_ _)); exact BK303.out)) : gb320 ≠ gb303)); have n16_ := Z0.mk ((by rw [hg]; exact Nat.ne_of_lt (blk_lt (g := gb307) (o := .cells #[.int .i64 t304, .int .i64 t305] 25 (0, 0)) (by (with_reducible repeat (first | refine bkN ?_ _ | refine bkD ?_ | refine bkA ?_ _)); exact BK307.out)) : gb307 ≠ gb320)); have n17_ := Z0.mk ((by rw [hg]; exact Nat.ne_of_gt (blk_lt (g := gb307) (o := .cells #[.int .i64 t304, .int .i64 t305] 25 (0, 0)) (by (with_reducible repeat (first | refine bkN ?_ _ | refine bkD ?_ | refine bkA ?_ _)); exact BK307.out)) : gb320 ≠ gb307)); clear HO312; clear HO318; clear BK295; clear BK299; clear BK303; clear BK307; clear HB; have HO312 := n0_; have HO318 := n1_; have BK295 := n2_; have BK299 := n3_; have BK303 := n4_; have BK307 := n5_; have HB := n6_; have BK320 := n7_; have GW320 := n8_; have GE320 := n9_; have NB295_320 := n10_; have NB320_295 := n11_; have NB299_320 := n12_; have NB320_299 := n13_; have NB303_320 := n14_; have NB320_303 := n15_; have NB307_320 := n16_; have NB320_307 := n17_; clear n0_ n1_ n2_ n3_ n4_ n5_ n6_ n7_ n8_ n9_ n10_ n11_ n12_ n13_ n14_ n15_ n16_ n17_; clear hb hbox hg) | ((with_reducible refine gtD (N := 12) rfl ?_); refine bxE ?hg (N := 12) ?hd (cs := #[.int .i64 0, .int .i64 0]) (t := 23) ?hr ?_; (case hd => rfl); (case hg => rfl); (case hr => first | (go_simp; done) | (go_simp; rfl)); intro gb321 hg w44 hbox hb; have n0_ := Z0.mk (Kd.R_below (by (with_reducible repeat (first | apply Kd.R_alloc | apply Kd.R_drewN | apply Kd.R_drew)); exact HO312.out) hb); have n1_ := Z0.mk (Kd.R_below (by (with_reducible repeat (first | apply Kd.R_alloc | apply Kd.R_drewN | apply Kd.R_drew)); exact HO318.out) hb); have n2_ := Z0.mk (bkB (g := gb295) (o := .cells #[.int .i64 a0_0, .int .i64 a0_1, .int .i64 a0_2, .int .i64 a0_3, .int .i64 a0_4] 37 (0, 0)) (by (with_reducible repeat (first | refine bkN ?_ _ | refine bkD ?_ | refine bkA ?_ _)); exact BK295.out) hb); have n3_ := Z0.mk (bkB (g := gb299) (o := .cells #[.int .i64 t296, .int .i64 t297] 23 (0, 0)) (by (with_reducible repeat (first | refine bkN ?_ _ | refine bkD ?_ | refine bkA ?_ _)); exact BK299.out) hb); have n4_ := Z0.mk (bkB (g := gb303) (o := .cells #[.int .i64 t300, .int .i64 t301] 23 (0, 0)) (by (with_reducible repeat (first | refine bkN ?_ _ | refine bkD ?_ | refine bkA ?_ _)); exact BK303.out) hb); have n5_ := Z0.mk (bkB (g := gb307) (o := .cells #[.int .i64 t304, .int .i64 t305] 25 (0, 0)) (by (with_reducible repeat (first | refine bkN ?_ _ | refine bkD ?_ | refine bkA ?_ _)); exact BK307.out) hb); have n6_ := Z0.mk (bkB (g := gb320) (o := .cells #[.int .i64 0, .int .i64 0] 23 (0, 0)) (by (with_reducible repeat (first | refine bkN ?_ _ | refine bkD ?_ | refine bkA ?_ _)); exact BK320.out) hb); have n7_ := Z0.mk (bwT (by repeat (first | (with_reducible first | exact HB.out | apply bwA | apply bwN | apply bw1 | refine bwS ?_ GE295.out | refine bwS ?_ GE299.out | refine bwS ?_ GE303.out | refine bwS ?_ GE307.out | refine bwS ?_ GE320.out) | exact HB.out)) hb); have n8_ := Z0.mk (hbox); have n9_ := Z0.mk ((by rw [hg]; exact (bwZ (by repeat (first | (with_reducible first | exact HB.out | apply bwA | apply bwN | apply bw1 | refine bwS ?_ GE295.out | refine bwS ?_ GE299.out | refine bwS ?_ GE303.out | refine bwS ?_ GE307.out | refine bwS ?_ GE320.out) | exact HB.out))) : w.heap.size ≤ gb321)); have n10_ := Z0.mk ((by rw [hg]; exact (bwZ (by repeat (first | (with_reducible first | exact HB.out | apply bwA | apply bwN | apply bw1 | refine bwS ?_ GE295.out | refine bwS ?_ GE299.out | refine bwS ?_ GE303.out | refine bwS ?_ GE307.out | refine bwS ?_ GE320.out) | exact HB.out))) : w.heap.size ≤ gb321)); have n11_ := Z0.mk ((by rw [hg]; exact Nat.ne_of_lt (blk_lt (g := gb295) (o := .cells #[.int .i64 a0_0, .int .i64 a0_1, .int .i64 a0_2, .int .i64 a0_3, .int .i64 a0_4] 37 (0, 0)) (by (with_reducible repeat (first | refine bkN ?_ _ | refine bkD ?_ | refine bkA ?_ _)); exact BK295.out)) : gb295 ≠ gb321)); have n12_ := Z0.mk ((by rw [hg]; exact Nat.ne_of_gt (blk_lt (g := gb295) (o := .cells #[.int .i64 a0_0, .int .i64 a0_1, .int .i64 a0_2, .int .i64 a0_3, .int .i64 a0_4] 37 (0, 0)) (by (with_reducible repeat (first | refine bkN ?_ _ | refine bkD ?_ | refine bkA ?_ _)); exact BK295.out)) : gb321 ≠ gb295)); have n13_ := Z0.mk ((by rw [hg]; exact Nat.ne_of_lt (blk_lt (g := gb299) (o := .cells #[.int .i64 t296, .int .i64 t297] 23 (0, 0)) (by (with_reducible repeat (first | refine bkN ?_ _ | refine bkD ?_ | refine bkA ?_ _)); exact BK299.out)) : gb299 ≠ gb321)); have n14_ := Z0.mk ((by rw [hg]; exact Nat.ne_of_gt (blk_lt (g := gb299) (o := .cells #[.int .i64 t296, .int .i64 t297] 23 (0, 0)) (by (with_reducible repeat (first | refine bkN ?_ _ | refine bkD ?_ | refine bkA ?_ _)); exact BK299.out)) : gb321 ≠ gb299)); have n15_ := Z0.mk ((by rw [hg]; exact Nat.ne_of_lt (blk_lt (g := gb303) (o := .cells #[.int .i64 t300, .int .i64 t301] 23 (0, 0)) (by (with_reducible repeat (first | refine bkN ?_ _ | refine bkD ?_ | refine bkA ?_ _)); exact BK303.out)) : gb303 ≠ gb321)); have n16_ := Z0.mk ((by rw [hg]; exact Nat.ne_of_gt (blk_lt (g := gb303) (o := .cells #[.int .i64 t300, .int .i64 t301] 23 (0, 0)) (by (with_reducible repeat (first | refine bkN ?_ _ | refine bkD ?_ | refine bkA ?_ _)); exact BK303.out)) : gb321 ≠ gb303)); have n17_ := Z0.mk ((by rw [hg]; exact Nat.ne_of_lt (blk_lt (g := gb307) (o := .cells #[.int .i64 t304, .int .i64 t305] 25 (0, 0)) (by (with_reducible repeat (first | refine bkN ?_ _ | refine bkD ?_ | refine bkA ?_ _)); exact BK307.out)) : gb307 ≠ gb321)); have n18_ := Z0.mk ((by rw [hg]; exact Nat.ne_of_gt (blk_lt (g := gb307) (o := .cells #[.int .i64 t304, .int .i64 t305] 25 (0, 0)) (by (with_reducible repeat (first | refine bkN ?_ _ | refine bkD ?_ | refine bkA ?_ _)); exact BK307.out)) : gb321 ≠ gb307)); have n19_ := Z0.mk ((by rw [hg]; exact Nat.ne_of_lt (blk_lt (g := gb320) (o := .cells #[.int .i64 0, .int .i64 0] 23 (0, 0)) (by (with_reducible repeat (first | refine bkN ?_ _ | refine bkD ?_ | refine bkA ?_ _)); exact BK320.out)) : gb320 ≠ gb321)); have n20_ := Z0.mk ((by rw [hg]; exact Nat.ne_of_gt (blk_lt (g := gb320) (o := .cells #[.int .i64 0, .int .i64 0] 23 (0, 0)) (by (with_reducible repeat (first | refine bkN ?_ _ | refine bkD ?_ | refine bkA ?_ _)); exact BK320.out)) : gb321 ≠ gb320)); clear HO312; clear HO318; clear BK295; clear BK299; clear BK303; clear BK307; clear BK320; clear HB; have HO312 := n0_; have HO318 := n1_; have BK295 := n2_; have BK299 := n3_; have BK303 := n4_; have BK307 := n5_; have BK320 := n6_; have HB := n7_; have BK321 := n8_; have GW321 := n9_; have GE321 := n10_; have NB295_321 := n11_; have NB321_295 := n12_; have NB299_321 := n13_; have NB321_299 := n14_; have NB303_321 := n15_; have NB321_303 := n16_; have NB307_321 := n17_; have NB321_307 := n18_; have NB320_321 := n19_; have NB321_320 := n20_; clear n0_ n1_ n2_ n3_ n4_ n5_ n6_ n7_ n8_ n9_ n10_ n11_ n12_ n13_ n14_ n15_ n16_ n17_ n18_ n19_ n20_; clear hb hbox hg) | ((with_reducible refine gtD (N := 13) rfl ?_); refine bxE ?hg (N := 13) ?hd (cs := #[.int .i64 0, .int .i64 0]) (t := 24) ?hr ?_; (case hd => rfl); (case hg => rfl); (case hr => first | (go_simp; done) | (go_simp; rfl)); intro gb322 hg w45 hbox hb; have n0_ := Z0.mk (Kd.R_below (by (with_reducible repeat (first | apply Kd.R_alloc | apply Kd.R_drewN | apply Kd.R_drew)); exact HO312.out) hb); have n1_ := Z0.mk (Kd.R_below (by (with_reducible repeat (first | apply Kd.R_alloc | apply Kd.R_drewN | apply Kd.R_drew)); exact HO318.out) hb); have n2_ := Z0.mk (bkB (g := gb295) (o := .cells #[.int .i64 a0_0, .int .i64 a0_1, .int .i64 a0_2, .int .i64 a0_3, .int .i64 a0_4] 37 (0, 0)) (by (with_reducible repeat (first | refine bkN ?_ _ | refine bkD ?_ | refine bkA ?_ _)); exact BK295.out) hb); have n3_ := Z0.mk (bkB (g := gb299) (o := .cells #[.int .i64 t296, .int .i64 t297] 23 (0, 0)) (by (with_reducible repeat (first | refine bkN ?_ _ | refine bkD ?_ | refine bkA ?_ _)); exact BK299.out) hb); have n4_ := Z0.mk (bkB (g := gb303) (o := .cells #[.int .i64 t300, .int .i64 t301] 23 (0, 0)) (by (with_reducible repeat (first | refine bkN ?_ _ | refine bkD ?_ | refine bkA ?_ _)); exact BK303.out) hb); have n5_ := Z0.mk (bkB (g := gb307) (o := .cells #[.int .i64 t304, .int .i64 t305] 25 (0, 0)) (by (with_reducible repeat (first | refine bkN ?_ _ | refine bkD ?_ | refine bkA ?_ _)); exact BK307.out) hb); have n6_ := Z0.mk (bkB (g := gb320) (o := .cells #[.int .i64 0, .int .i64 0] 23 (0, 0)) (by (with_reducible repeat (first | refine bkN ?_ _ | refine bkD ?_ | refine bkA ?_ _)); exact BK320.out) hb); have n7_ := Z0.mk (bkB (g := gb321) (o := .cells #[.int .i64 0, .int .i64 0] 23 (0, 0)) (by (with_reducible repeat (first | refine bkN ?_ _ | refine bkD ?_ | refine bkA ?_ _)); exact BK321.out) hb); have n8_ := Z0.mk (bwT (by repeat (first | (with_reducible first | exact HB.out | apply bwA | apply bwN | apply bw1 | refine bwS ?_ GE295.out | refine bwS ?_ GE299.out | refine bwS ?_ GE303.out | refine bwS ?_ GE307.out | refine bwS ?_ GE320.out | refine bwS ?_ GE321.out) | exact HB.out)) hb); have n9_ := Z0.mk (hbox); have n10_ := Z0.mk ((by rw [hg]; exact (bwZ (by repeat (first | (with_reducible first | exact HB.out | apply bwA | apply bwN | apply bw1 | refine bwS ?_ GE295.out | refine bwS ?_ GE299.out | refine bwS ?_ GE303.out | refine bwS ?_ GE307.out | refine bwS ?_ GE320.out | refine bwS ?_ GE321.out) | exact HB.out))) : w.heap.size ≤ gb322)); have n11_ := Z0.mk ((by rw [hg]; exact (bwZ (by repeat (first | (with_reducible first | exact HB.out | apply bwA | apply bwN | apply bw1 | refine bwS ?_ GE295.out | refine bwS ?_ GE299.out | refine bwS ?_ GE303.out | refine bwS ?_ GE307.out | refine bwS ?_ GE320.out | refine bwS ?_ GE321.out) | exact HB.out))) : w.heap.size ≤ gb322)); have n12_ := Z0.mk ((by rw [hg]; exact Nat.ne_of_lt (blk_lt (g := gb295) (o := .cells #[.int .i64 a0_0, .int .i64 a0_1, .int .i64 a0_2, .int .i64 a0_3, .int .i64 a0_4] 37 (0, 0)) (by (with_reducible repeat (first | refine bkN ?_ _ | refine bkD ?_ | refine bkA ?_ _)); exact BK295.out)) : gb295 ≠ gb322)); have n13_ := Z0.mk ((by rw [hg]; exact Nat.ne_of_gt (blk_lt (g := gb295) (o := .cells #[.int .i64 a0_0, .int .i64 a0_1, .int .i64 a0_2, .int .i64 a0_3, .int .i64 a0_4] 37 (0, 0)) (by (with_reducible repeat (first | refine bkN ?_ _ | refine bkD ?_ | refine bkA ?_ _)); exact BK295.out)) : gb322 ≠ gb295)); have n14_ := Z0.mk ((by rw [hg]; exact Nat.ne_of_lt (blk_lt (g := gb299) (o := .cells #[.int .i64 t296, .int .i64 t297] 23 (0, 0)) (by (with_reducible repeat (first | refine bkN ?_ _ | refine bkD ?_ | refine bkA ?_ _)); exact BK299.out)) : gb299 ≠ gb322)); have n15_ := Z0.mk ((by rw [hg]; exact Nat.ne_of_gt (blk_lt (g := gb299) (o := .cells #[.int .i64 t296, .int .i64 t297] 23 (0, 0)) (by (with_reducible repeat (first | refine bkN ?_ _ | refine bkD ?_ | refine bkA ?_ _)); exact BK299.out)) : gb322 ≠ gb299)); have n16_ := Z0.mk ((by rw [hg]; exact Nat.ne_of_lt (blk_lt (g := gb303) (o := .cells #[.int .i64 t300, .int .i64 t301] 23 (0, 0)) (by (with_reducible repeat (first | refine bkN ?_ _ | refine bkD ?_ | refine bkA ?_ _)); exact BK303.out)) : gb303 ≠ gb322)); have n17_ := Z0.mk ((by rw [hg]; exact Nat.ne_of_gt (blk_lt (g := gb303) (o := .cells #[.int .i64 t300, .int .i64 t301] 23 (0, 0)) (by (with_reducible repeat (first | refine bkN ?_ _ | refine bkD ?_ | refine bkA ?_ _)); exact BK303.out)) : gb322 ≠ gb303)); have n18_ := Z0.mk ((by rw [hg]; exact Nat.ne_of_lt (blk_lt (g := gb307) (o := .cells #[.int .i64 t304, .int .i64 t305] 25 (0, 0)) (by (with_reducible repeat (first | refine bkN ?_ _ | refine bkD ?_ | refine bkA ?_ _)); exact BK307.out)) : gb307 ≠ gb322)); have n19_ := Z0.mk ((by rw [hg]; exact Nat.ne_of_gt (blk_lt (g := gb307) (o := .cells #[.int .i64 t304, .int .i64 t305] 25 (0, 0)) (by (with_reducible repeat (first | refine bkN ?_ _ | refine bkD ?_ | refine bkA ?_ _)); exact BK307.out)) : gb322 ≠ gb307)); have n20_ := Z0.mk ((by rw [hg]; exact Nat.ne_of_lt (blk_lt (g := gb320) (o := .cells #[.int .i64 0, .int .i64 0] 23 (0, 0)) (by (with_reducible repeat (first | refine bkN ?_ _ | refine bkD ?_ | refine bkA ?_ _)); exact BK320.out)) : gb320 ≠ gb322)); have n21_ := Z0.mk ((by rw [hg]; exact Nat.ne_of_gt (blk_lt (g := gb320) (o := .cells #[.int .i64 0, .int .i64 0] 23 (0, 0)) (by (with_reducible repeat (first | refine bkN ?_ _ | refine bkD ?_ | refine bkA ?_ _)); exact BK320.out)) : gb322 ≠ gb320)); have n22_ := Z0.mk ((by rw [hg]; exact Nat.ne_of_lt (blk_lt (g := gb321) (o := .cells #[.int .i64 0, .int .i64 0] 23 (0, 0)) (by (with_reducible repeat (first | refine bkN ?_ _ | refine bkD ?_ | refine bkA ?_ _)); exact BK321.out)) : gb321 ≠ gb322)); have n23_ := Z0.mk ((by rw [hg]; exact Nat.ne_of_gt (blk_lt (g := gb321) (o := .cells #[.int .i64 0, .int .i64 0] 23 (0, 0)) (by (with_reducible repeat (first | refine bkN ?_ _ | refine bkD ?_ | refine bkA ?_ _)); exact BK321.out)) : gb322 ≠ gb321)); clear HO312; clear HO318; clear BK295; clear BK299; clear BK303; clear BK307; clear BK320; clear BK321; clear HB; have HO312 := n0_; have HO318 := n1_; have BK295 := n2_; have BK299 := n3_; have BK303 := n4_; have BK307 := n5_; have BK320 := n6_; have BK321 := n7_; have HB := n8_; have BK322 := n9_; have GW322 := n10_; have GE322 := n11_; have NB295_322 := n12_; have NB322_295 := n13_; have NB299_322 := n14_; have NB322_299 := n15_; have NB303_322 := n16_; have NB322_303 := n17_; have NB307_322 := n18_; have NB322_307 := n19_; have NB320_322 := n20_; have NB322_320 := n21_; have NB321_322 := n22_; have NB322_321 := n23_; clear n0_ n1_ n2_ n3_ n4_ n5_ n6_ n7_ n8_ n9_ n10_ n11_ n12_ n13_ n14_ n15_ n16_ n17_ n18_ n19_ n20_ n21_ n22_ n23_; clear hb hbox hg))
 (try simp only [Act.put, List.setIfInBounds_toArray, List.set_cons_zero, List.set_cons_succ])
 go_cut [9] (fun v9 wc => ∃ (kq : Nat) (x9_10 : Int) (x321000_10 : Int) (x321001_10 : Int), v9 = .int .i64 x9_10 ∧ Z0 (cl6_HangSizes.j0 kq t298 t302 t306 x9_10 t319 a0_0 a0_1 a0_2 a0_3 a0_4 t296 t297 t300 t301 t304 t305 x321000_10 x321001_10 0 0 0 0 = some r) ∧ Z0 (kq ≤ k) ∧ Z0 (wc.heap[gb295]? = some (.cells #[.int .i64 a0_0, .int .i64 a0_1, .int .i64 a0_2, .int .i64 a0_3, .int .i64 a0_4] 37 (0, 0))) ∧ Z0 (wc.heap[gb299]? = some (.cells #[.int .i64 t296, .int .i64 t297] 23 (0, 0))) ∧ Z0 (wc.heap[gb303]? = some (.cells #[.int .i64 t300, .int .i64 t301] 23 (0, 0))) ∧ Z0 (wc.heap[gb307]? = some (.cells #[.int .i64 t304, .int .i64 t305] 25 (0, 0))) ∧ Z0 (wc.heap[gb320]? = some (.cells #[.int .i64 x321000_10, .int .i64 x321001_10] 23 (0, 0))) ∧ Z0 (wc.heap[gb321]? = some (.cells #[.int .i64 0, .int .i64 0] 23 (0, 0))) ∧ Z0 (wc.heap[gb322]? = some (.cells #[.int .i64 0, .int .i64 0] 24 (0, 0))) ∧ Z0 (Below w.heap.size w wc))
 case first =>
  have H := HC11.out
  clear HC11
  by_cases c46 : t313 = 0
  ·rw [if_pos c46] at H
   have c46b0 : (t313 == 0) = true := beq_iff_eq.mpr c46
   have c46b1 : (t313 != 0) = false := bne_eq_false_iff_eq.mpr c46
   clear c46
   (first | rw [c46b0] | (simp only [i64_w, i32_w]; rw [c46b0]) | skip)
   replace H := Option.bind_eq_some_iff.mp H
   obtain ⟨⟨t323, t324, t325⟩, A470, H⟩ := H
   replace H : (cl6_HangSizes.j0 k t298 t302 t306 t325 t319 a0_0 a0_1 a0_2 a0_3 a0_4 t296 t297 t300 t301 t304 t305 t323 t324 0 0 0 0) = some r := H
   have A47 := Z0.mk A470
   clear A470
   have H' := Z0.mk H
   clear H
   have hnb48 := NB295_299.out
   have hnc48 := NB299_295.out
   have hnb49 := NB295_303.out
   have hnc49 := NB303_295.out
   have hnb50 := NB295_307.out
   have hnc50 := NB307_295.out
   have hnb51 := NB295_320.out
   have hnc51 := NB320_295.out
   have hnb52 := NB295_321.out
   have hnc52 := NB321_295.out
   have hnb53 := NB295_322.out
   have hnc53 := NB322_295.out
   have hcz54_0 : w45.cell? ⟨gb295, 0, none⟩ = some (.int .i64 a0_0) := (bkC BK295.out 0).trans rfl
   have hcz54_1 : w45.cell? ⟨gb295, 1, none⟩ = some (.int .i64 a0_1) := (bkC BK295.out 1).trans rfl
   have hcz54_2 : w45.cell? ⟨gb295, 2, none⟩ = some (.int .i64 a0_2) := (bkC BK295.out 2).trans rfl
   have hcz54_3 : w45.cell? ⟨gb295, 3, none⟩ = some (.int .i64 a0_3) := (bkC BK295.out 3).trans rfl
   have hcz54_4 : w45.cell? ⟨gb295, 4, none⟩ = some (.int .i64 a0_4) := (bkC BK295.out 4).trans rfl
   have hfz54_0 := bkZ BK295.out 0
   have hfz54_1 := bkZ BK295.out 1
   have hfz54_2 := bkZ BK295.out 2
   have hfz54_3 := bkZ BK295.out 3
   have hfz54_4 := bkZ BK295.out 4
   go_wp2_with (first | ((with_reducible refine gtC (f := 29) rfl ?_); refine goesL_ (some 73) rfl rfl Tryd.func29 (by kernel_rfl) rfl #[.int .i64 a0_2, .int .i64 a0_3, .int .i64 a0_4] rfl (by (try simp only [List.map_toArray, List.map_cons, List.map_nil]); first | done | rfl | (simp only [List.length_drop, List.length_take]; rfl)) ?_; (with_reducible refine (cr6_Hanging.calls k a0_2 a0_3 a0_4 t323 t324 t325 _ A47.out).mono ?_); rintro e w55 ⟨rfl, hb⟩; refine ⟨_, rfl, ?_⟩; have n0_ := Z0.mk (Kd.R_below (by (with_reducible repeat (first | apply Kd.R_alloc | apply Kd.R_drewN | apply Kd.R_drew)); exact HO312.out) hb); have n1_ := Z0.mk (Kd.R_below (by (with_reducible repeat (first | apply Kd.R_alloc | apply Kd.R_drewN | apply Kd.R_drew)); exact HO318.out) hb); have n2_ := Z0.mk (bkB (g := gb295) (o := .cells #[.int .i64 a0_0, .int .i64 a0_1, .int .i64 a0_2, .int .i64 a0_3, .int .i64 a0_4] 37 (0, 0)) (by (with_reducible repeat (first | refine bkN ?_ _ | refine bkD ?_ | refine bkA ?_ _)); exact BK295.out) hb); have n3_ := Z0.mk (bkB (g := gb299) (o := .cells #[.int .i64 t296, .int .i64 t297] 23 (0, 0)) (by (with_reducible repeat (first | refine bkN ?_ _ | refine bkD ?_ | refine bkA ?_ _)); exact BK299.out) hb); have n4_ := Z0.mk (bkB (g := gb303) (o := .cells #[.int .i64 t300, .int .i64 t301] 23 (0, 0)) (by (with_reducible repeat (first | refine bkN ?_ _ | refine bkD ?_ | refine bkA ?_ _)); exact BK303.out) hb); have n5_ := Z0.mk (bkB (g := gb307) (o := .cells #[.int .i64 t304, .int .i64 t305] 25 (0, 0)) (by (with_reducible repeat (first | refine bkN ?_ _ | refine bkD ?_ | refine bkA ?_ _)); exact BK307.out) hb); have n6_ := Z0.mk (bkB (g := gb320) (o := .cells #[.int .i64 0, .int .i64 0] 23 (0, 0)) (by (with_reducible repeat (first | refine bkN ?_ _ | refine bkD ?_ | refine bkA ?_ _)); exact BK320.out) hb); have n7_ := Z0.mk (bkB (g := gb321) (o := .cells #[.int .i64 0, .int .i64 0] 23 (0, 0)) (by (with_reducible repeat (first | refine bkN ?_ _ | refine bkD ?_ | refine bkA ?_ _)); exact BK321.out) hb); have n8_ := Z0.mk (bkB (g := gb322) (o := .cells #[.int .i64 0, .int .i64 0] 24 (0, 0)) (by (with_reducible repeat (first | refine bkN ?_ _ | refine bkD ?_ | refine bkA ?_ _)); exact BK322.out) hb); have n9_ := Z0.mk (bwT (by repeat (first | (with_reducible first | exact HB.out | apply bwA | apply bwN | apply bw1 | refine bwS ?_ GE295.out | refine bwS ?_ GE299.out | refine bwS ?_ GE303.out | refine bwS ?_ GE307.out | refine bwS ?_ GE320.out | refine bwS ?_ GE321.out | refine bwS ?_ GE322.out) | exact HB.out)) hb); clear HO312; clear HO318; clear BK295; clear BK299; clear BK303; clear BK307; clear BK320; clear BK321; clear BK322; clear HB; have HO312 := n0_; have HO318 := n1_; have BK295 := n2_; have BK299 := n3_; have BK303 := n4_; have BK307 := n5_; have BK320 := n6_; have BK321 := n7_; have BK322 := n8_; have HB := n9_; clear n0_ n1_ n2_ n3_ n4_ n5_ n6_ n7_ n8_ n9_; (try clear hb); (try clear hb2); (try clear hk); (try clear hi); have hnb56 := NB320_299.out; have hnc56 := NB299_320.out; have hnb57 := NB320_303.out; have hnc57 := NB303_320.out; have hnb58 := NB320_307.out; have hnc58 := NB307_320.out; have hnb59 := NB320_321.out; have hnc59 := NB321_320.out; have hnb60 := NB320_322.out; have hnc60 := NB322_320.out; have hcz61_0 : w55.cell? ⟨gb320, 0, none⟩ = some (.int .i64 0) := (bkC BK320.out 0).trans rfl; have hcz61_1 : w55.cell? ⟨gb320, 1, none⟩ = some (.int .i64 0) := (bkC BK320.out 1).trans rfl; have hfz61_0 := bkZ BK320.out 0; have hfz61_1 := bkZ BK320.out 1))
   go_meet
   case rel => exact ⟨_, (t325), (t323), (t324), (by first | rfl | (simp; done) | (simp [*]; done)), H', ⟨by first | omega | exact Nat.le_refl _⟩, ⟨by (with_reducible repeat (first | refine bkN ?_ _ | refine bkD ?_ | refine bkA ?_ _)); refine bkF ?_ NB295_320.out _; (with_reducible repeat (first | refine bkN ?_ _ | refine bkD ?_ | refine bkA ?_ _)); refine bkF ?_ NB295_320.out _; (with_reducible repeat (first | refine bkN ?_ _ | refine bkD ?_ | refine bkA ?_ _)); exact BK295.out⟩, ⟨by (with_reducible repeat (first | refine bkN ?_ _ | refine bkD ?_ | refine bkA ?_ _)); refine bkF ?_ NB299_320.out _; (with_reducible repeat (first | refine bkN ?_ _ | refine bkD ?_ | refine bkA ?_ _)); refine bkF ?_ NB299_320.out _; (with_reducible repeat (first | refine bkN ?_ _ | refine bkD ?_ | refine bkA ?_ _)); exact BK299.out⟩, ⟨by (with_reducible repeat (first | refine bkN ?_ _ | refine bkD ?_ | refine bkA ?_ _)); refine bkF ?_ NB303_320.out _; (with_reducible repeat (first | refine bkN ?_ _ | refine bkD ?_ | refine bkA ?_ _)); refine bkF ?_ NB303_320.out _; (with_reducible repeat (first | refine bkN ?_ _ | refine bkD ?_ | refine bkA ?_ _)); exact BK303.out⟩, ⟨by (with_reducible repeat (first | refine bkN ?_ _ | refine bkD ?_ | refine bkA ?_ _)); refine bkF ?_ NB307_320.out _; (with_reducible repeat (first | refine bkN ?_ _ | refine bkD ?_ | refine bkA ?_ _)); refine bkF ?_ NB307_320.out _; (with_reducible repeat (first | refine bkN ?_ _ | refine bkD ?_ | refine bkA ?_ _)); exact BK307.out⟩, ⟨by (with_reducible repeat (first | refine bkN ?_ _ | refine bkD ?_ | refine bkA ?_ _)); refine bkP (cs := #[.int .i64 t323, .int .i64 0]) ?_ 1 _ rfl; (with_reducible repeat (first | refine bkN ?_ _ | refine bkD ?_ | refine bkA ?_ _)); refine bkP (cs := #[.int .i64 0, .int .i64 0]) ?_ 0 _ rfl; (with_reducible repeat (first | refine bkN ?_ _ | refine bkD ?_ | refine bkA ?_ _)); exact BK320.out⟩, ⟨by (with_reducible repeat (first | refine bkN ?_ _ | refine bkD ?_ | refine bkA ?_ _)); refine bkF ?_ NB321_320.out _; (with_reducible repeat (first | refine bkN ?_ _ | refine bkD ?_ | refine bkA ?_ _)); refine bkF ?_ NB321_320.out _; (with_reducible repeat (first | refine bkN ?_ _ | refine bkD ?_ | refine bkA ?_ _)); exact BK321.out⟩, ⟨by (with_reducible repeat (first | refine bkN ?_ _ | refine bkD ?_ | refine bkA ?_ _)); refine bkF ?_ NB322_320.out _; (with_reducible repeat (first | refine bkN ?_ _ | refine bkD ?_ | refine bkA ?_ _)); refine bkF ?_ NB322_320.out _; (with_reducible repeat (first | refine bkN ?_ _ | refine bkD ?_ | refine bkA ?_ _)); exact BK322.out⟩, ⟨by repeat (first | (with_reducible first | exact HB.out | apply bwA | apply bwN | apply bw1 | refine bwS ?_ GE295.out | refine bwS ?_ GE299.out | refine bwS ?_ GE303.out | refine bwS ?_ GE307.out | refine bwS ?_ GE320.out | refine bwS ?_ GE321.out | refine bwS ?_ GE322.out) | exact HB.out)⟩⟩
  ·rw [if_neg c46] at H
   have c46b0 : (t313 == 0) = false := beq_eq_false_iff_ne.mpr c46
   have c46b1 : (t313 != 0) = true := bne_iff_ne.mpr c46
   (first | rw [c46b0] | (simp only [i64_w, i32_w]; rw [c46b0]) | skip)
   have H' := Z0.mk H
   clear H
   go_wp2
   go_meet
   case rel => exact ⟨_, (t313), (0), (0), (by first | rfl | (simp; done) | (simp [*]; done)), H', ⟨by first | omega | exact Nat.le_refl _⟩, ⟨by (with_reducible repeat (first | refine bkN ?_ _ | refine bkD ?_ | refine bkA ?_ _)); exact BK295.out⟩, ⟨by (with_reducible repeat (first | refine bkN ?_ _ | refine bkD ?_ | refine bkA ?_ _)); exact BK299.out⟩, ⟨by (with_reducible repeat (first | refine bkN ?_ _ | refine bkD ?_ | refine bkA ?_ _)); exact BK303.out⟩, ⟨by (with_reducible repeat (first | refine bkN ?_ _ | refine bkD ?_ | refine bkA ?_ _)); exact BK307.out⟩, ⟨by (with_reducible repeat (first | refine bkN ?_ _ | refine bkD ?_ | refine bkA ?_ _)); exact BK320.out⟩, ⟨by (with_reducible repeat (first | refine bkN ?_ _ | refine bkD ?_ | refine bkA ?_ _)); exact BK321.out⟩, ⟨by (with_reducible repeat (first | refine bkN ?_ _ | refine bkD ?_ | refine bkA ?_ _)); exact BK322.out⟩, ⟨by repeat (first | (with_reducible first | exact HB.out | apply bwA | apply bwN | apply bw1 | refine bwS ?_ GE295.out | refine bwS ?_ GE299.out | refine bwS ?_ GE303.out | refine bwS ?_ GE307.out | refine bwS ?_ GE320.out | refine bwS ?_ GE321.out | refine bwS ?_ GE322.out) | exact HB.out)⟩⟩
 case rest =>
  clear HC11
  try clear c1
  try clear c2
  try clear p2
  try clear c4
  try clear c5
  try clear c6
  try clear c16
  try clear c21
  try clear c22
  try clear c23
  try clear c24
  try clear c25
  try clear c26
  try clear c27
  try clear c28
  try clear c29
  try clear c46
  try clear c46b0
  try clear c46b1
  try clear c48
  try clear c49
  try clear c50
  try clear c51
  try clear c52
  try clear c53
  try clear c56
  try clear c57
  try clear c58
  try clear c59
  try clear c60
  try clear hcz13_0
  try clear hcz13_1
  try clear hcz13_2
  try clear hcz13_3
  try clear hcz13_4
  try clear hcz17_0
  try clear hcz17_1
  try clear hcz18_0
  try clear hcz18_1
  try clear hcz18_2
  try clear hcz18_3
  try clear hcz18_4
  try clear hcz23_0
  try clear hcz23_1
  try clear hcz24_0
  try clear hcz24_1
  try clear hcz24_2
  try clear hcz24_3
  try clear hcz24_4
  try clear hcz30_0
  try clear hcz30_1
  try clear hcz54_0
  try clear hcz54_1
  try clear hcz54_2
  try clear hcz54_3
  try clear hcz54_4
  try clear hcz61_0
  try clear hcz61_1
  try clear hfz13_0
  try clear hfz13_1
  try clear hfz13_2
  try clear hfz13_3
  try clear hfz13_4
  try clear hfz17_0
  try clear hfz17_1
  try clear hfz18_0
  try clear hfz18_1
  try clear hfz18_2
  try clear hfz18_3
  try clear hfz18_4
  try clear hfz23_0
  try clear hfz23_1
  try clear hfz24_0
  try clear hfz24_1
  try clear hfz24_2
  try clear hfz24_3
  try clear hfz24_4
  try clear hfz30_0
  try clear hfz30_1
  try clear hfz54_0
  try clear hfz54_1
  try clear hfz54_2
  try clear hfz54_3
  try clear hfz54_4
  try clear hfz61_0
  try clear hfz61_1
  obtain ⟨kq, x9_10, x321000_10, x321001_10, rfl, HA, HJ10, BK295, BK299, BK303, BK307, BK320, BK321, BK322, HB⟩ := hcut
  cases kq with
  | zero => exact absurd HA.out (by simp [cl6_HangSizes.j0])
  | succ kj10 =>
   have H := HA.out
   clear HA
   simp only [cl6_HangSizes.j0] at H
   by_cases c62 : t319 = 0
   ·rw [if_pos c62] at H
    have c62b0 : (t319 == 0) = true := beq_iff_eq.mpr c62
    have c62b1 : (t319 != 0) = false := bne_eq_false_iff_eq.mpr c62
    clear c62
    replace H := Option.bind_eq_some_iff.mp H
    obtain ⟨⟨t326, t327⟩, A630, H⟩ := H
    replace H : ((cr6_Height.f kj10 a0_0 a0_1 a0_3 a0_4).bind fun bt328 => (if (t296 == x321000_10 && (t297 == x321001_10)) = true then (if t298 = x9_10 then (if (t300 == t326 && (t301 == t327)) = true then (if t302 = t319 then (if (t304 == bt328.1 && (t305 == bt328.2)) = true then (if t306 = t319 then ((cl6_awake.f kj10).bind fun t330 => (some t330)) else (none)) else (none)) else (none)) else (none)) else (none)) else (none))) = some r := H
    have A63 := Z0.mk A630
    clear A630
    replace H := Option.bind_eq_some_iff.mp H
    obtain ⟨⟨t328, t329⟩, A640, H⟩ := H
    replace H : (if (t296 == x321000_10 && (t297 == x321001_10)) = true then (if t298 = x9_10 then (if (t300 == t326 && (t301 == t327)) = true then (if t302 = t319 then (if (t304 == t328 && (t305 == t329)) = true then (if t306 = t319 then ((cl6_awake.f kj10).bind fun t330 => (some t330)) else (none)) else (none)) else (none)) else (none)) else (none)) else (none)) = some r := H
    have A64 := Z0.mk A640
    clear A640
    by_cases c65 : (t296 == x321000_10 && (t297 == x321001_10)) = true
    ·rw [if_pos c65] at H
     have c65b0 : (t296 == x321000_10 && (t297 == x321001_10)) = true := c65
     (try (have c65b1 : decide (t296 = x321000_10 && (t297 == x321001_10)) = true := by simpa using c65))
     (try (have c65b2 : (t296 == x321000_10 && (t297 == x321001_10)) = true := by simpa using c65))
     clear c65
     by_cases c66 : t298 = x9_10
     ·rw [if_pos c66] at H
      have c66b0 : (t298 == x9_10) = true := beq_iff_eq.mpr c66
      have c66b1 : (t298 != x9_10) = false := bne_eq_false_iff_eq.mpr c66
      clear c66
      by_cases c67 : (t300 == t326 && (t301 == t327)) = true
      ·rw [if_pos c67] at H
       have c67b0 : (t300 == t326 && (t301 == t327)) = true := c67
       (try (have c67b1 : decide (t300 = t326 && (t301 == t327)) = true := by simpa using c67))
       (try (have c67b2 : (t300 == t326 && (t301 == t327)) = true := by simpa using c67))
       clear c67
       by_cases c68 : t302 = t319
       ·rw [if_pos c68] at H
        have c68b0 : (t302 == t319) = true := beq_iff_eq.mpr c68
        have c68b1 : (t302 != t319) = false := bne_eq_false_iff_eq.mpr c68
        clear c68
        by_cases c69 : (t304 == t328 && (t305 == t329)) = true
        ·rw [if_pos c69] at H
         have c69b0 : (t304 == t328 && (t305 == t329)) = true := c69
         (try (have c69b1 : decide (t304 = t328 && (t305 == t329)) = true := by simpa using c69))
         (try (have c69b2 : (t304 == t328 && (t305 == t329)) = true := by simpa using c69))
         clear c69
         by_cases c70 : t306 = t319
         ·rw [if_pos c70] at H
          have c70b0 : (t306 == t319) = true := beq_iff_eq.mpr c70
          have c70b1 : (t306 != t319) = false := bne_eq_false_iff_eq.mpr c70
          clear c70
          replace H := Option.bind_eq_some_iff.mp H
          obtain ⟨t330, A710, H⟩ := H
          replace H : (some t330) = some r := H
          have A71 := Z0.mk A710
          clear A710
          obtain rfl := Option.some.inj H
          try go_wp2
          have n0_ := Z0.mk (bkD BK295.out)
          have n1_ := Z0.mk (bkD BK299.out)
          have n2_ := Z0.mk (bkD BK303.out)
          have n3_ := Z0.mk (bkD BK307.out)
          have n4_ := Z0.mk (bkD BK320.out)
          have n5_ := Z0.mk (bkD BK321.out)
          have n6_ := Z0.mk (bkD BK322.out)
          have n7_ := Z0.mk (bw1 HB.out)
          clear BK295
          clear BK299
          clear BK303
          clear BK307
          clear BK320
          clear BK321
          clear BK322
          clear HB
          have BK295 := n0_
          have BK299 := n1_
          have BK303 := n2_
          have BK307 := n3_
          have BK320 := n4_
          have BK321 := n5_
          have BK322 := n6_
          have HB := n7_
          clear n0_ n1_ n2_ n3_ n4_ n5_ n6_ n7_
          refine start_ (n := 16) (S := fun w' => w'.cell? ⟨gb295, 0, none⟩ = some (.int .i64 a0_0) ∧ w'.cell? ⟨gb295, 1, none⟩ = some (.int .i64 a0_1) ∧ w'.cell? ⟨gb295, 2, none⟩ = some (.int .i64 a0_2) ∧ w'.cell? ⟨gb295, 3, none⟩ = some (.int .i64 a0_3) ∧ w'.cell? ⟨gb295, 4, none⟩ = some (.int .i64 a0_4)) (ds := []) #[false, false, false, false, false, false, false, false, false, false, false, false, false, false, false, false] (by kernel_rfl) rfl rfl ⟨(bkC BK295.out 0).trans rfl, (bkC BK295.out 1).trans rfl, (bkC BK295.out 2).trans rfl, (bkC BK295.out 3).trans rfl, (bkC BK295.out 4).trans rfl⟩ (fun hHd => ?_); refine with_tabW cl6_HangSizes.tab11 cl6_HangSizes.bits11 (fun HT_ HW_ => ?_)
          generalize wc.drew = w72 at BK295 BK299 BK303 BK307 BK320 BK321 BK322 HB hHd ⊢
          refine pure_ (i := 0) (N := some 78) (v := ?_) (a' := ?_) #[true, false, false, false, false, false, false, false, false, false, false, false, false, false, false, false] rfl rfl (any_of HT_.out (by kernel_rfl)) (fun _ _ _ h => h) (Or.inl ⟨by rfl, ?_⟩) ?_ ?_
          rotate_left
          ·intro w'
           go_simp
           with_reducible rfl
          rotate_left
          ·simp only [Act.put, List.setIfInBounds_toArray, List.set_cons_zero, List.set_cons_succ, i64_w, i32_w]
           rfl
          refine pure_ (i := 2) (N := some 80) (v := ?_) (a' := ?_) #[true, false, true, false, false, false, false, false, false, false, false, false, false, false, false, false] rfl rfl (any_of HT_.out (by kernel_rfl)) (fun _ _ _ h => h) (Or.inl ⟨by rfl, ?_⟩) ?_ ?_
          rotate_left
          ·intro w'
           go_simp
           with_reducible rfl
          rotate_left
          ·simp only [Act.put, List.setIfInBounds_toArray, List.set_cons_zero, List.set_cons_succ, i64_w, i32_w]
           rfl
          refine pure_ (i := 4) (N := some 82) (v := ?_) (a' := ?_) #[true, false, true, false, true, false, false, false, false, false, false, false, false, false, false, false] rfl rfl (any_of HT_.out (by kernel_rfl)) (fun _ _ _ h => h) (Or.inl ⟨by rfl, ?_⟩) ?_ ?_
          rotate_left
          ·intro w'
           go_simp
           with_reducible rfl
          rotate_left
          ·simp only [Act.put, List.setIfInBounds_toArray, List.set_cons_zero, List.set_cons_succ, i64_w, i32_w]
           rfl
          refine pure_ (i := 7) (N := some 85) (v := ?_) (a' := ?_) #[true, false, true, false, true, false, false, true, false, false, false, false, false, false, false, false] rfl rfl (any_of HT_.out (by kernel_rfl)) (fun _ _ _ h => h) (Or.inl ⟨by rfl, ?_⟩) ?_ ?_
          rotate_left
          ·intro w'
           go_simp
           with_reducible rfl
          rotate_left
          ·simp only [Act.put, List.setIfInBounds_toArray, List.set_cons_zero, List.set_cons_succ, i64_w, i32_w]
           rfl
          refine pure_ (i := 9) (N := some 87) (v := ?_) (a' := ?_) #[true, false, true, false, true, false, false, true, false, true, false, false, false, false, false, false] rfl rfl (any_of HT_.out (by kernel_rfl)) (fun _ _ _ h => h) (Or.inl ⟨by rfl, ?_⟩) ?_ ?_
          rotate_left
          ·intro w'
           go_simp
           with_reducible rfl
          rotate_left
          ·simp only [Act.put, List.setIfInBounds_toArray, List.set_cons_zero, List.set_cons_succ, i64_w, i32_w]
           rfl
          refine pure_ (i := 11) (N := some 89) (v := ?_) (a' := ?_) #[true, false, true, false, true, false, false, true, false, true, false, true, false, false, false, false] rfl rfl (any_of HT_.out (by kernel_rfl)) (fun _ _ _ h => h) (Or.inl ⟨by rfl, ?_⟩) ?_ ?_
          rotate_left
          ·intro w'
           go_simp
           with_reducible rfl
          rotate_left
          ·simp only [Act.put, List.setIfInBounds_toArray, List.set_cons_zero, List.set_cons_succ, i64_w, i32_w]
           rfl
          refine take_ (i := 1) (N := some 79) (v := ?_) (a' := ?_) #[true, true, true, false, true, false, false, true, false, true, false, true, false, false, false, false] rfl rfl (take_ofW HT_.out HW_.out (by kernel_rfl)) (fun _ _ _ h => h) (Or.inl ⟨by rfl, ?_⟩) hHd ?_ ?_
          rotate_left
          ·rintro w' ⟨s0, s1, s2, s3, s4⟩
           go_simp
           with_reducible rfl
          rotate_left
          ·simp only [Act.put, List.setIfInBounds_toArray, List.set_cons_zero, List.set_cons_succ, i64_w, i32_w]
           rfl
          refine take_ (i := 3) (N := some 81) (v := ?_) (a' := ?_) #[true, true, true, true, true, false, false, true, false, true, false, true, false, false, false, false] rfl rfl (take_ofW HT_.out HW_.out (by kernel_rfl)) (fun _ _ _ h => h) (Or.inl ⟨by rfl, ?_⟩) hHd ?_ ?_
          rotate_left
          ·rintro w' ⟨s0, s1, s2, s3, s4⟩
           go_simp
           with_reducible rfl
          rotate_left
          ·simp only [Act.put, List.setIfInBounds_toArray, List.set_cons_zero, List.set_cons_succ, i64_w, i32_w]
           rfl
          refine take_ (i := 5) (N := some 83) (v := ?_) (a' := ?_) #[true, true, true, true, true, true, false, true, false, true, false, true, false, false, false, false] rfl rfl (take_ofW HT_.out HW_.out (by kernel_rfl)) (fun _ _ _ h => h) (Or.inl ⟨by rfl, ?_⟩) hHd ?_ ?_
          rotate_left
          ·rintro w' ⟨s0, s1, s2, s3, s4⟩
           go_simp
           with_reducible rfl
          rotate_left
          ·simp only [Act.put, List.setIfInBounds_toArray, List.set_cons_zero, List.set_cons_succ, i64_w, i32_w]
           rfl
          refine take_ (i := 8) (N := some 86) (v := ?_) (a' := ?_) #[true, true, true, true, true, true, false, true, true, true, false, true, false, false, false, false] rfl rfl (take_ofW HT_.out HW_.out (by kernel_rfl)) (fun _ _ _ h => h) (Or.inl ⟨by rfl, ?_⟩) hHd ?_ ?_
          rotate_left
          ·rintro w' ⟨s0, s1, s2, s3, s4⟩
           go_simp
           with_reducible rfl
          rotate_left
          ·simp only [Act.put, List.setIfInBounds_toArray, List.set_cons_zero, List.set_cons_succ, i64_w, i32_w]
           rfl
          refine take_ (i := 10) (N := some 88) (v := ?_) (a' := ?_) #[true, true, true, true, true, true, false, true, true, true, true, true, false, false, false, false] rfl rfl (take_ofW HT_.out HW_.out (by kernel_rfl)) (fun _ _ _ h => h) (Or.inl ⟨by rfl, ?_⟩) hHd ?_ ?_
          rotate_left
          ·rintro w' ⟨s0, s1, s2, s3, s4⟩
           go_simp
           with_reducible rfl
          rotate_left
          ·simp only [Act.put, List.setIfInBounds_toArray, List.set_cons_zero, List.set_cons_succ, i64_w, i32_w]
           rfl
          refine take_ (i := 12) (N := some 90) (v := ?_) (a' := ?_) #[true, true, true, true, true, true, false, true, true, true, true, true, true, false, false, false] rfl rfl (take_ofW HT_.out HW_.out (by kernel_rfl)) (fun _ _ _ h => h) (Or.inl ⟨by rfl, ?_⟩) hHd ?_ ?_
          rotate_left
          ·rintro w' ⟨s0, s1, s2, s3, s4⟩
           go_simp
           with_reducible rfl
          rotate_left
          ·simp only [Act.put, List.setIfInBounds_toArray, List.set_cons_zero, List.set_cons_succ, i64_w, i32_w]
           rfl
          refine one_ (i := 6) (N := some 84) #[true, true, true, true, true, true, true, true, true, true, true, true, true, false, false, false] rfl rfl (one_of HT_.out (by kernel_rfl)) (by decide) (fun K hK => ?_)
          refine goes_ Tryd.func30 (by kernel_rfl) rfl #[.agg #[.int .i64 a0_0, .int .i64 a0_1], .int .i64 a0_3, .int .i64 a0_4] (by rfl) rfl rfl (by (try simp only [List.map_toArray, List.map_cons, List.map_nil]); first | done | rfl | (simp only [List.length_drop, List.length_take]; rfl)) ?_
          with_reducible refine (cr6_Width.calls kj10 a0_0 a0_1 a0_3 a0_4 t326 t327 _ A63.out).mono ?_
          rintro e w73 ⟨rfl, hb⟩
          refine ⟨_, rfl, ?_⟩
          have n0_ := Z0.mk (bkB (g := gb295) (o := .cells #[.int .i64 a0_0, .int .i64 a0_1, .int .i64 a0_2, .int .i64 a0_3, .int .i64 a0_4] 37 (0, 0)) (by (with_reducible repeat (first | refine bkN ?_ _ | refine bkD ?_ | refine bkA ?_ _)); exact BK295.out) hb)
          have n1_ := Z0.mk (bkB (g := gb299) (o := .cells #[.int .i64 t296, .int .i64 t297] 23 (0, 0)) (by (with_reducible repeat (first | refine bkN ?_ _ | refine bkD ?_ | refine bkA ?_ _)); exact BK299.out) hb)
          have n2_ := Z0.mk (bkB (g := gb303) (o := .cells #[.int .i64 t300, .int .i64 t301] 23 (0, 0)) (by (with_reducible repeat (first | refine bkN ?_ _ | refine bkD ?_ | refine bkA ?_ _)); exact BK303.out) hb)
          have n3_ := Z0.mk (bkB (g := gb307) (o := .cells #[.int .i64 t304, .int .i64 t305] 25 (0, 0)) (by (with_reducible repeat (first | refine bkN ?_ _ | refine bkD ?_ | refine bkA ?_ _)); exact BK307.out) hb)
          have n4_ := Z0.mk (bkB (g := gb320) (o := .cells #[.int .i64 x321000_10, .int .i64 x321001_10] 23 (0, 0)) (by (with_reducible repeat (first | refine bkN ?_ _ | refine bkD ?_ | refine bkA ?_ _)); exact BK320.out) hb)
          have n5_ := Z0.mk (bkB (g := gb321) (o := .cells #[.int .i64 0, .int .i64 0] 23 (0, 0)) (by (with_reducible repeat (first | refine bkN ?_ _ | refine bkD ?_ | refine bkA ?_ _)); exact BK321.out) hb)
          have n6_ := Z0.mk (bkB (g := gb322) (o := .cells #[.int .i64 0, .int .i64 0] 24 (0, 0)) (by (with_reducible repeat (first | refine bkN ?_ _ | refine bkD ?_ | refine bkA ?_ _)); exact BK322.out) hb)
          have n7_ := Z0.mk (bwT (by repeat (first | (with_reducible first | exact HB.out | apply bwA | apply bwN | apply bw1 | refine bwS ?_ GE295.out | refine bwS ?_ GE299.out | refine bwS ?_ GE303.out | refine bwS ?_ GE307.out | refine bwS ?_ GE320.out | refine bwS ?_ GE321.out | refine bwS ?_ GE322.out) | exact HB.out)) hb)
          clear BK295
          clear BK299
          clear BK303
          clear BK307
          clear BK320
          clear BK321
          clear BK322
          clear HB
          have BK295 := n0_
          have BK299 := n1_
          have BK303 := n2_
          have BK307 := n3_
          have BK320 := n4_
          have BK321 := n5_
          have BK322 := n6_
          have HB := n7_
          clear n0_ n1_ n2_ n3_ n4_ n5_ n6_ n7_
          (try clear hb)
          (try clear hb2)
          (try clear hk)
          (try clear hi)
          refine hK.out _ _ ⟨(bkC BK295.out 0).trans rfl, (bkC BK295.out 1).trans rfl, (bkC BK295.out 2).trans rfl, (bkC BK295.out 3).trans rfl, (bkC BK295.out 4).trans rfl⟩ (fun hHd => ?_)
          clear hK K
          refine norm_ (a' := ?_) ?_ ?_
          rotate_left
          ·show Act.put _ (some 84) _ = _
           simp only [Act.put, List.setIfInBounds_toArray, List.set_cons_zero, List.set_cons_succ, i64_w, i32_w]
           rfl
          refine one_ (i := 13) (N := some 91) #[true, true, true, true, true, true, true, true, true, true, true, true, true, true, false, false] rfl rfl (one_of HT_.out (by kernel_rfl)) (by decide) (fun K hK => ?_)
          refine goes_ Tryd.func31 (by kernel_rfl) rfl #[.agg #[.int .i64 a0_0, .int .i64 a0_1], .int .i64 a0_3, .int .i64 a0_4] (by rfl) rfl rfl (by (try simp only [List.map_toArray, List.map_cons, List.map_nil]); first | done | rfl | (simp only [List.length_drop, List.length_take]; rfl)) ?_
          with_reducible refine (cr6_Height.calls kj10 a0_0 a0_1 a0_3 a0_4 t328 t329 _ A64.out).mono ?_
          rintro e w74 ⟨rfl, hb⟩
          refine ⟨_, rfl, ?_⟩
          have n0_ := Z0.mk (bkB (g := gb295) (o := .cells #[.int .i64 a0_0, .int .i64 a0_1, .int .i64 a0_2, .int .i64 a0_3, .int .i64 a0_4] 37 (0, 0)) (by (with_reducible repeat (first | refine bkN ?_ _ | refine bkD ?_ | refine bkA ?_ _)); exact BK295.out) hb)
          have n1_ := Z0.mk (bkB (g := gb299) (o := .cells #[.int .i64 t296, .int .i64 t297] 23 (0, 0)) (by (with_reducible repeat (first | refine bkN ?_ _ | refine bkD ?_ | refine bkA ?_ _)); exact BK299.out) hb)
          have n2_ := Z0.mk (bkB (g := gb303) (o := .cells #[.int .i64 t300, .int .i64 t301] 23 (0, 0)) (by (with_reducible repeat (first | refine bkN ?_ _ | refine bkD ?_ | refine bkA ?_ _)); exact BK303.out) hb)
          have n3_ := Z0.mk (bkB (g := gb307) (o := .cells #[.int .i64 t304, .int .i64 t305] 25 (0, 0)) (by (with_reducible repeat (first | refine bkN ?_ _ | refine bkD ?_ | refine bkA ?_ _)); exact BK307.out) hb)
          have n4_ := Z0.mk (bkB (g := gb320) (o := .cells #[.int .i64 x321000_10, .int .i64 x321001_10] 23 (0, 0)) (by (with_reducible repeat (first | refine bkN ?_ _ | refine bkD ?_ | refine bkA ?_ _)); exact BK320.out) hb)
          have n5_ := Z0.mk (bkB (g := gb321) (o := .cells #[.int .i64 0, .int .i64 0] 23 (0, 0)) (by (with_reducible repeat (first | refine bkN ?_ _ | refine bkD ?_ | refine bkA ?_ _)); exact BK321.out) hb)
          have n6_ := Z0.mk (bkB (g := gb322) (o := .cells #[.int .i64 0, .int .i64 0] 24 (0, 0)) (by (with_reducible repeat (first | refine bkN ?_ _ | refine bkD ?_ | refine bkA ?_ _)); exact BK322.out) hb)
          have n7_ := Z0.mk (bwT (by repeat (first | (with_reducible first | exact HB.out | apply bwA | apply bwN | apply bw1 | refine bwS ?_ GE295.out | refine bwS ?_ GE299.out | refine bwS ?_ GE303.out | refine bwS ?_ GE307.out | refine bwS ?_ GE320.out | refine bwS ?_ GE321.out | refine bwS ?_ GE322.out) | exact HB.out)) hb)
          clear BK295
          clear BK299
          clear BK303
          clear BK307
          clear BK320
          clear BK321
          clear BK322
          clear HB
          have BK295 := n0_
          have BK299 := n1_
          have BK303 := n2_
          have BK307 := n3_
          have BK320 := n4_
          have BK321 := n5_
          have BK322 := n6_
          have HB := n7_
          clear n0_ n1_ n2_ n3_ n4_ n5_ n6_ n7_
          (try clear hb)
          (try clear hb2)
          (try clear hk)
          (try clear hi)
          refine hK.out _ _ ⟨(bkC BK295.out 0).trans rfl, (bkC BK295.out 1).trans rfl, (bkC BK295.out 2).trans rfl, (bkC BK295.out 3).trans rfl, (bkC BK295.out 4).trans rfl⟩ (fun hHd => ?_)
          clear hK K
          refine norm_ (a' := ?_) ?_ ?_
          rotate_left
          ·show Act.put _ (some 91) _ = _
           simp only [Act.put, List.setIfInBounds_toArray, List.set_cons_zero, List.set_cons_succ, i64_w, i32_w]
           rfl
          refine one_ (i := 14) (N := none) #[true, true, true, true, true, true, true, true, true, true, true, true, true, true, true, false] rfl rfl (one_of HT_.out (by kernel_rfl)) (by decide) (fun K hK => ?_)
          have hs75 : w74.cell? ⟨gb321, 0, none⟩ = some (.int .i64 0) := (bkC BK321.out 0).trans rfl
          have hfs75 := bkZ BK321.out 0
          have hns75_0 := NB295_321.out
          have hns75_1 := NB299_321.out
          have hns75_2 := NB303_321.out
          have hns75_3 := NB307_321.out
          have hns75_4 := NB320_321.out
          have hns75_6 := NB322_321.out
          have hms75_0 := NB321_295.out
          have hms75_1 := NB321_299.out
          have hms75_2 := NB321_303.out
          have hms75_3 := NB321_307.out
          have hms75_4 := NB321_320.out
          have hms75_6 := NB321_322.out
          have hs76 : w74.cell? ⟨gb321, 1, none⟩ = some (.int .i64 0) := (bkC BK321.out 1).trans rfl
          have hfs76 := bkZ BK321.out 1
          have hns76_0 := NB295_321.out
          have hns76_1 := NB299_321.out
          have hns76_2 := NB303_321.out
          have hns76_3 := NB307_321.out
          have hns76_4 := NB320_321.out
          have hns76_6 := NB322_321.out
          have hms76_0 := NB321_295.out
          have hms76_1 := NB321_299.out
          have hms76_2 := NB321_303.out
          have hms76_3 := NB321_307.out
          have hms76_4 := NB321_320.out
          have hms76_6 := NB321_322.out
          refine skip_ (w1 := ?_) (by rfl) rfl ?_ ?_
          rotate_left
          ·go_simp
           rfl
          refine hK.out _ _ ⟨((cell_far (p := ⟨gb321, _, none⟩) NB295_321.out _).trans (((cell_far (p := ⟨gb321, _, none⟩) NB295_321.out _).trans (hHd.1)))), ((cell_far (p := ⟨gb321, _, none⟩) NB295_321.out _).trans (((cell_far (p := ⟨gb321, _, none⟩) NB295_321.out _).trans (hHd.2.1)))), ((cell_far (p := ⟨gb321, _, none⟩) NB295_321.out _).trans (((cell_far (p := ⟨gb321, _, none⟩) NB295_321.out _).trans (hHd.2.2.1)))), ((cell_far (p := ⟨gb321, _, none⟩) NB295_321.out _).trans (((cell_far (p := ⟨gb321, _, none⟩) NB295_321.out _).trans (hHd.2.2.2.1)))), ((cell_far (p := ⟨gb321, _, none⟩) NB295_321.out _).trans (((cell_far (p := ⟨gb321, _, none⟩) NB295_321.out _).trans (hHd.2.2.2.2))))⟩ (fun hHd => ?_)
          clear hK K
          refine one_ (i := 15) (N := none) #[true, true, true, true, true, true, true, true, true, true, true, true, true, true, true, true] rfl rfl (one_of HT_.out (by kernel_rfl)) (by decide) (fun K hK => ?_)
          have hs77 : w74.cell? ⟨gb322, 0, none⟩ = some (.int .i64 0) := (bkC BK322.out 0).trans rfl
          have hfs77 := bkZ BK322.out 0
          have hns77_0 := NB295_322.out
          have hns77_1 := NB299_322.out
          have hns77_2 := NB303_322.out
          have hns77_3 := NB307_322.out
          have hns77_4 := NB320_322.out
          have hns77_5 := NB321_322.out
          have hms77_0 := NB322_295.out
          have hms77_1 := NB322_299.out
          have hms77_2 := NB322_303.out
          have hms77_3 := NB322_307.out
          have hms77_4 := NB322_320.out
          have hms77_5 := NB322_321.out
          have hs78 : w74.cell? ⟨gb322, 1, none⟩ = some (.int .i64 0) := (bkC BK322.out 1).trans rfl
          have hfs78 := bkZ BK322.out 1
          have hns78_0 := NB295_322.out
          have hns78_1 := NB299_322.out
          have hns78_2 := NB303_322.out
          have hns78_3 := NB307_322.out
          have hns78_4 := NB320_322.out
          have hns78_5 := NB321_322.out
          have hms78_0 := NB322_295.out
          have hms78_1 := NB322_299.out
          have hms78_2 := NB322_303.out
          have hms78_3 := NB322_307.out
          have hms78_4 := NB322_320.out
          have hms78_5 := NB322_321.out
          refine skip_ (w1 := ?_) (by rfl) rfl ?_ ?_
          rotate_left
          ·go_simp
           rfl
          refine hK.out _ _ ⟨((cell_far (p := ⟨gb322, _, none⟩) NB295_322.out _).trans (((cell_far (p := ⟨gb322, _, none⟩) NB295_322.out _).trans (hHd.1)))), ((cell_far (p := ⟨gb322, _, none⟩) NB295_322.out _).trans (((cell_far (p := ⟨gb322, _, none⟩) NB295_322.out _).trans (hHd.2.1)))), ((cell_far (p := ⟨gb322, _, none⟩) NB295_322.out _).trans (((cell_far (p := ⟨gb322, _, none⟩) NB295_322.out _).trans (hHd.2.2.1)))), ((cell_far (p := ⟨gb322, _, none⟩) NB295_322.out _).trans (((cell_far (p := ⟨gb322, _, none⟩) NB295_322.out _).trans (hHd.2.2.2.1)))), ((cell_far (p := ⟨gb322, _, none⟩) NB295_322.out _).trans (((cell_far (p := ⟨gb322, _, none⟩) NB295_322.out _).trans (hHd.2.2.2.2))))⟩ (fun hHd => ?_)
          clear hK K
          refine done_ (done_of HT_.out (by kernel_rfl)) ?_
          have hnb79 := NB299_295.out
          have hnc79 := NB295_299.out
          have hnb80 := NB299_303.out
          have hnc80 := NB303_299.out
          have hnb81 := NB299_307.out
          have hnc81 := NB307_299.out
          have hnb82 := NB299_320.out
          have hnc82 := NB320_299.out
          have hnb83 := NB299_321.out
          have hnc83 := NB321_299.out
          have hnb84 := NB299_322.out
          have hnc84 := NB322_299.out
          have hcz85_0 : w74.cell? ⟨gb299, 0, none⟩ = some (.int .i64 t296) := (bkC BK299.out 0).trans rfl
          have hcz85_1 : w74.cell? ⟨gb299, 1, none⟩ = some (.int .i64 t297) := (bkC BK299.out 1).trans rfl
          have hfz85_0 := bkZ BK299.out 0
          have hfz85_1 := bkZ BK299.out 1
          have hnb86 := NB320_295.out
          have hnc86 := NB295_320.out
          have hnb87 := NB320_303.out
          have hnc87 := NB303_320.out
          have hnb88 := NB320_307.out
          have hnc88 := NB307_320.out
          have hnb89 := NB320_321.out
          have hnc89 := NB321_320.out
          have hnb90 := NB320_322.out
          have hnc90 := NB322_320.out
          have hcz91_0 : w74.cell? ⟨gb320, 0, none⟩ = some (.int .i64 x321000_10) := (bkC BK320.out 0).trans rfl
          have hcz91_1 : w74.cell? ⟨gb320, 1, none⟩ = some (.int .i64 x321001_10) := (bkC BK320.out 1).trans rfl
          have hfz91_0 := bkZ BK320.out 0
          have hfz91_1 := bkZ BK320.out 1
          have hnb92 := NB303_295.out
          have hnc92 := NB295_303.out
          have hnb93 := NB303_307.out
          have hnc93 := NB307_303.out
          have hnb94 := NB303_321.out
          have hnc94 := NB321_303.out
          have hnb95 := NB303_322.out
          have hnc95 := NB322_303.out
          have hcz96_0 : w74.cell? ⟨gb303, 0, none⟩ = some (.int .i64 t300) := (bkC BK303.out 0).trans rfl
          have hcz96_1 : w74.cell? ⟨gb303, 1, none⟩ = some (.int .i64 t301) := (bkC BK303.out 1).trans rfl
          have hfz96_0 := bkZ BK303.out 0
          have hfz96_1 := bkZ BK303.out 1
          have hnb97 := NB321_295.out
          have hnc97 := NB295_321.out
          have hnb98 := NB321_307.out
          have hnc98 := NB307_321.out
          have hnb99 := NB321_322.out
          have hnc99 := NB322_321.out
          have hcz100_0 : w74.cell? ⟨gb321, 0, none⟩ = some (.int .i64 0) := (bkC BK321.out 0).trans rfl
          have hcz100_1 : w74.cell? ⟨gb321, 1, none⟩ = some (.int .i64 0) := (bkC BK321.out 1).trans rfl
          have hfz100_0 := bkZ BK321.out 0
          have hfz100_1 := bkZ BK321.out 1
          have hnb101 := NB307_295.out
          have hnc101 := NB295_307.out
          have hnb102 := NB307_322.out
          have hnc102 := NB322_307.out
          have hcz103_0 : w74.cell? ⟨gb307, 0, none⟩ = some (.int .i64 t304) := (bkC BK307.out 0).trans rfl
          have hcz103_1 : w74.cell? ⟨gb307, 1, none⟩ = some (.int .i64 t305) := (bkC BK307.out 1).trans rfl
          have hfz103_0 := bkZ BK307.out 0
          have hfz103_1 := bkZ BK307.out 1
          have hnb104 := NB322_295.out
          have hnc104 := NB295_322.out
          have hcz105_0 : w74.cell? ⟨gb322, 0, none⟩ = some (.int .i64 0) := (bkC BK322.out 0).trans rfl
          have hcz105_1 : w74.cell? ⟨gb322, 1, none⟩ = some (.int .i64 0) := (bkC BK322.out 1).trans rfl
          have hfz105_0 := bkZ BK322.out 0
          have hfz105_1 := bkZ BK322.out 1
          try go_wp2_with (first | (go_at_call 22; (with_reducible refine (cl6_awake.calls kj10  t330 _ (hG.below (by repeat (first | (with_reducible first | exact HB.out | apply bwA | apply bwN | apply bw1 | refine bwS ?_ GE295.out | refine bwS ?_ GE299.out | refine bwS ?_ GE303.out | refine bwS ?_ GE307.out | refine bwS ?_ GE320.out | refine bwS ?_ GE321.out | refine bwS ?_ GE322.out) | exact HB.out))) A71.out).mono ?_); rintro e w106 ⟨rfl, hb⟩; have n0_ := Z0.mk (bkB (g := gb295) (o := .cells #[.int .i64 a0_0, .int .i64 a0_1, .int .i64 a0_2, .int .i64 a0_3, .int .i64 a0_4] 37 (0, 0)) (by (with_reducible repeat (first | refine bkN ?_ _ | refine bkD ?_ | refine bkA ?_ _)); refine bkF ?_ NB295_322.out _; (with_reducible repeat (first | refine bkN ?_ _ | refine bkD ?_ | refine bkA ?_ _)); refine bkF ?_ NB295_322.out _; (with_reducible repeat (first | refine bkN ?_ _ | refine bkD ?_ | refine bkA ?_ _)); refine bkF ?_ NB295_321.out _; (with_reducible repeat (first | refine bkN ?_ _ | refine bkD ?_ | refine bkA ?_ _)); refine bkF ?_ NB295_321.out _; (with_reducible repeat (first | refine bkN ?_ _ | refine bkD ?_ | refine bkA ?_ _)); exact BK295.out) hb); have n1_ := Z0.mk (bkB (g := gb299) (o := .cells #[.int .i64 t296, .int .i64 t297] 23 (0, 0)) (by (with_reducible repeat (first | refine bkN ?_ _ | refine bkD ?_ | refine bkA ?_ _)); refine bkF ?_ NB299_322.out _; (with_reducible repeat (first | refine bkN ?_ _ | refine bkD ?_ | refine bkA ?_ _)); refine bkF ?_ NB299_322.out _; (with_reducible repeat (first | refine bkN ?_ _ | refine bkD ?_ | refine bkA ?_ _)); refine bkF ?_ NB299_321.out _; (with_reducible repeat (first | refine bkN ?_ _ | refine bkD ?_ | refine bkA ?_ _)); refine bkF ?_ NB299_321.out _; (with_reducible repeat (first | refine bkN ?_ _ | refine bkD ?_ | refine bkA ?_ _)); exact BK299.out) hb); have n2_ := Z0.mk (bkB (g := gb303) (o := .cells #[.int .i64 t300, .int .i64 t301] 23 (0, 0)) (by (with_reducible repeat (first | refine bkN ?_ _ | refine bkD ?_ | refine bkA ?_ _)); refine bkF ?_ NB303_322.out _; (with_reducible repeat (first | refine bkN ?_ _ | refine bkD ?_ | refine bkA ?_ _)); refine bkF ?_ NB303_322.out _; (with_reducible repeat (first | refine bkN ?_ _ | refine bkD ?_ | refine bkA ?_ _)); refine bkF ?_ NB303_321.out _; (with_reducible repeat (first | refine bkN ?_ _ | refine bkD ?_ | refine bkA ?_ _)); refine bkF ?_ NB303_321.out _; (with_reducible repeat (first | refine bkN ?_ _ | refine bkD ?_ | refine bkA ?_ _)); exact BK303.out) hb); have n3_ := Z0.mk (bkB (g := gb307) (o := .cells #[.int .i64 t304, .int .i64 t305] 25 (0, 0)) (by (with_reducible repeat (first | refine bkN ?_ _ | refine bkD ?_ | refine bkA ?_ _)); refine bkF ?_ NB307_322.out _; (with_reducible repeat (first | refine bkN ?_ _ | refine bkD ?_ | refine bkA ?_ _)); refine bkF ?_ NB307_322.out _; (with_reducible repeat (first | refine bkN ?_ _ | refine bkD ?_ | refine bkA ?_ _)); refine bkF ?_ NB307_321.out _; (with_reducible repeat (first | refine bkN ?_ _ | refine bkD ?_ | refine bkA ?_ _)); refine bkF ?_ NB307_321.out _; (with_reducible repeat (first | refine bkN ?_ _ | refine bkD ?_ | refine bkA ?_ _)); exact BK307.out) hb); have n4_ := Z0.mk (bkB (g := gb320) (o := .cells #[.int .i64 x321000_10, .int .i64 x321001_10] 23 (0, 0)) (by (with_reducible repeat (first | refine bkN ?_ _ | refine bkD ?_ | refine bkA ?_ _)); refine bkF ?_ NB320_322.out _; (with_reducible repeat (first | refine bkN ?_ _ | refine bkD ?_ | refine bkA ?_ _)); refine bkF ?_ NB320_322.out _; (with_reducible repeat (first | refine bkN ?_ _ | refine bkD ?_ | refine bkA ?_ _)); refine bkF ?_ NB320_321.out _; (with_reducible repeat (first | refine bkN ?_ _ | refine bkD ?_ | refine bkA ?_ _)); refine bkF ?_ NB320_321.out _; (with_reducible repeat (first | refine bkN ?_ _ | refine bkD ?_ | refine bkA ?_ _)); exact BK320.out) hb); have n5_ := Z0.mk (bkB (g := gb321) (o := .cells #[.int .i64 t326, .int .i64 t327] 23 (0, 0)) (by (with_reducible repeat (first | refine bkN ?_ _ | refine bkD ?_ | refine bkA ?_ _)); refine bkF ?_ NB321_322.out _; (with_reducible repeat (first | refine bkN ?_ _ | refine bkD ?_ | refine bkA ?_ _)); refine bkF ?_ NB321_322.out _; (with_reducible repeat (first | refine bkN ?_ _ | refine bkD ?_ | refine bkA ?_ _)); refine bkP (cs := #[.int .i64 t326, .int .i64 0]) ?_ 1 _ rfl; (with_reducible repeat (first | refine bkN ?_ _ | refine bkD ?_ | refine bkA ?_ _)); refine bkP (cs := #[.int .i64 0, .int .i64 0]) ?_ 0 _ rfl; (with_reducible repeat (first | refine bkN ?_ _ | refine bkD ?_ | refine bkA ?_ _)); exact BK321.out) hb); have n6_ := Z0.mk (bkB (g := gb322) (o := .cells #[.int .i64 t328, .int .i64 t329] 24 (0, 0)) (by (with_reducible repeat (first | refine bkN ?_ _ | refine bkD ?_ | refine bkA ?_ _)); refine bkP (cs := #[.int .i64 t328, .int .i64 0]) ?_ 1 _ rfl; (with_reducible repeat (first | refine bkN ?_ _ | refine bkD ?_ | refine bkA ?_ _)); refine bkP (cs := #[.int .i64 0, .int .i64 0]) ?_ 0 _ rfl; (with_reducible repeat (first | refine bkN ?_ _ | refine bkD ?_ | refine bkA ?_ _)); refine bkF ?_ NB322_321.out _; (with_reducible repeat (first | refine bkN ?_ _ | refine bkD ?_ | refine bkA ?_ _)); refine bkF ?_ NB322_321.out _; (with_reducible repeat (first | refine bkN ?_ _ | refine bkD ?_ | refine bkA ?_ _)); exact BK322.out) hb); have n7_ := Z0.mk (bwT (by repeat (first | (with_reducible first | exact HB.out | apply bwA | apply bwN | apply bw1 | refine bwS ?_ GE295.out | refine bwS ?_ GE299.out | refine bwS ?_ GE303.out | refine bwS ?_ GE307.out | refine bwS ?_ GE320.out | refine bwS ?_ GE321.out | refine bwS ?_ GE322.out) | exact HB.out)) hb); clear BK295; clear BK299; clear BK303; clear BK307; clear BK320; clear BK321; clear BK322; clear HB; have BK295 := n0_; have BK299 := n1_; have BK303 := n2_; have BK307 := n3_; have BK320 := n4_; have BK321 := n5_; have BK322 := n6_; have HB := n7_; clear n0_ n1_ n2_ n3_ n4_ n5_ n6_ n7_; (try clear hb); (try clear hb2); (try clear hk); (try clear hi)))
          go_ret
          exact ⟨by first | rfl | (simp [errW_none, errW_some] <;> rfl) | (simp [*, errW_none, errW_some] <;> rfl), by repeat (first | (with_reducible first | exact HB.out | apply bwA | apply bwN | apply bw1 | refine bwS ?_ GE295.out | refine bwS ?_ GE299.out | refine bwS ?_ GE303.out | refine bwS ?_ GE307.out | refine bwS ?_ GE320.out | refine bwS ?_ GE321.out | refine bwS ?_ GE322.out) | exact HB.out)⟩
         ·rw [if_neg c70] at H
          exact absurd H (by simp)
        ·rw [if_neg c69] at H
         exact absurd H (by simp)
       ·rw [if_neg c68] at H
        exact absurd H (by simp)
      ·rw [if_neg c67] at H
       exact absurd H (by simp)
     ·rw [if_neg c66] at H
      exact absurd H (by simp)
    ·rw [if_neg c65] at H
     exact absurd H (by simp)
   ·rw [if_neg c62] at H
    have c62b0 : (t319 == 0) = false := beq_eq_false_iff_ne.mpr c62
    have c62b1 : (t319 != 0) = true := bne_iff_ne.mpr c62
    by_cases c107 : (t296 == x321000_10 && (t297 == x321001_10)) = true
    ·rw [if_pos c107] at H
     have c107b0 : (t296 == x321000_10 && (t297 == x321001_10)) = true := c107
     (try (have c107b1 : decide (t296 = x321000_10 && (t297 == x321001_10)) = true := by simpa using c107))
     (try (have c107b2 : (t296 == x321000_10 && (t297 == x321001_10)) = true := by simpa using c107))
     clear c107
     by_cases c108 : t298 = x9_10
     ·rw [if_pos c108] at H
      have c108b0 : (t298 == x9_10) = true := beq_iff_eq.mpr c108
      have c108b1 : (t298 != x9_10) = false := bne_eq_false_iff_eq.mpr c108
      clear c108
      by_cases c109 : (t300 == 0 && (t301 == 0)) = true
      ·rw [if_pos c109] at H
       have c109b0 : (t300 == 0 && (t301 == 0)) = true := c109
       (try (have c109b1 : decide (t300 = 0 && (t301 == 0)) = true := by simpa using c109))
       (try (have c109b2 : (t300 == 0 && (t301 == 0)) = true := by simpa using c109))
       clear c109
       by_cases c110 : t302 = t319
       ·rw [if_pos c110] at H
        have c110b0 : (t302 == t319) = true := beq_iff_eq.mpr c110
        have c110b1 : (t302 != t319) = false := bne_eq_false_iff_eq.mpr c110
        clear c110
        by_cases c111 : (t304 == 0 && (t305 == 0)) = true
        ·rw [if_pos c111] at H
         have c111b0 : (t304 == 0 && (t305 == 0)) = true := c111
         (try (have c111b1 : decide (t304 = 0 && (t305 == 0)) = true := by simpa using c111))
         (try (have c111b2 : (t304 == 0 && (t305 == 0)) = true := by simpa using c111))
         clear c111
         by_cases c112 : t306 = t319
         ·rw [if_pos c112] at H
          have c112b0 : (t306 == t319) = true := beq_iff_eq.mpr c112
          have c112b1 : (t306 != t319) = false := bne_eq_false_iff_eq.mpr c112
          clear c112
          replace H := Option.bind_eq_some_iff.mp H
          obtain ⟨t331, A1130, H⟩ := H
          replace H : (some t331) = some r := H
          have A113 := Z0.mk A1130
          clear A1130
          obtain rfl := Option.some.inj H
          have hnb114 := NB299_295.out
          have hnc114 := NB295_299.out
          have hnb115 := NB299_303.out
          have hnc115 := NB303_299.out
          have hnb116 := NB299_307.out
          have hnc116 := NB307_299.out
          have hnb117 := NB299_320.out
          have hnc117 := NB320_299.out
          have hnb118 := NB299_321.out
          have hnc118 := NB321_299.out
          have hnb119 := NB299_322.out
          have hnc119 := NB322_299.out
          have hcz120_0 : wc.cell? ⟨gb299, 0, none⟩ = some (.int .i64 t296) := (bkC BK299.out 0).trans rfl
          have hcz120_1 : wc.cell? ⟨gb299, 1, none⟩ = some (.int .i64 t297) := (bkC BK299.out 1).trans rfl
          have hfz120_0 := bkZ BK299.out 0
          have hfz120_1 := bkZ BK299.out 1
          have hnb121 := NB320_295.out
          have hnc121 := NB295_320.out
          have hnb122 := NB320_303.out
          have hnc122 := NB303_320.out
          have hnb123 := NB320_307.out
          have hnc123 := NB307_320.out
          have hnb124 := NB320_321.out
          have hnc124 := NB321_320.out
          have hnb125 := NB320_322.out
          have hnc125 := NB322_320.out
          have hcz126_0 : wc.cell? ⟨gb320, 0, none⟩ = some (.int .i64 x321000_10) := (bkC BK320.out 0).trans rfl
          have hcz126_1 : wc.cell? ⟨gb320, 1, none⟩ = some (.int .i64 x321001_10) := (bkC BK320.out 1).trans rfl
          have hfz126_0 := bkZ BK320.out 0
          have hfz126_1 := bkZ BK320.out 1
          have hnb127 := NB303_295.out
          have hnc127 := NB295_303.out
          have hnb128 := NB303_307.out
          have hnc128 := NB307_303.out
          have hnb129 := NB303_321.out
          have hnc129 := NB321_303.out
          have hnb130 := NB303_322.out
          have hnc130 := NB322_303.out
          have hcz131_0 : wc.cell? ⟨gb303, 0, none⟩ = some (.int .i64 t300) := (bkC BK303.out 0).trans rfl
          have hcz131_1 : wc.cell? ⟨gb303, 1, none⟩ = some (.int .i64 t301) := (bkC BK303.out 1).trans rfl
          have hfz131_0 := bkZ BK303.out 0
          have hfz131_1 := bkZ BK303.out 1
          have hnb132 := NB321_295.out
          have hnc132 := NB295_321.out
          have hnb133 := NB321_307.out
          have hnc133 := NB307_321.out
          have hnb134 := NB321_322.out
          have hnc134 := NB322_321.out
          have hcz135_0 : wc.cell? ⟨gb321, 0, none⟩ = some (.int .i64 0) := (bkC BK321.out 0).trans rfl
          have hcz135_1 : wc.cell? ⟨gb321, 1, none⟩ = some (.int .i64 0) := (bkC BK321.out 1).trans rfl
          have hfz135_0 := bkZ BK321.out 0
          have hfz135_1 := bkZ BK321.out 1
          have hnb136 := NB307_295.out
          have hnc136 := NB295_307.out
          have hnb137 := NB307_322.out
          have hnc137 := NB322_307.out
          have hcz138_0 : wc.cell? ⟨gb307, 0, none⟩ = some (.int .i64 t304) := (bkC BK307.out 0).trans rfl
          have hcz138_1 : wc.cell? ⟨gb307, 1, none⟩ = some (.int .i64 t305) := (bkC BK307.out 1).trans rfl
          have hfz138_0 := bkZ BK307.out 0
          have hfz138_1 := bkZ BK307.out 1
          have hnb139 := NB322_295.out
          have hnc139 := NB295_322.out
          have hcz140_0 : wc.cell? ⟨gb322, 0, none⟩ = some (.int .i64 0) := (bkC BK322.out 0).trans rfl
          have hcz140_1 : wc.cell? ⟨gb322, 1, none⟩ = some (.int .i64 0) := (bkC BK322.out 1).trans rfl
          have hfz140_0 := bkZ BK322.out 0
          have hfz140_1 := bkZ BK322.out 1
          go_wp2_with (first | (go_at_call 22; (with_reducible refine (cl6_awake.calls kj10  t331 _ (hG.below (by repeat (first | (with_reducible first | exact HB.out | apply bwA | apply bwN | apply bw1 | refine bwS ?_ GE295.out | refine bwS ?_ GE299.out | refine bwS ?_ GE303.out | refine bwS ?_ GE307.out | refine bwS ?_ GE320.out | refine bwS ?_ GE321.out | refine bwS ?_ GE322.out) | exact HB.out))) A113.out).mono ?_); rintro e w141 ⟨rfl, hb⟩; have n0_ := Z0.mk (bkB (g := gb295) (o := .cells #[.int .i64 a0_0, .int .i64 a0_1, .int .i64 a0_2, .int .i64 a0_3, .int .i64 a0_4] 37 (0, 0)) (by (with_reducible repeat (first | refine bkN ?_ _ | refine bkD ?_ | refine bkA ?_ _)); exact BK295.out) hb); have n1_ := Z0.mk (bkB (g := gb299) (o := .cells #[.int .i64 t296, .int .i64 t297] 23 (0, 0)) (by (with_reducible repeat (first | refine bkN ?_ _ | refine bkD ?_ | refine bkA ?_ _)); exact BK299.out) hb); have n2_ := Z0.mk (bkB (g := gb303) (o := .cells #[.int .i64 t300, .int .i64 t301] 23 (0, 0)) (by (with_reducible repeat (first | refine bkN ?_ _ | refine bkD ?_ | refine bkA ?_ _)); exact BK303.out) hb); have n3_ := Z0.mk (bkB (g := gb307) (o := .cells #[.int .i64 t304, .int .i64 t305] 25 (0, 0)) (by (with_reducible repeat (first | refine bkN ?_ _ | refine bkD ?_ | refine bkA ?_ _)); exact BK307.out) hb); have n4_ := Z0.mk (bkB (g := gb320) (o := .cells #[.int .i64 x321000_10, .int .i64 x321001_10] 23 (0, 0)) (by (with_reducible repeat (first | refine bkN ?_ _ | refine bkD ?_ | refine bkA ?_ _)); exact BK320.out) hb); have n5_ := Z0.mk (bkB (g := gb321) (o := .cells #[.int .i64 0, .int .i64 0] 23 (0, 0)) (by (with_reducible repeat (first | refine bkN ?_ _ | refine bkD ?_ | refine bkA ?_ _)); exact BK321.out) hb); have n6_ := Z0.mk (bkB (g := gb322) (o := .cells #[.int .i64 0, .int .i64 0] 24 (0, 0)) (by (with_reducible repeat (first | refine bkN ?_ _ | refine bkD ?_ | refine bkA ?_ _)); exact BK322.out) hb); have n7_ := Z0.mk (bwT (by repeat (first | (with_reducible first | exact HB.out | apply bwA | apply bwN | apply bw1 | refine bwS ?_ GE295.out | refine bwS ?_ GE299.out | refine bwS ?_ GE303.out | refine bwS ?_ GE307.out | refine bwS ?_ GE320.out | refine bwS ?_ GE321.out | refine bwS ?_ GE322.out) | exact HB.out)) hb); clear BK295; clear BK299; clear BK303; clear BK307; clear BK320; clear BK321; clear BK322; clear HB; have BK295 := n0_; have BK299 := n1_; have BK303 := n2_; have BK307 := n3_; have BK320 := n4_; have BK321 := n5_; have BK322 := n6_; have HB := n7_; clear n0_ n1_ n2_ n3_ n4_ n5_ n6_ n7_; (try clear hb); (try clear hb2); (try clear hk); (try clear hi)))
          go_ret
          exact ⟨by first | rfl | (simp [errW_none, errW_some] <;> rfl) | (simp [*, errW_none, errW_some] <;> rfl), by repeat (first | (with_reducible first | exact HB.out | apply bwA | apply bwN | apply bw1 | refine bwS ?_ GE295.out | refine bwS ?_ GE299.out | refine bwS ?_ GE303.out | refine bwS ?_ GE307.out | refine bwS ?_ GE320.out | refine bwS ?_ GE321.out | refine bwS ?_ GE322.out) | exact HB.out)⟩
         ·rw [if_neg c112] at H
          exact absurd H (by simp)
        ·rw [if_neg c111] at H
         exact absurd H (by simp)
       ·rw [if_neg c110] at H
        exact absurd H (by simp)
      ·rw [if_neg c109] at H
       exact absurd H (by simp)
     ·rw [if_neg c108] at H
      exact absurd H (by simp)
    ·rw [if_neg c107] at H
     exact absurd H (by simp)
end Go.Proofs.YtppighiaffppkaaDoor.H
end
section
namespace Go.Proofs.YtppighiaffppkaaDoor.H
open Go.RowKit Go.Proofs.YtppighiaffppkaaDoorW.PrintWords Go.Proofs.YtppighiaffppkaaDoorW.PrintLast Go.Proofs.YtppighiaffppkaaDoorW.PrintMore
set_option linter.unusedSimpArgs false
set_option linter.unusedVariables false
theorem mul_bd {a b A B : Int} (h0 : 0 ≤ a) (h1 : a ≤ A) (h2 : 0 ≤ b) (h3 : b ≤ B) : 0 ≤ a * b ∧ a * b ≤ A * B := ⟨Int.mul_nonneg h0 h2, Int.mul_le_mul h1 h3 h2 (by omega)⟩
theorem Ev.eqb {α β : Type} {x : Option α} {f : Nat → α → Option β} {a : α} {r : β} (h : x = Option.some a) (k : Ev (fun n => f n a) r) : Ev (fun n => x.bind (f n)) r := by
 subst h; exact k
theorem Ev.pos {α : Type} {c : Prop} [Decidable c] {g f : Nat → Option α} {r : α} (hc : c) (k : Ev g r) : Ev (fun n => if c then g n else f n) r := by simpa [hc] using k
theorem Ev.neg {α : Type} {c : Prop} [Decidable c] {g f : Nat → Option α} {r : α} (hc : ¬ c) (k : Ev f r) : Ev (fun n => if c then g n else f n) r := by simpa [hc] using k
theorem ref_CheckRange_eq (n lo hi : Int) : cr1_CheckRange.f n lo hi = some (rangeE n lo hi) := by
 unfold cr1_CheckRange.f rangeE
 split
 ·rfl
 ·split <;> rfl
theorem ref_First_loop (l : List Int) (hl : l.length < 9223372036854775807) : ∀ (d i k : Nat), i + d = l.length → d < k → cr1_First.l0 k l (i : Int) = some (firstE (l.drop i)) := by
 intro d
 induction d with
 | zero =>
  intro i k hi hk
  obtain ⟨k, rfl⟩ : ∃ m, k = m + 1 := ⟨k - 1, by omega⟩
  simp only [cr1_First.l0]
  rw [if_neg (by omega), List.drop_eq_nil_of_le (by omega)]
  rfl
 | succ d ih =>
  intro i k hi hk
  obtain ⟨k, rfl⟩ : ∃ m, k = m + 1 := ⟨k - 1, by omega⟩
  simp only [cr1_First.l0]
  rw [if_pos (by omega), if_pos (by omega), rd_drop (by omega), List.drop_eq_getElem_cons (by omega), wrap_id (by omega) (by omega)]
  have e : ((i : Int) + 1) = ((i + 1 : Nat) : Int) := by omega
  rw [e, ih (i + 1) k (by omega) (by omega)]
  simp only [firstE]
  split <;> rfl
theorem ref_First_ev (l : List Int) (hl : l.length < 9223372036854775807) : Ev (fun k => cr1_First.f k l) (firstE l) :=
 ⟨l.length + 1, fun k hk => by
  have := ref_First_loop l hl l.length 0 k (by omega) (by omega)
  simpa [cr1_First.f] using this⟩
theorem ref_Divisor_loop : ∀ (n k : Nat) (a b : Int), 0 ≤ a → 0 ≤ b → b.toNat ≤ n → n < k → cr6_Divisor.f k a b = some (gcdI a b) := by
 intro n
 induction n with
 | zero =>
  intro k a b ha hb hn hk
  obtain ⟨k, rfl⟩ : ∃ m, k = m + 1 := ⟨k - 1, by omega⟩
  obtain rfl : b = 0 := by omega
  simp only [cr6_Divisor.f]
  rw [if_pos trivial, gcdI_zero_right ha]
 | succ n ih =>
  intro k a b ha hb hn hk
  obtain ⟨k, rfl⟩ : ∃ m, k = m + 1 := ⟨k - 1, by omega⟩
  simp only [cr6_Divisor.f]
  by_cases h : b = 0
  ·subst h; rw [if_pos rfl, gcdI_zero_right ha]
  ·rw [if_neg h]
   have h1 : Int.tmod a b = a % b := Int.tmod_eq_emod_of_nonneg ha
   have h2 : 0 ≤ a % b := Int.emod_nonneg _ h
   have h3 : a % b < b := Int.emod_lt_of_pos _ (by omega)
   rw [ih k b (Int.tmod a b) hb (by omega) (by omega) (by omega), gcdI_step ha (by omega)]
   rfl
theorem ref_Divisor_ev (a b : Int) (ha : 0 ≤ a) (hb : 0 ≤ b) : Ev (fun k => cr6_Divisor.f k a b) (gcdI a b) :=
 ⟨b.toNat + 1, fun k hk => ref_Divisor_loop b.toNat k a b ha hb (by omega) (by omega)⟩
theorem ref_square_ev (a b : Int) (ha : 0 ≤ a) (hb : 0 < b) (ha1 : a ≤ 9223372036854775807) (hb1 : b ≤ 9223372036854775807) : Ev (fun k => cr6_square.f k a b) (lowI a b) := by
 unfold cr6_square.f
 refine (ref_Divisor_ev a b ha (by omega)).bind (Ev.some ?_)
 have h := gcdI_pos (a := a) (Or.inr hb)
 rw [if_neg (by omega), lowI_eq ha hb ha1 hb1]
theorem ref_CheckRatio_ev (p q : Int) : Ev (fun k => cr6_CheckRatio.f k p q) (checkR p q) := by
 unfold cr6_CheckRatio.f checkR
 by_cases h1 : p < 1
 ·refine Ev.pos h1 (Ev.step (fun _ => rfl) (Ev.some ?_)); rw [if_pos (by omega)]
 refine Ev.neg h1 ?_
 by_cases h2 : p > 30
 ·refine Ev.pos h2 (Ev.step (fun _ => rfl) (Ev.some ?_)); rw [if_pos (by omega)]
 refine Ev.neg h2 ?_
 by_cases h3 : q < 1
 ·refine Ev.pos h3 (Ev.step (fun _ => rfl) (Ev.some ?_)); rw [if_pos (by omega)]
 refine Ev.neg h3 (Ev.step (fun _ => rfl) ?_)
 by_cases h4 : q > 30
 ·refine Ev.pos (by simpa using h4) (Ev.some ?_); rw [if_pos (by omega)]
 refine Ev.neg (by simpa using h4) ?_
 rw [if_neg (by omega)]
 by_cases h5 : p > q
 ·refine Ev.pos h5 (Ev.some ?_); rw [if_pos h5]
 refine Ev.neg h5 ((ref_Divisor_ev p q (by omega) (by omega)).bind (Ev.some ?_))
 rw [if_neg h5]; split <;> rfl
theorem checkR_ok {p q : Int} (h : checkR p q = 0) : 1 ≤ p ∧ p ≤ q ∧ q ≤ 30 ∧ gcdI p q = 1 := by
 unfold checkR at h
 split at h
 ·omega
 ·split at h
  ·omega
  ·split at h <;> omega
theorem sq_bd {p q : Int} (h1 : 1 ≤ p) (h2 : p ≤ q) (h3 : q ≤ 30) : 1 ≤ p * p ∧ p * p ≤ q * q ∧ q * q ≤ 900 ∧ wrap64 (p * p) = p * p ∧ wrap64 (q * q) = q * q ∧ wrap64 (wrap64 (q * q) - wrap64 (p * p)) = q * q - p * p := by
 have a := mul_bd (a := p - 1) (b := p - 1) (by omega) (Int.le_refl _) (by omega) (Int.le_refl _)
 have b := mul_bd (by omega : 0 ≤ p) h2 (by omega : 0 ≤ p) h2
 have c := mul_bd (by omega : 0 ≤ q) h3 (by omega : 0 ≤ q) h3
 have e : (p - 1) * (p - 1) = p * p - 2 * p + 1 := by rw [Int.sub_mul, Int.mul_sub]; omega
 have w1 : wrap64 (p * p) = p * p := wrap_id (by omega) (by omega)
 have w2 : wrap64 (q * q) = q * q := wrap_id (by omega) (by omega)
 refine ⟨by omega, b.2, c.2, w1, w2, ?_⟩
 rw [w1, w2, wrap_id (by omega) (by omega)]
def ifOk (e : Int) (x : Int × Int) : Int × Int × Int := if e = 0 then (x.1, x.2, 0) else (0, 0, e)
theorem ref_ratio_ev (a b : Int) (ha : 0 ≤ a) (hb : 0 < b) (ha1 : a ≤ 9223372036854775807) (hb1 : b ≤ 9223372036854775807) : Ev (fun k => cr6_ratio.f k a b) (lowI a b) := by
 unfold cr6_ratio.f
 refine (ref_Divisor_ev a b ha (by omega)).bind (Ev.some ?_)
 have h := gcdI_pos (a := a) (Or.inr hb)
 rw [if_neg (by omega), lowI_eq ha hb ha1 hb1]
theorem firstE_ok2 {a b : Int} (h : firstE [a, b] = 0) : a = 0 ∧ b = 0 := by
 simp only [firstE] at h
 split at h
 ·split at h
  ·exact ⟨by assumption, by assumption⟩
  ·contradiction
 ·contradiction
theorem firstE_two (a b : Int) : firstE [a, b] = if a = 0 then b else a := by
 simp only [firstE]
 split
 ·split
  ·exact Eq.symm (by assumption)
  ·rfl
 ·rfl
theorem firstE_three (a b c : Int) : firstE [a, b, c] = firstE [a, firstE [b, c]] := by
 simp only [firstE_two]
 simp only [firstE]
 repeat' split
 all_goals first | rfl | omega
theorem firstE_four (a b c d : Int) : firstE [a, b, c, d] = firstE [firstE [a, firstE [b, c]], d] := by
 simp only [firstE_two]
 simp only [firstE]
 repeat' split
 all_goals first | rfl | omega
theorem rangeE_ok {n lo hi : Int} (h : rangeE n lo hi = 0) : lo ≤ n ∧ n ≤ hi := by
 unfold rangeE at h
 split at h
 ·omega
 ·split at h <;> omega
theorem checkBar_eq (n : Int) : hang_checkBar.f n = some (rangeE n 1 100) := by
 unfold hang_checkBar.f; rw [hang_within_eq]; rfl
theorem checkMeshes_eq (n : Int) : hang_checkMeshes.f n = some (rangeE n 1 300) := by
 unfold hang_checkMeshes.f; rw [hang_within_eq]; rfl
theorem ref_CheckNetting_ev (b m : Int) : Ev (fun k => cr6_CheckNetting.f k b m) (firstE [rangeE b 1 100, rangeE m 1 300]) := by
 unfold cr6_CheckNetting.f
 exact Ev.eqb (ref_CheckRange_eq ..) (Ev.eqb (ref_CheckRange_eq ..) ((ref_First_ev _ (by simp)).bind (Ev.some rfl)))
theorem two_bd {b m : Int} (h1 : 1 ≤ b) (h2 : b ≤ 100) (h3 : 1 ≤ m) (h4 : m ≤ 300) : 1 ≤ 2 * b * m ∧ 2 * b * m ≤ 60000 ∧ wrap64 (wrap64 (2 * b) * m) = 2 * b * m ∧ wrap64 (wrap64 (2 * m) * b) = 2 * b * m := by
 have c : (2 : Int) * 1 ≤ 2 * b * m := Int.mul_le_mul (by omega) h3 (by omega) (by omega)
 have d : 2 * b * m ≤ 200 * 300 := Int.mul_le_mul (by omega) h4 (by omega) (by omega)
 have w1 : wrap64 (2 * b) = 2 * b := wrap_id (by omega) (by omega)
 have w2 : wrap64 (2 * m) = 2 * m := wrap_id (by omega) (by omega)
 have e : 2 * m * b = 2 * b * m := by rw [Int.mul_assoc, Int.mul_comm m b, ← Int.mul_assoc]
 refine ⟨by omega, by omega, ?_, ?_⟩
 ·rw [w1, wrap_id (by omega) (by omega)]
 ·rw [w2, e, wrap_id (by omega) (by omega)]
def netE (b m : Int) : Int := firstE [rangeE b 1 100, rangeE m 1 300]
def hangE (r b m : Int) : Int := firstE [rangeE r 1 60000, netE b m]
theorem netE_ok {b m : Int} (h : netE b m = 0) : 1 ≤ b ∧ b ≤ 100 ∧ 1 ≤ m ∧ m ≤ 300 := by
 obtain ⟨h1, h2⟩ := firstE_ok2 h
 have := rangeE_ok h1
 have := rangeE_ok h2
 omega
theorem hangE_ok {r b m : Int} (h : hangE r b m = 0) : 1 ≤ r ∧ r ≤ 60000 ∧ 1 ≤ b ∧ b ≤ 100 ∧ 1 ≤ m ∧ m ≤ 300 := by
 obtain ⟨h1, h2⟩ := firstE_ok2 h
 have := rangeE_ok h1
 have := netE_ok h2
 omega
def hangV (r b m : Int) : Int × Int × Int := if r > 2 * b * m then (0, 0, 23) else if (lowI r (2 * b * m)).2 > 30 then (0, 0, 4) else ((lowI r (2 * b * m)).1, (lowI r (2 * b * m)).2, 0)
theorem hang_Hanging_ev (r b m : Int) : Ev (fun k => hang_Hanging.f k r b m) (if hangE r b m = 0 then hangV r b m else (0, 0, hangE r b m)) := by
 unfold hang_Hanging.f
 refine Ev.eqb (hang_within_eq ..) (Ev.eqb (checkBar_eq ..) (Ev.eqb (checkMeshes_eq ..) (Ev.eqb (hang_when_eq ..) ((hang_first_ev _ (by simp)).bind ?_))))
 have e : firstE [rangeE r 1 60000, rangeE b 1 100, rangeE m 1 300, whenE (decide (r > wrap64 (wrap64 (2 * b) * m))) 23] = firstE [hangE r b m, whenE (decide (r > wrap64 (wrap64 (2 * b) * m))) 23] := firstE_four _ _ _ _
 rw [e, firstE_two]
 by_cases h : hangE r b m = 0
 ·obtain ⟨a1, a2, a3, a4, a5, a6⟩ := hangE_ok h
  obtain ⟨b1, b2, b3, _⟩ := two_bd a3 a4 a5 a6
  rw [if_pos h, if_pos h, b3]
  unfold hangV whenE
  by_cases g : r > 2 * b * m
  ·rw [if_pos (by simpa using g), if_pos g]
   exact Ev.neg (by omega) (Ev.some rfl)
  ·rw [if_neg (by simpa using g), if_neg g]
   refine Ev.pos rfl ((hang_ratio_ev _ _ (by omega) (by omega) (by omega) (by omega)).bind (Ev.some ?_))
   split <;> rfl
 ·rw [if_neg h, if_neg h]
  exact Ev.neg h (Ev.some rfl)
theorem ref_Hanging_ev {r b m : Int} (h : hangE r b m = 0) : Ev (fun k => cr6_Hanging.f k r b m) (hangV r b m) := by
 obtain ⟨a1, a2, a3, a4, a5, a6⟩ := hangE_ok h
 obtain ⟨b1, b2, b3, _⟩ := two_bd a3 a4 a5 a6
 unfold cr6_Hanging.f hangV
 rw [b3]
 by_cases g : r > 2 * b * m
 ·rw [if_pos g]; exact Ev.pos g (Ev.some rfl)
 ·rw [if_neg g]
  refine Ev.neg g ((ref_ratio_ev _ _ (by omega) (by omega) (by omega) (by omega)).bind (Ev.some ?_))
  split <;> rfl
def widE (p q b m : Int) : Int := firstE [checkR p q, netE b m]
def widI (p q b m : Int) : Int × Int := lowI (2 * b * m * p) q
def heiI (p q b m : Int) : Int × Int := lowI (2 * b * m * (2 * b * m) * (q * q - p * p)) (q * q)
theorem widE_ok {p q b m : Int} (h : widE p q b m = 0) : (1 ≤ p ∧ p ≤ q ∧ q ≤ 30) ∧ 1 ≤ b ∧ b ≤ 100 ∧ 1 ≤ m ∧ m ≤ 300 := by
 obtain ⟨h1, h2⟩ := firstE_ok2 h
 have := checkR_ok h1
 have := netE_ok h2
 omega
theorem wid_bd {p q b m : Int} (h : (1 ≤ p ∧ p ≤ q ∧ q ≤ 30) ∧ 1 ≤ b ∧ b ≤ 100 ∧ 1 ≤ m ∧ m ≤ 300) : 0 ≤ 2 * b * m * p ∧ 2 * b * m * p ≤ 1800000 ∧ wrap64 (2 * b * m * p) = 2 * b * m * p := by
 obtain ⟨⟨h1, h2, h3⟩, a3, a4, a5, a6⟩ := h
 obtain ⟨b1, b2, b3, _⟩ := two_bd a3 a4 a5 a6
 have c := mul_bd (a := 2 * b * m) (b := p) (A := 60000) (B := 30) (by omega) (by omega) (by omega) (by omega)
 exact ⟨c.1, c.2, wrap_id (by omega) (by omega)⟩
theorem hei_bd {p q b m : Int} (h : (1 ≤ p ∧ p ≤ q ∧ q ≤ 30) ∧ 1 ≤ b ∧ b ≤ 100 ∧ 1 ≤ m ∧ m ≤ 300) : 0 ≤ 2 * b * m * (2 * b * m) * (q * q - p * p) ∧ 2 * b * m * (2 * b * m) * (q * q - p * p) ≤ 3240000000000 ∧ wrap64 (wrap64 (2 * b * m * (2 * b * m)) * (q * q - p * p)) = 2 * b * m * (2 * b * m) * (q * q - p * p) := by
 obtain ⟨⟨h1, h2, h3⟩, a3, a4, a5, a6⟩ := h
 obtain ⟨b1, b2, b3, _⟩ := two_bd a3 a4 a5 a6
 obtain ⟨s1, s2, s3, _⟩ := sq_bd h1 h2 h3
 have c := mul_bd (a := 2 * b * m) (b := 2 * b * m) (A := 60000) (B := 60000) (by omega) (by omega) (by omega) (by omega)
 have d := mul_bd (a := 2 * b * m * (2 * b * m)) (b := q * q - p * p) (A := 3600000000) (B := 900) c.1 c.2 (by omega) (by omega)
 have w : wrap64 (2 * b * m * (2 * b * m)) = 2 * b * m * (2 * b * m) := wrap_id (by have := c.1; omega) (by have := c.2; omega)
 refine ⟨d.1, d.2, ?_⟩
 rw [w]; exact wrap_id (by have := d.1; omega) (by have := d.2; omega)
theorem widE_eq (p q b m : Int) : firstE [checkR p q, rangeE b 1 100, rangeE m 1 300] = widE p q b m := firstE_three _ _ _
theorem hang_Width_ev (p q b m : Int) : Ev (fun k => hang_Width.f k p q b m) (ifOk (widE p q b m) (widI p q b m)) := by
 unfold hang_Width.f ifOk
 refine (hang_CheckRatio_ev p q).bind (Ev.eqb (checkBar_eq ..) (Ev.eqb (checkMeshes_eq ..) ((hang_first_ev _ (by simp)).bind ?_)))
 rw [widE_eq]
 by_cases h : widE p q b m = 0
 ·have h' := widE_ok h
  obtain ⟨w1, w2, w3⟩ := wid_bd h'
  rw [(two_bd h'.2.1 h'.2.2.1 h'.2.2.2.1 h'.2.2.2.2).2.2.2, w3, if_pos h]
  exact Ev.pos h ((hang_ratio_ev _ _ (by omega) (by omega) (by omega) (by omega)).bind (Ev.some rfl))
 ·rw [if_neg h]; exact Ev.neg h (Ev.some rfl)
theorem ref_Width_ev {p q b m : Int} (h : widE p q b m = 0) : Ev (fun k => cr6_Width.f k p q b m) (widI p q b m) := by
 unfold cr6_Width.f
 have h' := widE_ok h
 obtain ⟨w1, w2, w3⟩ := wid_bd h'
 rw [(two_bd h'.2.1 h'.2.2.1 h'.2.2.2.1 h'.2.2.2.2).2.2.1, w3]
 exact (ref_ratio_ev _ _ (by omega) (by omega) (by omega) (by omega)).bind (Ev.some rfl)
theorem hang_Height_ev (p q b m : Int) : Ev (fun k => hang_Height.f k p q b m) (ifOk (widE p q b m) (heiI p q b m)) := by
 unfold hang_Height.f ifOk
 refine (hang_CheckRatio_ev p q).bind (Ev.eqb (checkBar_eq ..) (Ev.eqb (checkMeshes_eq ..) ((hang_first_ev _ (by simp)).bind ?_)))
 rw [widE_eq]
 by_cases h : widE p q b m = 0
 ·have h' := widE_ok h
  obtain ⟨w1, w2, w3⟩ := hei_bd h'
  obtain ⟨s1, s2, s3, s4, s5, s6⟩ := sq_bd h'.1.1 h'.1.2.1 h'.1.2.2
  rw [(two_bd h'.2.1 h'.2.2.1 h'.2.2.2.1 h'.2.2.2.2).2.2.2, s6, w3, s5, if_pos h]
  exact Ev.pos h ((hang_square_ev _ _ w1 (by omega) (by omega) (by omega)).bind (Ev.some rfl))
 ·rw [if_neg h]; exact Ev.neg h (Ev.some rfl)
theorem ref_Height_ev {p q b m : Int} (h : widE p q b m = 0) : Ev (fun k => cr6_Height.f k p q b m) (heiI p q b m) := by
 unfold cr6_Height.f
 have h' := widE_ok h
 obtain ⟨w1, w2, w3⟩ := hei_bd h'
 obtain ⟨s1, s2, s3, s4, s5, s6⟩ := sq_bd h'.1.1 h'.1.2.1 h'.1.2.2
 rw [(two_bd h'.2.1 h'.2.2.1 h'.2.2.2.1 h'.2.2.2.2).2.2.1, s6, w3, s5]
 exact (ref_square_ev _ _ w1 (by omega) (by omega) (by omega)).bind (Ev.some rfl)
end Go.Proofs.YtppighiaffppkaaDoor.H
end
