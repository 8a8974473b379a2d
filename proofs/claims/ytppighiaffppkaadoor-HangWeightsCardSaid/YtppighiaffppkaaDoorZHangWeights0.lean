/- What the statement HangWeights needs beyond the common part: walks of the functions that it calls, the plain law, the row and its card, part 0. Condition: the laid table hang.tens, as the card ties it. -/
import Derived.Test.YtppighiaffppkaaDoorRows
import Derived.Test.YtppighiaffppkaaDoorCards
import Derived.Test.YtppighiaffppkaaDoorTie
import Derived.WalkKit
import Derived.ProofKit
import Derived.OpenShut
import Derived.ShutString
import Derived.ChangeOld
import Derived.Below
import Derived.SizedLaws
import Derived.LaidMore
import Derived.Stop.Joined
import Derived.SevenTiedAt
import Derived.Test.YtppighiaffppkaaDoorZA8
section
namespace Go.Proofs.YtppighiaffppkaaDoor.H
open Go.RowKit Go.Proofs.YtppighiaffppkaaDoorW.PrintWords Go.Proofs.YtppighiaffppkaaDoorW.PrintLast Go.Proofs.YtppighiaffppkaaDoorW.PrintMore
attribute [local go_sem] max2_int min2_int max_two min_two max_three min_three max_four min_four
set_option linter.unusedSimpArgs false
set_option linter.unusedVariables false
def cr1_First.l0 : Nat → List Int → Int → Option (Int)
 | 0, _, _ => none
 | k + 1, x0, x3 => if x3 < (x0.length : Int) then (if 0 ≤ x3 then (if (rd x0 x3) = 0 then (cr1_First.l0 k x0 (wrap64 (x3 + 1))) else (some (rd x0 x3))) else (none)) else (some 0)
def cr1_First.f (k : Nat) (l0 : List Int) : Option (Int) := cr1_First.l0 k l0 0
set_option maxHeartbeats 8000000 in
set_option maxRecDepth 100000 in
theorem cr1_First.calls (k : Nat) (A0 : Option Addr) (c0 : Nat) (l0 : List Int) (r : Int) (w : World) (hr0 : Kd.C (Kd.int .i64) w A0 l0.length l0) (hc0 : l0.length ≤ c0) (h : cr1_First.f k l0 = some r) :
  Calls Tryd.prog 26 #[.slice A0 l0.length c0] w fun e w' => e = .returned (.int .i64 r) ∧ Drawn0 w w' := by
 have HR0 := Z0.mk hr0
 have HC0 := Z0.mk hc0
 clear hr0 hc0
 have H : (cr1_First.l0 k l0 0) = some r := h
 clear h
 have H' := Z0.mk H
 clear H
 go_enter Tryd.func26, Tryd.ntmps26
 go_wp2
 go_loopg [3] k (fun kq v3 w' => ∃ (x3_1 : Int), v3 = .int .i64 x3_1 ∧ Z0 (cr1_First.l0 kq l0 x3_1 = some r) ∧ Z0 (kq ≤ k) ∧ Drawn0 w w')
 case atStart => exact ⟨(0), (by first | rfl | (simp; done) | (simp [*]; done)), H', ⟨Nat.le_refl _⟩, by repeat (first | exact Drawn0.refl _ | apply Drawn0.step)⟩
 case round =>
  clear H'
  obtain ⟨x3_1, rfl, HA, HK1, ⟨m1, rfl⟩⟩ := hrel
  cases gk with
  | zero => exact absurd HA.out (by simp [cr1_First.l0])
  | succ k1 =>
   have H := HA.out
   clear HA
   simp only [cr1_First.l0] at H
   by_cases c2 : x3_1 < (l0.length : Int)
   ·rw [if_pos c2] at H
    have c2b0 : decide (x3_1 < (l0.length : Int)) = true := decide_eq_true c2
    clear c2
    by_cases c3 : 0 ≤ x3_1
    ·rw [if_pos c3] at H
     have c3b0 : decide (0 ≤ x3_1) = true := decide_eq_true c3
     clear c3
     by_cases c4 : (rd l0 x3_1) = 0
     ·rw [if_pos c4] at H
      have c4b0 : ((rd l0 x3_1) == 0) = true := beq_iff_eq.mpr c4
      have c4b1 : ((rd l0 x3_1) != 0) = false := bne_eq_false_iff_eq.mpr c4
      clear c4
      have H' := Z0.mk H
      clear H
      have p273 : 0 ≤ (x3_1 : Int) := of_decide_eq_true (by first | (with_reducible assumption) | assumption)
      have q273 : x3_1 < (l0.length : Int) := of_decide_eq_true (by first | (with_reducible assumption) | assumption)
      obtain ⟨ad273, e273, hx273_0⟩ := Kd.at_int HR0.out x3_1 p273 q273
      cases e273
      replace p273 := eq_true p273
      replace q273 := eq_true q273
      go_wp2
      go_roundg k1
      case measure => have := HK1.out; omega
      case rel => exact ⟨(wrap64 (x3_1 + 1)), (by first | rfl | (simp; done) | (simp [*]; done)), H', ⟨by have := HK1.out; omega⟩, by repeat (first | exact Drawn0.refl _ | apply Drawn0.step)⟩
     ·rw [if_neg c4] at H
      have c4b0 : ((rd l0 x3_1) == 0) = false := beq_eq_false_iff_ne.mpr c4
      have c4b1 : ((rd l0 x3_1) != 0) = true := bne_iff_ne.mpr c4
      obtain rfl := Option.some.inj H
      have p273 : 0 ≤ (x3_1 : Int) := of_decide_eq_true (by first | (with_reducible assumption) | assumption)
      have q273 : x3_1 < (l0.length : Int) := of_decide_eq_true (by first | (with_reducible assumption) | assumption)
      obtain ⟨ad273, e273, hx273_0⟩ := Kd.at_int HR0.out x3_1 p273 q273
      cases e273
      replace p273 := eq_true p273
      replace q273 := eq_true q273
      have p274 : 0 ≤ (x3_1 : Int) := of_decide_eq_true (by first | (with_reducible assumption) | assumption)
      have q274 : x3_1 < (l0.length : Int) := of_decide_eq_true (by first | (with_reducible assumption) | assumption)
      obtain ⟨ad274, e274, hx274_0⟩ := Kd.at_int HR0.out x3_1 p274 q274
      obtain rfl : ad273 = ad274 := (by injection e274)
      replace p274 := eq_true p274
      replace q274 := eq_true q274
      go_wp2
      go_ret
      exact ⟨by first | rfl | (simp; done) | (simp [*]; done), by repeat (first | exact Drawn0.refl _ | apply Drawn0.step)⟩
    ·rw [if_neg c3] at H
     exact absurd H (by simp)
   ·rw [if_neg c2] at H
    have c2b0 : decide (x3_1 < (l0.length : Int)) = false := decide_eq_false c2
    clear c2
    obtain rfl := Option.some.inj H
    go_wp2
    go_ret
    exact ⟨by first | rfl | (simp; done) | (simp [*]; done), by repeat (first | exact Drawn0.refl _ | apply Drawn0.step)⟩
def cr1_CheckRange.f (a0 : Int) (a1 : Int) (a2 : Int) : Option (Int) := if a0 < a1 then (some 3) else (if a0 > a2 then (some 3) else (some 0))
set_option maxHeartbeats 8000000 in
set_option maxRecDepth 100000 in
theorem cr1_CheckRange.calls (a0 : Int) (a1 : Int) (a2 : Int) (r : Int) (w : World) (h : cr1_CheckRange.f a0 a1 a2 = some r) :
  Calls Tryd.prog 27 #[.int .i64 a0, .int .i64 a1, .int .i64 a2] w fun e w' => e = .returned (.int .i64 r) ∧ Drawn0 w w' := by
 have H : (if a0 < a1 then (some 3) else (if a0 > a2 then (some 3) else (some 0))) = some r := h
 clear h
 by_cases c4 : a0 < a1
 ·rw [if_pos c4] at H
  have c4b0 : decide (a0 < a1) = true := decide_eq_true c4
  clear c4
  obtain rfl := Option.some.inj H
  go_enter Tryd.func27, Tryd.ntmps27
  go_wp2
  go_ret
  exact ⟨by first | rfl | (simp; done) | (simp [*]; done), by repeat (first | exact Drawn0.refl _ | apply Drawn0.step)⟩
 ·rw [if_neg c4] at H
  have c4b0 : decide (a0 < a1) = false := decide_eq_false c4
  clear c4
  by_cases c5 : a0 > a2
  ·rw [if_pos c5] at H
   have c5b0 : decide (a2 < a0) = true := decide_eq_true c5
   clear c5
   obtain rfl := Option.some.inj H
   go_enter Tryd.func27, Tryd.ntmps27
   go_wp2
   go_ret
   exact ⟨by first | rfl | (simp; done) | (simp [*]; done), by repeat (first | exact Drawn0.refl _ | apply Drawn0.step)⟩
  ·rw [if_neg c5] at H
   have c5b0 : decide (a2 < a0) = false := decide_eq_false c5
   clear c5
   obtain rfl := Option.some.inj H
   go_enter Tryd.func27, Tryd.ntmps27
   go_wp2
   go_ret
   exact ⟨by first | rfl | (simp; done) | (simp [*]; done), by repeat (first | exact Drawn0.refl _ | apply Drawn0.step)⟩
def cr6_CheckCounts.f (k : Nat) (a0 : Int) (a1 : Int) (a2 : Int) (a3 : Int) : Option (Int) := (cr1_CheckRange.f a0 0 100000).bind fun t515 => ((cr1_CheckRange.f a1 0 100000).bind fun t516 => ((cr1_CheckRange.f a2 1 100).bind fun t517 => ((cr1_CheckRange.f a3 0 100).bind fun t518 => ((cr1_First.f k (([t515, t516, t517, t518] : List Int))).bind fun t522 => (some t522)))))
set_option maxHeartbeats 8000000 in
set_option maxRecDepth 100000 in
theorem cr6_CheckCounts.calls (k : Nat) (a0 : Int) (a1 : Int) (a2 : Int) (a3 : Int) (r : Int) (w : World) (h : cr6_CheckCounts.f k a0 a1 a2 a3 = some r) :
  Calls Tryd.prog 57 #[.int .i64 a0, .int .i64 a1, .int .i64 a2, .int .i64 a3] w fun e w' => e = .returned (.int .i64 r) ∧ Below w.heap.size w w' := by
 have HB := Z0.mk (Below.refl w.heap.size w)
 have H : ((cr1_CheckRange.f a0 0 100000).bind fun t515 => ((cr1_CheckRange.f a1 0 100000).bind fun t516 => ((cr1_CheckRange.f a2 1 100).bind fun t517 => ((cr1_CheckRange.f a3 0 100).bind fun t518 => ((cr1_First.f k (([t515, t516, t517, t518] : List Int))).bind fun t522 => (some t522)))))) = some r := h
 clear h
 replace H := Option.bind_eq_some_iff.mp H
 obtain ⟨t515, A50, H⟩ := H
 replace H : ((cr1_CheckRange.f a1 0 100000).bind fun t516 => ((cr1_CheckRange.f a2 1 100).bind fun t517 => ((cr1_CheckRange.f a3 0 100).bind fun t518 => ((cr1_First.f k (([t515, t516, t517, t518] : List Int))).bind fun t522 => (some t522))))) = some r := H
 have A5 := Z0.mk A50
 clear A50
 replace H := Option.bind_eq_some_iff.mp H
 obtain ⟨t516, A60, H⟩ := H
 replace H : ((cr1_CheckRange.f a2 1 100).bind fun t517 => ((cr1_CheckRange.f a3 0 100).bind fun t518 => ((cr1_First.f k (([t515, t516, t517, t518] : List Int))).bind fun t522 => (some t522)))) = some r := H
 have A6 := Z0.mk A60
 clear A60
 replace H := Option.bind_eq_some_iff.mp H
 obtain ⟨t517, A70, H⟩ := H
 replace H : ((cr1_CheckRange.f a3 0 100).bind fun t518 => ((cr1_First.f k (([t515, t516, t517, t518] : List Int))).bind fun t522 => (some t522))) = some r := H
 have A7 := Z0.mk A70
 clear A70
 replace H := Option.bind_eq_some_iff.mp H
 obtain ⟨t518, A80, H⟩ := H
 replace H : ((cr1_First.f k (([t515, t516, t517, t518] : List Int))).bind fun t522 => (some t522)) = some r := H
 have A8 := Z0.mk A80
 clear A80
 obtain ⟨y519, hy519⟩ : ∃ y_ : List Int, y_ = (([t515, t516, t517, t518] : List Int)) := ⟨_, rfl⟩
 replace H : ((cr1_First.f k y519).bind fun t522 => (some t522)) = some r := by first | (rw [hy519]; with_reducible exact H) | (have H2_ := (Option.bind_some _ _).symm.trans H; rw [hy519]; with_reducible exact H2_) | (have H2_ := (Option.bind_some _ _).symm.trans H; with_reducible exact H2_) | with_reducible exact H | (rw [hy519]; exact H) | exact H
 have Ny519 := Z0.mk hy519
 clear hy519
 replace H := Option.bind_eq_some_iff.mp H
 obtain ⟨t522, A90, H⟩ := H
 replace H : (some t522) = some r := H
 have A9 := Z0.mk A90
 clear A90
 obtain rfl := Option.some.inj H
 go_enter Tryd.func57, Tryd.ntmps57
 go_wp2_with (first | ((with_reducible refine gtC (f := 27) rfl ?_); refine goesL_ (some 10) rfl rfl Tryd.func27 (by kernel_rfl) rfl #[.int .i64 a0, .int .i64 0, .int .i64 100000] rfl (by (try simp only [List.map_toArray, List.map_cons, List.map_nil]); first | done | rfl | (simp only [List.length_drop, List.length_take]; rfl)) ?_; (with_reducible refine (cr1_CheckRange.calls a0 0 100000 t515 _ A5.out).mono ?_); rintro e w' ⟨rfl, ⟨nd, rfl⟩⟩; refine ⟨_, rfl, ?_⟩) | ((with_reducible refine gtC (f := 27) rfl ?_); refine goesL_ (some 12) rfl rfl Tryd.func27 (by kernel_rfl) rfl #[.int .i64 a1, .int .i64 0, .int .i64 100000] rfl (by (try simp only [List.map_toArray, List.map_cons, List.map_nil]); first | done | rfl | (simp only [List.length_drop, List.length_take]; rfl)) ?_; (with_reducible refine (cr1_CheckRange.calls a1 0 100000 t516 _ A6.out).mono ?_); rintro e w' ⟨rfl, ⟨nd, rfl⟩⟩; refine ⟨_, rfl, ?_⟩) | ((with_reducible refine gtC (f := 27) rfl ?_); refine goesL_ (some 14) rfl rfl Tryd.func27 (by kernel_rfl) rfl #[.int .i64 a2, .int .i64 1, .int .i64 100] rfl (by (try simp only [List.map_toArray, List.map_cons, List.map_nil]); first | done | rfl | (simp only [List.length_drop, List.length_take]; rfl)) ?_; (with_reducible refine (cr1_CheckRange.calls a2 1 100 t517 _ A7.out).mono ?_); rintro e w' ⟨rfl, ⟨nd, rfl⟩⟩; refine ⟨_, rfl, ?_⟩) | ((with_reducible refine gtC (f := 27) rfl ?_); refine goesL_ (some 16) rfl rfl Tryd.func27 (by kernel_rfl) rfl #[.int .i64 a3, .int .i64 0, .int .i64 100] rfl (by (try simp only [List.map_toArray, List.map_cons, List.map_nil]); first | done | rfl | (simp only [List.length_drop, List.length_take]; rfl)) ?_; (with_reducible refine (cr1_CheckRange.calls a3 0 100 t518 _ A8.out).mono ?_); rintro e w' ⟨rfl, ⟨nd, rfl⟩⟩; refine ⟨_, rfl, ?_⟩) | ((with_reducible refine gtD (N := 17) rfl ?_); refine Kd.R_lit (Kd.int .i64) _ 3 ?hg (N := 17) ?hd (xs := ([t515, t516, t517, t518] : List Int)) (inner := [.int .i64 t515, .int .i64 t516, .int .i64 t517, .int .i64 t518]) (ok := fun _ => True) (okp := fun _ => True) ?hr ?hp (fun _ hk => hk) trivial (Below.refl _ _) (Nat.le_refl _) (by simp) ?_; (case hd => rfl); (case hg => rfl); (case hr => first | (go_simp; done) | (go_simp; rfl)); (case hp => exact (Reps.one (show Kd.M (Kd.int .i64) _ _ _ t515 [.int .i64 t515] from rfl) (Reps.one (show Kd.M (Kd.int .i64) _ _ _ t516 [.int .i64 t516] from rfl) (Reps.one (show Kd.M (Kd.int .i64) _ _ _ t517 [.int .i64 t517] from rfl) (Reps.one (show Kd.M (Kd.int .i64) _ _ _ t518 [.int .i64 t518] from rfl) (Reps.none _ _)))))); intro v520 w10 ho11 hb hg_ hnew_; clear hg_ hnew_; (first | rw [← Ny519.out] at ho11 | (simp only [Int.reduceToNat] at ho11; rw [← Ny519.out] at ho11)); have n0_ := Z0.mk (Kd.R_lower ho11 (bwZ (by repeat (first | (with_reducible first | exact HB.out | apply bwA | apply bwN | apply bw1) | exact HB.out)))); have n1_ := Z0.mk (bwT (by repeat (first | (with_reducible first | exact HB.out | apply bwA | apply bwN | apply bw1) | exact HB.out)) hb); clear HB; have HO521 := n0_; have HB := n1_; clear n0_ n1_; clear hb ho11; obtain ⟨Ao12, co12, eo12⟩ := Kd.R_slice HO521.out; subst eo12) | ((with_reducible refine gtC (f := 26) rfl ?_); refine goesL_ (some 18) rfl rfl Tryd.func26 (by kernel_rfl) rfl #[.slice Ao12 y519.length co12] rfl (by (try simp only [List.map_toArray, List.map_cons, List.map_nil]); first | done | rfl | (simp only [List.length_drop, List.length_take]; rfl)) ?_; (with_reducible refine (cr1_First.calls k _ _ y519 t522 _ ?side1 ?side2 A9.out).mono ?_); (case side1 => repeat (first | exact (Kd.R_reads' HO521.out).2.2 | (with_reducible refine Kd.C_alloc ?_ _) | (with_reducible refine Kd.C_drewN ?_ _) | (with_reducible refine Kd.C_drew ?_))); (case side2 => exact (Kd.R_reads' HO521.out).2.1); rintro e w' ⟨rfl, ⟨nd, rfl⟩⟩; refine ⟨_, rfl, ?_⟩))
 go_ret
 exact ⟨by first | rfl | (simp [errW_none, errW_some] <;> rfl) | (simp [*, errW_none, errW_some] <;> rfl), by repeat (first | (with_reducible first | exact HB.out | apply bwA | apply bwN | apply bw1) | exact HB.out)⟩
def cr6_Length.f (a0 : Int) (a1 : Int) (a2 : Int) (a3 : Int) : Option (Int) := some (wrap64 ((wrap64 (a0 * a2)) + (wrap64 (a1 * a3))))
set_option maxHeartbeats 8000000 in
set_option maxRecDepth 100000 in
theorem cr6_Length.calls (a0 : Int) (a1 : Int) (a2 : Int) (a3 : Int) (r : Int) (w : World) (h : cr6_Length.f a0 a1 a2 a3 = some r) :
  Calls Tryd.prog 58 #[.int .i64 a0, .int .i64 a1, .int .i64 a2, .int .i64 a3] w fun e w' => e = .returned (.int .i64 r) ∧ Drawn0 w w' := by
 have H : (some (wrap64 ((wrap64 (a0 * a2)) + (wrap64 (a1 * a3))))) = some r := h
 clear h
 obtain rfl := Option.some.inj H
 go_enter Tryd.func58, Tryd.ntmps58
 go_wp2
 go_ret
 exact ⟨by first | rfl | (simp; done) | (simp [*]; done), by repeat (first | exact Drawn0.refl _ | apply Drawn0.step)⟩
def cr6_Weight.f (a0 : Int) (a1 : Int) : Option (Int × Int) := if (wrap64 (Int.tdiv (wrap64 (a0 * a1)) 1000)) > 999999999 then (some (0, 4)) else (some (wrap64 (Int.tdiv (wrap64 (a0 * a1)) 1000), 0))
set_option maxHeartbeats 8000000 in
set_option maxRecDepth 100000 in
theorem cr6_Weight.calls (a0 : Int) (a1 : Int) (r1 : Int) (r2 : Int) (w : World) (h : cr6_Weight.f a0 a1 = some (r1, r2)) :
  Calls Tryd.prog 59 #[.int .i64 a0, .int .i64 a1] w fun e w' => e = .returned (.tuple #[.int .i64 r1, .int .i64 r2]) ∧ Drawn0 w w' := by
 have H : (if (wrap64 (Int.tdiv (wrap64 (a0 * a1)) 1000)) > 999999999 then (some (0, 4)) else (some (wrap64 (Int.tdiv (wrap64 (a0 * a1)) 1000), 0))) = some (r1, r2) := h
 clear h
 by_cases c3 : (wrap64 (Int.tdiv (wrap64 (a0 * a1)) 1000)) > 999999999
 ·rw [if_pos c3] at H
  have c3b0 : decide (999999999 < (wrap64 (Int.tdiv (wrap64 (a0 * a1)) 1000))) = true := decide_eq_true c3
  clear c3
  simp only [Option.some.injEq, Prod.mk.injEq] at H
  obtain ⟨rfl, rfl⟩ := H
  go_enter Tryd.func59, Tryd.ntmps59
  go_wp2
  go_ret2
  exact ⟨by first | rfl | (simp; done) | (simp [*]; done), by repeat (first | exact Drawn0.refl _ | apply Drawn0.step)⟩
 ·rw [if_neg c3] at H
  have c3b0 : decide (999999999 < (wrap64 (Int.tdiv (wrap64 (a0 * a1)) 1000))) = false := decide_eq_false c3
  clear c3
  simp only [Option.some.injEq, Prod.mk.injEq] at H
  obtain ⟨rfl, rfl⟩ := H
  go_enter Tryd.func59, Tryd.ntmps59
  go_wp2
  go_ret2
  exact ⟨by first | rfl | (simp; done) | (simp [*]; done), by repeat (first | exact Drawn0.refl _ | apply Drawn0.step)⟩
def cl6_HangWeights.j0 : Nat → Int → Int → Int → Int → Int → Int → Int → Int → Int → Int → Option (Bool)
 | 0, _, _, _, _, _, _, _, _, _, _ => none
 | k + 1, x1, x2, x7, x8, x9, x10, x11, x12, x13, x14 => if x12 = 0 then ((cr6_Weight.f x1 x2).bind fun bt536 => (if x7 = x13 then (if x8 = x11 then (if x9 = bt536.1 then (if x10 = bt536.2 then ((cl6_awake.f k).bind fun t538 => (some t538)) else (none)) else (none)) else (none)) else (none))) else (if x7 = x13 then (if x8 = x11 then (if x9 = x14 then (if x10 = x12 then ((cl6_awake.f k).bind fun t539 => (some t539)) else (none)) else (none)) else (none)) else (none))
def cl6_HangWeights.f (k : Nat) (a0_0 : Int) (a0_1 : Int) (a0_2 : Int) (a0_3 : Int) (a1 : Int) (a2 : Int) : Option (Bool) := (hang_Length.f k a0_0 a0_1 a0_2 a0_3).bind fun bt524 => ((hang_Weight.f k a1 a2).bind fun bt526 => ((cr6_CheckCounts.f k a0_0 a0_1 a0_2 a0_3).bind fun t528 => ((cr1_CheckRange.f a1 0 999999999).bind fun t529 => ((cr1_CheckRange.f a2 1 100000).bind fun t530 => ((cr1_First.f k (([t529, t530] : List Int))).bind fun t534 => (if t528 = 0 then ((cr6_Length.f a0_0 a0_1 a0_2 a0_3).bind fun t535 => (cl6_HangWeights.j0 k a1 a2 bt524.1 bt524.2 bt526.1 bt526.2 t528 t534 t535 0)) else (cl6_HangWeights.j0 k a1 a2 bt524.1 bt524.2 bt526.1 bt526.2 t528 t534 0 0)))))))
set_option maxHeartbeats 8000000 in
set_option maxRecDepth 100000 in
theorem cl6_HangWeights.calls (k : Nat) (a0_0 : Int) (a0_1 : Int) (a0_2 : Int) (a0_3 : Int) (a1 : Int) (a2 : Int) (r : Bool) (w : World) (hG : GH w) (h : cl6_HangWeights.f k a0_0 a0_1 a0_2 a0_3 a1 a2 = some r) :
  Calls Tryd.prog 8 #[.agg #[.int .i64 a0_0, .int .i64 a0_1, .int .i64 a0_2, .int .i64 a0_3], .int .i64 a1, .int .i64 a2] w fun e w' => e = .returned (.bool r) ∧ Below w.heap.size w w' := by
 have hu88 := Tryd.underlying88
 have HB := Z0.mk (Below.refl w.heap.size w)
 have H : ((hang_Length.f k a0_0 a0_1 a0_2 a0_3).bind fun bt524 => ((hang_Weight.f k a1 a2).bind fun bt526 => ((cr6_CheckCounts.f k a0_0 a0_1 a0_2 a0_3).bind fun t528 => ((cr1_CheckRange.f a1 0 999999999).bind fun t529 => ((cr1_CheckRange.f a2 1 100000).bind fun t530 => ((cr1_First.f k (([t529, t530] : List Int))).bind fun t534 => (if t528 = 0 then ((cr6_Length.f a0_0 a0_1 a0_2 a0_3).bind fun t535 => (cl6_HangWeights.j0 k a1 a2 bt524.1 bt524.2 bt526.1 bt526.2 t528 t534 t535 0)) else (cl6_HangWeights.j0 k a1 a2 bt524.1 bt524.2 bt526.1 bt526.2 t528 t534 0 0)))))))) = some r := h
 clear h
 replace H := Option.bind_eq_some_iff.mp H
 obtain ⟨⟨t524, t525⟩, A40, H⟩ := H
 replace H : ((hang_Weight.f k a1 a2).bind fun bt526 => ((cr6_CheckCounts.f k a0_0 a0_1 a0_2 a0_3).bind fun t528 => ((cr1_CheckRange.f a1 0 999999999).bind fun t529 => ((cr1_CheckRange.f a2 1 100000).bind fun t530 => ((cr1_First.f k (([t529, t530] : List Int))).bind fun t534 => (if t528 = 0 then ((cr6_Length.f a0_0 a0_1 a0_2 a0_3).bind fun t535 => (cl6_HangWeights.j0 k a1 a2 t524 t525 bt526.1 bt526.2 t528 t534 t535 0)) else (cl6_HangWeights.j0 k a1 a2 t524 t525 bt526.1 bt526.2 t528 t534 0 0))))))) = some r := H
 have A4 := Z0.mk A40
 clear A40
 replace H := Option.bind_eq_some_iff.mp H
 obtain ⟨⟨t526, t527⟩, A50, H⟩ := H
 replace H : ((cr6_CheckCounts.f k a0_0 a0_1 a0_2 a0_3).bind fun t528 => ((cr1_CheckRange.f a1 0 999999999).bind fun t529 => ((cr1_CheckRange.f a2 1 100000).bind fun t530 => ((cr1_First.f k (([t529, t530] : List Int))).bind fun t534 => (if t528 = 0 then ((cr6_Length.f a0_0 a0_1 a0_2 a0_3).bind fun t535 => (cl6_HangWeights.j0 k a1 a2 t524 t525 t526 t527 t528 t534 t535 0)) else (cl6_HangWeights.j0 k a1 a2 t524 t525 t526 t527 t528 t534 0 0)))))) = some r := H
 have A5 := Z0.mk A50
 clear A50
 replace H := Option.bind_eq_some_iff.mp H
 obtain ⟨t528, A60, H⟩ := H
 replace H : ((cr1_CheckRange.f a1 0 999999999).bind fun t529 => ((cr1_CheckRange.f a2 1 100000).bind fun t530 => ((cr1_First.f k (([t529, t530] : List Int))).bind fun t534 => (if t528 = 0 then ((cr6_Length.f a0_0 a0_1 a0_2 a0_3).bind fun t535 => (cl6_HangWeights.j0 k a1 a2 t524 t525 t526 t527 t528 t534 t535 0)) else (cl6_HangWeights.j0 k a1 a2 t524 t525 t526 t527 t528 t534 0 0))))) = some r := H
 have A6 := Z0.mk A60
 clear A60
 replace H := Option.bind_eq_some_iff.mp H
 obtain ⟨t529, A70, H⟩ := H
 replace H : ((cr1_CheckRange.f a2 1 100000).bind fun t530 => ((cr1_First.f k (([t529, t530] : List Int))).bind fun t534 => (if t528 = 0 then ((cr6_Length.f a0_0 a0_1 a0_2 a0_3).bind fun t535 => (cl6_HangWeights.j0 k a1 a2 t524 t525 t526 t527 t528 t534 t535 0)) else (cl6_HangWeights.j0 k a1 a2 t524 t525 t526 t527 t528 t534 0 0)))) = some r := H
 have A7 := Z0.mk A70
 clear A70
 replace H := Option.bind_eq_some_iff.mp H
 obtain ⟨t530, A80, H⟩ := H
 replace H : ((cr1_First.f k (([t529, t530] : List Int))).bind fun t534 => (if t528 = 0 then ((cr6_Length.f a0_0 a0_1 a0_2 a0_3).bind fun t535 => (cl6_HangWeights.j0 k a1 a2 t524 t525 t526 t527 t528 t534 t535 0)) else (cl6_HangWeights.j0 k a1 a2 t524 t525 t526 t527 t528 t534 0 0))) = some r := H
 have A8 := Z0.mk A80
 clear A80
 obtain ⟨y531, hy531⟩ : ∃ y_ : List Int, y_ = (([t529, t530] : List Int)) := ⟨_, rfl⟩
 replace H : ((cr1_First.f k y531).bind fun t534 => (if t528 = 0 then ((cr6_Length.f a0_0 a0_1 a0_2 a0_3).bind fun t535 => (cl6_HangWeights.j0 k a1 a2 t524 t525 t526 t527 t528 t534 t535 0)) else (cl6_HangWeights.j0 k a1 a2 t524 t525 t526 t527 t528 t534 0 0))) = some r := by first | (rw [hy531]; with_reducible exact H) | (have H2_ := (Option.bind_some _ _).symm.trans H; rw [hy531]; with_reducible exact H2_) | (have H2_ := (Option.bind_some _ _).symm.trans H; with_reducible exact H2_) | with_reducible exact H | (rw [hy531]; exact H) | exact H
 have Ny531 := Z0.mk hy531
 clear hy531
 replace H := Option.bind_eq_some_iff.mp H
 obtain ⟨t534, A90, H⟩ := H
 replace H : (if t528 = 0 then ((cr6_Length.f a0_0 a0_1 a0_2 a0_3).bind fun t535 => (cl6_HangWeights.j0 k a1 a2 t524 t525 t526 t527 t528 t534 t535 0)) else (cl6_HangWeights.j0 k a1 a2 t524 t525 t526 t527 t528 t534 0 0)) = some r := H
 have A9 := Z0.mk A90
 clear A90
 have HC10 := Z0.mk H
 clear H
 go_enter Tryd.func8, Tryd.ntmps8
 go_upto_if 49 with (first | ((with_reducible refine gtD (N := 3) rfl ?_); refine bxE ?hg (N := 3) ?hd (cs := #[.int .i64 a0_0, .int .i64 a0_1, .int .i64 a0_2, .int .i64 a0_3]) (t := 88) ?hr ?_; (case hd => rfl); (case hg => rfl); (case hr => first | (go_simp; done) | (go_simp; rfl)); intro gb523 hg w11 hbox hb; have n0_ := Z0.mk (bwT (by repeat (first | (with_reducible first | exact HB.out | apply bwA | apply bwN | apply bw1) | exact HB.out)) hb); have n1_ := Z0.mk (hbox); have n2_ := Z0.mk ((by rw [hg]; exact (bwZ (by repeat (first | (with_reducible first | exact HB.out | apply bwA | apply bwN | apply bw1) | exact HB.out))) : w.heap.size ≤ gb523)); have n3_ := Z0.mk ((by rw [hg]; exact (bwZ (by repeat (first | (with_reducible first | exact HB.out | apply bwA | apply bwN | apply bw1) | exact HB.out))) : w.heap.size ≤ gb523)); clear HB; have HB := n0_; have BK523 := n1_; have GW523 := n2_; have GE523 := n3_; clear n0_ n1_ n2_ n3_; clear hb hbox hg; have hcz12_0 : w11.cell? ⟨gb523, 0, none⟩ = some (.int .i64 a0_0) := (bkC BK523.out 0).trans rfl; have hcz12_1 : w11.cell? ⟨gb523, 1, none⟩ = some (.int .i64 a0_1) := (bkC BK523.out 1).trans rfl; have hcz12_2 : w11.cell? ⟨gb523, 2, none⟩ = some (.int .i64 a0_2) := (bkC BK523.out 2).trans rfl; have hcz12_3 : w11.cell? ⟨gb523, 3, none⟩ = some (.int .i64 a0_3) := (bkC BK523.out 3).trans rfl; have hfz12_0 := bkZ BK523.out 0; have hfz12_1 := bkZ BK523.out 1; have hfz12_2 := bkZ BK523.out 2; have hfz12_3 := bkZ BK523.out 3) | ((with_reducible refine gtC (f := 55) rfl ?_); refine goesL_ (some 24) rfl rfl Tryd.func55 (by kernel_rfl) rfl #[.int .i64 a0_0, .int .i64 a0_1, .int .i64 a0_2, .int .i64 a0_3] rfl (by (try simp only [List.map_toArray, List.map_cons, List.map_nil]); first | done | rfl | (simp only [List.length_drop, List.length_take]; rfl)) ?_; (with_reducible refine (hang_Length.calls k a0_0 a0_1 a0_2 a0_3 t524 t525 _ A4.out).mono ?_); rintro e w13 ⟨rfl, hb⟩; refine ⟨_, rfl, ?_⟩; have n0_ := Z0.mk (bkB (g := gb523) (o := .cells #[.int .i64 a0_0, .int .i64 a0_1, .int .i64 a0_2, .int .i64 a0_3] 88 (0, 0)) (by (with_reducible repeat (first | refine bkN ?_ _ | refine bkD ?_ | refine bkA ?_ _)); exact BK523.out) hb); have n1_ := Z0.mk (bwT (by repeat (first | (with_reducible first | exact HB.out | apply bwA | apply bwN | apply bw1 | refine bwS ?_ GE523.out) | exact HB.out)) hb); clear BK523; clear HB; have BK523 := n0_; have HB := n1_; clear n0_ n1_; (try clear hb); (try clear hb2); (try clear hk); (try clear hi)) | ((with_reducible refine gtC (f := 56) rfl ?_); refine goesL_ (some 30) rfl rfl Tryd.func56 (by kernel_rfl) rfl #[.int .i64 a1, .int .i64 a2] rfl (by (try simp only [List.map_toArray, List.map_cons, List.map_nil]); first | done | rfl | (simp only [List.length_drop, List.length_take]; rfl)) ?_; (with_reducible refine (hang_Weight.calls k a1 a2 t526 t527 _ A5.out).mono ?_); rintro e w14 ⟨rfl, hb⟩; refine ⟨_, rfl, ?_⟩; have n0_ := Z0.mk (bkB (g := gb523) (o := .cells #[.int .i64 a0_0, .int .i64 a0_1, .int .i64 a0_2, .int .i64 a0_3] 88 (0, 0)) (by (with_reducible repeat (first | refine bkN ?_ _ | refine bkD ?_ | refine bkA ?_ _)); exact BK523.out) hb); have n1_ := Z0.mk (bwT (by repeat (first | (with_reducible first | exact HB.out | apply bwA | apply bwN | apply bw1 | refine bwS ?_ GE523.out) | exact HB.out)) hb); clear BK523; clear HB; have BK523 := n0_; have HB := n1_; clear n0_ n1_; (try clear hb); (try clear hb2); (try clear hk); (try clear hi); have hcz15_0 : w14.cell? ⟨gb523, 0, none⟩ = some (.int .i64 a0_0) := (bkC BK523.out 0).trans rfl; have hcz15_1 : w14.cell? ⟨gb523, 1, none⟩ = some (.int .i64 a0_1) := (bkC BK523.out 1).trans rfl; have hcz15_2 : w14.cell? ⟨gb523, 2, none⟩ = some (.int .i64 a0_2) := (bkC BK523.out 2).trans rfl; have hcz15_3 : w14.cell? ⟨gb523, 3, none⟩ = some (.int .i64 a0_3) := (bkC BK523.out 3).trans rfl; have hfz15_0 := bkZ BK523.out 0; have hfz15_1 := bkZ BK523.out 1; have hfz15_2 := bkZ BK523.out 2; have hfz15_3 := bkZ BK523.out 3) | ((with_reducible refine gtC (f := 57) rfl ?_); refine goesL_ (some 41) rfl rfl Tryd.func57 (by kernel_rfl) rfl #[.int .i64 a0_0, .int .i64 a0_1, .int .i64 a0_2, .int .i64 a0_3] rfl (by (try simp only [List.map_toArray, List.map_cons, List.map_nil]); first | done | rfl | (simp only [List.length_drop, List.length_take]; rfl)) ?_; (with_reducible refine (cr6_CheckCounts.calls k a0_0 a0_1 a0_2 a0_3 t528 _ A6.out).mono ?_); rintro e w16 ⟨rfl, hb⟩; refine ⟨_, rfl, ?_⟩; have n0_ := Z0.mk (bkB (g := gb523) (o := .cells #[.int .i64 a0_0, .int .i64 a0_1, .int .i64 a0_2, .int .i64 a0_3] 88 (0, 0)) (by (with_reducible repeat (first | refine bkN ?_ _ | refine bkD ?_ | refine bkA ?_ _)); exact BK523.out) hb); have n1_ := Z0.mk (bwT (by repeat (first | (with_reducible first | exact HB.out | apply bwA | apply bwN | apply bw1 | refine bwS ?_ GE523.out) | exact HB.out)) hb); clear BK523; clear HB; have BK523 := n0_; have HB := n1_; clear n0_ n1_; (try clear hb); (try clear hb2); (try clear hk); (try clear hi)) | ((with_reducible refine gtC (f := 27) rfl ?_); refine goesL_ (some 43) rfl rfl Tryd.func27 (by kernel_rfl) rfl #[.int .i64 a1, .int .i64 0, .int .i64 999999999] rfl (by (try simp only [List.map_toArray, List.map_cons, List.map_nil]); first | done | rfl | (simp only [List.length_drop, List.length_take]; rfl)) ?_; (with_reducible refine (cr1_CheckRange.calls a1 0 999999999 t529 _ A7.out).mono ?_); rintro e w' ⟨rfl, ⟨nd, rfl⟩⟩; refine ⟨_, rfl, ?_⟩) | ((with_reducible refine gtC (f := 27) rfl ?_); refine goesL_ (some 45) rfl rfl Tryd.func27 (by kernel_rfl) rfl #[.int .i64 a2, .int .i64 1, .int .i64 100000] rfl (by (try simp only [List.map_toArray, List.map_cons, List.map_nil]); first | done | rfl | (simp only [List.length_drop, List.length_take]; rfl)) ?_; (with_reducible refine (cr1_CheckRange.calls a2 1 100000 t530 _ A8.out).mono ?_); rintro e w' ⟨rfl, ⟨nd, rfl⟩⟩; refine ⟨_, rfl, ?_⟩) | ((with_reducible refine gtD (N := 46) rfl ?_); refine Kd.R_lit (Kd.int .i64) _ 3 ?hg (N := 46) ?hd (xs := ([t529, t530] : List Int)) (inner := [.int .i64 t529, .int .i64 t530]) (ok := fun _ => True) (okp := fun _ => True) ?hr ?hp (fun _ hk => hk) trivial (Below.refl _ _) (Nat.le_refl _) (by simp) ?_; (case hd => rfl); (case hg => rfl); (case hr => first | (go_simp; done) | (go_simp; rfl)); (case hp => exact (Reps.one (show Kd.M (Kd.int .i64) _ _ _ t529 [.int .i64 t529] from rfl) (Reps.one (show Kd.M (Kd.int .i64) _ _ _ t530 [.int .i64 t530] from rfl) (Reps.none _ _)))); intro v532 w17 ho18 hb hg_ hnew_; clear hg_ hnew_; (first | rw [← Ny531.out] at ho18 | (simp only [Int.reduceToNat] at ho18; rw [← Ny531.out] at ho18)); have n0_ := Z0.mk (Kd.R_lower ho18 (bwZ (by repeat (first | (with_reducible first | exact HB.out | apply bwA | apply bwN | apply bw1 | refine bwS ?_ GE523.out) | exact HB.out)))); have n1_ := Z0.mk (bkB (g := gb523) (o := .cells #[.int .i64 a0_0, .int .i64 a0_1, .int .i64 a0_2, .int .i64 a0_3] 88 (0, 0)) (by (with_reducible repeat (first | refine bkN ?_ _ | refine bkD ?_ | refine bkA ?_ _)); exact BK523.out) hb); have n2_ := Z0.mk (bwT (by repeat (first | (with_reducible first | exact HB.out | apply bwA | apply bwN | apply bw1 | refine bwS ?_ GE523.out) | exact HB.out)) hb); clear BK523; clear HB; have HO533 := n0_; have BK523 := n1_; have HB := n2_; clear n0_ n1_ n2_; clear hb ho18; obtain ⟨Ao19, co19, eo19⟩ := Kd.R_slice HO533.out; subst eo19) | ((with_reducible refine gtC (f := 26) rfl ?_); refine goesL_ (some 47) rfl rfl Tryd.func26 (by kernel_rfl) rfl #[.slice Ao19 y531.length co19] rfl (by (try simp only [List.map_toArray, List.map_cons, List.map_nil]); first | done | rfl | (simp only [List.length_drop, List.length_take]; rfl)) ?_; (with_reducible refine (cr1_First.calls k _ _ y531 t534 _ ?side1 ?side2 A9.out).mono ?_); (case side1 => repeat (first | exact (Kd.R_reads' HO533.out).2.2 | (with_reducible refine Kd.C_alloc ?_ _) | (with_reducible refine Kd.C_drewN ?_ _) | (with_reducible refine Kd.C_drew ?_))); (case side2 => exact (Kd.R_reads' HO533.out).2.1); rintro e w' ⟨rfl, ⟨nd, rfl⟩⟩; refine ⟨_, rfl, ?_⟩))
 (try simp only [Act.put, List.setIfInBounds_toArray, List.set_cons_zero, List.set_cons_succ])
 go_cut [13] (fun v13 wc => ∃ (kq : Nat) (x13_9 : Int), v13 = .int .i64 x13_9 ∧ Z0 (cl6_HangWeights.j0 kq a1 a2 t524 t525 t526 t527 t528 t534 x13_9 0 = some r) ∧ Z0 (kq ≤ k) ∧ Z0 (wc.heap[gb523]? = some (.cells #[.int .i64 a0_0, .int .i64 a0_1, .int .i64 a0_2, .int .i64 a0_3] 88 (0, 0))) ∧ Z0 (Below w.heap.size w wc))
 case first =>
  have H := HC10.out
  clear HC10
  by_cases c20 : t528 = 0
  ·rw [if_pos c20] at H
   have c20b0 : (t528 == 0) = true := beq_iff_eq.mpr c20
   have c20b1 : (t528 != 0) = false := bne_eq_false_iff_eq.mpr c20
   clear c20
   (first | rw [c20b0] | (simp only [i64_w, i32_w]; rw [c20b0]) | skip)
   replace H := Option.bind_eq_some_iff.mp H
   obtain ⟨t535, A210, H⟩ := H
   replace H : (cl6_HangWeights.j0 k a1 a2 t524 t525 t526 t527 t528 t534 t535 0) = some r := H
   have A21 := Z0.mk A210
   clear A210
   have H' := Z0.mk H
   clear H
   have hcz22_0 : w17.cell? ⟨gb523, 0, none⟩ = some (.int .i64 a0_0) := (bkC BK523.out 0).trans rfl
   have hcz22_1 : w17.cell? ⟨gb523, 1, none⟩ = some (.int .i64 a0_1) := (bkC BK523.out 1).trans rfl
   have hcz22_2 : w17.cell? ⟨gb523, 2, none⟩ = some (.int .i64 a0_2) := (bkC BK523.out 2).trans rfl
   have hcz22_3 : w17.cell? ⟨gb523, 3, none⟩ = some (.int .i64 a0_3) := (bkC BK523.out 3).trans rfl
   have hfz22_0 := bkZ BK523.out 0
   have hfz22_1 := bkZ BK523.out 1
   have hfz22_2 := bkZ BK523.out 2
   have hfz22_3 := bkZ BK523.out 3
   go_wp2_with (first | ((with_reducible refine gtC (f := 58) rfl ?_); refine goesL_ (some 58) rfl rfl Tryd.func58 (by kernel_rfl) rfl #[.int .i64 a0_0, .int .i64 a0_1, .int .i64 a0_2, .int .i64 a0_3] rfl (by (try simp only [List.map_toArray, List.map_cons, List.map_nil]); first | done | rfl | (simp only [List.length_drop, List.length_take]; rfl)) ?_; (with_reducible refine (cr6_Length.calls a0_0 a0_1 a0_2 a0_3 t535 _ A21.out).mono ?_); rintro e w' ⟨rfl, ⟨nd, rfl⟩⟩; refine ⟨_, rfl, ?_⟩))
   go_meet
   case rel => exact ⟨_, (t535), (by first | rfl | (simp; done) | (simp [*]; done)), H', ⟨by first | omega | exact Nat.le_refl _⟩, ⟨by (with_reducible repeat (first | refine bkN ?_ _ | refine bkD ?_ | refine bkA ?_ _)); exact BK523.out⟩, ⟨by repeat (first | (with_reducible first | exact HB.out | apply bwA | apply bwN | apply bw1 | refine bwS ?_ GE523.out) | exact HB.out)⟩⟩
  ·rw [if_neg c20] at H
   have c20b0 : (t528 == 0) = false := beq_eq_false_iff_ne.mpr c20
   have c20b1 : (t528 != 0) = true := bne_iff_ne.mpr c20
   (first | rw [c20b0] | (simp only [i64_w, i32_w]; rw [c20b0]) | skip)
   have H' := Z0.mk H
   clear H
   go_wp2
   go_meet
   case rel => exact ⟨_, (0), (by first | rfl | (simp; done) | (simp [*]; done)), H', ⟨by first | omega | exact Nat.le_refl _⟩, ⟨by (with_reducible repeat (first | refine bkN ?_ _ | refine bkD ?_ | refine bkA ?_ _)); exact BK523.out⟩, ⟨by repeat (first | (with_reducible first | exact HB.out | apply bwA | apply bwN | apply bw1 | refine bwS ?_ GE523.out) | exact HB.out)⟩⟩
 case rest =>
  clear HC10
  try clear c2
  try clear p2
  try clear c5
  try clear c8
  try clear c20
  try clear c20b0
  try clear c20b1
  try clear hcz12_0
  try clear hcz12_1
  try clear hcz12_2
  try clear hcz12_3
  try clear hcz15_0
  try clear hcz15_1
  try clear hcz15_2
  try clear hcz15_3
  try clear hcz22_0
  try clear hcz22_1
  try clear hcz22_2
  try clear hcz22_3
  try clear hfz12_0
  try clear hfz12_1
  try clear hfz12_2
  try clear hfz12_3
  try clear hfz15_0
  try clear hfz15_1
  try clear hfz15_2
  try clear hfz15_3
  try clear hfz22_0
  try clear hfz22_1
  try clear hfz22_2
  try clear hfz22_3
  obtain ⟨kq, x13_9, rfl, HA, HJ9, BK523, HB⟩ := hcut
  cases kq with
  | zero => exact absurd HA.out (by simp [cl6_HangWeights.j0])
  | succ kj9 =>
   have H := HA.out
   clear HA
   simp only [cl6_HangWeights.j0] at H
   by_cases c23 : t534 = 0
   ·rw [if_pos c23] at H
    have c23b0 : (t534 == 0) = true := beq_iff_eq.mpr c23
    have c23b1 : (t534 != 0) = false := bne_eq_false_iff_eq.mpr c23
    clear c23
    replace H := Option.bind_eq_some_iff.mp H
    obtain ⟨⟨t536, t537⟩, A240, H⟩ := H
    replace H : (if t524 = x13_9 then (if t525 = t528 then (if t526 = t536 then (if t527 = t537 then ((cl6_awake.f kj9).bind fun t538 => (some t538)) else (none)) else (none)) else (none)) else (none)) = some r := H
    have A24 := Z0.mk A240
    clear A240
    by_cases c25 : t524 = x13_9
    ·rw [if_pos c25] at H
     have c25b0 : (t524 == x13_9) = true := beq_iff_eq.mpr c25
     have c25b1 : (t524 != x13_9) = false := bne_eq_false_iff_eq.mpr c25
     clear c25
     by_cases c26 : t525 = t528
     ·rw [if_pos c26] at H
      have c26b0 : (t525 == t528) = true := beq_iff_eq.mpr c26
      have c26b1 : (t525 != t528) = false := bne_eq_false_iff_eq.mpr c26
      clear c26
      by_cases c27 : t526 = t536
      ·rw [if_pos c27] at H
       have c27b0 : (t526 == t536) = true := beq_iff_eq.mpr c27
       have c27b1 : (t526 != t536) = false := bne_eq_false_iff_eq.mpr c27
       clear c27
       by_cases c28 : t527 = t537
       ·rw [if_pos c28] at H
        have c28b0 : (t527 == t537) = true := beq_iff_eq.mpr c28
        have c28b1 : (t527 != t537) = false := bne_eq_false_iff_eq.mpr c28
        clear c28
        replace H := Option.bind_eq_some_iff.mp H
        obtain ⟨t538, A290, H⟩ := H
        replace H : (some t538) = some r := H
        have A29 := Z0.mk A290
        clear A290
        obtain rfl := Option.some.inj H
        go_wp2_with (first | ((with_reducible refine gtC (f := 59) rfl ?_); refine goesL_ (some 64) rfl rfl Tryd.func59 (by kernel_rfl) rfl #[.int .i64 a1, .int .i64 a2] rfl (by (try simp only [List.map_toArray, List.map_cons, List.map_nil]); first | done | rfl | (simp only [List.length_drop, List.length_take]; rfl)) ?_; (with_reducible refine (cr6_Weight.calls a1 a2 t536 t537 _ A24.out).mono ?_); rintro e w' ⟨rfl, ⟨nd, rfl⟩⟩; refine ⟨_, rfl, ?_⟩) | (go_at_call 22; (with_reducible refine (cl6_awake.calls kj9  t538 _ (hG.below (by repeat (first | (with_reducible first | exact HB.out | apply bwA | apply bwN | apply bw1 | refine bwS ?_ GE523.out) | exact HB.out))) A29.out).mono ?_); rintro e w30 ⟨rfl, hb⟩; have n0_ := Z0.mk (bkB (g := gb523) (o := .cells #[.int .i64 a0_0, .int .i64 a0_1, .int .i64 a0_2, .int .i64 a0_3] 88 (0, 0)) (by (with_reducible repeat (first | refine bkN ?_ _ | refine bkD ?_ | refine bkA ?_ _)); exact BK523.out) hb); have n1_ := Z0.mk (bwT (by repeat (first | (with_reducible first | exact HB.out | apply bwA | apply bwN | apply bw1 | refine bwS ?_ GE523.out) | exact HB.out)) hb); clear BK523; clear HB; have BK523 := n0_; have HB := n1_; clear n0_ n1_; (try clear hb); (try clear hb2); (try clear hk); (try clear hi)))
        go_ret
        exact ⟨by first | rfl | (simp [errW_none, errW_some] <;> rfl) | (simp [*, errW_none, errW_some] <;> rfl), by repeat (first | (with_reducible first | exact HB.out | apply bwA | apply bwN | apply bw1 | refine bwS ?_ GE523.out) | exact HB.out)⟩
       ·rw [if_neg c28] at H
        exact absurd H (by simp)
      ·rw [if_neg c27] at H
       exact absurd H (by simp)
     ·rw [if_neg c26] at H
      exact absurd H (by simp)
    ·rw [if_neg c25] at H
     exact absurd H (by simp)
   ·rw [if_neg c23] at H
    have c23b0 : (t534 == 0) = false := beq_eq_false_iff_ne.mpr c23
    have c23b1 : (t534 != 0) = true := bne_iff_ne.mpr c23
    by_cases c31 : t524 = x13_9
    ·rw [if_pos c31] at H
     have c31b0 : (t524 == x13_9) = true := beq_iff_eq.mpr c31
     have c31b1 : (t524 != x13_9) = false := bne_eq_false_iff_eq.mpr c31
     clear c31
     by_cases c32 : t525 = t528
     ·rw [if_pos c32] at H
      have c32b0 : (t525 == t528) = true := beq_iff_eq.mpr c32
      have c32b1 : (t525 != t528) = false := bne_eq_false_iff_eq.mpr c32
      clear c32
      by_cases c33 : t526 = 0
      ·rw [if_pos c33] at H
       have c33b0 : (t526 == 0) = true := beq_iff_eq.mpr c33
       have c33b1 : (t526 != 0) = false := bne_eq_false_iff_eq.mpr c33
       clear c33
       by_cases c34 : t527 = t534
       ·rw [if_pos c34] at H
        have c34b0 : (t527 == t534) = true := beq_iff_eq.mpr c34
        have c34b1 : (t527 != t534) = false := bne_eq_false_iff_eq.mpr c34
        clear c34
        replace H := Option.bind_eq_some_iff.mp H
        obtain ⟨t539, A350, H⟩ := H
        replace H : (some t539) = some r := H
        have A35 := Z0.mk A350
        clear A350
        obtain rfl := Option.some.inj H
        go_wp2_with (first | (go_at_call 22; (with_reducible refine (cl6_awake.calls kj9  t539 _ (hG.below (by repeat (first | (with_reducible first | exact HB.out | apply bwA | apply bwN | apply bw1 | refine bwS ?_ GE523.out) | exact HB.out))) A35.out).mono ?_); rintro e w36 ⟨rfl, hb⟩; have n0_ := Z0.mk (bkB (g := gb523) (o := .cells #[.int .i64 a0_0, .int .i64 a0_1, .int .i64 a0_2, .int .i64 a0_3] 88 (0, 0)) (by (with_reducible repeat (first | refine bkN ?_ _ | refine bkD ?_ | refine bkA ?_ _)); exact BK523.out) hb); have n1_ := Z0.mk (bwT (by repeat (first | (with_reducible first | exact HB.out | apply bwA | apply bwN | apply bw1 | refine bwS ?_ GE523.out) | exact HB.out)) hb); clear BK523; clear HB; have BK523 := n0_; have HB := n1_; clear n0_ n1_; (try clear hb); (try clear hb2); (try clear hk); (try clear hi)))
        go_ret
        exact ⟨by first | rfl | (simp [errW_none, errW_some] <;> rfl) | (simp [*, errW_none, errW_some] <;> rfl), by repeat (first | (with_reducible first | exact HB.out | apply bwA | apply bwN | apply bw1 | refine bwS ?_ GE523.out) | exact HB.out)⟩
       ·rw [if_neg c34] at H
        exact absurd H (by simp)
      ·rw [if_neg c33] at H
       exact absurd H (by simp)
     ·rw [if_neg c32] at H
      exact absurd H (by simp)
    ·rw [if_neg c31] at H
     exact absurd H (by simp)
end Go.Proofs.YtppighiaffppkaaDoor.H
end
section
namespace Go.Proofs.YtppighiaffppkaaDoor.H
open Go.RowKit Go.Proofs.YtppighiaffppkaaDoorW.PrintWords Go.Proofs.YtppighiaffppkaaDoorW.PrintLast Go.Proofs.YtppighiaffppkaaDoorW.PrintMore
set_option linter.unusedSimpArgs false
set_option linter.unusedVariables false
theorem Ev.eqb {α β : Type} {x : Option α} {f : Nat → α → Option β} {a : α} {r : β} (h : x = Option.some a) (k : Ev (fun n => f n a) r) : Ev (fun n => x.bind (f n)) r := by
 subst h; exact k
theorem Ev.pos {α : Type} {c : Prop} [Decidable c] {g f : Nat → Option α} {r : α} (hc : c) (k : Ev g r) : Ev (fun n => if c then g n else f n) r := by simpa [hc] using k
theorem Ev.neg {α : Type} {c : Prop} [Decidable c] {g f : Nat → Option α} {r : α} (hc : ¬ c) (k : Ev f r) : Ev (fun n => if c then g n else f n) r := by simpa [hc] using k
theorem ref_CheckRange_eq (n lo hi : Int) : cr1_CheckRange.f n lo hi = some (rangeE n lo hi) := by
 unfold cr1_CheckRange.f rangeE
 split
 ·rfl
 ·split <;> rfl
theorem ref_First_loop (l : List Int) (hl : l.length < 9223372036854775807) : ∀ (d i k : Nat), i + d = l.length → d < k → cr1_First.l0 k l (i : Int) = some (firstE (l.drop i)) := by
 intro d
 induction d with
 | zero =>
  intro i k hi hk
  obtain ⟨k, rfl⟩ : ∃ m, k = m + 1 := ⟨k - 1, by omega⟩
  simp only [cr1_First.l0]
  rw [if_neg (by omega), List.drop_eq_nil_of_le (by omega)]
  rfl
 | succ d ih =>
  intro i k hi hk
  obtain ⟨k, rfl⟩ : ∃ m, k = m + 1 := ⟨k - 1, by omega⟩
  simp only [cr1_First.l0]
  rw [if_pos (by omega), if_pos (by omega), rd_drop (by omega), List.drop_eq_getElem_cons (by omega), wrap_id (by omega) (by omega)]
  have e : ((i : Int) + 1) = ((i + 1 : Nat) : Int) := by omega
  rw [e, ih (i + 1) k (by omega) (by omega)]
  simp only [firstE]
  split <;> rfl
theorem ref_First_ev (l : List Int) (hl : l.length < 9223372036854775807) : Ev (fun k => cr1_First.f k l) (firstE l) :=
 ⟨l.length + 1, fun k hk => by
  have := ref_First_loop l hl l.length 0 k (by omega) (by omega)
  simpa [cr1_First.f] using this⟩
theorem firstE_two (a b : Int) : firstE [a, b] = if a = 0 then b else a := by
 simp only [firstE]
 split
 ·split
  ·exact Eq.symm (by assumption)
  ·rfl
 ·rfl
theorem firstE_three (a b c : Int) : firstE [a, b, c] = firstE [a, firstE [b, c]] := by
 simp only [firstE_two]
 simp only [firstE]
 repeat' split
 all_goals first | rfl | omega
theorem firstE_four (a b c d : Int) : firstE [a, b, c, d] = firstE [firstE [a, firstE [b, c]], d] := by
 simp only [firstE_two]
 simp only [firstE]
 repeat' split
 all_goals first | rfl | omega
theorem firstE_four' (a b c d : Int) : firstE [a, b, c, d] = firstE [firstE [a, b, c], d] := by
 rw [firstE_three, firstE_four]
theorem checkBar_eq (n : Int) : hang_checkBar.f n = some (rangeE n 1 100) := by
 unfold hang_checkBar.f; rw [hang_within_eq]; rfl
end Go.Proofs.YtppighiaffppkaaDoor.H
end
section
namespace Go.Proofs.YtppighiaffppkaaDoor.Pure
open Go.RowKit H R Go.Proofs.YtppighiaffppkaaDoorW.PrintWords Go.Proofs.YtppighiaffppkaaDoorW.PrintLast Go.Proofs.YtppighiaffppkaaDoorW.PrintMore
def lineE (n1 n2 b : Int) : Int := firstE [rangeE n1 0 100000, rangeE n2 0 100000, rangeE b 1 100]
theorem checkLine_ev (n1 n2 b : Int) : Ev (fun k => hang_checkLine.f k n1 n2 b) (lineE n1 n2 b) := by
 unfold hang_checkLine.f
 exact Ev.eqb (hang_within_eq ..) (Ev.eqb (hang_within_eq ..) (Ev.eqb (checkBar_eq ..) ((hang_first_ev _ (by simp)).bind (Ev.some rfl))))
theorem checkAllowance_eq (n : Int) : hang_checkAllowance.f n = some (rangeE n 0 100) := by
 unfold hang_checkAllowance.f; rw [hang_within_eq]; rfl
def lenE (n1 n2 b a : Int) : Int := firstE [rangeE n1 0 100000, rangeE n2 0 100000, rangeE b 1 100, rangeE a 0 100]
def lenV (n1 n2 b a : Int) : Int := wrap64 (wrap64 (n1 * b) + wrap64 (n2 * a))
theorem hang_Length_ev (n1 n2 b a : Int) : Ev (fun k => hang_Length.f k n1 n2 b a) (if lenE n1 n2 b a = 0 then (lenV n1 n2 b a, 0) else (0, lenE n1 n2 b a)) := by
 unfold hang_Length.f
 refine (checkLine_ev n1 n2 b).bind (Ev.eqb (checkAllowance_eq ..) ((hang_first_ev _ (by simp)).bind ?_))
 have e : firstE [lineE n1 n2 b, rangeE a 0 100] = lenE n1 n2 b a := (firstE_four' _ _ _ _).symm
 rw [e]
 by_cases h : lenE n1 n2 b a = 0
 ·refine Ev.pos h ?_; rw [if_pos h]; exact Ev.some rfl
 ·refine Ev.neg h ?_; rw [if_neg h]; exact Ev.some rfl
theorem ref_CheckCounts_ev (n1 n2 b a : Int) : Ev (fun k => cr6_CheckCounts.f k n1 n2 b a) (lenE n1 n2 b a) := by
 unfold cr6_CheckCounts.f
 exact Ev.eqb (ref_CheckRange_eq ..) (Ev.eqb (ref_CheckRange_eq ..) (Ev.eqb (ref_CheckRange_eq ..) (Ev.eqb (ref_CheckRange_eq ..) ((ref_First_ev _ (by simp)).bind (Ev.some rfl)))))
def weiE (l t : Int) : Int := firstE [rangeE l 0 999999999, rangeE t 1 100000]
def weiV (l t : Int) : Int × Int := if wrap64 (Int.tdiv (wrap64 (l * t)) 1000) > 999999999 then (0, 4) else (wrap64 (Int.tdiv (wrap64 (l * t)) 1000), 0)
theorem hang_Weight_ev (l t : Int) : Ev (fun k => hang_Weight.f k l t) (if weiE l t = 0 then weiV l t else (0, weiE l t)) := by
 unfold hang_Weight.f
 refine Ev.eqb (hang_within_eq ..) (Ev.eqb (hang_within_eq ..) ((hang_first_ev _ (by simp)).bind ?_))
 have e : firstE [rangeE l 0 999999999, rangeE t 1 100000] = weiE l t := rfl
 rw [e]
 by_cases h : weiE l t = 0
 ·refine Ev.pos h ?_
  rw [if_pos h]
  refine Ev.eqb (a := wrap64 (Int.tdiv (wrap64 (l * t)) 1000)) rfl (Ev.some ?_)
  unfold weiV; split <;> rfl
 ·refine Ev.neg h ?_; rw [if_neg h]; exact Ev.some rfl
theorem ref_Weight_eq (l t : Int) : cr6_Weight.f l t = some (weiV l t) := by
 unfold cr6_Weight.f weiV; split <;> rfl
theorem pure_HangWeights (n1 n2 b a l t : Int) (_ : okI n1) (_ : okI n2) (_ : okI b) (_ : okI a) (_ : okI l) (_ : okI t) : ∃ k, cl6_HangWeights.f k n1 n2 b a l t = some true := by
 refine Ev.rounds (g := fun k => cl6_HangWeights.f k n1 n2 b a l t) ?_
 unfold cl6_HangWeights.f
 refine (hang_Length_ev n1 n2 b a).bind ((hang_Weight_ev l t).bind ((ref_CheckCounts_ev n1 n2 b a).bind (Ev.eqb (ref_CheckRange_eq ..) (Ev.eqb (ref_CheckRange_eq ..) ((ref_First_ev _ (by simp)).bind ?_)))))
 have e : firstE [rangeE l 0 999999999, rangeE t 1 100000] = weiE l t := rfl
 rw [e]
 have tail : ∀ x7 x8 x11 x13 : Int, x7 = x13 → x8 = x11 → Ev (fun k => cl6_HangWeights.j0 k l t x7 x8 (if weiE l t = 0 then weiV l t else (0, weiE l t)).1 (if weiE l t = 0 then weiV l t else (0, weiE l t)).2 x11 (weiE l t) x13 0) true := by
  rintro x7 x8 _ _ rfl rfl
  refine Ev.step (fun _ => rfl) ?_
  by_cases h : weiE l t = 0
  ·simp only [if_pos h]
   exact Ev.pos h (Ev.eqb (ref_Weight_eq l t) (Ev.pos rfl (Ev.pos rfl (Ev.pos rfl (Ev.pos rfl (Ev.now true))))))
  ·simp only [if_neg h]
   exact Ev.neg h (Ev.pos rfl (Ev.pos rfl (Ev.pos rfl (Ev.pos rfl (Ev.now true)))))
 by_cases h : lenE n1 n2 b a = 0
 ·rw [if_pos h]
  exact Ev.pos h (Ev.eqb (a := lenV n1 n2 b a) rfl (tail _ _ _ _ rfl h.symm))
 ·rw [if_neg h]
  exact Ev.neg h (tail _ _ _ _ rfl rfl)
end Go.Proofs.YtppighiaffppkaaDoor.Pure
end
section
namespace Go.Proofs.YtppighiaffppkaaDoor.hangWeights
open Go.ChangeShapes Go.WideShapes Go.ChangeAt Go.RowKit Go.Proofs.YtppighiaffppkaaDoor.R
set_option linter.unusedVariables false
set_option maxRecDepth 100000 in
theorem lifted (os : Os) (started : os.Started) (Hd : Type) (enc : TypeId × Value → Hd) :
  ReturnsInHanded {} Tryd.checked os 8 .any (fun w args => (Rows.hangWeightsSpec.pre enc Tryd.prog Tryd.f8 [] false w args ∧ laidMetH Tryd.prog laid w) ∧ sizedMet enc Tryd.prog Tryd.f8 (OpenSpec.ofChange Rows.hangWeightsSpec) false w args)
   (Rows.hangWeightsSpec.post enc Tryd.prog Tryd.f8 false true false false) := by
 refine returnsInHanded_of_change_and (C := Tryd.checked) (X := fun w _ => laidMetH Tryd.prog laid w) (fun _ _ _ hh h => h.of_heap hh) own started (by kernel_rfl) Tryd.func8
  (ChangeSpec.witness_shaped (enc := enc) (C := Tryd.checked) (os := os) (X := fun w _ => laidMetH Tryd.prog laid w) false (World.doorLaid Tryd.prog 400 os) #[.agg #[.int .i64 0, .int .i64 0, .int .i64 0, .int .i64 0], .int .i64 0, .int .i64 0] 8 rfl (World.shaped_of_RefB (by kernel_rfl) (by kernel_rfl)) (by kernel_rfl) (by kernel_rfl) (by kernel_rfl) (door_met os _)) ?_
 intro W base args ds gs before hval0 hW hcnd hsz0 hL _
 have hval : ∀ (j : Nat) t v, Tryd.f8.params[j]? = some t → args[j]? = some v → Value.okWide Tryd.prog W .any base t v := hval0
 have hW' := hW
 obtain ⟨p, q, hA0, hV, rfl, hfz, hnd⟩ := hW
 have hA : DataW.TrodAll enc Tryd.prog W 0 (fun _ => true) true Tryd.f8.params.toList args.toList ds p := hA0
 rw [Tryd.params8] at hA hval
 obtain ⟨v0, vs0, d0, ds0, p0, q0, hargs, rfl, rfl, h0, r0⟩ := trodAll_cons hA
 obtain ⟨v1, vs1, d1, ds1, p1, q1, rfl, rfl, rfl, h1, r1⟩ := trodAll_cons r0
 obtain ⟨v2, vs2, d2, ds2, p2, q2, rfl, rfl, rfl, h2, r2⟩ := trodAll_cons r1
 obtain ⟨rfl, rfl, rfl⟩ := trodAll_nil r2
 obtain rfl : args = #[v0, v1, v2] := by cases args; simp_all
 obtain ⟨rfl, rfl⟩ := trodVars_none hV
 have k0 := h0
 have lt0 : ∀ x ∈ p0, x.block < W.heap.size := by obtain ⟨m, hm⟩ := k0; exact DataW.trod_lt m _ _ _ hm
 obtain ⟨a0_0, a0_1, a0_2, a0_3, rfl, w0_0, w0_1, w0_2, w0_3⟩ := arg88 (hval 0 88 v0 rfl rfl) h0
 have k1 := h1
 have lt1 : ∀ x ∈ p1, x.block < W.heap.size := by obtain ⟨m, hm⟩ := k1; exact DataW.trod_lt m _ _ _ hm
 obtain ⟨a1, rfl, w1⟩ : ∃ a : Int, v1 = .int .i64 a ∧ okI a := by
  obtain ⟨a, rfl, _, _, _⟩ := open_int Tryd.underlying3 (hval 1 3 v1 rfl rfl) h1
  obtain ⟨fuel, hf⟩ := h1
  obtain ⟨b, e, w⟩ := cs3 (cs := [.int .i64 a]) hf
  cases e; exact ⟨a, rfl, w⟩
 have k2 := h2
 have lt2 : ∀ x ∈ p2, x.block < W.heap.size := by obtain ⟨m, hm⟩ := k2; exact DataW.trod_lt m _ _ _ hm
 obtain ⟨a2, rfl, w2⟩ : ∃ a : Int, v2 = .int .i64 a ∧ okI a := by
  obtain ⟨a, rfl, _, _, _⟩ := open_int Tryd.underlying3 (hval 2 3 v2 rfl rfl) h2
  obtain ⟨fuel, hf⟩ := h2
  obtain ⟨b, e, w⟩ := cs3 (cs := [.int .i64 a]) hf
  cases e; exact ⟨a, rfl, w⟩
 have hG : H.GH W := gh_of_laid hL
 clear hA0 hval0 hsz0 hL hcnd
 obtain ⟨k, hk⟩ := Pure.pure_HangWeights a0_0 a0_1 a0_2 a0_3 a1 a2 w0_0 w0_1 w0_2 w0_3 w1 w2
 refine (H.cl6_HangWeights.calls k a0_0 a0_1 a0_2 a0_3 a1 a2 true W hG  hk).mono fun e W' ⟨he, bel⟩ => ?_
 subst he
 exact ⟨_, rfl, _, _, _, [], _, [], hW', trodAll_mk1 (shut_bool Tryd.underlying4 _), (trodAll_cons_mk (Below.trod laidOut (by kernel_rfl) (of_decide_eq_true (by kernel_rfl)) k0 bel lt0) (trodAll_cons_mk (Below.trod laidOut (by kernel_rfl) (of_decide_eq_true (by kernel_rfl)) k1 bel lt1) (trodAll_cons_mk (Below.trod laidOut (by kernel_rfl) (of_decide_eq_true (by kernel_rfl)) k2 bel lt2) trodAll_mk0))), rfl, bel.frame _, fun h => by cases h⟩
theorem over : Rows.hangWeightsRow.holds Tryd.pinned (OpenSpec.ofChange Rows.hangWeightsSpec) :=
 OpenClaim.holds_of_wide 8 Tryd.f8 rfl rfl rfl rfl rfl rfl rfl ⟨rfl, rfl, rfl, rfl, rfl⟩ rfl rfl rfl rfl rfl (by kernel_rfl) Tryd.func8 (by kernel_rfl)
  (of_decide_eq_true (by kernel_rfl)) (by unfold Func.isWrapper; first | (rw [if_pos (by decide +kernel)]; kernel_rfl) | (rw [if_neg (by decide +kernel)]; exact ⟨rfl, rfl⟩))
  (fun os started Hd enc _ => lifted os started Hd enc)
theorem fits : ∀ t : TypeId, t ∈ Tryd.f8.params → Tryd.prog.wantsStandIn t = false := by
 rw [Tryd.params8]
 intro t ht
 simp only [List.mem_toArray, List.mem_cons, List.not_mem_nil, or_false] at ht
 rcases ht with rfl | rfl | rfl
 ·exact (show Tryd.prog.wantsStandIn 88 = false by kernel_rfl)
 ·exact (show Tryd.prog.wantsStandIn 3 = false by kernel_rfl)
 ·exact (show Tryd.prog.wantsStandIn 3 = false by kernel_rfl)
theorem card : Rows.HangWeightsCardSaid :=
 Claim7.holds_tied_plain_at .later [] [.data] true (true, "bb9c8a1f3b87a99a73053614bf73ec5a74d01f458fba8a9eee33de806b476934") false
  over (fun _ h => by cases h) (by kernel_rfl) (fun _ h => by cases h) hangWeights_row_tie rfl ⟨rfl, rfl⟩ (by kernel_rfl) rfl
  (fun f fn hf hfn => by
   obtain rfl : f = 8 := Option.some.inj ((show Tryd.prog.funcNamed "codend/codendlaw06.HangWeights" = some 8 by kernel_rfl).symm.trans hf) |>.symm
   obtain rfl : fn = Tryd.f8 := (Option.some.inj (Tryd.func8.symm.trans hfn)).symm
   exact ⟨by kernel_rfl, fun j t ht => fits t (Array.mem_of_getElem? ht)⟩)
  (by kernel_rfl)
#print axioms card
end Go.Proofs.YtppighiaffppkaaDoor.hangWeights
namespace Go.Proofs.YtppighiaffppkaaDoor
theorem hangWeights_holds : Rows.HangWeightsCardSaid := hangWeights.card
end Go.Proofs.YtppighiaffppkaaDoor
end
