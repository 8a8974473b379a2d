/- What the statement HangBills needs beyond the common part: walks of the functions that it calls, the plain law, the row and its card, part 0. Condition: the laid table hang.tens, as the card ties it. -/
import Derived.Test.YtppighiaffppkaaDoorZA7
section
namespace Go.Proofs.YtppighiaffppkaaDoor.H
open Go.RowKit Go.Proofs.YtppighiaffppkaaDoorW.PrintWords Go.Proofs.YtppighiaffppkaaDoorW.PrintLast Go.Proofs.YtppighiaffppkaaDoorW.PrintMore
attribute [local go_sem] max2_int min2_int max_two min_two max_three min_three max_four min_four
set_option linter.unusedSimpArgs false
set_option linter.unusedVariables false
def cr1_First.l0 : Nat → List Int → Int → Option (Int)
 | 0, _, _ => none
 | k + 1, x0, x3 => if x3 < (x0.length : Int) then (if 0 ≤ x3 then (if (rd x0 x3) = 0 then (cr1_First.l0 k x0 (wrap64 (x3 + 1))) else (some (rd x0 x3))) else (none)) else (some 0)
def cr1_First.f (k : Nat) (l0 : List Int) : Option (Int) := cr1_First.l0 k l0 0
set_option maxHeartbeats 8000000 in
set_option maxRecDepth 100000 in
theorem cr1_First.calls (k : Nat) (A0 : Option Addr) (c0 : Nat) (l0 : List Int) (r : Int) (w : World) (hr0 : Kd.C (Kd.int .i64) w A0 l0.length l0) (hc0 : l0.length ≤ c0) (h : cr1_First.f k l0 = some r) :
  Calls Tryd.prog 26 #[.slice A0 l0.length c0] w fun e w' => e = .returned (.int .i64 r) ∧ Drawn0 w w' := by
 have HR0 := Z0.mk hr0
 have HC0 := Z0.mk hc0
 clear hr0 hc0
 have H : (cr1_First.l0 k l0 0) = some r := h
 clear h
 have H' := Z0.mk H
 clear H
 go_enter Tryd.func26, Tryd.ntmps26
 go_wp2
 go_loopg [3] k (fun kq v3 w' => ∃ (x3_1 : Int), v3 = .int .i64 x3_1 ∧ Z0 (cr1_First.l0 kq l0 x3_1 = some r) ∧ Z0 (kq ≤ k) ∧ Drawn0 w w')
 case atStart => exact ⟨(0), (by first | rfl | (simp; done) | (simp [*]; done)), H', ⟨Nat.le_refl _⟩, by repeat (first | exact Drawn0.refl _ | apply Drawn0.step)⟩
 case round =>
  clear H';obtain ⟨x3_1, rfl, HA, HK1, ⟨m1, rfl⟩⟩ := hrel;cases gk with
  | zero => exact absurd HA.out (by simp [cr1_First.l0])
  | succ k1 =>
   have H := HA.out;clear HA;simp only [cr1_First.l0] at H;by_cases c2 : x3_1 < (l0.length : Int)
   ·rw [if_pos c2] at H;have c2b0 : decide (x3_1 < (l0.length : Int)) = true := decide_eq_true c2;clear c2;by_cases c3 : 0 ≤ x3_1
    ·rw [if_pos c3] at H;have c3b0 : decide (0 ≤ x3_1) = true := decide_eq_true c3;clear c3;by_cases c4 : (rd l0 x3_1) = 0
     ·rw [if_pos c4] at H;have c4b0 : ((rd l0 x3_1) == 0) = true := beq_iff_eq.mpr c4;have c4b1 : ((rd l0 x3_1) != 0) = false := bne_eq_false_iff_eq.mpr c4;clear c4;have H' := Z0.mk H;clear H;have p273 : 0 ≤ (x3_1 : Int) := of_decide_eq_true (by first | (with_reducible assumption) | assumption);have q273 : x3_1 < (l0.length : Int) := of_decide_eq_true (by first | (with_reducible assumption) | assumption);obtain ⟨ad273, e273, hx273_0⟩ := Kd.at_int HR0.out x3_1 p273 q273;cases e273;replace p273 := eq_true p273
      replace q273 := eq_true q273
      go_wp2
      go_roundg k1
      case measure => have := HK1.out; omega
      case rel => exact ⟨(wrap64 (x3_1 + 1)), (by first | rfl | (simp; done) | (simp [*]; done)), H', ⟨by have := HK1.out; omega⟩, by repeat (first | exact Drawn0.refl _ | apply Drawn0.step)⟩
     ·rw [if_neg c4] at H;have c4b0 : ((rd l0 x3_1) == 0) = false := beq_eq_false_iff_ne.mpr c4;have c4b1 : ((rd l0 x3_1) != 0) = true := bne_iff_ne.mpr c4;obtain rfl := Option.some.inj H;have p273 : 0 ≤ (x3_1 : Int) := of_decide_eq_true (by first | (with_reducible assumption) | assumption);have q273 : x3_1 < (l0.length : Int) := of_decide_eq_true (by first | (with_reducible assumption) | assumption);obtain ⟨ad273, e273, hx273_0⟩ := Kd.at_int HR0.out x3_1 p273 q273;cases e273;replace p273 := eq_true p273
      replace q273 := eq_true q273
      have p274 : 0 ≤ (x3_1 : Int) := of_decide_eq_true (by first | (with_reducible assumption) | assumption);have q274 : x3_1 < (l0.length : Int) := of_decide_eq_true (by first | (with_reducible assumption) | assumption);obtain ⟨ad274, e274, hx274_0⟩ := Kd.at_int HR0.out x3_1 p274 q274;obtain rfl : ad273 = ad274 := (by injection e274);replace p274 := eq_true p274
      replace q274 := eq_true q274
      go_wp2
      go_ret
      exact ⟨by first | rfl | (simp; done) | (simp [*]; done), by repeat (first | exact Drawn0.refl _ | apply Drawn0.step)⟩
    ·rw [if_neg c3] at H;exact absurd H (by simp)
   ·rw [if_neg c2] at H;have c2b0 : decide (x3_1 < (l0.length : Int)) = false := decide_eq_false c2;clear c2;obtain rfl := Option.some.inj H;go_wp2
    go_ret
    exact ⟨by first | rfl | (simp; done) | (simp [*]; done), by repeat (first | exact Drawn0.refl _ | apply Drawn0.step)⟩
def cr1_CheckRange.f (a0 : Int) (a1 : Int) (a2 : Int) : Option (Int) := if a0 < a1 then (some 3) else (if a0 > a2 then (some 3) else (some 0))
set_option maxHeartbeats 8000000 in
set_option maxRecDepth 100000 in
theorem cr1_CheckRange.calls (a0 : Int) (a1 : Int) (a2 : Int) (r : Int) (w : World) (h : cr1_CheckRange.f a0 a1 a2 = some r) :
  Calls Tryd.prog 27 #[.int .i64 a0, .int .i64 a1, .int .i64 a2] w fun e w' => e = .returned (.int .i64 r) ∧ Drawn0 w w' := by
 have H : (if a0 < a1 then (some 3) else (if a0 > a2 then (some 3) else (some 0))) = some r := h
 clear h
 by_cases c4 : a0 < a1
 ·rw [if_pos c4] at H;have c4b0 : decide (a0 < a1) = true := decide_eq_true c4;clear c4;obtain rfl := Option.some.inj H;go_enter Tryd.func27, Tryd.ntmps27;go_wp2
  go_ret
  exact ⟨by first | rfl | (simp; done) | (simp [*]; done), by repeat (first | exact Drawn0.refl _ | apply Drawn0.step)⟩
 ·rw [if_neg c4] at H;have c4b0 : decide (a0 < a1) = false := decide_eq_false c4;clear c4;by_cases c5 : a0 > a2
  ·rw [if_pos c5] at H;have c5b0 : decide (a2 < a0) = true := decide_eq_true c5;clear c5;obtain rfl := Option.some.inj H;go_enter Tryd.func27, Tryd.ntmps27;go_wp2
   go_ret
   exact ⟨by first | rfl | (simp; done) | (simp [*]; done), by repeat (first | exact Drawn0.refl _ | apply Drawn0.step)⟩
  ·rw [if_neg c5] at H;have c5b0 : decide (a2 < a0) = false := decide_eq_false c5;clear c5;obtain rfl := Option.some.inj H;go_enter Tryd.func27, Tryd.ntmps27;go_wp2
   go_ret
   exact ⟨by first | rfl | (simp; done) | (simp [*]; done), by repeat (first | exact Drawn0.refl _ | apply Drawn0.step)⟩
end Go.Proofs.YtppighiaffppkaaDoor.H
end
section
namespace Go.Proofs.YtppighiaffppkaaDoor.H
open Go.RowKit Go.Proofs.YtppighiaffppkaaDoorW.PrintWords Go.Proofs.YtppighiaffppkaaDoorW.PrintLast Go.Proofs.YtppighiaffppkaaDoorW.PrintMore
attribute [local go_sem] max2_int min2_int max_two min_two max_three min_three max_four min_four
set_option linter.unusedVariables false
set_option linter.unusedSimpArgs false
mutual
def cr6_ShortTwines.j0 : Nat → List (S121) → Bool → Option (Bool)
 | 0, _, _ => none
 | k + 1, x0, x11 => if x11 = true then (some false) else (cr6_ShortTwines.l0 k x0 0)
def cr6_ShortTwines.l0 : Nat → List (S121) → Int → Option (Bool)
 | 0, _, _ => none
 | k + 1, x0, x3 => if x3 < (x0.length : Int) then (if 0 ≤ x3 then (if (((rd_T121 x0 x3).f0).size : Int) > 40 then (some false) else (cr6_ShortTwines.l0 k x0 (wrap64 (x3 + 1)))) else (none)) else (some true)
end
def cr6_ShortTwines.f (k : Nat) (l0 : List (S121)) : Option (Bool) := if (l0.length : Int) > 6 then (cr6_ShortTwines.j0 k l0 ((l0.length : Int) != 33)) else (cr6_ShortTwines.j0 k l0 false)
set_option maxHeartbeats 8000000 in
set_option maxRecDepth 100000 in
theorem cr6_ShortTwines.calls (k : Nat) (A0 : Option Addr) (c0 : Nat) (l0 : List (S121)) (r : Bool) (w : World) (hr0 : Kd.C k121 w A0 l0.length l0) (hc0 : l0.length ≤ c0) (h : cr6_ShortTwines.f k l0 = some r) :
  Calls Tryd.prog 49 #[.slice A0 l0.length c0] w fun e w' => e = .returned (.bool r) ∧ Drawn0 w w' := by
 have HR0 := Z0.mk hr0
 have HC0 := Z0.mk hc0
 clear hr0 hc0
 have H : (if (l0.length : Int) > 6 then (cr6_ShortTwines.j0 k l0 ((l0.length : Int) != 33)) else (cr6_ShortTwines.j0 k l0 false)) = some r := h
 clear h
 have HC2 := Z0.mk H
 clear H
 go_enter Tryd.func49, Tryd.ntmps49
 go_upto_region 1 with (fail)
 go_cut [11] (fun v11 wc => ∃ (kq : Nat) (x11_1 : Bool), v11 = .bool x11_1 ∧ Z0 (cr6_ShortTwines.j0 kq l0 x11_1 = some r) ∧ Z0 (kq ≤ k) ∧ Drawn0 w wc)
 case first =>
  have H := HC2.out;clear HC2;by_cases c3 : (l0.length : Int) > 6
  ·rw [if_pos c3] at H;have c3b0 : decide (6 < (l0.length : Int)) = true := decide_eq_true c3;have c3b1 : decide (6 < l0.length) = true := decide_eq_true (by omega);clear c3;(first | rw [c3b0] | (simp only [i64_w, i32_w]; rw [c3b0]) | skip)
   have H' := Z0.mk H;clear H;go_wp2
   go_meet
   case rel => exact ⟨_, (((l0.length : Int) != 33)), (by first | rfl | (simp; done) | (simp [*]; done)), H', ⟨by first | omega | exact Nat.le_refl _⟩, by repeat (first | exact Drawn0.refl _ | apply Drawn0.step)⟩
  ·rw [if_neg c3] at H;have c3b0 : decide (6 < (l0.length : Int)) = false := decide_eq_false c3;have c3b1 : decide (6 < l0.length) = false := decide_eq_false (by omega);clear c3;(first | rw [c3b0] | (simp only [i64_w, i32_w]; rw [c3b0]) | skip)
   have H' := Z0.mk H;clear H;go_wp2
   go_meet
   case rel => exact ⟨_, (false), (by first | rfl | (simp; done) | (simp [*]; done)), H', ⟨by first | omega | exact Nat.le_refl _⟩, by repeat (first | exact Drawn0.refl _ | apply Drawn0.step)⟩
 case rest =>
  clear HC2;try clear p2
  try clear c3
  try clear c3b0
  try clear c3b1
  obtain ⟨kq, x11_1, rfl, HA, HJ1, ⟨mc1, rfl⟩⟩ := hcut;cases kq with
  | zero => exact absurd HA.out (by simp [cr6_ShortTwines.j0])
  | succ kj1 =>
   have H := HA.out;clear HA;simp only [cr6_ShortTwines.j0] at H;by_cases c4 : x11_1 = true
   ·subst c4;have H1 : (some false) = some r := by rw [if_pos rfl] at H; exact H
    clear H;have H := H1;clear H1;obtain rfl := Option.some.inj H;go_wp2
    go_ret
    exact ⟨by first | rfl | (simp; done) | (simp [*]; done), by repeat (first | exact Drawn0.refl _ | apply Drawn0.step)⟩
   ·replace c4 := Bool.eq_false_iff.mpr c4
    subst c4;have H1 : (cr6_ShortTwines.l0 kj1 l0 0) = some r := by rw [if_neg (show ¬ (false = true) by decide)] at H; exact H
    clear H;have H := H1;clear H1;have H' := Z0.mk H;clear H;go_wp2
    go_loopg [3] kj1 (fun kq v3 w' => ∃ (x3_2 : Int), v3 = .int .i64 x3_2 ∧ Z0 (cr6_ShortTwines.l0 kq l0 x3_2 = some r) ∧ Z0 (kq ≤ kj1) ∧ Drawn0 w w')
    case atStart => exact ⟨(0), (by first | rfl | (simp; done) | (simp [*]; done)), H', ⟨Nat.le_refl _⟩, by repeat (first | exact Drawn0.refl _ | apply Drawn0.step)⟩
    case round =>
     clear H';try clear c1
     try clear p2
     try clear c3
     try clear c3b0
     try clear c3b1
     try clear c4
     try clear p2
     obtain ⟨x3_2, rfl, HA, HK2, ⟨m2, rfl⟩⟩ := hrel;cases gk with
     | zero => exact absurd HA.out (by simp [cr6_ShortTwines.l0])
     | succ k2 =>
      have H := HA.out;clear HA;simp only [cr6_ShortTwines.l0] at H;by_cases c5 : x3_2 < (l0.length : Int)
      ·rw [if_pos c5] at H;have c5b0 : decide (x3_2 < (l0.length : Int)) = true := decide_eq_true c5;clear c5;by_cases c6 : 0 ≤ x3_2
       ·rw [if_pos c6] at H;have c6b0 : decide (0 ≤ x3_2) = true := decide_eq_true c6;clear c6;by_cases c7 : (((rd_T121 l0 x3_2).f0).size : Int) > 40
        ·rw [if_pos c7] at H;have c7b0 : decide (40 < (((rd_T121 l0 x3_2).f0).size : Int)) = true := decide_eq_true c7;have c7b1 : decide (40 < ((rd_T121 l0 x3_2).f0).size) = true := decide_eq_true (by omega);clear c7;obtain rfl := Option.some.inj H;have p465 : 0 ≤ (x3_2 : Int) := of_decide_eq_true (by first | (with_reducible assumption) | assumption);have q465 : x3_2 < (l0.length : Int) := of_decide_eq_true (by first | (with_reducible assumption) | assumption);obtain ⟨ad465, e465, hx465_0, hx465_1, hx465_2⟩ := at_T121 HR0.out x3_2 p465 q465;cases e465;replace p465 := eq_true p465
         replace q465 := eq_true q465
         go_wp2
         go_ret
         exact ⟨by first | rfl | (simp; done) | (simp [*]; done), by repeat (first | exact Drawn0.refl _ | apply Drawn0.step)⟩
        ·rw [if_neg c7] at H;have c7b0 : decide (40 < (((rd_T121 l0 x3_2).f0).size : Int)) = false := decide_eq_false c7;have c7b1 : decide (40 < ((rd_T121 l0 x3_2).f0).size) = false := decide_eq_false (by omega);clear c7;have H' := Z0.mk H;clear H;have p465 : 0 ≤ (x3_2 : Int) := of_decide_eq_true (by first | (with_reducible assumption) | assumption);have q465 : x3_2 < (l0.length : Int) := of_decide_eq_true (by first | (with_reducible assumption) | assumption);obtain ⟨ad465, e465, hx465_0, hx465_1, hx465_2⟩ := at_T121 HR0.out x3_2 p465 q465;cases e465;replace p465 := eq_true p465
         replace q465 := eq_true q465
         go_wp2
         go_roundg k2
         case measure => have := HJ1.out; have := HK2.out; omega
         case rel => exact ⟨(wrap64 (x3_2 + 1)), (by first | rfl | (simp; done) | (simp [*]; done)), H', ⟨by have := HJ1.out; have := HK2.out; omega⟩, by repeat (first | exact Drawn0.refl _ | apply Drawn0.step)⟩
       ·rw [if_neg c6] at H;exact absurd H (by simp)
      ·rw [if_neg c5] at H;have c5b0 : decide (x3_2 < (l0.length : Int)) = false := decide_eq_false c5;clear c5;obtain rfl := Option.some.inj H;go_wp2
       go_ret
       exact ⟨by first | rfl | (simp; done) | (simp [*]; done), by repeat (first | exact Drawn0.refl _ | apply Drawn0.step)⟩
end Go.Proofs.YtppighiaffppkaaDoor.H
end
section
namespace Go.Proofs.YtppighiaffppkaaDoor.H
open Go.RowKit Go.Proofs.YtppighiaffppkaaDoorW.PrintWords Go.Proofs.YtppighiaffppkaaDoorW.PrintLast Go.Proofs.YtppighiaffppkaaDoorW.PrintMore
attribute [local go_sem] max2_int min2_int max_two min_two max_three min_three max_four min_four
set_option linter.unusedSimpArgs false
set_option linter.unusedVariables false
def cl6_twines.l0 : Nat → List (S132) → List (S121) → Int → Int → Option ((List (S132)))
 | 0, _, _, _, _ => none
 | k + 1, x3, x6, x7, x8 => if x8 < x7 then (if 0 ≤ x8 then (if x8 < (x6.length : Int) then (if x3.length < 4398046511104 then (cl6_twines.l0 k (x3 ++ [(⟨(rd_T121 x6 x8).f0, (rd_T121 x6 x8).f1, (rd_T121 x6 x8).f2⟩ : S132)]) x6 x7 (wrap64 (x8 + 1))) else (none)) else (none)) else (none)) else (some x3)
def cl6_twines.f (k : Nat) (l0 : List (S121)) : Option ((List (S132))) := cl6_twines.l0 k ([] : List (S132)) l0 (l0.length : Int) 0
set_option maxHeartbeats 8000000 in
set_option maxRecDepth 100000 in
theorem cl6_twines.calls (k : Nat) (A0 : Option Addr) (c0 : Nat) (l0 : List (S121)) (r : List (S132)) (w : World) (hr0 : Kd.C k121 w A0 l0.length l0) (hc0 : l0.length ≤ c0) (h : cl6_twines.f k l0 = some r) :
  Calls Tryd.prog 51 #[.slice A0 l0.length c0] w fun e w' => ∃ v0_ : Value, e = .returned (v0_) ∧ Kd.R k132 132 w' w.heap.size (fun _ => True) v0_ r ∧ Below w.heap.size w w' := by
 have hu121 := Tryd.underlying121
 have HR0 := Z0.mk hr0
 have HC0 := Z0.mk hc0
 clear hr0 hc0
 have HB := Z0.mk (Below.refl w.heap.size w)
 have H : (cl6_twines.l0 k ([] : List (S132)) l0 (l0.length : Int) 0) = some r := h
 clear h
 have H' := Z0.mk H
 clear H
 go_enter Tryd.func51, Tryd.ntmps51
 go_wp2
 go_loopg [3, 8] k (fun kq v3 v8 w' => ∃ (x3_1 : List (S132)) (x8_1 : Int), v8 = .int .i64 x8_1 ∧ Z0 (cl6_twines.l0 kq x3_1 l0 (l0.length : Int) x8_1 = some r) ∧ Z0 (kq ≤ k) ∧ Z0 (Kd.R k132 132 w' w.heap.size (fun _ => True) v3 x3_1) ∧ Z0 (Below w.heap.size w w'))
 case atStart => exact ⟨(([] : List (S132))), (0), (by first | rfl | (simp; done) | (simp [*]; done)), H', ⟨Nat.le_refl _⟩, ⟨by first | exact Kd.R_nil _ _ _ _ _ | exact Kd.N_nil _ _ _ _ _ | exact Kd.V_nil _ _ _ _ _ | exact Kd.Q_nil _ _ _ _ _ | exact Kd.S_nil _ _ _ _ _⟩, ⟨by repeat (first | (with_reducible first | exact HB.out | apply bwA | apply bwN | apply bw1) | exact HB.out)⟩⟩
 case round =>
  clear H';obtain ⟨x3_1, x8_1, rfl, HA, HK1, HO_3, HB⟩ := hrel;cases gk with
  | zero => exact absurd HA.out (by simp [cl6_twines.l0])
  | succ k1 =>
   have H := HA.out;clear HA;simp only [cl6_twines.l0] at H;by_cases c2 : x8_1 < (l0.length : Int)
   ·rw [if_pos c2] at H;have c2b0 : decide (x8_1 < (l0.length : Int)) = true := decide_eq_true c2;clear c2;by_cases c3 : 0 ≤ x8_1
    ·rw [if_pos c3] at H;have c3b0 : decide (0 ≤ x8_1) = true := decide_eq_true c3;clear c3;by_cases c4 : x8_1 < (l0.length : Int)
     ·rw [if_pos c4] at H;have c4b0 : decide (x8_1 < (l0.length : Int)) = true := decide_eq_true c4;clear c4;by_cases c5 : x3_1.length < 4398046511104
      ·rw [if_pos c5] at H;have LMc5 := Z0.mk c5;clear c5;obtain ⟨y468, hy468⟩ : ∃ y_ : List (S132), y_ = (x3_1 ++ [(⟨(rd_T121 l0 x8_1).f0, (rd_T121 l0 x8_1).f1, (rd_T121 l0 x8_1).f2⟩ : S132)]) := ⟨_, rfl⟩;replace H : (cl6_twines.l0 k1 y468 l0 (l0.length : Int) (wrap64 (x8_1 + 1))) = some r := by first | (rw [hy468]; with_reducible exact H) | (have H2_ := (Option.bind_some _ _).symm.trans H; rw [hy468]; with_reducible exact H2_) | (have H2_ := (Option.bind_some _ _).symm.trans H; with_reducible exact H2_) | with_reducible exact H | (rw [hy468]; exact H) | exact H
       have Ny468 := Z0.mk hy468;clear hy468;have H' := Z0.mk H;clear H;have p466 : 0 ≤ (x8_1 : Int) := of_decide_eq_true (by first | (with_reducible assumption) | assumption);have q466 : x8_1 < (l0.length : Int) := of_decide_eq_true (by first | (with_reducible assumption) | assumption);obtain ⟨ad466, e466, hx466_0, hx466_1, hx466_2⟩ := at_T121 HR0.out x8_1 p466 q466;cases e466;replace hx466_0 := (HB.out.cell (World.block_lt_of_cell? w _ hx466_0)).trans hx466_0
       replace hx466_1 := (HB.out.cell (World.block_lt_of_cell? w _ hx466_1)).trans hx466_1
       replace hx466_2 := (HB.out.cell (World.block_lt_of_cell? w _ hx466_2)).trans hx466_2
       replace p466 := eq_true p466
       replace q466 := eq_true q466
       go_wp2_with (first | ((with_reducible refine gtD (N := 5) rfl ?_); refine bxE ?hg (N := 5) ?hd (cs := #[.string (⟨#[]⟩ : ByteArray), .int .i64 0, .int .i64 0]) (t := 121) ?hr ?_; (case hd => rfl); (case hg => rfl); (case hr => first | (go_simp; done) | (go_simp; rfl)); intro gb467 hg w6 hbox hb; have n0_ := Z0.mk (Kd.R_below (by (with_reducible repeat (first | apply Kd.R_alloc | apply Kd.R_drewN | apply Kd.R_drew)); exact HO_3.out) hb); have n1_ := Z0.mk (bwT (by repeat (first | (with_reducible first | exact HB.out | apply bwA | apply bwN | apply bw1) | exact HB.out)) hb); have n2_ := Z0.mk (hbox); have n3_ := Z0.mk ((by rw [hg]; exact (bwZ (by repeat (first | (with_reducible first | exact HB.out | apply bwA | apply bwN | apply bw1) | exact HB.out))) : w.heap.size ≤ gb467)); have n4_ := Z0.mk ((by rw [hg]; exact (bwZ (by repeat (first | (with_reducible first | exact HB.out | apply bwA | apply bwN | apply bw1) | exact HB.out))) : w.heap.size ≤ gb467)); clear HO_3 HB; have HO_3 := n0_; have HB := n1_; have BK467 := n2_; have GW467 := n3_; have GE467 := n4_; clear n0_ n1_ n2_ n3_ n4_; clear hb hbox hg; have hcz7_0 : w6.cell? ⟨gb467, 0, none⟩ = some (.string (⟨#[]⟩ : ByteArray)) := (bkC BK467.out 0).trans rfl; have hcz7_1 : w6.cell? ⟨gb467, 1, none⟩ = some (.int .i64 0) := (bkC BK467.out 1).trans rfl; have hcz7_2 : w6.cell? ⟨gb467, 2, none⟩ = some (.int .i64 0) := (bkC BK467.out 2).trans rfl; have hfz7_0 := bkZ BK467.out 0; have hfz7_1 := bkZ BK467.out 1; have hfz7_2 := bkZ BK467.out 2) | ((with_reducible refine gate_builtin (b := .append) (xs := #[.tmp 12, .tmp 14]) rfl ?_); at_builtin; refine Kd.R_append k132 (w0 := w) w.heap.size rfl (.tmp 12) (.tmp 14) 81 132 (.agg #[(.string ⟨#[]⟩), (.int .i64 0), (.int .i64 0)]) 32 rfl Tryd.underlying81 info132 rfl (by decide) (by omega) u3 x3_1 (⟨(rd_T121 l0 x8_1).f0, (rd_T121 l0 x8_1).f1, (rd_T121 l0 x8_1).f2⟩ : S132) [.string ((rd_T121 l0 x8_1).f0), .int .i64 ((rd_T121 l0 x8_1).f1), .int .i64 ((rd_T121 l0 x8_1).f2)] (fun _ => True) (fun _ => False) rfl (by first | (go_simp; done) | (go_simp; rfl)) ?aP (fun _ hk => hk.elim) ?aF ?aO ?aB ?aS ?aL ?_; (case aP => exact k132_mkM _ _ _ (⟨(rd_T121 l0 x8_1).f0, (rd_T121 l0 x8_1).f1, (rd_T121 l0 x8_1).f2⟩ : S132)); (case aB => exact (by repeat (first | (with_reducible first | exact HB.out | apply bwA | apply bwN | apply bw1 | refine bwS ?_ GE467.out) | exact HB.out))); (case aF => exact (fun _ _ => trivial)); (case aO => exact (by (with_reducible repeat (first | apply Kd.R_alloc | apply Kd.R_drewN | apply Kd.R_drew)); exact Kd.R_mono (Kd.R_far (p := ⟨gb467, 2, none⟩) (Kd.R_far (p := ⟨gb467, 1, none⟩) (Kd.R_far (p := ⟨gb467, 0, none⟩) (Kd.R_types HO_3.out BK467.out (by decide)) (fun _ hk => hk.2) (.string ((rd_T121 l0 x8_1).f0))) (fun _ hk => hk.2) (.int .i64 ((rd_T121 l0 x8_1).f1))) (fun _ hk => hk.2) (.int .i64 ((rd_T121 l0 x8_1).f2))) (fun _ hk => trivial))); (case aS => exact (bwZ (by repeat (first | (with_reducible first | exact HB.out | apply bwA | apply bwN | apply bw1 | refine bwS ?_ GE467.out) | exact HB.out)))); (case aL => have := LMc5.out; omega); intro v469 w8 ho hb hg hat; rw [← Ny468.out] at ho; have n0_ := Z0.mk (blk_grown (g := gb467) (o := .cells #[.string ((rd_T121 l0 x8_1).f0), .int .i64 ((rd_T121 l0 x8_1).f1), .int .i64 ((rd_T121 l0 x8_1).f2)] 121 (0, 0)) (by (with_reducible repeat (first | refine bkN ?_ _ | refine bkD ?_ | refine bkA ?_ _)); refine bkP (cs := #[.string ((rd_T121 l0 x8_1).f0), .int .i64 ((rd_T121 l0 x8_1).f1), .int .i64 0]) ?_ 2 _ rfl; (with_reducible repeat (first | refine bkN ?_ _ | refine bkD ?_ | refine bkA ?_ _)); refine bkP (cs := #[.string ((rd_T121 l0 x8_1).f0), .int .i64 0, .int .i64 0]) ?_ 1 _ rfl; (with_reducible repeat (first | refine bkN ?_ _ | refine bkD ?_ | refine bkA ?_ _)); refine bkP (cs := #[.string (⟨#[]⟩ : ByteArray), .int .i64 0, .int .i64 0]) ?_ 0 _ rfl; (with_reducible repeat (first | refine bkN ?_ _ | refine bkD ?_ | refine bkA ?_ _)); exact BK467.out) hg (Kd.R_ne HO_3.out BK467.out (by decide))); have n1_ := Z0.mk (hb); have n2_ := Z0.mk (ho); clear BK467 HB HO_3; have BK467 := n0_; have HB := n1_; have HO470 := n2_; clear n0_ n1_ n2_; clear ho hb hg hat))
       go_roundg k1
       case measure => have := HK1.out; omega
       case rel => exact ⟨(y468), (wrap64 (x8_1 + 1)), (by first | rfl | (simp; done) | (simp [*]; done)), H', ⟨by have := HK1.out; omega⟩, ⟨by (with_reducible repeat (first | apply Kd.R_alloc | apply Kd.R_drewN | apply Kd.R_drew)); exact HO470.out⟩, ⟨by repeat (first | (with_reducible first | exact HB.out | apply bwA | apply bwN | apply bw1 | refine bwS ?_ GE467.out) | exact HB.out)⟩⟩
      ·rw [if_neg c5] at H;exact absurd H (by simp)
     ·rw [if_neg c4] at H;exact absurd H (by simp)
    ·rw [if_neg c3] at H;exact absurd H (by simp)
   ·rw [if_neg c2] at H;have c2b0 : decide (x8_1 < (l0.length : Int)) = false := decide_eq_false c2;clear c2;obtain rfl := Option.some.inj H;go_wp2
    go_ret
    exact ⟨_, by first | rfl | (simp [errW_none, errW_some] <;> rfl) | (simp [*, errW_none, errW_some] <;> rfl), by (with_reducible repeat (first | apply Kd.R_alloc | apply Kd.R_drewN | apply Kd.R_drew)); exact HO_3.out, by repeat (first | (with_reducible first | exact HB.out | apply bwA | apply bwN | apply bw1) | exact HB.out)⟩
end Go.Proofs.YtppighiaffppkaaDoor.H
end
section
namespace Go.Proofs.YtppighiaffppkaaDoor.H
open Go.RowKit Go.Proofs.YtppighiaffppkaaDoorW.PrintWords Go.Proofs.YtppighiaffppkaaDoorW.PrintLast Go.Proofs.YtppighiaffppkaaDoorW.PrintMore
attribute [local go_sem] max2_int min2_int max_two min_two max_three min_three max_four min_four
set_option linter.unusedVariables false
set_option linter.unusedSimpArgs false
mutual
def cr1_IsName.j0 : Nat → ByteArray → Bool → Option (Bool)
 | 0, _, _ => none
 | k + 1, x0, x13 => if x13 = true then (some false) else (cr1_IsName.l0 k x0 0)
def cr1_IsName.l0 : Nat → ByteArray → Int → Option (Bool)
 | 0, _, _ => none
 | k + 1, x0, x3 => if x3 < (x0.size : Int) then (if 0 ≤ x3 then (if (bt x0 x3) ≥ 97 then (if (bt x0 x3) ≤ 122 then (cr1_IsName.l0 k x0 (wrap64 (x3 + 1))) else (if (bt x0 x3) ≥ 65 then (if ((bt x0 x3) ≤ 90) then (cr1_IsName.l0 k x0 (wrap64 (x3 + 1))) else (if x3 = 0 then (some false) else (if (bt x0 x3) = 95 then (cr1_IsName.l0 k x0 (wrap64 (x3 + 1))) else (if (bt x0 x3) < 48 then (some false) else (if (bt x0 x3) > 57 then (some false) else (cr1_IsName.l0 k x0 (wrap64 (x3 + 1)))))))) else (if x3 = 0 then (some false) else (if (bt x0 x3) = 95 then (cr1_IsName.l0 k x0 (wrap64 (x3 + 1))) else (if (bt x0 x3) < 48 then (some false) else (if (bt x0 x3) > 57 then (some false) else (cr1_IsName.l0 k x0 (wrap64 (x3 + 1))))))))) else (if (bt x0 x3) ≥ 65 then (if ((bt x0 x3) ≤ 90) then (cr1_IsName.l0 k x0 (wrap64 (x3 + 1))) else (if x3 = 0 then (some false) else (if (bt x0 x3) = 95 then (cr1_IsName.l0 k x0 (wrap64 (x3 + 1))) else (if (bt x0 x3) < 48 then (some false) else (if (bt x0 x3) > 57 then (some false) else (cr1_IsName.l0 k x0 (wrap64 (x3 + 1)))))))) else (if x3 = 0 then (some false) else (if (bt x0 x3) = 95 then (cr1_IsName.l0 k x0 (wrap64 (x3 + 1))) else (if (bt x0 x3) < 48 then (some false) else (if (bt x0 x3) > 57 then (some false) else (cr1_IsName.l0 k x0 (wrap64 (x3 + 1))))))))) else (none)) else (some true)
end
def cr1_IsName.f (k : Nat) (a0 : ByteArray) : Option (Bool) := if (a0.size : Int) = 0 then (cr1_IsName.j0 k a0 true) else (cr1_IsName.j0 k a0 (decide ((a0.size : Int) > 24)))
set_option maxHeartbeats 8000000 in
set_option maxRecDepth 100000 in
theorem cr1_IsName.calls (k : Nat) (a0 : ByteArray) (r : Bool) (w : World) (h : cr1_IsName.f k a0 = some r) :
  Calls Tryd.prog 87 #[.string a0] w fun e w' => e = .returned (.bool r) ∧ Drawn0 w w' := by
 have H : (if (a0.size : Int) = 0 then (cr1_IsName.j0 k a0 true) else (cr1_IsName.j0 k a0 (decide ((a0.size : Int) > 24)))) = some r := h
 clear h
 have HC2 := Z0.mk H
 clear H
 go_enter Tryd.func87, Tryd.ntmps87
 go_upto_region 1 with (fail)
 go_cut [13] (fun v13 wc => ∃ (kq : Nat) (x13_1 : Bool), v13 = .bool x13_1 ∧ Z0 (cr1_IsName.j0 kq a0 x13_1 = some r) ∧ Z0 (kq ≤ k) ∧ Drawn0 w wc)
 case first =>
  have H := HC2.out;clear HC2;by_cases c3 : (a0.size : Int) = 0
  ·rw [if_pos c3] at H;have c3b0 : ((a0.size : Int) == 0) = true := beq_iff_eq.mpr c3;have c3b1 : ((a0.size : Int) != 0) = false := bne_eq_false_iff_eq.mpr c3;clear c3;(first | rw [c3b0] | (simp only [i64_w, i32_w]; rw [c3b0]) | skip)
   have H' := Z0.mk H;clear H;go_wp2
   go_meet
   case rel => exact ⟨_, (true), (by first | rfl | (simp; done) | (simp [*]; done)), H', ⟨by first | omega | exact Nat.le_refl _⟩, by repeat (first | exact Drawn0.refl _ | apply Drawn0.step)⟩
  ·rw [if_neg c3] at H;have c3b0 : ((a0.size : Int) == 0) = false := beq_eq_false_iff_ne.mpr c3;have c3b1 : ((a0.size : Int) != 0) = true := bne_iff_ne.mpr c3;(first | rw [c3b0] | (simp only [i64_w, i32_w]; rw [c3b0]) | skip)
   have H' := Z0.mk H;clear H;go_wp2
   go_meet
   case rel => exact ⟨_, (decide ((a0.size : Int) > 24)), (by first | rfl | (simp; done) | (simp [*]; done)), H', ⟨by first | omega | exact Nat.le_refl _⟩, by repeat (first | exact Drawn0.refl _ | apply Drawn0.step)⟩
 case rest =>
  clear HC2;try clear p2
  try clear c3
  try clear c3b0
  try clear c3b1
  obtain ⟨kq, x13_1, rfl, HA, HJ1, ⟨mc1, rfl⟩⟩ := hcut;cases kq with
  | zero => exact absurd HA.out (by simp [cr1_IsName.j0])
  | succ kj1 =>
   have H := HA.out;clear HA;simp only [cr1_IsName.j0] at H;by_cases c4 : x13_1 = true
   ·subst c4;have H1 : (some false) = some r := by rw [if_pos rfl] at H; exact H
    clear H;have H := H1;clear H1;obtain rfl := Option.some.inj H;go_wp2
    go_ret
    exact ⟨by first | rfl | (simp; done) | (simp [*]; done), by repeat (first | exact Drawn0.refl _ | apply Drawn0.step)⟩
   ·replace c4 := Bool.eq_false_iff.mpr c4
    subst c4;have H1 : (cr1_IsName.l0 kj1 a0 0) = some r := by rw [if_neg (show ¬ (false = true) by decide)] at H; exact H
    clear H;have H := H1;clear H1;have H' := Z0.mk H;clear H;go_wp2
    go_loopg [3] kj1 (fun kq v3 w' => ∃ (x3_2 : Int), v3 = .int .i64 x3_2 ∧ Z0 (cr1_IsName.l0 kq a0 x3_2 = some r) ∧ Z0 (kq ≤ kj1) ∧ Drawn0 w w')
    case atStart => exact ⟨(0), (by first | rfl | (simp; done) | (simp [*]; done)), H', ⟨Nat.le_refl _⟩, by repeat (first | exact Drawn0.refl _ | apply Drawn0.step)⟩
    case round =>
     clear H';try clear c1
     try clear p2
     try clear c3
     try clear c3b0
     try clear c3b1
     try clear c4
     try clear p2
     obtain ⟨x3_2, rfl, HA, HK2, ⟨m2, rfl⟩⟩ := hrel;cases gk with
     | zero => exact absurd HA.out (by simp [cr1_IsName.l0])
     | succ k2 =>
      have H := HA.out;clear HA;simp only [cr1_IsName.l0] at H;by_cases c5 : x3_2 < (a0.size : Int)
      ·rw [if_pos c5] at H;have c5b0 : decide (x3_2 < (a0.size : Int)) = true := decide_eq_true c5;clear c5;by_cases c6 : 0 ≤ x3_2
       ·rw [if_pos c6] at H;have c6b0 : decide (0 ≤ x3_2) = true := decide_eq_true c6;clear c6;by_cases c8 : (bt a0 x3_2) ≥ 97
        ·rw [if_pos c8] at H;have c8b0 : decide (97 ≤ (bt a0 x3_2)) = true := decide_eq_true c8;clear c8;by_cases c9 : (bt a0 x3_2) ≤ 122
         ·rw [if_pos c9] at H;have c9b0 : decide ((bt a0 x3_2) ≤ 122) = true := decide_eq_true c9;clear c9;have H' := Z0.mk H;clear H;have p7 : 0 ≤ (x3_2 : Int) := of_decide_eq_true (by first | (with_reducible assumption) | assumption);have q7 : x3_2 < (a0.size : Int) := of_decide_eq_true (by first | (with_reducible assumption) | assumption);have hx7 := bt_at a0 x3_2;replace p7 := eq_true p7
          replace q7 := eq_true q7
          go_wp2
          go_roundg k2
          case measure => have := HJ1.out; have := HK2.out; omega
          case rel => exact ⟨(wrap64 (x3_2 + 1)), (by first | rfl | (simp; done) | (simp [*]; done)), H', ⟨by have := HJ1.out; have := HK2.out; omega⟩, by repeat (first | exact Drawn0.refl _ | apply Drawn0.step)⟩
         ·rw [if_neg c9] at H;have c9b0 : decide ((bt a0 x3_2) ≤ 122) = false := decide_eq_false c9;clear c9;by_cases c10 : (bt a0 x3_2) ≥ 65
          ·rw [if_pos c10] at H;have c10b0 : decide (65 ≤ (bt a0 x3_2)) = true := decide_eq_true c10;clear c10;by_cases c11 : ((bt a0 x3_2) ≤ 90)
           ·rw [if_pos c11] at H;have c11b0 : decide ((bt a0 x3_2) ≤ 90) = true := decide_eq_true c11;clear c11;have H' := Z0.mk H;clear H;have p7 : 0 ≤ (x3_2 : Int) := of_decide_eq_true (by first | (with_reducible assumption) | assumption);have q7 : x3_2 < (a0.size : Int) := of_decide_eq_true (by first | (with_reducible assumption) | assumption);have hx7 := bt_at a0 x3_2;replace p7 := eq_true p7
            replace q7 := eq_true q7
            go_wp2
            go_roundg k2
            case measure => have := HJ1.out; have := HK2.out; omega
            case rel => exact ⟨(wrap64 (x3_2 + 1)), (by first | rfl | (simp; done) | (simp [*]; done)), H', ⟨by have := HJ1.out; have := HK2.out; omega⟩, by repeat (first | exact Drawn0.refl _ | apply Drawn0.step)⟩
           ·rw [if_neg c11] at H;have c11b0 : decide ((bt a0 x3_2) ≤ 90) = false := decide_eq_false c11;clear c11;by_cases c12 : x3_2 = 0
            ·rw [if_pos c12] at H;have c12b0 : (x3_2 == 0) = true := beq_iff_eq.mpr c12;have c12b1 : (x3_2 != 0) = false := bne_eq_false_iff_eq.mpr c12;clear c12;obtain rfl := Option.some.inj H;have p7 : 0 ≤ (x3_2 : Int) := of_decide_eq_true (by first | (with_reducible assumption) | assumption);have q7 : x3_2 < (a0.size : Int) := of_decide_eq_true (by first | (with_reducible assumption) | assumption);have hx7 := bt_at a0 x3_2;replace p7 := eq_true p7
             replace q7 := eq_true q7
             go_wp2
             go_ret
             exact ⟨by first | rfl | (simp; done) | (simp [*]; done), by repeat (first | exact Drawn0.refl _ | apply Drawn0.step)⟩
            ·rw [if_neg c12] at H;have c12b0 : (x3_2 == 0) = false := beq_eq_false_iff_ne.mpr c12;have c12b1 : (x3_2 != 0) = true := bne_iff_ne.mpr c12;by_cases c13 : (bt a0 x3_2) = 95
             ·rw [if_pos c13] at H;have c13b0 : ((bt a0 x3_2) == 95) = true := beq_iff_eq.mpr c13;have c13b1 : ((bt a0 x3_2) != 95) = false := bne_eq_false_iff_eq.mpr c13;clear c13;have H' := Z0.mk H;clear H;have p7 : 0 ≤ (x3_2 : Int) := of_decide_eq_true (by first | (with_reducible assumption) | assumption);have q7 : x3_2 < (a0.size : Int) := of_decide_eq_true (by first | (with_reducible assumption) | assumption);have hx7 := bt_at a0 x3_2;replace p7 := eq_true p7
              replace q7 := eq_true q7
              go_wp2
              go_roundg k2
              case measure => have := HJ1.out; have := HK2.out; omega
              case rel => exact ⟨(wrap64 (x3_2 + 1)), (by first | rfl | (simp; done) | (simp [*]; done)), H', ⟨by have := HJ1.out; have := HK2.out; omega⟩, by repeat (first | exact Drawn0.refl _ | apply Drawn0.step)⟩
             ·rw [if_neg c13] at H;have c13b0 : ((bt a0 x3_2) == 95) = false := beq_eq_false_iff_ne.mpr c13;have c13b1 : ((bt a0 x3_2) != 95) = true := bne_iff_ne.mpr c13;by_cases c14 : (bt a0 x3_2) < 48
              ·rw [if_pos c14] at H;have c14b0 : decide ((bt a0 x3_2) < 48) = true := decide_eq_true c14;clear c14;obtain rfl := Option.some.inj H;have p7 : 0 ≤ (x3_2 : Int) := of_decide_eq_true (by first | (with_reducible assumption) | assumption);have q7 : x3_2 < (a0.size : Int) := of_decide_eq_true (by first | (with_reducible assumption) | assumption);have hx7 := bt_at a0 x3_2;replace p7 := eq_true p7
               replace q7 := eq_true q7
               go_wp2
               go_ret
               exact ⟨by first | rfl | (simp; done) | (simp [*]; done), by repeat (first | exact Drawn0.refl _ | apply Drawn0.step)⟩
              ·rw [if_neg c14] at H;have c14b0 : decide ((bt a0 x3_2) < 48) = false := decide_eq_false c14;clear c14;by_cases c15 : (bt a0 x3_2) > 57
               ·rw [if_pos c15] at H;have c15b0 : decide (57 < (bt a0 x3_2)) = true := decide_eq_true c15;clear c15;obtain rfl := Option.some.inj H;have p7 : 0 ≤ (x3_2 : Int) := of_decide_eq_true (by first | (with_reducible assumption) | assumption);have q7 : x3_2 < (a0.size : Int) := of_decide_eq_true (by first | (with_reducible assumption) | assumption);have hx7 := bt_at a0 x3_2;replace p7 := eq_true p7
                replace q7 := eq_true q7
                go_wp2
                go_ret
                exact ⟨by first | rfl | (simp; done) | (simp [*]; done), by repeat (first | exact Drawn0.refl _ | apply Drawn0.step)⟩
               ·rw [if_neg c15] at H;have c15b0 : decide (57 < (bt a0 x3_2)) = false := decide_eq_false c15;clear c15;have H' := Z0.mk H;clear H;have p7 : 0 ≤ (x3_2 : Int) := of_decide_eq_true (by first | (with_reducible assumption) | assumption);have q7 : x3_2 < (a0.size : Int) := of_decide_eq_true (by first | (with_reducible assumption) | assumption);have hx7 := bt_at a0 x3_2;replace p7 := eq_true p7
                replace q7 := eq_true q7
                go_wp2
                go_roundg k2
                case measure => have := HJ1.out; have := HK2.out; omega
                case rel => exact ⟨(wrap64 (x3_2 + 1)), (by first | rfl | (simp; done) | (simp [*]; done)), H', ⟨by have := HJ1.out; have := HK2.out; omega⟩, by repeat (first | exact Drawn0.refl _ | apply Drawn0.step)⟩
          ·rw [if_neg c10] at H;have c10b0 : decide (65 ≤ (bt a0 x3_2)) = false := decide_eq_false c10;clear c10;by_cases c16 : x3_2 = 0
           ·rw [if_pos c16] at H;have c16b0 : (x3_2 == 0) = true := beq_iff_eq.mpr c16;have c16b1 : (x3_2 != 0) = false := bne_eq_false_iff_eq.mpr c16;clear c16;obtain rfl := Option.some.inj H;have p7 : 0 ≤ (x3_2 : Int) := of_decide_eq_true (by first | (with_reducible assumption) | assumption);have q7 : x3_2 < (a0.size : Int) := of_decide_eq_true (by first | (with_reducible assumption) | assumption);have hx7 := bt_at a0 x3_2;replace p7 := eq_true p7
            replace q7 := eq_true q7
            go_wp2
            go_ret
            exact ⟨by first | rfl | (simp; done) | (simp [*]; done), by repeat (first | exact Drawn0.refl _ | apply Drawn0.step)⟩
           ·rw [if_neg c16] at H;have c16b0 : (x3_2 == 0) = false := beq_eq_false_iff_ne.mpr c16;have c16b1 : (x3_2 != 0) = true := bne_iff_ne.mpr c16;by_cases c17 : (bt a0 x3_2) = 95
            ·rw [if_pos c17] at H;have c17b0 : ((bt a0 x3_2) == 95) = true := beq_iff_eq.mpr c17;have c17b1 : ((bt a0 x3_2) != 95) = false := bne_eq_false_iff_eq.mpr c17;clear c17;have H' := Z0.mk H;clear H;have p7 : 0 ≤ (x3_2 : Int) := of_decide_eq_true (by first | (with_reducible assumption) | assumption);have q7 : x3_2 < (a0.size : Int) := of_decide_eq_true (by first | (with_reducible assumption) | assumption);have hx7 := bt_at a0 x3_2;replace p7 := eq_true p7
             replace q7 := eq_true q7
             go_wp2
             go_roundg k2
             case measure => have := HJ1.out; have := HK2.out; omega
             case rel => exact ⟨(wrap64 (x3_2 + 1)), (by first | rfl | (simp; done) | (simp [*]; done)), H', ⟨by have := HJ1.out; have := HK2.out; omega⟩, by repeat (first | exact Drawn0.refl _ | apply Drawn0.step)⟩
            ·rw [if_neg c17] at H;have c17b0 : ((bt a0 x3_2) == 95) = false := beq_eq_false_iff_ne.mpr c17;have c17b1 : ((bt a0 x3_2) != 95) = true := bne_iff_ne.mpr c17;by_cases c18 : (bt a0 x3_2) < 48
             ·rw [if_pos c18] at H;have c18b0 : decide ((bt a0 x3_2) < 48) = true := decide_eq_true c18;clear c18;obtain rfl := Option.some.inj H;have p7 : 0 ≤ (x3_2 : Int) := of_decide_eq_true (by first | (with_reducible assumption) | assumption);have q7 : x3_2 < (a0.size : Int) := of_decide_eq_true (by first | (with_reducible assumption) | assumption);have hx7 := bt_at a0 x3_2;replace p7 := eq_true p7
              replace q7 := eq_true q7
              go_wp2
              go_ret
              exact ⟨by first | rfl | (simp; done) | (simp [*]; done), by repeat (first | exact Drawn0.refl _ | apply Drawn0.step)⟩
             ·rw [if_neg c18] at H;have c18b0 : decide ((bt a0 x3_2) < 48) = false := decide_eq_false c18;clear c18;by_cases c19 : (bt a0 x3_2) > 57
              ·rw [if_pos c19] at H;have c19b0 : decide (57 < (bt a0 x3_2)) = true := decide_eq_true c19;clear c19;obtain rfl := Option.some.inj H;have p7 : 0 ≤ (x3_2 : Int) := of_decide_eq_true (by first | (with_reducible assumption) | assumption);have q7 : x3_2 < (a0.size : Int) := of_decide_eq_true (by first | (with_reducible assumption) | assumption);have hx7 := bt_at a0 x3_2;replace p7 := eq_true p7
               replace q7 := eq_true q7
               go_wp2
               go_ret
               exact ⟨by first | rfl | (simp; done) | (simp [*]; done), by repeat (first | exact Drawn0.refl _ | apply Drawn0.step)⟩
              ·rw [if_neg c19] at H;have c19b0 : decide (57 < (bt a0 x3_2)) = false := decide_eq_false c19;clear c19;have H' := Z0.mk H;clear H;have p7 : 0 ≤ (x3_2 : Int) := of_decide_eq_true (by first | (with_reducible assumption) | assumption);have q7 : x3_2 < (a0.size : Int) := of_decide_eq_true (by first | (with_reducible assumption) | assumption);have hx7 := bt_at a0 x3_2;replace p7 := eq_true p7
               replace q7 := eq_true q7
               go_wp2
               go_roundg k2
               case measure => have := HJ1.out; have := HK2.out; omega
               case rel => exact ⟨(wrap64 (x3_2 + 1)), (by first | rfl | (simp; done) | (simp [*]; done)), H', ⟨by have := HJ1.out; have := HK2.out; omega⟩, by repeat (first | exact Drawn0.refl _ | apply Drawn0.step)⟩
        ·rw [if_neg c8] at H;have c8b0 : decide (97 ≤ (bt a0 x3_2)) = false := decide_eq_false c8;clear c8;by_cases c20 : (bt a0 x3_2) ≥ 65
         ·rw [if_pos c20] at H;have c20b0 : decide (65 ≤ (bt a0 x3_2)) = true := decide_eq_true c20;clear c20;by_cases c21 : ((bt a0 x3_2) ≤ 90)
          ·rw [if_pos c21] at H;have c21b0 : decide ((bt a0 x3_2) ≤ 90) = true := decide_eq_true c21;clear c21;have H' := Z0.mk H;clear H;have p7 : 0 ≤ (x3_2 : Int) := of_decide_eq_true (by first | (with_reducible assumption) | assumption);have q7 : x3_2 < (a0.size : Int) := of_decide_eq_true (by first | (with_reducible assumption) | assumption);have hx7 := bt_at a0 x3_2;replace p7 := eq_true p7
           replace q7 := eq_true q7
           go_wp2
           go_roundg k2
           case measure => have := HJ1.out; have := HK2.out; omega
           case rel => exact ⟨(wrap64 (x3_2 + 1)), (by first | rfl | (simp; done) | (simp [*]; done)), H', ⟨by have := HJ1.out; have := HK2.out; omega⟩, by repeat (first | exact Drawn0.refl _ | apply Drawn0.step)⟩
          ·rw [if_neg c21] at H;have c21b0 : decide ((bt a0 x3_2) ≤ 90) = false := decide_eq_false c21;clear c21;by_cases c22 : x3_2 = 0
           ·rw [if_pos c22] at H;have c22b0 : (x3_2 == 0) = true := beq_iff_eq.mpr c22;have c22b1 : (x3_2 != 0) = false := bne_eq_false_iff_eq.mpr c22;clear c22;obtain rfl := Option.some.inj H;have p7 : 0 ≤ (x3_2 : Int) := of_decide_eq_true (by first | (with_reducible assumption) | assumption);have q7 : x3_2 < (a0.size : Int) := of_decide_eq_true (by first | (with_reducible assumption) | assumption);have hx7 := bt_at a0 x3_2;replace p7 := eq_true p7
            replace q7 := eq_true q7
            go_wp2
            go_ret
            exact ⟨by first | rfl | (simp; done) | (simp [*]; done), by repeat (first | exact Drawn0.refl _ | apply Drawn0.step)⟩
           ·rw [if_neg c22] at H;have c22b0 : (x3_2 == 0) = false := beq_eq_false_iff_ne.mpr c22;have c22b1 : (x3_2 != 0) = true := bne_iff_ne.mpr c22;by_cases c23 : (bt a0 x3_2) = 95
            ·rw [if_pos c23] at H;have c23b0 : ((bt a0 x3_2) == 95) = true := beq_iff_eq.mpr c23;have c23b1 : ((bt a0 x3_2) != 95) = false := bne_eq_false_iff_eq.mpr c23;clear c23;have H' := Z0.mk H;clear H;have p7 : 0 ≤ (x3_2 : Int) := of_decide_eq_true (by first | (with_reducible assumption) | assumption);have q7 : x3_2 < (a0.size : Int) := of_decide_eq_true (by first | (with_reducible assumption) | assumption);have hx7 := bt_at a0 x3_2;replace p7 := eq_true p7
             replace q7 := eq_true q7
             go_wp2
             go_roundg k2
             case measure => have := HJ1.out; have := HK2.out; omega
             case rel => exact ⟨(wrap64 (x3_2 + 1)), (by first | rfl | (simp; done) | (simp [*]; done)), H', ⟨by have := HJ1.out; have := HK2.out; omega⟩, by repeat (first | exact Drawn0.refl _ | apply Drawn0.step)⟩
            ·rw [if_neg c23] at H;have c23b0 : ((bt a0 x3_2) == 95) = false := beq_eq_false_iff_ne.mpr c23;have c23b1 : ((bt a0 x3_2) != 95) = true := bne_iff_ne.mpr c23;by_cases c24 : (bt a0 x3_2) < 48
             ·rw [if_pos c24] at H;have c24b0 : decide ((bt a0 x3_2) < 48) = true := decide_eq_true c24;clear c24;obtain rfl := Option.some.inj H;have p7 : 0 ≤ (x3_2 : Int) := of_decide_eq_true (by first | (with_reducible assumption) | assumption);have q7 : x3_2 < (a0.size : Int) := of_decide_eq_true (by first | (with_reducible assumption) | assumption);have hx7 := bt_at a0 x3_2;replace p7 := eq_true p7
              replace q7 := eq_true q7
              go_wp2
              go_ret
              exact ⟨by first | rfl | (simp; done) | (simp [*]; done), by repeat (first | exact Drawn0.refl _ | apply Drawn0.step)⟩
             ·rw [if_neg c24] at H;have c24b0 : decide ((bt a0 x3_2) < 48) = false := decide_eq_false c24;clear c24;by_cases c25 : (bt a0 x3_2) > 57
              ·rw [if_pos c25] at H;have c25b0 : decide (57 < (bt a0 x3_2)) = true := decide_eq_true c25;clear c25;obtain rfl := Option.some.inj H;have p7 : 0 ≤ (x3_2 : Int) := of_decide_eq_true (by first | (with_reducible assumption) | assumption);have q7 : x3_2 < (a0.size : Int) := of_decide_eq_true (by first | (with_reducible assumption) | assumption);have hx7 := bt_at a0 x3_2;replace p7 := eq_true p7
               replace q7 := eq_true q7
               go_wp2
               go_ret
               exact ⟨by first | rfl | (simp; done) | (simp [*]; done), by repeat (first | exact Drawn0.refl _ | apply Drawn0.step)⟩
              ·rw [if_neg c25] at H;have c25b0 : decide (57 < (bt a0 x3_2)) = false := decide_eq_false c25;clear c25;have H' := Z0.mk H;clear H;have p7 : 0 ≤ (x3_2 : Int) := of_decide_eq_true (by first | (with_reducible assumption) | assumption);have q7 : x3_2 < (a0.size : Int) := of_decide_eq_true (by first | (with_reducible assumption) | assumption);have hx7 := bt_at a0 x3_2;replace p7 := eq_true p7
               replace q7 := eq_true q7
               go_wp2
               go_roundg k2
               case measure => have := HJ1.out; have := HK2.out; omega
               case rel => exact ⟨(wrap64 (x3_2 + 1)), (by first | rfl | (simp; done) | (simp [*]; done)), H', ⟨by have := HJ1.out; have := HK2.out; omega⟩, by repeat (first | exact Drawn0.refl _ | apply Drawn0.step)⟩
         ·rw [if_neg c20] at H;have c20b0 : decide (65 ≤ (bt a0 x3_2)) = false := decide_eq_false c20;clear c20;by_cases c26 : x3_2 = 0
          ·rw [if_pos c26] at H;have c26b0 : (x3_2 == 0) = true := beq_iff_eq.mpr c26;have c26b1 : (x3_2 != 0) = false := bne_eq_false_iff_eq.mpr c26;clear c26;obtain rfl := Option.some.inj H;have p7 : 0 ≤ (x3_2 : Int) := of_decide_eq_true (by first | (with_reducible assumption) | assumption);have q7 : x3_2 < (a0.size : Int) := of_decide_eq_true (by first | (with_reducible assumption) | assumption);have hx7 := bt_at a0 x3_2;replace p7 := eq_true p7
           replace q7 := eq_true q7
           go_wp2
           go_ret
           exact ⟨by first | rfl | (simp; done) | (simp [*]; done), by repeat (first | exact Drawn0.refl _ | apply Drawn0.step)⟩
          ·rw [if_neg c26] at H;have c26b0 : (x3_2 == 0) = false := beq_eq_false_iff_ne.mpr c26;have c26b1 : (x3_2 != 0) = true := bne_iff_ne.mpr c26;by_cases c27 : (bt a0 x3_2) = 95
           ·rw [if_pos c27] at H;have c27b0 : ((bt a0 x3_2) == 95) = true := beq_iff_eq.mpr c27;have c27b1 : ((bt a0 x3_2) != 95) = false := bne_eq_false_iff_eq.mpr c27;clear c27;have H' := Z0.mk H;clear H;have p7 : 0 ≤ (x3_2 : Int) := of_decide_eq_true (by first | (with_reducible assumption) | assumption);have q7 : x3_2 < (a0.size : Int) := of_decide_eq_true (by first | (with_reducible assumption) | assumption);have hx7 := bt_at a0 x3_2;replace p7 := eq_true p7
            replace q7 := eq_true q7
            go_wp2
            go_roundg k2
            case measure => have := HJ1.out; have := HK2.out; omega
            case rel => exact ⟨(wrap64 (x3_2 + 1)), (by first | rfl | (simp; done) | (simp [*]; done)), H', ⟨by have := HJ1.out; have := HK2.out; omega⟩, by repeat (first | exact Drawn0.refl _ | apply Drawn0.step)⟩
           ·rw [if_neg c27] at H;have c27b0 : ((bt a0 x3_2) == 95) = false := beq_eq_false_iff_ne.mpr c27;have c27b1 : ((bt a0 x3_2) != 95) = true := bne_iff_ne.mpr c27;by_cases c28 : (bt a0 x3_2) < 48
            ·rw [if_pos c28] at H;have c28b0 : decide ((bt a0 x3_2) < 48) = true := decide_eq_true c28;clear c28;obtain rfl := Option.some.inj H;have p7 : 0 ≤ (x3_2 : Int) := of_decide_eq_true (by first | (with_reducible assumption) | assumption);have q7 : x3_2 < (a0.size : Int) := of_decide_eq_true (by first | (with_reducible assumption) | assumption);have hx7 := bt_at a0 x3_2;replace p7 := eq_true p7
             replace q7 := eq_true q7
             go_wp2
             go_ret
             exact ⟨by first | rfl | (simp; done) | (simp [*]; done), by repeat (first | exact Drawn0.refl _ | apply Drawn0.step)⟩
            ·rw [if_neg c28] at H;have c28b0 : decide ((bt a0 x3_2) < 48) = false := decide_eq_false c28;clear c28;by_cases c29 : (bt a0 x3_2) > 57
             ·rw [if_pos c29] at H;have c29b0 : decide (57 < (bt a0 x3_2)) = true := decide_eq_true c29;clear c29;obtain rfl := Option.some.inj H;have p7 : 0 ≤ (x3_2 : Int) := of_decide_eq_true (by first | (with_reducible assumption) | assumption);have q7 : x3_2 < (a0.size : Int) := of_decide_eq_true (by first | (with_reducible assumption) | assumption);have hx7 := bt_at a0 x3_2;replace p7 := eq_true p7
              replace q7 := eq_true q7
              go_wp2
              go_ret
              exact ⟨by first | rfl | (simp; done) | (simp [*]; done), by repeat (first | exact Drawn0.refl _ | apply Drawn0.step)⟩
             ·rw [if_neg c29] at H;have c29b0 : decide (57 < (bt a0 x3_2)) = false := decide_eq_false c29;clear c29;have H' := Z0.mk H;clear H;have p7 : 0 ≤ (x3_2 : Int) := of_decide_eq_true (by first | (with_reducible assumption) | assumption);have q7 : x3_2 < (a0.size : Int) := of_decide_eq_true (by first | (with_reducible assumption) | assumption);have hx7 := bt_at a0 x3_2;replace p7 := eq_true p7
              replace q7 := eq_true q7
              go_wp2
              go_roundg k2
              case measure => have := HJ1.out; have := HK2.out; omega
              case rel => exact ⟨(wrap64 (x3_2 + 1)), (by first | rfl | (simp; done) | (simp [*]; done)), H', ⟨by have := HJ1.out; have := HK2.out; omega⟩, by repeat (first | exact Drawn0.refl _ | apply Drawn0.step)⟩
       ·rw [if_neg c6] at H;exact absurd H (by simp)
      ·rw [if_neg c5] at H;have c5b0 : decide (x3_2 < (a0.size : Int)) = false := decide_eq_false c5;clear c5;obtain rfl := Option.some.inj H;go_wp2
       go_ret
       exact ⟨by first | rfl | (simp; done) | (simp [*]; done), by repeat (first | exact Drawn0.refl _ | apply Drawn0.step)⟩
end Go.Proofs.YtppighiaffppkaaDoor.H
end
section
namespace Go.Proofs.YtppighiaffppkaaDoor.H
open Go.RowKit Go.Proofs.YtppighiaffppkaaDoorW.PrintWords Go.Proofs.YtppighiaffppkaaDoorW.PrintLast Go.Proofs.YtppighiaffppkaaDoorW.PrintMore
attribute [local go_sem] max2_int min2_int max_two min_two max_three min_three max_four min_four
set_option linter.unusedSimpArgs false
set_option linter.unusedVariables false
def cr6_TwineAt.l0 : Nat → List (S121) → ByteArray → Int → Option (Int)
 | 0, _, _, _ => none
 | k + 1, x0, x1, x5 => if x5 < (x0.length : Int) then (if 0 ≤ x5 then (if ((rd_T121 x0 x5).f0).toList = x1.toList then (some x5) else (cr6_TwineAt.l0 k x0 x1 (wrap64 (x5 + 1)))) else (none)) else (some (-1))
def cr6_TwineAt.f (k : Nat) (l0 : List (S121)) (a1 : ByteArray) : Option (Int) := cr6_TwineAt.l0 k l0 a1 0
set_option maxHeartbeats 8000000 in
set_option maxRecDepth 100000 in
theorem cr6_TwineAt.calls (k : Nat) (A0 : Option Addr) (c0 : Nat) (l0 : List (S121)) (a1 : ByteArray) (r : Int) (w : World) (hr0 : Kd.C k121 w A0 l0.length l0) (hc0 : l0.length ≤ c0) (h : cr6_TwineAt.f k l0 a1 = some r) :
  Calls Tryd.prog 88 #[.slice A0 l0.length c0, .string a1] w fun e w' => e = .returned (.int .i64 r) ∧ Drawn0 w w' := by
 have HR0 := Z0.mk hr0
 have HC0 := Z0.mk hc0
 clear hr0 hc0
 have H : (cr6_TwineAt.l0 k l0 a1 0) = some r := h
 clear h
 have H' := Z0.mk H
 clear H
 go_enter Tryd.func88, Tryd.ntmps88
 go_wp2
 go_loopg [5] k (fun kq v5 w' => ∃ (x5_1 : Int), v5 = .int .i64 x5_1 ∧ Z0 (cr6_TwineAt.l0 kq l0 a1 x5_1 = some r) ∧ Z0 (kq ≤ k) ∧ Drawn0 w w')
 case atStart => exact ⟨(0), (by first | rfl | (simp; done) | (simp [*]; done)), H', ⟨Nat.le_refl _⟩, by repeat (first | exact Drawn0.refl _ | apply Drawn0.step)⟩
 case round =>
  clear H';try clear p2
  obtain ⟨x5_1, rfl, HA, HK1, ⟨m1, rfl⟩⟩ := hrel;cases gk with
  | zero => exact absurd HA.out (by simp [cr6_TwineAt.l0])
  | succ k1 =>
   have H := HA.out;clear HA;simp only [cr6_TwineAt.l0] at H;by_cases c3 : x5_1 < (l0.length : Int)
   ·rw [if_pos c3] at H;have c3b0 : decide (x5_1 < (l0.length : Int)) = true := decide_eq_true c3;clear c3;by_cases c4 : 0 ≤ x5_1
    ·rw [if_pos c4] at H;have c4b0 : decide (0 ≤ x5_1) = true := decide_eq_true c4;clear c4;by_cases c5 : ((rd_T121 l0 x5_1).f0).toList = a1.toList
     ·rw [if_pos c5] at H;have c5b0 : (((rd_T121 l0 x5_1).f0).toList == a1.toList) = true := beq_iff_eq.mpr c5;have c5b1 : (((rd_T121 l0 x5_1).f0).toList != a1.toList) = false := bne_eq_false_iff_eq.mpr c5;clear c5;obtain rfl := Option.some.inj H;have p471 : 0 ≤ (x5_1 : Int) := of_decide_eq_true (by first | (with_reducible assumption) | assumption);have q471 : x5_1 < (l0.length : Int) := of_decide_eq_true (by first | (with_reducible assumption) | assumption);obtain ⟨ad471, e471, hx471_0, hx471_1, hx471_2⟩ := at_T121 HR0.out x5_1 p471 q471;cases e471;replace p471 := eq_true p471
      replace q471 := eq_true q471
      go_wp2
      go_ret
      exact ⟨by first | rfl | (simp; done) | (simp [*]; done), by repeat (first | exact Drawn0.refl _ | apply Drawn0.step)⟩
     ·rw [if_neg c5] at H;have c5b0 : (((rd_T121 l0 x5_1).f0).toList == a1.toList) = false := beq_eq_false_iff_ne.mpr c5;have c5b1 : (((rd_T121 l0 x5_1).f0).toList != a1.toList) = true := bne_iff_ne.mpr c5;have H' := Z0.mk H;clear H;have p471 : 0 ≤ (x5_1 : Int) := of_decide_eq_true (by first | (with_reducible assumption) | assumption);have q471 : x5_1 < (l0.length : Int) := of_decide_eq_true (by first | (with_reducible assumption) | assumption);obtain ⟨ad471, e471, hx471_0, hx471_1, hx471_2⟩ := at_T121 HR0.out x5_1 p471 q471;cases e471;replace p471 := eq_true p471
      replace q471 := eq_true q471
      go_wp2
      go_roundg k1
      case measure => have := HK1.out; omega
      case rel => exact ⟨(wrap64 (x5_1 + 1)), (by first | rfl | (simp; done) | (simp [*]; done)), H', ⟨by have := HK1.out; omega⟩, by repeat (first | exact Drawn0.refl _ | apply Drawn0.step)⟩
    ·rw [if_neg c4] at H;exact absurd H (by simp)
   ·rw [if_neg c3] at H;have c3b0 : decide (x5_1 < (l0.length : Int)) = false := decide_eq_false c3;clear c3;obtain rfl := Option.some.inj H;go_wp2
    go_ret
    exact ⟨by first | rfl | (simp; done) | (simp [*]; done), by repeat (first | exact Drawn0.refl _ | apply Drawn0.step)⟩
def cr6_CheckTwines.l0 : Nat → List (S121) → Int → Option (Int)
 | 0, _, _ => none
 | k + 1, x0, x3 => if x3 < (x0.length : Int) then (if 0 ≤ x3 then ((cr1_IsName.f k ((rd_T121 x0 x3).f0)).bind fun t473 => (if t473 = true then (if x3 ≤ (x0.length : Int) then ((cr6_TwineAt.f k (x0.take (x3 : Int).toNat) ((rd_T121 x0 x3).f0)).bind fun t479 => (if t479 ≥ 0 then (some 9) else ((cr1_CheckRange.f ((rd_T121 x0 x3).f1) 1 100000).bind fun t481 => ((cr1_CheckRange.f ((rd_T121 x0 x3).f2) 1 100).bind fun t483 => ((cr1_First.f k (([t481, t483] : List Int))).bind fun t487 => (if t487 = 0 then (cr6_CheckTwines.l0 k x0 (wrap64 (x3 + 1))) else (some t487))))))) else (none)) else (some 8))) else (none)) else (some 0)
def cr6_CheckTwines.f (k : Nat) (l0 : List (S121)) : Option (Int) := if (l0.length : Int) > 32 then (some 5) else (cr6_CheckTwines.l0 k l0 0)
def cr6_CheckTwines.T8 : Bool × List (List Nat × List Nat) := (true, [([], []), ([], []), ([0, 1], [0, 1]), ([], []), ([], []), ([3, 4], [3, 4]), ([5], [5]), ([6], [6]), ([2, 7], [2, 7]), ([8], [8])])
def cr6_CheckTwines.B8 : List Nat := [0, 0, 3, 0, 0, 24, 56, 120, 255, 511]
theorem cr6_CheckTwines.tab8 : rtab .any (opsOf Tryd.f52 8) = cr6_CheckTwines.T8 := by kernel_rfl
theorem cr6_CheckTwines.bits8 : waitsOk cr6_CheckTwines.T8.2 cr6_CheckTwines.B8 = true := by kernel_rfl
def cr6_CheckTwines.T10 : Bool × List (List Nat × List Nat) := (true, [([], []), ([], []), ([0, 1], [0, 1]), ([2], [2]), ([3], [3]), ([4], [4]), ([], []), ([], []), ([6, 7], [6, 7]), ([8], [8]), ([9], [9]), ([10, 5], [10]), ([5, 11], [5, 11]), ([12, 11], [12]), ([13, 13, 0, 1, 2, 3, 4, 5, 6, 7, 8, 9, 10, 11, 12, 13], [13])])
def cr6_CheckTwines.B10 : List Nat := [0, 0, 3, 7, 15, 31, 0, 0, 192, 448, 960, 2047, 4095, 8191, 16383]
theorem cr6_CheckTwines.tab10 : rtab .any (opsOf Tryd.f52 10) = cr6_CheckTwines.T10 := by kernel_rfl
theorem cr6_CheckTwines.bits10 : waitsOk cr6_CheckTwines.T10.2 cr6_CheckTwines.B10 = true := by kernel_rfl
set_option maxHeartbeats 8000000 in
set_option maxRecDepth 100000 in
theorem cr6_CheckTwines.calls (k : Nat) (A0 : Option Addr) (c0 : Nat) (l0 : List (S121)) (r : Int) (w : World) (hr0 : Kd.C k121 w A0 l0.length l0) (hc0 : l0.length ≤ c0) (h : cr6_CheckTwines.f k l0 = some r) :
  Calls Tryd.prog 52 #[.slice A0 l0.length c0] w fun e w' => e = .returned (.int .i64 r) ∧ Below w.heap.size w w' := by
 have HR0 := Z0.mk hr0
 have HC0 := Z0.mk hc0
 clear hr0 hc0
 have HB := Z0.mk (Below.refl w.heap.size w)
 have H : (if (l0.length : Int) > 32 then (some 5) else (cr6_CheckTwines.l0 k l0 0)) = some r := h
 clear h
 by_cases c2 : (l0.length : Int) > 32
 ·rw [if_pos c2] at H;have c2b0 : decide (32 < (l0.length : Int)) = true := decide_eq_true c2;have c2b1 : decide (32 < l0.length) = true := decide_eq_true (by omega);clear c2;obtain rfl := Option.some.inj H;go_enter Tryd.func52, Tryd.ntmps52;go_wp2
  go_ret
  exact ⟨by first | rfl | (simp [errW_none, errW_some] <;> rfl) | (simp [*, errW_none, errW_some] <;> rfl), by repeat (first | (with_reducible first | exact HB.out | apply bwA | apply bwN | apply bw1) | exact HB.out)⟩
 ·rw [if_neg c2] at H;have c2b0 : decide (32 < (l0.length : Int)) = false := decide_eq_false c2;have c2b1 : decide (32 < l0.length) = false := decide_eq_false (by omega);clear c2;have H' := Z0.mk H;clear H;go_enter Tryd.func52, Tryd.ntmps52;go_wp2
  go_loopg [3] k (fun kq v3 w' => ∃ (x3_1 : Int), v3 = .int .i64 x3_1 ∧ Z0 (cr6_CheckTwines.l0 kq l0 x3_1 = some r) ∧ Z0 (kq ≤ k) ∧ Z0 (Below w.heap.size w w'))
  case atStart => exact ⟨(0), (by first | rfl | (simp; done) | (simp [*]; done)), H', ⟨Nat.le_refl _⟩, ⟨by repeat (first | (with_reducible first | exact HB.out | apply bwA | apply bwN | apply bw1) | exact HB.out)⟩⟩
  case round =>
   clear H';try clear c2
   try clear c2b0
   try clear c2b1
   try clear p2
   obtain ⟨x3_1, rfl, HA, HK1, HB⟩ := hrel;cases gk with
   | zero => exact absurd HA.out (by simp [cr6_CheckTwines.l0])
   | succ k1 =>
    have H := HA.out;clear HA;simp only [cr6_CheckTwines.l0] at H;by_cases c3 : x3_1 < (l0.length : Int)
    ·rw [if_pos c3] at H;have c3b0 : decide (x3_1 < (l0.length : Int)) = true := decide_eq_true c3;clear c3;by_cases c4 : 0 ≤ x3_1
     ·rw [if_pos c4] at H;have c4b0 : decide (0 ≤ x3_1) = true := decide_eq_true c4;clear c4;replace H := Option.bind_eq_some_iff.mp H
      obtain ⟨t473, A50, H⟩ := H;try dsimp only at H
      have A5 := Z0.mk A50;clear A50;by_cases c6 : t473 = true
      ·subst c6;have H1 : (if x3_1 ≤ (l0.length : Int) then ((cr6_TwineAt.f k1 (l0.take (x3_1 : Int).toNat) ((rd_T121 l0 x3_1).f0)).bind fun t479 => (if t479 ≥ 0 then (some 9) else ((cr1_CheckRange.f ((rd_T121 l0 x3_1).f1) 1 100000).bind fun t481 => ((cr1_CheckRange.f ((rd_T121 l0 x3_1).f2) 1 100).bind fun t483 => ((cr1_First.f k1 (([t481, t483] : List Int))).bind fun t487 => (if t487 = 0 then (cr6_CheckTwines.l0 k1 l0 (wrap64 (x3_1 + 1))) else (some t487))))))) else (none)) = some r := by rw [if_pos rfl] at H; exact H
       clear H;have H := H1;clear H1;have c7b0 := eq_true (of_decide_eq_true (by first | (with_reducible assumption) | assumption) : 0 ≤ x3_1);by_cases c8 : x3_1 ≤ (l0.length : Int)
       ·rw [if_pos c8] at H;have c8b0 := eq_true c8;have c8b1 : decide (x3_1 ≤ (l0.length : Int)) = true := decide_eq_true c8;clear c8;obtain ⟨y474, hy474⟩ : ∃ y_ : List (S121), y_ = (l0.take (x3_1 : Int).toNat) := ⟨_, rfl⟩;replace H : ((cr6_TwineAt.f k1 y474 ((rd_T121 l0 x3_1).f0)).bind fun t479 => (if t479 ≥ 0 then (some 9) else ((cr1_CheckRange.f ((rd_T121 l0 x3_1).f1) 1 100000).bind fun t481 => ((cr1_CheckRange.f ((rd_T121 l0 x3_1).f2) 1 100).bind fun t483 => ((cr1_First.f k1 (([t481, t483] : List Int))).bind fun t487 => (if t487 = 0 then (cr6_CheckTwines.l0 k1 l0 (wrap64 (x3_1 + 1))) else (some t487))))))) = some r := by first | (rw [hy474]; with_reducible exact H) | (have H2_ := (Option.bind_some _ _).symm.trans H; rw [hy474]; with_reducible exact H2_) | (have H2_ := (Option.bind_some _ _).symm.trans H; with_reducible exact H2_) | with_reducible exact H | (rw [hy474]; exact H) | exact H
        have Ny474 := Z0.mk hy474;clear hy474;replace H := Option.bind_eq_some_iff.mp H
        obtain ⟨t479, A90, H⟩ := H;try dsimp only at H
        have A9 := Z0.mk A90;clear A90;by_cases c10 : t479 ≥ 0
        ·rw [if_pos c10] at H;have c10b0 : decide (0 ≤ t479) = true := decide_eq_true c10;clear c10;obtain rfl := Option.some.inj H;have p472 : 0 ≤ (x3_1 : Int) := of_decide_eq_true (by first | (with_reducible assumption) | assumption);have q472 : x3_1 < (l0.length : Int) := of_decide_eq_true (by first | (with_reducible assumption) | assumption);obtain ⟨ad472, e472, hx472_0, hx472_1, hx472_2⟩ := at_T121 HR0.out x3_1 p472 q472;cases e472;replace hx472_0 := (HB.out.cell (World.block_lt_of_cell? w _ hx472_0)).trans hx472_0
         replace hx472_1 := (HB.out.cell (World.block_lt_of_cell? w _ hx472_1)).trans hx472_1
         replace hx472_2 := (HB.out.cell (World.block_lt_of_cell? w _ hx472_2)).trans hx472_2
         replace p472 := eq_true p472
         replace q472 := eq_true q472
         try go_wp2_with (first | ((with_reducible refine gtC (f := 87) rfl ?_); refine goesL_ (some 19) rfl rfl Tryd.func87 (by kernel_rfl) rfl #[.string ((rd_T121 l0 x3_1).f0)] rfl (by (try simp only [List.map_toArray, List.map_cons, List.map_nil]); first | done | rfl | (simp only [List.length_drop, List.length_take]; rfl)) ?_; (with_reducible refine (cr1_IsName.calls k1 ((rd_T121 l0 x3_1).f0) true _ A5.out).mono ?_); rintro e w' ⟨rfl, ⟨nd, rfl⟩⟩; refine ⟨_, rfl, ?_⟩))
         (try (rw [drewN_self wr]; generalize hq_ : World.drewN wr _ = wr; have n0_ : Z0 (Below w.heap.size w wr) := ⟨by rw [← hq_]; exact (by repeat (first | (with_reducible first | exact HB.out | apply bwA | apply bwN | apply bw1) | exact HB.out))⟩; clear HB hq_; have HB := n0_; clear n0_))
         have n0_ := Z0.mk (bw1 HB.out);clear HB;have HB := n0_;clear n0_;have q12 : (x3_1 : Int) ≤ ((l0.length : Int) : Int) := of_decide_eq_true (by first | (with_reducible assumption) | assumption);obtain ⟨i012, hi012, _, hsz12, _⟩ := info_parts info121;have hroom12 : l0.length ≤ c0 := HC0.out;have hC12 : Kd.C k121 _ (some ad472) l0.length l0 := HR0.out;have hcut12 := cut_to (P := Tryd.prog) 78 121 .i64 Tryd.underlying78 hi012 (some ad472) l0.length c0 x3_1 (of_decide_eq_true (by first | (with_reducible assumption) | assumption)) q12 hroom12;have hr12 := Kd.C_take (m := (x3_1 : Int).toNat) hC12 (by omega);have hy12 : y474.length = (x3_1 : Int).toNat := (by rw [Ny474.out, List.length_take]; omega);rw [← Ny474.out] at hr12;rw [← hy12] at hcut12;have HR477 := Z0.mk hr12;have HC477 := Z0.mk (show y474.length ≤ c0 from by omega);clear hr12 hC12 hroom12 hi012 hsz12;have KY12 := Z0.mk hy12;clear hy12;replace q12 := eq_true q12
         have p478 : 0 ≤ (x3_1 : Int) := of_decide_eq_true (by first | (with_reducible assumption) | assumption);have q478 : x3_1 < (l0.length : Int) := of_decide_eq_true (by first | (with_reducible assumption) | assumption);obtain ⟨ad478, e478, hx478_0, hx478_1, hx478_2⟩ := at_T121 HR0.out x3_1 p478 q478;have hw478_2 := hx478_2;have hw478_1 := hx478_1;have hw478_0 := hx478_0;obtain rfl : ad472 = ad478 := (by injection e478);replace hx478_0 := (HB.out.cell (World.block_lt_of_cell? w _ hx478_0)).trans hx478_0
         replace hx478_1 := (HB.out.cell (World.block_lt_of_cell? w _ hx478_1)).trans hx478_1
         replace hx478_2 := (HB.out.cell (World.block_lt_of_cell? w _ hx478_2)).trans hx478_2
         replace p478 := eq_true p478
         replace q478 := eq_true q478
         refine start_ (n := 10) (S := fun w' => w'.cell? (ad472.add ((x3_1).toNat * 3)) = some (.string ((rd_T121 l0 x3_1).f0)) ∧ w'.cell? ⟨(ad472.add ((x3_1).toNat * 3)).block, (ad472.add ((x3_1).toNat * 3)).off + 1, none⟩ = some (.int .i64 ((rd_T121 l0 x3_1).f1)) ∧ w'.cell? ⟨(ad472.add ((x3_1).toNat * 3)).block, (ad472.add ((x3_1).toNat * 3)).off + 2, none⟩ = some (.int .i64 ((rd_T121 l0 x3_1).f2))) (ds := []) #[false, false, false, false, false, false, false, false, false, false] (by kernel_rfl) rfl rfl ⟨((HB.out.cell (World.block_lt_of_cell? w _ hw478_0)).trans hw478_0), ((HB.out.cell (World.block_lt_of_cell? w _ hw478_1)).trans hw478_1), ((HB.out.cell (World.block_lt_of_cell? w _ hw478_2)).trans hw478_2)⟩ (fun hHd => ?_); refine with_tabW cr6_CheckTwines.tab8 cr6_CheckTwines.bits8 (fun HT_ HW_ => ?_);generalize wr.drew = w11 at HB HR477 hx478_0 hx478_1 hx478_2 hHd ⊢;refine pure_ (i := 0) (N := some 21) (v := ?_) (a' := ?_) #[true, false, false, false, false, false, false, false, false, false] rfl rfl (any_of HT_.out (by kernel_rfl)) (fun _ _ _ h => h) (Or.inl ⟨by rfl, ?_⟩) ?_ ?_;rotate_left; (intro w'; go_simp; with_reducible rfl); rotate_left; (simp only [Act.put, List.setIfInBounds_toArray, List.set_cons_zero, List.set_cons_succ, i64_w, i32_w]; rfl);refine pure_ (i := 1) (N := some 22) (v := ?_) (a' := ?_) #[true, true, false, false, false, false, false, false, false, false] rfl rfl (any_of HT_.out (by kernel_rfl)) (fun _ _ _ h => h) (Or.inl ⟨by rfl, ?_⟩) ?_ ?_;rotate_left; (intro w'; go_simp; with_reducible rfl); rotate_left; (simp only [Act.put, List.setIfInBounds_toArray, List.set_cons_zero, List.set_cons_succ, i64_w, i32_w]; rfl);refine pure_ (i := 2) (N := some 23) (v := ?_) (a' := ?_) #[true, true, true, false, false, false, false, false, false, false] rfl rfl (any_of HT_.out (by kernel_rfl)) (fun _ _ _ h => h) (Or.inl ⟨by rfl, ?_⟩) ?_ ?_;rotate_left; (intro w'; go_simp; with_reducible rfl); rotate_left; (simp only [Act.put, List.setIfInBounds_toArray, List.set_cons_zero, List.set_cons_succ, i64_w, i32_w]; rfl);refine pure_ (i := 3) (N := some 24) (v := ?_) (a' := ?_) #[true, true, true, true, false, false, false, false, false, false] rfl rfl (any_of HT_.out (by kernel_rfl)) (fun _ _ _ h => h) (Or.inl ⟨by rfl, ?_⟩) ?_ ?_;rotate_left; (intro w'; go_simp; with_reducible rfl); rotate_left; (simp only [Act.put, List.setIfInBounds_toArray, List.set_cons_zero, List.set_cons_succ, i64_w, i32_w]; rfl);refine pure_ (i := 4) (N := some 25) (v := ?_) (a' := ?_) #[true, true, true, true, true, false, false, false, false, false] rfl rfl (any_of HT_.out (by kernel_rfl)) (fun _ _ _ h => h) (Or.inl ⟨by rfl, ?_⟩) ?_ ?_;rotate_left; (intro w'; go_simp; with_reducible rfl); rotate_left; (simp only [Act.put, List.setIfInBounds_toArray, List.set_cons_zero, List.set_cons_succ, i64_w, i32_w]; rfl);refine pure_ (i := 5) (N := some 26) (v := ?_) (a' := ?_) #[true, true, true, true, true, true, false, false, false, false] rfl rfl (any_of HT_.out (by kernel_rfl)) (fun _ _ _ h => h) (Or.inl ⟨by rfl, ?_⟩) ?_ ?_;rotate_left; (intro w'; go_simp; with_reducible rfl); rotate_left; (simp only [Act.put, List.setIfInBounds_toArray, List.set_cons_zero, List.set_cons_succ, i64_w, i32_w]; rfl);refine pure_ (i := 6) (N := some 27) (v := ?_) (a' := ?_) #[true, true, true, true, true, true, true, false, false, false] rfl rfl (any_of HT_.out (by kernel_rfl)) (fun _ _ _ h => h) (Or.inl ⟨by rfl, ?_⟩) ?_ ?_;rotate_left; (intro w'; go_simp; with_reducible rfl); rotate_left; (simp only [Act.put, List.setIfInBounds_toArray, List.set_cons_zero, List.set_cons_succ, i64_w, i32_w]; rfl);refine take_ (i := 7) (N := some 28) (v := ?_) (a' := ?_) #[true, true, true, true, true, true, true, true, false, false] rfl rfl (take_ofW HT_.out HW_.out (by kernel_rfl)) (fun _ _ _ h => h) (Or.inl ⟨by rfl, ?_⟩) hHd ?_ ?_;rotate_left
         ·rintro w' ⟨s0, s1, s2⟩;go_simp
          with_reducible rfl
         rotate_left
         ·simp only [Act.put, List.setIfInBounds_toArray, List.set_cons_zero, List.set_cons_succ, i64_w, i32_w];rfl
         refine one_ (i := 8) (N := some 29) #[true, true, true, true, true, true, true, true, true, false] rfl rfl (one_of HT_.out (by kernel_rfl)) (by decide) (fun K hK => ?_);refine goes_ Tryd.func88 (by kernel_rfl) rfl #[.slice (some ad472) y474.length c0, .string ((rd_T121 l0 x3_1).f0)] (by rfl) rfl rfl (by (try simp only [List.map_toArray, List.map_cons, List.map_nil]); first | done | rfl | (simp only [List.length_drop, List.length_take]; rfl)) ?_;with_reducible refine (cr6_TwineAt.calls k1 _ _ y474 ((rd_T121 l0 x3_1).f0) t479 _ ?side1 ?side2 A9.out).mono ?_
         (case side1 => repeat (first | exact (Kd.C_below HR477.out HB.out) | (with_reducible refine Kd.C_alloc ?_ _) | (with_reducible refine Kd.C_drewN ?_ _) | (with_reducible refine Kd.C_drew ?_)))
         (case side2 => exact HC477.out)
         rintro e w' ⟨rfl, ⟨nd, rfl⟩⟩;refine ⟨_, rfl, ?_⟩;refine hK.out _ _ ⟨((HB.out.cell (World.block_lt_of_cell? w _ hw478_0)).trans hw478_0), ((HB.out.cell (World.block_lt_of_cell? w _ hw478_1)).trans hw478_1), ((HB.out.cell (World.block_lt_of_cell? w _ hw478_2)).trans hw478_2)⟩ (fun hHd => ?_);clear hK K;refine norm_ (a' := ?_) ?_ ?_;rotate_left
         ·show Act.put _ (some 29) _ = _
          simp only [Act.put, List.setIfInBounds_toArray, List.set_cons_zero, List.set_cons_succ, i64_w, i32_w];rfl
         refine pure_ (i := 9) (N := some 30) (v := ?_) (a' := ?_) #[true, true, true, true, true, true, true, true, true, true] rfl rfl (any_of HT_.out (by kernel_rfl)) (fun _ _ _ h => h) (Or.inl ⟨by rfl, ?_⟩) ?_ ?_;rotate_left; (intro w'; go_simp; with_reducible rfl); rotate_left; (simp only [Act.put, List.setIfInBounds_toArray, List.set_cons_zero, List.set_cons_succ, i64_w, i32_w]; rfl);refine done_ (done_of HT_.out (by kernel_rfl)) ?_;try go_wp2
         go_ret
         exact ⟨by first | rfl | (simp [errW_none, errW_some] <;> rfl) | (simp [*, errW_none, errW_some] <;> rfl), by repeat (first | (with_reducible first | exact HB.out | apply bwA | apply bwN | apply bw1) | exact HB.out)⟩
        ·rw [if_neg c10] at H;have c10b0 : decide (0 ≤ t479) = false := decide_eq_false c10;clear c10;replace H := Option.bind_eq_some_iff.mp H
         obtain ⟨t481, A130, H⟩ := H;try dsimp only at H
         have A13 := Z0.mk A130;clear A130;replace H := Option.bind_eq_some_iff.mp H
         obtain ⟨t483, A140, H⟩ := H;try dsimp only at H
         have A14 := Z0.mk A140;clear A140;obtain ⟨y484, hy484⟩ : ∃ y_ : List Int, y_ = (([t481, t483] : List Int)) := ⟨_, rfl⟩;replace H : ((cr1_First.f k1 y484).bind fun t487 => (if t487 = 0 then (cr6_CheckTwines.l0 k1 l0 (wrap64 (x3_1 + 1))) else (some t487))) = some r := by first | (rw [hy484]; with_reducible exact H) | (have H2_ := (Option.bind_some _ _).symm.trans H; rw [hy484]; with_reducible exact H2_) | (have H2_ := (Option.bind_some _ _).symm.trans H; with_reducible exact H2_) | with_reducible exact H | (rw [hy484]; exact H) | exact H
         have Ny484 := Z0.mk hy484;clear hy484;replace H := Option.bind_eq_some_iff.mp H
         obtain ⟨t487, A150, H⟩ := H;try dsimp only at H
         have A15 := Z0.mk A150;clear A150;by_cases c16 : t487 = 0
         ·rw [if_pos c16] at H;have c16b0 : (t487 == 0) = true := beq_iff_eq.mpr c16;have c16b1 : (t487 != 0) = false := bne_eq_false_iff_eq.mpr c16;clear c16;have H' := Z0.mk H;clear H;have p472 : 0 ≤ (x3_1 : Int) := of_decide_eq_true (by first | (with_reducible assumption) | assumption);have q472 : x3_1 < (l0.length : Int) := of_decide_eq_true (by first | (with_reducible assumption) | assumption);obtain ⟨ad472, e472, hx472_0, hx472_1, hx472_2⟩ := at_T121 HR0.out x3_1 p472 q472;cases e472;replace hx472_0 := (HB.out.cell (World.block_lt_of_cell? w _ hx472_0)).trans hx472_0
          replace hx472_1 := (HB.out.cell (World.block_lt_of_cell? w _ hx472_1)).trans hx472_1
          replace hx472_2 := (HB.out.cell (World.block_lt_of_cell? w _ hx472_2)).trans hx472_2
          replace p472 := eq_true p472
          replace q472 := eq_true q472
          try go_wp2_with (first | ((with_reducible refine gtC (f := 87) rfl ?_); refine goesL_ (some 19) rfl rfl Tryd.func87 (by kernel_rfl) rfl #[.string ((rd_T121 l0 x3_1).f0)] rfl (by (try simp only [List.map_toArray, List.map_cons, List.map_nil]); first | done | rfl | (simp only [List.length_drop, List.length_take]; rfl)) ?_; (with_reducible refine (cr1_IsName.calls k1 ((rd_T121 l0 x3_1).f0) true _ A5.out).mono ?_); rintro e w' ⟨rfl, ⟨nd, rfl⟩⟩; refine ⟨_, rfl, ?_⟩))
          (try (rw [drewN_self wr]; generalize hq_ : World.drewN wr _ = wr; have n0_ : Z0 (Below w.heap.size w wr) := ⟨by rw [← hq_]; exact (by repeat (first | (with_reducible first | exact HB.out | apply bwA | apply bwN | apply bw1) | exact HB.out))⟩; clear HB hq_; have HB := n0_; clear n0_))
          have n0_ := Z0.mk (bw1 HB.out);clear HB;have HB := n0_;clear n0_;have q18 : (x3_1 : Int) ≤ ((l0.length : Int) : Int) := of_decide_eq_true (by first | (with_reducible assumption) | assumption);obtain ⟨i018, hi018, _, hsz18, _⟩ := info_parts info121;have hroom18 : l0.length ≤ c0 := HC0.out;have hC18 : Kd.C k121 _ (some ad472) l0.length l0 := HR0.out;have hcut18 := cut_to (P := Tryd.prog) 78 121 .i64 Tryd.underlying78 hi018 (some ad472) l0.length c0 x3_1 (of_decide_eq_true (by first | (with_reducible assumption) | assumption)) q18 hroom18;have hr18 := Kd.C_take (m := (x3_1 : Int).toNat) hC18 (by omega);have hy18 : y474.length = (x3_1 : Int).toNat := (by rw [Ny474.out, List.length_take]; omega);rw [← Ny474.out] at hr18;rw [← hy18] at hcut18;have HR477 := Z0.mk hr18;have HC477 := Z0.mk (show y474.length ≤ c0 from by omega);clear hr18 hC18 hroom18 hi018 hsz18;have KY18 := Z0.mk hy18;clear hy18;replace q18 := eq_true q18
          have p478 : 0 ≤ (x3_1 : Int) := of_decide_eq_true (by first | (with_reducible assumption) | assumption);have q478 : x3_1 < (l0.length : Int) := of_decide_eq_true (by first | (with_reducible assumption) | assumption);obtain ⟨ad478, e478, hx478_0, hx478_1, hx478_2⟩ := at_T121 HR0.out x3_1 p478 q478;have hw478_2 := hx478_2;have hw478_1 := hx478_1;have hw478_0 := hx478_0;obtain rfl : ad472 = ad478 := (by injection e478);replace hx478_0 := (HB.out.cell (World.block_lt_of_cell? w _ hx478_0)).trans hx478_0
          replace hx478_1 := (HB.out.cell (World.block_lt_of_cell? w _ hx478_1)).trans hx478_1
          replace hx478_2 := (HB.out.cell (World.block_lt_of_cell? w _ hx478_2)).trans hx478_2
          replace p478 := eq_true p478
          replace q478 := eq_true q478
          refine start_ (n := 10) (S := fun w' => w'.cell? (ad472.add ((x3_1).toNat * 3)) = some (.string ((rd_T121 l0 x3_1).f0)) ∧ w'.cell? ⟨(ad472.add ((x3_1).toNat * 3)).block, (ad472.add ((x3_1).toNat * 3)).off + 1, none⟩ = some (.int .i64 ((rd_T121 l0 x3_1).f1)) ∧ w'.cell? ⟨(ad472.add ((x3_1).toNat * 3)).block, (ad472.add ((x3_1).toNat * 3)).off + 2, none⟩ = some (.int .i64 ((rd_T121 l0 x3_1).f2))) (ds := []) #[false, false, false, false, false, false, false, false, false, false] (by kernel_rfl) rfl rfl ⟨((HB.out.cell (World.block_lt_of_cell? w _ hw478_0)).trans hw478_0), ((HB.out.cell (World.block_lt_of_cell? w _ hw478_1)).trans hw478_1), ((HB.out.cell (World.block_lt_of_cell? w _ hw478_2)).trans hw478_2)⟩ (fun hHd => ?_); refine with_tabW cr6_CheckTwines.tab8 cr6_CheckTwines.bits8 (fun HT_ HW_ => ?_);generalize wr.drew = w17 at HB HR477 hx478_0 hx478_1 hx478_2 hHd ⊢;refine pure_ (i := 0) (N := some 21) (v := ?_) (a' := ?_) #[true, false, false, false, false, false, false, false, false, false] rfl rfl (any_of HT_.out (by kernel_rfl)) (fun _ _ _ h => h) (Or.inl ⟨by rfl, ?_⟩) ?_ ?_;rotate_left; (intro w'; go_simp; with_reducible rfl); rotate_left; (simp only [Act.put, List.setIfInBounds_toArray, List.set_cons_zero, List.set_cons_succ, i64_w, i32_w]; rfl);refine pure_ (i := 1) (N := some 22) (v := ?_) (a' := ?_) #[true, true, false, false, false, false, false, false, false, false] rfl rfl (any_of HT_.out (by kernel_rfl)) (fun _ _ _ h => h) (Or.inl ⟨by rfl, ?_⟩) ?_ ?_;rotate_left; (intro w'; go_simp; with_reducible rfl); rotate_left; (simp only [Act.put, List.setIfInBounds_toArray, List.set_cons_zero, List.set_cons_succ, i64_w, i32_w]; rfl);refine pure_ (i := 2) (N := some 23) (v := ?_) (a' := ?_) #[true, true, true, false, false, false, false, false, false, false] rfl rfl (any_of HT_.out (by kernel_rfl)) (fun _ _ _ h => h) (Or.inl ⟨by rfl, ?_⟩) ?_ ?_;rotate_left; (intro w'; go_simp; with_reducible rfl); rotate_left; (simp only [Act.put, List.setIfInBounds_toArray, List.set_cons_zero, List.set_cons_succ, i64_w, i32_w]; rfl);refine pure_ (i := 3) (N := some 24) (v := ?_) (a' := ?_) #[true, true, true, true, false, false, false, false, false, false] rfl rfl (any_of HT_.out (by kernel_rfl)) (fun _ _ _ h => h) (Or.inl ⟨by rfl, ?_⟩) ?_ ?_;rotate_left; (intro w'; go_simp; with_reducible rfl); rotate_left; (simp only [Act.put, List.setIfInBounds_toArray, List.set_cons_zero, List.set_cons_succ, i64_w, i32_w]; rfl);refine pure_ (i := 4) (N := some 25) (v := ?_) (a' := ?_) #[true, true, true, true, true, false, false, false, false, false] rfl rfl (any_of HT_.out (by kernel_rfl)) (fun _ _ _ h => h) (Or.inl ⟨by rfl, ?_⟩) ?_ ?_;rotate_left; (intro w'; go_simp; with_reducible rfl); rotate_left; (simp only [Act.put, List.setIfInBounds_toArray, List.set_cons_zero, List.set_cons_succ, i64_w, i32_w]; rfl);refine pure_ (i := 5) (N := some 26) (v := ?_) (a' := ?_) #[true, true, true, true, true, true, false, false, false, false] rfl rfl (any_of HT_.out (by kernel_rfl)) (fun _ _ _ h => h) (Or.inl ⟨by rfl, ?_⟩) ?_ ?_;rotate_left; (intro w'; go_simp; with_reducible rfl); rotate_left; (simp only [Act.put, List.setIfInBounds_toArray, List.set_cons_zero, List.set_cons_succ, i64_w, i32_w]; rfl);refine pure_ (i := 6) (N := some 27) (v := ?_) (a' := ?_) #[true, true, true, true, true, true, true, false, false, false] rfl rfl (any_of HT_.out (by kernel_rfl)) (fun _ _ _ h => h) (Or.inl ⟨by rfl, ?_⟩) ?_ ?_;rotate_left; (intro w'; go_simp; with_reducible rfl); rotate_left; (simp only [Act.put, List.setIfInBounds_toArray, List.set_cons_zero, List.set_cons_succ, i64_w, i32_w]; rfl);refine take_ (i := 7) (N := some 28) (v := ?_) (a' := ?_) #[true, true, true, true, true, true, true, true, false, false] rfl rfl (take_ofW HT_.out HW_.out (by kernel_rfl)) (fun _ _ _ h => h) (Or.inl ⟨by rfl, ?_⟩) hHd ?_ ?_;rotate_left
          ·rintro w' ⟨s0, s1, s2⟩;go_simp
           with_reducible rfl
          rotate_left
          ·simp only [Act.put, List.setIfInBounds_toArray, List.set_cons_zero, List.set_cons_succ, i64_w, i32_w];rfl
          refine one_ (i := 8) (N := some 29) #[true, true, true, true, true, true, true, true, true, false] rfl rfl (one_of HT_.out (by kernel_rfl)) (by decide) (fun K hK => ?_);refine goes_ Tryd.func88 (by kernel_rfl) rfl #[.slice (some ad472) y474.length c0, .string ((rd_T121 l0 x3_1).f0)] (by rfl) rfl rfl (by (try simp only [List.map_toArray, List.map_cons, List.map_nil]); first | done | rfl | (simp only [List.length_drop, List.length_take]; rfl)) ?_;with_reducible refine (cr6_TwineAt.calls k1 _ _ y474 ((rd_T121 l0 x3_1).f0) t479 _ ?side1 ?side2 A9.out).mono ?_
          (case side1 => repeat (first | exact (Kd.C_below HR477.out HB.out) | (with_reducible refine Kd.C_alloc ?_ _) | (with_reducible refine Kd.C_drewN ?_ _) | (with_reducible refine Kd.C_drew ?_)))
          (case side2 => exact HC477.out)
          rintro e w' ⟨rfl, ⟨nd, rfl⟩⟩;refine ⟨_, rfl, ?_⟩;refine hK.out _ _ ⟨((HB.out.cell (World.block_lt_of_cell? w _ hw478_0)).trans hw478_0), ((HB.out.cell (World.block_lt_of_cell? w _ hw478_1)).trans hw478_1), ((HB.out.cell (World.block_lt_of_cell? w _ hw478_2)).trans hw478_2)⟩ (fun hHd => ?_);clear hK K;refine norm_ (a' := ?_) ?_ ?_;rotate_left
          ·show Act.put _ (some 29) _ = _
           simp only [Act.put, List.setIfInBounds_toArray, List.set_cons_zero, List.set_cons_succ, i64_w, i32_w];rfl
          refine pure_ (i := 9) (N := some 30) (v := ?_) (a' := ?_) #[true, true, true, true, true, true, true, true, true, true] rfl rfl (any_of HT_.out (by kernel_rfl)) (fun _ _ _ h => h) (Or.inl ⟨by rfl, ?_⟩) ?_ ?_;rotate_left; (intro w'; go_simp; with_reducible rfl); rotate_left; (simp only [Act.put, List.setIfInBounds_toArray, List.set_cons_zero, List.set_cons_succ, i64_w, i32_w]; rfl);refine done_ (done_of HT_.out (by kernel_rfl)) ?_;try go_wp2
          (try (rw [drewN_self w17]; generalize hq_ : World.drewN w17 _ = w17; have n0_ : Z0 (Below w.heap.size w w17) := ⟨by rw [← hq_]; exact (by repeat (first | (with_reducible first | exact HB.out | apply bwA | apply bwN | apply bw1) | exact HB.out))⟩; clear HB hq_; have HB := n0_; clear n0_))
          have n0_ := Z0.mk (bw1 HB.out);clear HB;have HB := n0_;clear n0_;have p480 : 0 ≤ (x3_1 : Int) := of_decide_eq_true (by first | (with_reducible assumption) | assumption);have q480 : x3_1 < (l0.length : Int) := of_decide_eq_true (by first | (with_reducible assumption) | assumption);obtain ⟨ad480, e480, hx480_0, hx480_1, hx480_2⟩ := at_T121 HR0.out x3_1 p480 q480;have hw480_2 := hx480_2;have hw480_1 := hx480_1;have hw480_0 := hx480_0;obtain rfl : ad472 = ad480 := (by injection e480);replace hx480_0 := (HB.out.cell (World.block_lt_of_cell? w _ hx480_0)).trans hx480_0
          replace hx480_1 := (HB.out.cell (World.block_lt_of_cell? w _ hx480_1)).trans hx480_1
          replace hx480_2 := (HB.out.cell (World.block_lt_of_cell? w _ hx480_2)).trans hx480_2
          replace p480 := eq_true p480
          replace q480 := eq_true q480
          have p482 : 0 ≤ (x3_1 : Int) := of_decide_eq_true (by first | (with_reducible assumption) | assumption);have q482 : x3_1 < (l0.length : Int) := of_decide_eq_true (by first | (with_reducible assumption) | assumption);obtain ⟨ad482, e482, hx482_0, hx482_1, hx482_2⟩ := at_T121 HR0.out x3_1 p482 q482;have hw482_2 := hx482_2;have hw482_1 := hx482_1;have hw482_0 := hx482_0;obtain rfl : ad472 = ad482 := (by injection e482);replace hx482_0 := (HB.out.cell (World.block_lt_of_cell? w _ hx482_0)).trans hx482_0
          replace hx482_1 := (HB.out.cell (World.block_lt_of_cell? w _ hx482_1)).trans hx482_1
          replace hx482_2 := (HB.out.cell (World.block_lt_of_cell? w _ hx482_2)).trans hx482_2
          replace p482 := eq_true p482
          replace q482 := eq_true q482
          refine start_ (n := 15) (S := fun w' => w'.cell? (ad472.add ((x3_1).toNat * 3)) = some (.string ((rd_T121 l0 x3_1).f0)) ∧ w'.cell? ⟨(ad472.add ((x3_1).toNat * 3)).block, (ad472.add ((x3_1).toNat * 3)).off + 1, none⟩ = some (.int .i64 ((rd_T121 l0 x3_1).f1)) ∧ w'.cell? ⟨(ad472.add ((x3_1).toNat * 3)).block, (ad472.add ((x3_1).toNat * 3)).off + 2, none⟩ = some (.int .i64 ((rd_T121 l0 x3_1).f2)) ∧ w'.cell? (ad472.add ((x3_1).toNat * 3)) = some (.string ((rd_T121 l0 x3_1).f0)) ∧ w'.cell? ⟨(ad472.add ((x3_1).toNat * 3)).block, (ad472.add ((x3_1).toNat * 3)).off + 1, none⟩ = some (.int .i64 ((rd_T121 l0 x3_1).f1)) ∧ w'.cell? ⟨(ad472.add ((x3_1).toNat * 3)).block, (ad472.add ((x3_1).toNat * 3)).off + 2, none⟩ = some (.int .i64 ((rd_T121 l0 x3_1).f2))) (ds := []) #[false, false, false, false, false, false, false, false, false, false, false, false, false, false, false] (by kernel_rfl) rfl rfl ⟨((HB.out.cell (World.block_lt_of_cell? w _ hw480_0)).trans hw480_0), ((HB.out.cell (World.block_lt_of_cell? w _ hw480_1)).trans hw480_1), ((HB.out.cell (World.block_lt_of_cell? w _ hw480_2)).trans hw480_2), ((HB.out.cell (World.block_lt_of_cell? w _ hw482_0)).trans hw482_0), ((HB.out.cell (World.block_lt_of_cell? w _ hw482_1)).trans hw482_1), ((HB.out.cell (World.block_lt_of_cell? w _ hw482_2)).trans hw482_2)⟩ (fun hHd => ?_); refine with_tabW cr6_CheckTwines.tab10 cr6_CheckTwines.bits10 (fun HT_ HW_ => ?_);generalize w17.drew = w19 at HB hx480_0 hx480_1 hx480_2 hx482_0 hx482_1 hx482_2 hHd ⊢;refine pure_ (i := 0) (N := some 31) (v := ?_) (a' := ?_) #[true, false, false, false, false, false, false, false, false, false, false, false, false, false, false] rfl rfl (any_of HT_.out (by kernel_rfl)) (fun _ _ _ h => h) (Or.inl ⟨by rfl, ?_⟩) ?_ ?_;rotate_left; (intro w'; go_simp; with_reducible rfl); rotate_left; (simp only [Act.put, List.setIfInBounds_toArray, List.set_cons_zero, List.set_cons_succ, i64_w, i32_w]; rfl);refine pure_ (i := 1) (N := some 32) (v := ?_) (a' := ?_) #[true, true, false, false, false, false, false, false, false, false, false, false, false, false, false] rfl rfl (any_of HT_.out (by kernel_rfl)) (fun _ _ _ h => h) (Or.inl ⟨by rfl, ?_⟩) ?_ ?_;rotate_left; (intro w'; go_simp; with_reducible rfl); rotate_left; (simp only [Act.put, List.setIfInBounds_toArray, List.set_cons_zero, List.set_cons_succ, i64_w, i32_w]; rfl);refine pure_ (i := 2) (N := some 33) (v := ?_) (a' := ?_) #[true, true, true, false, false, false, false, false, false, false, false, false, false, false, false] rfl rfl (any_of HT_.out (by kernel_rfl)) (fun _ _ _ h => h) (Or.inl ⟨by rfl, ?_⟩) ?_ ?_;rotate_left; (intro w'; go_simp; with_reducible rfl); rotate_left; (simp only [Act.put, List.setIfInBounds_toArray, List.set_cons_zero, List.set_cons_succ, i64_w, i32_w]; rfl);refine pure_ (i := 3) (N := some 34) (v := ?_) (a' := ?_) #[true, true, true, true, false, false, false, false, false, false, false, false, false, false, false] rfl rfl (any_of HT_.out (by kernel_rfl)) (fun _ _ _ h => h) (Or.inl ⟨by rfl, ?_⟩) ?_ ?_;rotate_left; (intro w'; go_simp; with_reducible rfl); rotate_left; (simp only [Act.put, List.setIfInBounds_toArray, List.set_cons_zero, List.set_cons_succ, i64_w, i32_w]; rfl);refine pure_ (i := 6) (N := some 37) (v := ?_) (a' := ?_) #[true, true, true, true, false, false, true, false, false, false, false, false, false, false, false] rfl rfl (any_of HT_.out (by kernel_rfl)) (fun _ _ _ h => h) (Or.inl ⟨by rfl, ?_⟩) ?_ ?_;rotate_left; (intro w'; go_simp; with_reducible rfl); rotate_left; (simp only [Act.put, List.setIfInBounds_toArray, List.set_cons_zero, List.set_cons_succ, i64_w, i32_w]; rfl);refine pure_ (i := 7) (N := some 38) (v := ?_) (a' := ?_) #[true, true, true, true, false, false, true, true, false, false, false, false, false, false, false] rfl rfl (any_of HT_.out (by kernel_rfl)) (fun _ _ _ h => h) (Or.inl ⟨by rfl, ?_⟩) ?_ ?_;rotate_left; (intro w'; go_simp; with_reducible rfl); rotate_left; (simp only [Act.put, List.setIfInBounds_toArray, List.set_cons_zero, List.set_cons_succ, i64_w, i32_w]; rfl);refine pure_ (i := 8) (N := some 39) (v := ?_) (a' := ?_) #[true, true, true, true, false, false, true, true, true, false, false, false, false, false, false] rfl rfl (any_of HT_.out (by kernel_rfl)) (fun _ _ _ h => h) (Or.inl ⟨by rfl, ?_⟩) ?_ ?_;rotate_left; (intro w'; go_simp; with_reducible rfl); rotate_left; (simp only [Act.put, List.setIfInBounds_toArray, List.set_cons_zero, List.set_cons_succ, i64_w, i32_w]; rfl);refine pure_ (i := 9) (N := some 40) (v := ?_) (a' := ?_) #[true, true, true, true, false, false, true, true, true, true, false, false, false, false, false] rfl rfl (any_of HT_.out (by kernel_rfl)) (fun _ _ _ h => h) (Or.inl ⟨by rfl, ?_⟩) ?_ ?_;rotate_left; (intro w'; go_simp; with_reducible rfl); rotate_left; (simp only [Act.put, List.setIfInBounds_toArray, List.set_cons_zero, List.set_cons_succ, i64_w, i32_w]; rfl);refine take_ (i := 4) (N := some 35) (v := ?_) (a' := ?_) #[true, true, true, true, true, false, true, true, true, true, false, false, false, false, false] rfl rfl (take_ofW HT_.out HW_.out (by kernel_rfl)) (fun _ _ _ h => h) (Or.inl ⟨by rfl, ?_⟩) hHd ?_ ?_;rotate_left
          ·rintro w' ⟨s0, s1, s2, s3, s4, s5⟩;go_simp
           with_reducible rfl
          rotate_left
          ·simp only [Act.put, List.setIfInBounds_toArray, List.set_cons_zero, List.set_cons_succ, i64_w, i32_w];rfl
          refine take_ (i := 10) (N := some 41) (v := ?_) (a' := ?_) #[true, true, true, true, true, false, true, true, true, true, true, false, false, false, false] rfl rfl (take_ofW HT_.out HW_.out (by kernel_rfl)) (fun _ _ _ h => h) (Or.inl ⟨by rfl, ?_⟩) hHd ?_ ?_;rotate_left
          ·rintro w' ⟨s0, s1, s2, s3, s4, s5⟩;go_simp
           with_reducible rfl
          rotate_left
          ·simp only [Act.put, List.setIfInBounds_toArray, List.set_cons_zero, List.set_cons_succ, i64_w, i32_w];rfl
          refine one_ (i := 5) (N := some 36) #[true, true, true, true, true, true, true, true, true, true, true, false, false, false, false] rfl rfl (one_of HT_.out (by kernel_rfl)) (by decide) (fun K hK => ?_);refine goes_ Tryd.func27 (by kernel_rfl) rfl #[.int .i64 ((rd_T121 l0 x3_1).f1), .int .i64 1, .int .i64 100000] (by rfl) rfl rfl (by (try simp only [List.map_toArray, List.map_cons, List.map_nil]); first | done | rfl | (simp only [List.length_drop, List.length_take]; rfl)) ?_;with_reducible refine (cr1_CheckRange.calls ((rd_T121 l0 x3_1).f1) 1 100000 t481 _ A13.out).mono ?_
          rintro e w' ⟨rfl, ⟨nd, rfl⟩⟩;refine ⟨_, rfl, ?_⟩;refine hK.out _ _ ⟨((HB.out.cell (World.block_lt_of_cell? w _ hw480_0)).trans hw480_0), ((HB.out.cell (World.block_lt_of_cell? w _ hw480_1)).trans hw480_1), ((HB.out.cell (World.block_lt_of_cell? w _ hw480_2)).trans hw480_2), ((HB.out.cell (World.block_lt_of_cell? w _ hw482_0)).trans hw482_0), ((HB.out.cell (World.block_lt_of_cell? w _ hw482_1)).trans hw482_1), ((HB.out.cell (World.block_lt_of_cell? w _ hw482_2)).trans hw482_2)⟩ (fun hHd => ?_);clear hK K;refine norm_ (a' := ?_) ?_ ?_;rotate_left
          ·show Act.put _ (some 36) _ = _
           simp only [Act.put, List.setIfInBounds_toArray, List.set_cons_zero, List.set_cons_succ, i64_w, i32_w];rfl
          refine one_ (i := 11) (N := some 42) #[true, true, true, true, true, true, true, true, true, true, true, true, false, false, false] rfl rfl (one_of HT_.out (by kernel_rfl)) (by decide) (fun K hK => ?_);refine goes_ Tryd.func27 (by kernel_rfl) rfl #[.int .i64 ((rd_T121 l0 x3_1).f2), .int .i64 1, .int .i64 100] (by rfl) rfl rfl (by (try simp only [List.map_toArray, List.map_cons, List.map_nil]); first | done | rfl | (simp only [List.length_drop, List.length_take]; rfl)) ?_;with_reducible refine (cr1_CheckRange.calls ((rd_T121 l0 x3_1).f2) 1 100 t483 _ A14.out).mono ?_
          rintro e w' ⟨rfl, ⟨nd, rfl⟩⟩;refine ⟨_, rfl, ?_⟩;refine hK.out _ _ ⟨((HB.out.cell (World.block_lt_of_cell? w _ hw480_0)).trans hw480_0), ((HB.out.cell (World.block_lt_of_cell? w _ hw480_1)).trans hw480_1), ((HB.out.cell (World.block_lt_of_cell? w _ hw480_2)).trans hw480_2), ((HB.out.cell (World.block_lt_of_cell? w _ hw482_0)).trans hw482_0), ((HB.out.cell (World.block_lt_of_cell? w _ hw482_1)).trans hw482_1), ((HB.out.cell (World.block_lt_of_cell? w _ hw482_2)).trans hw482_2)⟩ (fun hHd => ?_);clear hK K;refine norm_ (a' := ?_) ?_ ?_;rotate_left
          ·show Act.put _ (some 42) _ = _
           simp only [Act.put, List.setIfInBounds_toArray, List.set_cons_zero, List.set_cons_succ, i64_w, i32_w];rfl
          refine one_ (i := 12) (N := some 43) #[true, true, true, true, true, true, true, true, true, true, true, true, true, false, false] rfl rfl (one_of HT_.out (by kernel_rfl)) (by decide) (fun K hK => ?_);refine Kd.R_lit_step (Kd.int .i64) _ 3 ?hg (N := 43) ?hd (xs := ([t481, t483] : List Int)) (inner := [.int .i64 t481, .int .i64 t483]) (ok := fun _ => True) (okp := fun _ => True) ?hr ?hp (fun _ hk => hk) trivial (Below.refl _ _) (Nat.le_refl _) (by simp) ?_; (case hd => rfl); (case hg => rfl); (case hr => first | (go_simp; done) | (go_simp; rfl)); (case hp => exact (Reps.one (show Kd.M (Kd.int .i64) _ _ _ t481 [.int .i64 t481] from rfl) (Reps.one (show Kd.M (Kd.int .i64) _ _ _ t483 [.int .i64 t483] from rfl) (Reps.none _ _))));intro v485 w20 ho21 hb hg_ hnew_;clear hg_ hnew_;(first | rw [← Ny484.out] at ho21 | (simp only [Int.reduceToNat] at ho21; rw [← Ny484.out] at ho21))
          have n0_ := Z0.mk (Kd.R_lower ho21 (bwZ (by repeat (first | (with_reducible first | exact HB.out | apply bwA | apply bwN | apply bw1) | exact HB.out))));have n1_ := Z0.mk (bwT (by repeat (first | (with_reducible first | exact HB.out | apply bwA | apply bwN | apply bw1) | exact HB.out)) hb);clear HB;have HO486 := n0_;have HB := n1_;clear n0_ n1_;clear hb ho21;obtain ⟨Ao22, co22, eo22⟩ := Kd.R_slice HO486.out;(first | subst eo22 | (injection eo22 with f1_ f2_ f3_; have f4_ := f1_.symm; have f5_ := f3_.symm; clear f1_ f2_ f3_; subst f4_; subst f5_))
          refine hK.out _ _ ⟨((HB.out.cell (World.block_lt_of_cell? w _ hw480_0)).trans hw480_0), ((HB.out.cell (World.block_lt_of_cell? w _ hw480_1)).trans hw480_1), ((HB.out.cell (World.block_lt_of_cell? w _ hw480_2)).trans hw480_2), ((HB.out.cell (World.block_lt_of_cell? w _ hw482_0)).trans hw482_0), ((HB.out.cell (World.block_lt_of_cell? w _ hw482_1)).trans hw482_1), ((HB.out.cell (World.block_lt_of_cell? w _ hw482_2)).trans hw482_2)⟩ (fun hHd => ?_);clear hK K;refine norm_ (a' := ?_) ?_ ?_;rotate_left
          ·show Act.put _ (some 43) _ = _
           simp only [Act.put, List.setIfInBounds_toArray, List.set_cons_zero, List.set_cons_succ, i64_w, i32_w];rfl
          refine one_ (i := 13) (N := some 44) #[true, true, true, true, true, true, true, true, true, true, true, true, true, true, false] rfl rfl (one_of HT_.out (by kernel_rfl)) (by decide) (fun K hK => ?_);refine goes_ Tryd.func26 (by kernel_rfl) rfl #[.slice Ao22 y484.length co22] (by rfl) rfl rfl (by (try simp only [List.map_toArray, List.map_cons, List.map_nil]); first | done | rfl | (simp only [List.length_drop, List.length_take]; rfl)) ?_;with_reducible refine (cr1_First.calls k1 _ _ y484 t487 _ ?side1 ?side2 A15.out).mono ?_
          (case side1 => repeat (first | exact (Kd.R_reads' HO486.out).2.2 | (with_reducible refine Kd.C_alloc ?_ _) | (with_reducible refine Kd.C_drewN ?_ _) | (with_reducible refine Kd.C_drew ?_)))
          (case side2 => exact (Kd.R_reads' HO486.out).2.1)
          rintro e w' ⟨rfl, ⟨nd, rfl⟩⟩;refine ⟨_, rfl, ?_⟩;refine hK.out _ _ ⟨((HB.out.cell (World.block_lt_of_cell? w _ hw480_0)).trans hw480_0), ((HB.out.cell (World.block_lt_of_cell? w _ hw480_1)).trans hw480_1), ((HB.out.cell (World.block_lt_of_cell? w _ hw480_2)).trans hw480_2), ((HB.out.cell (World.block_lt_of_cell? w _ hw482_0)).trans hw482_0), ((HB.out.cell (World.block_lt_of_cell? w _ hw482_1)).trans hw482_1), ((HB.out.cell (World.block_lt_of_cell? w _ hw482_2)).trans hw482_2)⟩ (fun hHd => ?_);clear hK K;refine norm_ (a' := ?_) ?_ ?_;rotate_left
          ·show Act.put _ (some 44) _ = _
           simp only [Act.put, List.setIfInBounds_toArray, List.set_cons_zero, List.set_cons_succ, i64_w, i32_w];rfl
          refine pure_ (i := 14) (N := some 4) (v := ?_) (a' := ?_) #[true, true, true, true, true, true, true, true, true, true, true, true, true, true, true] rfl rfl (any_of HT_.out (by kernel_rfl)) (fun _ _ _ h => h) (Or.inl ⟨by rfl, ?_⟩) ?_ ?_;rotate_left; (intro w'; go_simp; with_reducible rfl); rotate_left; (simp only [Act.put, List.setIfInBounds_toArray, List.set_cons_zero, List.set_cons_succ, i64_w, i32_w]; rfl);refine done_ (done_of HT_.out (by kernel_rfl)) ?_;try go_wp2
          go_roundg k1
          case measure => have := HK1.out; omega
          case rel => exact ⟨(wrap64 (x3_1 + 1)), (by first | rfl | (simp; done) | (simp [*]; done)), H', ⟨by have := HK1.out; omega⟩, ⟨by repeat (first | (with_reducible first | exact HB.out | apply bwA | apply bwN | apply bw1) | exact HB.out)⟩⟩
         ·rw [if_neg c16] at H;have c16b0 : (t487 == 0) = false := beq_eq_false_iff_ne.mpr c16;have c16b1 : (t487 != 0) = true := bne_iff_ne.mpr c16;obtain rfl := Option.some.inj H;have p472 : 0 ≤ (x3_1 : Int) := of_decide_eq_true (by first | (with_reducible assumption) | assumption);have q472 : x3_1 < (l0.length : Int) := of_decide_eq_true (by first | (with_reducible assumption) | assumption);obtain ⟨ad472, e472, hx472_0, hx472_1, hx472_2⟩ := at_T121 HR0.out x3_1 p472 q472;cases e472;replace hx472_0 := (HB.out.cell (World.block_lt_of_cell? w _ hx472_0)).trans hx472_0
          replace hx472_1 := (HB.out.cell (World.block_lt_of_cell? w _ hx472_1)).trans hx472_1
          replace hx472_2 := (HB.out.cell (World.block_lt_of_cell? w _ hx472_2)).trans hx472_2
          replace p472 := eq_true p472
          replace q472 := eq_true q472
          try go_wp2_with (first | ((with_reducible refine gtC (f := 87) rfl ?_); refine goesL_ (some 19) rfl rfl Tryd.func87 (by kernel_rfl) rfl #[.string ((rd_T121 l0 x3_1).f0)] rfl (by (try simp only [List.map_toArray, List.map_cons, List.map_nil]); first | done | rfl | (simp only [List.length_drop, List.length_take]; rfl)) ?_; (with_reducible refine (cr1_IsName.calls k1 ((rd_T121 l0 x3_1).f0) true _ A5.out).mono ?_); rintro e w' ⟨rfl, ⟨nd, rfl⟩⟩; refine ⟨_, rfl, ?_⟩))
          (try (rw [drewN_self wr]; generalize hq_ : World.drewN wr _ = wr; have n0_ : Z0 (Below w.heap.size w wr) := ⟨by rw [← hq_]; exact (by repeat (first | (with_reducible first | exact HB.out | apply bwA | apply bwN | apply bw1) | exact HB.out))⟩; clear HB hq_; have HB := n0_; clear n0_))
          have n0_ := Z0.mk (bw1 HB.out);clear HB;have HB := n0_;clear n0_;have q24 : (x3_1 : Int) ≤ ((l0.length : Int) : Int) := of_decide_eq_true (by first | (with_reducible assumption) | assumption);obtain ⟨i024, hi024, _, hsz24, _⟩ := info_parts info121;have hroom24 : l0.length ≤ c0 := HC0.out;have hC24 : Kd.C k121 _ (some ad472) l0.length l0 := HR0.out;have hcut24 := cut_to (P := Tryd.prog) 78 121 .i64 Tryd.underlying78 hi024 (some ad472) l0.length c0 x3_1 (of_decide_eq_true (by first | (with_reducible assumption) | assumption)) q24 hroom24;have hr24 := Kd.C_take (m := (x3_1 : Int).toNat) hC24 (by omega);have hy24 : y474.length = (x3_1 : Int).toNat := (by rw [Ny474.out, List.length_take]; omega);rw [← Ny474.out] at hr24;rw [← hy24] at hcut24;have HR477 := Z0.mk hr24;have HC477 := Z0.mk (show y474.length ≤ c0 from by omega);clear hr24 hC24 hroom24 hi024 hsz24;have KY24 := Z0.mk hy24;clear hy24;replace q24 := eq_true q24
          have p478 : 0 ≤ (x3_1 : Int) := of_decide_eq_true (by first | (with_reducible assumption) | assumption);have q478 : x3_1 < (l0.length : Int) := of_decide_eq_true (by first | (with_reducible assumption) | assumption);obtain ⟨ad478, e478, hx478_0, hx478_1, hx478_2⟩ := at_T121 HR0.out x3_1 p478 q478;have hw478_2 := hx478_2;have hw478_1 := hx478_1;have hw478_0 := hx478_0;obtain rfl : ad472 = ad478 := (by injection e478);replace hx478_0 := (HB.out.cell (World.block_lt_of_cell? w _ hx478_0)).trans hx478_0
          replace hx478_1 := (HB.out.cell (World.block_lt_of_cell? w _ hx478_1)).trans hx478_1
          replace hx478_2 := (HB.out.cell (World.block_lt_of_cell? w _ hx478_2)).trans hx478_2
          replace p478 := eq_true p478
          replace q478 := eq_true q478
          refine start_ (n := 10) (S := fun w' => w'.cell? (ad472.add ((x3_1).toNat * 3)) = some (.string ((rd_T121 l0 x3_1).f0)) ∧ w'.cell? ⟨(ad472.add ((x3_1).toNat * 3)).block, (ad472.add ((x3_1).toNat * 3)).off + 1, none⟩ = some (.int .i64 ((rd_T121 l0 x3_1).f1)) ∧ w'.cell? ⟨(ad472.add ((x3_1).toNat * 3)).block, (ad472.add ((x3_1).toNat * 3)).off + 2, none⟩ = some (.int .i64 ((rd_T121 l0 x3_1).f2))) (ds := []) #[false, false, false, false, false, false, false, false, false, false] (by kernel_rfl) rfl rfl ⟨((HB.out.cell (World.block_lt_of_cell? w _ hw478_0)).trans hw478_0), ((HB.out.cell (World.block_lt_of_cell? w _ hw478_1)).trans hw478_1), ((HB.out.cell (World.block_lt_of_cell? w _ hw478_2)).trans hw478_2)⟩ (fun hHd => ?_); refine with_tabW cr6_CheckTwines.tab8 cr6_CheckTwines.bits8 (fun HT_ HW_ => ?_);generalize wr.drew = w23 at HB HR477 hx478_0 hx478_1 hx478_2 hHd ⊢;refine pure_ (i := 0) (N := some 21) (v := ?_) (a' := ?_) #[true, false, false, false, false, false, false, false, false, false] rfl rfl (any_of HT_.out (by kernel_rfl)) (fun _ _ _ h => h) (Or.inl ⟨by rfl, ?_⟩) ?_ ?_;rotate_left; (intro w'; go_simp; with_reducible rfl); rotate_left; (simp only [Act.put, List.setIfInBounds_toArray, List.set_cons_zero, List.set_cons_succ, i64_w, i32_w]; rfl);refine pure_ (i := 1) (N := some 22) (v := ?_) (a' := ?_) #[true, true, false, false, false, false, false, false, false, false] rfl rfl (any_of HT_.out (by kernel_rfl)) (fun _ _ _ h => h) (Or.inl ⟨by rfl, ?_⟩) ?_ ?_;rotate_left; (intro w'; go_simp; with_reducible rfl); rotate_left; (simp only [Act.put, List.setIfInBounds_toArray, List.set_cons_zero, List.set_cons_succ, i64_w, i32_w]; rfl);refine pure_ (i := 2) (N := some 23) (v := ?_) (a' := ?_) #[true, true, true, false, false, false, false, false, false, false] rfl rfl (any_of HT_.out (by kernel_rfl)) (fun _ _ _ h => h) (Or.inl ⟨by rfl, ?_⟩) ?_ ?_;rotate_left; (intro w'; go_simp; with_reducible rfl); rotate_left; (simp only [Act.put, List.setIfInBounds_toArray, List.set_cons_zero, List.set_cons_succ, i64_w, i32_w]; rfl);refine pure_ (i := 3) (N := some 24) (v := ?_) (a' := ?_) #[true, true, true, true, false, false, false, false, false, false] rfl rfl (any_of HT_.out (by kernel_rfl)) (fun _ _ _ h => h) (Or.inl ⟨by rfl, ?_⟩) ?_ ?_;rotate_left; (intro w'; go_simp; with_reducible rfl); rotate_left; (simp only [Act.put, List.setIfInBounds_toArray, List.set_cons_zero, List.set_cons_succ, i64_w, i32_w]; rfl);refine pure_ (i := 4) (N := some 25) (v := ?_) (a' := ?_) #[true, true, true, true, true, false, false, false, false, false] rfl rfl (any_of HT_.out (by kernel_rfl)) (fun _ _ _ h => h) (Or.inl ⟨by rfl, ?_⟩) ?_ ?_;rotate_left; (intro w'; go_simp; with_reducible rfl); rotate_left; (simp only [Act.put, List.setIfInBounds_toArray, List.set_cons_zero, List.set_cons_succ, i64_w, i32_w]; rfl);refine pure_ (i := 5) (N := some 26) (v := ?_) (a' := ?_) #[true, true, true, true, true, true, false, false, false, false] rfl rfl (any_of HT_.out (by kernel_rfl)) (fun _ _ _ h => h) (Or.inl ⟨by rfl, ?_⟩) ?_ ?_;rotate_left; (intro w'; go_simp; with_reducible rfl); rotate_left; (simp only [Act.put, List.setIfInBounds_toArray, List.set_cons_zero, List.set_cons_succ, i64_w, i32_w]; rfl);refine pure_ (i := 6) (N := some 27) (v := ?_) (a' := ?_) #[true, true, true, true, true, true, true, false, false, false] rfl rfl (any_of HT_.out (by kernel_rfl)) (fun _ _ _ h => h) (Or.inl ⟨by rfl, ?_⟩) ?_ ?_;rotate_left; (intro w'; go_simp; with_reducible rfl); rotate_left; (simp only [Act.put, List.setIfInBounds_toArray, List.set_cons_zero, List.set_cons_succ, i64_w, i32_w]; rfl);refine take_ (i := 7) (N := some 28) (v := ?_) (a' := ?_) #[true, true, true, true, true, true, true, true, false, false] rfl rfl (take_ofW HT_.out HW_.out (by kernel_rfl)) (fun _ _ _ h => h) (Or.inl ⟨by rfl, ?_⟩) hHd ?_ ?_;rotate_left
          ·rintro w' ⟨s0, s1, s2⟩;go_simp
           with_reducible rfl
          rotate_left
          ·simp only [Act.put, List.setIfInBounds_toArray, List.set_cons_zero, List.set_cons_succ, i64_w, i32_w];rfl
          refine one_ (i := 8) (N := some 29) #[true, true, true, true, true, true, true, true, true, false] rfl rfl (one_of HT_.out (by kernel_rfl)) (by decide) (fun K hK => ?_);refine goes_ Tryd.func88 (by kernel_rfl) rfl #[.slice (some ad472) y474.length c0, .string ((rd_T121 l0 x3_1).f0)] (by rfl) rfl rfl (by (try simp only [List.map_toArray, List.map_cons, List.map_nil]); first | done | rfl | (simp only [List.length_drop, List.length_take]; rfl)) ?_;with_reducible refine (cr6_TwineAt.calls k1 _ _ y474 ((rd_T121 l0 x3_1).f0) t479 _ ?side1 ?side2 A9.out).mono ?_
          (case side1 => repeat (first | exact (Kd.C_below HR477.out HB.out) | (with_reducible refine Kd.C_alloc ?_ _) | (with_reducible refine Kd.C_drewN ?_ _) | (with_reducible refine Kd.C_drew ?_)))
          (case side2 => exact HC477.out)
          rintro e w' ⟨rfl, ⟨nd, rfl⟩⟩;refine ⟨_, rfl, ?_⟩;refine hK.out _ _ ⟨((HB.out.cell (World.block_lt_of_cell? w _ hw478_0)).trans hw478_0), ((HB.out.cell (World.block_lt_of_cell? w _ hw478_1)).trans hw478_1), ((HB.out.cell (World.block_lt_of_cell? w _ hw478_2)).trans hw478_2)⟩ (fun hHd => ?_);clear hK K;refine norm_ (a' := ?_) ?_ ?_;rotate_left
          ·show Act.put _ (some 29) _ = _
           simp only [Act.put, List.setIfInBounds_toArray, List.set_cons_zero, List.set_cons_succ, i64_w, i32_w];rfl
          refine pure_ (i := 9) (N := some 30) (v := ?_) (a' := ?_) #[true, true, true, true, true, true, true, true, true, true] rfl rfl (any_of HT_.out (by kernel_rfl)) (fun _ _ _ h => h) (Or.inl ⟨by rfl, ?_⟩) ?_ ?_;rotate_left; (intro w'; go_simp; with_reducible rfl); rotate_left; (simp only [Act.put, List.setIfInBounds_toArray, List.set_cons_zero, List.set_cons_succ, i64_w, i32_w]; rfl);refine done_ (done_of HT_.out (by kernel_rfl)) ?_;try go_wp2
          (try (rw [drewN_self w23]; generalize hq_ : World.drewN w23 _ = w23; have n0_ : Z0 (Below w.heap.size w w23) := ⟨by rw [← hq_]; exact (by repeat (first | (with_reducible first | exact HB.out | apply bwA | apply bwN | apply bw1) | exact HB.out))⟩; clear HB hq_; have HB := n0_; clear n0_))
          have n0_ := Z0.mk (bw1 HB.out);clear HB;have HB := n0_;clear n0_;have p480 : 0 ≤ (x3_1 : Int) := of_decide_eq_true (by first | (with_reducible assumption) | assumption);have q480 : x3_1 < (l0.length : Int) := of_decide_eq_true (by first | (with_reducible assumption) | assumption);obtain ⟨ad480, e480, hx480_0, hx480_1, hx480_2⟩ := at_T121 HR0.out x3_1 p480 q480;have hw480_2 := hx480_2;have hw480_1 := hx480_1;have hw480_0 := hx480_0;obtain rfl : ad472 = ad480 := (by injection e480);replace hx480_0 := (HB.out.cell (World.block_lt_of_cell? w _ hx480_0)).trans hx480_0
          replace hx480_1 := (HB.out.cell (World.block_lt_of_cell? w _ hx480_1)).trans hx480_1
          replace hx480_2 := (HB.out.cell (World.block_lt_of_cell? w _ hx480_2)).trans hx480_2
          replace p480 := eq_true p480
          replace q480 := eq_true q480
          have p482 : 0 ≤ (x3_1 : Int) := of_decide_eq_true (by first | (with_reducible assumption) | assumption);have q482 : x3_1 < (l0.length : Int) := of_decide_eq_true (by first | (with_reducible assumption) | assumption);obtain ⟨ad482, e482, hx482_0, hx482_1, hx482_2⟩ := at_T121 HR0.out x3_1 p482 q482;have hw482_2 := hx482_2;have hw482_1 := hx482_1;have hw482_0 := hx482_0;obtain rfl : ad472 = ad482 := (by injection e482);replace hx482_0 := (HB.out.cell (World.block_lt_of_cell? w _ hx482_0)).trans hx482_0
          replace hx482_1 := (HB.out.cell (World.block_lt_of_cell? w _ hx482_1)).trans hx482_1
          replace hx482_2 := (HB.out.cell (World.block_lt_of_cell? w _ hx482_2)).trans hx482_2
          replace p482 := eq_true p482
          replace q482 := eq_true q482
          refine start_ (n := 15) (S := fun w' => w'.cell? (ad472.add ((x3_1).toNat * 3)) = some (.string ((rd_T121 l0 x3_1).f0)) ∧ w'.cell? ⟨(ad472.add ((x3_1).toNat * 3)).block, (ad472.add ((x3_1).toNat * 3)).off + 1, none⟩ = some (.int .i64 ((rd_T121 l0 x3_1).f1)) ∧ w'.cell? ⟨(ad472.add ((x3_1).toNat * 3)).block, (ad472.add ((x3_1).toNat * 3)).off + 2, none⟩ = some (.int .i64 ((rd_T121 l0 x3_1).f2)) ∧ w'.cell? (ad472.add ((x3_1).toNat * 3)) = some (.string ((rd_T121 l0 x3_1).f0)) ∧ w'.cell? ⟨(ad472.add ((x3_1).toNat * 3)).block, (ad472.add ((x3_1).toNat * 3)).off + 1, none⟩ = some (.int .i64 ((rd_T121 l0 x3_1).f1)) ∧ w'.cell? ⟨(ad472.add ((x3_1).toNat * 3)).block, (ad472.add ((x3_1).toNat * 3)).off + 2, none⟩ = some (.int .i64 ((rd_T121 l0 x3_1).f2))) (ds := []) #[false, false, false, false, false, false, false, false, false, false, false, false, false, false, false] (by kernel_rfl) rfl rfl ⟨((HB.out.cell (World.block_lt_of_cell? w _ hw480_0)).trans hw480_0), ((HB.out.cell (World.block_lt_of_cell? w _ hw480_1)).trans hw480_1), ((HB.out.cell (World.block_lt_of_cell? w _ hw480_2)).trans hw480_2), ((HB.out.cell (World.block_lt_of_cell? w _ hw482_0)).trans hw482_0), ((HB.out.cell (World.block_lt_of_cell? w _ hw482_1)).trans hw482_1), ((HB.out.cell (World.block_lt_of_cell? w _ hw482_2)).trans hw482_2)⟩ (fun hHd => ?_); refine with_tabW cr6_CheckTwines.tab10 cr6_CheckTwines.bits10 (fun HT_ HW_ => ?_);generalize w23.drew = w25 at HB hx480_0 hx480_1 hx480_2 hx482_0 hx482_1 hx482_2 hHd ⊢;refine pure_ (i := 0) (N := some 31) (v := ?_) (a' := ?_) #[true, false, false, false, false, false, false, false, false, false, false, false, false, false, false] rfl rfl (any_of HT_.out (by kernel_rfl)) (fun _ _ _ h => h) (Or.inl ⟨by rfl, ?_⟩) ?_ ?_;rotate_left; (intro w'; go_simp; with_reducible rfl); rotate_left; (simp only [Act.put, List.setIfInBounds_toArray, List.set_cons_zero, List.set_cons_succ, i64_w, i32_w]; rfl);refine pure_ (i := 1) (N := some 32) (v := ?_) (a' := ?_) #[true, true, false, false, false, false, false, false, false, false, false, false, false, false, false] rfl rfl (any_of HT_.out (by kernel_rfl)) (fun _ _ _ h => h) (Or.inl ⟨by rfl, ?_⟩) ?_ ?_;rotate_left; (intro w'; go_simp; with_reducible rfl); rotate_left; (simp only [Act.put, List.setIfInBounds_toArray, List.set_cons_zero, List.set_cons_succ, i64_w, i32_w]; rfl);refine pure_ (i := 2) (N := some 33) (v := ?_) (a' := ?_) #[true, true, true, false, false, false, false, false, false, false, false, false, false, false, false] rfl rfl (any_of HT_.out (by kernel_rfl)) (fun _ _ _ h => h) (Or.inl ⟨by rfl, ?_⟩) ?_ ?_;rotate_left; (intro w'; go_simp; with_reducible rfl); rotate_left; (simp only [Act.put, List.setIfInBounds_toArray, List.set_cons_zero, List.set_cons_succ, i64_w, i32_w]; rfl);refine pure_ (i := 3) (N := some 34) (v := ?_) (a' := ?_) #[true, true, true, true, false, false, false, false, false, false, false, false, false, false, false] rfl rfl (any_of HT_.out (by kernel_rfl)) (fun _ _ _ h => h) (Or.inl ⟨by rfl, ?_⟩) ?_ ?_;rotate_left; (intro w'; go_simp; with_reducible rfl); rotate_left; (simp only [Act.put, List.setIfInBounds_toArray, List.set_cons_zero, List.set_cons_succ, i64_w, i32_w]; rfl);refine pure_ (i := 6) (N := some 37) (v := ?_) (a' := ?_) #[true, true, true, true, false, false, true, false, false, false, false, false, false, false, false] rfl rfl (any_of HT_.out (by kernel_rfl)) (fun _ _ _ h => h) (Or.inl ⟨by rfl, ?_⟩) ?_ ?_;rotate_left; (intro w'; go_simp; with_reducible rfl); rotate_left; (simp only [Act.put, List.setIfInBounds_toArray, List.set_cons_zero, List.set_cons_succ, i64_w, i32_w]; rfl);refine pure_ (i := 7) (N := some 38) (v := ?_) (a' := ?_) #[true, true, true, true, false, false, true, true, false, false, false, false, false, false, false] rfl rfl (any_of HT_.out (by kernel_rfl)) (fun _ _ _ h => h) (Or.inl ⟨by rfl, ?_⟩) ?_ ?_;rotate_left; (intro w'; go_simp; with_reducible rfl); rotate_left; (simp only [Act.put, List.setIfInBounds_toArray, List.set_cons_zero, List.set_cons_succ, i64_w, i32_w]; rfl);refine pure_ (i := 8) (N := some 39) (v := ?_) (a' := ?_) #[true, true, true, true, false, false, true, true, true, false, false, false, false, false, false] rfl rfl (any_of HT_.out (by kernel_rfl)) (fun _ _ _ h => h) (Or.inl ⟨by rfl, ?_⟩) ?_ ?_;rotate_left; (intro w'; go_simp; with_reducible rfl); rotate_left; (simp only [Act.put, List.setIfInBounds_toArray, List.set_cons_zero, List.set_cons_succ, i64_w, i32_w]; rfl);refine pure_ (i := 9) (N := some 40) (v := ?_) (a' := ?_) #[true, true, true, true, false, false, true, true, true, true, false, false, false, false, false] rfl rfl (any_of HT_.out (by kernel_rfl)) (fun _ _ _ h => h) (Or.inl ⟨by rfl, ?_⟩) ?_ ?_;rotate_left; (intro w'; go_simp; with_reducible rfl); rotate_left; (simp only [Act.put, List.setIfInBounds_toArray, List.set_cons_zero, List.set_cons_succ, i64_w, i32_w]; rfl);refine take_ (i := 4) (N := some 35) (v := ?_) (a' := ?_) #[true, true, true, true, true, false, true, true, true, true, false, false, false, false, false] rfl rfl (take_ofW HT_.out HW_.out (by kernel_rfl)) (fun _ _ _ h => h) (Or.inl ⟨by rfl, ?_⟩) hHd ?_ ?_;rotate_left
          ·rintro w' ⟨s0, s1, s2, s3, s4, s5⟩;go_simp
           with_reducible rfl
          rotate_left
          ·simp only [Act.put, List.setIfInBounds_toArray, List.set_cons_zero, List.set_cons_succ, i64_w, i32_w];rfl
          refine take_ (i := 10) (N := some 41) (v := ?_) (a' := ?_) #[true, true, true, true, true, false, true, true, true, true, true, false, false, false, false] rfl rfl (take_ofW HT_.out HW_.out (by kernel_rfl)) (fun _ _ _ h => h) (Or.inl ⟨by rfl, ?_⟩) hHd ?_ ?_;rotate_left
          ·rintro w' ⟨s0, s1, s2, s3, s4, s5⟩;go_simp
           with_reducible rfl
          rotate_left
          ·simp only [Act.put, List.setIfInBounds_toArray, List.set_cons_zero, List.set_cons_succ, i64_w, i32_w];rfl
          refine one_ (i := 5) (N := some 36) #[true, true, true, true, true, true, true, true, true, true, true, false, false, false, false] rfl rfl (one_of HT_.out (by kernel_rfl)) (by decide) (fun K hK => ?_);refine goes_ Tryd.func27 (by kernel_rfl) rfl #[.int .i64 ((rd_T121 l0 x3_1).f1), .int .i64 1, .int .i64 100000] (by rfl) rfl rfl (by (try simp only [List.map_toArray, List.map_cons, List.map_nil]); first | done | rfl | (simp only [List.length_drop, List.length_take]; rfl)) ?_;with_reducible refine (cr1_CheckRange.calls ((rd_T121 l0 x3_1).f1) 1 100000 t481 _ A13.out).mono ?_
          rintro e w' ⟨rfl, ⟨nd, rfl⟩⟩;refine ⟨_, rfl, ?_⟩;refine hK.out _ _ ⟨((HB.out.cell (World.block_lt_of_cell? w _ hw480_0)).trans hw480_0), ((HB.out.cell (World.block_lt_of_cell? w _ hw480_1)).trans hw480_1), ((HB.out.cell (World.block_lt_of_cell? w _ hw480_2)).trans hw480_2), ((HB.out.cell (World.block_lt_of_cell? w _ hw482_0)).trans hw482_0), ((HB.out.cell (World.block_lt_of_cell? w _ hw482_1)).trans hw482_1), ((HB.out.cell (World.block_lt_of_cell? w _ hw482_2)).trans hw482_2)⟩ (fun hHd => ?_);clear hK K;refine norm_ (a' := ?_) ?_ ?_;rotate_left
          ·show Act.put _ (some 36) _ = _
           simp only [Act.put, List.setIfInBounds_toArray, List.set_cons_zero, List.set_cons_succ, i64_w, i32_w];rfl
          refine one_ (i := 11) (N := some 42) #[true, true, true, true, true, true, true, true, true, true, true, true, false, false, false] rfl rfl (one_of HT_.out (by kernel_rfl)) (by decide) (fun K hK => ?_);refine goes_ Tryd.func27 (by kernel_rfl) rfl #[.int .i64 ((rd_T121 l0 x3_1).f2), .int .i64 1, .int .i64 100] (by rfl) rfl rfl (by (try simp only [List.map_toArray, List.map_cons, List.map_nil]); first | done | rfl | (simp only [List.length_drop, List.length_take]; rfl)) ?_;with_reducible refine (cr1_CheckRange.calls ((rd_T121 l0 x3_1).f2) 1 100 t483 _ A14.out).mono ?_
          rintro e w' ⟨rfl, ⟨nd, rfl⟩⟩;refine ⟨_, rfl, ?_⟩;refine hK.out _ _ ⟨((HB.out.cell (World.block_lt_of_cell? w _ hw480_0)).trans hw480_0), ((HB.out.cell (World.block_lt_of_cell? w _ hw480_1)).trans hw480_1), ((HB.out.cell (World.block_lt_of_cell? w _ hw480_2)).trans hw480_2), ((HB.out.cell (World.block_lt_of_cell? w _ hw482_0)).trans hw482_0), ((HB.out.cell (World.block_lt_of_cell? w _ hw482_1)).trans hw482_1), ((HB.out.cell (World.block_lt_of_cell? w _ hw482_2)).trans hw482_2)⟩ (fun hHd => ?_);clear hK K;refine norm_ (a' := ?_) ?_ ?_;rotate_left
          ·show Act.put _ (some 42) _ = _
           simp only [Act.put, List.setIfInBounds_toArray, List.set_cons_zero, List.set_cons_succ, i64_w, i32_w];rfl
          refine one_ (i := 12) (N := some 43) #[true, true, true, true, true, true, true, true, true, true, true, true, true, false, false] rfl rfl (one_of HT_.out (by kernel_rfl)) (by decide) (fun K hK => ?_);refine Kd.R_lit_step (Kd.int .i64) _ 3 ?hg (N := 43) ?hd (xs := ([t481, t483] : List Int)) (inner := [.int .i64 t481, .int .i64 t483]) (ok := fun _ => True) (okp := fun _ => True) ?hr ?hp (fun _ hk => hk) trivial (Below.refl _ _) (Nat.le_refl _) (by simp) ?_; (case hd => rfl); (case hg => rfl); (case hr => first | (go_simp; done) | (go_simp; rfl)); (case hp => exact (Reps.one (show Kd.M (Kd.int .i64) _ _ _ t481 [.int .i64 t481] from rfl) (Reps.one (show Kd.M (Kd.int .i64) _ _ _ t483 [.int .i64 t483] from rfl) (Reps.none _ _))));intro v485 w26 ho27 hb hg_ hnew_;clear hg_ hnew_;(first | rw [← Ny484.out] at ho27 | (simp only [Int.reduceToNat] at ho27; rw [← Ny484.out] at ho27))
          have n0_ := Z0.mk (Kd.R_lower ho27 (bwZ (by repeat (first | (with_reducible first | exact HB.out | apply bwA | apply bwN | apply bw1) | exact HB.out))));have n1_ := Z0.mk (bwT (by repeat (first | (with_reducible first | exact HB.out | apply bwA | apply bwN | apply bw1) | exact HB.out)) hb);clear HB;have HO486 := n0_;have HB := n1_;clear n0_ n1_;clear hb ho27;obtain ⟨Ao28, co28, eo28⟩ := Kd.R_slice HO486.out;(first | subst eo28 | (injection eo28 with f1_ f2_ f3_; have f4_ := f1_.symm; have f5_ := f3_.symm; clear f1_ f2_ f3_; subst f4_; subst f5_))
          refine hK.out _ _ ⟨((HB.out.cell (World.block_lt_of_cell? w _ hw480_0)).trans hw480_0), ((HB.out.cell (World.block_lt_of_cell? w _ hw480_1)).trans hw480_1), ((HB.out.cell (World.block_lt_of_cell? w _ hw480_2)).trans hw480_2), ((HB.out.cell (World.block_lt_of_cell? w _ hw482_0)).trans hw482_0), ((HB.out.cell (World.block_lt_of_cell? w _ hw482_1)).trans hw482_1), ((HB.out.cell (World.block_lt_of_cell? w _ hw482_2)).trans hw482_2)⟩ (fun hHd => ?_);clear hK K;refine norm_ (a' := ?_) ?_ ?_;rotate_left
          ·show Act.put _ (some 43) _ = _
           simp only [Act.put, List.setIfInBounds_toArray, List.set_cons_zero, List.set_cons_succ, i64_w, i32_w];rfl
          refine one_ (i := 13) (N := some 44) #[true, true, true, true, true, true, true, true, true, true, true, true, true, true, false] rfl rfl (one_of HT_.out (by kernel_rfl)) (by decide) (fun K hK => ?_);refine goes_ Tryd.func26 (by kernel_rfl) rfl #[.slice Ao28 y484.length co28] (by rfl) rfl rfl (by (try simp only [List.map_toArray, List.map_cons, List.map_nil]); first | done | rfl | (simp only [List.length_drop, List.length_take]; rfl)) ?_;with_reducible refine (cr1_First.calls k1 _ _ y484 t487 _ ?side1 ?side2 A15.out).mono ?_
          (case side1 => repeat (first | exact (Kd.R_reads' HO486.out).2.2 | (with_reducible refine Kd.C_alloc ?_ _) | (with_reducible refine Kd.C_drewN ?_ _) | (with_reducible refine Kd.C_drew ?_)))
          (case side2 => exact (Kd.R_reads' HO486.out).2.1)
          rintro e w' ⟨rfl, ⟨nd, rfl⟩⟩;refine ⟨_, rfl, ?_⟩;refine hK.out _ _ ⟨((HB.out.cell (World.block_lt_of_cell? w _ hw480_0)).trans hw480_0), ((HB.out.cell (World.block_lt_of_cell? w _ hw480_1)).trans hw480_1), ((HB.out.cell (World.block_lt_of_cell? w _ hw480_2)).trans hw480_2), ((HB.out.cell (World.block_lt_of_cell? w _ hw482_0)).trans hw482_0), ((HB.out.cell (World.block_lt_of_cell? w _ hw482_1)).trans hw482_1), ((HB.out.cell (World.block_lt_of_cell? w _ hw482_2)).trans hw482_2)⟩ (fun hHd => ?_);clear hK K;refine norm_ (a' := ?_) ?_ ?_;rotate_left
          ·show Act.put _ (some 44) _ = _
           simp only [Act.put, List.setIfInBounds_toArray, List.set_cons_zero, List.set_cons_succ, i64_w, i32_w];rfl
          refine pure_ (i := 14) (N := some 4) (v := ?_) (a' := ?_) #[true, true, true, true, true, true, true, true, true, true, true, true, true, true, true] rfl rfl (any_of HT_.out (by kernel_rfl)) (fun _ _ _ h => h) (Or.inl ⟨by rfl, ?_⟩) ?_ ?_;rotate_left; (intro w'; go_simp; with_reducible rfl); rotate_left; (simp only [Act.put, List.setIfInBounds_toArray, List.set_cons_zero, List.set_cons_succ, i64_w, i32_w]; rfl);refine done_ (done_of HT_.out (by kernel_rfl)) ?_;try go_wp2
          go_ret
          exact ⟨by first | rfl | (simp [errW_none, errW_some] <;> rfl) | (simp [*, errW_none, errW_some] <;> rfl), by repeat (first | (with_reducible first | exact HB.out | apply bwA | apply bwN | apply bw1) | exact HB.out)⟩
       ·rw [if_neg c8] at H;exact absurd H (by simp)
      ·replace c6 := Bool.eq_false_iff.mpr c6
       subst c6;have H1 : (some 8) = some r := by rw [if_neg (show ¬ (false = true) by decide)] at H; exact H
       clear H;have H := H1;clear H1;obtain rfl := Option.some.inj H;have p472 : 0 ≤ (x3_1 : Int) := of_decide_eq_true (by first | (with_reducible assumption) | assumption);have q472 : x3_1 < (l0.length : Int) := of_decide_eq_true (by first | (with_reducible assumption) | assumption);obtain ⟨ad472, e472, hx472_0, hx472_1, hx472_2⟩ := at_T121 HR0.out x3_1 p472 q472;cases e472;replace hx472_0 := (HB.out.cell (World.block_lt_of_cell? w _ hx472_0)).trans hx472_0
       replace hx472_1 := (HB.out.cell (World.block_lt_of_cell? w _ hx472_1)).trans hx472_1
       replace hx472_2 := (HB.out.cell (World.block_lt_of_cell? w _ hx472_2)).trans hx472_2
       replace p472 := eq_true p472
       replace q472 := eq_true q472
       go_wp2_with (first | ((with_reducible refine gtC (f := 87) rfl ?_); refine goesL_ (some 19) rfl rfl Tryd.func87 (by kernel_rfl) rfl #[.string ((rd_T121 l0 x3_1).f0)] rfl (by (try simp only [List.map_toArray, List.map_cons, List.map_nil]); first | done | rfl | (simp only [List.length_drop, List.length_take]; rfl)) ?_; (with_reducible refine (cr1_IsName.calls k1 ((rd_T121 l0 x3_1).f0) false _ A5.out).mono ?_); rintro e w' ⟨rfl, ⟨nd, rfl⟩⟩; refine ⟨_, rfl, ?_⟩))
       go_ret
       exact ⟨by first | rfl | (simp [errW_none, errW_some] <;> rfl) | (simp [*, errW_none, errW_some] <;> rfl), by repeat (first | (with_reducible first | exact HB.out | apply bwA | apply bwN | apply bw1) | exact HB.out)⟩
     ·rw [if_neg c4] at H;exact absurd H (by simp)
    ·rw [if_neg c3] at H;have c3b0 : decide (x3_1 < (l0.length : Int)) = false := decide_eq_false c3;clear c3;obtain rfl := Option.some.inj H;go_wp2
     go_ret
     exact ⟨by first | rfl | (simp [errW_none, errW_some] <;> rfl) | (simp [*, errW_none, errW_some] <;> rfl), by repeat (first | (with_reducible first | exact HB.out | apply bwA | apply bwN | apply bw1) | exact HB.out)⟩
end Go.Proofs.YtppighiaffppkaaDoor.H
end
section
namespace Go.Proofs.YtppighiaffppkaaDoor.H
open Go.RowKit Go.Proofs.YtppighiaffppkaaDoorW.PrintWords Go.Proofs.YtppighiaffppkaaDoorW.PrintLast Go.Proofs.YtppighiaffppkaaDoorW.PrintMore
attribute [local go_sem] max2_int min2_int max_two min_two max_three min_three max_four min_four
set_option linter.unusedVariables false
set_option linter.unusedSimpArgs false
mutual
def cr6_ShortLines.j0 : Nat → List (S119) → Bool → Option (Bool)
 | 0, _, _ => none
 | k + 1, x0, x14 => if x14 = true then (some false) else (cr6_ShortLines.l0 k x0 0)
def cr6_ShortLines.l0 : Nat → List (S119) → Int → Option (Bool)
 | 0, _, _ => none
 | k + 1, x0, x5 => if x5 < (x0.length : Int) then (if 0 ≤ x5 then (if (((rd_T119 x0 x5).f3).size : Int) > 40 then (some false) else (cr6_ShortLines.l0 k x0 (wrap64 (x5 + 1)))) else (none)) else (some true)
end
def cr6_ShortLines.f (k : Nat) (l0 : List (S119)) (a1 : Int) : Option (Bool) := if (l0.length : Int) > a1 then (cr6_ShortLines.j0 k l0 ((l0.length : Int) != 65)) else (cr6_ShortLines.j0 k l0 false)
set_option maxHeartbeats 8000000 in
set_option maxRecDepth 100000 in
theorem cr6_ShortLines.calls (k : Nat) (A0 : Option Addr) (c0 : Nat) (l0 : List (S119)) (a1 : Int) (r : Bool) (w : World) (hr0 : Kd.C k119 w A0 l0.length l0) (hc0 : l0.length ≤ c0) (h : cr6_ShortLines.f k l0 a1 = some r) :
  Calls Tryd.prog 60 #[.slice A0 l0.length c0, .int .i64 a1] w fun e w' => e = .returned (.bool r) ∧ Drawn0 w w' := by
 have HR0 := Z0.mk hr0
 have HC0 := Z0.mk hc0
 clear hr0 hc0
 have H : (if (l0.length : Int) > a1 then (cr6_ShortLines.j0 k l0 ((l0.length : Int) != 65)) else (cr6_ShortLines.j0 k l0 false)) = some r := h
 clear h
 have HC3 := Z0.mk H
 clear H
 go_enter Tryd.func60, Tryd.ntmps60
 go_upto_region 1 with (fail)
 go_cut [14] (fun v14 wc => ∃ (kq : Nat) (x14_2 : Bool), v14 = .bool x14_2 ∧ Z0 (cr6_ShortLines.j0 kq l0 x14_2 = some r) ∧ Z0 (kq ≤ k) ∧ Drawn0 w wc)
 case first =>
  have H := HC3.out;clear HC3;by_cases c4 : (l0.length : Int) > a1
  ·rw [if_pos c4] at H;have c4b0 : decide (a1 < (l0.length : Int)) = true := decide_eq_true c4;clear c4;(first | rw [c4b0] | (simp only [i64_w, i32_w]; rw [c4b0]) | skip)
   have H' := Z0.mk H;clear H;go_wp2
   go_meet
   case rel => exact ⟨_, (((l0.length : Int) != 65)), (by first | rfl | (simp; done) | (simp [*]; done)), H', ⟨by first | omega | exact Nat.le_refl _⟩, by repeat (first | exact Drawn0.refl _ | apply Drawn0.step)⟩
  ·rw [if_neg c4] at H;have c4b0 : decide (a1 < (l0.length : Int)) = false := decide_eq_false c4;clear c4;(first | rw [c4b0] | (simp only [i64_w, i32_w]; rw [c4b0]) | skip)
   have H' := Z0.mk H;clear H;go_wp2
   go_meet
   case rel => exact ⟨_, (false), (by first | rfl | (simp; done) | (simp [*]; done)), H', ⟨by first | omega | exact Nat.le_refl _⟩, by repeat (first | exact Drawn0.refl _ | apply Drawn0.step)⟩
 case rest =>
  clear HC3;try clear p2
  try clear c4
  try clear c4b0
  obtain ⟨kq, x14_2, rfl, HA, HJ2, ⟨mc2, rfl⟩⟩ := hcut;cases kq with
  | zero => exact absurd HA.out (by simp [cr6_ShortLines.j0])
  | succ kj2 =>
   have H := HA.out;clear HA;simp only [cr6_ShortLines.j0] at H;by_cases c5 : x14_2 = true
   ·subst c5;have H1 : (some false) = some r := by rw [if_pos rfl] at H; exact H
    clear H;have H := H1;clear H1;obtain rfl := Option.some.inj H;go_wp2
    go_ret
    exact ⟨by first | rfl | (simp; done) | (simp [*]; done), by repeat (first | exact Drawn0.refl _ | apply Drawn0.step)⟩
   ·replace c5 := Bool.eq_false_iff.mpr c5
    subst c5;have H1 : (cr6_ShortLines.l0 kj2 l0 0) = some r := by rw [if_neg (show ¬ (false = true) by decide)] at H; exact H
    clear H;have H := H1;clear H1;have H' := Z0.mk H;clear H;go_wp2
    go_loopg [5] kj2 (fun kq v5 w' => ∃ (x5_2 : Int), v5 = .int .i64 x5_2 ∧ Z0 (cr6_ShortLines.l0 kq l0 x5_2 = some r) ∧ Z0 (kq ≤ kj2) ∧ Drawn0 w w')
    case atStart => exact ⟨(0), (by first | rfl | (simp; done) | (simp [*]; done)), H', ⟨Nat.le_refl _⟩, by repeat (first | exact Drawn0.refl _ | apply Drawn0.step)⟩
    case round =>
     clear H';try clear c2
     try clear p2
     try clear c4
     try clear c4b0
     try clear c5
     try clear p2
     obtain ⟨x5_2, rfl, HA, HK2, ⟨m2, rfl⟩⟩ := hrel;cases gk with
     | zero => exact absurd HA.out (by simp [cr6_ShortLines.l0])
     | succ k2 =>
      have H := HA.out;clear HA;simp only [cr6_ShortLines.l0] at H;by_cases c6 : x5_2 < (l0.length : Int)
      ·rw [if_pos c6] at H;have c6b0 : decide (x5_2 < (l0.length : Int)) = true := decide_eq_true c6;clear c6;by_cases c7 : 0 ≤ x5_2
       ·rw [if_pos c7] at H;have c7b0 : decide (0 ≤ x5_2) = true := decide_eq_true c7;clear c7;by_cases c8 : (((rd_T119 l0 x5_2).f3).size : Int) > 40
        ·rw [if_pos c8] at H;have c8b0 : decide (40 < (((rd_T119 l0 x5_2).f3).size : Int)) = true := decide_eq_true c8;have c8b1 : decide (40 < ((rd_T119 l0 x5_2).f3).size) = true := decide_eq_true (by omega);clear c8;obtain rfl := Option.some.inj H;have p540 : 0 ≤ (x5_2 : Int) := of_decide_eq_true (by first | (with_reducible assumption) | assumption);have q540 : x5_2 < (l0.length : Int) := of_decide_eq_true (by first | (with_reducible assumption) | assumption);obtain ⟨ad540, e540, hx540_0, hx540_1, hx540_2, hx540_3⟩ := at_T119 HR0.out x5_2 p540 q540;cases e540;replace p540 := eq_true p540
         replace q540 := eq_true q540
         go_wp2
         go_ret
         exact ⟨by first | rfl | (simp; done) | (simp [*]; done), by repeat (first | exact Drawn0.refl _ | apply Drawn0.step)⟩
        ·rw [if_neg c8] at H;have c8b0 : decide (40 < (((rd_T119 l0 x5_2).f3).size : Int)) = false := decide_eq_false c8;have c8b1 : decide (40 < ((rd_T119 l0 x5_2).f3).size) = false := decide_eq_false (by omega);clear c8;have H' := Z0.mk H;clear H;have p540 : 0 ≤ (x5_2 : Int) := of_decide_eq_true (by first | (with_reducible assumption) | assumption);have q540 : x5_2 < (l0.length : Int) := of_decide_eq_true (by first | (with_reducible assumption) | assumption);obtain ⟨ad540, e540, hx540_0, hx540_1, hx540_2, hx540_3⟩ := at_T119 HR0.out x5_2 p540 q540;cases e540;replace p540 := eq_true p540
         replace q540 := eq_true q540
         go_wp2
         go_roundg k2
         case measure => have := HJ2.out; have := HK2.out; omega
         case rel => exact ⟨(wrap64 (x5_2 + 1)), (by first | rfl | (simp; done) | (simp [*]; done)), H', ⟨by have := HJ2.out; have := HK2.out; omega⟩, by repeat (first | exact Drawn0.refl _ | apply Drawn0.step)⟩
       ·rw [if_neg c7] at H;exact absurd H (by simp)
      ·rw [if_neg c6] at H;have c6b0 : decide (x5_2 < (l0.length : Int)) = false := decide_eq_false c6;clear c6;obtain rfl := Option.some.inj H;go_wp2
       go_ret
       exact ⟨by first | rfl | (simp; done) | (simp [*]; done), by repeat (first | exact Drawn0.refl _ | apply Drawn0.step)⟩
end Go.Proofs.YtppighiaffppkaaDoor.H
end
section
namespace Go.Proofs.YtppighiaffppkaaDoor.H
open Go.RowKit Go.Proofs.YtppighiaffppkaaDoorW.PrintWords Go.Proofs.YtppighiaffppkaaDoorW.PrintLast Go.Proofs.YtppighiaffppkaaDoorW.PrintMore
attribute [local go_sem] max2_int min2_int max_two min_two max_three min_three max_four min_four
set_option linter.unusedSimpArgs false
set_option linter.unusedVariables false
def cl6_lines.l0 : Nat → List (S133) → List (S119) → Int → Int → Option ((List (S133)))
 | 0, _, _, _, _ => none
 | k + 1, x3, x6, x7, x8 => if x8 < x7 then (if 0 ≤ x8 then (if x8 < (x6.length : Int) then (if x3.length < 3518437208883 then (cl6_lines.l0 k (x3 ++ [(⟨(rd_T119 x6 x8).f0, (rd_T119 x6 x8).f1, (rd_T119 x6 x8).f2, (rd_T119 x6 x8).f3⟩ : S133)]) x6 x7 (wrap64 (x8 + 1))) else (none)) else (none)) else (none)) else (some x3)
def cl6_lines.f (k : Nat) (l0 : List (S119)) : Option ((List (S133))) := cl6_lines.l0 k ([] : List (S133)) l0 (l0.length : Int) 0
set_option maxHeartbeats 8000000 in
set_option maxRecDepth 100000 in
theorem cl6_lines.calls (k : Nat) (A0 : Option Addr) (c0 : Nat) (l0 : List (S119)) (r : List (S133)) (w : World) (hr0 : Kd.C k119 w A0 l0.length l0) (hc0 : l0.length ≤ c0) (h : cl6_lines.f k l0 = some r) :
  Calls Tryd.prog 62 #[.slice A0 l0.length c0] w fun e w' => ∃ v0_ : Value, e = .returned (v0_) ∧ Kd.R k133 133 w' w.heap.size (fun _ => True) v0_ r ∧ Below w.heap.size w w' := by
 have hu119 := Tryd.underlying119
 have HR0 := Z0.mk hr0
 have HC0 := Z0.mk hc0
 clear hr0 hc0
 have HB := Z0.mk (Below.refl w.heap.size w)
 have H : (cl6_lines.l0 k ([] : List (S133)) l0 (l0.length : Int) 0) = some r := h
 clear h
 have H' := Z0.mk H
 clear H
 go_enter Tryd.func62, Tryd.ntmps62
 go_wp2
 go_loopg [3, 8] k (fun kq v3 v8 w' => ∃ (x3_1 : List (S133)) (x8_1 : Int), v8 = .int .i64 x8_1 ∧ Z0 (cl6_lines.l0 kq x3_1 l0 (l0.length : Int) x8_1 = some r) ∧ Z0 (kq ≤ k) ∧ Z0 (Kd.R k133 133 w' w.heap.size (fun _ => True) v3 x3_1) ∧ Z0 (Below w.heap.size w w'))
 case atStart => exact ⟨(([] : List (S133))), (0), (by first | rfl | (simp; done) | (simp [*]; done)), H', ⟨Nat.le_refl _⟩, ⟨by first | exact Kd.R_nil _ _ _ _ _ | exact Kd.N_nil _ _ _ _ _ | exact Kd.V_nil _ _ _ _ _ | exact Kd.Q_nil _ _ _ _ _ | exact Kd.S_nil _ _ _ _ _⟩, ⟨by repeat (first | (with_reducible first | exact HB.out | apply bwA | apply bwN | apply bw1) | exact HB.out)⟩⟩
 case round =>
  clear H';obtain ⟨x3_1, x8_1, rfl, HA, HK1, HO_3, HB⟩ := hrel;cases gk with
  | zero => exact absurd HA.out (by simp [cl6_lines.l0])
  | succ k1 =>
   have H := HA.out;clear HA;simp only [cl6_lines.l0] at H;by_cases c2 : x8_1 < (l0.length : Int)
   ·rw [if_pos c2] at H;have c2b0 : decide (x8_1 < (l0.length : Int)) = true := decide_eq_true c2;clear c2;by_cases c3 : 0 ≤ x8_1
    ·rw [if_pos c3] at H;have c3b0 : decide (0 ≤ x8_1) = true := decide_eq_true c3;clear c3;by_cases c4 : x8_1 < (l0.length : Int)
     ·rw [if_pos c4] at H;have c4b0 : decide (x8_1 < (l0.length : Int)) = true := decide_eq_true c4;clear c4;by_cases c5 : x3_1.length < 3518437208883
      ·rw [if_pos c5] at H;have LMc5 := Z0.mk c5;clear c5;obtain ⟨y543, hy543⟩ : ∃ y_ : List (S133), y_ = (x3_1 ++ [(⟨(rd_T119 l0 x8_1).f0, (rd_T119 l0 x8_1).f1, (rd_T119 l0 x8_1).f2, (rd_T119 l0 x8_1).f3⟩ : S133)]) := ⟨_, rfl⟩;replace H : (cl6_lines.l0 k1 y543 l0 (l0.length : Int) (wrap64 (x8_1 + 1))) = some r := by first | (rw [hy543]; with_reducible exact H) | (have H2_ := (Option.bind_some _ _).symm.trans H; rw [hy543]; with_reducible exact H2_) | (have H2_ := (Option.bind_some _ _).symm.trans H; with_reducible exact H2_) | with_reducible exact H | (rw [hy543]; exact H) | exact H
       have Ny543 := Z0.mk hy543;clear hy543;have H' := Z0.mk H;clear H;have p541 : 0 ≤ (x8_1 : Int) := of_decide_eq_true (by first | (with_reducible assumption) | assumption);have q541 : x8_1 < (l0.length : Int) := of_decide_eq_true (by first | (with_reducible assumption) | assumption);obtain ⟨ad541, e541, hx541_0, hx541_1, hx541_2, hx541_3⟩ := at_T119 HR0.out x8_1 p541 q541;cases e541;replace hx541_0 := (HB.out.cell (World.block_lt_of_cell? w _ hx541_0)).trans hx541_0
       replace hx541_1 := (HB.out.cell (World.block_lt_of_cell? w _ hx541_1)).trans hx541_1
       replace hx541_2 := (HB.out.cell (World.block_lt_of_cell? w _ hx541_2)).trans hx541_2
       replace hx541_3 := (HB.out.cell (World.block_lt_of_cell? w _ hx541_3)).trans hx541_3
       replace p541 := eq_true p541
       replace q541 := eq_true q541
       go_wp2_with (first | ((with_reducible refine gtD (N := 5) rfl ?_); refine bxE ?hg (N := 5) ?hd (cs := #[.int .i64 0, .int .i64 0, .int .i64 0, .string (⟨#[]⟩ : ByteArray)]) (t := 119) ?hr ?_; (case hd => rfl); (case hg => rfl); (case hr => first | (go_simp; done) | (go_simp; rfl)); intro gb542 hg w6 hbox hb; have n0_ := Z0.mk (Kd.R_below (by (with_reducible repeat (first | apply Kd.R_alloc | apply Kd.R_drewN | apply Kd.R_drew)); exact HO_3.out) hb); have n1_ := Z0.mk (bwT (by repeat (first | (with_reducible first | exact HB.out | apply bwA | apply bwN | apply bw1) | exact HB.out)) hb); have n2_ := Z0.mk (hbox); have n3_ := Z0.mk ((by rw [hg]; exact (bwZ (by repeat (first | (with_reducible first | exact HB.out | apply bwA | apply bwN | apply bw1) | exact HB.out))) : w.heap.size ≤ gb542)); have n4_ := Z0.mk ((by rw [hg]; exact (bwZ (by repeat (first | (with_reducible first | exact HB.out | apply bwA | apply bwN | apply bw1) | exact HB.out))) : w.heap.size ≤ gb542)); clear HO_3 HB; have HO_3 := n0_; have HB := n1_; have BK542 := n2_; have GW542 := n3_; have GE542 := n4_; clear n0_ n1_ n2_ n3_ n4_; clear hb hbox hg; have hcz7_0 : w6.cell? ⟨gb542, 0, none⟩ = some (.int .i64 0) := (bkC BK542.out 0).trans rfl; have hcz7_1 : w6.cell? ⟨gb542, 1, none⟩ = some (.int .i64 0) := (bkC BK542.out 1).trans rfl; have hcz7_2 : w6.cell? ⟨gb542, 2, none⟩ = some (.int .i64 0) := (bkC BK542.out 2).trans rfl; have hcz7_3 : w6.cell? ⟨gb542, 3, none⟩ = some (.string (⟨#[]⟩ : ByteArray)) := (bkC BK542.out 3).trans rfl; have hfz7_0 := bkZ BK542.out 0; have hfz7_1 := bkZ BK542.out 1; have hfz7_2 := bkZ BK542.out 2; have hfz7_3 := bkZ BK542.out 3) | ((with_reducible refine gate_builtin (b := .append) (xs := #[.tmp 12, .tmp 14]) rfl ?_); at_builtin; refine Kd.R_append k133 (w0 := w) w.heap.size rfl (.tmp 12) (.tmp 14) 99 133 (.agg #[(.int .i64 0), (.int .i64 0), (.int .i64 0), (.string ⟨#[]⟩)]) 40 rfl Tryd.underlying99 info133 rfl (by decide) (by omega) u3 x3_1 (⟨(rd_T119 l0 x8_1).f0, (rd_T119 l0 x8_1).f1, (rd_T119 l0 x8_1).f2, (rd_T119 l0 x8_1).f3⟩ : S133) [.int .i64 ((rd_T119 l0 x8_1).f0), .int .i64 ((rd_T119 l0 x8_1).f1), .int .i64 ((rd_T119 l0 x8_1).f2), .string ((rd_T119 l0 x8_1).f3)] (fun _ => True) (fun _ => False) rfl (by first | (go_simp; done) | (go_simp; rfl)) ?aP (fun _ hk => hk.elim) ?aF ?aO ?aB ?aS ?aL ?_; (case aP => exact k133_mkM _ _ _ (⟨(rd_T119 l0 x8_1).f0, (rd_T119 l0 x8_1).f1, (rd_T119 l0 x8_1).f2, (rd_T119 l0 x8_1).f3⟩ : S133)); (case aB => exact (by repeat (first | (with_reducible first | exact HB.out | apply bwA | apply bwN | apply bw1 | refine bwS ?_ GE542.out) | exact HB.out))); (case aF => exact (fun _ _ => trivial)); (case aO => exact (by (with_reducible repeat (first | apply Kd.R_alloc | apply Kd.R_drewN | apply Kd.R_drew)); exact Kd.R_mono (Kd.R_far (p := ⟨gb542, 3, none⟩) (Kd.R_far (p := ⟨gb542, 2, none⟩) (Kd.R_far (p := ⟨gb542, 1, none⟩) (Kd.R_far (p := ⟨gb542, 0, none⟩) (Kd.R_types HO_3.out BK542.out (by decide)) (fun _ hk => hk.2) (.int .i64 ((rd_T119 l0 x8_1).f0))) (fun _ hk => hk.2) (.int .i64 ((rd_T119 l0 x8_1).f1))) (fun _ hk => hk.2) (.int .i64 ((rd_T119 l0 x8_1).f2))) (fun _ hk => hk.2) (.string ((rd_T119 l0 x8_1).f3))) (fun _ hk => trivial))); (case aS => exact (bwZ (by repeat (first | (with_reducible first | exact HB.out | apply bwA | apply bwN | apply bw1 | refine bwS ?_ GE542.out) | exact HB.out)))); (case aL => have := LMc5.out; omega); intro v544 w8 ho hb hg hat; rw [← Ny543.out] at ho; have n0_ := Z0.mk (blk_grown (g := gb542) (o := .cells #[.int .i64 ((rd_T119 l0 x8_1).f0), .int .i64 ((rd_T119 l0 x8_1).f1), .int .i64 ((rd_T119 l0 x8_1).f2), .string ((rd_T119 l0 x8_1).f3)] 119 (0, 0)) (by (with_reducible repeat (first | refine bkN ?_ _ | refine bkD ?_ | refine bkA ?_ _)); refine bkP (cs := #[.int .i64 ((rd_T119 l0 x8_1).f0), .int .i64 ((rd_T119 l0 x8_1).f1), .int .i64 ((rd_T119 l0 x8_1).f2), .string (⟨#[]⟩ : ByteArray)]) ?_ 3 _ rfl; (with_reducible repeat (first | refine bkN ?_ _ | refine bkD ?_ | refine bkA ?_ _)); refine bkP (cs := #[.int .i64 ((rd_T119 l0 x8_1).f0), .int .i64 ((rd_T119 l0 x8_1).f1), .int .i64 0, .string (⟨#[]⟩ : ByteArray)]) ?_ 2 _ rfl; (with_reducible repeat (first | refine bkN ?_ _ | refine bkD ?_ | refine bkA ?_ _)); refine bkP (cs := #[.int .i64 ((rd_T119 l0 x8_1).f0), .int .i64 0, .int .i64 0, .string (⟨#[]⟩ : ByteArray)]) ?_ 1 _ rfl; (with_reducible repeat (first | refine bkN ?_ _ | refine bkD ?_ | refine bkA ?_ _)); refine bkP (cs := #[.int .i64 0, .int .i64 0, .int .i64 0, .string (⟨#[]⟩ : ByteArray)]) ?_ 0 _ rfl; (with_reducible repeat (first | refine bkN ?_ _ | refine bkD ?_ | refine bkA ?_ _)); exact BK542.out) hg (Kd.R_ne HO_3.out BK542.out (by decide))); have n1_ := Z0.mk (hb); have n2_ := Z0.mk (ho); clear BK542 HB HO_3; have BK542 := n0_; have HB := n1_; have HO545 := n2_; clear n0_ n1_ n2_; clear ho hb hg hat))
       go_roundg k1
       case measure => have := HK1.out; omega
       case rel => exact ⟨(y543), (wrap64 (x8_1 + 1)), (by first | rfl | (simp; done) | (simp [*]; done)), H', ⟨by have := HK1.out; omega⟩, ⟨by (with_reducible repeat (first | apply Kd.R_alloc | apply Kd.R_drewN | apply Kd.R_drew)); exact HO545.out⟩, ⟨by repeat (first | (with_reducible first | exact HB.out | apply bwA | apply bwN | apply bw1 | refine bwS ?_ GE542.out) | exact HB.out)⟩⟩
      ·rw [if_neg c5] at H;exact absurd H (by simp)
     ·rw [if_neg c4] at H;exact absurd H (by simp)
    ·rw [if_neg c3] at H;exact absurd H (by simp)
   ·rw [if_neg c2] at H;have c2b0 : decide (x8_1 < (l0.length : Int)) = false := decide_eq_false c2;clear c2;obtain rfl := Option.some.inj H;go_wp2
    go_ret
    exact ⟨_, by first | rfl | (simp [errW_none, errW_some] <;> rfl) | (simp [*, errW_none, errW_some] <;> rfl), by (with_reducible repeat (first | apply Kd.R_alloc | apply Kd.R_drewN | apply Kd.R_drew)); exact HO_3.out, by repeat (first | (with_reducible first | exact HB.out | apply bwA | apply bwN | apply bw1) | exact HB.out)⟩
end Go.Proofs.YtppighiaffppkaaDoor.H
end
