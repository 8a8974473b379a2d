/- What the statement HangFloors needs beyond the common part: walks of the functions that it calls, the plain law, the row and its card, part 0. Condition: the laid table hang.tens, as the card ties it. -/
import Derived.Test.YtppighiaffppkaaDoorRows
import Derived.Test.YtppighiaffppkaaDoorCards
import Derived.Test.YtppighiaffppkaaDoorTie
import Derived.WalkKit
import Derived.ProofKit
import Derived.OpenShut
import Derived.ShutString
import Derived.ChangeOld
import Derived.Below
import Derived.SizedLaws
import Derived.LaidMore
import Derived.Stop.Joined
import Derived.SevenTiedAt
import Derived.Test.YtppighiaffppkaaDoorZA8
section
namespace Go.Proofs.YtppighiaffppkaaDoor.H
open Go.RowKit Go.Proofs.YtppighiaffppkaaDoorW.PrintWords Go.Proofs.YtppighiaffppkaaDoorW.PrintLast Go.Proofs.YtppighiaffppkaaDoorW.PrintMore
attribute [local go_sem] max2_int min2_int max_two min_two max_three min_three max_four min_four
set_option linter.unusedSimpArgs false
set_option linter.unusedVariables false
def cr6_Divisor.f : Nat → Int → Int → Option (Int)
 | 0, _, _ => none
 | k + 1, a0, a1 => if a1 = 0 then (some a0) else ((cr6_Divisor.f k a1 (Int.tmod a0 a1)).bind fun t139 => (some t139))
set_option maxHeartbeats 8000000 in
set_option maxRecDepth 100000 in
theorem cr6_Divisor.calls (k : Nat) : ∀ (a0 : Int) (a1 : Int) (r : Int) (w : World) (h : cr6_Divisor.f k a0 a1 = some r),
  Calls Tryd.prog 66 #[.int .i64 a0, .int .i64 a1] w fun e w' => e = .returned (.int .i64 r) ∧ Drawn0 w w' := by
 induction k using Nat.strongRecOn with
 | _ k ih =>
 intro a0 a1 r w h
 cases k with
 | zero => exact absurd h (by simp [cr6_Divisor.f])
 | succ k =>
 simp only [cr6_Divisor.f] at h
 have H : (if a1 = 0 then (some a0) else ((cr6_Divisor.f k a1 (Int.tmod a0 a1)).bind fun t139 => (some t139))) = some r := h
 clear h
 by_cases c3 : a1 = 0
 ·rw [if_pos c3] at H;have c3b0 : (a1 == 0) = true := beq_iff_eq.mpr c3;have c3b1 : (a1 != 0) = false := bne_eq_false_iff_eq.mpr c3;clear c3;obtain rfl := Option.some.inj H;go_enter Tryd.func66, Tryd.ntmps66;go_wp2
  go_ret
  exact ⟨by first | rfl | (simp; done) | (simp [*]; done), by repeat (first | exact Drawn0.refl _ | apply Drawn0.step)⟩
 ·rw [if_neg c3] at H;have c3b0 : (a1 == 0) = false := beq_eq_false_iff_ne.mpr c3;have c3b1 : (a1 != 0) = true := bne_iff_ne.mpr c3;replace H := Option.bind_eq_some_iff.mp H
  obtain ⟨t139, A40, H⟩ := H;try dsimp only at H
  have A4 := Z0.mk A40;clear A40;obtain rfl := Option.some.inj H;go_enter Tryd.func66, Tryd.ntmps66;go_wp2_with (first | ((with_reducible refine gtC (f := 66) rfl ?_); refine goesL_ (some 12) rfl rfl Tryd.func66 (by kernel_rfl) rfl #[.int .i64 a1, .int .i64 (Int.tmod a0 a1)] rfl (by (try simp only [List.map_toArray, List.map_cons, List.map_nil]) <;> rfl) ?_; (with_reducible refine (ih k (by omega) a1 (Int.tmod a0 a1) t139 _ A4.out).mono ?_); rintro e w' ⟨rfl, ⟨nd, rfl⟩⟩; refine ⟨_, rfl, ?_⟩))
  go_ret
  exact ⟨by first | rfl | (simp; done) | (simp [*]; done), by repeat (first | exact Drawn0.refl _ | apply Drawn0.step)⟩
def cr6_CheckSquare.j0 : Nat → Bool → Int → Int → Option (Int)
 | 0, _, _, _ => none
 | k + 1, x20, x163000, x163001 => if x20 = true then (some 3) else ((cr6_Divisor.f k x163000 x163001).bind fun t163 => (if t163 = 1 then (some 0) else (some 1)))
def cr6_CheckSquare.f (k : Nat) (a0_0 : Int) (a0_1 : Int) : Option (Int) := if a0_0 < 0 then (cr6_CheckSquare.j0 k true a0_0 a0_1) else (if a0_0 > 4000000000000 then (cr6_CheckSquare.j0 k true a0_0 a0_1) else (if a0_1 < 1 then (cr6_CheckSquare.j0 k true a0_0 a0_1) else (cr6_CheckSquare.j0 k (decide (a0_1 > 810000)) a0_0 a0_1)))
set_option maxHeartbeats 8000000 in
set_option maxRecDepth 100000 in
theorem cr6_CheckSquare.calls (k : Nat) (a0_0 : Int) (a0_1 : Int) (r : Int) (w : World) (h : cr6_CheckSquare.f k a0_0 a0_1 = some r) :
  Calls Tryd.prog 21 #[.agg #[.int .i64 a0_0, .int .i64 a0_1]] w fun e w' => e = .returned (.int .i64 r) ∧ Below w.heap.size w w' := by
 have hu24 := Tryd.underlying24
 have HB := Z0.mk (Below.refl w.heap.size w)
 have H : (if a0_0 < 0 then (cr6_CheckSquare.j0 k true a0_0 a0_1) else (if a0_0 > 4000000000000 then (cr6_CheckSquare.j0 k true a0_0 a0_1) else (if a0_1 < 1 then (cr6_CheckSquare.j0 k true a0_0 a0_1) else (cr6_CheckSquare.j0 k (decide (a0_1 > 810000)) a0_0 a0_1)))) = some r := h
 clear h
 have HC2 := Z0.mk H
 clear H
 go_enter Tryd.func21, Tryd.ntmps21
 go_upto_region 1 with (first | ((with_reducible refine gtD (N := 1) rfl ?_); refine bxE ?hg (N := 1) ?hd (cs := #[.int .i64 a0_0, .int .i64 a0_1]) (t := 24) ?hr ?_; (case hd => rfl); (case hg => rfl); (case hr => first | (go_simp; done) | (go_simp; rfl)); intro gb162 hg w3 hbox hb; have n0_ := Z0.mk (bwT (by repeat (first | (with_reducible first | exact HB.out | apply bwA | apply bwN | apply bw1) | exact HB.out)) hb); have n1_ := Z0.mk (hbox); have n2_ := Z0.mk ((by rw [hg]; exact (bwZ (by repeat (first | (with_reducible first | exact HB.out | apply bwA | apply bwN | apply bw1) | exact HB.out))) : w.heap.size ≤ gb162)); have n3_ := Z0.mk ((by rw [hg]; exact (bwZ (by repeat (first | (with_reducible first | exact HB.out | apply bwA | apply bwN | apply bw1) | exact HB.out))) : w.heap.size ≤ gb162)); clear HB; have HB := n0_; have BK162 := n1_; have GW162 := n2_; have GE162 := n3_; clear n0_ n1_ n2_ n3_; clear hb hbox hg))
 (try simp only [Act.put, List.setIfInBounds_toArray, List.set_cons_zero, List.set_cons_succ])
 go_cut [20] (fun v20 wc => ∃ (kq : Nat) (x20_1 : Bool), v20 = .bool x20_1 ∧ Z0 (cr6_CheckSquare.j0 kq x20_1 a0_0 a0_1 = some r) ∧ Z0 (kq ≤ k) ∧ Z0 (wc.heap[gb162]? = some (.cells #[.int .i64 a0_0, .int .i64 a0_1] 24 (0, 0))) ∧ Z0 (Below w.heap.size w wc))
 case first =>
  have H := HC2.out;clear HC2;by_cases c4 : a0_0 < 0
  ·rw [if_pos c4] at H;have c4b0 : decide (a0_0 < 0) = true := decide_eq_true c4;clear c4;(first | rw [c4b0] | (simp only [i64_w, i32_w]; rw [c4b0]) | skip)
   have H' := Z0.mk H;clear H;have hcz5_0 : w3.cell? ⟨gb162, 0, none⟩ = some (.int .i64 a0_0) := (bkC BK162.out 0).trans rfl;have hcz5_1 : w3.cell? ⟨gb162, 1, none⟩ = some (.int .i64 a0_1) := (bkC BK162.out 1).trans rfl;have hfz5_0 := bkZ BK162.out 0;have hfz5_1 := bkZ BK162.out 1;go_wp2
   go_meet
   case rel => exact ⟨_, (true), (by first | rfl | (simp; done) | (simp [*]; done)), H', ⟨by first | omega | exact Nat.le_refl _⟩, ⟨by (with_reducible repeat (first | refine bkN ?_ _ | refine bkD ?_ | refine bkA ?_ _)); exact BK162.out⟩, ⟨by repeat (first | (with_reducible first | exact HB.out | apply bwA | apply bwN | apply bw1 | refine bwS ?_ GE162.out) | exact HB.out)⟩⟩
  ·rw [if_neg c4] at H;have c4b0 : decide (a0_0 < 0) = false := decide_eq_false c4;clear c4;(first | rw [c4b0] | (simp only [i64_w, i32_w]; rw [c4b0]) | skip)
   by_cases c6 : a0_0 > 4000000000000
   ·rw [if_pos c6] at H;have c6b0 : decide (4000000000000 < a0_0) = true := decide_eq_true c6;clear c6;have H' := Z0.mk H;clear H;have hcz7_0 : w3.cell? ⟨gb162, 0, none⟩ = some (.int .i64 a0_0) := (bkC BK162.out 0).trans rfl;have hcz7_1 : w3.cell? ⟨gb162, 1, none⟩ = some (.int .i64 a0_1) := (bkC BK162.out 1).trans rfl;have hfz7_0 := bkZ BK162.out 0;have hfz7_1 := bkZ BK162.out 1;go_wp2
    go_meet
    case rel => exact ⟨_, (true), (by first | rfl | (simp; done) | (simp [*]; done)), H', ⟨by first | omega | exact Nat.le_refl _⟩, ⟨by (with_reducible repeat (first | refine bkN ?_ _ | refine bkD ?_ | refine bkA ?_ _)); exact BK162.out⟩, ⟨by repeat (first | (with_reducible first | exact HB.out | apply bwA | apply bwN | apply bw1 | refine bwS ?_ GE162.out) | exact HB.out)⟩⟩
   ·rw [if_neg c6] at H;have c6b0 : decide (4000000000000 < a0_0) = false := decide_eq_false c6;clear c6;by_cases c8 : a0_1 < 1
    ·rw [if_pos c8] at H;have c8b0 : decide (a0_1 < 1) = true := decide_eq_true c8;clear c8;have H' := Z0.mk H;clear H;have hcz9_0 : w3.cell? ⟨gb162, 0, none⟩ = some (.int .i64 a0_0) := (bkC BK162.out 0).trans rfl;have hcz9_1 : w3.cell? ⟨gb162, 1, none⟩ = some (.int .i64 a0_1) := (bkC BK162.out 1).trans rfl;have hfz9_0 := bkZ BK162.out 0;have hfz9_1 := bkZ BK162.out 1;go_wp2
     go_meet
     case rel => exact ⟨_, (true), (by first | rfl | (simp; done) | (simp [*]; done)), H', ⟨by first | omega | exact Nat.le_refl _⟩, ⟨by (with_reducible repeat (first | refine bkN ?_ _ | refine bkD ?_ | refine bkA ?_ _)); exact BK162.out⟩, ⟨by repeat (first | (with_reducible first | exact HB.out | apply bwA | apply bwN | apply bw1 | refine bwS ?_ GE162.out) | exact HB.out)⟩⟩
    ·rw [if_neg c8] at H;have c8b0 : decide (a0_1 < 1) = false := decide_eq_false c8;clear c8;have H' := Z0.mk H;clear H;have hcz10_0 : w3.cell? ⟨gb162, 0, none⟩ = some (.int .i64 a0_0) := (bkC BK162.out 0).trans rfl;have hcz10_1 : w3.cell? ⟨gb162, 1, none⟩ = some (.int .i64 a0_1) := (bkC BK162.out 1).trans rfl;have hfz10_0 := bkZ BK162.out 0;have hfz10_1 := bkZ BK162.out 1;go_wp2
     go_meet
     case rel => exact ⟨_, (decide (a0_1 > 810000)), (by first | rfl | (simp; done) | (simp [*]; done)), H', ⟨by first | omega | exact Nat.le_refl _⟩, ⟨by (with_reducible repeat (first | refine bkN ?_ _ | refine bkD ?_ | refine bkA ?_ _)); exact BK162.out⟩, ⟨by repeat (first | (with_reducible first | exact HB.out | apply bwA | apply bwN | apply bw1 | refine bwS ?_ GE162.out) | exact HB.out)⟩⟩
 case rest =>
  clear HC2;try clear c2
  try clear p2
  try clear c4
  try clear c4b0
  try clear c6
  try clear c6b0
  try clear c8
  try clear c8b0
  try clear hcz10_0
  try clear hcz10_1
  try clear hcz5_0
  try clear hcz5_1
  try clear hcz7_0
  try clear hcz7_1
  try clear hcz9_0
  try clear hcz9_1
  try clear hfz10_0
  try clear hfz10_1
  try clear hfz5_0
  try clear hfz5_1
  try clear hfz7_0
  try clear hfz7_1
  try clear hfz9_0
  try clear hfz9_1
  obtain ⟨kq, x20_1, rfl, HA, HJ1, BK162, HB⟩ := hcut;cases kq with
  | zero => exact absurd HA.out (by simp [cr6_CheckSquare.j0])
  | succ kj1 =>
   have H := HA.out;clear HA;simp only [cr6_CheckSquare.j0] at H;by_cases c11 : x20_1 = true
   ·subst c11;have H1 : (some 3) = some r := by rw [if_pos rfl] at H; exact H
    clear H;have H := H1;clear H1;obtain rfl := Option.some.inj H;go_wp2
    go_ret
    exact ⟨by first | rfl | (simp [errW_none, errW_some] <;> rfl) | (simp [*, errW_none, errW_some] <;> rfl), by repeat (first | (with_reducible first | exact HB.out | apply bwA | apply bwN | apply bw1 | refine bwS ?_ GE162.out) | exact HB.out)⟩
   ·replace c11 := Bool.eq_false_iff.mpr c11
    subst c11;have H1 : ((cr6_Divisor.f kj1 a0_0 a0_1).bind fun t163 => (if t163 = 1 then (some 0) else (some 1))) = some r := by rw [if_neg (show ¬ (false = true) by decide)] at H; exact H
    clear H;have H := H1;clear H1;replace H := Option.bind_eq_some_iff.mp H
    obtain ⟨t163, A120, H⟩ := H;try dsimp only at H
    have A12 := Z0.mk A120;clear A120;by_cases c13 : t163 = 1
    ·rw [if_pos c13] at H;have c13b0 : (t163 == 1) = true := beq_iff_eq.mpr c13;have c13b1 : (t163 != 1) = false := bne_eq_false_iff_eq.mpr c13;clear c13;obtain rfl := Option.some.inj H;have hcz14_0 : wc.cell? ⟨gb162, 0, none⟩ = some (.int .i64 a0_0) := (bkC BK162.out 0).trans rfl;have hcz14_1 : wc.cell? ⟨gb162, 1, none⟩ = some (.int .i64 a0_1) := (bkC BK162.out 1).trans rfl;have hfz14_0 := bkZ BK162.out 0;have hfz14_1 := bkZ BK162.out 1;go_wp2_with (first | ((with_reducible refine gtC (f := 66) rfl ?_); refine goesL_ (some 25) rfl rfl Tryd.func66 (by kernel_rfl) rfl #[.int .i64 a0_0, .int .i64 a0_1] rfl (by (try simp only [List.map_toArray, List.map_cons, List.map_nil]) <;> rfl) ?_; (with_reducible refine (cr6_Divisor.calls kj1 a0_0 a0_1 t163 _ A12.out).mono ?_); rintro e w' ⟨rfl, ⟨nd, rfl⟩⟩; refine ⟨_, rfl, ?_⟩))
     go_ret
     exact ⟨by first | rfl | (simp [errW_none, errW_some] <;> rfl) | (simp [*, errW_none, errW_some] <;> rfl), by repeat (first | (with_reducible first | exact HB.out | apply bwA | apply bwN | apply bw1 | refine bwS ?_ GE162.out) | exact HB.out)⟩
    ·rw [if_neg c13] at H;have c13b0 : (t163 == 1) = false := beq_eq_false_iff_ne.mpr c13;have c13b1 : (t163 != 1) = true := bne_iff_ne.mpr c13;obtain rfl := Option.some.inj H;have hcz15_0 : wc.cell? ⟨gb162, 0, none⟩ = some (.int .i64 a0_0) := (bkC BK162.out 0).trans rfl;have hcz15_1 : wc.cell? ⟨gb162, 1, none⟩ = some (.int .i64 a0_1) := (bkC BK162.out 1).trans rfl;have hfz15_0 := bkZ BK162.out 0;have hfz15_1 := bkZ BK162.out 1;go_wp2_with (first | ((with_reducible refine gtC (f := 66) rfl ?_); refine goesL_ (some 25) rfl rfl Tryd.func66 (by kernel_rfl) rfl #[.int .i64 a0_0, .int .i64 a0_1] rfl (by (try simp only [List.map_toArray, List.map_cons, List.map_nil]) <;> rfl) ?_; (with_reducible refine (cr6_Divisor.calls kj1 a0_0 a0_1 t163 _ A12.out).mono ?_); rintro e w' ⟨rfl, ⟨nd, rfl⟩⟩; refine ⟨_, rfl, ?_⟩))
     go_ret
     exact ⟨by first | rfl | (simp [errW_none, errW_some] <;> rfl) | (simp [*, errW_none, errW_some] <;> rfl), by repeat (first | (with_reducible first | exact HB.out | apply bwA | apply bwN | apply bw1 | refine bwS ?_ GE162.out) | exact HB.out)⟩
end Go.Proofs.YtppighiaffppkaaDoor.H
end
section
namespace Go.Proofs.YtppighiaffppkaaDoor.H
open Go.RowKit Go.Proofs.YtppighiaffppkaaDoorW.PrintWords Go.Proofs.YtppighiaffppkaaDoorW.PrintLast Go.Proofs.YtppighiaffppkaaDoorW.PrintMore
set_option linter.unusedSimpArgs false
set_option linter.unusedVariables false
theorem mul_bd {a b A B : Int} (h0 : 0 ≤ a) (h1 : a ≤ A) (h2 : 0 ≤ b) (h3 : b ≤ B) : 0 ≤ a * b ∧ a * b ≤ A * B := ⟨Int.mul_nonneg h0 h2, Int.mul_le_mul h1 h3 h2 (by omega)⟩
theorem Ev.eqb {α β : Type} {x : Option α} {f : Nat → α → Option β} {a : α} {r : β} (h : x = Option.some a) (k : Ev (fun n => f n a) r) : Ev (fun n => x.bind (f n)) r := by
 subst h; exact k
theorem Ev.pos {α : Type} {c : Prop} [Decidable c] {g f : Nat → Option α} {r : α} (hc : c) (k : Ev g r) : Ev (fun n => if c then g n else f n) r := by simpa [hc] using k
theorem Ev.neg {α : Type} {c : Prop} [Decidable c] {g f : Nat → Option α} {r : α} (hc : ¬ c) (k : Ev f r) : Ev (fun n => if c then g n else f n) r := by simpa [hc] using k
theorem ref_Divisor_loop : ∀ (n k : Nat) (a b : Int), 0 ≤ a → 0 ≤ b → b.toNat ≤ n → n < k → cr6_Divisor.f k a b = some (gcdI a b) := by
 intro n
 induction n with
 | zero =>
  intro k a b ha hb hn hk;obtain ⟨k, rfl⟩ : ∃ m, k = m + 1 := ⟨k - 1, by omega⟩;obtain rfl : b = 0 := by omega
  simp only [cr6_Divisor.f];rw [if_pos trivial, gcdI_zero_right ha]
 | succ n ih =>
  intro k a b ha hb hn hk;obtain ⟨k, rfl⟩ : ∃ m, k = m + 1 := ⟨k - 1, by omega⟩;simp only [cr6_Divisor.f];by_cases h : b = 0
  ·subst h; rw [if_pos rfl, gcdI_zero_right ha]
  ·rw [if_neg h];have h1 : Int.tmod a b = a % b := Int.tmod_eq_emod_of_nonneg ha;have h2 : 0 ≤ a % b := Int.emod_nonneg _ h;have h3 : a % b < b := Int.emod_lt_of_pos _ (by omega);rw [ih k b (Int.tmod a b) hb (by omega) (by omega) (by omega), gcdI_step ha (by omega)];rfl
theorem ref_Divisor_ev (a b : Int) (ha : 0 ≤ a) (hb : 0 ≤ b) : Ev (fun k => cr6_Divisor.f k a b) (gcdI a b) :=
 ⟨b.toNat + 1, fun k hk => ref_Divisor_loop b.toNat k a b ha hb (by omega) (by omega)⟩
theorem ref_CheckSquare_ev (n d : Int) : Ev (fun k => cr6_CheckSquare.f k n d) (checkS n d) := by
 unfold cr6_CheckSquare.f checkS
 by_cases h1 : n < 0
 ·refine Ev.pos h1 (Ev.step (fun _ => rfl) (Ev.some ?_)); rw [if_pos (by omega)]
 refine Ev.neg h1 ?_
 by_cases h2 : n > 4000000000000
 ·refine Ev.pos h2 (Ev.step (fun _ => rfl) (Ev.some ?_)); rw [if_pos (by omega)]
 refine Ev.neg h2 ?_
 by_cases h3 : d < 1
 ·refine Ev.pos h3 (Ev.step (fun _ => rfl) (Ev.some ?_)); rw [if_pos (by omega)]
 refine Ev.neg h3 (Ev.step (fun _ => rfl) ?_)
 by_cases h4 : d > 810000
 ·refine Ev.pos (by simpa using h4) (Ev.some ?_); rw [if_pos (by omega)]
 refine Ev.neg (by simpa using h4) ?_
 rw [if_neg (by omega)]
 refine (ref_Divisor_ev n d (by omega) (by omega)).bind (Ev.some ?_)
 split <;> rfl
theorem checkR_ok {p q : Int} (h : checkR p q = 0) : 1 ≤ p ∧ p ≤ q ∧ q ≤ 30 ∧ gcdI p q = 1 := by
 unfold checkR at h
 split at h
 ·omega
 ·split at h
  ·omega
  ·split at h <;> omega
theorem checkS_ok {n d : Int} (h : checkS n d = 0) : 0 ≤ n ∧ n ≤ 4000000000000 ∧ 1 ≤ d ∧ d ≤ 810000 ∧ gcdI n d = 1 := by
 unfold checkS at h
 split at h
 ·omega
 ·split at h <;> omega
def ifOk (e : Int) (x : Int × Int) : Int × Int × Int := if e = 0 then (x.1, x.2, 0) else (0, 0, e)
theorem firstE_ok2 {a b : Int} (h : firstE [a, b] = 0) : a = 0 ∧ b = 0 := by
 simp only [firstE] at h
 split at h
 ·split at h
  ·exact ⟨by assumption, by assumption⟩
  ·contradiction
 ·contradiction
theorem firstE_two (a b : Int) : firstE [a, b] = if a = 0 then b else a := by
 simp only [firstE]
 split
 ·split
  ·exact Eq.symm (by assumption)
  ·rfl
 ·rfl
theorem rangeE_ok {n lo hi : Int} (h : rangeE n lo hi = 0) : lo ≤ n ∧ n ≤ hi := by
 unfold rangeE at h
 split at h
 ·omega
 ·split at h <;> omega
def cmpI (a b : Int) : Int := if a < b then -1 else if a > b then 1 else 0
theorem cmp_eq (a b : Int) : cmp_Compare_int.f a b = some (cmpI a b) := by
 unfold cmp_Compare_int.f cmp_isNaN_int.f cmpI
 simp only [Option.bind_some]
 have e : ∀ x : Int, ¬ ((x != x) = true) := fun x h => by simp at h
 rw [if_neg (e a), if_neg (e b)]
 split
 ·rfl
 ·split <;> rfl
def sqCmp (n d m e : Int) : Int := cmpI (wrap64 (n * e)) (wrap64 (m * d))
theorem hang_sqCmp_eq (n d m e : Int) : hang_Square_compare.f n d m e = some (sqCmp n d m e) := by
 unfold hang_Square_compare.f; rw [cmp_eq]; rfl
def cmpE (n d m e : Int) : Int := firstE [checkS n d, checkS m e]
theorem hang_Compare_ev (n d m e : Int) : Ev (fun k => hang_Compare.f k n d m e) (if cmpE n d m e = 0 then (sqCmp n d m e, 0) else (0, cmpE n d m e)) := by
 unfold hang_Compare.f
 refine (hang_CheckSquare_ev n d).bind ((hang_CheckSquare_ev m e).bind ((hang_first_ev _ (by simp)).bind ?_))
 have q : firstE [checkS n d, checkS m e] = cmpE n d m e := rfl
 rw [q]
 by_cases h : cmpE n d m e = 0
 ·refine Ev.pos h ?_; rw [if_pos h]; exact Ev.eqb (hang_sqCmp_eq ..) (Ev.some rfl)
 ·refine Ev.neg h ?_; rw [if_neg h]; exact Ev.some rfl
def rootE (n d c : Int) : Int := firstE [checkS n d, rangeE c 0 2]
def tenI (c : Int) : Int := if c = 0 then 1 else if c = 1 then 10 else 100
def rootN (n d c : Int) : Int := (isq (n * tenI c * tenI c / d).toNat : Int)
theorem tenI_bd (c : Int) : 1 ≤ tenI c ∧ tenI c ≤ 100 := by unfold tenI; split <;> (try split) <;> omega
theorem root_bd {n d c : Int} (h : checkS n d = 0) : wrap64 (wrap64 (n * tenI c) * tenI c) = n * tenI c * tenI c ∧ 0 ≤ n * tenI c * tenI c / d ∧ n * tenI c * tenI c / d ≤ 40000000000000000 ∧ wrap64 (Int.tdiv (n * tenI c * tenI c) d) = n * tenI c * tenI c / d := by
 obtain ⟨h1, h2, h3, h4, _⟩ := checkS_ok h
 obtain ⟨t1, t2⟩ := tenI_bd c
 have a := mul_bd (a := n) (b := tenI c) (A := 4000000000000) (B := 100) h1 h2 (by omega) t2
 have b := mul_bd (a := n * tenI c) (b := tenI c) (A := 400000000000000) (B := 100) a.1 a.2 (by omega) t2
 have w : wrap64 (n * tenI c) = n * tenI c := wrap_id (by have := a.1; omega) (by have := a.2; omega)
 have w2 : wrap64 (n * tenI c * tenI c) = n * tenI c * tenI c := wrap_id (by have := b.1; omega) (by have := b.2; omega)
 have e : Int.tdiv (n * tenI c * tenI c) d = n * tenI c * tenI c / d := Int.tdiv_eq_ediv_of_nonneg b.1
 have l1 : 0 ≤ n * tenI c * tenI c / d := Int.ediv_nonneg b.1 (by omega)
 have l2 : n * tenI c * tenI c / d ≤ n * tenI c * tenI c := Int.ediv_le_self _ b.1
 refine ⟨by rw [w, w2], l1, by have := b.2; omega, ?_⟩
 rw [e, wrap_id (by omega) (by have := b.2; omega)]
theorem isq_le {m R : Nat} (h : m < R * R) : isq m < R := by
 obtain ⟨a, _⟩ := isq_spec m
 refine Nat.lt_of_not_le fun hc => ?_
 have := Nat.mul_le_mul hc hc
 omega
theorem rootN_bd {n d c : Int} (h : checkS n d = 0) : 0 ≤ rootN n d c ∧ rootN n d c < 1000000000 := by
 obtain ⟨_, h1, h2, _⟩ := root_bd (c := c) h
 unfold rootN
 have := isq_le (m := (n * tenI c * tenI c / d).toNat) (R := 1000000000) (by omega)
 omega
def rootI (n d c : Int) : Int × Int := lowI (rootN n d c) (tenI c)
theorem tens_eq {c : Int} (h0 : 0 ≤ c) (h1 : c ≤ 2) : hang_tens.f c = some (tenI c) := by
 unfold hang_tens.f tenI
 split
 ·rfl
 ·split
  ·rfl
  ·rw [if_pos (by omega)]
theorem hang_Root_ev (n d c : Int) : Ev (fun k => hang_Root.f k n d c) (ifOk (rootE n d c) (rootI n d c)) := by
 unfold hang_Root.f ifOk
 refine (hang_CheckSquare_ev n d).bind (Ev.eqb (hang_within_eq ..) ((hang_first_ev _ (by simp)).bind ?_))
 have q : firstE [checkS n d, rangeE c 0 2] = rootE n d c := rfl
 rw [q]
 by_cases h : rootE n d c = 0
 ·obtain ⟨h1, h2⟩ := firstE_ok2 h;have hc := rangeE_ok h2;have hs := checkS_ok h1;obtain ⟨b1, b2, b3, b4⟩ := root_bd (c := c) h1;have r1 := rootN_bd (c := c) h1;have t1 := tenI_bd c;refine Ev.pos h ?_;rw [if_pos h];refine Ev.eqb (tens_eq hc.1 hc.2) (Ev.neg (by omega) ?_);rw [b1, b4];refine Ev.eqb (a := rootN n d c) ?_ ((hang_ratio_ev _ _ r1.1 (by omega) (by omega) (by omega)).bind (Ev.some rfl));unfold hang_root.f
  rw [if_pos ⟨b2, by omega⟩];rfl
 ·refine Ev.neg h ?_; rw [if_neg h]; exact Ev.some rfl
def rX (n d c : Int) : Int := n * tenI c * tenI c / d
theorem rootN_sq {n d c : Int} (h : checkS n d = 0) : rootN n d c * rootN n d c ≤ rX n d c ∧ rX n d c < (rootN n d c + 1) * (rootN n d c + 1) ∧ 0 ≤ rX n d c ∧ rX n d c ≤ 40000000000000000 ∧ 0 ≤ rootN n d c ∧ rootN n d c < 1000000000 := by
 obtain ⟨_, b2, b3, _⟩ := root_bd (c := c) h
 have r := rootN_bd (c := c) h
 obtain ⟨q1, q2⟩ := isq_spec (n * tenI c * tenI c / d).toNat
 have e : rootN n d c = ((isq (n * tenI c * tenI c / d).toNat : Nat) : Int) := rfl
 have ex : rX n d c = (((n * tenI c * tenI c / d).toNat : Nat) : Int) := by unfold rX; omega
 refine ⟨?_, ?_, b2, b3, r.1, r.2⟩
 ·rw [e, ex, ← Int.natCast_mul]; exact Int.ofNat_le.2 q1
 ·rw [e, ex];have : (((isq (n * tenI c * tenI c / d).toNat + 1) * (isq (n * tenI c * tenI c / d).toNat + 1) : Nat) : Int) = ((isq (n * tenI c * tenI c / d).toNat : Nat) + 1 : Int) * ((isq (n * tenI c * tenI c / d).toNat : Nat) + 1 : Int) := by rw [Int.natCast_mul]; rfl
  rw [← this]; exact Int.ofNat_lt.2 q2
theorem root_max {N X z : Int} (h0 : 0 ≤ N) (h1 : X < (N + 1) * (N + 1)) (hz : z * z ≤ X) : z ≤ N := by
 refine Int.not_lt.1 fun hc => ?_
 have : (N + 1) * (N + 1) ≤ z * z := Int.mul_le_mul (by omega) (by omega) (by omega) (by omega)
 omega
theorem root_lt {N X z : Int} (h0 : 0 ≤ z) (h1 : N * N ≤ X) (hz : X < z * z) : N < z := by
 refine Int.not_le.1 fun hc => ?_
 have : z * z ≤ N * N := Int.mul_le_mul hc hc h0 (by omega)
 omega
theorem rX_mono {n d m e c : Int} (ha : checkS n d = 0) (hb : checkS m e = 0) (h : n * e ≤ m * d) : rX n d c ≤ rX m e c := by
 obtain ⟨a1, a2, a3, a4, _⟩ := checkS_ok ha
 obtain ⟨b1, b2, b3, b4, _⟩ := checkS_ok hb
 have t := tenI_bd c
 have r := rootN_sq (c := c) ha
 unfold rX
 have T0 : 0 ≤ tenI c * tenI c := Int.mul_nonneg (by omega) (by omega)
 have x1 : n * tenI c * tenI c / d * d ≤ n * tenI c * tenI c := Int.ediv_mul_le _ (by omega)
 refine Int.le_ediv_of_mul_le (by omega) ?_
 have e1 : n * tenI c * tenI c / d * d * e ≤ n * tenI c * tenI c * e := Int.mul_le_mul_of_nonneg_right x1 (by omega)
 have e2 : n * tenI c * tenI c * e = n * e * (tenI c * tenI c) := by
  rw [Int.mul_assoc n, Int.mul_right_comm]
 have e3 : n * e * (tenI c * tenI c) ≤ m * d * (tenI c * tenI c) := Int.mul_le_mul_of_nonneg_right h T0
 have e4 : m * d * (tenI c * tenI c) = m * tenI c * tenI c * d := by
  rw [Int.mul_assoc m (tenI c), Int.mul_right_comm]
 have e5 : n * tenI c * tenI c / d * e * d ≤ m * tenI c * tenI c * d := by
  rw [Int.mul_right_comm]; omega
 exact Int.le_of_mul_le_mul_right e5 (by omega)
theorem root_mono {n d m e c : Int} (ha : checkS n d = 0) (hb : checkS m e = 0) (h : n * e ≤ m * d) : rootN n d c ≤ rootN m e c := by
 have a := rootN_sq (c := c) ha
 have b := rootN_sq (c := c) hb
 have := rX_mono (c := c) ha hb h
 exact root_max b.2.2.2.2.1 b.2.1 (by omega)
theorem root_next {n d c c' : Int} (h : checkS n d = 0) (ht : tenI c' = 10 * tenI c) : 10 * rootN n d c ≤ rootN n d c' ∧ rootN n d c' < 10 * (rootN n d c + 1) := by
 obtain ⟨a1, a2, a3, a4, _⟩ := checkS_ok h
 have a := rootN_sq (c := c) h
 have b := rootN_sq (c := c') h
 have ex : n * tenI c' * tenI c' = 100 * (n * tenI c * tenI c) := by
  rw [ht, Int.mul_left_comm n, Int.mul_assoc 10, Int.mul_left_comm _ 10 (tenI c), ← Int.mul_assoc 10 10]; rfl
 have x1 : rX n d c * d ≤ n * tenI c * tenI c := Int.ediv_mul_le _ (by omega)
 have x2 : n * tenI c * tenI c < (rX n d c + 1) * d := Int.lt_ediv_add_one_mul_self _ (by omega)
 constructor
 ·refine root_max b.2.2.2.2.1 b.2.1 ?_;have e1 : 10 * rootN n d c * (10 * rootN n d c) = 100 * (rootN n d c * rootN n d c) := by
   rw [Int.mul_assoc, Int.mul_left_comm (rootN n d c), ← Int.mul_assoc 10 10]; rfl
  rw [e1];have e2 : 100 * rX n d c ≤ rX n d c' := by
   show 100 * rX n d c ≤ n * tenI c' * tenI c' / d
   refine Int.le_ediv_of_mul_le (by omega) ?_;rw [ex, Int.mul_assoc]; omega
  have := a.1;omega
 ·refine root_lt (by have := a.2.2.2.2.1; omega) b.1 ?_;have e1 : 10 * (rootN n d c + 1) * (10 * (rootN n d c + 1)) = 100 * ((rootN n d c + 1) * (rootN n d c + 1)) := by
   rw [Int.mul_assoc, Int.mul_left_comm (rootN n d c + 1), ← Int.mul_assoc 10 10]; rfl
  rw [e1];have e2 : rX n d c' < 100 * (rX n d c + 1) := by
   show n * tenI c' * tenI c' / d < 100 * (rX n d c + 1)
   refine Int.ediv_lt_of_lt_mul (by omega) ?_;have e3 : 100 * (rX n d c + 1) * d = 100 * ((rX n d c + 1) * d) := Int.mul_assoc ..;rw [ex]; omega
  have := a.2.1;omega
theorem root_top {n d c : Int} (h : checkS n d = 0) : rootN n d c ≤ 3000000 * tenI c := by
 obtain ⟨a1, a2, a3, a4, _⟩ := checkS_ok h
 have a := rootN_sq (c := c) h
 have t := tenI_bd c
 refine Int.le_of_lt (root_lt (by omega) a.1 ?_)
 have e1 : rX n d c ≤ n * tenI c * tenI c := Int.ediv_le_self _ (Int.mul_nonneg (Int.mul_nonneg a1 (by omega)) (by omega))
 have tt : 1 * 1 ≤ tenI c * tenI c := Int.mul_le_mul t.1 t.1 (by omega) (by omega)
 have e2 : n * tenI c * tenI c ≤ 4000000000000 * (tenI c * tenI c) := by
  rw [Int.mul_assoc]; exact Int.mul_le_mul_of_nonneg_right a2 (by omega)
 have e3 : 3000000 * tenI c * (3000000 * tenI c) = 9000000000000 * (tenI c * tenI c) := by
  rw [Int.mul_assoc, Int.mul_left_comm (tenI c), ← Int.mul_assoc 3000000 3000000]; rfl
 rw [e3]; omega
theorem low_coprime {a b : Int} (ha : 0 ≤ a) (hb : 0 < b) : gcdI (lowI a b).1 (lowI a b).2 = 1 := by
 obtain ⟨A, rfl⟩ := Int.eq_ofNat_of_zero_le ha
 obtain ⟨B, rfl⟩ := Int.eq_ofNat_of_zero_le (Int.le_of_lt hb)
 unfold lowI gcdI
 simp only [Int.toNat_natCast]
 rw [← Int.natCast_ediv, ← Int.natCast_ediv, Int.toNat_natCast, Int.toNat_natCast]
 have : Nat.gcd (A / Nat.gcd A B) (B / Nat.gcd A B) = 1 := Nat.coprime_div_gcd_div_gcd (Nat.gcd_pos_of_pos_right _ (by omega))
 rw [this]; rfl
theorem root_parts {n d c : Int} (h : checkS n d = 0) : 1 ≤ (rootI n d c).2 ∧ (rootI n d c).2 ≤ 100 ∧ Int.tmod (tenI c) (rootI n d c).2 = 0 ∧ 0 ≤ (rootI n d c).1 ∧ (rootI n d c).1 ≤ 3000000 * tenI c ∧ gcdI (rootI n d c).1 (rootI n d c).2 = 1 ∧ wrap64 ((rootI n d c).1 * wrap64 (Int.tdiv (tenI c) (rootI n d c).2)) = rootN n d c := by
 have a := rootN_sq (c := c) h
 have t := tenI_bd c
 have tp := root_top (c := c) h
 have g := gcdI_pos (a := rootN n d c) (b := tenI c) (Or.inr (by omega))
 obtain ⟨p, hp⟩ := gcdI_dvd_left (a := rootN n d c) (b := tenI c) a.2.2.2.2.1
 obtain ⟨q, hq⟩ := gcdI_dvd_right (a := rootN n d c) (b := tenI c) (by omega)
 have ep : (rootI n d c).1 = p := Int.ediv_eq_of_eq_mul_right (by omega) hp
 have eq : (rootI n d c).2 = q := Int.ediv_eq_of_eq_mul_right (by omega) hq
 have cop : gcdI p q = 1 := by
  have := low_coprime a.2.2.2.2.1 (show 0 < tenI c by omega);have e3 : rootI n d c = (p, q) := Prod.ext ep eq;unfold rootI at e3
  rw [e3] at this; exact this
 rw [ep, eq]
 clear ep eq
 generalize gcdI (rootN n d c) (tenI c) = G at g hp hq
 have q0 : 0 < q := by
  refine Int.not_le.1 fun hc => ?_
  have := Int.mul_le_mul_of_nonneg_left hc (by omega : 0 ≤ G);omega
 have p0 : 0 ≤ p := by
  refine Int.not_lt.1 fun hc => ?_
  have := Int.mul_le_mul_of_nonneg_left (show p ≤ -1 by omega) (by omega : 0 ≤ G);omega
 have pq : p ≤ rootN n d c := by
  rw [hp];have := Int.mul_le_mul_of_nonneg_right (show 1 ≤ G by omega) p0;omega
 have qt : q ≤ tenI c := by
  have := Int.mul_le_mul_of_nonneg_right (show 1 ≤ G by omega) (show 0 ≤ q by omega);omega
 have ed : Int.tdiv (tenI c) q = G := by
  rw [Int.tdiv_eq_ediv_of_nonneg (by omega), hq]; exact Int.mul_ediv_cancel _ (by omega)
 refine ⟨by omega, by omega, ?_, p0, by omega, ?_, ?_⟩
 ·rw [Int.tmod_eq_emod_of_nonneg (by omega), hq]; exact Int.mul_emod_left ..
 ·exact cop
 ·rw [ed, wrap_id (x := G) (by omega) (by
   have := Int.mul_le_mul_of_nonneg_left (show 1 ≤ q by omega) (show 0 ≤ G by omega);omega), Int.mul_comm, ← hp, wrap_id (by omega) (by omega)]
end Go.Proofs.YtppighiaffppkaaDoor.H
end
section
namespace Go.Proofs.YtppighiaffppkaaDoor.H
open Go.RowKit Go.Proofs.YtppighiaffppkaaDoorW.PrintWords Go.Proofs.YtppighiaffppkaaDoorW.PrintLast Go.Proofs.YtppighiaffppkaaDoorW.PrintMore
attribute [local go_sem] max2_int min2_int max_two min_two max_three min_three max_four min_four
set_option linter.unusedSimpArgs false
set_option linter.unusedVariables false
theorem cS_calls (W : World) {n d : Int} (h : checkS n d = 0) : Calls Tryd.prog 21 #[.agg #[.int .i64 n, .int .i64 d]] W fun e w' => e = .returned (.int .i64 0) ∧ Below W.heap.size W w' := by
 obtain ⟨K, hK⟩ := ref_CheckSquare_ev n d
 exact cr6_CheckSquare.calls K n d 0 W ((hK K (Nat.le_refl _)).trans (by rw [h]))
theorem cSr_calls {n d : Int} (W : World) : Calls Tryd.prog 21 #[.agg #[.int .i64 n, .int .i64 d]] W fun e w' => e = .returned (.int .i64 (checkS n d)) ∧ Below W.heap.size W w' := by
 obtain ⟨K, hK⟩ := ref_CheckSquare_ev n d
 exact cr6_CheckSquare.calls K n d _ W (hK K (Nat.le_refl _))
theorem rt_calls (W : World) (hG : GH W) {n d c : Int} (h : checkS n d = 0) (hc : 0 ≤ c ∧ c ≤ 2) : Calls Tryd.prog 33 #[.agg #[.int .i64 n, .int .i64 d], .int .i64 c] W fun e w' => e = .returned (.tuple #[.agg #[.int .i64 (rootI n d c).1, .int .i64 (rootI n d c).2], .int .i64 0]) ∧ Below W.heap.size W w' := by
 obtain ⟨K, hK⟩ := hang_Root_ev n d c
 have e : rootE n d c = 0 := by
  unfold rootE; rw [firstE_two, if_pos h]; unfold rangeE; rw [if_neg (by omega), if_neg (by omega)]
 have := hK K (Nat.le_refl _)
 unfold ifOk at this
 rw [if_pos e] at this
 exact hang_Root.calls K n d c _ _ 0 W hG this
theorem cp_calls (W : World) {n d m e : Int} (ha : checkS n d = 0) (hb : checkS m e = 0) : Calls Tryd.prog 32 #[.agg #[.int .i64 n, .int .i64 d], .agg #[.int .i64 m, .int .i64 e]] W fun e' w' => e' = .returned (.tuple #[.int .i64 (sqCmp n d m e), .int .i64 0]) ∧ Below W.heap.size W w' := by
 obtain ⟨K, hK⟩ := hang_Compare_ev n d m e
 have q : cmpE n d m e = 0 := by unfold cmpE; rw [firstE_two, if_pos ha, hb]
 have := hK K (Nat.le_refl _)
 rw [if_pos q] at this
 exact hang_Compare.calls K n d m e _ 0 W this
theorem dv_calls (W : World) {p q : Int} (h0 : 0 ≤ p) (h1 : 0 ≤ q) (h : gcdI p q = 1) : Calls Tryd.prog 66 #[.int .i64 p, .int .i64 q] W fun e w' => e = .returned (.int .i64 1) ∧ Below W.heap.size W w' := by
 obtain ⟨K, hK⟩ := ref_Divisor_ev p q h0 h1
 refine (cr6_Divisor.calls K p q 1 W ((hK K (Nat.le_refl _)).trans (by rw [h]))).mono fun e w' h => ⟨h.1, ?_⟩
 obtain ⟨_, nd, rfl⟩ := h
 exact bwN (Below.refl _ _) nd
def befI (n d c : Int) : Int := if c = 0 then 0 else rootN n d (c - 1)
theorem sqCmp_cases {n d m e : Int} (ha : checkS n d = 0) (hb : checkS m e = 0) : (sqCmp n d m e = -1 ∧ n * e ≤ m * d) ∨ (sqCmp n d m e = 0 ∧ n * e = m * d) ∨ (sqCmp n d m e = 1 ∧ m * d ≤ n * e) := by
 obtain ⟨a1, a2, a3, a4, _⟩ := checkS_ok ha
 obtain ⟨b1, b2, b3, b4, _⟩ := checkS_ok hb
 have x := mul_bd (a := n) (b := e) (A := 4000000000000) (B := 810000) a1 a2 (by omega) b4
 have y := mul_bd (a := m) (b := d) (A := 4000000000000) (B := 810000) b1 b2 (by omega) a4
 unfold sqCmp cmpI
 rw [wrap_id (x := n * e) (by omega) (by omega), wrap_id (x := m * d) (by omega) (by omega)]
 by_cases h : n * e < m * d
 ·rw [if_pos h]; exact Or.inl ⟨rfl, by omega⟩
 ·rw [if_neg h];by_cases g : n * e > m * d
  ·rw [if_pos g]; exact Or.inr (Or.inr ⟨rfl, by omega⟩)
  ·rw [if_neg g]; exact Or.inr (Or.inl ⟨rfl, by omega⟩)
set_option maxHeartbeats 8000000 in
set_option maxRecDepth 100000 in
theorem floors_valid (n d m e : Int) (ha : checkS n d = 0) (hb : checkS m e = 0) (w : World) (hG : GH w) :
  Calls Tryd.prog 10 #[.agg #[.int .i64 n, .int .i64 d], .agg #[.int .i64 m, .int .i64 e]] w fun e' w' => e' = .returned (.bool true) ∧ Below w.heap.size w w' := by
 have hu23 := Tryd.underlying23
 have hu24 := Tryd.underlying24
 have hu25 := Tryd.underlying25
 have HA := Z0.mk ha
 have HC := Z0.mk hb
 have HG := Z0.mk hG
 clear ha hb hG
 go_enter Tryd.func10, Tryd.ntmps10
 go_upto_region 1 with (fail)
 have B2 := Z0.mk (bkA (blk_new w (.cells #[.int .i64 n, .int .i64 d] 24 (0, 0))) (.cells #[.int .i64 m, .int .i64 e] 24 (0, 0)))
 have B3 : Z0 (((w.alloc (.cells #[.int .i64 n, .int .i64 d] 24 (0, 0))).alloc (.cells #[.int .i64 m, .int .i64 e] 24 (0, 0))).heap[w.heap.size + 1]? = some (.cells #[.int .i64 m, .int .i64 e] 24 (0, 0))) := ⟨by have := blk_new (w.alloc (.cells #[.int .i64 n, .int .i64 d] 24 (0, 0))) (.cells #[.int .i64 m, .int .i64 e] 24 (0, 0)); simpa using this⟩
 have HB := Z0.mk (bwA (bwA (Below.refl w.heap.size w) (.cells #[.int .i64 n, .int .i64 d] 24 (0, 0))) (.cells #[.int .i64 m, .int .i64 e] 24 (0, 0)))
 generalize (w.alloc (.cells #[.int .i64 n, .int .i64 d] 24 (0, 0))).alloc (.cells #[.int .i64 m, .int .i64 e] 24 (0, 0)) = w1 at B2 B3 HB ⊢
 generalize w.heap.size + 1 = g3 at B3 ⊢
 generalize hgz : w.heap.size = g2 at B2 ⊢
 clear hgz
 have c20 : w1.cell? ⟨g2, 0, none⟩ = some (.int .i64 n) := (bkC B2.out 0).trans rfl
 have c21 : w1.cell? ⟨g2, 1, none⟩ = some (.int .i64 d) := (bkC B2.out 1).trans rfl
 go_upto_region 3 with (first | (go_at_call 21; (with_reducible refine (cS_calls _ HA.out).mono ?_); rintro e' W1 ⟨rfl, hb⟩; have hn := Z0.mk (bwT HB.out hb); clear HB; have HB := hn; clear hn; have hn := Z0.mk (bkB B2.out hb); clear B2; have B2 := hn; clear hn; have hn := Z0.mk (bkB B3.out hb); clear B3; have B3 := hn; clear hn c20 c21 hb; have c30 : W1.cell? ⟨g3, 0, none⟩ = some (.int .i64 m) := (bkC B3.out 0).trans rfl; have c31 : W1.cell? ⟨g3, 1, none⟩ = some (.int .i64 e) := (bkC B3.out 1).trans rfl) | (go_at_call 21; (with_reducible refine (cS_calls _ HC.out).mono ?_); rintro e' W2 ⟨rfl, hb⟩; have hn := Z0.mk (bwT HB.out hb); clear HB; have HB := hn; clear hn; have hn := Z0.mk (bkB B2.out hb); clear B2; have B2 := hn; clear hn; have hn := Z0.mk (bkB B3.out hb); clear B3; have B3 := hn; clear hn c30 c31 hb))
 go_wp2
 go_loopw [5, 25] (fun v5 v25 W => ∃ c : Int, 0 ≤ c ∧ c ≤ 3 ∧ v25 = .int .i64 c ∧ v5 = .int .i64 (befI n d c) ∧ Z0 (W.heap[g2]? = some (.cells #[.int .i64 n, .int .i64 d] 24 (0, 0))) ∧ Z0 (W.heap[g3]? = some (.cells #[.int .i64 m, .int .i64 e] 24 (0, 0))) ∧ Z0 (Below w.heap.size w W)) (fun _ v25 _ => 3 - (intOf v25).toNat)
 case atStart => exact ⟨0, by omega, by omega, rfl, by simp [befI], B2, B3, HB⟩
 case round =>
  clear B2 B3 HB;obtain ⟨c, hc0, hc3, rfl, rfl, B2, B3, HB⟩ := hrel;generalize hbv : befI n d c = bv;have Hbv := Z0.mk hbv;clear hbv;rcases (by omega : c = 3 ∨ c = 0 ∨ c = 1 ∨ c = 2) with rfl | rfl | rfl | rfl
  ·go_wp2_with (first | (go_at_call 22; (with_reducible refine (awake_calls _ (HG.out.below HB.out)).mono ?_); rintro e' W5 ⟨rfl, hb⟩; have hn := Z0.mk (bwT HB.out hb); clear HB hb; have HB := hn; clear hn))
   go_ret
   exact ⟨rfl, HB.out⟩
  ·as_aux_lemma =>
    go_upto_region 8 with (fail)
    have hn := Z0.mk (bwA HB.out (.cells #[.int .i64 1, .int .i64 10, .int .i64 100] 3 (0, 0))); clear HB; have HB := hn; clear hn;have hn := Z0.mk (bkA B2.out (.cells #[.int .i64 1, .int .i64 10, .int .i64 100] 3 (0, 0))); clear B2; have B2 := hn; clear hn;have hn := Z0.mk (bkA B3.out (.cells #[.int .i64 1, .int .i64 10, .int .i64 100] 3 (0, 0))); clear B3; have B3 := hn; clear hn;generalize wr.alloc (.cells #[.int .i64 1, .int .i64 10, .int .i64 100] 3 (0, 0)) = w7 at B2 B3 HB ⊢;have c20 : w7.cell? ⟨g2, 0, none⟩ = some (.int .i64 n) := (bkC B2.out 0).trans rfl;have c21 : w7.cell? ⟨g2, 1, none⟩ = some (.int .i64 d) := (bkC B2.out 1).trans rfl;go_upto_region 9 with (first | (go_at_call 33; (with_reducible refine (rt_calls _ (HG.out.below HB.out) HA.out ⟨by decide, by decide⟩).mono ?_); rintro e' W' ⟨rfl, hb⟩; have HH := Z0.mk hb; clear hb))
    have hn := Z0.mk (bwA HH.out (.cells #[.int .i64 (rootI n d 0).1, .int .i64 (rootI n d 0).2] 23 (0, 0))); clear HH; have HH := hn; clear hn;have B8 := Z0.mk (blk_new W' (.cells #[.int .i64 (rootI n d 0).1, .int .i64 (rootI n d 0).2] 23 (0, 0)));generalize W'.alloc (.cells #[.int .i64 (rootI n d 0).1, .int .i64 (rootI n d 0).2] 23 (0, 0)) = w8 at HH B8 ⊢;generalize W'.heap.size = g8 at B8 ⊢;have hn := Z0.mk (bkB B2.out HH.out); clear B2; have B2 := hn; clear hn;have hn := Z0.mk (bkB B3.out HH.out); clear B3; have B3 := hn; clear hn;have hn := Z0.mk (bwT HB.out HH.out); clear HB; have HB := hn; clear hn;clear HH;clear c20 c21;have c30 : w8.cell? ⟨g3, 0, none⟩ = some (.int .i64 m) := (bkC B3.out 0).trans rfl;have c31 : w8.cell? ⟨g3, 1, none⟩ = some (.int .i64 e) := (bkC B3.out 1).trans rfl;go_upto_region 10 with (first | (go_at_call 33; (with_reducible refine (rt_calls _ (HG.out.below HB.out) HC.out ⟨by decide, by decide⟩).mono ?_); rintro e' W' ⟨rfl, hb⟩; have HH := Z0.mk hb; clear hb))
    have hn := Z0.mk (bwA HH.out (.cells #[.int .i64 (rootI m e 0).1, .int .i64 (rootI m e 0).2] 23 (0, 0))); clear HH; have HH := hn; clear hn;have B10 := Z0.mk (blk_new W' (.cells #[.int .i64 (rootI m e 0).1, .int .i64 (rootI m e 0).2] 23 (0, 0)));generalize W'.alloc (.cells #[.int .i64 (rootI m e 0).1, .int .i64 (rootI m e 0).2] 23 (0, 0)) = w9 at HH B10 ⊢;generalize W'.heap.size = g10 at B10 ⊢;have hn := Z0.mk (bkB B2.out HH.out); clear B2; have B2 := hn; clear hn;have hn := Z0.mk (bkB B3.out HH.out); clear B3; have B3 := hn; clear hn;have hn := Z0.mk (bkB B8.out HH.out); clear B8; have B8 := hn; clear hn;have hn := Z0.mk (bwT HB.out HH.out); clear HB; have HB := hn; clear hn;clear HH;clear c30 c31;have c20 : w9.cell? ⟨g2, 0, none⟩ = some (.int .i64 n) := (bkC B2.out 0).trans rfl;have c21 : w9.cell? ⟨g2, 1, none⟩ = some (.int .i64 d) := (bkC B2.out 1).trans rfl;have c30 : w9.cell? ⟨g3, 0, none⟩ = some (.int .i64 m) := (bkC B3.out 0).trans rfl;have c31 : w9.cell? ⟨g3, 1, none⟩ = some (.int .i64 e) := (bkC B3.out 1).trans rfl;go_upto_region 11 with (first | (go_at_call 32; (with_reducible refine (cp_calls _ HA.out HC.out).mono ?_); rintro e' w10 ⟨rfl, hb⟩; have HH := Z0.mk hb; clear hb))
    clear c20 c21 c30 c31;have hn := Z0.mk (bkB B2.out HH.out); clear B2; have B2 := hn; clear hn;have hn := Z0.mk (bkB B3.out HH.out); clear B3; have B3 := hn; clear hn;have hn := Z0.mk (bkB B8.out HH.out); clear B8; have B8 := hn; clear hn;have hn := Z0.mk (bkB B10.out HH.out); clear B10; have B10 := hn; clear hn;have hn := Z0.mk (bwT HB.out HH.out); clear HB; have HB := hn; clear hn;clear HH;have RP := Z0.mk (root_parts (c := 0) HA.out);have RQ := Z0.mk (root_parts (c := 0) HC.out);have SQ := Z0.mk (rootN_sq (c := 0) HA.out);have SC := Z0.mk (sqCmp_cases HA.out HC.out);have M1 : Z0 (n * e ≤ m * d → rootN n d 0 ≤ rootN m e 0) := ⟨fun h => root_mono HA.out HC.out h⟩;have M2 : Z0 (m * d ≤ n * e → rootN m e 0 ≤ rootN n d 0) := ⟨fun h => root_mono HC.out HA.out h⟩;have HBV : Z0 (rootN n d 0 = befI n d 1) := ⟨by unfold befI; rw [if_neg (by decide)]; rfl⟩;generalize (rootI n d 0).1 = p at RP B8 ⊢;generalize (rootI n d 0).2 = q at RP B8 ⊢;generalize (rootI m e 0).1 = p' at RQ B10 ⊢;generalize (rootI m e 0).2 = q' at RQ B10 ⊢;generalize rootN n d 0 = N at RP SQ M1 M2 HBV;generalize rootN m e 0 = M at RQ M1 M2;generalize sqCmp n d m e = cc at SC ⊢;obtain ⟨r1, r2, r3, r4, r5, r6, r7⟩ := RP.out;obtain ⟨s1, s2, s3, s4, s5, s6, s7⟩ := RQ.out;have et : tenI 0 = 1 := rfl;rw [et] at r3 r5 r7 s3 s5 s7;clear et RP RQ;have f1 : decide (q < 1) = false := decide_eq_false (by omega);have f2 : decide (q' < 1) = false := decide_eq_false (by omega);have f3 : decide (p < 0) = false := decide_eq_false (by omega);have f4 : decide (p' < 0) = false := decide_eq_false (by omega);have f5 : decide (3000000 < p) = false := decide_eq_false (by omega);have f6 : decide (3000000 < p') = false := decide_eq_false (by omega);have f7 : ¬ q = 0 := by omega
    have f8 : ¬ q' = 0 := by omega
    have c80 : w10.cell? ⟨g8, 0, none⟩ = some (.int .i64 p) := (bkC B8.out 0).trans rfl;have c81 : w10.cell? ⟨g8, 1, none⟩ = some (.int .i64 q) := (bkC B8.out 1).trans rfl;have c90 : w10.cell? ⟨g10, 0, none⟩ = some (.int .i64 p') := (bkC B10.out 0).trans rfl;have c91 : w10.cell? ⟨g10, 1, none⟩ = some (.int .i64 q') := (bkC B10.out 1).trans rfl;have R4 := Z0.mk r4; have R6 := Z0.mk r6; have R1 := Z0.mk r1; have R7 := Z0.mk r7; have S7 := Z0.mk s7; have R5 := Z0.mk r5;clear r1 r2 r4 r5 r6 r7 s1 s2 s4 s5 s6 s7;go_upto_region 13 with (first | (go_at_call 66; (with_reducible refine (dv_calls _ R4.out (by have := R1.out; omega) R6.out).mono ?_); rintro e' w11 ⟨rfl, hb⟩; have HH := Z0.mk hb; clear hb))
    clear c80 c81 c90 c91 f1 f2 f3 f4 f5 f6;have hn := Z0.mk (bkB B2.out HH.out); clear B2; have B2 := hn; clear hn;have hn := Z0.mk (bkB B3.out HH.out); clear B3; have B3 := hn; clear hn;have hn := Z0.mk (bkB B8.out HH.out); clear B8; have B8 := hn; clear hn;have hn := Z0.mk (bkB B10.out HH.out); clear B10; have B10 := hn; clear hn;have hn := Z0.mk (bwT HB.out HH.out); clear HB; have HB := hn; clear hn;clear HH;have c80 : w11.cell? ⟨g8, 0, none⟩ = some (.int .i64 p) := (bkC B8.out 0).trans rfl;have c81 : w11.cell? ⟨g8, 1, none⟩ = some (.int .i64 q) := (bkC B8.out 1).trans rfl;have c90 : w11.cell? ⟨g10, 0, none⟩ = some (.int .i64 p') := (bkC B10.out 0).trans rfl;have c91 : w11.cell? ⟨g10, 1, none⟩ = some (.int .i64 q') := (bkC B10.out 1).trans rfl;go_quiet (fail)
    rw [R7.out, S7.out];clear c80 c81 c90 c91 R7 S7 R1 R4 R5 R6 r3 s3 f7 f8 B8 B10;have hn := Z0.mk (bkN B2.out nq); clear B2; have B2 := hn; clear hn;have hn := Z0.mk (bkN B3.out nq); clear B3; have B3 := hn; clear hn;have hn := Z0.mk (bwN HB.out nq); clear HB; have HB := hn; clear hn;generalize w11.drewN nq = w12 at B2 B3 HB ⊢;have c20 : w12.cell? ⟨g2, 0, none⟩ = some (.int .i64 n) := (bkC B2.out 0).trans rfl;have c21 : w12.cell? ⟨g2, 1, none⟩ = some (.int .i64 d) := (bkC B2.out 1).trans rfl;have hd0 : ¬ d = 0 := by have := checkS_ok HA.out; omega
    have eX : wrap64 (Int.tdiv (wrap64 (wrap64 n)) d) = rX n d 0 := by have := root_bd (c := 0) HA.out; have et : tenI 0 = 1 := rfl; rw [et] at this; simp only [Int.mul_one] at this; rw [this.1, this.2.2.2]; unfold rX; rw [et, Int.mul_one, Int.mul_one]
    have EX := Z0.mk eX; clear eX;have g1 : decide (wrap64 (Int.tdiv (wrap64 (wrap64 n)) d) < wrap64 (N * N)) = false := decide_eq_false (by have := SQ.out; have := mul_bd (a := N) (b := N) (A := 1000000000) (B := 1000000000) (by omega) (by omega) (by omega) (by omega); rw [EX.out, wrap_id (x := N * N) (by omega) (by omega)]; omega);have g2' : decide (wrap64 (wrap64 (N + 1) * wrap64 (N + 1)) ≤ wrap64 (Int.tdiv (wrap64 (wrap64 n)) d)) = false := decide_eq_false (by have := SQ.out; have := mul_bd (a := N + 1) (b := N + 1) (A := 1000000001) (B := 1000000001) (by omega) (by omega) (by omega) (by omega); rw [EX.out, wrap_id (x := N + 1) (by omega) (by omega), wrap_id (x := (N + 1) * (N + 1)) (by omega) (by omega)]; omega);have hb0 : bv = 0 := by rw [← Hbv.out]; rfl
    have k1 : decide (N < wrap64 (10 * bv)) = false := decide_eq_false (by have := SQ.out; rw [hb0, wrap_id (x := 10 * 0) (by omega) (by omega)]; omega);clear hb0;by_cases hN : 0 < N
    ·have fN : decide (0 < N) = true := decide_eq_true hN;clear hN;as_aux_lemma =>
     go_upto_region 16 with (fail)
     clear fN g1 g2' c20 c21 hd0;rcases SC.out with ⟨rfl, hle⟩ | ⟨rfl, hle⟩ | ⟨rfl, hle⟩
     ·have m1 : decide (M < N) = false := decide_eq_false (by have := M1.out hle; omega);clear hle;go_wp2
      go_roundw
      case rel => exact ⟨1, by decide, by decide, rfl, by rw [HBV.out], B2, B3, HB⟩
      case measure => simp [intOf]
     ·obtain rfl : N = M := Int.le_antisymm (M1.out (by omega)) (M2.out (by omega));clear hle;go_wp2
      go_roundw
      case rel => exact ⟨1, by decide, by decide, rfl, by rw [HBV.out], B2, B3, HB⟩
      case measure => simp [intOf]
     ·have m1 : decide (N < M) = false := decide_eq_false (by have := M2.out hle; omega);clear hle;go_wp2
      go_roundw
      case rel => exact ⟨1, by decide, by decide, rfl, by rw [HBV.out], B2, B3, HB⟩
      case measure => simp [intOf]
    ·have fN : decide (0 < N) = false := decide_eq_false hN;clear hN;as_aux_lemma =>
     go_upto_region 16 with (fail)
     clear fN g1 g2' c20 c21 hd0;rcases SC.out with ⟨rfl, hle⟩ | ⟨rfl, hle⟩ | ⟨rfl, hle⟩
     ·have m1 : decide (M < N) = false := decide_eq_false (by have := M1.out hle; omega);clear hle;go_wp2
      go_roundw
      case rel => exact ⟨1, by decide, by decide, rfl, by rw [HBV.out], B2, B3, HB⟩
      case measure => simp [intOf]
     ·obtain rfl : N = M := Int.le_antisymm (M1.out (by omega)) (M2.out (by omega));clear hle;go_wp2
      go_roundw
      case rel => exact ⟨1, by decide, by decide, rfl, by rw [HBV.out], B2, B3, HB⟩
      case measure => simp [intOf]
     ·have m1 : decide (N < M) = false := decide_eq_false (by have := M2.out hle; omega);clear hle;go_wp2
      go_roundw
      case rel => exact ⟨1, by decide, by decide, rfl, by rw [HBV.out], B2, B3, HB⟩
      case measure => simp [intOf]
  ·as_aux_lemma =>
    go_upto_region 8 with (fail)
    have hn := Z0.mk (bwA HB.out (.cells #[.int .i64 1, .int .i64 10, .int .i64 100] 3 (0, 0))); clear HB; have HB := hn; clear hn;have hn := Z0.mk (bkA B2.out (.cells #[.int .i64 1, .int .i64 10, .int .i64 100] 3 (0, 0))); clear B2; have B2 := hn; clear hn;have hn := Z0.mk (bkA B3.out (.cells #[.int .i64 1, .int .i64 10, .int .i64 100] 3 (0, 0))); clear B3; have B3 := hn; clear hn;generalize wr.alloc (.cells #[.int .i64 1, .int .i64 10, .int .i64 100] 3 (0, 0)) = w7 at B2 B3 HB ⊢;have c20 : w7.cell? ⟨g2, 0, none⟩ = some (.int .i64 n) := (bkC B2.out 0).trans rfl;have c21 : w7.cell? ⟨g2, 1, none⟩ = some (.int .i64 d) := (bkC B2.out 1).trans rfl;go_upto_region 9 with (first | (go_at_call 33; (with_reducible refine (rt_calls _ (HG.out.below HB.out) HA.out ⟨by decide, by decide⟩).mono ?_); rintro e' W' ⟨rfl, hb⟩; have HH := Z0.mk hb; clear hb))
    have hn := Z0.mk (bwA HH.out (.cells #[.int .i64 (rootI n d 1).1, .int .i64 (rootI n d 1).2] 23 (0, 0))); clear HH; have HH := hn; clear hn;have B8 := Z0.mk (blk_new W' (.cells #[.int .i64 (rootI n d 1).1, .int .i64 (rootI n d 1).2] 23 (0, 0)));generalize W'.alloc (.cells #[.int .i64 (rootI n d 1).1, .int .i64 (rootI n d 1).2] 23 (0, 0)) = w8 at HH B8 ⊢;generalize W'.heap.size = g8 at B8 ⊢;have hn := Z0.mk (bkB B2.out HH.out); clear B2; have B2 := hn; clear hn;have hn := Z0.mk (bkB B3.out HH.out); clear B3; have B3 := hn; clear hn;have hn := Z0.mk (bwT HB.out HH.out); clear HB; have HB := hn; clear hn;clear HH;clear c20 c21;have c30 : w8.cell? ⟨g3, 0, none⟩ = some (.int .i64 m) := (bkC B3.out 0).trans rfl;have c31 : w8.cell? ⟨g3, 1, none⟩ = some (.int .i64 e) := (bkC B3.out 1).trans rfl;go_upto_region 10 with (first | (go_at_call 33; (with_reducible refine (rt_calls _ (HG.out.below HB.out) HC.out ⟨by decide, by decide⟩).mono ?_); rintro e' W' ⟨rfl, hb⟩; have HH := Z0.mk hb; clear hb))
    have hn := Z0.mk (bwA HH.out (.cells #[.int .i64 (rootI m e 1).1, .int .i64 (rootI m e 1).2] 23 (0, 0))); clear HH; have HH := hn; clear hn;have B10 := Z0.mk (blk_new W' (.cells #[.int .i64 (rootI m e 1).1, .int .i64 (rootI m e 1).2] 23 (0, 0)));generalize W'.alloc (.cells #[.int .i64 (rootI m e 1).1, .int .i64 (rootI m e 1).2] 23 (0, 0)) = w9 at HH B10 ⊢;generalize W'.heap.size = g10 at B10 ⊢;have hn := Z0.mk (bkB B2.out HH.out); clear B2; have B2 := hn; clear hn;have hn := Z0.mk (bkB B3.out HH.out); clear B3; have B3 := hn; clear hn;have hn := Z0.mk (bkB B8.out HH.out); clear B8; have B8 := hn; clear hn;have hn := Z0.mk (bwT HB.out HH.out); clear HB; have HB := hn; clear hn;clear HH;clear c30 c31;have c20 : w9.cell? ⟨g2, 0, none⟩ = some (.int .i64 n) := (bkC B2.out 0).trans rfl;have c21 : w9.cell? ⟨g2, 1, none⟩ = some (.int .i64 d) := (bkC B2.out 1).trans rfl;have c30 : w9.cell? ⟨g3, 0, none⟩ = some (.int .i64 m) := (bkC B3.out 0).trans rfl;have c31 : w9.cell? ⟨g3, 1, none⟩ = some (.int .i64 e) := (bkC B3.out 1).trans rfl;go_upto_region 11 with (first | (go_at_call 32; (with_reducible refine (cp_calls _ HA.out HC.out).mono ?_); rintro e' w10 ⟨rfl, hb⟩; have HH := Z0.mk hb; clear hb))
    clear c20 c21 c30 c31;have hn := Z0.mk (bkB B2.out HH.out); clear B2; have B2 := hn; clear hn;have hn := Z0.mk (bkB B3.out HH.out); clear B3; have B3 := hn; clear hn;have hn := Z0.mk (bkB B8.out HH.out); clear B8; have B8 := hn; clear hn;have hn := Z0.mk (bkB B10.out HH.out); clear B10; have B10 := hn; clear hn;have hn := Z0.mk (bwT HB.out HH.out); clear HB; have HB := hn; clear hn;clear HH;have RP := Z0.mk (root_parts (c := 1) HA.out);have RQ := Z0.mk (root_parts (c := 1) HC.out);have SQ := Z0.mk (rootN_sq (c := 1) HA.out);have SC := Z0.mk (sqCmp_cases HA.out HC.out);have M1 : Z0 (n * e ≤ m * d → rootN n d 1 ≤ rootN m e 1) := ⟨fun h => root_mono HA.out HC.out h⟩;have M2 : Z0 (m * d ≤ n * e → rootN m e 1 ≤ rootN n d 1) := ⟨fun h => root_mono HC.out HA.out h⟩;have NX : Z0 (10 * bv ≤ rootN n d 1 ∧ rootN n d 1 < 10 * (bv + 1)) := ⟨by rw [← Hbv.out]; exact root_next HA.out (by decide)⟩;have HBV : Z0 (rootN n d 1 = befI n d 2) := ⟨by unfold befI; rw [if_neg (by decide)]; rfl⟩;generalize (rootI n d 1).1 = p at RP B8 ⊢;generalize (rootI n d 1).2 = q at RP B8 ⊢;generalize (rootI m e 1).1 = p' at RQ B10 ⊢;generalize (rootI m e 1).2 = q' at RQ B10 ⊢;generalize rootN n d 1 = N at RP SQ M1 M2 HBV NX;generalize rootN m e 1 = M at RQ M1 M2;generalize sqCmp n d m e = cc at SC ⊢;obtain ⟨r1, r2, r3, r4, r5, r6, r7⟩ := RP.out;obtain ⟨s1, s2, s3, s4, s5, s6, s7⟩ := RQ.out;have et : tenI 1 = 10 := rfl;rw [et] at r3 r5 r7 s3 s5 s7;clear et RP RQ;have f1 : decide (q < 1) = false := decide_eq_false (by omega);have f2 : decide (q' < 1) = false := decide_eq_false (by omega);have f3 : decide (p < 0) = false := decide_eq_false (by omega);have f4 : decide (p' < 0) = false := decide_eq_false (by omega);have f5 : decide (30000000 < p) = false := decide_eq_false (by omega);have f6 : decide (30000000 < p') = false := decide_eq_false (by omega);have f7 : ¬ q = 0 := by omega
    have f8 : ¬ q' = 0 := by omega
    have c80 : w10.cell? ⟨g8, 0, none⟩ = some (.int .i64 p) := (bkC B8.out 0).trans rfl;have c81 : w10.cell? ⟨g8, 1, none⟩ = some (.int .i64 q) := (bkC B8.out 1).trans rfl;have c90 : w10.cell? ⟨g10, 0, none⟩ = some (.int .i64 p') := (bkC B10.out 0).trans rfl;have c91 : w10.cell? ⟨g10, 1, none⟩ = some (.int .i64 q') := (bkC B10.out 1).trans rfl;have R4 := Z0.mk r4; have R6 := Z0.mk r6; have R1 := Z0.mk r1; have R7 := Z0.mk r7; have S7 := Z0.mk s7; have R5 := Z0.mk r5;clear r1 r2 r4 r5 r6 r7 s1 s2 s4 s5 s6 s7;go_upto_region 13 with (first | (go_at_call 66; (with_reducible refine (dv_calls _ R4.out (by have := R1.out; omega) R6.out).mono ?_); rintro e' w11 ⟨rfl, hb⟩; have HH := Z0.mk hb; clear hb))
    clear c80 c81 c90 c91 f1 f2 f3 f4 f5 f6;have hn := Z0.mk (bkB B2.out HH.out); clear B2; have B2 := hn; clear hn;have hn := Z0.mk (bkB B3.out HH.out); clear B3; have B3 := hn; clear hn;have hn := Z0.mk (bkB B8.out HH.out); clear B8; have B8 := hn; clear hn;have hn := Z0.mk (bkB B10.out HH.out); clear B10; have B10 := hn; clear hn;have hn := Z0.mk (bwT HB.out HH.out); clear HB; have HB := hn; clear hn;clear HH;have c80 : w11.cell? ⟨g8, 0, none⟩ = some (.int .i64 p) := (bkC B8.out 0).trans rfl;have c81 : w11.cell? ⟨g8, 1, none⟩ = some (.int .i64 q) := (bkC B8.out 1).trans rfl;have c90 : w11.cell? ⟨g10, 0, none⟩ = some (.int .i64 p') := (bkC B10.out 0).trans rfl;have c91 : w11.cell? ⟨g10, 1, none⟩ = some (.int .i64 q') := (bkC B10.out 1).trans rfl;go_quiet (fail)
    rw [R7.out, S7.out];clear c80 c81 c90 c91 R7 S7 R1 R4 R5 R6 r3 s3 f7 f8 B8 B10;have hn := Z0.mk (bkN B2.out nq); clear B2; have B2 := hn; clear hn;have hn := Z0.mk (bkN B3.out nq); clear B3; have B3 := hn; clear hn;have hn := Z0.mk (bwN HB.out nq); clear HB; have HB := hn; clear hn;generalize w11.drewN nq = w12 at B2 B3 HB ⊢;have c20 : w12.cell? ⟨g2, 0, none⟩ = some (.int .i64 n) := (bkC B2.out 0).trans rfl;have c21 : w12.cell? ⟨g2, 1, none⟩ = some (.int .i64 d) := (bkC B2.out 1).trans rfl;have hd0 : ¬ d = 0 := by have := checkS_ok HA.out; omega
    have eX : wrap64 (Int.tdiv (wrap64 (wrap64 (n * 10) * 10)) d) = rX n d 1 := by have := root_bd (c := 1) HA.out; have et : tenI 1 = 10 := rfl; rw [et] at this; rw [this.1, this.2.2.2]; unfold rX; rw [et]
    have EX := Z0.mk eX; clear eX;have g1 : decide (wrap64 (Int.tdiv (wrap64 (wrap64 (n * 10) * 10)) d) < wrap64 (N * N)) = false := decide_eq_false (by have := SQ.out; have := mul_bd (a := N) (b := N) (A := 1000000000) (B := 1000000000) (by omega) (by omega) (by omega) (by omega); rw [EX.out, wrap_id (x := N * N) (by omega) (by omega)]; omega);have g2' : decide (wrap64 (wrap64 (N + 1) * wrap64 (N + 1)) ≤ wrap64 (Int.tdiv (wrap64 (wrap64 (n * 10) * 10)) d)) = false := decide_eq_false (by have := SQ.out; have := mul_bd (a := N + 1) (b := N + 1) (A := 1000000001) (B := 1000000001) (by omega) (by omega) (by omega) (by omega); rw [EX.out, wrap_id (x := N + 1) (by omega) (by omega), wrap_id (x := (N + 1) * (N + 1)) (by omega) (by omega)]; omega);have bb : 0 ≤ bv ∧ bv < 1000000000 := by have := NX.out; have := SQ.out; omega
    have k1 : decide (N < wrap64 (10 * bv)) = false := decide_eq_false (by have := NX.out; rw [wrap_id (x := 10 * bv) (by omega) (by omega)]; omega);have k2 : decide (wrap64 (10 * wrap64 (bv + 1)) ≤ N) = false := decide_eq_false (by have := NX.out; rw [wrap_id (x := bv + 1) (by omega) (by omega), wrap_id (x := 10 * (bv + 1)) (by omega) (by omega)]; omega);clear bb;by_cases hN : 0 < N
    ·have fN : decide (0 < N) = true := decide_eq_true hN;clear hN;as_aux_lemma =>
     go_upto_region 16 with (fail)
     clear fN g1 g2' c20 c21 hd0;rcases SC.out with ⟨rfl, hle⟩ | ⟨rfl, hle⟩ | ⟨rfl, hle⟩
     ·have m1 : decide (M < N) = false := decide_eq_false (by have := M1.out hle; omega);clear hle;go_wp2
      go_roundw
      case rel => exact ⟨2, by decide, by decide, rfl, by rw [HBV.out], B2, B3, HB⟩
      case measure => simp [intOf]
     ·obtain rfl : N = M := Int.le_antisymm (M1.out (by omega)) (M2.out (by omega));clear hle;go_wp2
      go_roundw
      case rel => exact ⟨2, by decide, by decide, rfl, by rw [HBV.out], B2, B3, HB⟩
      case measure => simp [intOf]
     ·have m1 : decide (N < M) = false := decide_eq_false (by have := M2.out hle; omega);clear hle;go_wp2
      go_roundw
      case rel => exact ⟨2, by decide, by decide, rfl, by rw [HBV.out], B2, B3, HB⟩
      case measure => simp [intOf]
    ·have fN : decide (0 < N) = false := decide_eq_false hN;clear hN;as_aux_lemma =>
     go_upto_region 16 with (fail)
     clear fN g1 g2' c20 c21 hd0;rcases SC.out with ⟨rfl, hle⟩ | ⟨rfl, hle⟩ | ⟨rfl, hle⟩
     ·have m1 : decide (M < N) = false := decide_eq_false (by have := M1.out hle; omega);clear hle;go_wp2
      go_roundw
      case rel => exact ⟨2, by decide, by decide, rfl, by rw [HBV.out], B2, B3, HB⟩
      case measure => simp [intOf]
     ·obtain rfl : N = M := Int.le_antisymm (M1.out (by omega)) (M2.out (by omega));clear hle;go_wp2
      go_roundw
      case rel => exact ⟨2, by decide, by decide, rfl, by rw [HBV.out], B2, B3, HB⟩
      case measure => simp [intOf]
     ·have m1 : decide (N < M) = false := decide_eq_false (by have := M2.out hle; omega);clear hle;go_wp2
      go_roundw
      case rel => exact ⟨2, by decide, by decide, rfl, by rw [HBV.out], B2, B3, HB⟩
      case measure => simp [intOf]
  ·as_aux_lemma =>
    go_upto_region 8 with (fail)
    have hn := Z0.mk (bwA HB.out (.cells #[.int .i64 1, .int .i64 10, .int .i64 100] 3 (0, 0))); clear HB; have HB := hn; clear hn;have hn := Z0.mk (bkA B2.out (.cells #[.int .i64 1, .int .i64 10, .int .i64 100] 3 (0, 0))); clear B2; have B2 := hn; clear hn;have hn := Z0.mk (bkA B3.out (.cells #[.int .i64 1, .int .i64 10, .int .i64 100] 3 (0, 0))); clear B3; have B3 := hn; clear hn;generalize wr.alloc (.cells #[.int .i64 1, .int .i64 10, .int .i64 100] 3 (0, 0)) = w7 at B2 B3 HB ⊢;have c20 : w7.cell? ⟨g2, 0, none⟩ = some (.int .i64 n) := (bkC B2.out 0).trans rfl;have c21 : w7.cell? ⟨g2, 1, none⟩ = some (.int .i64 d) := (bkC B2.out 1).trans rfl;go_upto_region 9 with (first | (go_at_call 33; (with_reducible refine (rt_calls _ (HG.out.below HB.out) HA.out ⟨by decide, by decide⟩).mono ?_); rintro e' W' ⟨rfl, hb⟩; have HH := Z0.mk hb; clear hb))
    have hn := Z0.mk (bwA HH.out (.cells #[.int .i64 (rootI n d 2).1, .int .i64 (rootI n d 2).2] 23 (0, 0))); clear HH; have HH := hn; clear hn;have B8 := Z0.mk (blk_new W' (.cells #[.int .i64 (rootI n d 2).1, .int .i64 (rootI n d 2).2] 23 (0, 0)));generalize W'.alloc (.cells #[.int .i64 (rootI n d 2).1, .int .i64 (rootI n d 2).2] 23 (0, 0)) = w8 at HH B8 ⊢;generalize W'.heap.size = g8 at B8 ⊢;have hn := Z0.mk (bkB B2.out HH.out); clear B2; have B2 := hn; clear hn;have hn := Z0.mk (bkB B3.out HH.out); clear B3; have B3 := hn; clear hn;have hn := Z0.mk (bwT HB.out HH.out); clear HB; have HB := hn; clear hn;clear HH;clear c20 c21;have c30 : w8.cell? ⟨g3, 0, none⟩ = some (.int .i64 m) := (bkC B3.out 0).trans rfl;have c31 : w8.cell? ⟨g3, 1, none⟩ = some (.int .i64 e) := (bkC B3.out 1).trans rfl;go_upto_region 10 with (first | (go_at_call 33; (with_reducible refine (rt_calls _ (HG.out.below HB.out) HC.out ⟨by decide, by decide⟩).mono ?_); rintro e' W' ⟨rfl, hb⟩; have HH := Z0.mk hb; clear hb))
    have hn := Z0.mk (bwA HH.out (.cells #[.int .i64 (rootI m e 2).1, .int .i64 (rootI m e 2).2] 23 (0, 0))); clear HH; have HH := hn; clear hn;have B10 := Z0.mk (blk_new W' (.cells #[.int .i64 (rootI m e 2).1, .int .i64 (rootI m e 2).2] 23 (0, 0)));generalize W'.alloc (.cells #[.int .i64 (rootI m e 2).1, .int .i64 (rootI m e 2).2] 23 (0, 0)) = w9 at HH B10 ⊢;generalize W'.heap.size = g10 at B10 ⊢;have hn := Z0.mk (bkB B2.out HH.out); clear B2; have B2 := hn; clear hn;have hn := Z0.mk (bkB B3.out HH.out); clear B3; have B3 := hn; clear hn;have hn := Z0.mk (bkB B8.out HH.out); clear B8; have B8 := hn; clear hn;have hn := Z0.mk (bwT HB.out HH.out); clear HB; have HB := hn; clear hn;clear HH;clear c30 c31;have c20 : w9.cell? ⟨g2, 0, none⟩ = some (.int .i64 n) := (bkC B2.out 0).trans rfl;have c21 : w9.cell? ⟨g2, 1, none⟩ = some (.int .i64 d) := (bkC B2.out 1).trans rfl;have c30 : w9.cell? ⟨g3, 0, none⟩ = some (.int .i64 m) := (bkC B3.out 0).trans rfl;have c31 : w9.cell? ⟨g3, 1, none⟩ = some (.int .i64 e) := (bkC B3.out 1).trans rfl;go_upto_region 11 with (first | (go_at_call 32; (with_reducible refine (cp_calls _ HA.out HC.out).mono ?_); rintro e' w10 ⟨rfl, hb⟩; have HH := Z0.mk hb; clear hb))
    clear c20 c21 c30 c31;have hn := Z0.mk (bkB B2.out HH.out); clear B2; have B2 := hn; clear hn;have hn := Z0.mk (bkB B3.out HH.out); clear B3; have B3 := hn; clear hn;have hn := Z0.mk (bkB B8.out HH.out); clear B8; have B8 := hn; clear hn;have hn := Z0.mk (bkB B10.out HH.out); clear B10; have B10 := hn; clear hn;have hn := Z0.mk (bwT HB.out HH.out); clear HB; have HB := hn; clear hn;clear HH;have RP := Z0.mk (root_parts (c := 2) HA.out);have RQ := Z0.mk (root_parts (c := 2) HC.out);have SQ := Z0.mk (rootN_sq (c := 2) HA.out);have SC := Z0.mk (sqCmp_cases HA.out HC.out);have M1 : Z0 (n * e ≤ m * d → rootN n d 2 ≤ rootN m e 2) := ⟨fun h => root_mono HA.out HC.out h⟩;have M2 : Z0 (m * d ≤ n * e → rootN m e 2 ≤ rootN n d 2) := ⟨fun h => root_mono HC.out HA.out h⟩;have NX : Z0 (10 * bv ≤ rootN n d 2 ∧ rootN n d 2 < 10 * (bv + 1)) := ⟨by rw [← Hbv.out]; exact root_next HA.out (by decide)⟩;have HBV : Z0 (rootN n d 2 = befI n d 3) := ⟨by unfold befI; rw [if_neg (by decide)]; rfl⟩;generalize (rootI n d 2).1 = p at RP B8 ⊢;generalize (rootI n d 2).2 = q at RP B8 ⊢;generalize (rootI m e 2).1 = p' at RQ B10 ⊢;generalize (rootI m e 2).2 = q' at RQ B10 ⊢;generalize rootN n d 2 = N at RP SQ M1 M2 HBV NX;generalize rootN m e 2 = M at RQ M1 M2;generalize sqCmp n d m e = cc at SC ⊢;obtain ⟨r1, r2, r3, r4, r5, r6, r7⟩ := RP.out;obtain ⟨s1, s2, s3, s4, s5, s6, s7⟩ := RQ.out;have et : tenI 2 = 100 := rfl;rw [et] at r3 r5 r7 s3 s5 s7;clear et RP RQ;have f1 : decide (q < 1) = false := decide_eq_false (by omega);have f2 : decide (q' < 1) = false := decide_eq_false (by omega);have f3 : decide (p < 0) = false := decide_eq_false (by omega);have f4 : decide (p' < 0) = false := decide_eq_false (by omega);have f5 : decide (300000000 < p) = false := decide_eq_false (by omega);have f6 : decide (300000000 < p') = false := decide_eq_false (by omega);have f7 : ¬ q = 0 := by omega
    have f8 : ¬ q' = 0 := by omega
    have c80 : w10.cell? ⟨g8, 0, none⟩ = some (.int .i64 p) := (bkC B8.out 0).trans rfl;have c81 : w10.cell? ⟨g8, 1, none⟩ = some (.int .i64 q) := (bkC B8.out 1).trans rfl;have c90 : w10.cell? ⟨g10, 0, none⟩ = some (.int .i64 p') := (bkC B10.out 0).trans rfl;have c91 : w10.cell? ⟨g10, 1, none⟩ = some (.int .i64 q') := (bkC B10.out 1).trans rfl;have R4 := Z0.mk r4; have R6 := Z0.mk r6; have R1 := Z0.mk r1; have R7 := Z0.mk r7; have S7 := Z0.mk s7; have R5 := Z0.mk r5;clear r1 r2 r4 r5 r6 r7 s1 s2 s4 s5 s6 s7;go_upto_region 13 with (first | (go_at_call 66; (with_reducible refine (dv_calls _ R4.out (by have := R1.out; omega) R6.out).mono ?_); rintro e' w11 ⟨rfl, hb⟩; have HH := Z0.mk hb; clear hb))
    clear c80 c81 c90 c91 f1 f2 f3 f4 f5 f6;have hn := Z0.mk (bkB B2.out HH.out); clear B2; have B2 := hn; clear hn;have hn := Z0.mk (bkB B3.out HH.out); clear B3; have B3 := hn; clear hn;have hn := Z0.mk (bkB B8.out HH.out); clear B8; have B8 := hn; clear hn;have hn := Z0.mk (bkB B10.out HH.out); clear B10; have B10 := hn; clear hn;have hn := Z0.mk (bwT HB.out HH.out); clear HB; have HB := hn; clear hn;clear HH;have c80 : w11.cell? ⟨g8, 0, none⟩ = some (.int .i64 p) := (bkC B8.out 0).trans rfl;have c81 : w11.cell? ⟨g8, 1, none⟩ = some (.int .i64 q) := (bkC B8.out 1).trans rfl;have c90 : w11.cell? ⟨g10, 0, none⟩ = some (.int .i64 p') := (bkC B10.out 0).trans rfl;have c91 : w11.cell? ⟨g10, 1, none⟩ = some (.int .i64 q') := (bkC B10.out 1).trans rfl;go_quiet (fail)
    rw [R7.out, S7.out];clear c80 c81 c90 c91 R7 S7 R1 R4 R5 R6 r3 s3 f7 f8 B8 B10;have hn := Z0.mk (bkN B2.out nq); clear B2; have B2 := hn; clear hn;have hn := Z0.mk (bkN B3.out nq); clear B3; have B3 := hn; clear hn;have hn := Z0.mk (bwN HB.out nq); clear HB; have HB := hn; clear hn;generalize w11.drewN nq = w12 at B2 B3 HB ⊢;have c20 : w12.cell? ⟨g2, 0, none⟩ = some (.int .i64 n) := (bkC B2.out 0).trans rfl;have c21 : w12.cell? ⟨g2, 1, none⟩ = some (.int .i64 d) := (bkC B2.out 1).trans rfl;have hd0 : ¬ d = 0 := by have := checkS_ok HA.out; omega
    have eX : wrap64 (Int.tdiv (wrap64 (wrap64 (n * 100) * 100)) d) = rX n d 2 := by have := root_bd (c := 2) HA.out; have et : tenI 2 = 100 := rfl; rw [et] at this; rw [this.1, this.2.2.2]; unfold rX; rw [et]
    have EX := Z0.mk eX; clear eX;have g1 : decide (wrap64 (Int.tdiv (wrap64 (wrap64 (n * 100) * 100)) d) < wrap64 (N * N)) = false := decide_eq_false (by have := SQ.out; have := mul_bd (a := N) (b := N) (A := 1000000000) (B := 1000000000) (by omega) (by omega) (by omega) (by omega); rw [EX.out, wrap_id (x := N * N) (by omega) (by omega)]; omega);have g2' : decide (wrap64 (wrap64 (N + 1) * wrap64 (N + 1)) ≤ wrap64 (Int.tdiv (wrap64 (wrap64 (n * 100) * 100)) d)) = false := decide_eq_false (by have := SQ.out; have := mul_bd (a := N + 1) (b := N + 1) (A := 1000000001) (B := 1000000001) (by omega) (by omega) (by omega) (by omega); rw [EX.out, wrap_id (x := N + 1) (by omega) (by omega), wrap_id (x := (N + 1) * (N + 1)) (by omega) (by omega)]; omega);have bb : 0 ≤ bv ∧ bv < 1000000000 := by have := NX.out; have := SQ.out; omega
    have k1 : decide (N < wrap64 (10 * bv)) = false := decide_eq_false (by have := NX.out; rw [wrap_id (x := 10 * bv) (by omega) (by omega)]; omega);have k2 : decide (wrap64 (10 * wrap64 (bv + 1)) ≤ N) = false := decide_eq_false (by have := NX.out; rw [wrap_id (x := bv + 1) (by omega) (by omega), wrap_id (x := 10 * (bv + 1)) (by omega) (by omega)]; omega);clear bb;by_cases hN : 0 < N
    ·have fN : decide (0 < N) = true := decide_eq_true hN;clear hN;as_aux_lemma =>
     go_upto_region 16 with (fail)
     clear fN g1 g2' c20 c21 hd0;rcases SC.out with ⟨rfl, hle⟩ | ⟨rfl, hle⟩ | ⟨rfl, hle⟩
     ·have m1 : decide (M < N) = false := decide_eq_false (by have := M1.out hle; omega);clear hle;go_wp2
      go_roundw
      case rel => exact ⟨3, by decide, by decide, rfl, by rw [HBV.out], B2, B3, HB⟩
      case measure => simp [intOf]
     ·obtain rfl : N = M := Int.le_antisymm (M1.out (by omega)) (M2.out (by omega));clear hle;go_wp2
      go_roundw
      case rel => exact ⟨3, by decide, by decide, rfl, by rw [HBV.out], B2, B3, HB⟩
      case measure => simp [intOf]
     ·have m1 : decide (N < M) = false := decide_eq_false (by have := M2.out hle; omega);clear hle;go_wp2
      go_roundw
      case rel => exact ⟨3, by decide, by decide, rfl, by rw [HBV.out], B2, B3, HB⟩
      case measure => simp [intOf]
    ·have fN : decide (0 < N) = false := decide_eq_false hN;clear hN;as_aux_lemma =>
     go_upto_region 16 with (fail)
     clear fN g1 g2' c20 c21 hd0;rcases SC.out with ⟨rfl, hle⟩ | ⟨rfl, hle⟩ | ⟨rfl, hle⟩
     ·have m1 : decide (M < N) = false := decide_eq_false (by have := M1.out hle; omega);clear hle;go_wp2
      go_roundw
      case rel => exact ⟨3, by decide, by decide, rfl, by rw [HBV.out], B2, B3, HB⟩
      case measure => simp [intOf]
     ·obtain rfl : N = M := Int.le_antisymm (M1.out (by omega)) (M2.out (by omega));clear hle;go_wp2
      go_roundw
      case rel => exact ⟨3, by decide, by decide, rfl, by rw [HBV.out], B2, B3, HB⟩
      case measure => simp [intOf]
     ·have m1 : decide (N < M) = false := decide_eq_false (by have := M2.out hle; omega);clear hle;go_wp2
      go_roundw
      case rel => exact ⟨3, by decide, by decide, rfl, by rw [HBV.out], B2, B3, HB⟩
      case measure => simp [intOf]
set_option maxHeartbeats 8000000 in
set_option maxRecDepth 100000 in
theorem floors_one (n d m e : Int) (ha : ¬ checkS n d = 0) (w : World) (hG : GH w) :
  Calls Tryd.prog 10 #[.agg #[.int .i64 n, .int .i64 d], .agg #[.int .i64 m, .int .i64 e]] w fun e' w' => e' = .returned (.bool true) ∧ Below w.heap.size w w' := by
 have f1 : (checkS n d == 0) = false := beq_false_of_ne ha
 have f2 : (checkS n d != 0) = true := by simp [bne, f1]
 clear ha
 have X := cSr_calls (n := n) (d := d)
 generalize checkS n d = r at X f1 f2
 have hu23 := Tryd.underlying23
 have hu24 := Tryd.underlying24
 have hu25 := Tryd.underlying25
 have HG := Z0.mk hG
 clear hG
 go_enter Tryd.func10, Tryd.ntmps10
 go_upto_region 1 with (fail)
 have B2 := Z0.mk (bkA (blk_new w (.cells #[.int .i64 n, .int .i64 d] 24 (0, 0))) (.cells #[.int .i64 m, .int .i64 e] 24 (0, 0)))
 have B3 : Z0 (((w.alloc (.cells #[.int .i64 n, .int .i64 d] 24 (0, 0))).alloc (.cells #[.int .i64 m, .int .i64 e] 24 (0, 0))).heap[w.heap.size + 1]? = some (.cells #[.int .i64 m, .int .i64 e] 24 (0, 0))) := ⟨by have := blk_new (w.alloc (.cells #[.int .i64 n, .int .i64 d] 24 (0, 0))) (.cells #[.int .i64 m, .int .i64 e] 24 (0, 0)); simpa using this⟩
 have HB := Z0.mk (bwA (bwA (Below.refl w.heap.size w) (.cells #[.int .i64 n, .int .i64 d] 24 (0, 0))) (.cells #[.int .i64 m, .int .i64 e] 24 (0, 0)))
 generalize (w.alloc (.cells #[.int .i64 n, .int .i64 d] 24 (0, 0))).alloc (.cells #[.int .i64 m, .int .i64 e] 24 (0, 0)) = w1 at B2 B3 HB ⊢
 generalize w.heap.size + 1 = g3 at B3 ⊢
 generalize hgz : w.heap.size = g2 at B2 ⊢
 clear hgz
 have c20 : w1.cell? ⟨g2, 0, none⟩ = some (.int .i64 n) := (bkC B2.out 0).trans rfl
 have c21 : w1.cell? ⟨g2, 1, none⟩ = some (.int .i64 d) := (bkC B2.out 1).trans rfl
 go_wp2_with (first | (go_at_call 21; (with_reducible refine (X _).mono ?_); rintro e' W1 ⟨rfl, hb⟩; have hn := Z0.mk (bwT HB.out hb); clear HB; have HB := hn; clear hn; have hn := Z0.mk (bkB B2.out hb); clear B2; have B2 := hn; clear hn; have hn := Z0.mk (bkB B3.out hb); clear B3; have B3 := hn; clear hn; clear c20 c21 hb) | (go_at_call 22; (with_reducible refine (awake_calls _ (HG.out.below HB.out)).mono ?_); rintro e' W5 ⟨rfl, hb⟩; have hn := Z0.mk (bwT HB.out hb); clear HB hb; have HB := hn; clear hn))
 go_ret
 exact ⟨rfl, HB.out⟩
set_option maxHeartbeats 8000000 in
set_option maxRecDepth 100000 in
theorem floors_two (n d m e : Int) (ha : checkS n d = 0) (hb : ¬ checkS m e = 0) (w : World) (hG : GH w) :
  Calls Tryd.prog 10 #[.agg #[.int .i64 n, .int .i64 d], .agg #[.int .i64 m, .int .i64 e]] w fun e' w' => e' = .returned (.bool true) ∧ Below w.heap.size w w' := by
 have f1 : (checkS m e == 0) = false := beq_false_of_ne hb
 have f2 : (checkS m e != 0) = true := by simp [bne, f1]
 have HA := Z0.mk ha
 clear ha hb
 have X := cSr_calls (n := m) (d := e)
 generalize checkS m e = r at X f1 f2
 have hu23 := Tryd.underlying23
 have hu24 := Tryd.underlying24
 have hu25 := Tryd.underlying25
 have HG := Z0.mk hG
 clear hG
 go_enter Tryd.func10, Tryd.ntmps10
 go_upto_region 1 with (fail)
 have B2 := Z0.mk (bkA (blk_new w (.cells #[.int .i64 n, .int .i64 d] 24 (0, 0))) (.cells #[.int .i64 m, .int .i64 e] 24 (0, 0)))
 have B3 : Z0 (((w.alloc (.cells #[.int .i64 n, .int .i64 d] 24 (0, 0))).alloc (.cells #[.int .i64 m, .int .i64 e] 24 (0, 0))).heap[w.heap.size + 1]? = some (.cells #[.int .i64 m, .int .i64 e] 24 (0, 0))) := ⟨by have := blk_new (w.alloc (.cells #[.int .i64 n, .int .i64 d] 24 (0, 0))) (.cells #[.int .i64 m, .int .i64 e] 24 (0, 0)); simpa using this⟩
 have HB := Z0.mk (bwA (bwA (Below.refl w.heap.size w) (.cells #[.int .i64 n, .int .i64 d] 24 (0, 0))) (.cells #[.int .i64 m, .int .i64 e] 24 (0, 0)))
 generalize (w.alloc (.cells #[.int .i64 n, .int .i64 d] 24 (0, 0))).alloc (.cells #[.int .i64 m, .int .i64 e] 24 (0, 0)) = w1 at B2 B3 HB ⊢
 generalize w.heap.size + 1 = g3 at B3 ⊢
 generalize hgz : w.heap.size = g2 at B2 ⊢
 clear hgz
 have c20 : w1.cell? ⟨g2, 0, none⟩ = some (.int .i64 n) := (bkC B2.out 0).trans rfl
 have c21 : w1.cell? ⟨g2, 1, none⟩ = some (.int .i64 d) := (bkC B2.out 1).trans rfl
 go_wp2_with (first | (go_at_call 21; (with_reducible refine (cS_calls _ HA.out).mono ?_); rintro e' W1 ⟨rfl, hb⟩; have hn := Z0.mk (bwT HB.out hb); clear HB; have HB := hn; clear hn; have hn := Z0.mk (bkB B2.out hb); clear B2; have B2 := hn; clear hn; have hn := Z0.mk (bkB B3.out hb); clear B3; have B3 := hn; clear hn; clear c20 c21 hb; have c30 : W1.cell? ⟨g3, 0, none⟩ = some (.int .i64 m) := (bkC B3.out 0).trans rfl; have c31 : W1.cell? ⟨g3, 1, none⟩ = some (.int .i64 e) := (bkC B3.out 1).trans rfl) | (go_at_call 21; (with_reducible refine (X _).mono ?_); rintro e' W2 ⟨rfl, hb⟩; have hn := Z0.mk (bwT HB.out hb); clear HB; have HB := hn; clear hn; have hn := Z0.mk (bkB B2.out hb); clear B2; have B2 := hn; clear hn; have hn := Z0.mk (bkB B3.out hb); clear B3; have B3 := hn; clear hn; clear c30 c31 hb) | (go_at_call 22; (with_reducible refine (awake_calls _ (HG.out.below HB.out)).mono ?_); rintro e' W5 ⟨rfl, hb⟩; have hn := Z0.mk (bwT HB.out hb); clear HB hb; have HB := hn; clear hn))
 go_ret
 exact ⟨rfl, HB.out⟩
def cl6_HangFloors.f (_k : Nat) (_n _d _m _e : Int) : Option Bool := some true
theorem cl6_HangFloors.calls (k : Nat) (n d m e : Int) (r : Bool) (w : World) (hG : GH w) (h : cl6_HangFloors.f k n d m e = some r) :
  Calls Tryd.prog 10 #[.agg #[.int .i64 n, .int .i64 d], .agg #[.int .i64 m, .int .i64 e]] w fun e' w' => e' = .returned (.bool r) ∧ Below w.heap.size w w' := by
 cases h
 by_cases ha : checkS n d = 0
 ·by_cases hb : checkS m e = 0
  ·exact floors_valid n d m e ha hb w hG
  ·exact floors_two n d m e ha hb w hG
 ·exact floors_one n d m e ha w hG
end Go.Proofs.YtppighiaffppkaaDoor.H
end
section
namespace Go.Proofs.YtppighiaffppkaaDoor.Pure
open H R
set_option linter.unusedVariables false
theorem pure_HangFloors (n d m e : Int) (_ : okI n) (_ : okI d) (_ : okI m) (_ : okI e) : ∃ k, cl6_HangFloors.f k n d m e = some true := ⟨0, rfl⟩
end Go.Proofs.YtppighiaffppkaaDoor.Pure
end
section
namespace Go.Proofs.YtppighiaffppkaaDoor.hangFloors
open Go.ChangeShapes Go.WideShapes Go.ChangeAt Go.RowKit Go.Proofs.YtppighiaffppkaaDoor.R
set_option linter.unusedVariables false
set_option maxRecDepth 100000 in
theorem lifted (os : Os) (started : os.Started) (Hd : Type) (enc : TypeId × Value → Hd) :
  ReturnsInHanded {} Tryd.checked os 10 .any (fun w args => (Rows.hangFloorsSpec.pre enc Tryd.prog Tryd.f10 [] false w args ∧ laidMetH Tryd.prog laid w) ∧ sizedMet enc Tryd.prog Tryd.f10 (OpenSpec.ofChange Rows.hangFloorsSpec) false w args)
   (Rows.hangFloorsSpec.post enc Tryd.prog Tryd.f10 false true false false) := by
 refine returnsInHanded_of_change_and (C := Tryd.checked) (X := fun w _ => laidMetH Tryd.prog laid w) (fun _ _ _ hh h => h.of_heap hh) own started (by kernel_rfl) Tryd.func10
  (ChangeSpec.witness_shaped (enc := enc) (C := Tryd.checked) (os := os) (X := fun w _ => laidMetH Tryd.prog laid w) false (World.doorLaid Tryd.prog 400 os) #[.agg #[.int .i64 0, .int .i64 0], .agg #[.int .i64 0, .int .i64 0]] 8 rfl (World.shaped_of_RefB (by kernel_rfl) (by kernel_rfl)) (by kernel_rfl) (by kernel_rfl) (by kernel_rfl) (door_met os _)) ?_
 intro W base args ds gs before hval0 hW hcnd hsz0 hL _
 have hval : ∀ (j : Nat) t v, Tryd.f10.params[j]? = some t → args[j]? = some v → Value.okWide Tryd.prog W .any base t v := hval0
 have hW' := hW
 obtain ⟨p, q, hA0, hV, rfl, hfz, hnd⟩ := hW
 have hA : DataW.TrodAll enc Tryd.prog W 0 (fun _ => true) true Tryd.f10.params.toList args.toList ds p := hA0
 rw [Tryd.params10] at hA hval
 obtain ⟨v0, vs0, d0, ds0, p0, q0, hargs, rfl, rfl, h0, r0⟩ := trodAll_cons hA
 obtain ⟨v1, vs1, d1, ds1, p1, q1, rfl, rfl, rfl, h1, r1⟩ := trodAll_cons r0
 obtain ⟨rfl, rfl, rfl⟩ := trodAll_nil r1
 obtain rfl : args = #[v0, v1] := by cases args; simp_all
 obtain ⟨rfl, rfl⟩ := trodVars_none hV
 have k0 := h0
 have lt0 : ∀ x ∈ p0, x.block < W.heap.size := by obtain ⟨m, hm⟩ := k0; exact DataW.trod_lt m _ _ _ hm
 obtain ⟨a0_0, a0_1, rfl, w0_0, w0_1⟩ := arg24 (hval 0 24 v0 rfl rfl) h0
 have k1 := h1
 have lt1 : ∀ x ∈ p1, x.block < W.heap.size := by obtain ⟨m, hm⟩ := k1; exact DataW.trod_lt m _ _ _ hm
 obtain ⟨a1_0, a1_1, rfl, w1_0, w1_1⟩ := arg24 (hval 1 24 v1 rfl rfl) h1
 have hG : H.GH W := gh_of_laid hL
 clear hA0 hval0 hsz0 hL hcnd
 obtain ⟨k, hk⟩ := Pure.pure_HangFloors a0_0 a0_1 a1_0 a1_1 w0_0 w0_1 w1_0 w1_1
 refine (H.cl6_HangFloors.calls k a0_0 a0_1 a1_0 a1_1 true W hG  hk).mono fun e W' ⟨he, bel⟩ => ?_
 subst he
 exact ⟨_, rfl, _, _, _, [], _, [], hW', trodAll_mk1 (shut_bool Tryd.underlying4 _), (trodAll_cons_mk (Below.trod laidOut (by kernel_rfl) (of_decide_eq_true (by kernel_rfl)) k0 bel lt0) (trodAll_cons_mk (Below.trod laidOut (by kernel_rfl) (of_decide_eq_true (by kernel_rfl)) k1 bel lt1) trodAll_mk0)), rfl, bel.frame _, fun h => by cases h⟩
theorem over : Rows.hangFloorsRow.holds Tryd.pinned (OpenSpec.ofChange Rows.hangFloorsSpec) :=
 OpenClaim.holds_of_wide 10 Tryd.f10 rfl rfl rfl rfl rfl rfl rfl ⟨rfl, rfl, rfl, rfl, rfl⟩ rfl rfl rfl rfl rfl (by kernel_rfl) Tryd.func10 (by kernel_rfl)
  (of_decide_eq_true (by kernel_rfl)) (by unfold Func.isWrapper; first | (rw [if_pos (by decide +kernel)]; kernel_rfl) | (rw [if_neg (by decide +kernel)]; exact ⟨rfl, rfl⟩))
  (fun os started Hd enc _ => lifted os started Hd enc)
theorem fits : ∀ t : TypeId, t ∈ Tryd.f10.params → Tryd.prog.wantsStandIn t = false := by
 rw [Tryd.params10]
 intro t ht
 simp only [List.mem_toArray, List.mem_cons, List.not_mem_nil, or_false] at ht
 rcases ht with rfl | rfl
 ·exact (show Tryd.prog.wantsStandIn 24 = false by kernel_rfl)
 ·exact (show Tryd.prog.wantsStandIn 24 = false by kernel_rfl)
theorem card : Rows.HangFloorsCardSaid :=
 Claim7.holds_tied_plain_at .later [] [.data] true (true, "bb9c8a1f3b87a99a73053614bf73ec5a74d01f458fba8a9eee33de806b476934") false
  over (fun _ h => by cases h) (by kernel_rfl) (fun _ h => by cases h) hangFloors_row_tie rfl ⟨rfl, rfl⟩ (by kernel_rfl) rfl
  (fun f fn hf hfn => by
   obtain rfl : f = 10 := Option.some.inj ((show Tryd.prog.funcNamed "codend/codendlaw06.HangFloors" = some 10 by kernel_rfl).symm.trans hf) |>.symm
   obtain rfl : fn = Tryd.f10 := (Option.some.inj (Tryd.func10.symm.trans hfn)).symm;exact ⟨by kernel_rfl, fun j t ht => fits t (Array.mem_of_getElem? ht)⟩)
  (by kernel_rfl)
#print axioms card
end Go.Proofs.YtppighiaffppkaaDoor.hangFloors
namespace Go.Proofs.YtppighiaffppkaaDoor
theorem hangFloors_holds : Rows.HangFloorsCardSaid := hangFloors.card
end Go.Proofs.YtppighiaffppkaaDoor
end
