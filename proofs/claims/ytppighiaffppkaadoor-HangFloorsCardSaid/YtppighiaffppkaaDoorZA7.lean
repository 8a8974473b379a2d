/- The common part of the claims of this seat: words, the walks of package hang's functions, and that the examples of the document hold (awake), part 7. Condition: the laid table hang.tens, as the card ties it. -/
import Derived.Shelf.Abstract
import Derived.Maps.Own
import Derived.Maps.OwnOps
import Derived.Maps.Views
import Derived.StringKeys
import Derived.Carry
import Derived.Test.YtppighiaffppkaaDoorRows
import Derived.ProofKit
import Derived.LaidMore
import Derived.OpenShut
import Derived.Stop.Joined
import Derived.Test.YtppighiaffppkaaDoorZA6
section
namespace Go.Proofs.YtppighiaffppkaaDoor.H
open Go.RowKit Go.Proofs.YtppighiaffppkaaDoorW.PrintWords Go.Proofs.YtppighiaffppkaaDoorW.PrintLast Go.Proofs.YtppighiaffppkaaDoorW.PrintMore
attribute [local go_sem] max2_int min2_int max_two min_two max_three min_three max_four min_four
set_option linter.unusedSimpArgs false
set_option linter.unusedVariables false
def api_Errno_99.l0 (cb : Int → Int → Int → ByteArray → Option Int) : Nat → List Int → List (S133) → Int → Int → Option (List Int)
 | 0, _, _, _, _ => none
 | k + 1, x5, x8, x9, x10 => if x10 < x9 then (if 0 ≤ x10 then (if x10 < (x8.length : Int) then ((cb ((rd_T133 x8 x10).f0) ((rd_T133 x8 x10).f1) ((rd_T133 x8 x10).f2) ((rd_T133 x8 x10).f3)).bind fun t277 => (if x5.length < 17592186044416 then (api_Errno_99.l0 cb k (x5 ++ [t277]) x8 x9 (wrap64 (x10 + 1))) else (none))) else (none)) else (none)) else (some x5)
def api_Errno_99.f (cb : Int → Int → Int → ByteArray → Option Int) (k : Nat) (l0 : List (S133))  : Option (List Int) := api_Errno_99.l0 cb k ([] : List Int) l0 (l0.length : Int) 0
theorem api_Errno_99.mono_l (cb : Int → Int → Int → ByteArray → Option Int) : ∀ k, (∀ y0 y1 y2 y3, LeO (api_Errno_99.l0 cb k y0 y1 y2 y3) (api_Errno_99.l0 cb (k + 1) y0 y1 y2 y3))
 | 0 => fun _ _ _ _ r h => by simp [api_Errno_99.l0] at h
 | k + 1 => by
  have ih0 := api_Errno_99.mono_l cb k
  ·intro y0 y1 y2 y3;unfold api_Errno_99.l0
   repeat' first
   | (with_reducible exact ih0 _ _ _ _)
   | (with_reducible exact LeO.refl _)
   | (with_reducible exact LeO.none _)
   | (with_reducible refine LeO.ite ?_ ?_)
   | (with_reducible refine LeO.bind ?_ (fun _ => ?_))
   | exact ih0 _ _ _ _
   | exact LeO.none _
   | refine LeO.ite ?_ ?_
   | refine LeO.bind ?_ (fun _ => ?_)
theorem api_Errno_99.mono (cb : Int → Int → Int → ByteArray → Option Int) : ∀ a0 k, LeO (api_Errno_99.f cb k a0) (api_Errno_99.f cb (k + 1) a0) := by
 intro a0 k
 have ih0 := api_Errno_99.mono_l cb k
 unfold api_Errno_99.f
 repeat' first
   | (with_reducible exact ih0 _ _ _ _)
   | (with_reducible exact LeO.refl _)
   | (with_reducible exact LeO.none _)
   | (with_reducible refine LeO.ite ?_ ?_)
   | (with_reducible refine LeO.bind ?_ (fun _ => ?_))
   | exact ih0 _ _ _ _
   | exact LeO.none _
   | refine LeO.ite ?_ ?_
   | refine LeO.bind ?_ (fun _ => ?_)
set_option maxHeartbeats 8000000 in
set_option maxRecDepth 100000 in
theorem api_Errno_99.calls (k : Nat) (A0 : Option Addr) (c0 : Nat) (l0 : List (S133)) (cb : Int → Int → Int → ByteArray → Option Int) (r : List Int) (w : World) (K_ : Nat) (caps_ : Array Value) (eg : ∀ args w, (callFunc K_ args).run Tryd.prog w = .ok (.enter K_ args) w) (hcb : ∀ (x0 x1 x2 : Int) (x3 : ByteArray) (r_ : Int) (w1 : World), Below w.heap.size w w1 → cb x0 x1 x2 x3 = some r_ → Calls Tryd.prog K_ (#[.agg #[.int .i64 x0, .int .i64 x1, .int .i64 x2, .string x3]] ++ caps_) w1 fun e w2 => e = .returned (.int .i64 r_) ∧ Below w1.heap.size w1 w2) (hr0 : Kd.C k133 w A0 l0.length l0) (hc0 : l0.length ≤ c0) (h : api_Errno_99.f cb k l0 = some r) :
  Calls Tryd.prog 99 #[.slice A0 l0.length c0, .func (.func K_) #[] caps_] w fun e w' => ∃ v0_ : Value, e = .returned (v0_) ∧ Kd.R (Kd.int .i64) 26 w' w.heap.size (fun _ => True) v0_ r ∧ Below w.heap.size w w' := by
 have HCB_ := Z0.mk hcb
 clear hcb
 have hu133 := Tryd.underlying133
 have HR0 := Z0.mk hr0
 have HC0 := Z0.mk hc0
 clear hr0 hc0
 have HB := Z0.mk (Below.refl w.heap.size w)
 have H : (api_Errno_99.l0 cb k ([] : List Int) l0 (l0.length : Int) 0) = some r := h
 clear h
 have H' := Z0.mk H
 clear H
 go_enter Tryd.func99, Tryd.ntmps99
 go_wp2
 go_loopg [5, 10] k (fun kq v5 v10 w' => ∃ (x5_1 : List Int) (x10_1 : Int), v10 = .int .i64 x10_1 ∧ Z0 (api_Errno_99.l0 cb kq x5_1 l0 (l0.length : Int) x10_1 = some r) ∧ Z0 (kq ≤ k) ∧ Z0 (Kd.R (Kd.int .i64) 26 w' w.heap.size (fun _ => True) v5 x5_1) ∧ Z0 (Below w.heap.size w w'))
 case atStart => exact ⟨(([] : List Int)), (0), (by first | rfl | (simp; done) | (simp [*]; done)), H', ⟨Nat.le_refl _⟩, ⟨by first | exact Kd.R_nil _ _ _ _ _ | exact Kd.N_nil _ _ _ _ _ | exact Kd.V_nil _ _ _ _ _ | exact Kd.Q_nil _ _ _ _ _ | exact Kd.S_nil _ _ _ _ _⟩, ⟨by repeat (first | (with_reducible first | exact HB.out | apply bwA | apply bwN | apply bw1) | exact HB.out)⟩⟩
 case round =>
  clear H';try clear p2
  obtain ⟨x5_1, x10_1, rfl, HA, HK1, HO_5, HB⟩ := hrel;cases gk with
  | zero => exact absurd HA.out (by simp [api_Errno_99.l0])
  | succ k1 =>
   have H := HA.out;clear HA;simp only [api_Errno_99.l0] at H;by_cases c3 : x10_1 < (l0.length : Int)
   ·rw [if_pos c3] at H;have c3b0 : decide (x10_1 < (l0.length : Int)) = true := decide_eq_true c3;clear c3;by_cases c4 : 0 ≤ x10_1
    ·rw [if_pos c4] at H;have c4b0 : decide (0 ≤ x10_1) = true := decide_eq_true c4;clear c4;by_cases c5 : x10_1 < (l0.length : Int)
     ·rw [if_pos c5] at H;have c5b0 : decide (x10_1 < (l0.length : Int)) = true := decide_eq_true c5;clear c5;replace H := Option.bind_eq_some_iff.mp H
      obtain ⟨t277, A60, H⟩ := H;try dsimp only at H
      have A6 := Z0.mk A60;clear A60;by_cases c7 : x5_1.length < 17592186044416
      ·rw [if_pos c7] at H;have LMc7 := Z0.mk c7;clear c7;obtain ⟨y278, hy278⟩ : ∃ y_ : List Int, y_ = (x5_1 ++ [t277]) := ⟨_, rfl⟩;replace H : (api_Errno_99.l0 cb k1 y278 l0 (l0.length : Int) (wrap64 (x10_1 + 1))) = some r := by first | (rw [hy278]; with_reducible exact H) | (have H2_ := (Option.bind_some _ _).symm.trans H; rw [hy278]; with_reducible exact H2_) | (have H2_ := (Option.bind_some _ _).symm.trans H; with_reducible exact H2_) | with_reducible exact H | (rw [hy278]; exact H) | exact H
       have Ny278 := Z0.mk hy278;clear hy278;have H' := Z0.mk H;clear H;have p275 : 0 ≤ (x10_1 : Int) := of_decide_eq_true (by first | (with_reducible assumption) | assumption);have q275 : x10_1 < (l0.length : Int) := of_decide_eq_true (by first | (with_reducible assumption) | assumption);obtain ⟨ad275, e275, hx275_0, hx275_1, hx275_2, hx275_3⟩ := at_T133 HR0.out x10_1 p275 q275;cases e275;replace hx275_0 := (HB.out.cell (World.block_lt_of_cell? w _ hx275_0)).trans hx275_0
       replace hx275_1 := (HB.out.cell (World.block_lt_of_cell? w _ hx275_1)).trans hx275_1
       replace hx275_2 := (HB.out.cell (World.block_lt_of_cell? w _ hx275_2)).trans hx275_2
       replace hx275_3 := (HB.out.cell (World.block_lt_of_cell? w _ hx275_3)).trans hx275_3
       replace p275 := eq_true p275
       replace q275 := eq_true q275
       go_wp2_with (first | ((with_reducible refine gtD (N := 7) rfl ?_); refine bxE ?hg (N := 7) ?hd (cs := #[.int .i64 0, .int .i64 0, .int .i64 0, .string (⟨#[]⟩ : ByteArray)]) (t := 133) ?hr ?_; (case hd => rfl); (case hg => rfl); (case hr => first | (go_simp; done) | (go_simp; rfl)); intro gb276 hg w8 hbox hb; have n0_ := Z0.mk (Kd.R_below (by (with_reducible repeat (first | apply Kd.R_alloc | apply Kd.R_drewN | apply Kd.R_drew)); exact HO_5.out) hb); have n1_ := Z0.mk (bwT (by repeat (first | (with_reducible first | exact HB.out | apply bwA | apply bwN | apply bw1) | exact HB.out)) hb); have n2_ := Z0.mk (hbox); have n3_ := Z0.mk ((by rw [hg]; exact (bwZ (by repeat (first | (with_reducible first | exact HB.out | apply bwA | apply bwN | apply bw1) | exact HB.out))) : w.heap.size ≤ gb276)); have n4_ := Z0.mk ((by rw [hg]; exact (bwZ (by repeat (first | (with_reducible first | exact HB.out | apply bwA | apply bwN | apply bw1) | exact HB.out))) : w.heap.size ≤ gb276)); clear HO_5 HB; have HO_5 := n0_; have HB := n1_; have BK276 := n2_; have GW276 := n3_; have GE276 := n4_; clear n0_ n1_ n2_ n3_ n4_; clear hb hbox hg; have hcz9_0 : w8.cell? ⟨gb276, 0, none⟩ = some (.int .i64 0) := (bkC BK276.out 0).trans rfl; have hcz9_1 : w8.cell? ⟨gb276, 1, none⟩ = some (.int .i64 0) := (bkC BK276.out 1).trans rfl; have hcz9_2 : w8.cell? ⟨gb276, 2, none⟩ = some (.int .i64 0) := (bkC BK276.out 2).trans rfl; have hcz9_3 : w8.cell? ⟨gb276, 3, none⟩ = some (.string (⟨#[]⟩ : ByteArray)) := (bkC BK276.out 3).trans rfl; have hfz9_0 := bkZ BK276.out 0; have hfz9_1 := bkZ BK276.out 1; have hfz9_2 := bkZ BK276.out 2; have hfz9_3 := bkZ BK276.out 3) | (go_at_fn K_; (with_reducible refine (HCB_.out ((rd_T133 l0 x10_1).f0) ((rd_T133 l0 x10_1).f1) ((rd_T133 l0 x10_1).f2) ((rd_T133 l0 x10_1).f3) t277 _ (by repeat (first | (with_reducible first | exact HB.out | apply bwA | apply bwN | apply bw1 | refine bwS ?_ GE276.out) | exact HB.out)) A6.out).mono ?_); rintro e w10 ⟨rfl, hb⟩; have n0_ := Z0.mk (Kd.R_below (by (with_reducible repeat (first | apply Kd.R_alloc | apply Kd.R_drewN | apply Kd.R_drew)); exact (Kd.R_mono (Kd.R_far (p := ⟨gb276, 3, none⟩) (Kd.R_far (p := ⟨gb276, 2, none⟩) (Kd.R_far (p := ⟨gb276, 1, none⟩) (Kd.R_far (p := ⟨gb276, 0, none⟩) (Kd.R_types HO_5.out BK276.out (by decide)) (fun _ hk => hk.2) (.int .i64 ((rd_T133 l0 x10_1).f0))) (fun _ hk => hk.2) (.int .i64 ((rd_T133 l0 x10_1).f1))) (fun _ hk => hk.2) (.int .i64 ((rd_T133 l0 x10_1).f2))) (fun _ hk => hk.2) (.string ((rd_T133 l0 x10_1).f3))) (fun _ h_ => h_.1))) hb); have n1_ := Z0.mk (bkB (g := gb276) (o := .cells #[.int .i64 ((rd_T133 l0 x10_1).f0), .int .i64 ((rd_T133 l0 x10_1).f1), .int .i64 ((rd_T133 l0 x10_1).f2), .string ((rd_T133 l0 x10_1).f3)] 133 (0, 0)) (by (with_reducible repeat (first | refine bkN ?_ _ | refine bkD ?_ | refine bkA ?_ _)); refine bkP (cs := #[.int .i64 ((rd_T133 l0 x10_1).f0), .int .i64 ((rd_T133 l0 x10_1).f1), .int .i64 ((rd_T133 l0 x10_1).f2), .string (⟨#[]⟩ : ByteArray)]) ?_ 3 _ rfl; (with_reducible repeat (first | refine bkN ?_ _ | refine bkD ?_ | refine bkA ?_ _)); refine bkP (cs := #[.int .i64 ((rd_T133 l0 x10_1).f0), .int .i64 ((rd_T133 l0 x10_1).f1), .int .i64 0, .string (⟨#[]⟩ : ByteArray)]) ?_ 2 _ rfl; (with_reducible repeat (first | refine bkN ?_ _ | refine bkD ?_ | refine bkA ?_ _)); refine bkP (cs := #[.int .i64 ((rd_T133 l0 x10_1).f0), .int .i64 0, .int .i64 0, .string (⟨#[]⟩ : ByteArray)]) ?_ 1 _ rfl; (with_reducible repeat (first | refine bkN ?_ _ | refine bkD ?_ | refine bkA ?_ _)); refine bkP (cs := #[.int .i64 0, .int .i64 0, .int .i64 0, .string (⟨#[]⟩ : ByteArray)]) ?_ 0 _ rfl; (with_reducible repeat (first | refine bkN ?_ _ | refine bkD ?_ | refine bkA ?_ _)); exact BK276.out) hb); have n2_ := Z0.mk (bwT (by repeat (first | (with_reducible first | exact HB.out | apply bwA | apply bwN | apply bw1 | refine bwS ?_ GE276.out) | exact HB.out)) hb); clear HO_5 BK276 HB; have HO_5 := n0_; have BK276 := n1_; have HB := n2_; clear n0_ n1_ n2_; (try clear hb); (try clear hb2); (try clear hk); (try clear hi)) | ((with_reducible refine gate_builtin (b := .append) (xs := #[.tmp 14, .tmp 18]) rfl ?_); at_builtin; refine Kd.R_append (Kd.int .i64) (w0 := w) w.heap.size rfl (.tmp 14) (.tmp 18) 154 26 (.int .i64 0) 8 rfl Tryd.underlying154 info26 rfl (by decide) (by omega) u5 x5_1 t277 [.int .i64 t277] (fun _ => True) (fun _ => False) rfl rfl ?aP (fun _ hk => hk.elim) ?aF ?aO ?aB ?aS ?aL ?_; (case aP => exact rfl); (case aB => exact (by repeat (first | (with_reducible first | exact HB.out | apply bwA | apply bwN | apply bw1 | refine bwS ?_ GE276.out) | exact HB.out))); (case aF => exact (fun _ _ => trivial)); (case aO => exact (by (with_reducible repeat (first | apply Kd.R_alloc | apply Kd.R_drewN | apply Kd.R_drew)); exact HO_5.out)); (case aS => exact (bwZ (by repeat (first | (with_reducible first | exact HB.out | apply bwA | apply bwN | apply bw1 | refine bwS ?_ GE276.out) | exact HB.out)))); (case aL => have := LMc7.out; omega); intro v279 w11 ho hb hg hat; rw [← Ny278.out] at ho; have n0_ := Z0.mk (blk_grown (g := gb276) (o := .cells #[.int .i64 ((rd_T133 l0 x10_1).f0), .int .i64 ((rd_T133 l0 x10_1).f1), .int .i64 ((rd_T133 l0 x10_1).f2), .string ((rd_T133 l0 x10_1).f3)] 133 (0, 0)) (by (with_reducible repeat (first | refine bkN ?_ _ | refine bkD ?_ | refine bkA ?_ _)); exact BK276.out) hg (Kd.R_ne HO_5.out BK276.out (by decide))); have n1_ := Z0.mk (hb); have n2_ := Z0.mk (ho); clear BK276 HB HO_5; have BK276 := n0_; have HB := n1_; have HO280 := n2_; clear n0_ n1_ n2_; clear ho hb hg hat))
       go_roundg k1
       case measure => have := HK1.out; omega
       case rel => exact ⟨(y278), (wrap64 (x10_1 + 1)), (by first | rfl | (simp; done) | (simp [*]; done)), H', ⟨by have := HK1.out; omega⟩, ⟨by (with_reducible repeat (first | apply Kd.R_alloc | apply Kd.R_drewN | apply Kd.R_drew)); exact HO280.out⟩, ⟨by repeat (first | (with_reducible first | exact HB.out | apply bwA | apply bwN | apply bw1 | refine bwS ?_ GE276.out) | exact HB.out)⟩⟩
      ·rw [if_neg c7] at H;exact absurd H (by simp)
     ·rw [if_neg c5] at H;exact absurd H (by simp)
    ·rw [if_neg c4] at H;exact absurd H (by simp)
   ·rw [if_neg c3] at H;have c3b0 : decide (x10_1 < (l0.length : Int)) = false := decide_eq_false c3;clear c3;obtain rfl := Option.some.inj H;go_wp2
    go_ret
    exact ⟨_, by first | rfl | (simp [errW_none, errW_some] <;> rfl) | (simp [*, errW_none, errW_some] <;> rfl), by (with_reducible repeat (first | apply Kd.R_alloc | apply Kd.R_drewN | apply Kd.R_drew)); exact HO_5.out, by repeat (first | (with_reducible first | exact HB.out | apply bwA | apply bwN | apply bw1) | exact HB.out)⟩
def hang_Sum_100.l0 (cb : ByteArray → Int → Int → Option (Int × Int × Int)) : Nat → List (S106) → List (S132) → Int → Int → Option ((List (S106)))
 | 0, _, _, _, _ => none
 | k + 1, x5, x8, x9, x10 => if x10 < x9 then (if 0 ≤ x10 then (if x10 < (x8.length : Int) then ((cb ((rd_T132 x8 x10).f0) ((rd_T132 x8 x10).f1) ((rd_T132 x8 x10).f2)).bind fun bt283 => (if x5.length < 5864062014805 then (hang_Sum_100.l0 cb k (x5 ++ [(⟨bt283.1, bt283.2.1, bt283.2.2⟩ : S106)]) x8 x9 (wrap64 (x10 + 1))) else (none))) else (none)) else (none)) else (some x5)
def hang_Sum_100.f (cb : ByteArray → Int → Int → Option (Int × Int × Int)) (k : Nat) (l0 : List (S132))  : Option ((List (S106))) := hang_Sum_100.l0 cb k ([] : List (S106)) l0 (l0.length : Int) 0
theorem hang_Sum_100.mono_l (cb : ByteArray → Int → Int → Option (Int × Int × Int)) : ∀ k, (∀ y0 y1 y2 y3, LeO (hang_Sum_100.l0 cb k y0 y1 y2 y3) (hang_Sum_100.l0 cb (k + 1) y0 y1 y2 y3))
 | 0 => fun _ _ _ _ r h => by simp [hang_Sum_100.l0] at h
 | k + 1 => by
  have ih0 := hang_Sum_100.mono_l cb k
  ·intro y0 y1 y2 y3;unfold hang_Sum_100.l0
   repeat' first
   | (with_reducible exact ih0 _ _ _ _)
   | (with_reducible exact LeO.refl _)
   | (with_reducible exact LeO.none _)
   | (with_reducible refine LeO.ite ?_ ?_)
   | (with_reducible refine LeO.bind ?_ (fun _ => ?_))
   | exact ih0 _ _ _ _
   | exact LeO.none _
   | refine LeO.ite ?_ ?_
   | refine LeO.bind ?_ (fun _ => ?_)
theorem hang_Sum_100.mono (cb : ByteArray → Int → Int → Option (Int × Int × Int)) : ∀ a0 k, LeO (hang_Sum_100.f cb k a0) (hang_Sum_100.f cb (k + 1) a0) := by
 intro a0 k
 have ih0 := hang_Sum_100.mono_l cb k
 unfold hang_Sum_100.f
 repeat' first
   | (with_reducible exact ih0 _ _ _ _)
   | (with_reducible exact LeO.refl _)
   | (with_reducible exact LeO.none _)
   | (with_reducible refine LeO.ite ?_ ?_)
   | (with_reducible refine LeO.bind ?_ (fun _ => ?_))
   | exact ih0 _ _ _ _
   | exact LeO.none _
   | refine LeO.ite ?_ ?_
   | refine LeO.bind ?_ (fun _ => ?_)
set_option maxHeartbeats 8000000 in
set_option maxRecDepth 100000 in
theorem hang_Sum_100.calls (k : Nat) (A0 : Option Addr) (c0 : Nat) (l0 : List (S132)) (cb : ByteArray → Int → Int → Option (Int × Int × Int)) (r : List (S106)) (w : World) (K_ : Nat) (caps_ : Array Value) (eg : ∀ args w, (callFunc K_ args).run Tryd.prog w = .ok (.enter K_ args) w) (hcb : ∀ (x0 : ByteArray) (x1 x2 : Int) (r1_ r2_ r3_ : Int) (w1 : World), Below w.heap.size w w1 → cb x0 x1 x2 = some (r1_, r2_, r3_) → Calls Tryd.prog K_ (#[.agg #[.string x0, .int .i64 x1, .int .i64 x2]] ++ caps_) w1 fun e w2 => e = .returned (.agg #[.int .i64 r1_, .int .i64 r2_, .int .i64 r3_]) ∧ Below w1.heap.size w1 w2) (hr0 : Kd.C k132 w A0 l0.length l0) (hc0 : l0.length ≤ c0) (h : hang_Sum_100.f cb k l0 = some r) :
  Calls Tryd.prog 100 #[.slice A0 l0.length c0, .func (.func K_) #[] caps_] w fun e w' => ∃ v0_ : Value, e = .returned (v0_) ∧ Kd.R k106 106 w' w.heap.size (fun _ => True) v0_ r ∧ Below w.heap.size w w' := by
 have HCB_ := Z0.mk hcb
 clear hcb
 have hu132 := Tryd.underlying132
 have HR0 := Z0.mk hr0
 have HC0 := Z0.mk hc0
 clear hr0 hc0
 have HB := Z0.mk (Below.refl w.heap.size w)
 have H : (hang_Sum_100.l0 cb k ([] : List (S106)) l0 (l0.length : Int) 0) = some r := h
 clear h
 have H' := Z0.mk H
 clear H
 go_enter Tryd.func100, Tryd.ntmps100
 go_wp2
 go_loopg [5, 10] k (fun kq v5 v10 w' => ∃ (x5_1 : List (S106)) (x10_1 : Int), v10 = .int .i64 x10_1 ∧ Z0 (hang_Sum_100.l0 cb kq x5_1 l0 (l0.length : Int) x10_1 = some r) ∧ Z0 (kq ≤ k) ∧ Z0 (Kd.R k106 106 w' w.heap.size (fun _ => True) v5 x5_1) ∧ Z0 (Below w.heap.size w w'))
 case atStart => exact ⟨(([] : List (S106))), (0), (by first | rfl | (simp; done) | (simp [*]; done)), H', ⟨Nat.le_refl _⟩, ⟨by first | exact Kd.R_nil _ _ _ _ _ | exact Kd.N_nil _ _ _ _ _ | exact Kd.V_nil _ _ _ _ _ | exact Kd.Q_nil _ _ _ _ _ | exact Kd.S_nil _ _ _ _ _⟩, ⟨by repeat (first | (with_reducible first | exact HB.out | apply bwA | apply bwN | apply bw1) | exact HB.out)⟩⟩
 case round =>
  clear H';try clear c1
  try clear p2
  obtain ⟨x5_1, x10_1, rfl, HA, HK1, HO_5, HB⟩ := hrel;cases gk with
  | zero => exact absurd HA.out (by simp [hang_Sum_100.l0])
  | succ k1 =>
   have H := HA.out;clear HA;simp only [hang_Sum_100.l0] at H;by_cases c3 : x10_1 < (l0.length : Int)
   ·rw [if_pos c3] at H;have c3b0 : decide (x10_1 < (l0.length : Int)) = true := decide_eq_true c3;clear c3;by_cases c4 : 0 ≤ x10_1
    ·rw [if_pos c4] at H;have c4b0 : decide (0 ≤ x10_1) = true := decide_eq_true c4;clear c4;by_cases c5 : x10_1 < (l0.length : Int)
     ·rw [if_pos c5] at H;have c5b0 : decide (x10_1 < (l0.length : Int)) = true := decide_eq_true c5;clear c5;replace H := Option.bind_eq_some_iff.mp H
      obtain ⟨⟨t283, t284, t285⟩, A60, H⟩ := H;try dsimp only at H
      have A6 := Z0.mk A60;clear A60;by_cases c7 : x5_1.length < 5864062014805
      ·rw [if_pos c7] at H;have LMc7 := Z0.mk c7;clear c7;obtain ⟨y286, hy286⟩ : ∃ y_ : List (S106), y_ = (x5_1 ++ [(⟨t283, t284, t285⟩ : S106)]) := ⟨_, rfl⟩;replace H : (hang_Sum_100.l0 cb k1 y286 l0 (l0.length : Int) (wrap64 (x10_1 + 1))) = some r := by first | (rw [hy286]; with_reducible exact H) | (have H2_ := (Option.bind_some _ _).symm.trans H; rw [hy286]; with_reducible exact H2_) | (have H2_ := (Option.bind_some _ _).symm.trans H; with_reducible exact H2_) | with_reducible exact H | (rw [hy286]; exact H) | exact H
       have Ny286 := Z0.mk hy286;clear hy286;have H' := Z0.mk H;clear H;have p281 : 0 ≤ (x10_1 : Int) := of_decide_eq_true (by first | (with_reducible assumption) | assumption);have q281 : x10_1 < (l0.length : Int) := of_decide_eq_true (by first | (with_reducible assumption) | assumption);obtain ⟨ad281, e281, hx281_0, hx281_1, hx281_2⟩ := at_T132 HR0.out x10_1 p281 q281;cases e281;replace hx281_0 := (HB.out.cell (World.block_lt_of_cell? w _ hx281_0)).trans hx281_0
       replace hx281_1 := (HB.out.cell (World.block_lt_of_cell? w _ hx281_1)).trans hx281_1
       replace hx281_2 := (HB.out.cell (World.block_lt_of_cell? w _ hx281_2)).trans hx281_2
       replace p281 := eq_true p281
       replace q281 := eq_true q281
       go_wp2_with (first | ((with_reducible refine gtD (N := 7) rfl ?_); refine bxE ?hg (N := 7) ?hd (cs := #[.string (⟨#[]⟩ : ByteArray), .int .i64 0, .int .i64 0]) (t := 132) ?hr ?_; (case hd => rfl); (case hg => rfl); (case hr => first | (go_simp; done) | (go_simp; rfl)); intro gb282 hg w8 hbox hb; have n0_ := Z0.mk (Kd.R_below (by (with_reducible repeat (first | apply Kd.R_alloc | apply Kd.R_drewN | apply Kd.R_drew)); exact HO_5.out) hb); have n1_ := Z0.mk (bwT (by repeat (first | (with_reducible first | exact HB.out | apply bwA | apply bwN | apply bw1) | exact HB.out)) hb); have n2_ := Z0.mk (hbox); have n3_ := Z0.mk ((by rw [hg]; exact (bwZ (by repeat (first | (with_reducible first | exact HB.out | apply bwA | apply bwN | apply bw1) | exact HB.out))) : w.heap.size ≤ gb282)); have n4_ := Z0.mk ((by rw [hg]; exact (bwZ (by repeat (first | (with_reducible first | exact HB.out | apply bwA | apply bwN | apply bw1) | exact HB.out))) : w.heap.size ≤ gb282)); clear HO_5 HB; have HO_5 := n0_; have HB := n1_; have BK282 := n2_; have GW282 := n3_; have GE282 := n4_; clear n0_ n1_ n2_ n3_ n4_; clear hb hbox hg; have hcz9_0 : w8.cell? ⟨gb282, 0, none⟩ = some (.string (⟨#[]⟩ : ByteArray)) := (bkC BK282.out 0).trans rfl; have hcz9_1 : w8.cell? ⟨gb282, 1, none⟩ = some (.int .i64 0) := (bkC BK282.out 1).trans rfl; have hcz9_2 : w8.cell? ⟨gb282, 2, none⟩ = some (.int .i64 0) := (bkC BK282.out 2).trans rfl; have hfz9_0 := bkZ BK282.out 0; have hfz9_1 := bkZ BK282.out 1; have hfz9_2 := bkZ BK282.out 2) | (go_at_fn K_; (with_reducible refine (HCB_.out ((rd_T132 l0 x10_1).f0) ((rd_T132 l0 x10_1).f1) ((rd_T132 l0 x10_1).f2) t283 t284 t285 _ (by repeat (first | (with_reducible first | exact HB.out | apply bwA | apply bwN | apply bw1 | refine bwS ?_ GE282.out) | exact HB.out)) A6.out).mono ?_); rintro e w10 ⟨rfl, hb⟩; have n0_ := Z0.mk (Kd.R_below (by (with_reducible repeat (first | apply Kd.R_alloc | apply Kd.R_drewN | apply Kd.R_drew)); exact (Kd.R_mono (Kd.R_far (p := ⟨gb282, 2, none⟩) (Kd.R_far (p := ⟨gb282, 1, none⟩) (Kd.R_far (p := ⟨gb282, 0, none⟩) (Kd.R_types HO_5.out BK282.out (by decide)) (fun _ hk => hk.2) (.string ((rd_T132 l0 x10_1).f0))) (fun _ hk => hk.2) (.int .i64 ((rd_T132 l0 x10_1).f1))) (fun _ hk => hk.2) (.int .i64 ((rd_T132 l0 x10_1).f2))) (fun _ h_ => h_.1))) hb); have n1_ := Z0.mk (bkB (g := gb282) (o := .cells #[.string ((rd_T132 l0 x10_1).f0), .int .i64 ((rd_T132 l0 x10_1).f1), .int .i64 ((rd_T132 l0 x10_1).f2)] 132 (0, 0)) (by (with_reducible repeat (first | refine bkN ?_ _ | refine bkD ?_ | refine bkA ?_ _)); refine bkP (cs := #[.string ((rd_T132 l0 x10_1).f0), .int .i64 ((rd_T132 l0 x10_1).f1), .int .i64 0]) ?_ 2 _ rfl; (with_reducible repeat (first | refine bkN ?_ _ | refine bkD ?_ | refine bkA ?_ _)); refine bkP (cs := #[.string ((rd_T132 l0 x10_1).f0), .int .i64 0, .int .i64 0]) ?_ 1 _ rfl; (with_reducible repeat (first | refine bkN ?_ _ | refine bkD ?_ | refine bkA ?_ _)); refine bkP (cs := #[.string (⟨#[]⟩ : ByteArray), .int .i64 0, .int .i64 0]) ?_ 0 _ rfl; (with_reducible repeat (first | refine bkN ?_ _ | refine bkD ?_ | refine bkA ?_ _)); exact BK282.out) hb); have n2_ := Z0.mk (bwT (by repeat (first | (with_reducible first | exact HB.out | apply bwA | apply bwN | apply bw1 | refine bwS ?_ GE282.out) | exact HB.out)) hb); clear HO_5 BK282 HB; have HO_5 := n0_; have BK282 := n1_; have HB := n2_; clear n0_ n1_ n2_; (try clear hb); (try clear hb2); (try clear hk); (try clear hi)) | ((with_reducible refine gate_builtin (b := .append) (xs := #[.tmp 14, .tmp 18]) rfl ?_); at_builtin; refine Kd.R_append k106 (w0 := w) w.heap.size rfl (.tmp 14) (.tmp 18) 96 106 (.agg #[(.int .i64 0), (.int .i64 0), (.int .i64 0)]) 24 rfl Tryd.underlying96 info106 rfl (by decide) (by omega) u5 x5_1 (⟨t283, t284, t285⟩ : S106) [.int .i64 t283, .int .i64 t284, .int .i64 t285] (fun _ => True) (fun _ => False) rfl rfl ?aP (fun _ hk => hk.elim) ?aF ?aO ?aB ?aS ?aL ?_; (case aP => exact k106_mkM _ _ _ (⟨t283, t284, t285⟩ : S106)); (case aB => exact (by repeat (first | (with_reducible first | exact HB.out | apply bwA | apply bwN | apply bw1 | refine bwS ?_ GE282.out) | exact HB.out))); (case aF => exact (fun _ _ => trivial)); (case aO => exact (by (with_reducible repeat (first | apply Kd.R_alloc | apply Kd.R_drewN | apply Kd.R_drew)); exact HO_5.out)); (case aS => exact (bwZ (by repeat (first | (with_reducible first | exact HB.out | apply bwA | apply bwN | apply bw1 | refine bwS ?_ GE282.out) | exact HB.out)))); (case aL => have := LMc7.out; omega); intro v287 w11 ho hb hg hat; rw [← Ny286.out] at ho; have n0_ := Z0.mk (blk_grown (g := gb282) (o := .cells #[.string ((rd_T132 l0 x10_1).f0), .int .i64 ((rd_T132 l0 x10_1).f1), .int .i64 ((rd_T132 l0 x10_1).f2)] 132 (0, 0)) (by (with_reducible repeat (first | refine bkN ?_ _ | refine bkD ?_ | refine bkA ?_ _)); exact BK282.out) hg (Kd.R_ne HO_5.out BK282.out (by decide))); have n1_ := Z0.mk (hb); have n2_ := Z0.mk (ho); clear BK282 HB HO_5; have BK282 := n0_; have HB := n1_; have HO288 := n2_; clear n0_ n1_ n2_; clear ho hb hg hat))
       go_roundg k1
       case measure => have := HK1.out; omega
       case rel => exact ⟨(y286), (wrap64 (x10_1 + 1)), (by first | rfl | (simp; done) | (simp [*]; done)), H', ⟨by have := HK1.out; omega⟩, ⟨by (with_reducible repeat (first | apply Kd.R_alloc | apply Kd.R_drewN | apply Kd.R_drew)); exact HO288.out⟩, ⟨by repeat (first | (with_reducible first | exact HB.out | apply bwA | apply bwN | apply bw1 | refine bwS ?_ GE282.out) | exact HB.out)⟩⟩
      ·rw [if_neg c7] at H;exact absurd H (by simp)
     ·rw [if_neg c5] at H;exact absurd H (by simp)
    ·rw [if_neg c4] at H;exact absurd H (by simp)
   ·rw [if_neg c3] at H;have c3b0 : decide (x10_1 < (l0.length : Int)) = false := decide_eq_false c3;clear c3;obtain rfl := Option.some.inj H;go_wp2
    go_ret
    exact ⟨_, by first | rfl | (simp [errW_none, errW_some] <;> rfl) | (simp [*, errW_none, errW_some] <;> rfl), by (with_reducible repeat (first | apply Kd.R_alloc | apply Kd.R_drewN | apply Kd.R_drew)); exact HO_5.out, by repeat (first | (with_reducible first | exact HB.out | apply bwA | apply bwN | apply bw1) | exact HB.out)⟩
end Go.Proofs.YtppighiaffppkaaDoor.H
end
section
namespace Go.Proofs.YtppighiaffppkaaDoor.H
open Go.RowKit Go.Maps Go.WideMaps Go.WideAt Go.Proofs.YtppighiaffppkaaDoorW.PrintWords Go.Proofs.YtppighiaffppkaaDoorW.PrintLast Go.Proofs.YtppighiaffppkaaDoorW.PrintMore
theorem strKeyed : Keyed Tryd.prog 9 := string_keyed Tryd.underlying9
theorem zero3 (w : World) : (zeroValue 3).run Tryd.prog w = .ok (.int .i64 0) w := by kernel_rfl
def MapHas (w : World) (b n : Nat) (M : List UInt8 → Int) : Prop :=
 ∃ D : DataW Unit, w.ownsMap Tryd.prog 9 (plainElem Tryd.prog 3) b n D ∧ IsMap D ∧ ∀ s, D.atKey (.string s) (.lit (.int .i64 0)) = .lit (.int .i64 (M s))
theorem MapHas.made (w : World) : MapHas (w.alloc (.map #[] 0)) w.heap.size 0 (fun _ => 0) := ⟨_, World.ownsMap_made _ _ _ _, ⟨_, rfl⟩, fun _ => rfl⟩
theorem MapHas.below {w w' : World} {b n : Nat} {M : List UInt8 → Int} (h : MapHas w b n M) (hb : Below w.heap.size w w') : MapHas w' b n M := by
 obtain ⟨D, h1, h2, h3⟩ := h
 exact ⟨D, h1.kept (row := none) ⟨hb.os, hb.tape, hb.output, hb.size, fun k hk _ => hb.block k hk⟩ (by simp), h2, h3⟩
theorem MapHas.lookup {w : World} {b n : Nat} {M : List UInt8 → Int} (h : MapHas w b n M) (s : ByteArray) (hs : s.size ≤ maxLen) :
  (Instr.lookup 156 (.map (some b)) (.string s) false).run Tryd.prog w = .ok (.int .i64 (M s.data.toList)) w := by
 obtain ⟨D, h1, h2, h3⟩ := h
 obtain ⟨c, hrun, hat, _⟩ := h1.lookup_int strKeyed Tryd.underlying156 Tryd.underlying3 (zero3 _) (keyOf_string_mk Tryd.underlying9 hs)
 rw [h3] at hat
 simp only [DataW.lit.injEq, Lit.int.injEq, true_and] at hat
 rw [hat]; exact hrun
theorem MapHas.update {w : World} {b n : Nat} {M : List UInt8 → Int} (h : MapHas w b n M) (hn : n < maxLen) (s : ByteArray) (hs : s.size ≤ maxLen) (v : Int) :
  ∃ w', (Instr.mapUpdate 156 (.map (some b)) (.string s) (.int .i64 (wrap64 v))).run Tryd.prog w = .ok () w' ∧ MapHas w' b (n + 1) (fun t => if t = s.data.toList then wrap64 v else M t) ∧ w.grownBy w' (some b) := by
 obtain ⟨D, h1, h2, h3⟩ := h
 obtain ⟨w', hrun, hown, hg⟩ := h1.update strKeyed Tryd.underlying156 hn (keyOf_string_mk Tryd.underlying9 hs) (plainElem_int (H := Unit) Tryd.underlying3 (wrap64_wf v))
 refine ⟨w', hrun, ⟨_, hown, ?_, fun t => ?_⟩, hg⟩
 ·obtain ⟨e, rfl⟩ := h2;exact ⟨_, rfl⟩
 ·by_cases ht : t = s.data.toList
  ·subst ht;simp only [if_true];exact atKey_put_same h2 (by trivial) _ _
  ·simp only [if_neg ht];rw [atKey_put_other (by simpa using ht), h3]
end Go.Proofs.YtppighiaffppkaaDoor.H
end
section
namespace Go.Proofs.YtppighiaffppkaaDoor.H
open Go.RowKit Go.Proofs.YtppighiaffppkaaDoorW.PrintWords Go.Proofs.YtppighiaffppkaaDoorW.PrintLast Go.Proofs.YtppighiaffppkaaDoorW.PrintMore
attribute [local go_sem] max2_int min2_int max_two min_two max_three min_three max_four min_four
set_option linter.unusedSimpArgs false
set_option linter.unusedVariables false
def hang_Bill_3.f (M : List UInt8 → Int) (a0_0 : ByteArray) (a0_1 : Int) (a0_2 : Int) : Option (Int × Int × Int) := (if a0_0.size ≤ maxLen then some (M a0_0.data.toList) else none).bind fun t955 => ((hang_weight.f t955 a0_1).bind fun t956 => (some (t955, t956, wrap64 (t955 * a0_2))))
def hang_Bill_3.T2 : Bool × List (List Nat × List Nat) := (true, [([], []), ([], []), ([], []), ([2], [2]), ([1, 3], [1, 3]), ([], []), ([], []), ([6], [6]), ([5, 7], [5, 7]), ([0, 4, 8], [0, 4, 8]), ([9, 4, 0, 1, 2, 3, 4, 5, 6, 7, 8, 9], [9])])
def hang_Bill_3.B2 : List Nat := [0, 0, 0, 4, 14, 0, 0, 64, 224, 511, 1023]
theorem hang_Bill_3.tab2 : rtab .any (opsOf Tryd.f101 2) = hang_Bill_3.T2 := by kernel_rfl
theorem hang_Bill_3.bits2 : waitsOk hang_Bill_3.T2.2 hang_Bill_3.B2 = true := by kernel_rfl
set_option maxHeartbeats 8000000 in
set_option maxRecDepth 100000 in
theorem hang_Bill_3.calls (M : List UInt8 → Int) (b_ n_ gk : Nat) (a0_0 : ByteArray) (a0_1 : Int) (a0_2 : Int) (r1 : Int) (r2 : Int) (r3 : Int) (w : World) (hb1 : w.heap[gk]? = some (.cells #[.map (some b_)] 156 (0, 0))) (hm : MapHas w b_ n_ M) (h : hang_Bill_3.f M a0_0 a0_1 a0_2 = some (r1, r2, r3)) :
  Calls Tryd.prog 101 #[.agg #[.string a0_0, .int .i64 a0_1, .int .i64 a0_2], .pointer (some ⟨gk, 0, none⟩)] w fun e w' => e = .returned (.agg #[.int .i64 r1, .int .i64 r2, .int .i64 r3]) ∧ Below w.heap.size w w' := by
 have HT1 := Z0.mk hb1
 have HM := Z0.mk hm
 clear hb1 hm
 have hu132 := Tryd.underlying132
 have hu106 := Tryd.underlying106
 have hu23 := Tryd.underlying23
 have HB := Z0.mk (Below.refl w.heap.size w)
 have H : ((if a0_0.size ≤ maxLen then some (M a0_0.data.toList) else none).bind fun t955 => ((hang_weight.f t955 a0_1).bind fun t956 => (some (t955, t956, wrap64 (t955 * a0_2))))) = some (r1, r2, r3) := h
 clear h
 replace H := Option.bind_eq_some_iff.mp H
 obtain ⟨t955, A30, H⟩ := H
 try dsimp only at H
 have HSZ : Z0 (a0_0.size ≤ maxLen) := ⟨by by_cases hsz : a0_0.size ≤ maxLen; exact hsz; rw [if_neg hsz] at A30; cases A30⟩
 rw [if_pos HSZ.out] at A30
 obtain rfl := Option.some.inj A30
 clear A30
 replace H := Option.bind_eq_some_iff.mp H
 obtain ⟨t956, A40, H⟩ := H
 try dsimp only at H
 have A4 := Z0.mk A40
 clear A40
 simp only [Option.some.injEq, Prod.mk.injEq] at H
 obtain ⟨rfl, rfl, rfl⟩ := H
 go_enter Tryd.func101, Tryd.ntmps101
 try go_wp2_with (first | ((with_reducible refine gtD (N := 2) rfl ?_); refine bxE ?hg (N := 2) ?hd (cs := #[.string a0_0, .int .i64 a0_1, .int .i64 a0_2]) (t := 132) ?hr ?_; (case hd => rfl); (case hg => rfl); (case hr => first | (go_simp; done) | (go_simp; rfl)); intro gb952 hg w5 hbox hb; have n0_ := Z0.mk (bwT (by repeat (first | (with_reducible first | exact HB.out | apply bwA | apply bwN | apply bw1) | exact HB.out)) hb); have n1_ := Z0.mk (hbox); have n2_ := Z0.mk ((by rw [hg]; exact (bwZ (by repeat (first | (with_reducible first | exact HB.out | apply bwA | apply bwN | apply bw1) | exact HB.out))) : w.heap.size ≤ gb952)); have n3_ := Z0.mk ((by rw [hg]; exact (bwZ (by repeat (first | (with_reducible first | exact HB.out | apply bwA | apply bwN | apply bw1) | exact HB.out))) : w.heap.size ≤ gb952)); clear HB; have HB := n0_; have BK952 := n1_; have GW952 := n2_; have GE952 := n3_; clear n0_ n1_ n2_ n3_; clear hb hbox hg) | ((with_reducible refine gtD (N := 3) rfl ?_); refine bxE ?hg (N := 3) ?hd (cs := #[.int .i64 0, .int .i64 0, .int .i64 0]) (t := 106) ?hr ?_; (case hd => rfl); (case hg => rfl); (case hr => first | (go_simp; done) | (go_simp; rfl)); intro gb953 hg w6 hbox hb; have n0_ := Z0.mk (bkB (g := gb952) (o := .cells #[.string a0_0, .int .i64 a0_1, .int .i64 a0_2] 132 (0, 0)) (by (with_reducible repeat (first | refine bkN ?_ _ | refine bkD ?_ | refine bkA ?_ _)); exact BK952.out) hb); have n1_ := Z0.mk (bwT (by repeat (first | (with_reducible first | exact HB.out | apply bwA | apply bwN | apply bw1 | refine bwS ?_ GE952.out) | exact HB.out)) hb); have n2_ := Z0.mk (hbox); have n3_ := Z0.mk ((by rw [hg]; exact (bwZ (by repeat (first | (with_reducible first | exact HB.out | apply bwA | apply bwN | apply bw1 | refine bwS ?_ GE952.out) | exact HB.out))) : w.heap.size ≤ gb953)); have n4_ := Z0.mk ((by rw [hg]; exact (bwZ (by repeat (first | (with_reducible first | exact HB.out | apply bwA | apply bwN | apply bw1 | refine bwS ?_ GE952.out) | exact HB.out))) : w.heap.size ≤ gb953)); have n5_ := Z0.mk ((by rw [hg]; exact Nat.ne_of_lt (blk_lt (g := gb952) (o := .cells #[.string a0_0, .int .i64 a0_1, .int .i64 a0_2] 132 (0, 0)) (by (with_reducible repeat (first | refine bkN ?_ _ | refine bkD ?_ | refine bkA ?_ _)); exact BK952.out)) : gb952 ≠ gb953)); have n6_ := Z0.mk ((by rw [hg]; exact Nat.ne_of_gt (blk_lt (g := gb952) (o := .cells #[.string a0_0, .int .i64 a0_1, .int .i64 a0_2] 132 (0, 0)) (by (with_reducible repeat (first | refine bkN ?_ _ | refine bkD ?_ | refine bkA ?_ _)); exact BK952.out)) : gb953 ≠ gb952)); clear BK952 HB; have BK952 := n0_; have HB := n1_; have BK953 := n2_; have GW953 := n3_; have GE953 := n4_; have NB952_953 := n5_; have NB953_952 := n6_; clear n0_ n1_ n2_ n3_ n4_ n5_ n6_; clear hb hbox hg; have hcm : w6.cell? ⟨gk, 0, none⟩ = some (.map (some b_)) := (bkC ((HB.out.block gk (blk_lt HT1.out)).trans HT1.out) 0).trans rfl; have hlk := MapHas.lookup (MapHas.below HM.out HB.out) a0_0 HSZ.out; have hcs := (bkC BK952.out 0).trans (show _ = some (Value.string a0_0) from rfl)))
 have n0_ := Z0.mk (bkD BK952.out)
 have n1_ := Z0.mk (bkD BK953.out)
 have n3_ := Z0.mk (bw1 HB.out)
 clear BK952 BK953 HB
 have BK952 := n0_
 have BK953 := n1_
 have HB := n3_
 clear n0_ n1_ n3_
 refine start_ (n := 11) (S := fun w' => w'.cell? ⟨gb952, 0, none⟩ = some (.string a0_0) ∧ w'.cell? ⟨gb952, 1, none⟩ = some (.int .i64 a0_1) ∧ w'.cell? ⟨gb952, 2, none⟩ = some (.int .i64 a0_2)) (ds := []) #[false, false, false, false, false, false, false, false, false, false, false] (by kernel_rfl) rfl rfl ⟨(bkC BK952.out 0).trans rfl, (bkC BK952.out 1).trans rfl, (bkC BK952.out 2).trans rfl⟩ (fun hHd => ?_); refine with_tabW hang_Bill_3.tab2 hang_Bill_3.bits2 (fun HT_ HW_ => ?_)
 generalize w6.drew = w11 at BK952 BK953 HB hHd ⊢
 refine pure_ (i := 0) (N := some 9) (v := ?_) (a' := ?_) #[true, false, false, false, false, false, false, false, false, false, false] rfl rfl (any_of HT_.out (by kernel_rfl)) (fun _ _ _ h => h) (Or.inl ⟨by rfl, ?_⟩) ?_ ?_
 rotate_left; (intro w'; go_simp; with_reducible rfl); rotate_left; (simp only [Act.put, List.setIfInBounds_toArray, List.set_cons_zero, List.set_cons_succ, i64_w, i32_w]; rfl)
 refine pure_ (i := 1) (N := some 10) (v := ?_) (a' := ?_) #[true, true, false, false, false, false, false, false, false, false, false] rfl rfl (any_of HT_.out (by kernel_rfl)) (fun _ _ _ h => h) (Or.inl ⟨by rfl, ?_⟩) ?_ ?_
 rotate_left; (intro w'; go_simp; with_reducible rfl); rotate_left; (simp only [Act.put, List.setIfInBounds_toArray, List.set_cons_zero, List.set_cons_succ, i64_w, i32_w]; rfl)
 refine pure_ (i := 2) (N := some 11) (v := ?_) (a' := ?_) #[true, true, true, false, false, false, false, false, false, false, false] rfl rfl (any_of HT_.out (by kernel_rfl)) (fun _ _ _ h => h) (Or.inl ⟨by rfl, ?_⟩) ?_ ?_
 rotate_left; (intro w'; go_simp; with_reducible rfl); rotate_left; (simp only [Act.put, List.setIfInBounds_toArray, List.set_cons_zero, List.set_cons_succ, i64_w, i32_w]; rfl)
 refine pure_ (i := 5) (N := some 14) (v := ?_) (a' := ?_) #[true, true, true, false, false, true, false, false, false, false, false] rfl rfl (any_of HT_.out (by kernel_rfl)) (fun _ _ _ h => h) (Or.inl ⟨by rfl, ?_⟩) ?_ ?_
 rotate_left; (intro w'; go_simp; with_reducible rfl); rotate_left; (simp only [Act.put, List.setIfInBounds_toArray, List.set_cons_zero, List.set_cons_succ, i64_w, i32_w]; rfl)
 refine pure_ (i := 6) (N := some 15) (v := ?_) (a' := ?_) #[true, true, true, false, false, true, true, false, false, false, false] rfl rfl (any_of HT_.out (by kernel_rfl)) (fun _ _ _ h => h) (Or.inl ⟨by rfl, ?_⟩) ?_ ?_
 rotate_left; (intro w'; go_simp; with_reducible rfl); rotate_left; (simp only [Act.put, List.setIfInBounds_toArray, List.set_cons_zero, List.set_cons_succ, i64_w, i32_w]; rfl)
 refine take_ (i := 3) (N := some 12) (v := ?_) (a' := ?_) #[true, true, true, true, false, true, true, false, false, false, false] rfl rfl (take_ofW HT_.out HW_.out (by kernel_rfl)) (fun _ _ _ h => h) (Or.inl ⟨by rfl, ?_⟩) hHd ?_ ?_
 rotate_left
 ·rintro w' ⟨s0, s1, s2⟩;go_simp
  with_reducible rfl
 rotate_left
 ·simp only [Act.put, List.setIfInBounds_toArray, List.set_cons_zero, List.set_cons_succ, i64_w, i32_w];rfl
 refine take_ (i := 7) (N := some 16) (v := ?_) (a' := ?_) #[true, true, true, true, false, true, true, true, false, false, false] rfl rfl (take_ofW HT_.out HW_.out (by kernel_rfl)) (fun _ _ _ h => h) (Or.inl ⟨by rfl, ?_⟩) hHd ?_ ?_
 rotate_left
 ·rintro w' ⟨s0, s1, s2⟩;go_simp
  with_reducible rfl
 rotate_left
 ·simp only [Act.put, List.setIfInBounds_toArray, List.set_cons_zero, List.set_cons_succ, i64_w, i32_w];rfl
 refine pure_ (i := 8) (N := some 17) (v := ?_) (a' := ?_) #[true, true, true, true, false, true, true, true, true, false, false] rfl rfl (any_of HT_.out (by kernel_rfl)) (fun _ _ _ h => h) (Or.inl ⟨by rfl, ?_⟩) ?_ ?_
 rotate_left; (intro w'; go_simp; with_reducible rfl); rotate_left; (simp only [Act.put, List.setIfInBounds_toArray, List.set_cons_zero, List.set_cons_succ, i64_w, i32_w]; rfl)
 refine one_ (i := 4) (N := some 13) #[true, true, true, true, true, true, true, true, true, false, false] rfl rfl (one_of HT_.out (by kernel_rfl)) (by decide) (fun K hK => ?_)
 refine goes_ Tryd.func95 (by kernel_rfl) rfl #[.int .i64 (M a0_0.data.toList), .int .i64 a0_1] (by rfl) rfl rfl (by (try simp only [List.map_toArray, List.map_cons, List.map_nil]) <;> rfl) ?_
 with_reducible refine (hang_weight.calls (M a0_0.data.toList) a0_1 t956 _ A4.out).mono ?_
 rintro e w' ⟨rfl, ⟨nd, rfl⟩⟩
 refine ⟨_, rfl, ?_⟩
 refine hK.out _ _ ⟨(bkC BK952.out 0).trans rfl, (bkC BK952.out 1).trans rfl, (bkC BK952.out 2).trans rfl⟩ (fun hHd => ?_)
 clear hK K
 refine norm_ (a' := ?_) ?_ ?_
 rotate_left
 ·show Act.put _ (some 13) _ = _
  simp only [Act.put, List.setIfInBounds_toArray, List.set_cons_zero, List.set_cons_succ, i64_w, i32_w];rfl
 refine pure_ (i := 9) (N := some 18) (v := ?_) (a' := ?_) #[true, true, true, true, true, true, true, true, true, true, false] rfl rfl (any_of HT_.out (by kernel_rfl)) (fun _ _ _ h => h) (Or.inl ⟨by rfl, ?_⟩) ?_ ?_
 rotate_left; (intro w'; go_simp; with_reducible rfl); rotate_left; (simp only [Act.put, List.setIfInBounds_toArray, List.set_cons_zero, List.set_cons_succ, i64_w, i32_w]; rfl)
 refine one_ (i := 10) (N := none) #[true, true, true, true, true, true, true, true, true, true, true] rfl rfl (one_of HT_.out (by kernel_rfl)) (by decide) (fun K hK => ?_)
 have hs12 : w11.cell? ⟨gb953, 0, none⟩ = some (.int .i64 0) := (bkC BK953.out 0).trans rfl
 have hfs12 := bkZ BK953.out 0
 have hns12_0 := NB952_953.out
 have hms12_0 := NB953_952.out
 have hs13 : w11.cell? ⟨gb953, 1, none⟩ = some (.int .i64 0) := (bkC BK953.out 1).trans rfl
 have hfs13 := bkZ BK953.out 1
 have hns13_0 := NB952_953.out
 have hms13_0 := NB953_952.out
 have hs14 : w11.cell? ⟨gb953, 2, none⟩ = some (.int .i64 0) := (bkC BK953.out 2).trans rfl
 have hfs14 := bkZ BK953.out 2
 have hns14_0 := NB952_953.out
 have hms14_0 := NB953_952.out
 refine skip_ (w1 := ?_) (by rfl) rfl ?_ ?_
 rotate_left
 ·go_simp
  rfl
 refine hK.out _ _ ⟨((cell_far (p := ⟨gb953, _, none⟩) NB952_953.out _).trans (((cell_far (p := ⟨gb953, _, none⟩) NB952_953.out _).trans (((cell_far (p := ⟨gb953, _, none⟩) NB952_953.out _).trans (hHd.1)))))), ((cell_far (p := ⟨gb953, _, none⟩) NB952_953.out _).trans (((cell_far (p := ⟨gb953, _, none⟩) NB952_953.out _).trans (((cell_far (p := ⟨gb953, _, none⟩) NB952_953.out _).trans (hHd.2.1)))))), ((cell_far (p := ⟨gb953, _, none⟩) NB952_953.out _).trans (((cell_far (p := ⟨gb953, _, none⟩) NB952_953.out _).trans (((cell_far (p := ⟨gb953, _, none⟩) NB952_953.out _).trans (hHd.2.2))))))⟩ (fun hHd => ?_)
 clear hK K
 refine done_ (done_of HT_.out (by kernel_rfl)) ?_
 try go_wp2
 refine bodyPost_ret (results_cell_row rfl _ _ gb953 106 #[.int .i64 (M a0_0.data.toList), .int .i64 t956, .int .i64 (wrap64 ((M a0_0.data.toList) * a0_2))] (0, 0) _ rfl (by (with_reducible repeat (first | refine bkN ?_ _ | refine bkD ?_ | refine bkA ?_ _)); refine bkP (cs := #[.int .i64 (M a0_0.data.toList), .int .i64 t956, .int .i64 0]) ?_ 2 _ rfl; (with_reducible repeat (first | refine bkN ?_ _ | refine bkD ?_ | refine bkA ?_ _)); refine bkP (cs := #[.int .i64 (M a0_0.data.toList), .int .i64 0, .int .i64 0]) ?_ 1 _ rfl; (with_reducible repeat (first | refine bkN ?_ _ | refine bkD ?_ | refine bkA ?_ _)); refine bkP (cs := #[.int .i64 0, .int .i64 0, .int .i64 0]) ?_ 0 _ rfl; (with_reducible repeat (first | refine bkN ?_ _ | refine bkD ?_ | refine bkA ?_ _)); exact BK953.out) Tryd.underlying106 rfl (by kernel_rfl)) rfl ?_
 exact ⟨by first | rfl | (simp [errW_none, errW_some] <;> rfl) | (simp [*, errW_none, errW_some] <;> rfl), by repeat (first | (with_reducible first | exact HB.out | apply bwA | apply bwN | apply bw1 | refine bwS ?_ GE952.out | refine bwS ?_ GE953.out) | exact HB.out)⟩
def hang_Sum_111.l0 (cb : Int → Int → Int → Option Bool) : Nat → List (S106) → Int → Int → Option (Int)
 | 0, _, _, _ => none
 | k + 1, x0, x7, x8 => if x8 < x7 then (if 0 ≤ x8 then (if x8 < (x0.length : Int) then ((cb ((rd_T106 x0 x8).f0) ((rd_T106 x0 x8).f1) ((rd_T106 x0 x8).f2)).bind fun t290 => (if t290 = true then (some x8) else (hang_Sum_111.l0 cb k x0 x7 (wrap64 (x8 + 1))))) else (none)) else (none)) else (some (-1))
def hang_Sum_111.f (cb : Int → Int → Int → Option Bool) (k : Nat) (l0 : List (S106))  : Option (Int) := hang_Sum_111.l0 cb k l0 (l0.length : Int) 0
theorem hang_Sum_111.mono_l (cb : Int → Int → Int → Option Bool) : ∀ k, (∀ y0 y1 y2, LeO (hang_Sum_111.l0 cb k y0 y1 y2) (hang_Sum_111.l0 cb (k + 1) y0 y1 y2))
 | 0 => fun _ _ _ r h => by simp [hang_Sum_111.l0] at h
 | k + 1 => by
  have ih0 := hang_Sum_111.mono_l cb k
  ·intro y0 y1 y2;unfold hang_Sum_111.l0
   repeat' first
   | (with_reducible exact ih0 _ _ _)
   | (with_reducible exact LeO.refl _)
   | (with_reducible exact LeO.none _)
   | (with_reducible refine LeO.ite ?_ ?_)
   | (with_reducible refine LeO.bind ?_ (fun _ => ?_))
   | exact ih0 _ _ _
   | exact LeO.none _
   | refine LeO.ite ?_ ?_
   | refine LeO.bind ?_ (fun _ => ?_)
theorem hang_Sum_111.mono (cb : Int → Int → Int → Option Bool) : ∀ a0 k, LeO (hang_Sum_111.f cb k a0) (hang_Sum_111.f cb (k + 1) a0) := by
 intro a0 k
 have ih0 := hang_Sum_111.mono_l cb k
 unfold hang_Sum_111.f
 repeat' first
   | (with_reducible exact ih0 _ _ _)
   | (with_reducible exact LeO.refl _)
   | (with_reducible exact LeO.none _)
   | (with_reducible refine LeO.ite ?_ ?_)
   | (with_reducible refine LeO.bind ?_ (fun _ => ?_))
   | exact ih0 _ _ _
   | exact LeO.none _
   | refine LeO.ite ?_ ?_
   | refine LeO.bind ?_ (fun _ => ?_)
set_option maxHeartbeats 8000000 in
set_option maxRecDepth 100000 in
theorem hang_Sum_111.calls (k : Nat) (A0 : Option Addr) (c0 : Nat) (l0 : List (S106)) (cb : Int → Int → Int → Option Bool) (r : Int) (w : World) (K_ : Nat) (caps_ : Array Value) (eg : ∀ args w, (callFunc K_ args).run Tryd.prog w = .ok (.enter K_ args) w) (hcb : ∀ (x0 x1 x2 : Int) (r_ : Bool) (w1 : World), Below w.heap.size w w1 → cb x0 x1 x2 = some r_ → Calls Tryd.prog K_ (#[.agg #[.int .i64 x0, .int .i64 x1, .int .i64 x2]] ++ caps_) w1 fun e w2 => e = .returned (.bool r_) ∧ Below w1.heap.size w1 w2) (hr0 : Kd.C k106 w A0 l0.length l0) (hc0 : l0.length ≤ c0) (h : hang_Sum_111.f cb k l0 = some r) :
  Calls Tryd.prog 111 #[.slice A0 l0.length c0, .func (.func K_) #[] caps_] w fun e w' => e = .returned (.int .i64 r) ∧ Below w.heap.size w w' := by
 have HCB_ := Z0.mk hcb
 clear hcb
 have hu106 := Tryd.underlying106
 have HR0 := Z0.mk hr0
 have HC0 := Z0.mk hc0
 clear hr0 hc0
 have HB := Z0.mk (Below.refl w.heap.size w)
 have H : (hang_Sum_111.l0 cb k l0 (l0.length : Int) 0) = some r := h
 clear h
 have H' := Z0.mk H
 clear H
 go_enter Tryd.func111, Tryd.ntmps111
 go_wp2
 go_loopg [8] k (fun kq v8 w' => ∃ (x8_1 : Int), v8 = .int .i64 x8_1 ∧ Z0 (hang_Sum_111.l0 cb kq l0 (l0.length : Int) x8_1 = some r) ∧ Z0 (kq ≤ k) ∧ Z0 (Below w.heap.size w w'))
 case atStart => exact ⟨(0), (by first | rfl | (simp; done) | (simp [*]; done)), H', ⟨Nat.le_refl _⟩, ⟨by repeat (first | (with_reducible first | exact HB.out | apply bwA | apply bwN | apply bw1) | exact HB.out)⟩⟩
 case round =>
  clear H';try clear c1
  try clear p2
  obtain ⟨x8_1, rfl, HA, HK1, HB⟩ := hrel;cases gk with
  | zero => exact absurd HA.out (by simp [hang_Sum_111.l0])
  | succ k1 =>
   have H := HA.out;clear HA;simp only [hang_Sum_111.l0] at H;by_cases c3 : x8_1 < (l0.length : Int)
   ·rw [if_pos c3] at H;have c3b0 : decide (x8_1 < (l0.length : Int)) = true := decide_eq_true c3;clear c3;by_cases c4 : 0 ≤ x8_1
    ·rw [if_pos c4] at H;have c4b0 : decide (0 ≤ x8_1) = true := decide_eq_true c4;clear c4;by_cases c5 : x8_1 < (l0.length : Int)
     ·rw [if_pos c5] at H;have c5b0 : decide (x8_1 < (l0.length : Int)) = true := decide_eq_true c5;clear c5;replace H := Option.bind_eq_some_iff.mp H
      obtain ⟨t290, A60, H⟩ := H;try dsimp only at H
      have A6 := Z0.mk A60;clear A60;by_cases c7 : t290 = true
      ·subst c7;have H1 : (some x8_1) = some r := by rw [if_pos rfl] at H; exact H
       clear H;have H := H1;clear H1;obtain rfl := Option.some.inj H;have p289 : 0 ≤ (x8_1 : Int) := of_decide_eq_true (by first | (with_reducible assumption) | assumption);have q289 : x8_1 < (l0.length : Int) := of_decide_eq_true (by first | (with_reducible assumption) | assumption);obtain ⟨ad289, e289, hx289_0, hx289_1, hx289_2⟩ := at_T106 HR0.out x8_1 p289 q289;cases e289;replace hx289_0 := (HB.out.cell (World.block_lt_of_cell? w _ hx289_0)).trans hx289_0
       replace hx289_1 := (HB.out.cell (World.block_lt_of_cell? w _ hx289_1)).trans hx289_1
       replace hx289_2 := (HB.out.cell (World.block_lt_of_cell? w _ hx289_2)).trans hx289_2
       replace p289 := eq_true p289
       replace q289 := eq_true q289
       go_wp2_with (first | (go_at_fn K_; (with_reducible refine (HCB_.out ((rd_T106 l0 x8_1).f0) ((rd_T106 l0 x8_1).f1) ((rd_T106 l0 x8_1).f2) true _ (by repeat (first | (with_reducible first | exact HB.out | apply bwA | apply bwN | apply bw1) | exact HB.out)) A6.out).mono ?_); rintro e w8 ⟨rfl, hb⟩; have n0_ := Z0.mk (bwT (by repeat (first | (with_reducible first | exact HB.out | apply bwA | apply bwN | apply bw1) | exact HB.out)) hb); clear HB; have HB := n0_; clear n0_; (try clear hb); (try clear hb2); (try clear hk); (try clear hi)))
       go_ret
       exact ⟨by first | rfl | (simp [errW_none, errW_some] <;> rfl) | (simp [*, errW_none, errW_some] <;> rfl), by repeat (first | (with_reducible first | exact HB.out | apply bwA | apply bwN | apply bw1) | exact HB.out)⟩
      ·replace c7 := Bool.eq_false_iff.mpr c7
       subst c7;have H1 : (hang_Sum_111.l0 cb k1 l0 (l0.length : Int) (wrap64 (x8_1 + 1))) = some r := by rw [if_neg (show ¬ (false = true) by decide)] at H; exact H
       clear H;have H := H1;clear H1;have H' := Z0.mk H;clear H;have p289 : 0 ≤ (x8_1 : Int) := of_decide_eq_true (by first | (with_reducible assumption) | assumption);have q289 : x8_1 < (l0.length : Int) := of_decide_eq_true (by first | (with_reducible assumption) | assumption);obtain ⟨ad289, e289, hx289_0, hx289_1, hx289_2⟩ := at_T106 HR0.out x8_1 p289 q289;cases e289;replace hx289_0 := (HB.out.cell (World.block_lt_of_cell? w _ hx289_0)).trans hx289_0
       replace hx289_1 := (HB.out.cell (World.block_lt_of_cell? w _ hx289_1)).trans hx289_1
       replace hx289_2 := (HB.out.cell (World.block_lt_of_cell? w _ hx289_2)).trans hx289_2
       replace p289 := eq_true p289
       replace q289 := eq_true q289
       go_wp2_with (first | (go_at_fn K_; (with_reducible refine (HCB_.out ((rd_T106 l0 x8_1).f0) ((rd_T106 l0 x8_1).f1) ((rd_T106 l0 x8_1).f2) false _ (by repeat (first | (with_reducible first | exact HB.out | apply bwA | apply bwN | apply bw1) | exact HB.out)) A6.out).mono ?_); rintro e w9 ⟨rfl, hb⟩; have n0_ := Z0.mk (bwT (by repeat (first | (with_reducible first | exact HB.out | apply bwA | apply bwN | apply bw1) | exact HB.out)) hb); clear HB; have HB := n0_; clear n0_; (try clear hb); (try clear hb2); (try clear hk); (try clear hi)))
       go_roundg k1
       case measure => have := HK1.out; omega
       case rel => exact ⟨(wrap64 (x8_1 + 1)), (by first | rfl | (simp; done) | (simp [*]; done)), H', ⟨by have := HK1.out; omega⟩, ⟨by repeat (first | (with_reducible first | exact HB.out | apply bwA | apply bwN | apply bw1) | exact HB.out)⟩⟩
     ·rw [if_neg c5] at H;exact absurd H (by simp)
    ·rw [if_neg c4] at H;exact absurd H (by simp)
   ·rw [if_neg c3] at H;have c3b0 : decide (x8_1 < (l0.length : Int)) = false := decide_eq_false c3;clear c3;obtain rfl := Option.some.inj H;go_wp2
    go_ret
    exact ⟨by first | rfl | (simp [errW_none, errW_some] <;> rfl) | (simp [*, errW_none, errW_some] <;> rfl), by repeat (first | (with_reducible first | exact HB.out | apply bwA | apply bwN | apply bw1) | exact HB.out)⟩
end Go.Proofs.YtppighiaffppkaaDoor.H
end
section
namespace Go.Proofs.YtppighiaffppkaaDoor.H
open Go.RowKit Go.Proofs.YtppighiaffppkaaDoorW.PrintWords Go.Proofs.YtppighiaffppkaaDoorW.PrintLast Go.Proofs.YtppighiaffppkaaDoorW.PrintMore
set_option maxHeartbeats 1000000 in
theorem hang_Sum_102.calls (k : Nat) (A0 : Option Addr) (c0 : Nat) (l0 : List (S106)) (cb : Int → Int → Int → Option Bool) (r : Int) (w : World) (K_ : Nat) (caps_ : Array Value) (eg : ∀ args w, (callFunc K_ args).run Tryd.prog w = .ok (.enter K_ args) w) (hcb : ∀ (x0 x1 x2 : Int) (r_ : Bool) (w1 : World), Below w.heap.size w w1 → cb x0 x1 x2 = some r_ → Calls Tryd.prog K_ (#[.agg #[.int .i64 x0, .int .i64 x1, .int .i64 x2]] ++ caps_) w1 fun e w2 => e = .returned (.bool r_) ∧ Below w1.heap.size w1 w2) (hr0 : Kd.C k106 w A0 l0.length l0) (hc0 : l0.length ≤ c0) (h : hang_Sum_111.f cb k l0 = some r) :
  Calls Tryd.prog 102 #[.slice A0 l0.length c0, .func (.func K_) #[] caps_] w fun e w' => e = .returned (.bool (decide (0 ≤ r))) ∧ Below w.heap.size w w' := by
 have HC := Z0.mk (hang_Sum_111.calls k A0 c0 l0 cb r w K_ caps_ eg hcb hr0 hc0 h)
 clear hcb hr0 hc0 h eg
 go_enter Tryd.func102, Tryd.ntmps102
 go_wp2_with (go_at_call 111; (with_reducible refine HC.out.mono ?_); rintro e w' ⟨rfl, hb⟩)
 go_ret
 exact ⟨rfl, hb⟩
end Go.Proofs.YtppighiaffppkaaDoor.H
end
section
namespace Go.Proofs.YtppighiaffppkaaDoor.H
open Go.RowKit Go.Proofs.YtppighiaffppkaaDoorW.PrintWords Go.Proofs.YtppighiaffppkaaDoorW.PrintLast Go.Proofs.YtppighiaffppkaaDoorW.PrintMore
attribute [local go_sem] max2_int min2_int max_two min_two max_three min_three max_four min_four
set_option linter.unusedSimpArgs false
set_option linter.unusedVariables false
def hang_Bill_4.f (a0_0 : Int) (a0_1 : Int) (a0_2 : Int) : Option (Bool) := some (decide ((mx (mx a0_0 a0_1) a0_2) > 999999999))
set_option maxHeartbeats 8000000 in
set_option maxRecDepth 100000 in
theorem hang_Bill_4.calls (a0_0 : Int) (a0_1 : Int) (a0_2 : Int) (r : Bool) (w : World) (h : hang_Bill_4.f a0_0 a0_1 a0_2 = some r) :
  Calls Tryd.prog 103 #[.agg #[.int .i64 a0_0, .int .i64 a0_1, .int .i64 a0_2]] w fun e w' => e = .returned (.bool r) ∧ Below w.heap.size w w' := by
 have hu106 := Tryd.underlying106
 have HB := Z0.mk (Below.refl w.heap.size w)
 have H : (some (decide ((mx (mx a0_0 a0_1) a0_2) > 999999999))) = some r := h
 clear h
 obtain ⟨ji2, hji2⟩ : ∃ j_ : Int, (mx a0_0 a0_1) = j_ := ⟨_, rfl⟩
 replace H : (some (decide ((mx (ji2) a0_2) > 999999999))) = some r := by first | (rw [hji2] at H; exact H) | (simp only [hji2] at H ⊢; exact H)
 have hji2_ : (if a0_0 < a0_1 then a0_1 else a0_0) = ji2 := hji2
 obtain ⟨ji3, hji3⟩ : ∃ j_ : Int, (mx (ji2) a0_2) = j_ := ⟨_, rfl⟩
 replace H : (some (decide ((ji3) > 999999999))) = some r := by first | (rw [hji3] at H; exact H) | (simp only [hji3] at H ⊢; exact H)
 have hji3_ : (if (ji2) < a0_2 then a0_2 else (ji2)) = ji3 := hji3
 obtain rfl := Option.some.inj H
 go_enter Tryd.func103, Tryd.ntmps103
 go_wp2_with (first | ((with_reducible refine gtD (N := 1) rfl ?_); refine bxE ?hg (N := 1) ?hd (cs := #[.int .i64 a0_0, .int .i64 a0_1, .int .i64 a0_2]) (t := 106) ?hr ?_; (case hd => rfl); (case hg => rfl); (case hr => first | (go_simp; done) | (go_simp; rfl)); intro gb845 hg w4 hbox hb; have n0_ := Z0.mk (bwT (by repeat (first | (with_reducible first | exact HB.out | apply bwA | apply bwN | apply bw1) | exact HB.out)) hb); have n1_ := Z0.mk (hbox); have n2_ := Z0.mk ((by rw [hg]; exact (bwZ (by repeat (first | (with_reducible first | exact HB.out | apply bwA | apply bwN | apply bw1) | exact HB.out))) : w.heap.size ≤ gb845)); have n3_ := Z0.mk ((by rw [hg]; exact (bwZ (by repeat (first | (with_reducible first | exact HB.out | apply bwA | apply bwN | apply bw1) | exact HB.out))) : w.heap.size ≤ gb845)); clear HB; have HB := n0_; have BK845 := n1_; have GW845 := n2_; have GE845 := n3_; clear n0_ n1_ n2_ n3_; clear hb hbox hg; have hcz5_0 : w4.cell? ⟨gb845, 0, none⟩ = some (.int .i64 a0_0) := (bkC BK845.out 0).trans rfl; have hcz5_1 : w4.cell? ⟨gb845, 1, none⟩ = some (.int .i64 a0_1) := (bkC BK845.out 1).trans rfl; have hcz5_2 : w4.cell? ⟨gb845, 2, none⟩ = some (.int .i64 a0_2) := (bkC BK845.out 2).trans rfl; have hfz5_0 := bkZ BK845.out 0; have hfz5_1 := bkZ BK845.out 1; have hfz5_2 := bkZ BK845.out 2))
 go_ret
 exact ⟨by first | rfl | (simp [errW_none, errW_some] <;> rfl) | (simp only [← hji2, ← hji3]; first | rfl | (simp [errW_none, errW_some] <;> rfl)) | (simp [*, errW_none, errW_some] <;> rfl), by repeat (first | (with_reducible first | exact HB.out | apply bwA | apply bwN | apply bw1 | refine bwS ?_ GE845.out) | exact HB.out)⟩
end Go.Proofs.YtppighiaffppkaaDoor.H
end
section
namespace Go.Proofs.YtppighiaffppkaaDoor.H
open Go.RowKit Go.Proofs.YtppighiaffppkaaDoorW.PrintWords Go.Proofs.YtppighiaffppkaaDoorW.PrintLast Go.Proofs.YtppighiaffppkaaDoorW.PrintMore Go.Shelf
set_option linter.unusedSimpArgs false
set_option linter.unusedVariables false
def hang_lineErrs.f (k : Nat) (T : List S132) (l : List S133) : Option (List Int) := api_Errno_99.f (fun x0 x1 x2 x3 => hang_Bill_2.f k T x0 x1 x2 x3) k l
theorem api_Errno_99.mono_cb_l {cb cb' : Int → Int → Int → ByteArray → Option Int} (hcb : ∀ x y z s, LeO (cb x y z s) (cb' x y z s)) : ∀ k y0 y1 y2 y3, LeO (api_Errno_99.l0 cb k y0 y1 y2 y3) (api_Errno_99.l0 cb' k y0 y1 y2 y3)
 | 0 => fun _ _ _ _ r h => by simp [api_Errno_99.l0] at h
 | k + 1 => by
  have ih := api_Errno_99.mono_cb_l hcb k;intro y0 y1 y2 y3;unfold api_Errno_99.l0
  repeat' first
   | (with_reducible exact ih _ _ _ _)
   | (with_reducible exact hcb _ _ _ _)
   | (with_reducible exact LeO.refl _)
   | (with_reducible exact LeO.none _)
   | (with_reducible refine LeO.ite ?_ ?_)
   | (with_reducible refine LeO.bind ?_ (fun _ => ?_))
theorem hang_lineErrs.mono : ∀ T l k, LeO (hang_lineErrs.f k T l) (hang_lineErrs.f (k + 1) T l) := by
 intro T l k
 unfold hang_lineErrs.f
 refine LeO.trans (api_Errno_99.mono _ l k) ?_
 unfold api_Errno_99.f
 exact api_Errno_99.mono_cb_l (fun x y z s => hang_Bill_2.mono T x y z s k) _ _ _ _ _
theorem hang_lineErrs.calls (k : Nat) (A0 : Option Addr) (c0 : Nat) (l0 : List S133) (T : List S132) (A_ : Option Addr) (c_ : Nat) (r : List Int) (gt gk : Nat) (w : World) (hr0 : Kd.C k133 w A0 l0.length l0) (hc0 : l0.length ≤ c0)
  (hb0 : w.heap[gt]? = some (.cells #[.slice A_ T.length c_] 81 (0, 0))) (hb1 : w.heap[gk]? = some (.cells #[.func (.func 96) #[] #[.pointer (some ⟨gt, 0, none⟩)]] 152 (0, 0))) (hC : Kd.C k132 w A_ T.length T) (hcc : T.length ≤ c_) (h : hang_lineErrs.f k T l0 = some r) :
  Calls Tryd.prog 99 #[.slice A0 l0.length c0, .func (.func 98) #[] #[.pointer (some ⟨gk, 0, none⟩)]] w fun e w' => ∃ v0_ : Value, e = .returned (v0_) ∧ Kd.R (Kd.int .i64) 26 w' w.heap.size (fun _ => True) v0_ r ∧ Below w.heap.size w w' :=
 api_Errno_99.calls k A0 c0 l0 _ r w 98 #[.pointer (some ⟨gk, 0, none⟩)] (enters_of Tryd.func98 (by kernel_rfl) rfl) (fun x0 x1 x2 x3 r_ w1 hb hx => hang_Bill_2.calls k T A_ c_ x0 x1 x2 x3 r_ gt gk w1 (bkB hb0 hb) (bkB hb1 hb) (Kd.C_below hC hb) hcc hx) hr0 hc0 h
def hang_sums.f (M : List UInt8 → Int) (k : Nat) (T : List S132) : Option (List S106) := hang_Sum_100.f (fun x0 x1 x2 => hang_Bill_3.f M x0 x1 x2) k T
theorem hang_sums.mono : ∀ M T k, LeO (hang_sums.f M k T) (hang_sums.f M (k + 1) T) := fun M T k => hang_Sum_100.mono _ T k
theorem hang_sums.calls (k : Nat) (A0 : Option Addr) (c0 : Nat) (l0 : List S132) (M : List UInt8 → Int) (b_ n_ gk : Nat) (r : List S106) (w : World) (hr0 : Kd.C k132 w A0 l0.length l0) (hc0 : l0.length ≤ c0) (hb1 : w.heap[gk]? = some (.cells #[.map (some b_)] 156 (0, 0))) (hm : MapHas w b_ n_ M) (h : hang_sums.f M k l0 = some r) :
  Calls Tryd.prog 100 #[.slice A0 l0.length c0, .func (.func 101) #[] #[.pointer (some ⟨gk, 0, none⟩)]] w fun e w' => ∃ v0_ : Value, e = .returned (v0_) ∧ Kd.R k106 106 w' w.heap.size (fun _ => True) v0_ r ∧ Below w.heap.size w w' :=
 hang_Sum_100.calls k A0 c0 l0 _ r w 101 #[.pointer (some ⟨gk, 0, none⟩)] (enters_of Tryd.func101 (by kernel_rfl) rfl) (fun x0 x1 x2 r1 r2 r3 w1 hb hx => hang_Bill_3.calls M b_ n_ gk x0 x1 x2 r1 r2 r3 w1 (bkB hb1 hb) (hm.below hb) hx) hr0 hc0 h
def hang_big.f (k : Nat) (S : List S106) : Option Int := hang_Sum_111.f (fun x0 x1 x2 => hang_Bill_4.f x0 x1 x2) k S
theorem hang_big.mono : ∀ S k, LeO (hang_big.f k S) (hang_big.f (k + 1) S) := fun S k => hang_Sum_111.mono _ S k
theorem hang_big.calls (k : Nat) (A0 : Option Addr) (c0 : Nat) (l0 : List S106) (r : Int) (w : World) (hr0 : Kd.C k106 w A0 l0.length l0) (hc0 : l0.length ≤ c0) (h : hang_big.f k l0 = some r) :
  Calls Tryd.prog 102 #[.slice A0 l0.length c0, .func (.func 103) #[] #[]] w fun e w' => e = .returned (.bool (decide (0 ≤ r))) ∧ Below w.heap.size w w' :=
 hang_Sum_102.calls k A0 c0 l0 _ r w 103 #[] (enters_of Tryd.func103 (by kernel_rfl) rfl) (fun x0 x1 x2 r_ w1 hb hx => hang_Bill_4.calls x0 x1 x2 r_ w1 hx) hr0 hc0 h
def lineLen (a : Int) (y : S133) : Int := wrap64 (wrap64 (y.f0 * y.f2) + wrap64 (y.f1 * a))
def billM (a : Int) : List S133 → List UInt8 → Int := fun l => l.foldl (fun M y t => if t = y.f3.data.toList then wrap64 (M y.f3.data.toList + lineLen a y) else M t) (fun _ => 0)
theorem billM_snoc (a : Int) (l : List S133) (y : S133) : billM a (l ++ [y]) = fun t => if t = y.f3.data.toList then wrap64 (billM a l y.f3.data.toList + lineLen a y) else billM a l t := by simp [billM]
def billOk (l : List S133) : Bool := l.all (fun y => decide (y.f3.size ≤ maxLen)) && decide (l.length ≤ 4611686018427387904)
def hang_Bill.f (k : Nat) (T : List S132) (l : List S133) (a : Int) : Option (List S106 × Int) :=
 (hang_CheckTwines.f k T).bind fun t17 => (hang_when.f (decide ((l.length : Int) > 64)) 5).bind fun t21 => (hang_first.f k ([t17, t21] : List Int)).bind fun t23 => if t23 = 0 then
  ((hang_lineErrs.f k T l).bind fun es => (hang_first.f k es).bind fun t32 => (hang_checkAllowance.f a).bind fun t34 => (hang_first.f k ([t32, t34] : List Int)).bind fun t36 => if t36 = 0 then
   (if billOk l = true then ((hang_sums.f (billM a l) k T).bind fun ss => (hang_big.f k ss).bind fun q => if 0 ≤ q then some ([], 4) else some (ss, 0)) else none) else some ([], t36)) else some ([], t23)
theorem hang_Bill.mono : ∀ T l a k, LeO (hang_Bill.f k T l a) (hang_Bill.f (k + 1) T l a) := by
 intro T l a k
 unfold hang_Bill.f
 repeat' first
  | (with_reducible exact hang_CheckTwines.mono _ _)
  | (with_reducible exact hang_first.mono _ _)
  | (with_reducible exact hang_lineErrs.mono _ _ _)
  | (with_reducible exact hang_sums.mono _ _ _)
  | (with_reducible exact hang_big.mono _ _)
  | (with_reducible exact LeO.refl _)
  | (with_reducible exact LeO.none _)
  | (with_reducible refine LeO.ite ?_ ?_)
  | (with_reducible refine LeO.bind ?_ (fun _ => ?_))
end Go.Proofs.YtppighiaffppkaaDoor.H
end
section
namespace Go.Proofs.YtppighiaffppkaaDoor.H
open Go.RowKit Go.Maps Go.Proofs.YtppighiaffppkaaDoorW.PrintWords Go.Proofs.YtppighiaffppkaaDoorW.PrintLast Go.Proofs.YtppighiaffppkaaDoorW.PrintMore
attribute [local go_sem] max2_int min2_int max_two min_two max_three min_three max_four min_four
set_option linter.unusedVariables false
set_option linter.unusedSimpArgs false
theorem run_store_func (P : Program) (w : World) (a : Addr) (m : Mode) (f : Fn) (ts cs : Array Value) : (store a (.func f ts cs) m).run P w = stored P w a (.func f ts cs) m := run_store P w a _ m rfl
theorem run_store_map (P : Program) (w : World) (a : Addr) (m : Mode) (b : Option Nat) : (store a (.map b) m).run P w = stored P w a (.map b) m := run_store P w a _ m rfl
attribute [local go_sem] run_store_func run_store_map
set_option maxHeartbeats 8000000 in
set_option maxRecDepth 100000 in
theorem hang_Bill.calls (k : Nat) (A0 : Option Addr) (c0 : Nat) (T0 : List S132) (A1 : Option Addr) (c1 : Nat) (l0 : List S133) (a2 : Int) (r1 : List S106) (r2 : Int) (w : World) (hr0 : Kd.C k132 w A0 T0.length T0) (hc0 : T0.length ≤ c0) (hr1 : Kd.C k133 w A1 l0.length l0) (hc1 : l0.length ≤ c1) (h : hang_Bill.f k T0 l0 a2 = some (r1, r2)) :
  Calls Tryd.prog 61 #[.slice A0 T0.length c0, .slice A1 l0.length c1, .int .i64 a2] w fun e w' => ∃ v0_ : Value, e = .returned (.tuple #[v0_, .int .i64 r2]) ∧ Kd.R k106 106 w' w.heap.size (fun _ => True) v0_ r1 ∧ Below w.heap.size w w' := by
 have HR0 := Z0.mk hr0
 have HC0 := Z0.mk hc0
 have HR1 := Z0.mk hr1
 have HC1 := Z0.mk hc1
 clear hr0 hc0 hr1 hc1
 unfold hang_Bill.f at h
 replace h := Option.bind_eq_some_iff.mp h
 obtain ⟨t17, q1, h⟩ := h
 replace h := Option.bind_eq_some_iff.mp h
 obtain ⟨t21, q2, h⟩ := h
 obtain ⟨y1, hy1⟩ : ∃ y_ : List Int, y_ = ([t17, t21] : List Int) := ⟨_, rfl⟩
 rw [← hy1] at h
 replace h := Option.bind_eq_some_iff.mp h
 obtain ⟨t23, q3, h⟩ := h
 have A1_ := Z0.mk q1
 have A2 := Z0.mk q2
 have A3 := Z0.mk q3
 have Ny1 := Z0.mk hy1
 clear q1 q2 q3 hy1
 by_cases c6 : t23 = 0
 ·rw [if_pos c6] at h;have c6b0 : (t23 == 0) = true := beq_iff_eq.mpr c6;have c6b1 : (t23 != 0) = false := bne_eq_false_iff_eq.mpr c6;clear c6;replace h := Option.bind_eq_some_iff.mp h
  obtain ⟨es, q4, h⟩ := h;replace h := Option.bind_eq_some_iff.mp h
  obtain ⟨t32, q5, h⟩ := h;replace h := Option.bind_eq_some_iff.mp h
  obtain ⟨t34, q6, h⟩ := h;obtain ⟨y3, hy3⟩ : ∃ y_ : List Int, y_ = ([t32, t34] : List Int) := ⟨_, rfl⟩;rw [← hy3] at h;replace h := Option.bind_eq_some_iff.mp h
  obtain ⟨t36, q7, h⟩ := h;have A4 := Z0.mk q4;have A5 := Z0.mk q5;have A6 := Z0.mk q6;have A7 := Z0.mk q7;have Ny3 := Z0.mk hy3;clear q4 q5 q6 q7 hy3;by_cases c7 : t36 = 0
  ·rw [if_pos c7] at h;have c7b0 : (t36 == 0) = true := beq_iff_eq.mpr c7;have c7b1 : (t36 != 0) = false := bne_eq_false_iff_eq.mpr c7;clear c7;by_cases cok : billOk l0 = true
   ·rw [if_pos cok] at h;have COK := Z0.mk cok;clear cok;replace h := Option.bind_eq_some_iff.mp h
    obtain ⟨ss, q8, h⟩ := h;replace h := Option.bind_eq_some_iff.mp h
    obtain ⟨qq, q9, h⟩ := h;have A8 := Z0.mk q8;have A9 := Z0.mk q9;have AH := Z0.mk h;clear q8 q9 h;have hmm := @run_makeMap Tryd.prog;go_enter Tryd.func61, Tryd.ntmps61;go_wp2_with (first | ((with_reducible refine gtC (f := 54) rfl ?_); generalize hw2 : World.alloc _ _ = w2; have n0_ : Z0 (Below w.heap.size w w2) := ⟨(by rw [← hw2]; exact (Below.refl _ w).alloc (Nat.le_refl _) _)⟩; have n1_ : Z0 (w2.heap[w.heap.size]? = some (.cells #[.slice A0 T0.length c0] 81 (0, 0))) := ⟨(by rw [← hw2]; exact blk_new w _)⟩; clear hw2; have HW2 := n0_; have BT := n1_; clear n0_ n1_; refine goesL_ (some 17) rfl rfl Tryd.func54 (by kernel_rfl) rfl #[.slice A0 T0.length c0] rfl (by (try simp only [List.map_toArray, List.map_cons, List.map_nil]); first | done | rfl) ?_; (with_reducible refine (hang_CheckTwines.calls k _ _ T0 t17 _ (Kd.C_below HR0.out HW2.out) HC0.out A1_.out).mono ?_); rintro e w3 ⟨rfl, hb⟩; refine ⟨_, rfl, ?_⟩; have HB := Z0.mk hb; clear hb) | ((with_reducible refine gtC (f := 74) rfl ?_); refine goesL_ (some 21) rfl rfl Tryd.func74 (by kernel_rfl) rfl #[.bool (decide ((l0.length : Int) > 64)), .int .i64 5] rfl (by (try simp only [List.map_toArray, List.map_cons, List.map_nil]); first | done | rfl) ?_; (with_reducible refine (hang_when.calls (decide ((l0.length : Int) > 64)) 5 t21 _ A2.out).mono ?_); rintro e w' ⟨rfl, ⟨nd, rfl⟩⟩; refine ⟨_, rfl, ?_⟩; generalize hq_ : World.drewN w3 _ = w4; have n1_ : Z0 (Below w2.heap.size w2 w4) := ⟨(by rw [← hq_]; exact bwN HB.out _)⟩; clear HB hq_; have HB := n1_; clear n1_) | ((with_reducible refine gtD (N := 22) rfl ?_); refine Kd.R_lit (Kd.int .i64) _ 26 ?hg (N := 22) ?hd (xs := ([t17, t21] : List Int)) (inner := [.int .i64 t17, .int .i64 t21]) (ok := fun _ => True) (okp := fun _ => True) ?hr ?hp (fun _ hk => hk) trivial (Below.refl _ _) (Nat.le_refl _) (by simp) ?_; (case hd => rfl); (case hg => rfl); (case hr => first | (go_simp; done) | (go_simp; rfl)); (case hp => exact (Reps.one (show Kd.M (Kd.int .i64) _ _ _ t17 [.int .i64 t17] from rfl) (Reps.one (show Kd.M (Kd.int .i64) _ _ _ t21 [.int .i64 t21] from rfl) (Reps.none _ _)))); intro vv_ w5 ho14 hb hg_ hnew_; clear hg_ hnew_; (first | rw [← Ny1.out] at ho14 | (simp only [Int.reduceToNat] at ho14; rw [← Ny1.out] at ho14)); have n2_ := Z0.mk (bwT HB.out hb); clear HB; have HB := n2_; clear n2_; have HO1 := Z0.mk ho14; clear hb ho14; obtain ⟨Ao1, co1, eo1⟩ := Kd.R_slice HO1.out; subst eo1) | ((with_reducible refine gtD (N := 23) rfl ?_); refine goesL_ (some 23) rfl rfl Tryd.func72 (by kernel_rfl) rfl #[.slice Ao1 y1.length co1] rfl (by (try simp only [List.map_toArray, List.map_cons, List.map_nil]); first | done | rfl) ?_; (with_reducible refine (hang_first.calls k _ _ y1 t23 _ (Kd.R_reads' HO1.out).2.2 (Kd.R_reads' HO1.out).2.1 A3.out).mono ?_); rintro e w' ⟨rfl, ⟨nd, rfl⟩⟩; refine ⟨_, rfl, ?_⟩; generalize hq_ : World.drewN w5 _ = w6; have n1_ : Z0 (Below w2.heap.size w2 w6) := ⟨(by rw [← hq_]; exact bwN HB.out _)⟩; clear HB hq_; have HB := n1_; clear n1_) | ((with_reducible refine gtC (f := 99) rfl ?_); generalize hw7 : World.alloc _ _ = w7; have n0_ : Z0 (Below w6.heap.size w6 w7) := ⟨(by rw [← hw7]; exact (Below.refl _ w6).alloc (Nat.le_refl _) _)⟩; have n1_ : Z0 (w7.heap[w6.heap.size]? = some (.cells #[.func (.func 96) #[] #[.pointer (some ⟨w.heap.size, 0, none⟩)]] 152 (0, 0))) := ⟨(by rw [← hw7]; exact blk_new w6 _)⟩; clear hw7; have HW7 := n0_; have BG := n1_; clear n0_ n1_; have n2_ := Z0.mk (bwT HB.out HW7.out); clear HB; have HB7 := n2_; clear n2_; have n3_ := Z0.mk (bkB BT.out HB7.out); have BT7 := n3_; clear n3_; have HBW := Z0.mk (below_then HW2.out HW2.out.size HB7.out); refine goesL_ (some 31) rfl rfl Tryd.func99 (by kernel_rfl) rfl #[.slice A1 l0.length c1, .func (.func 98) #[] #[.pointer (some ⟨w6.heap.size, 0, none⟩)]] rfl (by (try simp only [List.map_toArray, List.map_cons, List.map_nil]); first | done | rfl) ?_; (with_reducible refine (hang_lineErrs.calls k A1 c1 l0 T0 A0 c0 es w.heap.size w6.heap.size _ (Kd.C_below HR1.out HBW.out) HC1.out BT7.out BG.out (Kd.C_below HR0.out HBW.out) HC0.out A4.out).mono ?_); rintro e w8 ⟨v8, rfl, ho8, hb⟩; refine ⟨_, rfl, ?_⟩; have HO2 := Z0.mk ho8; have HB := Z0.mk hb; clear hb ho8; obtain ⟨Ao2, co2, eo2⟩ := Kd.R_slice HO2.out; subst eo2) | ((with_reducible refine gtD (N := 32) rfl ?_); refine goesL_ (some 32) rfl rfl Tryd.func72 (by kernel_rfl) rfl #[.slice Ao2 es.length co2] rfl (by (try simp only [List.map_toArray, List.map_cons, List.map_nil]); first | done | rfl) ?_; (with_reducible refine (hang_first.calls k _ _ es t32 _ (Kd.R_reads' HO2.out).2.2 (Kd.R_reads' HO2.out).2.1 A5.out).mono ?_); rintro e w' ⟨rfl, ⟨nd, rfl⟩⟩; refine ⟨_, rfl, ?_⟩; generalize hq_ : World.drewN w8 _ = w9; have n1_ : Z0 (Below w7.heap.size w7 w9) := ⟨(by rw [← hq_]; exact bwN HB.out _)⟩; clear HB hq_; have HB := n1_; clear n1_) | ((with_reducible refine gtC (f := 94) rfl ?_); refine goesL_ (some 34) rfl rfl Tryd.func94 (by kernel_rfl) rfl #[.int .i64 a2] rfl (by (try simp only [List.map_toArray, List.map_cons, List.map_nil]); first | done | rfl) ?_; (with_reducible refine (hang_checkAllowance.calls a2 t34 _ A6.out).mono ?_); rintro e w' ⟨rfl, ⟨nd, rfl⟩⟩; refine ⟨_, rfl, ?_⟩; generalize hq_ : World.drewN w9 _ = w10; have n1_ : Z0 (Below w7.heap.size w7 w10) := ⟨(by rw [← hq_]; exact bwN HB.out _)⟩; clear HB hq_; have HB := n1_; clear n1_) | ((with_reducible refine gtD (N := 35) rfl ?_); refine Kd.R_lit (Kd.int .i64) _ 26 ?hg (N := 35) ?hd (xs := ([t32, t34] : List Int)) (inner := [.int .i64 t32, .int .i64 t34]) (ok := fun _ => True) (okp := fun _ => True) ?hr ?hp (fun _ hk => hk) trivial (Below.refl _ _) (Nat.le_refl _) (by simp) ?_; (case hd => rfl); (case hg => rfl); (case hr => first | (go_simp; done) | (go_simp; rfl)); (case hp => exact (Reps.one (show Kd.M (Kd.int .i64) _ _ _ t32 [.int .i64 t32] from rfl) (Reps.one (show Kd.M (Kd.int .i64) _ _ _ t34 [.int .i64 t34] from rfl) (Reps.none _ _)))); intro vv_ w11 ho14 hb hg_ hnew_; clear hg_ hnew_; (first | rw [← Ny3.out] at ho14 | (simp only [Int.reduceToNat] at ho14; rw [← Ny3.out] at ho14)); have n2_ := Z0.mk (bwT HB.out hb); clear HB; have HB := n2_; clear n2_; have HO3 := Z0.mk ho14; clear hb ho14; obtain ⟨Ao3, co3, eo3⟩ := Kd.R_slice HO3.out; subst eo3) | ((with_reducible refine gtD (N := 36) rfl ?_); refine goesL_ (some 36) rfl rfl Tryd.func72 (by kernel_rfl) rfl #[.slice Ao3 y3.length co3] rfl (by (try simp only [List.map_toArray, List.map_cons, List.map_nil]); first | done | rfl) ?_; (with_reducible refine (hang_first.calls k _ _ y3 t36 _ (Kd.R_reads' HO3.out).2.2 (Kd.R_reads' HO3.out).2.1 A7.out).mono ?_); rintro e w' ⟨rfl, ⟨nd, rfl⟩⟩; refine ⟨_, rfl, ?_⟩; generalize hq_ : World.drewN w11 _ = w12; have n1_ : Z0 (Below w7.heap.size w7 w12) := ⟨(by rw [← hq_]; exact bwN HB.out _)⟩; clear HB hq_; have HB := n1_; clear n1_))
    generalize hwL : World.alloc _ _ = wL;have BM : Z0 (wL.heap[w12.heap.size + 1]? = some (.cells #[.map (some w12.heap.size)] 156 (0, 0))) := ⟨by rw [← hwL]; have := blk_new (w12.alloc (.map #[] 0)) (.cells #[.map (some w12.heap.size)] 156); rw [World.size_alloc] at this; exact this⟩;have HM : Z0 (MapHas wL w12.heap.size 0 (billM a2 (l0.take 0))) := ⟨by rw [← hwL]; exact (MapHas.made w12).below ((Below.refl _ _).alloc (Nat.le_refl _) _)⟩;have HBL : Z0 (Below w12.heap.size w12 wL) := ⟨by rw [← hwL]; exact ((Below.refl _ w12).alloc (Nat.le_refl _) _).alloc (by simp) _⟩;clear hwL;have hokp : (∀ y ∈ l0, y.f3.size ≤ maxLen) ∧ l0.length ≤ 4611686018427387904 := by
     have := COK.out;unfold billOk at this
     simpa only [Bool.and_eq_true, List.all_eq_true, decide_eq_true_eq] using this
    have HOKP := Z0.mk hokp;clear hokp;have HBE0 := Z0.mk (below_then HBW.out HBW.out.size HB.out);go_loopw [43] (fun v wr => ∃ kk : Nat, kk ≤ l0.length ∧ v = .int .i64 kk ∧ Z0 (wr.heap[w12.heap.size + 1]? = some (.cells #[.map (some w12.heap.size)] 156 (0, 0))) ∧ Z0 (MapHas wr w12.heap.size kk (billM a2 (l0.take kk))) ∧ Z0 (Below w12.heap.size w12 wr)) (fun v _ => l0.length - (intOf v).toNat)
    case atStart => exact ⟨0, Nat.zero_le _, rfl, BM, HM, HBL⟩
    case round =>
     clear BM HM HBL;obtain ⟨kk, hkl, rfl, BM, HM, HBL⟩ := hrel;have HBE := Z0.mk (below_then HBE0.out HBE0.out.size HBL.out);by_cases hlt : kk < l0.length
     ·have hy_ : rd_T133 l0 (kk : Int) = l0[kk] := by unfold rd_T133; simp [hlt]
      have hmem : rd_T133 l0 (kk : Int) ∈ l0 := by rw [hy_]; exact List.getElem_mem _
      have htk : l0.take (kk + 1) = l0.take kk ++ [rd_T133 l0 (kk : Int)] := by rw [hy_]; exact List.take_succ_eq_append_getElem hlt
      obtain ⟨ad, ead, hx0, hx1, hx2, hx3⟩ := at_T133 HR1.out (kk : Int) (by omega) (by omega);cases ead;replace hx0 := (HBE.out.cell (World.block_lt_of_cell? w _ hx0)).trans hx0
      replace hx1 := (HBE.out.cell (World.block_lt_of_cell? w _ hx1)).trans hx1
      replace hx2 := (HBE.out.cell (World.block_lt_of_cell? w _ hx2)).trans hx2
      replace hx3 := (HBE.out.cell (World.block_lt_of_cell? w _ hx3)).trans hx3
      simp only [Int.toNat_natCast] at hx0 hx1 hx2 hx3;have HYS := Z0.mk (HOKP.out.1 _ hmem);have HKN : Z0 (kk < maxLen) := ⟨Nat.lt_of_lt_of_le hlt (Nat.le_trans HOKP.out.2 (by simp [maxLen]))⟩;have HTK := Z0.mk htk;clear hy_ hmem htk;generalize rd_T133 l0 (kk : Int) = y at *;have p0 : (0 ≤ (kk : Int)) = True := eq_true (by omega);have q0 : ((kk : Int) < (l0.length : Int)) = True := eq_true (by omega);have wk : wrap64 ((kk : Int) + 1) = (kk : Int) + 1 := by have := HOKP.out.2; unfold wrap64; omega
      have hfin_ : l0.length - (intOf (.int .i64 (wrap64 ((kk : Int) + 1)))).toNat < l0.length - (intOf (.int .i64 (kk : Int))).toNat := by rw [wk]; simp only [intOf]; exact (fun h1 h2 => by rw [h1, h2]; exact Nat.sub_lt_sub_left hlt (Nat.lt_succ_self kk)) (show ((kk : Int) + 1).toNat = kk + 1 by omega) (show (kk : Int).toNat = kk by omega)
      go_wp2_with (first | ((with_reducible refine gtD (N := 14) rfl ?_); refine bxE ?hg (N := 14) ?hd (cs := #[.int .i64 0, .int .i64 0, .int .i64 0, .string ByteArray.empty]) (t := 133) ?hr ?_; (case hd => rfl); (case hg => rfl); (case hr => first | (go_simp; done) | (go_simp; rfl)); intro g14 hg wB hbox hb; have BK := Z0.mk hbox; have HBB := Z0.mk hb; have HGG := Z0.mk hg; clear hg hbox hb; have hz0 : wB.cell? ⟨g14, 0, none⟩ = some (.int .i64 0) := (bkC BK.out 0).trans rfl; have hz1 : wB.cell? ⟨g14, 1, none⟩ = some (.int .i64 0) := (bkC BK.out 1).trans rfl; have hz2 : wB.cell? ⟨g14, 2, none⟩ = some (.int .i64 0) := (bkC BK.out 2).trans rfl; have hz3 : wB.cell? ⟨g14, 3, none⟩ = some (.string ByteArray.empty) := (bkC BK.out 3).trans rfl; have hy0 := bkZ BK.out 0; have hy1 := bkZ BK.out 1; have hy2 := bkZ BK.out 2; have hy3 := bkZ BK.out 3) | ((with_reducible refine gtD (N := 47) rfl ?_); generalize hwD : World.setCell _ _ _ = wD; have n0_ : Z0 (Below wr.heap.size wr wD) := ⟨(by rw [← hwD]; have hge : wr.heap.size ≤ g14 := (by rw [HGG.out]; exact Nat.le_refl _); exact (((HBB.out.setCell (p := ⟨g14, 0, none⟩) hge _).setCell (p := ⟨g14, 1, none⟩) hge _).setCell (p := ⟨g14, 2, none⟩) hge _).setCell (p := ⟨g14, 3, none⟩) hge _)⟩; have n1_ : Z0 (wD.heap[g14]? = some (.cells #[.int .i64 y.f0, .int .i64 y.f1, .int .i64 y.f2, .string y.f3] 133 (0, 0))) := ⟨(by rw [← hwD]; exact bkP (cs := #[.int .i64 y.f0, .int .i64 y.f1, .int .i64 y.f2, .string ByteArray.empty]) (bkP (cs := #[.int .i64 y.f0, .int .i64 y.f1, .int .i64 0, .string ByteArray.empty]) (bkP (cs := #[.int .i64 y.f0, .int .i64 0, .int .i64 0, .string ByteArray.empty]) (bkP (cs := #[.int .i64 0, .int .i64 0, .int .i64 0, .string ByteArray.empty]) BK.out 0 _ rfl) 1 _ rfl) 2 _ rfl) 3 _ rfl)⟩; clear hwD hz0 hz1 hz2 hz3 hy0 hy1 hy2 hy3 BK HBB HGG; have HD := n0_; have BD := n1_; clear n0_ n1_; have hx0 : wD.cell? ⟨g14, 0, none⟩ = some (.int .i64 y.f0) := (bkC BD.out 0).trans rfl; have hx1 : wD.cell? ⟨g14, 1, none⟩ = some (.int .i64 y.f1) := (bkC BD.out 1).trans rfl; have hx2 : wD.cell? ⟨g14, 2, none⟩ = some (.int .i64 y.f2) := (bkC BD.out 2).trans rfl; have hx3 : wD.cell? ⟨g14, 3, none⟩ = some (.string y.f3) := (bkC BD.out 3).trans rfl; have n2_ := Z0.mk (bkB BM.out HD.out); have BMD := n2_; clear n2_; have hxm : wD.cell? ⟨w12.heap.size + 1, 0, none⟩ = some (.map (some w12.heap.size)) := (bkC BMD.out 0).trans rfl; have n3_ := Z0.mk (MapHas.below HM.out HD.out); have HMD := n3_; clear n3_; have hlk := MapHas.lookup HMD.out y.f3 HYS.out; obtain ⟨wU, hup, hmU, hgU⟩ := MapHas.update HMD.out HKN.out y.f3 HYS.out (billM a2 (l0.take kk) y.f3.data.toList + lineLen a2 y); have HMU := Z0.mk hmU; have HGU := Z0.mk hgU; clear hmU hgU; unfold lineLen at hup))
      go_roundw
      case rel => exact ⟨kk + 1, hlt, by first | (simp; done) | (simp [wk]; done), ⟨blk_grown BMD.out HGU.out (by simp)⟩, ⟨by rw [HTK.out, billM_snoc]; exact HMU.out⟩, ⟨(below_then HBL.out HBL.out.size HD.out).grown HGU.out (Nat.le_trans HBL.out.size HD.out.size) (fun j e => by cases e; exact Nat.le_refl _)⟩⟩
      case measure => exact hfin_
     ·obtain rfl : kk = l0.length := by omega
      rw [List.take_length] at HM;have q0 : ((l0.length : Int) < (l0.length : Int)) = False := eq_false (by omega);have ht3 : wr.cell? ⟨w.heap.size, 0, none⟩ = some (.slice A0 T0.length c0) := (bkC (bkB (bkB BT7.out HB.out) HBL.out) 0).trans rfl;have hAH := AH.out;by_cases cq : 0 ≤ qq
      ·rw [if_pos cq] at hAH;have cq0 : decide (0 ≤ qq) = true := decide_eq_true cq;clear cq;simp only [Option.some.injEq, Prod.mk.injEq] at hAH;obtain ⟨rfl, rfl⟩ := hAH;go_wp2_with (first | ((with_reducible refine gtC (f := 100) rfl ?_); refine goesL_ (some 65) rfl rfl Tryd.func100 (by kernel_rfl) rfl #[.slice A0 T0.length c0, .func (.func 101) #[] #[.pointer (some ⟨w12.heap.size + 1, 0, none⟩)]] rfl (by (try simp only [List.map_toArray, List.map_cons, List.map_nil]); first | done | rfl) ?_; (with_reducible refine (hang_sums.calls k A0 c0 T0 (billM a2 l0) w12.heap.size l0.length (w12.heap.size + 1) ss _ (Kd.C_below HR0.out HBE.out) HC0.out BM.out HM.out A8.out).mono ?_); rintro e wS ⟨vS, rfl, hoS, hb⟩; refine ⟨_, rfl, ?_⟩; have HOS := Z0.mk hoS; have HBS := Z0.mk hb; clear hb hoS; obtain ⟨AoS, coS, eoS⟩ := Kd.R_slice HOS.out; subst eoS) | ((with_reducible refine gtC (f := 102) rfl ?_); refine goesL_ (some 67) rfl rfl Tryd.func102 (by kernel_rfl) rfl #[.slice AoS ss.length coS, .func (.func 103) #[] #[]] rfl (by (try simp only [List.map_toArray, List.map_cons, List.map_nil]); first | done | rfl) ?_; (with_reducible refine (hang_big.calls k AoS coS ss qq _ (Kd.R_reads' HOS.out).2.2 (Kd.R_reads' HOS.out).2.1 A9.out).mono ?_); rintro e wT ⟨rfl, hb⟩; rw [cq0]; refine ⟨_, rfl, ?_⟩; have HBT := Z0.mk hb; clear hb))
       go_ret2
       exact ⟨_, rfl, Kd.R_nil _ _ _ _ _, below_then (below_then HBE.out HBE.out.size HBS.out) (Nat.le_trans HBE.out.size HBS.out.size) HBT.out⟩
      ·rw [if_neg cq] at hAH;have cq0 : decide (0 ≤ qq) = false := decide_eq_false cq;clear cq;simp only [Option.some.injEq, Prod.mk.injEq] at hAH;obtain ⟨rfl, rfl⟩ := hAH;go_wp2_with (first | ((with_reducible refine gtC (f := 100) rfl ?_); refine goesL_ (some 65) rfl rfl Tryd.func100 (by kernel_rfl) rfl #[.slice A0 T0.length c0, .func (.func 101) #[] #[.pointer (some ⟨w12.heap.size + 1, 0, none⟩)]] rfl (by (try simp only [List.map_toArray, List.map_cons, List.map_nil]); first | done | rfl) ?_; (with_reducible refine (hang_sums.calls k A0 c0 T0 (billM a2 l0) w12.heap.size l0.length (w12.heap.size + 1) ss _ (Kd.C_below HR0.out HBE.out) HC0.out BM.out HM.out A8.out).mono ?_); rintro e wS ⟨vS, rfl, hoS, hb⟩; refine ⟨_, rfl, ?_⟩; have HOS := Z0.mk hoS; have HBS := Z0.mk hb; clear hb hoS; obtain ⟨AoS, coS, eoS⟩ := Kd.R_slice HOS.out; subst eoS) | ((with_reducible refine gtC (f := 102) rfl ?_); refine goesL_ (some 67) rfl rfl Tryd.func102 (by kernel_rfl) rfl #[.slice AoS ss.length coS, .func (.func 103) #[] #[]] rfl (by (try simp only [List.map_toArray, List.map_cons, List.map_nil]); first | done | rfl) ?_; (with_reducible refine (hang_big.calls k AoS coS ss qq _ (Kd.R_reads' HOS.out).2.2 (Kd.R_reads' HOS.out).2.1 A9.out).mono ?_); rintro e wT ⟨rfl, hb⟩; rw [cq0]; refine ⟨_, rfl, ?_⟩; have HBT := Z0.mk hb; clear hb))
       go_ret2
       exact ⟨_, rfl, Kd.R_below (Kd.R_lower HOS.out HBE.out.size) HBT.out, below_then (below_then HBE.out HBE.out.size HBS.out) (Nat.le_trans HBE.out.size HBS.out.size) HBT.out⟩
   ·rw [if_neg cok] at h;cases h
  ·rw [if_neg c7] at h;have c7b0 : (t36 == 0) = false := beq_eq_false_iff_ne.mpr c7;have c7b1 : (t36 != 0) = true := bne_iff_ne.mpr c7;simp only [Option.some.injEq, Prod.mk.injEq] at h;obtain ⟨rfl, rfl⟩ := h;go_enter Tryd.func61, Tryd.ntmps61;go_wp2_with (first | ((with_reducible refine gtC (f := 54) rfl ?_); generalize hw2 : World.alloc _ _ = w2; have n0_ : Z0 (Below w.heap.size w w2) := ⟨(by rw [← hw2]; exact (Below.refl _ w).alloc (Nat.le_refl _) _)⟩; have n1_ : Z0 (w2.heap[w.heap.size]? = some (.cells #[.slice A0 T0.length c0] 81 (0, 0))) := ⟨(by rw [← hw2]; exact blk_new w _)⟩; clear hw2; have HW2 := n0_; have BT := n1_; clear n0_ n1_; refine goesL_ (some 17) rfl rfl Tryd.func54 (by kernel_rfl) rfl #[.slice A0 T0.length c0] rfl (by (try simp only [List.map_toArray, List.map_cons, List.map_nil]); first | done | rfl) ?_; (with_reducible refine (hang_CheckTwines.calls k _ _ T0 t17 _ (Kd.C_below HR0.out HW2.out) HC0.out A1_.out).mono ?_); rintro e w3 ⟨rfl, hb⟩; refine ⟨_, rfl, ?_⟩; have HB := Z0.mk hb; clear hb) | ((with_reducible refine gtC (f := 74) rfl ?_); refine goesL_ (some 21) rfl rfl Tryd.func74 (by kernel_rfl) rfl #[.bool (decide ((l0.length : Int) > 64)), .int .i64 5] rfl (by (try simp only [List.map_toArray, List.map_cons, List.map_nil]); first | done | rfl) ?_; (with_reducible refine (hang_when.calls (decide ((l0.length : Int) > 64)) 5 t21 _ A2.out).mono ?_); rintro e w' ⟨rfl, ⟨nd, rfl⟩⟩; refine ⟨_, rfl, ?_⟩; generalize hq_ : World.drewN w3 _ = w4; have n1_ : Z0 (Below w2.heap.size w2 w4) := ⟨(by rw [← hq_]; exact bwN HB.out _)⟩; clear HB hq_; have HB := n1_; clear n1_) | ((with_reducible refine gtD (N := 22) rfl ?_); refine Kd.R_lit (Kd.int .i64) _ 26 ?hg (N := 22) ?hd (xs := ([t17, t21] : List Int)) (inner := [.int .i64 t17, .int .i64 t21]) (ok := fun _ => True) (okp := fun _ => True) ?hr ?hp (fun _ hk => hk) trivial (Below.refl _ _) (Nat.le_refl _) (by simp) ?_; (case hd => rfl); (case hg => rfl); (case hr => first | (go_simp; done) | (go_simp; rfl)); (case hp => exact (Reps.one (show Kd.M (Kd.int .i64) _ _ _ t17 [.int .i64 t17] from rfl) (Reps.one (show Kd.M (Kd.int .i64) _ _ _ t21 [.int .i64 t21] from rfl) (Reps.none _ _)))); intro vv_ w5 ho14 hb hg_ hnew_; clear hg_ hnew_; (first | rw [← Ny1.out] at ho14 | (simp only [Int.reduceToNat] at ho14; rw [← Ny1.out] at ho14)); have n2_ := Z0.mk (bwT HB.out hb); clear HB; have HB := n2_; clear n2_; have HO1 := Z0.mk ho14; clear hb ho14; obtain ⟨Ao1, co1, eo1⟩ := Kd.R_slice HO1.out; subst eo1) | ((with_reducible refine gtD (N := 23) rfl ?_); refine goesL_ (some 23) rfl rfl Tryd.func72 (by kernel_rfl) rfl #[.slice Ao1 y1.length co1] rfl (by (try simp only [List.map_toArray, List.map_cons, List.map_nil]); first | done | rfl) ?_; (with_reducible refine (hang_first.calls k _ _ y1 t23 _ (Kd.R_reads' HO1.out).2.2 (Kd.R_reads' HO1.out).2.1 A3.out).mono ?_); rintro e w' ⟨rfl, ⟨nd, rfl⟩⟩; refine ⟨_, rfl, ?_⟩; generalize hq_ : World.drewN w5 _ = w6; have n1_ : Z0 (Below w2.heap.size w2 w6) := ⟨(by rw [← hq_]; exact bwN HB.out _)⟩; clear HB hq_; have HB := n1_; clear n1_) | ((with_reducible refine gtC (f := 99) rfl ?_); generalize hw7 : World.alloc _ _ = w7; have n0_ : Z0 (Below w6.heap.size w6 w7) := ⟨(by rw [← hw7]; exact (Below.refl _ w6).alloc (Nat.le_refl _) _)⟩; have n1_ : Z0 (w7.heap[w6.heap.size]? = some (.cells #[.func (.func 96) #[] #[.pointer (some ⟨w.heap.size, 0, none⟩)]] 152 (0, 0))) := ⟨(by rw [← hw7]; exact blk_new w6 _)⟩; clear hw7; have HW7 := n0_; have BG := n1_; clear n0_ n1_; have n2_ := Z0.mk (bwT HB.out HW7.out); clear HB; have HB7 := n2_; clear n2_; have n3_ := Z0.mk (bkB BT.out HB7.out); have BT7 := n3_; clear n3_; have HBW := Z0.mk (below_then HW2.out HW2.out.size HB7.out); refine goesL_ (some 31) rfl rfl Tryd.func99 (by kernel_rfl) rfl #[.slice A1 l0.length c1, .func (.func 98) #[] #[.pointer (some ⟨w6.heap.size, 0, none⟩)]] rfl (by (try simp only [List.map_toArray, List.map_cons, List.map_nil]); first | done | rfl) ?_; (with_reducible refine (hang_lineErrs.calls k A1 c1 l0 T0 A0 c0 es w.heap.size w6.heap.size _ (Kd.C_below HR1.out HBW.out) HC1.out BT7.out BG.out (Kd.C_below HR0.out HBW.out) HC0.out A4.out).mono ?_); rintro e w8 ⟨v8, rfl, ho8, hb⟩; refine ⟨_, rfl, ?_⟩; have HO2 := Z0.mk ho8; have HB := Z0.mk hb; clear hb ho8; obtain ⟨Ao2, co2, eo2⟩ := Kd.R_slice HO2.out; subst eo2) | ((with_reducible refine gtD (N := 32) rfl ?_); refine goesL_ (some 32) rfl rfl Tryd.func72 (by kernel_rfl) rfl #[.slice Ao2 es.length co2] rfl (by (try simp only [List.map_toArray, List.map_cons, List.map_nil]); first | done | rfl) ?_; (with_reducible refine (hang_first.calls k _ _ es t32 _ (Kd.R_reads' HO2.out).2.2 (Kd.R_reads' HO2.out).2.1 A5.out).mono ?_); rintro e w' ⟨rfl, ⟨nd, rfl⟩⟩; refine ⟨_, rfl, ?_⟩; generalize hq_ : World.drewN w8 _ = w9; have n1_ : Z0 (Below w7.heap.size w7 w9) := ⟨(by rw [← hq_]; exact bwN HB.out _)⟩; clear HB hq_; have HB := n1_; clear n1_) | ((with_reducible refine gtC (f := 94) rfl ?_); refine goesL_ (some 34) rfl rfl Tryd.func94 (by kernel_rfl) rfl #[.int .i64 a2] rfl (by (try simp only [List.map_toArray, List.map_cons, List.map_nil]); first | done | rfl) ?_; (with_reducible refine (hang_checkAllowance.calls a2 t34 _ A6.out).mono ?_); rintro e w' ⟨rfl, ⟨nd, rfl⟩⟩; refine ⟨_, rfl, ?_⟩; generalize hq_ : World.drewN w9 _ = w10; have n1_ : Z0 (Below w7.heap.size w7 w10) := ⟨(by rw [← hq_]; exact bwN HB.out _)⟩; clear HB hq_; have HB := n1_; clear n1_) | ((with_reducible refine gtD (N := 35) rfl ?_); refine Kd.R_lit (Kd.int .i64) _ 26 ?hg (N := 35) ?hd (xs := ([t32, t34] : List Int)) (inner := [.int .i64 t32, .int .i64 t34]) (ok := fun _ => True) (okp := fun _ => True) ?hr ?hp (fun _ hk => hk) trivial (Below.refl _ _) (Nat.le_refl _) (by simp) ?_; (case hd => rfl); (case hg => rfl); (case hr => first | (go_simp; done) | (go_simp; rfl)); (case hp => exact (Reps.one (show Kd.M (Kd.int .i64) _ _ _ t32 [.int .i64 t32] from rfl) (Reps.one (show Kd.M (Kd.int .i64) _ _ _ t34 [.int .i64 t34] from rfl) (Reps.none _ _)))); intro vv_ w11 ho14 hb hg_ hnew_; clear hg_ hnew_; (first | rw [← Ny3.out] at ho14 | (simp only [Int.reduceToNat] at ho14; rw [← Ny3.out] at ho14)); have n2_ := Z0.mk (bwT HB.out hb); clear HB; have HB := n2_; clear n2_; have HO3 := Z0.mk ho14; clear hb ho14; obtain ⟨Ao3, co3, eo3⟩ := Kd.R_slice HO3.out; subst eo3) | ((with_reducible refine gtD (N := 36) rfl ?_); refine goesL_ (some 36) rfl rfl Tryd.func72 (by kernel_rfl) rfl #[.slice Ao3 y3.length co3] rfl (by (try simp only [List.map_toArray, List.map_cons, List.map_nil]); first | done | rfl) ?_; (with_reducible refine (hang_first.calls k _ _ y3 t36 _ (Kd.R_reads' HO3.out).2.2 (Kd.R_reads' HO3.out).2.1 A7.out).mono ?_); rintro e w' ⟨rfl, ⟨nd, rfl⟩⟩; refine ⟨_, rfl, ?_⟩; generalize hq_ : World.drewN w11 _ = w12; have n1_ : Z0 (Below w7.heap.size w7 w12) := ⟨(by rw [← hq_]; exact bwN HB.out _)⟩; clear HB hq_; have HB := n1_; clear n1_))
   go_ret2
   exact ⟨_, rfl, Kd.R_nil _ _ _ _ _, below_then HBW.out HBW.out.size HB.out⟩
 ·rw [if_neg c6] at h;have c6b0 : (t23 == 0) = false := beq_eq_false_iff_ne.mpr c6;have c6b1 : (t23 != 0) = true := bne_iff_ne.mpr c6;simp only [Option.some.injEq, Prod.mk.injEq] at h;obtain ⟨rfl, rfl⟩ := h;go_enter Tryd.func61, Tryd.ntmps61;go_wp2_with (first | ((with_reducible refine gtC (f := 54) rfl ?_); generalize hw2 : World.alloc _ _ = w2; have n0_ : Z0 (Below w.heap.size w w2) := ⟨(by rw [← hw2]; exact (Below.refl _ w).alloc (Nat.le_refl _) _)⟩; have n1_ : Z0 (w2.heap[w.heap.size]? = some (.cells #[.slice A0 T0.length c0] 81 (0, 0))) := ⟨(by rw [← hw2]; exact blk_new w _)⟩; clear hw2; have HW2 := n0_; have BT := n1_; clear n0_ n1_; refine goesL_ (some 17) rfl rfl Tryd.func54 (by kernel_rfl) rfl #[.slice A0 T0.length c0] rfl (by (try simp only [List.map_toArray, List.map_cons, List.map_nil]); first | done | rfl) ?_; (with_reducible refine (hang_CheckTwines.calls k _ _ T0 t17 _ (Kd.C_below HR0.out HW2.out) HC0.out A1_.out).mono ?_); rintro e w3 ⟨rfl, hb⟩; refine ⟨_, rfl, ?_⟩; have HB := Z0.mk hb; clear hb) | ((with_reducible refine gtC (f := 74) rfl ?_); refine goesL_ (some 21) rfl rfl Tryd.func74 (by kernel_rfl) rfl #[.bool (decide ((l0.length : Int) > 64)), .int .i64 5] rfl (by (try simp only [List.map_toArray, List.map_cons, List.map_nil]); first | done | rfl) ?_; (with_reducible refine (hang_when.calls (decide ((l0.length : Int) > 64)) 5 t21 _ A2.out).mono ?_); rintro e w' ⟨rfl, ⟨nd, rfl⟩⟩; refine ⟨_, rfl, ?_⟩; generalize hq_ : World.drewN w3 _ = w4; have n1_ : Z0 (Below w2.heap.size w2 w4) := ⟨(by rw [← hq_]; exact bwN HB.out _)⟩; clear HB hq_; have HB := n1_; clear n1_) | ((with_reducible refine gtD (N := 22) rfl ?_); refine Kd.R_lit (Kd.int .i64) _ 26 ?hg (N := 22) ?hd (xs := ([t17, t21] : List Int)) (inner := [.int .i64 t17, .int .i64 t21]) (ok := fun _ => True) (okp := fun _ => True) ?hr ?hp (fun _ hk => hk) trivial (Below.refl _ _) (Nat.le_refl _) (by simp) ?_; (case hd => rfl); (case hg => rfl); (case hr => first | (go_simp; done) | (go_simp; rfl)); (case hp => exact (Reps.one (show Kd.M (Kd.int .i64) _ _ _ t17 [.int .i64 t17] from rfl) (Reps.one (show Kd.M (Kd.int .i64) _ _ _ t21 [.int .i64 t21] from rfl) (Reps.none _ _)))); intro vv_ w5 ho14 hb hg_ hnew_; clear hg_ hnew_; (first | rw [← Ny1.out] at ho14 | (simp only [Int.reduceToNat] at ho14; rw [← Ny1.out] at ho14)); have n2_ := Z0.mk (bwT HB.out hb); clear HB; have HB := n2_; clear n2_; have HO1 := Z0.mk ho14; clear hb ho14; obtain ⟨Ao1, co1, eo1⟩ := Kd.R_slice HO1.out; subst eo1) | ((with_reducible refine gtD (N := 23) rfl ?_); refine goesL_ (some 23) rfl rfl Tryd.func72 (by kernel_rfl) rfl #[.slice Ao1 y1.length co1] rfl (by (try simp only [List.map_toArray, List.map_cons, List.map_nil]); first | done | rfl) ?_; (with_reducible refine (hang_first.calls k _ _ y1 t23 _ (Kd.R_reads' HO1.out).2.2 (Kd.R_reads' HO1.out).2.1 A3.out).mono ?_); rintro e w' ⟨rfl, ⟨nd, rfl⟩⟩; refine ⟨_, rfl, ?_⟩; generalize hq_ : World.drewN w5 _ = w6; have n1_ : Z0 (Below w2.heap.size w2 w6) := ⟨(by rw [← hq_]; exact bwN HB.out _)⟩; clear HB hq_; have HB := n1_; clear n1_))
  go_ret2
  exact ⟨_, rfl, Kd.R_nil _ _ _ _ _, below_then HW2.out HW2.out.size HB.out⟩
end Go.Proofs.YtppighiaffppkaaDoor.H
end
section
namespace Go.Proofs.YtppighiaffppkaaDoor.H
open Go.RowKit Go.Proofs.YtppighiaffppkaaDoorW.PrintWords Go.Proofs.YtppighiaffppkaaDoorW.PrintLast Go.Proofs.YtppighiaffppkaaDoorW.PrintMore
attribute [local go_sem] max2_int min2_int max_two min_two max_three min_three max_four min_four
set_option linter.unusedSimpArgs false
set_option linter.unusedVariables false
def cl6_half.f  : Option (Int × Int) := some (1, 2)
set_option maxHeartbeats 8000000 in
set_option maxRecDepth 100000 in
theorem cl6_half.calls  (r1 : Int) (r2 : Int) (w : World) (h : cl6_half.f  = some (r1, r2)) :
  Calls Tryd.prog 76 #[] w fun e w' => e = .returned (.agg #[.int .i64 r1, .int .i64 r2]) ∧ Below w.heap.size w w' := by
 have hu23 := Tryd.underlying23
 have HB := Z0.mk (Below.refl w.heap.size w)
 have H : (some (1, 2)) = some (r1, r2) := h
 clear h
 simp only [Option.some.injEq, Prod.mk.injEq] at H
 obtain ⟨rfl, rfl⟩ := H
 go_enter Tryd.func76, Tryd.ntmps76
 go_wp2_with (first | ((with_reducible refine gtD (N := 0) rfl ?_); refine bxE ?hg (N := 0) ?hd (cs := #[.int .i64 0, .int .i64 0]) (t := 23) ?hr ?_; (case hd => rfl); (case hg => rfl); (case hr => first | (go_simp; done) | (go_simp; rfl)); intro gb251 hg w1 hbox hb; have n0_ := Z0.mk (bwT (by repeat (first | (with_reducible first | exact HB.out | apply bwA | apply bwN | apply bw1) | exact HB.out)) hb); have n1_ := Z0.mk (hbox); have n2_ := Z0.mk ((by rw [hg]; exact (bwZ (by repeat (first | (with_reducible first | exact HB.out | apply bwA | apply bwN | apply bw1) | exact HB.out))) : w.heap.size ≤ gb251)); have n3_ := Z0.mk ((by rw [hg]; exact (bwZ (by repeat (first | (with_reducible first | exact HB.out | apply bwA | apply bwN | apply bw1) | exact HB.out))) : w.heap.size ≤ gb251)); clear HB; have HB := n0_; have BK251 := n1_; have GW251 := n2_; have GE251 := n3_; clear n0_ n1_ n2_ n3_; clear hb hbox hg; have hcz2_0 : w1.cell? ⟨gb251, 0, none⟩ = some (.int .i64 0) := (bkC BK251.out 0).trans rfl; have hcz2_1 : w1.cell? ⟨gb251, 1, none⟩ = some (.int .i64 0) := (bkC BK251.out 1).trans rfl; have hfz2_0 := bkZ BK251.out 0; have hfz2_1 := bkZ BK251.out 1))
 refine bodyPost_ret (results_cell_row rfl _ _ gb251 23 #[.int .i64 1, .int .i64 2] (0, 0) _ rfl (by (with_reducible repeat (first | refine bkN ?_ _ | refine bkD ?_ | refine bkA ?_ _)); refine bkP (cs := #[.int .i64 1, .int .i64 0]) ?_ 1 _ rfl; (with_reducible repeat (first | refine bkN ?_ _ | refine bkD ?_ | refine bkA ?_ _)); refine bkP (cs := #[.int .i64 0, .int .i64 0]) ?_ 0 _ rfl; (with_reducible repeat (first | refine bkN ?_ _ | refine bkD ?_ | refine bkA ?_ _)); exact BK251.out) Tryd.underlying23 rfl (by kernel_rfl)) rfl ?_
 exact ⟨by first | rfl | (simp [errW_none, errW_some] <;> rfl) | (simp [*, errW_none, errW_some] <;> rfl), by repeat (first | (with_reducible first | exact HB.out | apply bwA | apply bwN | apply bw1 | refine bwS ?_ GE251.out) | exact HB.out)⟩
end Go.Proofs.YtppighiaffppkaaDoor.H
end
section
namespace Go.Proofs.YtppighiaffppkaaDoor.H
open Go.RowKit Go.Proofs.YtppighiaffppkaaDoorW.PrintWords Go.Proofs.YtppighiaffppkaaDoorW.PrintLast Go.Proofs.YtppighiaffppkaaDoorW.PrintMore
set_option linter.unusedSimpArgs false
set_option linter.unusedVariables false
theorem wrap_id {x : Int} (h0 : -9223372036854775808 ≤ x) (h1 : x ≤ 9223372036854775807) : wrap64 x = x := by unfold wrap64; omega
theorem Ev.some {α : Type} {r : α} {x : Option α} (h : x = some r) : Ev (fun _ => x) r := ⟨0, fun _ _ => h⟩
theorem hang_when_eq (c : Bool) (e : Int) : hang_when.f c e = some (whenE c e) := by
 unfold hang_when.f whenE; split <;> rfl
theorem hang_within_eq (n lo hi : Int) : hang_within.f n lo hi = some (rangeE n lo hi) := by
 unfold hang_within.f rangeE
 simp only [hang_when_eq, Option.bind_some]
 by_cases h : n < lo
 ·simp [h, whenE]
 ·simp only [if_neg h, whenE, decide_eq_true_eq]
theorem rd_drop {l : List Int} {i : Nat} (h : i < l.length) : rd l (i : Int) = l[i] := by
 unfold rd; simp [h]
theorem hang_first_loop (l : List Int) (hl : l.length < 9223372036854775807) : ∀ (d i k : Nat), i + d = l.length → d < k → hang_first.l0 k l (l.length : Int) (i : Int) = some (firstE (l.drop i)) := by
 intro d
 induction d with
 | zero =>
  intro i k hi hk;obtain ⟨k, rfl⟩ : ∃ m, k = m + 1 := ⟨k - 1, by omega⟩;simp only [hang_first.l0];rw [if_neg (by omega), List.drop_eq_nil_of_le (by omega)];rfl
 | succ d ih =>
  intro i k hi hk;obtain ⟨k, rfl⟩ : ∃ m, k = m + 1 := ⟨k - 1, by omega⟩;simp only [hang_first.l0];rw [if_pos (by omega), if_pos (by omega), if_pos (by omega), rd_drop (by omega), List.drop_eq_getElem_cons (by omega), wrap_id (by omega) (by omega)];have e : ((i : Int) + 1) = ((i + 1 : Nat) : Int) := by omega
  rw [e, ih (i + 1) k (by omega) (by omega)];simp only [firstE];split <;> rfl
theorem hang_first_ev (l : List Int) (hl : l.length < 9223372036854775807) : Ev (fun k => hang_first.f k l) (firstE l) :=
 ⟨l.length + 1, fun k hk => by
  have := hang_first_loop l hl l.length 0 k (by omega) (by omega);simpa [hang_first.f] using this⟩
theorem hang_divisor_loop : ∀ (n k : Nat) (a b : Int), 0 ≤ a → 0 ≤ b → b.toNat ≤ n → n < k → hang_divisor.l0 k a b = some (gcdI a b) := by
 intro n
 induction n with
 | zero =>
  intro k a b ha hb hn hk;obtain ⟨k, rfl⟩ : ∃ m, k = m + 1 := ⟨k - 1, by omega⟩;obtain rfl : b = 0 := by omega
  simp only [hang_divisor.l0];rw [if_pos trivial, gcdI_zero_right ha]
 | succ n ih =>
  intro k a b ha hb hn hk;obtain ⟨k, rfl⟩ : ∃ m, k = m + 1 := ⟨k - 1, by omega⟩;simp only [hang_divisor.l0];by_cases h : b = 0
  ·subst h; rw [if_pos rfl, gcdI_zero_right ha]
  ·rw [if_neg h];have h1 : Int.tmod a b = a % b := Int.tmod_eq_emod_of_nonneg ha;have h2 : 0 ≤ a % b := Int.emod_nonneg _ h;have h3 : a % b < b := Int.emod_lt_of_pos _ (by omega);rw [ih k b (Int.tmod a b) hb (by omega) (by omega) (by omega), gcdI_step ha (by omega)]
theorem hang_divisor_ev (a b : Int) (ha : 0 ≤ a) (hb : 0 ≤ b) : Ev (fun k => hang_divisor.f k a b) (gcdI a b) :=
 ⟨b.toNat + 1, fun k hk => hang_divisor_loop b.toNat k a b ha hb (by omega) (by omega)⟩
theorem lowI_eq {a b : Int} (ha : 0 ≤ a) (hb : 0 < b) (ha1 : a ≤ 9223372036854775807) (hb1 : b ≤ 9223372036854775807) :
  (wrap64 (Int.tdiv a (gcdI a b)), wrap64 (Int.tdiv b (gcdI a b))) = lowI a b := by
 have h := gcdI_pos (a := a) (Or.inr hb)
 have e1 : Int.tdiv a (gcdI a b) = a / gcdI a b := Int.tdiv_eq_ediv_of_nonneg ha
 have e2 : Int.tdiv b (gcdI a b) = b / gcdI a b := Int.tdiv_eq_ediv_of_nonneg (by omega)
 have b1 : 0 ≤ a / gcdI a b := Int.ediv_nonneg ha (by omega)
 have b2 : 0 ≤ b / gcdI a b := Int.ediv_nonneg (by omega) (by omega)
 have c1 : a / gcdI a b ≤ a := Int.ediv_le_self _ ha
 have c2 : b / gcdI a b ≤ b := Int.ediv_le_self _ (by omega)
 rw [e1, e2, wrap_id (by omega) (by omega), wrap_id (by omega) (by omega)]
 rfl
theorem hang_lowest_ev (a b : Int) (ha : 0 ≤ a) (hb : 0 < b) (ha1 : a ≤ 9223372036854775807) (hb1 : b ≤ 9223372036854775807) : Ev (fun k => hang_lowest.f k a b) (lowI a b) := by
 unfold hang_lowest.f
 refine (hang_divisor_ev a b ha (by omega)).bind (Ev.some ?_)
 have h := gcdI_pos (a := a) (Or.inr hb)
 rw [if_neg (by omega), lowI_eq ha hb ha1 hb1]
theorem hang_ratio_ev (a b : Int) (ha : 0 ≤ a) (hb : 0 < b) (ha1 : a ≤ 9223372036854775807) (hb1 : b ≤ 9223372036854775807) : Ev (fun k => hang_ratio.f k a b) (lowI a b) := by
 unfold hang_ratio.f
 exact (hang_lowest_ev a b ha hb ha1 hb1).bind (Ev.some rfl)
theorem hang_square_ev (a b : Int) (ha : 0 ≤ a) (hb : 0 < b) (ha1 : a ≤ 9223372036854775807) (hb1 : b ≤ 9223372036854775807) : Ev (fun k => hang_square.f k a b) (lowI a b) := by
 unfold hang_square.f
 exact (hang_lowest_ev a b ha hb ha1 hb1).bind (Ev.some rfl)
theorem low_test {a b : Int} (ha : 0 ≤ a) (hb : 0 < b) : whenE (!((lowI a b).1 == a) || (!((lowI a b).2 == b))) 1 = if gcdI a b = 1 then 0 else 1 := by
 have h := lowI_same ha hb
 by_cases e : gcdI a b = 1
 ·rw [if_pos e, h.mpr e]; simp [whenE]
 ·rw [if_neg e];have : ¬ (((lowI a b).1 == a) = true ∧ ((lowI a b).2 == b) = true) := by
   rintro ⟨h1, h2⟩;exact e (h.mp (Prod.ext (beq_iff_eq.mp h1) (beq_iff_eq.mp h2)))
  unfold whenE
  rw [if_pos];cases h1 : ((lowI a b).1 == a) <;> cases h2 : ((lowI a b).2 == b) <;> simp_all
theorem hang_CheckRatio_ev (p q : Int) : Ev (fun k => hang_CheckRatio.f k p q) (checkR p q) := by
 unfold hang_CheckRatio.f
 simp only [hang_within_eq, hang_when_eq, Option.bind_some]
 refine (hang_first_ev _ (by simp)).bind ?_
 by_cases h1 : p < 1 ∨ p > 30 ∨ q < 1 ∨ q > 30
 ·have e : firstE [rangeE p 1 30, rangeE q 1 30, whenE (decide (p > q)) 11] = 3 := by
   simp only [firstE, rangeE, whenE];repeat' split
   all_goals first | rfl | omega
  rw [e];refine Ev.some ?_;unfold checkR
  rw [if_pos h1];try rfl
 ·by_cases h2 : p > q
  ·have e : firstE [rangeE p 1 30, rangeE q 1 30, whenE (decide (p > q)) 11] = 11 := by
    simp only [firstE, rangeE, whenE, decide_eq_true_eq];repeat' split
    all_goals first | rfl | omega
   rw [e];refine Ev.some ?_;unfold checkR
   rw [if_neg h1, if_pos h2];try rfl
  ·have e : firstE [rangeE p 1 30, rangeE q 1 30, whenE (decide (p > q)) 11] = 0 := by
    simp only [firstE, rangeE, whenE, decide_eq_true_eq];repeat' split
    all_goals first | rfl | omega
   rw [e];simp only [if_true];refine (hang_ratio_ev p q (by omega) (by omega) (by omega) (by omega)).bind (Ev.some ?_);rw [low_test (by omega) (by omega)];unfold checkR
   rw [if_neg h1, if_neg h2]
theorem hang_CheckSquare_ev (n d : Int) : Ev (fun k => hang_CheckSquare.f k n d) (checkS n d) := by
 unfold hang_CheckSquare.f
 simp only [hang_within_eq, hang_when_eq, Option.bind_some]
 refine (hang_first_ev _ (by simp)).bind ?_
 by_cases h1 : n < 0 ∨ n > 4000000000000 ∨ d < 1 ∨ d > 810000
 ·have e : firstE [rangeE n 0 4000000000000, rangeE d 1 810000] = 3 := by
   simp only [firstE, rangeE];repeat' split
   all_goals first | rfl | omega
  rw [e];refine Ev.some ?_;unfold checkS
  rw [if_pos h1];try rfl
 ·have e : firstE [rangeE n 0 4000000000000, rangeE d 1 810000] = 0 := by
   simp only [firstE, rangeE];repeat' split
   all_goals first | rfl | omega
  rw [e];simp only [if_true];refine (hang_square_ev n d (by omega) (by omega) (by omega) (by omega)).bind (Ev.some ?_);rw [low_test (by omega) (by omega)];unfold checkS
  rw [if_neg h1]
end Go.Proofs.YtppighiaffppkaaDoor.H
end
section
namespace Go.Proofs.YtppighiaffppkaaDoor.H
open Go.RowKit Go.Proofs.YtppighiaffppkaaDoorW.PrintWords Go.Proofs.YtppighiaffppkaaDoorW.PrintLast Go.Proofs.YtppighiaffppkaaDoorW.PrintMore
set_option maxRecDepth 100000
theorem aw_Width : hang_Width.f 60 1 2 50 10 = some (500, 1, 0) := by kernel_rfl
theorem aw_Height : hang_Height.f 60 1 2 50 10 = some (750000, 1, 0) := by kernel_rfl
theorem aw_Hanging : hang_Hanging.f 60 500 50 10 = some (1, 2, 0) := by kernel_rfl
theorem aw_Hanging2 : hang_Hanging.f 60 601 50 10 = some (0, 0, 4) := by kernel_rfl
theorem aw_Hanging3 : hang_Hanging.f 60 1001 50 10 = some (0, 0, 23) := by kernel_rfl
theorem aw_Secondary : hang_Secondary.f 60 3 5 = some (16, 25, 0) := by kernel_rfl
theorem aw_Fullness : hang_Fullness.f 60 3 5 = some (576, 625, 0) := by kernel_rfl
theorem aw_Fullest : hang_Fullest.f 60 7 = some (5, 7, 0) := by kernel_rfl
theorem aw_Rope : hang_Rope.f 60 [⟨10, ⟨1, 2⟩⟩, ⟨6, ⟨2, 3⟩⟩] 50 = some (900, 1, 0) := by kernel_rfl
theorem aw_Marks : hang_Marks.f 60 [⟨2, ⟨1, 2⟩⟩, ⟨1, ⟨2, 3⟩⟩] 5 = some ([⟨0, 1⟩, ⟨5, 1⟩, ⟨10, 1⟩, ⟨50, 3⟩], 0) := by kernel_rfl
theorem aw_Ties : hang_Ties.f 60 10 4 = some ([2, 3, 2, 3], 0) := by kernel_rfl
theorem aw_Nearest : hang_Nearest.f 60 [⟨⟨#[97]⟩, 100, 20⟩, ⟨⟨#[98]⟩, 200, 30⟩] 150 = some (0, 0) := by kernel_rfl
theorem aw_Length : hang_Length.f 60 12 9 50 4 = some (636, 0) := by kernel_rfl
theorem aw_Weight : hang_Weight.f 60 636 500 = some (318, 0) := by kernel_rfl
theorem aw_Bill : hang_Bill.f 60 [⟨⟨#[97]⟩, 500, 20⟩, ⟨⟨#[98]⟩, 200, 30⟩] [⟨12, 9, 50, ⟨#[97]⟩⟩, ⟨1, 0, 14, ⟨#[97]⟩⟩] 4 = some ([⟨650, 325, 13000⟩, ⟨0, 0, 0⟩], 0) := by kernel_rfl
theorem aw_Compare : hang_Compare.f 60 1 3 1 2 = some (-1, 0) := by kernel_rfl
theorem aw_Same : cr6_SameRatios.f 60 [⟨0, 1⟩, ⟨5, 1⟩, ⟨10, 1⟩, ⟨50, 3⟩] [⟨0, 1⟩, ⟨5, 1⟩, ⟨10, 1⟩, ⟨50, 3⟩] = some true := by kernel_rfl
theorem aw_Ints : cr1_SameInts.f 60 [2, 3, 2, 3] [2, 3, 2, 3] = some true := by kernel_rfl
theorem aw_isq : isq 7500000000 = 86602 := isq_unique (by omega) (by omega)
theorem aw_root : hang_root.f 7500000000 = some 86602 := by
 unfold hang_root.f
 have e : (7500000000 : Int).toNat = 7500000000 := by omega
 have h : (0 : Int) ≤ 7500000000 ∧ (7500000000 : Int) < 4611686018427387904 := by omega
 rw [if_pos h, e, aw_isq]
 simp only [Option.some.injEq]
 omega
theorem hang_Root_of {k : Nat} {n d dec t u m p q : Int} (h1 : hang_CheckSquare.f k n d = some 0) (h2 : hang_within.f dec 0 2 = some 0) (h3 : hang_first.f k [0, 0] = some 0) (h4 : hang_tens.f dec = some t) (h5 : d ≠ 0)
  (h6 : wrap64 (Int.tdiv (wrap64 (wrap64 (n * t) * t)) d) = m) (h7 : hang_root.f m = some u) (h8 : hang_ratio.f k u t = some (p, q)) : hang_Root.f k n d dec = some (p, q, 0) := by
 unfold hang_Root.f
 rw [h1, h2]
 simp only [Option.bind_some]
 rw [h3, h4]
 simp only [Option.bind_some, if_true]
 rw [if_neg h5, h6, h7]
 simp only [Option.bind_some]
 rw [h8]
 rfl
theorem aw_Root : hang_Root.f 60 750000 1 2 = some (43301, 50, 0) :=
 hang_Root_of (t := 100) (by kernel_rfl) (by kernel_rfl) (by kernel_rfl) (by kernel_rfl) (by decide) (by kernel_rfl) aw_root (by kernel_rfl)
end Go.Proofs.YtppighiaffppkaaDoor.H
end
section
namespace Go.Proofs.YtppighiaffppkaaDoor.H
open Go.RowKit Go.Proofs.YtppighiaffppkaaDoorW.PrintWords Go.Proofs.YtppighiaffppkaaDoorW.PrintLast Go.Proofs.YtppighiaffppkaaDoorW.PrintMore
set_option linter.unusedSimpArgs false
set_option linter.unusedVariables false
def Box (t : Nat) (a b : Int) (v : Value) (W : World) : Prop := ∃ g, v = .pointer (some ⟨g, 0, none⟩) ∧ Z0 (W.heap[g]? = some (.cells #[.int .i64 a, .int .i64 b] t (0, 0)))
def SlC {α : Type} (d : Kd α) (e n : Nat) (xs : List α) (v : Value) (W : World) : Prop := ∃ g c cur, v = .slice (some ⟨g, 0, none⟩) n c ∧ Z0 (n ≤ c ∧ W.heap[g]? = some (.cells cur e (0, 0)) ∧ d.C W (some ⟨g, 0, none⟩) n xs)
theorem SlC_of_R {α : Type} {d : Kd α} {e base n : Nat} {ok : Nat → Prop} {W : World} {v : Value} {xs : List α} (h : Kd.R d e W base ok v xs) (hn : xs.length = n) (h0 : 0 < n) : SlC d e n xs v W := by
 subst hn
 rcases h.2 with ⟨inner, ho, _⟩
 rcases ho.2 with ⟨rfl, _⟩ | ⟨b, cap, cur, rfl, _, hh, _⟩
 ·obtain ⟨A, c, h1⟩ := Kd.R_slice h;injection h1 with _ h2 _
  omega
 ·exact ⟨b, cap, cur, rfl, ⟨(Kd.R_reads' h).2.1, hh, (Kd.R_reads' h).2.2⟩⟩
def SlB (a b c x y z : Int) (v : Value) (W : World) : Prop := ∃ g cap, v = .slice (some ⟨g, 0, none⟩) 2 cap ∧ Z0 (2 ≤ cap ∧ W.cell? ⟨g, 0, none⟩ = some (.int .i64 a) ∧ W.cell? ⟨g, 1, none⟩ = some (.int .i64 b) ∧ W.cell? ⟨g, 2, none⟩ = some (.int .i64 c) ∧ W.cell? ⟨g, 3, none⟩ = some (.int .i64 x) ∧ W.cell? ⟨g, 4, none⟩ = some (.int .i64 y) ∧ W.cell? ⟨g, 5, none⟩ = some (.int .i64 z))
theorem C_blk {α : Type} (d : Kd α) (W : World) (e g n : Nat) (inner : List Value) (xs : List α) (h : W.heap[g]? = some (.cells inner.toArray e (0, 0))) (hn : xs.length = n) (hm : n ≤ 9223372036854775807) (hr : Reps (d.K W) d.sz xs inner) : d.C W (some ⟨g, 0, none⟩) n xs := by
 refine ⟨hn, hm, fun _ => ⟨⟨g, 0, none⟩, rfl, fun j p hj => ⟨_, d.K_len (hr.2 j p hj), hr.2 j p hj, fun i u hu => ?_⟩⟩⟩
 have hlen := d.K_len (hr.2 j p hj)
 have hi : i < d.sz := by have := (List.getElem?_eq_some_iff.1 hu).1; omega
 rw [List.getElem?_take_of_lt hi, List.getElem?_drop] at hu
 have ha : (⟨g, 0, none⟩ : Addr).add (j * d.sz + i) = ⟨g, j * d.sz + i, none⟩ := by
  unfold Addr.add
  by_cases h0 : j * d.sz + i = 0
  ·rw [h0]; rfl
  ·rw [if_neg h0]; simp
 rw [ha, bkC h]
 simpa using hu
theorem half_calls (w : World) : Calls Tryd.prog 76 #[] w fun e w' => e = .returned (.agg #[.int .i64 1, .int .i64 2]) ∧ Below w.heap.size w w' := cl6_half.calls 1 2 w rfl
theorem reps2 {α : Type} {R : α → List Value → Prop} {s : Nat} {x y : α} {c1 c2 : List Value} (h1 : R x c1) (h2 : R y c2) (e1 : c1.length = s) (e2 : c2.length = s) : Reps R s [x, y] (c1 ++ c2) := by
 refine ⟨by simp [e1, e2]; omega, fun j p hj => ?_⟩
 match j with
 | 0 =>
  simp only [List.getElem?_cons_zero, Option.some.injEq] at hj;subst hj;have : ((c1 ++ c2).drop (0 * s)).take s = c1 := by rw [Nat.zero_mul, List.drop_zero, ← e1, List.take_left']; rfl
  rw [this]; exact h1
 | 1 =>
  simp only [List.getElem?_cons_succ, List.getElem?_cons_zero, Option.some.injEq] at hj;subst hj;have : ((c1 ++ c2).drop (1 * s)).take s = c2 := by rw [Nat.one_mul, ← e1, List.drop_left, List.take_of_length_le (by omega)]
  rw [this]; exact h2
 | j + 2 => simp at hj
theorem reps4 {α : Type} {R : α → List Value → Prop} {s : Nat} {x y z u : α} {c1 c2 c3 c4 : List Value} (h1 : R x c1) (h2 : R y c2) (h3 : R z c3) (h4 : R u c4) (e1 : c1.length = s) (e2 : c2.length = s) (e3 : c3.length = s) (e4 : c4.length = s) : Reps R s [x, y, z, u] (c1 ++ c2 ++ c3 ++ c4) := by
 have a := Reps.snoc (Reps.snoc (Reps.snoc (Reps.snoc (Reps.none R s) h1 e1) h2 e2) h3 e3) h4 e4
 simpa using a
theorem rope_calls (W : World) (g : Nat) (hg : W.heap[g]? = some (.cells #[.int .i64 10, .int .i64 1, .int .i64 2, .int .i64 6, .int .i64 2, .int .i64 3] 131 (0, 0))) :
  Calls Tryd.prog 39 #[.slice (some ⟨g, 0, none⟩) 2 2, .int .i64 50] W fun e w' => e = .returned (.tuple #[.agg #[.int .i64 900, .int .i64 1], .int .i64 0]) ∧ Below W.heap.size W w' :=
 hang_Rope.calls 60 (some ⟨g, 0, none⟩) 2 [⟨10, ⟨1, 2⟩⟩, ⟨6, ⟨2, 3⟩⟩] 50 900 1 0 W (C_blk k131 W 131 g 2 [.int .i64 10, .int .i64 1, .int .i64 2, .int .i64 6, .int .i64 2, .int .i64 3] _ hg rfl (by decide) (reps2 (k131_mk W ⟨10, ⟨1, 2⟩⟩) (k131_mk W ⟨6, ⟨2, 3⟩⟩) rfl rfl)) (Nat.le_refl _) aw_Rope
theorem marks_calls (W : World) (g : Nat) (hg : W.heap[g]? = some (.cells #[.int .i64 2, .int .i64 1, .int .i64 2, .int .i64 1, .int .i64 2, .int .i64 3] 131 (0, 0))) :
  Calls Tryd.prog 41 #[.slice (some ⟨g, 0, none⟩) 2 2, .int .i64 5] W fun e w' => ∃ v : Value, e = .returned (.tuple #[v, .int .i64 0]) ∧ SlC k23 23 4 [⟨0, 1⟩, ⟨5, 1⟩, ⟨10, 1⟩, ⟨50, 3⟩] v w' ∧ Below W.heap.size W w' :=
 (hang_Marks.calls 60 (some ⟨g, 0, none⟩) 2 [⟨2, ⟨1, 2⟩⟩, ⟨1, ⟨2, 3⟩⟩] 5 _ 0 W (C_blk k131 W 131 g 2 [.int .i64 2, .int .i64 1, .int .i64 2, .int .i64 1, .int .i64 2, .int .i64 3] _ hg rfl (by decide) (reps2 (k131_mk W ⟨2, ⟨1, 2⟩⟩) (k131_mk W ⟨1, ⟨2, 3⟩⟩) rfl rfl)) (Nat.le_refl _) aw_Marks).mono
  fun e w' h => by
   obtain ⟨v, he, hr, hb⟩ := h;exact ⟨_, he, SlC_of_R hr rfl (by decide), hb⟩
theorem ties_calls (W : World) : Calls Tryd.prog 42 #[.int .i64 10, .int .i64 4] W fun e w' => ∃ v : Value, e = .returned (.tuple #[v, .int .i64 0]) ∧ SlC (Kd.int .i64) 3 4 [2, 3, 2, 3] v w' ∧ Below W.heap.size W w' :=
 (hang_Ties.calls 60 10 4 _ 0 W aw_Ties).mono fun e w' h => by
   obtain ⟨v, he, hr, hb⟩ := h;exact ⟨_, he, SlC_of_R hr rfl (by decide), hb⟩
theorem near_calls (W : World) (g : Nat) (hg : W.heap[g]? = some (.cells #[.string ⟨#[97]⟩, .int .i64 100, .int .i64 20, .string ⟨#[98]⟩, .int .i64 200, .int .i64 30] 132 (0, 0))) :
  Calls Tryd.prog 50 #[.slice (some ⟨g, 0, none⟩) 2 2, .int .i64 150] W fun e w' => e = .returned (.tuple #[.int .i64 0, .int .i64 0]) ∧ Below W.heap.size W w' :=
 hang_Nearest.calls 60 (some ⟨g, 0, none⟩) 2 [⟨⟨#[97]⟩, 100, 20⟩, ⟨⟨#[98]⟩, 200, 30⟩] 150 0 0 W (C_blk k132 W 132 g 2 [.string ⟨#[97]⟩, .int .i64 100, .int .i64 20, .string ⟨#[98]⟩, .int .i64 200, .int .i64 30] _ hg rfl (by decide) (reps2 (k132_mk W ⟨⟨#[97]⟩, 100, 20⟩) (k132_mk W ⟨⟨#[98]⟩, 200, 30⟩) rfl rfl)) (Nat.le_refl _) aw_Nearest
theorem bill_calls (W : World) (g g' : Nat) (hg : W.heap[g]? = some (.cells #[.string ⟨#[97]⟩, .int .i64 500, .int .i64 20, .string ⟨#[98]⟩, .int .i64 200, .int .i64 30] 132 (0, 0)))
  (hg' : W.heap[g']? = some (.cells #[.int .i64 12, .int .i64 9, .int .i64 50, .string ⟨#[97]⟩, .int .i64 1, .int .i64 0, .int .i64 14, .string ⟨#[97]⟩] 133 (0, 0))) :
  Calls Tryd.prog 61 #[.slice (some ⟨g, 0, none⟩) 2 2, .slice (some ⟨g', 0, none⟩) 2 2, .int .i64 4] W fun e w' => ∃ v : Value, e = .returned (.tuple #[v, .int .i64 0]) ∧ SlB 650 325 13000 0 0 0 v w' ∧ Below W.heap.size W w' :=
 (hang_Bill.calls 60 (some ⟨g, 0, none⟩) 2 [⟨⟨#[97]⟩, 500, 20⟩, ⟨⟨#[98]⟩, 200, 30⟩] (some ⟨g', 0, none⟩) 2 [⟨12, 9, 50, ⟨#[97]⟩⟩, ⟨1, 0, 14, ⟨#[97]⟩⟩] 4 _ 0 W (C_blk k132 W 132 g 2 [.string ⟨#[97]⟩, .int .i64 500, .int .i64 20, .string ⟨#[98]⟩, .int .i64 200, .int .i64 30] _ hg rfl (by decide) (reps2 (k132_mk W ⟨⟨#[97]⟩, 500, 20⟩) (k132_mk W ⟨⟨#[98]⟩, 200, 30⟩) rfl rfl)) (Nat.le_refl _)
  (C_blk k133 W 133 g' 2 [.int .i64 12, .int .i64 9, .int .i64 50, .string ⟨#[97]⟩, .int .i64 1, .int .i64 0, .int .i64 14, .string ⟨#[97]⟩] _ hg' rfl (by decide) (reps2 (k133_mk W ⟨12, 9, 50, ⟨#[97]⟩⟩) (k133_mk W ⟨1, 0, 14, ⟨#[97]⟩⟩) rfl rfl)) (Nat.le_refl _) aw_Bill).mono
  fun e w' h => by
   obtain ⟨v, he, hr, hb⟩ := h;rcases hr.2 with ⟨inner, ho, _⟩
   rcases ho.2 with ⟨rfl, h0⟩ | ⟨b, cap, cur, rfl, _, _, _⟩
   ·obtain ⟨A, c, h1⟩ := Kd.R_slice hr;cases h1
   ·have hc := (Kd.R_reads' hr).2.2;obtain ⟨ad0, e0, a0, a1, a2⟩ := at_T106 hc 0 (by decide) (by decide);obtain ⟨ad1, e1, b0, b1, b2⟩ := at_T106 hc 1 (by decide) (by decide);cases e0; cases e1;exact ⟨_, he, ⟨b, cap, rfl, ⟨(Kd.R_reads' hr).2.1, a0, a1, a2, b0, b1, b2⟩⟩, hb⟩
theorem same_calls (W : World) (A : Option Addr) (c : Nat) (h : 4 ≤ c ∧ k23.C W A 4 [⟨0, 1⟩, ⟨5, 1⟩, ⟨10, 1⟩, ⟨50, 3⟩]) (g : Nat) (hg : W.heap[g]? = some (.cells #[.int .i64 0, .int .i64 1, .int .i64 5, .int .i64 1, .int .i64 10, .int .i64 1, .int .i64 50, .int .i64 3] 23 (0, 0))) :
  Calls Tryd.prog 47 #[.slice A 4 c, .slice (some ⟨g, 0, none⟩) 4 4] W fun e w' => e = .returned (.bool true) ∧ Below W.heap.size W w' :=
 (cr6_SameRatios.calls 60 A c [⟨0, 1⟩, ⟨5, 1⟩, ⟨10, 1⟩, ⟨50, 3⟩] (some ⟨g, 0, none⟩) 4 [⟨0, 1⟩, ⟨5, 1⟩, ⟨10, 1⟩, ⟨50, 3⟩] true W h.2 h.1
  (C_blk k23 W 23 g 4 [.int .i64 0, .int .i64 1, .int .i64 5, .int .i64 1, .int .i64 10, .int .i64 1, .int .i64 50, .int .i64 3] _ hg rfl (by decide) (reps4 (k23_mk W ⟨0, 1⟩) (k23_mk W ⟨5, 1⟩) (k23_mk W ⟨10, 1⟩) (k23_mk W ⟨50, 3⟩) rfl rfl rfl rfl)) (Nat.le_refl _) aw_Same).mono
  fun e w' h => ⟨h.1, by obtain ⟨_, n, rfl⟩ := h; exact bwN (Below.refl _ _) n⟩
theorem ints_calls (W : World) (A : Option Addr) (c : Nat) (h : 4 ≤ c ∧ (Kd.int .i64).C W A 4 [2, 3, 2, 3]) (g : Nat) (hg : W.heap[g]? = some (.cells #[.int .i64 2, .int .i64 3, .int .i64 2, .int .i64 3] 3 (0, 0))) :
  Calls Tryd.prog 48 #[.slice A 4 c, .slice (some ⟨g, 0, none⟩) 4 4] W fun e w' => e = .returned (.bool true) ∧ Below W.heap.size W w' :=
 (cr1_SameInts.calls 60 A c [2, 3, 2, 3] (some ⟨g, 0, none⟩) 4 [2, 3, 2, 3] true W h.2 h.1
  (C_blk (Kd.int .i64) W 3 g 4 [.int .i64 2, .int .i64 3, .int .i64 2, .int .i64 3] _ hg rfl (by decide) (reps4 (c1 := [.int .i64 2]) (c2 := [.int .i64 3]) (c3 := [.int .i64 2]) (c4 := [.int .i64 3]) rfl rfl rfl rfl rfl rfl rfl rfl)) (Nat.le_refl _) aw_Ints).mono
  fun e w' h => ⟨h.1, by obtain ⟨_, n, rfl⟩ := h; exact bwN (Below.refl _ _) n⟩
theorem SlC.below {α : Type} {d : Kd α} {e n : Nat} {xs : List α} {v : Value} {W W' : World} (h : SlC d e n xs v W) (hb : Below W.heap.size W W') : SlC d e n xs v W' := by
 obtain ⟨g, c, cur, e, h⟩ := h
 exact ⟨g, c, cur, e, ⟨h.out.1, bkB h.out.2.1 hb, Kd.C_below h.out.2.2 hb⟩⟩
theorem SlC.set {α : Type} {d : Kd α} {e n : Nat} {xs : List α} {v : Value} {W : World} (h : SlC d e n xs v W) (hK : ∀ W' x cs, d.K W x cs → d.K W' x cs) {g' t i : Nat} {cs : Array Value} {u : Value} (hg : W.heap[g']? = some (.cells cs t (0, 0))) (ht : e ≠ t) : SlC d e n xs v (W.setCell ⟨g', i, none⟩ u) := by
 obtain ⟨g, c, cur, e, ⟨h1, h2, h3⟩⟩ := h
 have hne : g ≠ g' := blk_ne h2 hg ht
 have hh : (W.setCell ⟨g', i, none⟩ u).heap[g]? = W.heap[g]? := Below.heap_setCell W ⟨g', i, none⟩ u g hne
 refine ⟨g, c, cur, e, ⟨h1, hh.trans h2, h3.1, h3.2.1, fun hp => ?_⟩⟩
 obtain ⟨ad, ea, hc⟩ := h3.2.2 hp
 cases ea
 refine ⟨_, rfl, fun j p hj => ?_⟩
 obtain ⟨c', hl, hk, hcell⟩ := hc j p hj
 refine ⟨c', hl, hK _ _ _ hk, fun q x hx => ?_⟩
 have := hcell q x hx
 have eb : ((⟨g, 0, none⟩ : Addr).add (j * d.sz + q)) = ⟨g, j * d.sz + q, none⟩ := by
  unfold Addr.add
  by_cases h0 : j * d.sz + q = 0
  ·rw [h0]; rfl
  ·rw [if_neg h0]; simp
 rw [eb] at this ⊢
 unfold World.cell? at this ⊢
 simp only at this ⊢
 rw [hh]; exact this
theorem cell_below {W W' : World} {g i : Nat} {v : Value} (h : W.cell? ⟨g, i, none⟩ = some v) (hb : Below W.heap.size W W') : W'.cell? ⟨g, i, none⟩ = some v :=
 (hb.cell (p := ⟨g, i, none⟩) (World.block_lt_of_cell? W _ h)).trans h
theorem SlB.below {a b c x y z : Int} {v : Value} {W W' : World} (h : SlB a b c x y z v W) (hb : Below W.heap.size W W') : SlB a b c x y z v W' := by
 obtain ⟨g, cap, e, ⟨h0, h1, h2, h3, h4, h5, h6⟩⟩ := h
 exact ⟨g, cap, e, ⟨h0, cell_below h1 hb, cell_below h2 hb, cell_below h3 hb, cell_below h4 hb, cell_below h5 hb, cell_below h6 hb⟩⟩
def SlBc (a b c x y z : Int) (g : Nat) (W : World) : Prop := W.cell? ⟨g, 0, none⟩ = some (.int .i64 a) ∧ W.cell? ⟨g, 1, none⟩ = some (.int .i64 b) ∧ W.cell? ⟨g, 2, none⟩ = some (.int .i64 c) ∧ W.cell? ⟨g, 3, none⟩ = some (.int .i64 x) ∧ W.cell? ⟨g, 4, none⟩ = some (.int .i64 y) ∧ W.cell? ⟨g, 5, none⟩ = some (.int .i64 z)
theorem SlBc.below {a b c x y z : Int} {g : Nat} {W W' : World} (h : SlBc a b c x y z g W) (hb : Below W.heap.size W W') : SlBc a b c x y z g W' := by
 obtain ⟨h1, h2, h3, h4, h5, h6⟩ := h
 exact ⟨cell_below h1 hb, cell_below h2 hb, cell_below h3 hb, cell_below h4 hb, cell_below h5 hb, cell_below h6 hb⟩
end Go.Proofs.YtppighiaffppkaaDoor.H
end
section
namespace Go.Proofs.YtppighiaffppkaaDoor.H
open Go.RowKit Go.Proofs.YtppighiaffppkaaDoorW.PrintWords Go.Proofs.YtppighiaffppkaaDoorW.PrintLast Go.Proofs.YtppighiaffppkaaDoorW.PrintMore
attribute [local go_sem high] eqA23 eqA25 eqA106
attribute [local go_sem] max2_int min2_int max_two min_two max_three min_three max_four min_four
set_option linter.unusedSimpArgs false
set_option linter.unusedVariables false
set_option maxHeartbeats 8000000 in
set_option maxRecDepth 100000 in
theorem awake_calls (w : World) (hG : GH w) : Calls Tryd.prog 22 #[] w fun e w' => e = .returned (.bool true) ∧ Below w.heap.size w w' := by
 have hu23 := Tryd.underlying23
 have hu25 := Tryd.underlying25
 have hu131 := Tryd.underlying131
 have hu132 := Tryd.underlying132
 have hu133 := Tryd.underlying133
 have hu106 := Tryd.underlying106
 have HG := Z0.mk hG
 clear hG
 have HB := Z0.mk (Below.refl w.heap.size w)
 go_enter Tryd.func22, Tryd.ntmps22
 have HH := Z0.mk (Below.refl w.heap.size w)
 go_upto_region 2 with (first | (go_at_call 76; refine (half_calls _).mono ?_; rintro e W' ⟨rfl, hb⟩; have hn := Z0.mk (bwT HH.out hb); clear HH hb; have HH := hn; clear hn) | (go_at_call 24; refine (hang_Width.calls 60 1 2 50 10 500 1 0 _ aw_Width).mono ?_; rintro e W' ⟨rfl, hb⟩; have hn := Z0.mk (bwT HH.out hb); clear HH hb; have HH := hn; clear hn))
 have hn := Z0.mk (bwA HH.out (.cells #[.int .i64 500, .int .i64 1] 23 (0, 0))); clear HH; have HH := hn; clear hn
 have B1 := Z0.mk (blk_new W' (.cells #[.int .i64 500, .int .i64 1] 23 (0, 0)))
 generalize W'.alloc (.cells #[.int .i64 500, .int .i64 1] 23 (0, 0)) = w1 at HH B1 ⊢
 generalize W'.heap.size = g1 at B1 ⊢
 have hn := Z0.mk (bwT HB.out HH.out); clear HB HH; have HB := hn; clear hn
 have HH := Z0.mk (Below.refl w1.heap.size w1)
 go_upto_region 3 with (first | (go_at_call 76; refine (half_calls _).mono ?_; rintro e W' ⟨rfl, hb⟩; have hn := Z0.mk (bwT HH.out hb); clear HH hb; have HH := hn; clear hn) | (go_at_call 25; refine (hang_Height.calls 60 1 2 50 10 750000 1 0 _ aw_Height).mono ?_; rintro e W' ⟨rfl, hb⟩; have hn := Z0.mk (bwT HH.out hb); clear HH hb; have HH := hn; clear hn))
 have hn := Z0.mk (bwA HH.out (.cells #[.int .i64 750000, .int .i64 1] 25 (0, 0))); clear HH; have HH := hn; clear hn
 have B3 := Z0.mk (blk_new W' (.cells #[.int .i64 750000, .int .i64 1] 25 (0, 0)))
 generalize W'.alloc (.cells #[.int .i64 750000, .int .i64 1] 25 (0, 0)) = w2 at HH B3 ⊢
 generalize W'.heap.size = g3 at B3 ⊢
 have hn := Z0.mk (bkB B1.out HH.out); clear B1; have B1 := hn; clear hn
 have hn := Z0.mk (bwT HB.out HH.out); clear HB HH; have HB := hn; clear hn
 have c0 : w2.cell? ⟨g3, 0, none⟩ = some (.int .i64 750000) := (bkC B3.out 0).trans rfl
 have c1 : w2.cell? ⟨g3, 1, none⟩ = some (.int .i64 1) := (bkC B3.out 1).trans rfl
 have HH := Z0.mk (Below.refl w2.heap.size w2)
 go_upto_region 4 with (first | (go_at_call 33; refine (hang_Root.calls 60 750000 1 2 43301 50 0 _ (HG.out.below (bwT HB.out HH.out)) aw_Root).mono ?_; rintro e W' ⟨rfl, hb⟩; have hn := Z0.mk (bwT HH.out hb); clear HH hb; have HH := hn; clear hn))
 have hn := Z0.mk (bwA HH.out (.cells #[.int .i64 43301, .int .i64 50] 23 (0, 0))); clear HH; have HH := hn; clear hn
 have B5 := Z0.mk (blk_new W' (.cells #[.int .i64 43301, .int .i64 50] 23 (0, 0)))
 generalize W'.alloc (.cells #[.int .i64 43301, .int .i64 50] 23 (0, 0)) = w3 at HH B5 ⊢
 generalize W'.heap.size = g5 at B5 ⊢
 have hn := Z0.mk (bkB B1.out HH.out); clear B1; have B1 := hn; clear hn
 have hn := Z0.mk (bkB B3.out HH.out); clear B3; have B3 := hn; clear hn
 have hn := Z0.mk (bwT HB.out HH.out); clear HB HH; have HB := hn; clear hn
 clear c0 c1
 have HH := Z0.mk (Below.refl w3.heap.size w3)
 go_upto_region 5 with (first | (go_at_call 23; refine (hang_Hanging.calls 60 500 50 10 1 2 0 _ aw_Hanging).mono ?_; rintro e W' ⟨rfl, hb⟩; have hn := Z0.mk (bwT HH.out hb); clear HH hb; have HH := hn; clear hn))
 have hn := Z0.mk (bwA HH.out (.cells #[.int .i64 1, .int .i64 2] 23 (0, 0))); clear HH; have HH := hn; clear hn
 have B7 := Z0.mk (blk_new W' (.cells #[.int .i64 1, .int .i64 2] 23 (0, 0)))
 generalize W'.alloc (.cells #[.int .i64 1, .int .i64 2] 23 (0, 0)) = w4 at HH B7 ⊢
 generalize W'.heap.size = g7 at B7 ⊢
 have hn := Z0.mk (bkB B1.out HH.out); clear B1; have B1 := hn; clear hn
 have hn := Z0.mk (bkB B3.out HH.out); clear B3; have B3 := hn; clear hn
 have hn := Z0.mk (bkB B5.out HH.out); clear B5; have B5 := hn; clear hn
 have hn := Z0.mk (bwT HB.out HH.out); clear HB HH; have HB := hn; clear hn
 have HH := Z0.mk (Below.refl w4.heap.size w4)
 go_upto_region 6 with (first | (go_at_call 23; refine (hang_Hanging.calls 60 601 50 10 0 0 4 _ aw_Hanging2).mono ?_; rintro e W' ⟨rfl, hb⟩; have hn := Z0.mk (bwT HH.out hb); clear HH hb; have HH := hn; clear hn))
 have hn := Z0.mk (bwA HH.out (.cells #[.int .i64 0, .int .i64 0] 23 (0, 0))); clear HH; have HH := hn; clear hn
 have B9 := Z0.mk (blk_new W' (.cells #[.int .i64 0, .int .i64 0] 23 (0, 0)))
 generalize W'.alloc (.cells #[.int .i64 0, .int .i64 0] 23 (0, 0)) = w5 at HH B9 ⊢
 generalize W'.heap.size = g9 at B9 ⊢
 have hn := Z0.mk (bkB B1.out HH.out); clear B1; have B1 := hn; clear hn
 have hn := Z0.mk (bkB B3.out HH.out); clear B3; have B3 := hn; clear hn
 have hn := Z0.mk (bkB B5.out HH.out); clear B5; have B5 := hn; clear hn
 have hn := Z0.mk (bkB B7.out HH.out); clear B7; have B7 := hn; clear hn
 have hn := Z0.mk (bwT HB.out HH.out); clear HB HH; have HB := hn; clear hn
 have HH := Z0.mk (Below.refl w5.heap.size w5)
 go_upto_region 7 with (first | (go_at_call 23; refine (hang_Hanging.calls 60 1001 50 10 0 0 23 _ aw_Hanging3).mono ?_; rintro e W' ⟨rfl, hb⟩; have hn := Z0.mk (bwT HH.out hb); clear HH hb; have HH := hn; clear hn))
 have hn := Z0.mk (bwA HH.out (.cells #[.int .i64 0, .int .i64 0] 23 (0, 0))); clear HH; have HH := hn; clear hn
 have B11 := Z0.mk (blk_new W' (.cells #[.int .i64 0, .int .i64 0] 23 (0, 0)))
 generalize W'.alloc (.cells #[.int .i64 0, .int .i64 0] 23 (0, 0)) = w6 at HH B11 ⊢
 generalize W'.heap.size = g11 at B11 ⊢
 have hn := Z0.mk (bkB B1.out HH.out); clear B1; have B1 := hn; clear hn
 have hn := Z0.mk (bkB B3.out HH.out); clear B3; have B3 := hn; clear hn
 have hn := Z0.mk (bkB B5.out HH.out); clear B5; have B5 := hn; clear hn
 have hn := Z0.mk (bkB B7.out HH.out); clear B7; have B7 := hn; clear hn
 have hn := Z0.mk (bkB B9.out HH.out); clear B9; have B9 := hn; clear hn
 have hn := Z0.mk (bwT HB.out HH.out); clear HB HH; have HB := hn; clear hn
 have HH := Z0.mk (Below.refl w6.heap.size w6)
 go_upto_region 8 with (first | (go_at_call 14; refine (hang_Secondary.calls 60 3 5 16 25 0 _ aw_Secondary).mono ?_; rintro e W' ⟨rfl, hb⟩; have hn := Z0.mk (bwT HH.out hb); clear HH hb; have HH := hn; clear hn))
 have hn := Z0.mk (bwA HH.out (.cells #[.int .i64 16, .int .i64 25] 25 (0, 0))); clear HH; have HH := hn; clear hn
 have B13 := Z0.mk (blk_new W' (.cells #[.int .i64 16, .int .i64 25] 25 (0, 0)))
 generalize W'.alloc (.cells #[.int .i64 16, .int .i64 25] 25 (0, 0)) = w7 at HH B13 ⊢
 generalize W'.heap.size = g13 at B13 ⊢
 have hn := Z0.mk (bkB B1.out HH.out); clear B1; have B1 := hn; clear hn
 have hn := Z0.mk (bkB B3.out HH.out); clear B3; have B3 := hn; clear hn
 have hn := Z0.mk (bkB B5.out HH.out); clear B5; have B5 := hn; clear hn
 have hn := Z0.mk (bkB B7.out HH.out); clear B7; have B7 := hn; clear hn
 have hn := Z0.mk (bkB B9.out HH.out); clear B9; have B9 := hn; clear hn
 have hn := Z0.mk (bkB B11.out HH.out); clear B11; have B11 := hn; clear hn
 have hn := Z0.mk (bwT HB.out HH.out); clear HB HH; have HB := hn; clear hn
 have HH := Z0.mk (Below.refl w7.heap.size w7)
 go_upto_region 9 with (first | (go_at_call 15; refine (hang_Fullness.calls 60 3 5 576 625 0 _ aw_Fullness).mono ?_; rintro e W' ⟨rfl, hb⟩; have hn := Z0.mk (bwT HH.out hb); clear HH hb; have HH := hn; clear hn))
 have hn := Z0.mk (bwA HH.out (.cells #[.int .i64 576, .int .i64 625] 25 (0, 0))); clear HH; have HH := hn; clear hn
 have B15 := Z0.mk (blk_new W' (.cells #[.int .i64 576, .int .i64 625] 25 (0, 0)))
 generalize W'.alloc (.cells #[.int .i64 576, .int .i64 625] 25 (0, 0)) = w8 at HH B15 ⊢
 generalize W'.heap.size = g15 at B15 ⊢
 have hn := Z0.mk (bkB B1.out HH.out); clear B1; have B1 := hn; clear hn
 have hn := Z0.mk (bkB B3.out HH.out); clear B3; have B3 := hn; clear hn
 have hn := Z0.mk (bkB B5.out HH.out); clear B5; have B5 := hn; clear hn
 have hn := Z0.mk (bkB B7.out HH.out); clear B7; have B7 := hn; clear hn
 have hn := Z0.mk (bkB B9.out HH.out); clear B9; have B9 := hn; clear hn
 have hn := Z0.mk (bkB B11.out HH.out); clear B11; have B11 := hn; clear hn
 have hn := Z0.mk (bkB B13.out HH.out); clear B13; have B13 := hn; clear hn
 have hn := Z0.mk (bwT HB.out HH.out); clear HB HH; have HB := hn; clear hn
 have HH := Z0.mk (Below.refl w8.heap.size w8)
 go_upto_region 10 with (first | (go_at_call 34; refine (hang_Fullest.calls 60 7 5 7 0 _ aw_Fullest).mono ?_; rintro e W' ⟨rfl, hb⟩; have hn := Z0.mk (bwT HH.out hb); clear HH hb; have HH := hn; clear hn))
 have hn := Z0.mk (bwA HH.out (.cells #[.int .i64 5, .int .i64 7] 23 (0, 0))); clear HH; have HH := hn; clear hn
 have B17 := Z0.mk (blk_new W' (.cells #[.int .i64 5, .int .i64 7] 23 (0, 0)))
 generalize W'.alloc (.cells #[.int .i64 5, .int .i64 7] 23 (0, 0)) = w9 at HH B17 ⊢
 generalize W'.heap.size = g17 at B17 ⊢
 have hn := Z0.mk (bkB B1.out HH.out); clear B1; have B1 := hn; clear hn
 have hn := Z0.mk (bkB B3.out HH.out); clear B3; have B3 := hn; clear hn
 have hn := Z0.mk (bkB B5.out HH.out); clear B5; have B5 := hn; clear hn
 have hn := Z0.mk (bkB B7.out HH.out); clear B7; have B7 := hn; clear hn
 have hn := Z0.mk (bkB B9.out HH.out); clear B9; have B9 := hn; clear hn
 have hn := Z0.mk (bkB B11.out HH.out); clear B11; have B11 := hn; clear hn
 have hn := Z0.mk (bkB B13.out HH.out); clear B13; have B13 := hn; clear hn
 have hn := Z0.mk (bkB B15.out HH.out); clear B15; have B15 := hn; clear hn
 have hn := Z0.mk (bwT HB.out HH.out); clear HB HH; have HB := hn; clear hn
 clear B9 B11
 go_region_held3 (fun W => W.cell? ⟨g1, 0, none⟩ = some (.int .i64 500) ∧ W.cell? ⟨g1, 1, none⟩ = some (.int .i64 1) ∧ W.cell? ⟨g3, 0, none⟩ = some (.int .i64 750000) ∧ W.cell? ⟨g3, 1, none⟩ = some (.int .i64 1) ∧ W.cell? ⟨g5, 0, none⟩ = some (.int .i64 43301) ∧ W.cell? ⟨g5, 1, none⟩ = some (.int .i64 50) ∧ W.cell? ⟨g7, 0, none⟩ = some (.int .i64 1) ∧ W.cell? ⟨g7, 1, none⟩ = some (.int .i64 2) ∧ W.cell? ⟨g13, 0, none⟩ = some (.int .i64 16) ∧ W.cell? ⟨g13, 1, none⟩ = some (.int .i64 25) ∧ W.cell? ⟨g15, 0, none⟩ = some (.int .i64 576) ∧ W.cell? ⟨g15, 1, none⟩ = some (.int .i64 625) ∧ W.cell? ⟨g17, 0, none⟩ = some (.int .i64 5) ∧ W.cell? ⟨g17, 1, none⟩ = some (.int .i64 7)) (exact ⟨(bkC B1.out 0).trans rfl, (bkC B1.out 1).trans rfl, (bkC B3.out 0).trans rfl, (bkC B3.out 1).trans rfl, (bkC B5.out 0).trans rfl, (bkC B5.out 1).trans rfl, (bkC B7.out 0).trans rfl, (bkC B7.out 1).trans rfl, (bkC B13.out 0).trans rfl, (bkC B13.out 1).trans rfl, (bkC B15.out 0).trans rfl, (bkC B15.out 1).trans rfl, (bkC B17.out 0).trans rfl, (bkC B17.out 1).trans rfl⟩) (first | (go_at_call 76; refine (half_calls _).mono ?_; rintro e W' ⟨rfl, hb⟩; have HH := Z0.mk hb; clear hb; have hn := Z0.mk (bkB (bkD B1.out) HH.out); clear B1; have B1 := hn; clear hn; have hn := Z0.mk (bkB (bkD B3.out) HH.out); clear B3; have B3 := hn; clear hn; have hn := Z0.mk (bkB (bkD B5.out) HH.out); clear B5; have B5 := hn; clear hn; have hn := Z0.mk (bkB (bkD B7.out) HH.out); clear B7; have B7 := hn; clear hn; have hn := Z0.mk (bkB (bkD B13.out) HH.out); clear B13; have B13 := hn; clear hn; have hn := Z0.mk (bkB (bkD B15.out) HH.out); clear B15; have B15 := hn; clear hn; have hn := Z0.mk (bkB (bkD B17.out) HH.out); clear B17; have B17 := hn; clear hn))
 have hn := Z0.mk (bwT (below_drew HB.out) HH.out); clear HB HH; (try clear hHd); have HB := hn; clear hn
 clear B1 B3 B5 B7 B13 B15 B17
 rename World => w10
 go_upto_region 12 with (fail)
 have HH := Z0.mk (Below.refl w10.heap.size w10)
 go_upto_region 13 with (first | (go_at_call 76; refine (half_calls _).mono ?_; rintro e W' ⟨rfl, hb⟩; have hn := Z0.mk (bwT HH.out hb); clear HH hb; have HH := hn; clear hn) | (go_at_call 39; refine (rope_calls _ _ (blk_new _ _)).mono ?_; rintro e W' ⟨rfl, hb'⟩; have hb := bwT (bwA (Below.refl _ _) _) hb'; clear hb'; have hn := Z0.mk (bwT HH.out hb); clear HH hb; have HH := hn; clear hn))
 have hn := Z0.mk (bwA HH.out (.cells #[.int .i64 900, .int .i64 1] 23 (0, 0))); clear HH; have HH := hn; clear hn
 have B19 := Z0.mk (blk_new W' (.cells #[.int .i64 900, .int .i64 1] 23 (0, 0)))
 generalize W'.alloc (.cells #[.int .i64 900, .int .i64 1] 23 (0, 0)) = w11 at HH B19 ⊢
 generalize W'.heap.size = g19 at B19 ⊢
 have hn := Z0.mk (bwT HB.out HH.out); clear HB HH; have HB := hn; clear hn
 have HH := Z0.mk (Below.refl w11.heap.size w11)
 go_upto_region 14 with (first | (go_at_call 76; refine (half_calls _).mono ?_; rintro e W' ⟨rfl, hb⟩; have hn := Z0.mk (bwT HH.out hb); clear HH hb; have HH := hn; clear hn) | (go_at_call 41; refine (marks_calls _ _ (blk_new _ _)).mono ?_; rintro e W' ⟨v21, rfl, hs, hb'⟩; have L21 := Z0.mk hs; clear hs; have hb := bwT (bwA (Below.refl _ _) _) hb'; clear hb'; have hn := Z0.mk (bwT HH.out hb); clear HH hb; have HH := hn; clear hn))
 rename World => w12
 have hn := Z0.mk (bkB B19.out HH.out); clear B19; have B19 := hn; clear hn
 have hn := Z0.mk (bwT HB.out HH.out); clear HB HH; have HB := hn; clear hn
 have HH := Z0.mk (Below.refl w12.heap.size w12)
 go_upto_region 15 with (first | (go_at_call 42; refine (ties_calls _).mono ?_; rintro e W' ⟨v23, rfl, hs, hb⟩; have L23 := Z0.mk hs; clear hs; have hn := Z0.mk (bwT HH.out hb); clear HH hb; have HH := hn; clear hn))
 rename World => w13
 have hn := Z0.mk (bkB B19.out HH.out); clear B19; have B19 := hn; clear hn
 have hn := Z0.mk (L21.out.below HH.out); clear L21; have L21 := hn; clear hn
 have hn := Z0.mk (bwT HB.out HH.out); clear HB HH; have HB := hn; clear hn
 go_upto_region 16 with (fail)
 have HH := Z0.mk (bwA (Below.refl w13.heap.size w13) (.cells #[.string ⟨#[97]⟩, .int .i64 100, .int .i64 20, .string ⟨#[98]⟩, .int .i64 200, .int .i64 30] 132 (0, 0)))
 have B25 := Z0.mk (blk_new w13 (.cells #[.string ⟨#[97]⟩, .int .i64 100, .int .i64 20, .string ⟨#[98]⟩, .int .i64 200, .int .i64 30] 132 (0, 0)))
 have hg25 : w.heap.size ≤ w13.heap.size := HB.out.size
 have hn := Z0.mk (bkB B19.out HH.out); clear B19; have B19 := hn; clear hn
 have hn := Z0.mk (SlC.below L21.out HH.out); clear L21; have L21 := hn; clear hn
 have hn := Z0.mk (SlC.below L23.out HH.out); clear L23; have L23 := hn; clear hn
 have hn := Z0.mk (bwT HB.out HH.out); clear HB HH; have HB := hn; clear hn
 generalize hw_ : w13.alloc (.cells #[.string ⟨#[97]⟩, .int .i64 100, .int .i64 20, .string ⟨#[98]⟩, .int .i64 200, .int .i64 30] 132 (0, 0)) = w14 at B25 B19 L21 L23 HB ⊢
 clear hw_
 generalize w13.heap.size = g25 at B25 hg25 ⊢
 have hn := Z0.mk hg25; clear hg25; have hg25 := hn; clear hn
 have HH := Z0.mk (Below.refl w14.heap.size w14)
 go_upto_region 17 with (first | (go_at_call 50; refine (near_calls _ _ B25.out).mono ?_; rintro e W' ⟨rfl, hb⟩; have hn := Z0.mk (bwT HH.out hb); clear HH hb; have HH := hn; clear hn))
 rename World => w15
 have hn := Z0.mk (bkB B19.out HH.out); clear B19; have B19 := hn; clear hn
 have hn := Z0.mk (L21.out.below HH.out); clear L21; have L21 := hn; clear hn
 have hn := Z0.mk (L23.out.below HH.out); clear L23; have L23 := hn; clear hn
 have hn := Z0.mk (bkB B25.out HH.out); clear B25; have B25 := hn; clear hn
 have hn := Z0.mk (bwT HB.out HH.out); clear HB HH; have HB := hn; clear hn
 have HH := Z0.mk (Below.refl w15.heap.size w15)
 go_upto_region 18 with (first | (go_at_call 55; refine (hang_Length.calls 60 12 9 50 4 636 0 _ aw_Length).mono ?_; rintro e W' ⟨rfl, hb⟩; have hn := Z0.mk (bwT HH.out hb); clear HH hb; have HH := hn; clear hn))
 rename World => w16
 have hn := Z0.mk (bkB B19.out HH.out); clear B19; have B19 := hn; clear hn
 have hn := Z0.mk (L21.out.below HH.out); clear L21; have L21 := hn; clear hn
 have hn := Z0.mk (L23.out.below HH.out); clear L23; have L23 := hn; clear hn
 have hn := Z0.mk (bkB B25.out HH.out); clear B25; have B25 := hn; clear hn
 have hn := Z0.mk (bwT HB.out HH.out); clear HB HH; have HB := hn; clear hn
 have HH := Z0.mk (Below.refl w16.heap.size w16)
 go_upto_region 19 with (first | (go_at_call 56; refine (hang_Weight.calls 60 636 500 318 0 _ aw_Weight).mono ?_; rintro e W' ⟨rfl, hb⟩; have hn := Z0.mk (bwT HH.out hb); clear HH hb; have HH := hn; clear hn))
 rename World => w17
 have hn := Z0.mk (bkB B19.out HH.out); clear B19; have B19 := hn; clear hn
 have hn := Z0.mk (L21.out.below HH.out); clear L21; have L21 := hn; clear hn
 have hn := Z0.mk (L23.out.below HH.out); clear L23; have L23 := hn; clear hn
 have hn := Z0.mk (bkB B25.out HH.out); clear B25; have B25 := hn; clear hn
 have hn := Z0.mk (bwT HB.out HH.out); clear HB HH; have HB := hn; clear hn
 have c0 : w17.cell? ⟨g25, 1, none⟩ = some (.int .i64 100) := (bkC B25.out 1).trans rfl
 have c1 : w17.frozen? ⟨g25, 1, none⟩ = false := bkZ B25.out 1
 go_upto_region 20 with (fail)
 clear c0 c1
 have hn := Z0.mk (bwS (j := 1) (v := .int .i64 500) HB.out hg25.out); clear HB; have HB := hn; clear hn
 have hn := Z0.mk (SlC.set (i := 1) (u := .int .i64 500) L21.out (fun W' x cs h => by obtain rfl := k23_open h; exact k23_mk W' x) B25.out (by decide)); clear L21; have L21 := hn; clear hn
 have hn := Z0.mk (SlC.set (i := 1) (u := .int .i64 500) L23.out (fun W' x cs h => h) B25.out (by decide)); clear L23; have L23 := hn; clear hn
 have hn := Z0.mk (bkF B19.out (p := ⟨g25, 1, none⟩) (blk_ne B19.out B25.out (by decide)) (.int .i64 500)); clear B19; have B19 := hn; clear hn
 have hn := Z0.mk (bkP (cs' := #[.string ⟨#[97]⟩, .int .i64 500, .int .i64 20, .string ⟨#[98]⟩, .int .i64 200, .int .i64 30]) B25.out 1 (.int .i64 500) rfl); clear B25; have B25 := hn; clear hn
 generalize (w17.setCell ⟨g25, 1, none⟩ (.int .i64 500)) = w18 at B25 B19 L21 L23 HB ⊢
 have HH := Z0.mk (Below.refl w18.heap.size w18)
 go_upto_region 21 with (first | (go_at_call 61; refine (bill_calls _ _ _ (bkA B25.out _) (blk_new _ _)).mono ?_; rintro e W' ⟨v32, rfl, hs, hb'⟩; have L32 := Z0.mk hs; clear hs; have hb := bwT (bwA (Below.refl _ _) _) hb'; clear hb'; have hn := Z0.mk (bwT HH.out hb); clear HH hb; have HH := hn; clear hn))
 rename World => w19
 have hn := Z0.mk (bkB B19.out HH.out); clear B19; have B19 := hn; clear hn
 have hn := Z0.mk (L21.out.below HH.out); clear L21; have L21 := hn; clear hn
 have hn := Z0.mk (L23.out.below HH.out); clear L23; have L23 := hn; clear hn
 have hn := Z0.mk (bkB B25.out HH.out); clear B25; have B25 := hn; clear hn
 have hn := Z0.mk (bwT HB.out HH.out); clear HB HH; have HB := hn; clear hn
 have HH := Z0.mk (Below.refl w19.heap.size w19)
 go_upto_region 22 with (first | (go_at_call 32; refine (hang_Compare.calls 60 1 3 1 2 (-1) 0 _ aw_Compare).mono ?_; rintro e W' ⟨rfl, hb⟩; have hn := Z0.mk (bwT HH.out hb); clear HH hb; have HH := hn; clear hn))
 rename World => w20
 have hn := Z0.mk (bkB B19.out HH.out); clear B19; have B19 := hn; clear hn
 have hn := Z0.mk (L21.out.below HH.out); clear L21; have L21 := hn; clear hn
 have hn := Z0.mk (L23.out.below HH.out); clear L23; have L23 := hn; clear hn
 have hn := Z0.mk (bkB B25.out HH.out); clear B25; have B25 := hn; clear hn
 have hn := Z0.mk (L32.out.below HH.out); clear L32; have L32 := hn; clear hn
 have hn := Z0.mk (bwT HB.out HH.out); clear HB HH; have HB := hn; clear hn
 obtain ⟨gA, cA, curA, rfl, LA⟩ := L21.out
 obtain ⟨gC, cC, curC, rfl, LC⟩ := L23.out
 obtain ⟨gB, capB, rfl, LB⟩ := L32.out
 have LB2 : Z0 (SlBc 650 325 13000 0 0 0 gB w20) := ⟨LB.out.2⟩
 have hcap : 2 ≤ capB := LB.out.1
 clear LB L21 L23 L32
 have c0 : w20.cell? ⟨g19, 0, none⟩ = some (.int .i64 900) := (bkC B19.out 0).trans rfl
 have c1 : w20.cell? ⟨g19, 1, none⟩ = some (.int .i64 1) := (bkC B19.out 1).trans rfl
 have HH := Z0.mk (Below.refl w20.heap.size w20)
 go_wp2_with (first | (go_at_call 47; refine (same_calls _ _ _ ⟨LA.out.1, Kd.C_alloc LA.out.2.2 _⟩ _ (blk_new _ _)).mono ?_; rintro e W1 ⟨rfl, hb'⟩; have hb := bwT (bwA (Below.refl _ _) _) hb'; clear hb'; have hn := Z0.mk (bwT HB.out hb); clear HB; have HB := hn; clear hn; have hn := Z0.mk (SlBc.below LB2.out hb); clear LB2; have LB2 := hn; clear hn; have hn := Z0.mk (Kd.C_below LC.out.2.2 hb); have hl := Z0.mk LC.out.1; clear LC hb) | (go_at_call 48; refine (ints_calls _ _ _ ⟨hl.out, Kd.C_alloc hn.out _⟩ _ (blk_new _ _)).mono ?_; rintro e W2 ⟨rfl, hb'⟩; have hb := bwT (bwA (Below.refl _ _) _) hb'; clear hb'; have hm := Z0.mk (bwT HB.out hb); clear HB; have HB := hm; clear hm; obtain ⟨d0, d1, d2, d3, d4, d5⟩ := SlBc.below LB2.out hb; clear LB2 hb))
 go_ret
 exact ⟨rfl, HB.out⟩
end Go.Proofs.YtppighiaffppkaaDoor.H
end
section
namespace Go.Proofs.YtppighiaffppkaaDoor.H
open Go.RowKit Go.Proofs.YtppighiaffppkaaDoorW.PrintWords Go.Proofs.YtppighiaffppkaaDoorW.PrintLast Go.Proofs.YtppighiaffppkaaDoorW.PrintMore
set_option linter.unusedVariables false
def cl6_awake.f (_k : Nat) : Option (Bool) := some true
theorem cl6_awake.mono : ∀ k, LeO (cl6_awake.f k) (cl6_awake.f (k + 1)) := fun _ _ h => h
theorem cl6_awake.calls (k : Nat) (r : Bool) (w : World) (hG : GH w) (h : cl6_awake.f k = some r) :
  Calls Tryd.prog 22 #[] w fun e w' => e = .returned (.bool r) ∧ Below w.heap.size w w' := by
 cases h
 exact awake_calls w hG
end Go.Proofs.YtppighiaffppkaaDoor.H
end
section
namespace Go.Proofs.YtppighiaffppkaaDoor.R
open Go.ChangeShapes Go.WideShapes Go.ChangeAt Go.WideMaps Go.WideElems Go.RowKit
set_option linter.unusedVariables false
theorem own : ownKnob Tryd.prog.godebug = none := by kernel_rfl
theorem laidOut : laidOutB Tryd.prog = true := by kernel_rfl
theorem gTens : Tryd.prog.globalNamed "codend/hang.tens" = some 0 := by kernel_rfl
abbrev laid {H : Type} : List (String × DataW H) := [("codend/hang.tens", Rows.laid_codend_hang_tens)]
theorem c3 : Tryd.prog.cellsOf 3 = 1 := by kernel_rfl
theorem tTens : (Tryd.prog.globals[0]?).map (·.type) = some 136 := by kernel_rfl
theorem c136 : Tryd.prog.cellsOf 136 = 3 := by kernel_rfl
set_option maxRecDepth 100000 in
theorem gh_of_laid {W : World} (h : laidMetH Tryd.prog (laid (H := Unit)) W) : H.GH W := by
 rw [MakeChecks.laidMetH_plain _ _ _ (by kernel_rfl)] at h
 obtain ⟨ps, ⟨g1, t1, cs1, f1, p1, q1, hg1, ht1, hv1, hd1, _, _⟩, _, _⟩ := h
 obtain rfl := Option.some.inj (gTens.symm.trans hg1)
 obtain rfl := Option.some.inj (tTens.symm.trans ht1)
 obtain ⟨xs, m1, rfl, hx1, hlen, hn3, hel⟩ := DataW.trod_array Tryd.underlying136 hd1
 have h0 := hel 0 (by decide)
 have h1 := hel 1 (by decide)
 have h2 := hel 2 (by decide)
 simp only [Rows.laid_codend_hang_tens, Prod.mk.injEq, DataW.agg.injEq] at hx1
 match xs, hn3, hx1, h0, h1, h2 with
 | [x0, x1, x2], _, hx1, h0, h1, h2 =>
  simp only [List.map_cons, List.map_nil, List.cons.injEq] at hx1;obtain ⟨k0, e0, d0, _⟩ := DataW.trod_int Tryd.underlying3 (show DataW.trod _ Tryd.prog W 0 _ false m1 3 _ = some x0 from h0);obtain ⟨k1, e1, d1, _⟩ := DataW.trod_int Tryd.underlying3 (show DataW.trod _ Tryd.prog W 0 _ false m1 3 _ = some x1 from h1);obtain ⟨k2, e2, d2, _⟩ := DataW.trod_int Tryd.underlying3 (show DataW.trod _ Tryd.prog W 0 _ false m1 3 _ = some x2 from h2);have q0 : k0 = 1 := by rw [d0] at hx1; simpa using hx1.1.1.symm
  have q1 : k1 = 10 := by rw [d1] at hx1; simpa using hx1.1.2.1.symm
  have q2 : k2 = 100 := by rw [d2] at hx1; simpa using hx1.1.2.2.1.symm
  subst q0 q1 q2;have a0 := World.var?_cell hg1 hv1 0;have a1 := World.var?_cell hg1 hv1 1;have a2 := World.var?_cell hg1 hv1 2;obtain ⟨l1⟩ := cs1;simp only [c3, c136] at e0 e1 e2 hlen;match l1, hlen, e0, e1, e2, a0, a1, a2 with
  | [x, y, z], _, e0, e1, e2, a0, a1, a2 =>
   simp at e0 e1 e2
   subst e0 e1 e2;exact ⟨by simpa using a0, by simpa using a1, by simpa using a2⟩
theorem door_met (os : Os) (args : Array Value) : laidMetH Tryd.prog laid ((World.doorLaid Tryd.prog 400 os).forCall (fun _ _ => 0) ⟨#[], args, []⟩).memory :=
 laidMetH_of_parts3 (fuel := 8) (laidMet_of_run' 8 (by kernel_rfl) (by kernel_rfl)) (by kernel_rfl) (by kernel_rfl)
end Go.Proofs.YtppighiaffppkaaDoor.R
end
