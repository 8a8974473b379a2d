/- The common part of the claims of this seat: words, the walks of package hang's functions, and that the examples of the document hold (awake), part 6. Condition: the laid table hang.tens, as the card ties it. -/
import Derived.Laws.RangeAny
import Derived.Test.YtppighiaffppkaaDoorZA5
section
namespace Go.Proofs.YtppighiaffppkaaDoor.H
open Go.RowKit Go.Proofs.YtppighiaffppkaaDoorW.PrintWords Go.Proofs.YtppighiaffppkaaDoorW.PrintLast Go.Proofs.YtppighiaffppkaaDoorW.PrintMore
set_option maxHeartbeats 1000000 in
theorem hang_Twine_90.calls (k : Nat) (A0 : Option Addr) (c0 : Nat) (l0 : List (S132)) (cb : ByteArray → Int → Int → Option Bool) (r : Int) (w : World) (K_ : Nat) (caps_ : Array Value) (eg : ∀ args w, (callFunc K_ args).run Tryd.prog w = .ok (.enter K_ args) w) (hcb : ∀ (x0 : ByteArray) (x1 x2 : Int) (r_ : Bool) (w1 : World), Below w.heap.size w w1 → cb x0 x1 x2 = some r_ → Calls Tryd.prog K_ (#[.agg #[.string x0, .int .i64 x1, .int .i64 x2]] ++ caps_) w1 fun e w2 => e = .returned (.bool r_) ∧ Below w1.heap.size w1 w2) (hr0 : Kd.C k132 w A0 l0.length l0) (hc0 : l0.length ≤ c0) (h : hang_Twine_110.f cb k l0 = some r) :
  Calls Tryd.prog 90 #[.slice A0 l0.length c0, .func (.func K_) #[] caps_] w fun e w' => e = .returned (.bool (decide (0 ≤ r))) ∧ Below w.heap.size w w' := by
 have HC := Z0.mk (hang_Twine_110.calls k A0 c0 l0 cb r w K_ caps_ eg hcb hr0 hc0 h)
 clear hcb hr0 hc0 h eg
 go_enter Tryd.func90, Tryd.ntmps90
 go_wp2_with (go_at_call 110; (with_reducible refine HC.out.mono ?_); rintro e w' ⟨rfl, hb⟩)
 go_ret
 exact ⟨rfl, hb⟩
set_option maxHeartbeats 1000000 in
theorem hang_same_91.calls (s x0 : ByteArray) (x1 x2 y1 y2 : Int) (g : Nat) (w : World) (hb : w.heap[g]? = some (.cells #[.string s, .int .i64 y1, .int .i64 y2] 132 (0, 0))) :
  Calls Tryd.prog 91 #[.agg #[.string x0, .int .i64 x1, .int .i64 x2], .pointer (some ⟨g, 0, none⟩)] w fun e w' => e = .returned (.bool (x0.toList == s.toList)) ∧ Below w.heap.size w w' := by
 have hc : w.cell? ⟨g, 0, none⟩ = some (.string s) := (bkC hb 0).trans rfl
 have hl : g < w.heap.size := World.block_lt_of_cell? w _ hc
 have HB := Z0.mk hb
 clear hb
 have hu132 := Tryd.underlying132
 go_enter Tryd.func91, Tryd.ntmps91
 go_wp2
 go_ret
 exact ⟨rfl, (Below.refl _ _).alloc (Nat.le_refl _) _⟩
end Go.Proofs.YtppighiaffppkaaDoor.H
end
section
namespace Go.Proofs.YtppighiaffppkaaDoor.H
open Go.RowKit Go.Proofs.YtppighiaffppkaaDoorW.PrintWords Go.Proofs.YtppighiaffppkaaDoorW.PrintLast Go.Proofs.YtppighiaffppkaaDoorW.PrintMore Go.Shelf
theorem C_take {α : Type} {d : Kd α} {w : World} {A : Option Addr} {n m : Nat} {xs : List α} (h : Kd.C d w A n xs) (hm : m ≤ n) : Kd.C d w A m (xs.take m) := by
 obtain ⟨h1, h2, h3⟩ := h
 refine ⟨by simp; omega, by omega, fun hp => ?_⟩
 obtain ⟨ad, e, hc⟩ := h3 (by omega)
 refine ⟨ad, e, fun j p hj => hc j p ?_⟩
 rw [List.getElem?_take] at hj
 split at hj
 ·exact hj
 ·cases hj
def hang_again.f (k : Nat) (l : List S132) (i : Int) (s : ByteArray) (_y1 _y2 : Int) : Option Bool := (hang_Twine_110.f (fun x0 _ _ => some (x0.toList == s.toList)) k (l.take i.toNat)).bind fun r => some (decide (0 ≤ r))
theorem hang_again.mono : ∀ l i s y1 y2 k, LeO (hang_again.f k l i s y1 y2) (hang_again.f (k + 1) l i s y1 y2) := by
 intro l i s y1 y2 k
 unfold hang_again.f
 exact LeO.bind (hang_Twine_110.mono _ _ _) (fun _ => LeO.refl _)
theorem hang_again.calls (k : Nat) (A0 : Option Addr) (c0 : Nat) (l0 : List (S132)) (i : Int) (s : ByteArray) (y1 y2 : Int) (r : Bool) (w : World) (g : Nat) (hr0 : Kd.C k132 w A0 l0.length l0) (hc0 : l0.length ≤ c0) (_h0 : 0 ≤ i) (h1 : i ≤ l0.length)
  (hb : w.heap[g]? = some (.cells #[.string s, .int .i64 y1, .int .i64 y2] 132 (0, 0))) (h : hang_again.f k l0 i s y1 y2 = some r) :
  Calls Tryd.prog 90 #[.slice A0 i.toNat c0, .func (.func 91) #[] #[.pointer (some ⟨g, 0, none⟩)]] w fun e w' => e = .returned (.bool r) ∧ Below w.heap.size w w' := by
 obtain ⟨q, hq, hr⟩ := Option.bind_eq_some_iff.mp h
 obtain rfl := Option.some.inj hr
 have hl : (l0.take i.toNat).length = i.toNat := by simp; omega
 have H := hang_Twine_90.calls k A0 c0 (l0.take i.toNat) _ q w 91 #[.pointer (some ⟨g, 0, none⟩)] (enters_of Tryd.func91 (by kernel_rfl) rfl) (fun x0 x1 x2 r_ w1 hb1 hx => by
  obtain rfl := Option.some.inj hx;exact hang_same_91.calls s x0 x1 x2 y1 y2 g w1 (bkB hb hb1)) (by rw [hl]; exact C_take hr0 (by omega)) (by omega) hq
 rw [hl] at H
 exact H
end Go.Proofs.YtppighiaffppkaaDoor.H
end
section
namespace Go.Proofs.YtppighiaffppkaaDoor.H
open Go.RowKit Go.Proofs.YtppighiaffppkaaDoorW.PrintWords Go.Proofs.YtppighiaffppkaaDoorW.PrintLast Go.Proofs.YtppighiaffppkaaDoorW.PrintMore
set_option linter.unusedSimpArgs false
set_option linter.unusedVariables false
theorem hid9_ {p : Prop} (h : p) : Hid p := h
def okByte (i c : Nat) : Bool := decide (65 ≤ c ∧ c ≤ 90 ∨ 97 ≤ c ∧ c ≤ 122 ∨ i ≠ 0 ∧ (c = 95 ∨ 48 ≤ c ∧ c ≤ 57))
def okAll (s : ByteArray) : Bool := (List.range s.size).all fun i => okByte i (s.data.toList.getD i 0).toNat
def isName (s : ByteArray) : Bool := decide (s.size ≠ 0 ∧ s.size ≤ 24) && okAll s
def netting_IsName.f (s : ByteArray) : Option Bool := some (isName s)
theorem okAll_bad {s : ByteArray} {i : Nat} (h : i < s.size) (hb : okByte i (s.data.toList.getD i 0).toNat = false) : okAll s = false := by
 unfold okAll
 rw [List.all_eq_false]
 exact ⟨i, List.mem_range.mpr h, by simpa using hb⟩
theorem okAll_good {s : ByteArray} (h : ∀ i, i < s.size → okByte i (s.data.toList.getD i 0).toNat = true) : okAll s = true := by
 unfold okAll
 rw [List.all_eq_true]
 exact fun i hi => h i (List.mem_range.mp hi)
theorem byte_at (s : ByteArray) (pos : Nat) (h : pos < s.size) : (s.data.toList.getD pos 0) = s[pos]'h := by
 have : pos < s.data.toList.length := by simpa using h
 rw [List.getD_eq_getElem?_getD, List.getElem?_eq_getElem this]
 rfl
theorem rune_at (s : ByteArray) (pos : Nat) (h : pos < s.size) : ∃ r p : Nat, Utf8.decode s pos = (r, p) ∧ r ≤ 2147483647 ∧ ((r = (s.data.toList.getD pos 0).toNat ∧ p = 1 ∧ r < 128) ∨ (128 ≤ r ∧ 128 ≤ (s.data.toList.getD pos 0).toNat)) := by
 rw [byte_at s pos h]
 by_cases ha : (s[pos]'h).toNat < 128
 ·exact ⟨_, _, decode_ascii s pos h ha, by omega, Or.inl ⟨rfl, rfl, ha⟩⟩
 ·exact ⟨(Utf8.decode s pos).1, (Utf8.decode s pos).2, rfl, decode_le s pos, Or.inr ⟨(decode_high s pos h (by omega)).1, by omega⟩⟩
theorem iter_below (w : World) (s : ByteArray) (pos : Nat) : Below w.heap.size w (w.iter s pos) := (Below.refl _ _).alloc (Nat.le_refl _) _
set_option maxHeartbeats 4000000 in
set_option maxRecDepth 100000 in
theorem isName_loop (s : ByteArray) (w : World) (hs0 : s.size ≠ 0) (hs1 : s.size ≤ 24) :
  Calls Tryd.prog 92 #[.string s] w fun e w' => e = .returned (.bool (okAll s)) ∧ Below w.heap.size w w' := by
 have h1 : ((s.size : Int) == 0) = false := by rw [beq_eq_false_iff_ne]; omega
 have h2 : ¬ ((24 : Int) < (s.size : Int)) := by omega
 have HS := hid9_ hs0
 clear hs0
 go_enter Tryd.func92, Tryd.ntmps92
 go_wp2
 go_loopw [2] (fun _ w' => ∃ pos : Nat, w' = w.iter s pos ∧ pos ≤ s.size ∧ Hid (∀ i, i < pos → okByte i (s.data.toList.getD i 0).toNat = true)) (fun _ w' => s.size - w'.iterPos w.heap.size)
 case atStart => exact ⟨0, rfl, Nat.zero_le _, fun i hi => absurd hi (Nat.not_lt_zero _)⟩
 case round =>
  obtain ⟨pos, rfl, hp0, hok⟩ := hrel;by_cases hp : pos < s.size
  ·obtain ⟨r, p, hd, hr, hcase⟩ := rune_at s pos hp;have hnx : ∀ ty, (Instr.next (.pointer (some ⟨w.heap.size, 0, none⟩)) true ty).run Tryd.prog (w.iter s pos) = .ok (.tuple #[.bool true, .int .i64 pos, .int .i32 r]) (w.iter s (pos + p)) := fun ty => by
    have := run_next_any (P := Tryd.prog) w s pos ty hp;rw [hd] at this;exact this
   clear hd;by_cases hgood : okByte pos (s.data.toList.getD pos 0).toNat = true
   ·have hg := hgood;simp only [okByte, decide_eq_true_eq] at hg;have hr1 : r = (s.data.toList.getD pos 0).toNat ∧ p = 1 := by
     rcases hcase with ⟨a, b, c⟩ | ⟨a, b⟩
     ·exact ⟨a, b⟩
     ·omega
    obtain ⟨hr2, rfl⟩ := hr1;rw [← hr2] at hg;have HG : Hid (∀ i, i < pos + 1 → okByte i (s.data.toList.getD i 0).toNat = true) := fun i hi => by
     by_cases e : i = pos
     ·subst e; exact hgood
     ·exact hok.out i (by omega)
    clear hgood hcase hok hr2;rcases hg with ⟨a, b⟩ | ⟨a, b⟩ | ⟨a, b⟩
    ·have a' : (65 : Int) ≤ (r : Int) := by omega
     have b' : (r : Int) ≤ 90 := by omega
     go_wp2
     go_roundw
     case rel => exact ⟨pos + 1, rfl, by omega, HG⟩
     case measure => simp; omega
    ·have a' : (97 : Int) ≤ (r : Int) := by omega
     have b' : (r : Int) ≤ 122 := by omega
     have c' : ¬ ((r : Int) ≤ 90) := by omega
     go_wp2
     go_roundw
     case rel => exact ⟨pos + 1, rfl, by omega, HG⟩
     case measure => simp; omega
    ·have p' : ((pos : Int) == 0) = false := by rw [beq_eq_false_iff_ne]; omega
     rcases b with b | b
     ·have b' : ((r : Int) != 95) = false := by rw [bne_eq_false_iff_eq]; omega
      have c' : ¬ ((97 : Int) ≤ (r : Int)) := by omega
      have d' : ¬ ((r : Int) ≤ 90) := by omega
      clear a b;go_wp2
      go_roundw
      case rel => exact ⟨pos + 1, rfl, by omega, HG⟩
      case measure => simp; omega
     ·have b' : ((r : Int) != 95) = true := by rw [bne_iff_ne]; omega
      have c' : ¬ ((65 : Int) ≤ (r : Int)) := by omega
      have c2' : ¬ ((97 : Int) ≤ (r : Int)) := by omega
      have d' : ¬ ((r : Int) < 48) := by omega
      have e' : ¬ ((57 : Int) < (r : Int)) := by omega
      clear a b;go_wp2
      go_roundw
      case rel => exact ⟨pos + 1, rfl, by omega, HG⟩
      case measure => simp; omega
   ·have hbad : okByte pos (s.data.toList.getD pos 0).toNat = false := by simpa using hgood
    have Hres := hid9_ (okAll_bad hp hbad);have hneg : ¬ (65 ≤ r ∧ r ≤ 90 ∨ 97 ≤ r ∧ r ≤ 122 ∨ pos ≠ 0 ∧ (r = 95 ∨ 48 ≤ r ∧ r ≤ 57)) := by
     rcases hcase with ⟨a, b, c⟩ | ⟨a, b⟩
     ·simp only [okByte, decide_eq_false_iff_not] at hbad;rw [a]; exact hbad
     ·omega
    clear hbad hgood hcase hok;have hrange : (r < 48) ∨ (48 ≤ r ∧ r ≤ 57) ∨ (58 ≤ r ∧ r ≤ 64) ∨ (91 ≤ r ∧ r ≤ 94) ∨ r = 95 ∨ r = 96 ∨ 123 ≤ r := by omega
    by_cases hpos : pos = 0
    ·have p' : ((pos : Int) == 0) = true := by rw [beq_iff_eq]; omega
     have HP := hid9_ hpos;clear hpos hneg;rcases hrange with a | ⟨a, b⟩ | ⟨a, b⟩ | ⟨a, b⟩ | a | a | a
     all_goals
      first | have e0 : decide ((65 : Int) ≤ (r : Int)) = true := decide_eq_true (by omega) | have e0 : decide ((65 : Int) ≤ (r : Int)) = false := decide_eq_false (by omega) | skip
      first | have e1 : decide ((r : Int) ≤ 90) = true := decide_eq_true (by omega) | have e1 : decide ((r : Int) ≤ 90) = false := decide_eq_false (by omega) | skip
      first | have e2 : decide ((97 : Int) ≤ (r : Int)) = true := decide_eq_true (by omega) | have e2 : decide ((97 : Int) ≤ (r : Int)) = false := decide_eq_false (by omega) | skip
      first | have e3 : decide ((r : Int) ≤ 122) = true := decide_eq_true (by omega) | have e3 : decide ((r : Int) ≤ 122) = false := decide_eq_false (by omega) | skip
      first | have e4 : decide ((r : Int) < 48) = true := decide_eq_true (by omega) | have e4 : decide ((r : Int) < 48) = false := decide_eq_false (by omega) | skip
      first | have e5 : decide ((57 : Int) < (r : Int)) = true := decide_eq_true (by omega) | have e5 : decide ((57 : Int) < (r : Int)) = false := decide_eq_false (by omega) | skip
      try clear a
      try clear b
      go_wp2
      go_ret
      exact ⟨by rw [Hres.out]; rfl, iter_below _ _ _⟩
    ·have p' : ((pos : Int) == 0) = false := by rw [beq_eq_false_iff_ne]; omega
     have q' : ((r : Int) != 95) = true := by rw [bne_iff_ne]; omega
     have HP := hid9_ hpos;have hr2 : (r < 48) ∨ (58 ≤ r ∧ r ≤ 64) ∨ (91 ≤ r ∧ r ≤ 96) ∨ 123 ≤ r := by omega
     clear hpos hneg hrange;rcases hr2 with a | ⟨a, b⟩ | ⟨a, b⟩ | a
     all_goals
      first | have e0 : decide ((65 : Int) ≤ (r : Int)) = true := decide_eq_true (by omega) | have e0 : decide ((65 : Int) ≤ (r : Int)) = false := decide_eq_false (by omega) | skip
      first | have e1 : decide ((r : Int) ≤ 90) = true := decide_eq_true (by omega) | have e1 : decide ((r : Int) ≤ 90) = false := decide_eq_false (by omega) | skip
      first | have e2 : decide ((97 : Int) ≤ (r : Int)) = true := decide_eq_true (by omega) | have e2 : decide ((97 : Int) ≤ (r : Int)) = false := decide_eq_false (by omega) | skip
      first | have e3 : decide ((r : Int) ≤ 122) = true := decide_eq_true (by omega) | have e3 : decide ((r : Int) ≤ 122) = false := decide_eq_false (by omega) | skip
      first | have e4 : decide ((r : Int) < 48) = true := decide_eq_true (by omega) | have e4 : decide ((r : Int) < 48) = false := decide_eq_false (by omega) | skip
      first | have e5 : decide ((57 : Int) < (r : Int)) = true := decide_eq_true (by omega) | have e5 : decide ((57 : Int) < (r : Int)) = false := decide_eq_false (by omega) | skip
      try clear a
      try clear b
      go_wp2
      go_ret
      exact ⟨by rw [Hres.out]; rfl, iter_below _ _ _⟩
  ·have hnx : ∀ ty, (Instr.next (.pointer (some ⟨w.heap.size, 0, none⟩)) true ty).run Tryd.prog (w.iter s pos) = _ := fun ty => run_next_end w s pos ty hp
   have Hres := hid9_ (okAll_good (s := s) (fun i hi => hok.out i (by omega)));go_wp2
   go_ret
   exact ⟨by rw [Hres.out]; rfl, iter_below _ _ _⟩
theorem netting_IsName.calls (s : ByteArray) (r : Bool) (w : World) (h : netting_IsName.f s = some r) :
  Calls Tryd.prog 92 #[.string s] w fun e w' => e = .returned (.bool r) ∧ Below w.heap.size w w' := by
 obtain rfl := Option.some.inj h
 clear h
 by_cases h0 : s.size = 0
 ·have e : isName s = false := by simp [isName, h0]
  rw [e];have h1 : ((s.size : Int) == 0) = true := by rw [beq_iff_eq]; omega
  clear e h0;go_enter Tryd.func92, Tryd.ntmps92;go_wp2
  go_ret
  exact ⟨rfl, Below.refl _ _⟩
 ·by_cases h1 : s.size ≤ 24
  ·have e : isName s = okAll s := by simp [isName, h0, h1]
   rw [e];exact isName_loop s w h0 h1
  ·have e : isName s = false := by simp [isName, h1]
   rw [e];have h2 : ((s.size : Int) == 0) = false := by rw [beq_eq_false_iff_ne]; omega
   have h3 : (24 : Int) < (s.size : Int) := by omega
   clear e h0 h1;go_enter Tryd.func92, Tryd.ntmps92;go_wp2
   go_ret
   exact ⟨rfl, Below.refl _ _⟩
end Go.Proofs.YtppighiaffppkaaDoor.H
end
section
namespace Go.Proofs.YtppighiaffppkaaDoor.H
open Go.RowKit Go.Proofs.YtppighiaffppkaaDoorW.PrintWords Go.Proofs.YtppighiaffppkaaDoorW.PrintLast Go.Proofs.YtppighiaffppkaaDoorW.PrintMore
attribute [local go_sem] max2_int min2_int max_two min_two max_three min_three max_four min_four
set_option linter.unusedSimpArgs false
set_option linter.unusedVariables false
def hang_CheckTwines.l0 : Nat → List (S132) → List (S132) → Int → Int → Option (Int)
 | 0, _, _, _, _ => none
 | k + 1, x0, x10, x11, x12 => if x12 < x11 then (if 0 ≤ x12 then (if x12 < (x10.length : Int) then ((hang_again.f k x0 x12 ((rd_T132 x10 x12).f0) ((rd_T132 x10 x12).f1) ((rd_T132 x10 x12).f2)).bind fun t250 => ((netting_IsName.f ((rd_T132 x10 x12).f0)).bind fun t251 => ((hang_when.f (!t251) 8).bind fun t252 => ((hang_when.f t250 9).bind fun t253 => ((hang_within.f ((rd_T132 x10 x12).f1) 1 100000).bind fun t254 => ((hang_within.f ((rd_T132 x10 x12).f2) 1 100).bind fun t255 => ((hang_first.f k (([t252, t253, t254, t255] : List Int))).bind fun t259 => (if t259 = 0 then (hang_CheckTwines.l0 k x0 x10 x11 (wrap64 (x12 + 1))) else (some t259))))))))) else (none)) else (none)) else (some 0)
def hang_CheckTwines.f (k : Nat) (l0 : List (S132)) : Option (Int) := if (l0.length : Int) > 32 then (some 5) else (hang_CheckTwines.l0 k l0 l0 (l0.length : Int) 0)
theorem hang_CheckTwines.mono_l : ∀ k, (∀ y0 y1 y2 y3, LeO (hang_CheckTwines.l0 k y0 y1 y2 y3) (hang_CheckTwines.l0 (k + 1) y0 y1 y2 y3))
 | 0 => fun _ _ _ _ r h => by simp [hang_CheckTwines.l0] at h
 | k + 1 => by
  have ih0 := hang_CheckTwines.mono_l k
  ·intro y0 y1 y2 y3;unfold hang_CheckTwines.l0
   repeat' first
   | (with_reducible exact ih0 _ _ _ _)
   | (with_reducible exact hang_again.mono _ _ _ _ _ _)
   | (with_reducible exact hang_first.mono _ _)
   | (with_reducible exact LeO.refl _)
   | (with_reducible exact LeO.none _)
   | (with_reducible refine LeO.ite ?_ ?_)
   | (with_reducible refine LeO.bind ?_ (fun _ => ?_))
   | exact ih0 _ _ _ _
   | exact hang_again.mono _ _ _ _ _ _
   | exact hang_first.mono _ _
   | exact LeO.none _
   | refine LeO.ite ?_ ?_
   | refine LeO.bind ?_ (fun _ => ?_)
theorem hang_CheckTwines.mono : ∀ a0 k, LeO (hang_CheckTwines.f k a0) (hang_CheckTwines.f (k + 1) a0) := by
 intro a0 k
 have ih0 := hang_CheckTwines.mono_l k
 unfold hang_CheckTwines.f
 repeat' first
   | (with_reducible exact ih0 _ _ _ _)
   | (with_reducible exact hang_again.mono _ _ _ _ _ _)
   | (with_reducible exact hang_first.mono _ _)
   | (with_reducible exact LeO.refl _)
   | (with_reducible exact LeO.none _)
   | (with_reducible refine LeO.ite ?_ ?_)
   | (with_reducible refine LeO.bind ?_ (fun _ => ?_))
   | exact ih0 _ _ _ _
   | exact hang_again.mono _ _ _ _ _ _
   | exact hang_first.mono _ _
   | exact LeO.none _
   | refine LeO.ite ?_ ?_
   | refine LeO.bind ?_ (fun _ => ?_)
def hang_CheckTwines.T7 : Bool × List (List Nat × List Nat) := (true, [([], []), ([0], [0]), ([1], [1]), ([2], [2]), ([3, 2], [3]), ([], []), ([5, 4], [5]), ([], []), ([7], [7]), ([8, 6], [8]), ([], []), ([10], [10]), ([11, 9], [11]), ([4, 6, 9, 12], [4, 6, 9, 12]), ([13, 12], [13]), ([14, 14, 0, 1, 2, 3, 4, 5, 6, 7, 8, 9, 10, 11, 12, 13, 14], [14])])
def hang_CheckTwines.B7 : List Nat := [0, 1, 3, 7, 15, 0, 63, 0, 128, 511, 0, 1024, 4095, 8191, 16383, 32767]
theorem hang_CheckTwines.tab7 : rtab .any (opsOf Tryd.f54 7) = hang_CheckTwines.T7 := by kernel_rfl
theorem hang_CheckTwines.bits7 : waitsOk hang_CheckTwines.T7.2 hang_CheckTwines.B7 = true := by kernel_rfl
set_option maxHeartbeats 8000000 in
set_option maxRecDepth 100000 in
theorem hang_CheckTwines.calls (k : Nat) (A0 : Option Addr) (c0 : Nat) (l0 : List (S132)) (r : Int) (w : World) (hr0 : Kd.C k132 w A0 l0.length l0) (hc0 : l0.length ≤ c0) (h : hang_CheckTwines.f k l0 = some r) :
  Calls Tryd.prog 54 #[.slice A0 l0.length c0] w fun e w' => e = .returned (.int .i64 r) ∧ Below w.heap.size w w' := by
 have hu132 := Tryd.underlying132
 have HR0 := Z0.mk hr0
 have HC0 := Z0.mk hc0
 clear hr0 hc0
 have HB := Z0.mk (Below.refl w.heap.size w)
 have H : (if (l0.length : Int) > 32 then (some 5) else (hang_CheckTwines.l0 k l0 l0 (l0.length : Int) 0)) = some r := h
 clear h
 by_cases c2 : (l0.length : Int) > 32
 ·rw [if_pos c2] at H;have c2b0 : decide (32 < (l0.length : Int)) = true := decide_eq_true c2;have c2b1 : decide (32 < l0.length) = true := decide_eq_true (by omega);clear c2;obtain rfl := Option.some.inj H;go_enter Tryd.func54, Tryd.ntmps54;go_wp2
  go_ret
  exact ⟨by first | rfl | (simp [errW_none, errW_some] <;> rfl) | (simp [*, errW_none, errW_some] <;> rfl), by repeat (first | (with_reducible first | exact HB.out | apply bwA | apply bwN | apply bw1) | exact HB.out)⟩
 ·rw [if_neg c2] at H;have c2b0 : decide (32 < (l0.length : Int)) = false := decide_eq_false c2;have c2b1 : decide (32 < l0.length) = false := decide_eq_false (by omega);clear c2;have H' := Z0.mk H;clear H;go_enter Tryd.func54, Tryd.ntmps54;go_wp2
  go_loopg [12] k (fun kq v12 w' => ∃ (x12_1 : Int), v12 = .int .i64 x12_1 ∧ Z0 (hang_CheckTwines.l0 kq l0 l0 (l0.length : Int) x12_1 = some r) ∧ Z0 (kq ≤ k) ∧ Z0 (Below w.heap.size w w'))
  case atStart => exact ⟨(0), (by first | rfl | (simp; done) | (simp [*]; done)), H', ⟨Nat.le_refl _⟩, ⟨by repeat (first | (with_reducible first | exact HB.out | apply bwA | apply bwN | apply bw1) | exact HB.out)⟩⟩
  case round =>
   clear H';try clear c2
   try clear c2b0
   try clear c2b1
   try clear p2
   obtain ⟨x12_1, rfl, HA, HK1, HB⟩ := hrel;cases gk with
   | zero => exact absurd HA.out (by simp [hang_CheckTwines.l0])
   | succ k1 =>
    have H := HA.out;clear HA;simp only [hang_CheckTwines.l0] at H;by_cases c3 : x12_1 < (l0.length : Int)
    ·rw [if_pos c3] at H;have c3b0 : decide (x12_1 < (l0.length : Int)) = true := decide_eq_true c3;clear c3;by_cases c4 : 0 ≤ x12_1
     ·rw [if_pos c4] at H;have c4b0 : decide (0 ≤ x12_1) = true := decide_eq_true c4;clear c4;by_cases c5 : x12_1 < (l0.length : Int)
      ·rw [if_pos c5] at H;have c5b0 : decide (x12_1 < (l0.length : Int)) = true := decide_eq_true c5;clear c5;replace H := Option.bind_eq_some_iff.mp H
       obtain ⟨t250, A60, H⟩ := H;try dsimp only at H
       have A6 := Z0.mk A60;clear A60;replace H := Option.bind_eq_some_iff.mp H
       obtain ⟨t251, A70, H⟩ := H;try dsimp only at H
       have A7 := Z0.mk A70;clear A70;replace H := Option.bind_eq_some_iff.mp H
       obtain ⟨t252, A80, H⟩ := H;try dsimp only at H
       have A8 := Z0.mk A80;clear A80;replace H := Option.bind_eq_some_iff.mp H
       obtain ⟨t253, A90, H⟩ := H;try dsimp only at H
       have A9 := Z0.mk A90;clear A90;replace H := Option.bind_eq_some_iff.mp H
       obtain ⟨t254, A100, H⟩ := H;try dsimp only at H
       have A10 := Z0.mk A100;clear A100;replace H := Option.bind_eq_some_iff.mp H
       obtain ⟨t255, A110, H⟩ := H;try dsimp only at H
       have A11 := Z0.mk A110;clear A110;obtain ⟨y256, hy256⟩ : ∃ y_ : List Int, y_ = (([t252, t253, t254, t255] : List Int)) := ⟨_, rfl⟩;replace H : ((hang_first.f k1 y256).bind fun t259 => (if t259 = 0 then (hang_CheckTwines.l0 k1 l0 l0 (l0.length : Int) (wrap64 (x12_1 + 1))) else (some t259))) = some r := by first | (rw [hy256]; with_reducible exact H) | (have H2_ := (Option.bind_some _ _).symm.trans H; rw [hy256]; with_reducible exact H2_) | (have H2_ := (Option.bind_some _ _).symm.trans H; with_reducible exact H2_) | with_reducible exact H | (rw [hy256]; exact H) | exact H
       have Ny256 := Z0.mk hy256;clear hy256;replace H := Option.bind_eq_some_iff.mp H
       obtain ⟨t259, A120, H⟩ := H;try dsimp only at H
       have A12 := Z0.mk A120;clear A120;by_cases c13 : t259 = 0
       ·rw [if_pos c13] at H;have c13b0 : (t259 == 0) = true := beq_iff_eq.mpr c13;have c13b1 : (t259 != 0) = false := bne_eq_false_iff_eq.mpr c13;clear c13;have H' := Z0.mk H;clear H;have p248 : 0 ≤ (x12_1 : Int) := of_decide_eq_true (by first | (with_reducible assumption) | assumption);have q248 : x12_1 < (l0.length : Int) := of_decide_eq_true (by first | (with_reducible assumption) | assumption);obtain ⟨ad248, e248, hx248_0, hx248_1, hx248_2⟩ := at_T132 HR0.out x12_1 p248 q248;cases e248;replace hx248_0 := (HB.out.cell (World.block_lt_of_cell? w _ hx248_0)).trans hx248_0
        replace hx248_1 := (HB.out.cell (World.block_lt_of_cell? w _ hx248_1)).trans hx248_1
        replace hx248_2 := (HB.out.cell (World.block_lt_of_cell? w _ hx248_2)).trans hx248_2
        replace p248 := eq_true p248
        replace q248 := eq_true q248
        have hsc_ := eq_true (show x12_1 ≤ (c0 : Int) by have h1_ := HC0.out; have h2_ := of_eq_true q248; omega);try go_wp2_with (first | ((with_reducible refine gtD (N := 4) rfl ?_); refine bxE ?hg (N := 4) ?hd (cs := #[.string (⟨#[]⟩ : ByteArray), .int .i64 0, .int .i64 0]) (t := 132) ?hr ?_; (case hd => rfl); (case hg => rfl); (case hr => first | (go_simp; done) | (go_simp; rfl)); intro gb249 hg w14 hbox hb; have n0_ := Z0.mk (bwT (by repeat (first | (with_reducible first | exact HB.out | apply bwA | apply bwN | apply bw1) | exact HB.out)) hb); have n1_ := Z0.mk (hbox); have n2_ := Z0.mk ((by rw [hg]; exact (bwZ (by repeat (first | (with_reducible first | exact HB.out | apply bwA | apply bwN | apply bw1) | exact HB.out))) : w.heap.size ≤ gb249)); have n3_ := Z0.mk ((by rw [hg]; exact (bwZ (by repeat (first | (with_reducible first | exact HB.out | apply bwA | apply bwN | apply bw1) | exact HB.out))) : w.heap.size ≤ gb249)); clear HB; have HB := n0_; have BK249 := n1_; have GW249 := n2_; have GE249 := n3_; clear n0_ n1_ n2_ n3_; clear hb hbox hg; have hcz15_0 : w14.cell? ⟨gb249, 0, none⟩ = some (.string (⟨#[]⟩ : ByteArray)) := (bkC BK249.out 0).trans rfl; have hcz15_1 : w14.cell? ⟨gb249, 1, none⟩ = some (.int .i64 0) := (bkC BK249.out 1).trans rfl; have hcz15_2 : w14.cell? ⟨gb249, 2, none⟩ = some (.int .i64 0) := (bkC BK249.out 2).trans rfl; have hfz15_0 := bkZ BK249.out 0; have hfz15_1 := bkZ BK249.out 1; have hfz15_2 := bkZ BK249.out 2) | (go_at_call 90; (with_reducible refine (hang_again.calls k1 _ _ l0 x12_1 ((rd_T132 l0 x12_1).f0) ((rd_T132 l0 x12_1).f1) ((rd_T132 l0 x12_1).f2) t250 _ gb249 ?side1 ?side2 ?sideA ?sideB ?sideC A6.out).mono ?_); (case side1 => exact Kd.C_below HR0.out (by repeat (first | (with_reducible first | exact HB.out | apply bwA | apply bwN | apply bw1 | refine bwS ?_ GE249.out) | exact HB.out))); (case side2 => exact HC0.out); (case sideA => exact of_eq_true p248); (case sideB => have h_ := of_eq_true q248; omega); (case sideC => exact (by (with_reducible repeat (first | refine bkN ?_ _ | refine bkD ?_ | refine bkA ?_ _)); refine bkP (cs := #[.string ((rd_T132 l0 x12_1).f0), .int .i64 ((rd_T132 l0 x12_1).f1), .int .i64 0]) ?_ 2 _ rfl; (with_reducible repeat (first | refine bkN ?_ _ | refine bkD ?_ | refine bkA ?_ _)); refine bkP (cs := #[.string ((rd_T132 l0 x12_1).f0), .int .i64 0, .int .i64 0]) ?_ 1 _ rfl; (with_reducible repeat (first | refine bkN ?_ _ | refine bkD ?_ | refine bkA ?_ _)); refine bkP (cs := #[.string (⟨#[]⟩ : ByteArray), .int .i64 0, .int .i64 0]) ?_ 0 _ rfl; (with_reducible repeat (first | refine bkN ?_ _ | refine bkD ?_ | refine bkA ?_ _)); exact BK249.out)); rintro e w16 ⟨rfl, hb⟩; have n0_ := Z0.mk (bkB (g := gb249) (o := .cells #[.string ((rd_T132 l0 x12_1).f0), .int .i64 ((rd_T132 l0 x12_1).f1), .int .i64 ((rd_T132 l0 x12_1).f2)] 132 (0, 0)) (by (with_reducible repeat (first | refine bkN ?_ _ | refine bkD ?_ | refine bkA ?_ _)); refine bkP (cs := #[.string ((rd_T132 l0 x12_1).f0), .int .i64 ((rd_T132 l0 x12_1).f1), .int .i64 0]) ?_ 2 _ rfl; (with_reducible repeat (first | refine bkN ?_ _ | refine bkD ?_ | refine bkA ?_ _)); refine bkP (cs := #[.string ((rd_T132 l0 x12_1).f0), .int .i64 0, .int .i64 0]) ?_ 1 _ rfl; (with_reducible repeat (first | refine bkN ?_ _ | refine bkD ?_ | refine bkA ?_ _)); refine bkP (cs := #[.string (⟨#[]⟩ : ByteArray), .int .i64 0, .int .i64 0]) ?_ 0 _ rfl; (with_reducible repeat (first | refine bkN ?_ _ | refine bkD ?_ | refine bkA ?_ _)); exact BK249.out) hb); have n1_ := Z0.mk (bwT (by repeat (first | (with_reducible first | exact HB.out | apply bwA | apply bwN | apply bw1 | refine bwS ?_ GE249.out) | exact HB.out)) hb); clear BK249 HB; have BK249 := n0_; have HB := n1_; clear n0_ n1_; (try clear hb); (try clear hb2); (try clear hk); (try clear hi)))
        have n0_ := Z0.mk (bkD BK249.out);have n1_ := Z0.mk (bw1 HB.out);clear BK249 HB;have BK249 := n0_;have HB := n1_;clear n0_ n1_;refine start_ (n := 16) (S := fun w' => w'.cell? ⟨gb249, 0, none⟩ = some (.string ((rd_T132 l0 x12_1).f0)) ∧ w'.cell? ⟨gb249, 1, none⟩ = some (.int .i64 ((rd_T132 l0 x12_1).f1)) ∧ w'.cell? ⟨gb249, 2, none⟩ = some (.int .i64 ((rd_T132 l0 x12_1).f2))) (ds := []) #[false, false, false, false, false, false, false, false, false, false, false, false, false, false, false, false] (by kernel_rfl) rfl rfl ⟨(bkC BK249.out 0).trans rfl, (bkC BK249.out 1).trans rfl, (bkC BK249.out 2).trans rfl⟩ (fun hHd => ?_); refine with_tabW hang_CheckTwines.tab7 hang_CheckTwines.bits7 (fun HT_ HW_ => ?_);generalize w16.drew = w17 at BK249 HB hHd ⊢;refine pure_ (i := 0) (N := some 22) (v := ?_) (a' := ?_) #[true, false, false, false, false, false, false, false, false, false, false, false, false, false, false, false] rfl rfl (any_of HT_.out (by kernel_rfl)) (fun _ _ _ h => h) (Or.inl ⟨by rfl, ?_⟩) ?_ ?_;rotate_left; (intro w'; go_simp; with_reducible rfl); rotate_left; (simp only [Act.put, List.setIfInBounds_toArray, List.set_cons_zero, List.set_cons_succ, i64_w, i32_w]; rfl);refine pure_ (i := 5) (N := some 27) (v := ?_) (a' := ?_) #[true, false, false, false, false, true, false, false, false, false, false, false, false, false, false, false] rfl rfl (any_of HT_.out (by kernel_rfl)) (fun _ _ _ h => h) (Or.inl ⟨by rfl, ?_⟩) ?_ ?_;rotate_left; (intro w'; go_simp; with_reducible rfl); rotate_left; (simp only [Act.put, List.setIfInBounds_toArray, List.set_cons_zero, List.set_cons_succ, i64_w, i32_w]; rfl);refine pure_ (i := 7) (N := some 29) (v := ?_) (a' := ?_) #[true, false, false, false, false, true, false, true, false, false, false, false, false, false, false, false] rfl rfl (any_of HT_.out (by kernel_rfl)) (fun _ _ _ h => h) (Or.inl ⟨by rfl, ?_⟩) ?_ ?_;rotate_left; (intro w'; go_simp; with_reducible rfl); rotate_left; (simp only [Act.put, List.setIfInBounds_toArray, List.set_cons_zero, List.set_cons_succ, i64_w, i32_w]; rfl);refine pure_ (i := 10) (N := some 32) (v := ?_) (a' := ?_) #[true, false, false, false, false, true, false, true, false, false, true, false, false, false, false, false] rfl rfl (any_of HT_.out (by kernel_rfl)) (fun _ _ _ h => h) (Or.inl ⟨by rfl, ?_⟩) ?_ ?_;rotate_left; (intro w'; go_simp; with_reducible rfl); rotate_left; (simp only [Act.put, List.setIfInBounds_toArray, List.set_cons_zero, List.set_cons_succ, i64_w, i32_w]; rfl);refine take_ (i := 1) (N := some 23) (v := ?_) (a' := ?_) #[true, true, false, false, false, true, false, true, false, false, true, false, false, false, false, false] rfl rfl (take_ofW HT_.out HW_.out (by kernel_rfl)) (fun _ _ _ h => h) (Or.inl ⟨by rfl, ?_⟩) hHd ?_ ?_;rotate_left
        ·rintro w' ⟨s0, s1, s2⟩;go_simp
         with_reducible rfl
        rotate_left
        ·simp only [Act.put, List.setIfInBounds_toArray, List.set_cons_zero, List.set_cons_succ, i64_w, i32_w];rfl
        refine take_ (i := 8) (N := some 30) (v := ?_) (a' := ?_) #[true, true, false, false, false, true, false, true, true, false, true, false, false, false, false, false] rfl rfl (take_ofW HT_.out HW_.out (by kernel_rfl)) (fun _ _ _ h => h) (Or.inl ⟨by rfl, ?_⟩) hHd ?_ ?_;rotate_left
        ·rintro w' ⟨s0, s1, s2⟩;go_simp
         with_reducible rfl
        rotate_left
        ·simp only [Act.put, List.setIfInBounds_toArray, List.set_cons_zero, List.set_cons_succ, i64_w, i32_w];rfl
        refine take_ (i := 11) (N := some 33) (v := ?_) (a' := ?_) #[true, true, false, false, false, true, false, true, true, false, true, true, false, false, false, false] rfl rfl (take_ofW HT_.out HW_.out (by kernel_rfl)) (fun _ _ _ h => h) (Or.inl ⟨by rfl, ?_⟩) hHd ?_ ?_;rotate_left
        ·rintro w' ⟨s0, s1, s2⟩;go_simp
         with_reducible rfl
        rotate_left
        ·simp only [Act.put, List.setIfInBounds_toArray, List.set_cons_zero, List.set_cons_succ, i64_w, i32_w];rfl
        refine one_ (i := 2) (N := some 24) #[true, true, true, false, false, true, false, true, true, false, true, true, false, false, false, false] rfl rfl (one_of HT_.out (by kernel_rfl)) (by decide) (fun K hK => ?_);refine goes_ Tryd.func92 (by kernel_rfl) rfl #[.string ((rd_T132 l0 x12_1).f0)] (by rfl) rfl rfl (by (try simp only [List.map_toArray, List.map_cons, List.map_nil]) <;> rfl) ?_;with_reducible refine (netting_IsName.calls ((rd_T132 l0 x12_1).f0) t251 _ A7.out).mono ?_
        rintro e w18 ⟨rfl, hb⟩;refine ⟨_, rfl, ?_⟩;have n0_ := Z0.mk (bkB (g := gb249) (o := .cells #[.string ((rd_T132 l0 x12_1).f0), .int .i64 ((rd_T132 l0 x12_1).f1), .int .i64 ((rd_T132 l0 x12_1).f2)] 132 (0, 0)) (by (with_reducible repeat (first | refine bkN ?_ _ | refine bkD ?_ | refine bkA ?_ _)); exact BK249.out) hb);have n1_ := Z0.mk (bwT (by repeat (first | (with_reducible first | exact HB.out | apply bwA | apply bwN | apply bw1 | refine bwS ?_ GE249.out) | exact HB.out)) hb);clear BK249 HB;have BK249 := n0_;have HB := n1_;clear n0_ n1_;(try clear hb)
        (try clear hb2)
        (try clear hk)
        (try clear hi)
        refine hK.out _ _ ⟨(bkC BK249.out 0).trans rfl, (bkC BK249.out 1).trans rfl, (bkC BK249.out 2).trans rfl⟩ (fun hHd => ?_);clear hK K;refine norm_ (a' := ?_) ?_ ?_;rotate_left
        ·show Act.put _ (some 24) _ = _
         simp only [Act.put, List.setIfInBounds_toArray, List.set_cons_zero, List.set_cons_succ, i64_w, i32_w];rfl
        refine pure_ (i := 3) (N := some 25) (v := ?_) (a' := ?_) #[true, true, true, true, false, true, false, true, true, false, true, true, false, false, false, false] rfl rfl (any_of HT_.out (by kernel_rfl)) (fun _ _ _ h => h) (Or.inl ⟨by rfl, ?_⟩) ?_ ?_;rotate_left; (intro w'; go_simp; with_reducible rfl); rotate_left; (simp only [Act.put, List.setIfInBounds_toArray, List.set_cons_zero, List.set_cons_succ, i64_w, i32_w]; rfl);refine one_ (i := 4) (N := some 26) #[true, true, true, true, true, true, false, true, true, false, true, true, false, false, false, false] rfl rfl (one_of HT_.out (by kernel_rfl)) (by decide) (fun K hK => ?_);refine goes_ Tryd.func74 (by kernel_rfl) rfl #[.bool (!t251), .int .i64 8] (by rfl) rfl rfl (by (try simp only [List.map_toArray, List.map_cons, List.map_nil]) <;> rfl) ?_;with_reducible refine (hang_when.calls (!t251) 8 t252 _ A8.out).mono ?_
        rintro e w' ⟨rfl, ⟨nd, rfl⟩⟩;refine ⟨_, rfl, ?_⟩;refine hK.out _ _ ⟨(bkC BK249.out 0).trans rfl, (bkC BK249.out 1).trans rfl, (bkC BK249.out 2).trans rfl⟩ (fun hHd => ?_);clear hK K;refine norm_ (a' := ?_) ?_ ?_;rotate_left
        ·show Act.put _ (some 26) _ = _
         simp only [Act.put, List.setIfInBounds_toArray, List.set_cons_zero, List.set_cons_succ, i64_w, i32_w];rfl
        refine one_ (i := 6) (N := some 28) #[true, true, true, true, true, true, true, true, true, false, true, true, false, false, false, false] rfl rfl (one_of HT_.out (by kernel_rfl)) (by decide) (fun K hK => ?_);refine goes_ Tryd.func74 (by kernel_rfl) rfl #[.bool t250, .int .i64 9] (by rfl) rfl rfl (by (try simp only [List.map_toArray, List.map_cons, List.map_nil]) <;> rfl) ?_;with_reducible refine (hang_when.calls t250 9 t253 _ A9.out).mono ?_
        rintro e w' ⟨rfl, ⟨nd, rfl⟩⟩;refine ⟨_, rfl, ?_⟩;refine hK.out _ _ ⟨(bkC BK249.out 0).trans rfl, (bkC BK249.out 1).trans rfl, (bkC BK249.out 2).trans rfl⟩ (fun hHd => ?_);clear hK K;refine norm_ (a' := ?_) ?_ ?_;rotate_left
        ·show Act.put _ (some 28) _ = _
         simp only [Act.put, List.setIfInBounds_toArray, List.set_cons_zero, List.set_cons_succ, i64_w, i32_w];rfl
        refine one_ (i := 9) (N := some 31) #[true, true, true, true, true, true, true, true, true, true, true, true, false, false, false, false] rfl rfl (one_of HT_.out (by kernel_rfl)) (by decide) (fun K hK => ?_);refine goes_ Tryd.func73 (by kernel_rfl) rfl #[.int .i64 ((rd_T132 l0 x12_1).f1), .int .i64 1, .int .i64 100000] (by rfl) rfl rfl (by (try simp only [List.map_toArray, List.map_cons, List.map_nil]) <;> rfl) ?_;with_reducible refine (hang_within.calls ((rd_T132 l0 x12_1).f1) 1 100000 t254 _ A10.out).mono ?_
        rintro e w' ⟨rfl, ⟨nd, rfl⟩⟩;refine ⟨_, rfl, ?_⟩;refine hK.out _ _ ⟨(bkC BK249.out 0).trans rfl, (bkC BK249.out 1).trans rfl, (bkC BK249.out 2).trans rfl⟩ (fun hHd => ?_);clear hK K;refine norm_ (a' := ?_) ?_ ?_;rotate_left
        ·show Act.put _ (some 31) _ = _
         simp only [Act.put, List.setIfInBounds_toArray, List.set_cons_zero, List.set_cons_succ, i64_w, i32_w];rfl
        refine one_ (i := 12) (N := some 34) #[true, true, true, true, true, true, true, true, true, true, true, true, true, false, false, false] rfl rfl (one_of HT_.out (by kernel_rfl)) (by decide) (fun K hK => ?_);refine goes_ Tryd.func73 (by kernel_rfl) rfl #[.int .i64 ((rd_T132 l0 x12_1).f2), .int .i64 1, .int .i64 100] (by rfl) rfl rfl (by (try simp only [List.map_toArray, List.map_cons, List.map_nil]) <;> rfl) ?_;with_reducible refine (hang_within.calls ((rd_T132 l0 x12_1).f2) 1 100 t255 _ A11.out).mono ?_
        rintro e w' ⟨rfl, ⟨nd, rfl⟩⟩;refine ⟨_, rfl, ?_⟩;refine hK.out _ _ ⟨(bkC BK249.out 0).trans rfl, (bkC BK249.out 1).trans rfl, (bkC BK249.out 2).trans rfl⟩ (fun hHd => ?_);clear hK K;refine norm_ (a' := ?_) ?_ ?_;rotate_left
        ·show Act.put _ (some 34) _ = _
         simp only [Act.put, List.setIfInBounds_toArray, List.set_cons_zero, List.set_cons_succ, i64_w, i32_w];rfl
        refine one_ (i := 13) (N := some 35) #[true, true, true, true, true, true, true, true, true, true, true, true, true, true, false, false] rfl rfl (one_of HT_.out (by kernel_rfl)) (by decide) (fun K hK => ?_);refine Kd.R_lit_step (Kd.int .i64) _ 26 ?hg (N := 35) ?hd (xs := ([t252, t253, t254, t255] : List Int)) (inner := [.int .i64 t252, .int .i64 t253, .int .i64 t254, .int .i64 t255]) (ok := fun _ => True) (okp := fun _ => True) ?hr ?hp (fun _ hk => hk) trivial (Below.refl _ _) (Nat.le_refl _) (by simp) ?_; (case hd => rfl); (case hg => rfl); (case hr => first | (go_simp; done) | (go_simp; rfl)); (case hp => exact (Reps.one (show Kd.M (Kd.int .i64) _ _ _ t252 [.int .i64 t252] from rfl) (Reps.one (show Kd.M (Kd.int .i64) _ _ _ t253 [.int .i64 t253] from rfl) (Reps.one (show Kd.M (Kd.int .i64) _ _ _ t254 [.int .i64 t254] from rfl) (Reps.one (show Kd.M (Kd.int .i64) _ _ _ t255 [.int .i64 t255] from rfl) (Reps.none _ _))))));intro v257 w19 ho20 hb hg_ hnew_;clear hg_ hnew_;(first | rw [← Ny256.out] at ho20 | (simp only [Int.reduceToNat] at ho20; rw [← Ny256.out] at ho20))
        have n0_ := Z0.mk (Kd.R_lower ho20 (bwZ (by repeat (first | (with_reducible first | exact HB.out | apply bwA | apply bwN | apply bw1 | refine bwS ?_ GE249.out) | exact HB.out))));have n1_ := Z0.mk (bkB (g := gb249) (o := .cells #[.string ((rd_T132 l0 x12_1).f0), .int .i64 ((rd_T132 l0 x12_1).f1), .int .i64 ((rd_T132 l0 x12_1).f2)] 132 (0, 0)) (by (with_reducible repeat (first | refine bkN ?_ _ | refine bkD ?_ | refine bkA ?_ _)); exact BK249.out) hb);have n2_ := Z0.mk (bwT (by repeat (first | (with_reducible first | exact HB.out | apply bwA | apply bwN | apply bw1 | refine bwS ?_ GE249.out) | exact HB.out)) hb);clear BK249 HB;have HO258 := n0_;have BK249 := n1_;have HB := n2_;clear n0_ n1_ n2_;clear hb ho20;obtain ⟨Ao21, co21, eo21⟩ := Kd.R_slice HO258.out;(first | subst eo21 | (injection eo21 with f1_ f2_ f3_; have f4_ := f1_.symm; have f5_ := f3_.symm; clear f1_ f2_ f3_; subst f4_; subst f5_))
        refine hK.out _ _ ⟨(bkC BK249.out 0).trans rfl, (bkC BK249.out 1).trans rfl, (bkC BK249.out 2).trans rfl⟩ (fun hHd => ?_);clear hK K;refine norm_ (a' := ?_) ?_ ?_;rotate_left
        ·show Act.put _ (some 35) _ = _
         simp only [Act.put, List.setIfInBounds_toArray, List.set_cons_zero, List.set_cons_succ, i64_w, i32_w];rfl
        refine one_ (i := 14) (N := some 36) #[true, true, true, true, true, true, true, true, true, true, true, true, true, true, true, false] rfl rfl (one_of HT_.out (by kernel_rfl)) (by decide) (fun K hK => ?_);refine goes_ Tryd.func72 (by kernel_rfl) rfl #[.slice Ao21 y256.length co21] (by rfl) rfl rfl (by (try simp only [List.map_toArray, List.map_cons, List.map_nil]) <;> rfl) ?_;with_reducible refine (hang_first.calls k1 _ _ y256 t259 _ ?side1 ?side2 A12.out).mono ?_
        (case side1 => repeat (first | exact (Kd.R_reads' HO258.out).2.2 | (with_reducible refine Kd.C_alloc ?_ _) | (with_reducible refine Kd.C_drewN ?_ _) | (with_reducible refine Kd.C_drew ?_)))
        (case side2 => exact (Kd.R_reads' HO258.out).2.1)
        rintro e w' ⟨rfl, ⟨nd, rfl⟩⟩;refine ⟨_, rfl, ?_⟩;refine hK.out _ _ ⟨(bkC BK249.out 0).trans rfl, (bkC BK249.out 1).trans rfl, (bkC BK249.out 2).trans rfl⟩ (fun hHd => ?_);clear hK K;refine norm_ (a' := ?_) ?_ ?_;rotate_left
        ·show Act.put _ (some 36) _ = _
         simp only [Act.put, List.setIfInBounds_toArray, List.set_cons_zero, List.set_cons_succ, i64_w, i32_w];rfl
        refine pure_ (i := 15) (N := some 6) (v := ?_) (a' := ?_) #[true, true, true, true, true, true, true, true, true, true, true, true, true, true, true, true] rfl rfl (any_of HT_.out (by kernel_rfl)) (fun _ _ _ h => h) (Or.inl ⟨by rfl, ?_⟩) ?_ ?_;rotate_left; (intro w'; go_simp; with_reducible rfl); rotate_left; (simp only [Act.put, List.setIfInBounds_toArray, List.set_cons_zero, List.set_cons_succ, i64_w, i32_w]; rfl);refine done_ (done_of HT_.out (by kernel_rfl)) ?_;try go_wp2
        go_roundg k1
        case measure => have := HK1.out; omega
        case rel => exact ⟨(wrap64 (x12_1 + 1)), (by first | rfl | (simp; done) | (simp [*]; done)), H', ⟨by have := HK1.out; omega⟩, ⟨by repeat (first | (with_reducible first | exact HB.out | apply bwA | apply bwN | apply bw1 | refine bwS ?_ GE249.out) | exact HB.out)⟩⟩
       ·rw [if_neg c13] at H;have c13b0 : (t259 == 0) = false := beq_eq_false_iff_ne.mpr c13;have c13b1 : (t259 != 0) = true := bne_iff_ne.mpr c13;obtain rfl := Option.some.inj H;have p248 : 0 ≤ (x12_1 : Int) := of_decide_eq_true (by first | (with_reducible assumption) | assumption);have q248 : x12_1 < (l0.length : Int) := of_decide_eq_true (by first | (with_reducible assumption) | assumption);obtain ⟨ad248, e248, hx248_0, hx248_1, hx248_2⟩ := at_T132 HR0.out x12_1 p248 q248;cases e248;replace hx248_0 := (HB.out.cell (World.block_lt_of_cell? w _ hx248_0)).trans hx248_0
        replace hx248_1 := (HB.out.cell (World.block_lt_of_cell? w _ hx248_1)).trans hx248_1
        replace hx248_2 := (HB.out.cell (World.block_lt_of_cell? w _ hx248_2)).trans hx248_2
        replace p248 := eq_true p248
        replace q248 := eq_true q248
        have hsc_ := eq_true (show x12_1 ≤ (c0 : Int) by have h1_ := HC0.out; have h2_ := of_eq_true q248; omega);try go_wp2_with (first | ((with_reducible refine gtD (N := 4) rfl ?_); refine bxE ?hg (N := 4) ?hd (cs := #[.string (⟨#[]⟩ : ByteArray), .int .i64 0, .int .i64 0]) (t := 132) ?hr ?_; (case hd => rfl); (case hg => rfl); (case hr => first | (go_simp; done) | (go_simp; rfl)); intro gb249 hg w22 hbox hb; have n0_ := Z0.mk (bwT (by repeat (first | (with_reducible first | exact HB.out | apply bwA | apply bwN | apply bw1) | exact HB.out)) hb); have n1_ := Z0.mk (hbox); have n2_ := Z0.mk ((by rw [hg]; exact (bwZ (by repeat (first | (with_reducible first | exact HB.out | apply bwA | apply bwN | apply bw1) | exact HB.out))) : w.heap.size ≤ gb249)); have n3_ := Z0.mk ((by rw [hg]; exact (bwZ (by repeat (first | (with_reducible first | exact HB.out | apply bwA | apply bwN | apply bw1) | exact HB.out))) : w.heap.size ≤ gb249)); clear HB; have HB := n0_; have BK249 := n1_; have GW249 := n2_; have GE249 := n3_; clear n0_ n1_ n2_ n3_; clear hb hbox hg; have hcz23_0 : w22.cell? ⟨gb249, 0, none⟩ = some (.string (⟨#[]⟩ : ByteArray)) := (bkC BK249.out 0).trans rfl; have hcz23_1 : w22.cell? ⟨gb249, 1, none⟩ = some (.int .i64 0) := (bkC BK249.out 1).trans rfl; have hcz23_2 : w22.cell? ⟨gb249, 2, none⟩ = some (.int .i64 0) := (bkC BK249.out 2).trans rfl; have hfz23_0 := bkZ BK249.out 0; have hfz23_1 := bkZ BK249.out 1; have hfz23_2 := bkZ BK249.out 2) | (go_at_call 90; (with_reducible refine (hang_again.calls k1 _ _ l0 x12_1 ((rd_T132 l0 x12_1).f0) ((rd_T132 l0 x12_1).f1) ((rd_T132 l0 x12_1).f2) t250 _ gb249 ?side1 ?side2 ?sideA ?sideB ?sideC A6.out).mono ?_); (case side1 => exact Kd.C_below HR0.out (by repeat (first | (with_reducible first | exact HB.out | apply bwA | apply bwN | apply bw1 | refine bwS ?_ GE249.out) | exact HB.out))); (case side2 => exact HC0.out); (case sideA => exact of_eq_true p248); (case sideB => have h_ := of_eq_true q248; omega); (case sideC => exact (by (with_reducible repeat (first | refine bkN ?_ _ | refine bkD ?_ | refine bkA ?_ _)); refine bkP (cs := #[.string ((rd_T132 l0 x12_1).f0), .int .i64 ((rd_T132 l0 x12_1).f1), .int .i64 0]) ?_ 2 _ rfl; (with_reducible repeat (first | refine bkN ?_ _ | refine bkD ?_ | refine bkA ?_ _)); refine bkP (cs := #[.string ((rd_T132 l0 x12_1).f0), .int .i64 0, .int .i64 0]) ?_ 1 _ rfl; (with_reducible repeat (first | refine bkN ?_ _ | refine bkD ?_ | refine bkA ?_ _)); refine bkP (cs := #[.string (⟨#[]⟩ : ByteArray), .int .i64 0, .int .i64 0]) ?_ 0 _ rfl; (with_reducible repeat (first | refine bkN ?_ _ | refine bkD ?_ | refine bkA ?_ _)); exact BK249.out)); rintro e w24 ⟨rfl, hb⟩; have n0_ := Z0.mk (bkB (g := gb249) (o := .cells #[.string ((rd_T132 l0 x12_1).f0), .int .i64 ((rd_T132 l0 x12_1).f1), .int .i64 ((rd_T132 l0 x12_1).f2)] 132 (0, 0)) (by (with_reducible repeat (first | refine bkN ?_ _ | refine bkD ?_ | refine bkA ?_ _)); refine bkP (cs := #[.string ((rd_T132 l0 x12_1).f0), .int .i64 ((rd_T132 l0 x12_1).f1), .int .i64 0]) ?_ 2 _ rfl; (with_reducible repeat (first | refine bkN ?_ _ | refine bkD ?_ | refine bkA ?_ _)); refine bkP (cs := #[.string ((rd_T132 l0 x12_1).f0), .int .i64 0, .int .i64 0]) ?_ 1 _ rfl; (with_reducible repeat (first | refine bkN ?_ _ | refine bkD ?_ | refine bkA ?_ _)); refine bkP (cs := #[.string (⟨#[]⟩ : ByteArray), .int .i64 0, .int .i64 0]) ?_ 0 _ rfl; (with_reducible repeat (first | refine bkN ?_ _ | refine bkD ?_ | refine bkA ?_ _)); exact BK249.out) hb); have n1_ := Z0.mk (bwT (by repeat (first | (with_reducible first | exact HB.out | apply bwA | apply bwN | apply bw1 | refine bwS ?_ GE249.out) | exact HB.out)) hb); clear BK249 HB; have BK249 := n0_; have HB := n1_; clear n0_ n1_; (try clear hb); (try clear hb2); (try clear hk); (try clear hi)))
        have n0_ := Z0.mk (bkD BK249.out);have n1_ := Z0.mk (bw1 HB.out);clear BK249 HB;have BK249 := n0_;have HB := n1_;clear n0_ n1_;refine start_ (n := 16) (S := fun w' => w'.cell? ⟨gb249, 0, none⟩ = some (.string ((rd_T132 l0 x12_1).f0)) ∧ w'.cell? ⟨gb249, 1, none⟩ = some (.int .i64 ((rd_T132 l0 x12_1).f1)) ∧ w'.cell? ⟨gb249, 2, none⟩ = some (.int .i64 ((rd_T132 l0 x12_1).f2))) (ds := []) #[false, false, false, false, false, false, false, false, false, false, false, false, false, false, false, false] (by kernel_rfl) rfl rfl ⟨(bkC BK249.out 0).trans rfl, (bkC BK249.out 1).trans rfl, (bkC BK249.out 2).trans rfl⟩ (fun hHd => ?_); refine with_tabW hang_CheckTwines.tab7 hang_CheckTwines.bits7 (fun HT_ HW_ => ?_);generalize w24.drew = w25 at BK249 HB hHd ⊢;refine pure_ (i := 0) (N := some 22) (v := ?_) (a' := ?_) #[true, false, false, false, false, false, false, false, false, false, false, false, false, false, false, false] rfl rfl (any_of HT_.out (by kernel_rfl)) (fun _ _ _ h => h) (Or.inl ⟨by rfl, ?_⟩) ?_ ?_;rotate_left; (intro w'; go_simp; with_reducible rfl); rotate_left; (simp only [Act.put, List.setIfInBounds_toArray, List.set_cons_zero, List.set_cons_succ, i64_w, i32_w]; rfl);refine pure_ (i := 5) (N := some 27) (v := ?_) (a' := ?_) #[true, false, false, false, false, true, false, false, false, false, false, false, false, false, false, false] rfl rfl (any_of HT_.out (by kernel_rfl)) (fun _ _ _ h => h) (Or.inl ⟨by rfl, ?_⟩) ?_ ?_;rotate_left; (intro w'; go_simp; with_reducible rfl); rotate_left; (simp only [Act.put, List.setIfInBounds_toArray, List.set_cons_zero, List.set_cons_succ, i64_w, i32_w]; rfl);refine pure_ (i := 7) (N := some 29) (v := ?_) (a' := ?_) #[true, false, false, false, false, true, false, true, false, false, false, false, false, false, false, false] rfl rfl (any_of HT_.out (by kernel_rfl)) (fun _ _ _ h => h) (Or.inl ⟨by rfl, ?_⟩) ?_ ?_;rotate_left; (intro w'; go_simp; with_reducible rfl); rotate_left; (simp only [Act.put, List.setIfInBounds_toArray, List.set_cons_zero, List.set_cons_succ, i64_w, i32_w]; rfl);refine pure_ (i := 10) (N := some 32) (v := ?_) (a' := ?_) #[true, false, false, false, false, true, false, true, false, false, true, false, false, false, false, false] rfl rfl (any_of HT_.out (by kernel_rfl)) (fun _ _ _ h => h) (Or.inl ⟨by rfl, ?_⟩) ?_ ?_;rotate_left; (intro w'; go_simp; with_reducible rfl); rotate_left; (simp only [Act.put, List.setIfInBounds_toArray, List.set_cons_zero, List.set_cons_succ, i64_w, i32_w]; rfl);refine take_ (i := 1) (N := some 23) (v := ?_) (a' := ?_) #[true, true, false, false, false, true, false, true, false, false, true, false, false, false, false, false] rfl rfl (take_ofW HT_.out HW_.out (by kernel_rfl)) (fun _ _ _ h => h) (Or.inl ⟨by rfl, ?_⟩) hHd ?_ ?_;rotate_left
        ·rintro w' ⟨s0, s1, s2⟩;go_simp
         with_reducible rfl
        rotate_left
        ·simp only [Act.put, List.setIfInBounds_toArray, List.set_cons_zero, List.set_cons_succ, i64_w, i32_w];rfl
        refine take_ (i := 8) (N := some 30) (v := ?_) (a' := ?_) #[true, true, false, false, false, true, false, true, true, false, true, false, false, false, false, false] rfl rfl (take_ofW HT_.out HW_.out (by kernel_rfl)) (fun _ _ _ h => h) (Or.inl ⟨by rfl, ?_⟩) hHd ?_ ?_;rotate_left
        ·rintro w' ⟨s0, s1, s2⟩;go_simp
         with_reducible rfl
        rotate_left
        ·simp only [Act.put, List.setIfInBounds_toArray, List.set_cons_zero, List.set_cons_succ, i64_w, i32_w];rfl
        refine take_ (i := 11) (N := some 33) (v := ?_) (a' := ?_) #[true, true, false, false, false, true, false, true, true, false, true, true, false, false, false, false] rfl rfl (take_ofW HT_.out HW_.out (by kernel_rfl)) (fun _ _ _ h => h) (Or.inl ⟨by rfl, ?_⟩) hHd ?_ ?_;rotate_left
        ·rintro w' ⟨s0, s1, s2⟩;go_simp
         with_reducible rfl
        rotate_left
        ·simp only [Act.put, List.setIfInBounds_toArray, List.set_cons_zero, List.set_cons_succ, i64_w, i32_w];rfl
        refine one_ (i := 2) (N := some 24) #[true, true, true, false, false, true, false, true, true, false, true, true, false, false, false, false] rfl rfl (one_of HT_.out (by kernel_rfl)) (by decide) (fun K hK => ?_);refine goes_ Tryd.func92 (by kernel_rfl) rfl #[.string ((rd_T132 l0 x12_1).f0)] (by rfl) rfl rfl (by (try simp only [List.map_toArray, List.map_cons, List.map_nil]) <;> rfl) ?_;with_reducible refine (netting_IsName.calls ((rd_T132 l0 x12_1).f0) t251 _ A7.out).mono ?_
        rintro e w26 ⟨rfl, hb⟩;refine ⟨_, rfl, ?_⟩;have n0_ := Z0.mk (bkB (g := gb249) (o := .cells #[.string ((rd_T132 l0 x12_1).f0), .int .i64 ((rd_T132 l0 x12_1).f1), .int .i64 ((rd_T132 l0 x12_1).f2)] 132 (0, 0)) (by (with_reducible repeat (first | refine bkN ?_ _ | refine bkD ?_ | refine bkA ?_ _)); exact BK249.out) hb);have n1_ := Z0.mk (bwT (by repeat (first | (with_reducible first | exact HB.out | apply bwA | apply bwN | apply bw1 | refine bwS ?_ GE249.out) | exact HB.out)) hb);clear BK249 HB;have BK249 := n0_;have HB := n1_;clear n0_ n1_;(try clear hb)
        (try clear hb2)
        (try clear hk)
        (try clear hi)
        refine hK.out _ _ ⟨(bkC BK249.out 0).trans rfl, (bkC BK249.out 1).trans rfl, (bkC BK249.out 2).trans rfl⟩ (fun hHd => ?_);clear hK K;refine norm_ (a' := ?_) ?_ ?_;rotate_left
        ·show Act.put _ (some 24) _ = _
         simp only [Act.put, List.setIfInBounds_toArray, List.set_cons_zero, List.set_cons_succ, i64_w, i32_w];rfl
        refine pure_ (i := 3) (N := some 25) (v := ?_) (a' := ?_) #[true, true, true, true, false, true, false, true, true, false, true, true, false, false, false, false] rfl rfl (any_of HT_.out (by kernel_rfl)) (fun _ _ _ h => h) (Or.inl ⟨by rfl, ?_⟩) ?_ ?_;rotate_left; (intro w'; go_simp; with_reducible rfl); rotate_left; (simp only [Act.put, List.setIfInBounds_toArray, List.set_cons_zero, List.set_cons_succ, i64_w, i32_w]; rfl);refine one_ (i := 4) (N := some 26) #[true, true, true, true, true, true, false, true, true, false, true, true, false, false, false, false] rfl rfl (one_of HT_.out (by kernel_rfl)) (by decide) (fun K hK => ?_);refine goes_ Tryd.func74 (by kernel_rfl) rfl #[.bool (!t251), .int .i64 8] (by rfl) rfl rfl (by (try simp only [List.map_toArray, List.map_cons, List.map_nil]) <;> rfl) ?_;with_reducible refine (hang_when.calls (!t251) 8 t252 _ A8.out).mono ?_
        rintro e w' ⟨rfl, ⟨nd, rfl⟩⟩;refine ⟨_, rfl, ?_⟩;refine hK.out _ _ ⟨(bkC BK249.out 0).trans rfl, (bkC BK249.out 1).trans rfl, (bkC BK249.out 2).trans rfl⟩ (fun hHd => ?_);clear hK K;refine norm_ (a' := ?_) ?_ ?_;rotate_left
        ·show Act.put _ (some 26) _ = _
         simp only [Act.put, List.setIfInBounds_toArray, List.set_cons_zero, List.set_cons_succ, i64_w, i32_w];rfl
        refine one_ (i := 6) (N := some 28) #[true, true, true, true, true, true, true, true, true, false, true, true, false, false, false, false] rfl rfl (one_of HT_.out (by kernel_rfl)) (by decide) (fun K hK => ?_);refine goes_ Tryd.func74 (by kernel_rfl) rfl #[.bool t250, .int .i64 9] (by rfl) rfl rfl (by (try simp only [List.map_toArray, List.map_cons, List.map_nil]) <;> rfl) ?_;with_reducible refine (hang_when.calls t250 9 t253 _ A9.out).mono ?_
        rintro e w' ⟨rfl, ⟨nd, rfl⟩⟩;refine ⟨_, rfl, ?_⟩;refine hK.out _ _ ⟨(bkC BK249.out 0).trans rfl, (bkC BK249.out 1).trans rfl, (bkC BK249.out 2).trans rfl⟩ (fun hHd => ?_);clear hK K;refine norm_ (a' := ?_) ?_ ?_;rotate_left
        ·show Act.put _ (some 28) _ = _
         simp only [Act.put, List.setIfInBounds_toArray, List.set_cons_zero, List.set_cons_succ, i64_w, i32_w];rfl
        refine one_ (i := 9) (N := some 31) #[true, true, true, true, true, true, true, true, true, true, true, true, false, false, false, false] rfl rfl (one_of HT_.out (by kernel_rfl)) (by decide) (fun K hK => ?_);refine goes_ Tryd.func73 (by kernel_rfl) rfl #[.int .i64 ((rd_T132 l0 x12_1).f1), .int .i64 1, .int .i64 100000] (by rfl) rfl rfl (by (try simp only [List.map_toArray, List.map_cons, List.map_nil]) <;> rfl) ?_;with_reducible refine (hang_within.calls ((rd_T132 l0 x12_1).f1) 1 100000 t254 _ A10.out).mono ?_
        rintro e w' ⟨rfl, ⟨nd, rfl⟩⟩;refine ⟨_, rfl, ?_⟩;refine hK.out _ _ ⟨(bkC BK249.out 0).trans rfl, (bkC BK249.out 1).trans rfl, (bkC BK249.out 2).trans rfl⟩ (fun hHd => ?_);clear hK K;refine norm_ (a' := ?_) ?_ ?_;rotate_left
        ·show Act.put _ (some 31) _ = _
         simp only [Act.put, List.setIfInBounds_toArray, List.set_cons_zero, List.set_cons_succ, i64_w, i32_w];rfl
        refine one_ (i := 12) (N := some 34) #[true, true, true, true, true, true, true, true, true, true, true, true, true, false, false, false] rfl rfl (one_of HT_.out (by kernel_rfl)) (by decide) (fun K hK => ?_);refine goes_ Tryd.func73 (by kernel_rfl) rfl #[.int .i64 ((rd_T132 l0 x12_1).f2), .int .i64 1, .int .i64 100] (by rfl) rfl rfl (by (try simp only [List.map_toArray, List.map_cons, List.map_nil]) <;> rfl) ?_;with_reducible refine (hang_within.calls ((rd_T132 l0 x12_1).f2) 1 100 t255 _ A11.out).mono ?_
        rintro e w' ⟨rfl, ⟨nd, rfl⟩⟩;refine ⟨_, rfl, ?_⟩;refine hK.out _ _ ⟨(bkC BK249.out 0).trans rfl, (bkC BK249.out 1).trans rfl, (bkC BK249.out 2).trans rfl⟩ (fun hHd => ?_);clear hK K;refine norm_ (a' := ?_) ?_ ?_;rotate_left
        ·show Act.put _ (some 34) _ = _
         simp only [Act.put, List.setIfInBounds_toArray, List.set_cons_zero, List.set_cons_succ, i64_w, i32_w];rfl
        refine one_ (i := 13) (N := some 35) #[true, true, true, true, true, true, true, true, true, true, true, true, true, true, false, false] rfl rfl (one_of HT_.out (by kernel_rfl)) (by decide) (fun K hK => ?_);refine Kd.R_lit_step (Kd.int .i64) _ 26 ?hg (N := 35) ?hd (xs := ([t252, t253, t254, t255] : List Int)) (inner := [.int .i64 t252, .int .i64 t253, .int .i64 t254, .int .i64 t255]) (ok := fun _ => True) (okp := fun _ => True) ?hr ?hp (fun _ hk => hk) trivial (Below.refl _ _) (Nat.le_refl _) (by simp) ?_; (case hd => rfl); (case hg => rfl); (case hr => first | (go_simp; done) | (go_simp; rfl)); (case hp => exact (Reps.one (show Kd.M (Kd.int .i64) _ _ _ t252 [.int .i64 t252] from rfl) (Reps.one (show Kd.M (Kd.int .i64) _ _ _ t253 [.int .i64 t253] from rfl) (Reps.one (show Kd.M (Kd.int .i64) _ _ _ t254 [.int .i64 t254] from rfl) (Reps.one (show Kd.M (Kd.int .i64) _ _ _ t255 [.int .i64 t255] from rfl) (Reps.none _ _))))));intro v257 w27 ho28 hb hg_ hnew_;clear hg_ hnew_;(first | rw [← Ny256.out] at ho28 | (simp only [Int.reduceToNat] at ho28; rw [← Ny256.out] at ho28))
        have n0_ := Z0.mk (Kd.R_lower ho28 (bwZ (by repeat (first | (with_reducible first | exact HB.out | apply bwA | apply bwN | apply bw1 | refine bwS ?_ GE249.out) | exact HB.out))));have n1_ := Z0.mk (bkB (g := gb249) (o := .cells #[.string ((rd_T132 l0 x12_1).f0), .int .i64 ((rd_T132 l0 x12_1).f1), .int .i64 ((rd_T132 l0 x12_1).f2)] 132 (0, 0)) (by (with_reducible repeat (first | refine bkN ?_ _ | refine bkD ?_ | refine bkA ?_ _)); exact BK249.out) hb);have n2_ := Z0.mk (bwT (by repeat (first | (with_reducible first | exact HB.out | apply bwA | apply bwN | apply bw1 | refine bwS ?_ GE249.out) | exact HB.out)) hb);clear BK249 HB;have HO258 := n0_;have BK249 := n1_;have HB := n2_;clear n0_ n1_ n2_;clear hb ho28;obtain ⟨Ao29, co29, eo29⟩ := Kd.R_slice HO258.out;(first | subst eo29 | (injection eo29 with f1_ f2_ f3_; have f4_ := f1_.symm; have f5_ := f3_.symm; clear f1_ f2_ f3_; subst f4_; subst f5_))
        refine hK.out _ _ ⟨(bkC BK249.out 0).trans rfl, (bkC BK249.out 1).trans rfl, (bkC BK249.out 2).trans rfl⟩ (fun hHd => ?_);clear hK K;refine norm_ (a' := ?_) ?_ ?_;rotate_left
        ·show Act.put _ (some 35) _ = _
         simp only [Act.put, List.setIfInBounds_toArray, List.set_cons_zero, List.set_cons_succ, i64_w, i32_w];rfl
        refine one_ (i := 14) (N := some 36) #[true, true, true, true, true, true, true, true, true, true, true, true, true, true, true, false] rfl rfl (one_of HT_.out (by kernel_rfl)) (by decide) (fun K hK => ?_);refine goes_ Tryd.func72 (by kernel_rfl) rfl #[.slice Ao29 y256.length co29] (by rfl) rfl rfl (by (try simp only [List.map_toArray, List.map_cons, List.map_nil]) <;> rfl) ?_;with_reducible refine (hang_first.calls k1 _ _ y256 t259 _ ?side1 ?side2 A12.out).mono ?_
        (case side1 => repeat (first | exact (Kd.R_reads' HO258.out).2.2 | (with_reducible refine Kd.C_alloc ?_ _) | (with_reducible refine Kd.C_drewN ?_ _) | (with_reducible refine Kd.C_drew ?_)))
        (case side2 => exact (Kd.R_reads' HO258.out).2.1)
        rintro e w' ⟨rfl, ⟨nd, rfl⟩⟩;refine ⟨_, rfl, ?_⟩;refine hK.out _ _ ⟨(bkC BK249.out 0).trans rfl, (bkC BK249.out 1).trans rfl, (bkC BK249.out 2).trans rfl⟩ (fun hHd => ?_);clear hK K;refine norm_ (a' := ?_) ?_ ?_;rotate_left
        ·show Act.put _ (some 36) _ = _
         simp only [Act.put, List.setIfInBounds_toArray, List.set_cons_zero, List.set_cons_succ, i64_w, i32_w];rfl
        refine pure_ (i := 15) (N := some 6) (v := ?_) (a' := ?_) #[true, true, true, true, true, true, true, true, true, true, true, true, true, true, true, true] rfl rfl (any_of HT_.out (by kernel_rfl)) (fun _ _ _ h => h) (Or.inl ⟨by rfl, ?_⟩) ?_ ?_;rotate_left; (intro w'; go_simp; with_reducible rfl); rotate_left; (simp only [Act.put, List.setIfInBounds_toArray, List.set_cons_zero, List.set_cons_succ, i64_w, i32_w]; rfl);refine done_ (done_of HT_.out (by kernel_rfl)) ?_;try go_wp2
        go_ret
        exact ⟨by first | rfl | (simp [errW_none, errW_some] <;> rfl) | (simp [*, errW_none, errW_some] <;> rfl), by repeat (first | (with_reducible first | exact HB.out | apply bwA | apply bwN | apply bw1 | refine bwS ?_ GE249.out) | exact HB.out)⟩
      ·rw [if_neg c5] at H;exact absurd H (by simp)
     ·rw [if_neg c4] at H;exact absurd H (by simp)
    ·rw [if_neg c3] at H;have c3b0 : decide (x12_1 < (l0.length : Int)) = false := decide_eq_false c3;clear c3;obtain rfl := Option.some.inj H;go_wp2
     go_ret
     exact ⟨by first | rfl | (simp [errW_none, errW_some] <;> rfl) | (simp [*, errW_none, errW_some] <;> rfl), by repeat (first | (with_reducible first | exact HB.out | apply bwA | apply bwN | apply bw1) | exact HB.out)⟩
def hang_Nearest.l0 : Nat → Int → List (S144) → List (S132) → Int → Int → Option (Int × Int)
 | 0, _, _, _, _, _ => none
 | k + 1, x1, x7, x23, x24, x25 => if x25 < x24 then (if 0 ≤ x25 then (if x25 < (x23.length : Int) then (if x7.length < 5864062014805 then (hang_Nearest.l0 k x1 (x7 ++ [(⟨mx (wrap64 (((rd_T132 x23 x25).f1) - x1)) (wrap64 (x1 - ((rd_T132 x23 x25).f1))), (rd_T132 x23 x25).f1, x25⟩ : S144)]) x23 x24 (wrap64 (x25 + 1))) else (none)) else (none)) else (none)) else ((hang_minChoice.f k x7).bind fun bt288 => (some (bt288.2.2, 0)))
def hang_Nearest.f (k : Nat) (l0 : List (S132)) (a1 : Int) : Option (Int × Int) := (hang_CheckTwines.f k l0).bind fun t276 => ((hang_within.f a1 1 100000).bind fun t277 => ((hang_when.f ((l0.length : Int) == 0) 12).bind fun t278 => ((hang_first.f k (([t276, t277, t278] : List Int))).bind fun t282 => (if t282 = 0 then (hang_Nearest.l0 k a1 ([] : List (S144)) l0 (l0.length : Int) 0) else (some (0, t282))))))
theorem hang_Nearest.mono_l : ∀ k, (∀ y0 y1 y2 y3 y4, LeO (hang_Nearest.l0 k y0 y1 y2 y3 y4) (hang_Nearest.l0 (k + 1) y0 y1 y2 y3 y4))
 | 0 => fun _ _ _ _ _ r h => by simp [hang_Nearest.l0] at h
 | k + 1 => by
  have ih0 := hang_Nearest.mono_l k
  ·intro y0 y1 y2 y3 y4;unfold hang_Nearest.l0
   repeat' first
   | (with_reducible exact ih0 _ _ _ _ _)
   | (with_reducible exact hang_CheckTwines.mono _ _)
   | (with_reducible exact hang_first.mono _ _)
   | (with_reducible exact hang_minChoice.mono _ _)
   | (with_reducible exact LeO.refl _)
   | (with_reducible exact LeO.none _)
   | (with_reducible refine LeO.ite ?_ ?_)
   | (with_reducible refine LeO.bind ?_ (fun _ => ?_))
   | exact ih0 _ _ _ _ _
   | exact hang_CheckTwines.mono _ _
   | exact hang_first.mono _ _
   | exact hang_minChoice.mono _ _
   | exact LeO.none _
   | refine LeO.ite ?_ ?_
   | refine LeO.bind ?_ (fun _ => ?_)
theorem hang_Nearest.mono : ∀ a0 a1 k, LeO (hang_Nearest.f k a0 a1) (hang_Nearest.f (k + 1) a0 a1) := by
 intro a0 a1 k
 have ih0 := hang_Nearest.mono_l k
 unfold hang_Nearest.f
 repeat' first
   | (with_reducible exact ih0 _ _ _ _ _)
   | (with_reducible exact hang_CheckTwines.mono _ _)
   | (with_reducible exact hang_first.mono _ _)
   | (with_reducible exact hang_minChoice.mono _ _)
   | (with_reducible exact LeO.refl _)
   | (with_reducible exact LeO.none _)
   | (with_reducible refine LeO.ite ?_ ?_)
   | (with_reducible refine LeO.bind ?_ (fun _ => ?_))
   | exact ih0 _ _ _ _ _
   | exact hang_CheckTwines.mono _ _
   | exact hang_first.mono _ _
   | exact hang_minChoice.mono _ _
   | exact LeO.none _
   | refine LeO.ite ?_ ?_
   | refine LeO.bind ?_ (fun _ => ?_)
set_option maxHeartbeats 8000000 in
set_option maxRecDepth 100000 in
theorem hang_Nearest.calls (k : Nat) (A0 : Option Addr) (c0 : Nat) (l0 : List (S132)) (a1 : Int) (r1 : Int) (r2 : Int) (w : World) (hr0 : Kd.C k132 w A0 l0.length l0) (hc0 : l0.length ≤ c0) (h : hang_Nearest.f k l0 a1 = some (r1, r2)) :
  Calls Tryd.prog 50 #[.slice A0 l0.length c0, .int .i64 a1] w fun e w' => e = .returned (.tuple #[.int .i64 r1, .int .i64 r2]) ∧ Below w.heap.size w w' := by
 have hu132 := Tryd.underlying132
 have hu144 := Tryd.underlying144
 have hfd_ : ∀ (x y z : Int) (w : World), (Instr.field 144 (.agg #[.int .i64 x, .int .i64 y, .int .i64 z]) 2).run Tryd.prog w = .ok (.int .i64 z) w := fun x y z w => by kernel_rfl
 have HR0 := Z0.mk hr0
 have HC0 := Z0.mk hc0
 clear hr0 hc0
 have HB := Z0.mk (Below.refl w.heap.size w)
 have H : ((hang_CheckTwines.f k l0).bind fun t276 => ((hang_within.f a1 1 100000).bind fun t277 => ((hang_when.f ((l0.length : Int) == 0) 12).bind fun t278 => ((hang_first.f k (([t276, t277, t278] : List Int))).bind fun t282 => (if t282 = 0 then (hang_Nearest.l0 k a1 ([] : List (S144)) l0 (l0.length : Int) 0) else (some (0, t282))))))) = some (r1, r2) := h
 clear h
 replace H := Option.bind_eq_some_iff.mp H
 obtain ⟨t276, A30, H⟩ := H
 try dsimp only at H
 have A3 := Z0.mk A30
 clear A30
 replace H := Option.bind_eq_some_iff.mp H
 obtain ⟨t277, A40, H⟩ := H
 try dsimp only at H
 have A4 := Z0.mk A40
 clear A40
 replace H := Option.bind_eq_some_iff.mp H
 obtain ⟨t278, A50, H⟩ := H
 try dsimp only at H
 have A5 := Z0.mk A50
 clear A50
 obtain ⟨y279, hy279⟩ : ∃ y_ : List Int, y_ = (([t276, t277, t278] : List Int)) := ⟨_, rfl⟩
 replace H : ((hang_first.f k y279).bind fun t282 => (if t282 = 0 then (hang_Nearest.l0 k a1 ([] : List (S144)) l0 (l0.length : Int) 0) else (some (0, t282)))) = some (r1, r2) := by first | (rw [hy279]; with_reducible exact H) | (have H2_ := (Option.bind_some _ _).symm.trans H; rw [hy279]; with_reducible exact H2_) | (have H2_ := (Option.bind_some _ _).symm.trans H; with_reducible exact H2_) | with_reducible exact H | (rw [hy279]; exact H) | exact H
 have Ny279 := Z0.mk hy279
 clear hy279
 replace H := Option.bind_eq_some_iff.mp H
 obtain ⟨t282, A60, H⟩ := H
 try dsimp only at H
 have A6 := Z0.mk A60
 clear A60
 by_cases c7 : t282 = 0
 ·rw [if_pos c7] at H;have c7b0 : (t282 == 0) = true := beq_iff_eq.mpr c7;have c7b1 : (t282 != 0) = false := bne_eq_false_iff_eq.mpr c7;clear c7;have H' := Z0.mk H;clear H;go_enter Tryd.func50, Tryd.ntmps50;go_wp2_with (first | ((with_reducible refine gtC (f := 54) rfl ?_); refine goesL_ (some 11) rfl rfl Tryd.func54 (by kernel_rfl) rfl #[.slice A0 l0.length c0] rfl (by (try simp only [List.map_toArray, List.map_cons, List.map_nil]) <;> rfl) ?_; (with_reducible refine (hang_CheckTwines.calls k _ _ l0 t276 _ ?side1 ?side2 A3.out).mono ?_); (case side1 => repeat (first | exact HR0.out | (with_reducible refine Kd.C_alloc ?_ _) | (with_reducible refine Kd.C_drewN ?_ _) | (with_reducible refine Kd.C_drew ?_))); (case side2 => exact HC0.out); rintro e w8 ⟨rfl, hb⟩; refine ⟨_, rfl, ?_⟩; have n0_ := Z0.mk (bwT (by repeat (first | (with_reducible first | exact HB.out | apply bwA | apply bwN | apply bw1) | exact HB.out)) hb); clear HB; have HB := n0_; clear n0_; (try clear hb); (try clear hb2); (try clear hk); (try clear hi)) | ((with_reducible refine gtC (f := 73) rfl ?_); refine goesL_ (some 13) rfl rfl Tryd.func73 (by kernel_rfl) rfl #[.int .i64 a1, .int .i64 1, .int .i64 100000] rfl (by (try simp only [List.map_toArray, List.map_cons, List.map_nil]) <;> rfl) ?_; (with_reducible refine (hang_within.calls a1 1 100000 t277 _ A4.out).mono ?_); rintro e w' ⟨rfl, ⟨nd, rfl⟩⟩; refine ⟨_, rfl, ?_⟩) | ((with_reducible refine gtC (f := 74) rfl ?_); refine goesL_ (some 17) rfl rfl Tryd.func74 (by kernel_rfl) rfl #[.bool ((l0.length : Int) == 0), .int .i64 12] rfl (by (try simp only [List.map_toArray, List.map_cons, List.map_nil]) <;> rfl) ?_; (with_reducible refine (hang_when.calls ((l0.length : Int) == 0) 12 t278 _ A5.out).mono ?_); rintro e w' ⟨rfl, ⟨nd, rfl⟩⟩; refine ⟨_, rfl, ?_⟩) | ((with_reducible refine gtD (N := 18) rfl ?_); refine Kd.R_lit (Kd.int .i64) _ 26 ?hg (N := 18) ?hd (xs := ([t276, t277, t278] : List Int)) (inner := [.int .i64 t276, .int .i64 t277, .int .i64 t278]) (ok := fun _ => True) (okp := fun _ => True) ?hr ?hp (fun _ hk => hk) trivial (Below.refl _ _) (Nat.le_refl _) (by simp) ?_; (case hd => rfl); (case hg => rfl); (case hr => first | (go_simp; done) | (go_simp; rfl)); (case hp => exact (Reps.one (show Kd.M (Kd.int .i64) _ _ _ t276 [.int .i64 t276] from rfl) (Reps.one (show Kd.M (Kd.int .i64) _ _ _ t277 [.int .i64 t277] from rfl) (Reps.one (show Kd.M (Kd.int .i64) _ _ _ t278 [.int .i64 t278] from rfl) (Reps.none _ _))))); intro v280 w9 ho10 hb hg_ hnew_; clear hg_ hnew_; (first | rw [← Ny279.out] at ho10 | (simp only [Int.reduceToNat] at ho10; rw [← Ny279.out] at ho10)); have n0_ := Z0.mk (Kd.R_lower ho10 (bwZ (by repeat (first | (with_reducible first | exact HB.out | apply bwA | apply bwN | apply bw1) | exact HB.out)))); have n1_ := Z0.mk (bwT (by repeat (first | (with_reducible first | exact HB.out | apply bwA | apply bwN | apply bw1) | exact HB.out)) hb); clear HB; have HO281 := n0_; have HB := n1_; clear n0_ n1_; clear hb ho10; obtain ⟨Ao11, co11, eo11⟩ := Kd.R_slice HO281.out; subst eo11) | ((with_reducible refine gtC (f := 72) rfl ?_); refine goesL_ (some 19) rfl rfl Tryd.func72 (by kernel_rfl) rfl #[.slice Ao11 y279.length co11] rfl (by (try simp only [List.map_toArray, List.map_cons, List.map_nil]) <;> rfl) ?_; (with_reducible refine (hang_first.calls k _ _ y279 t282 _ ?side1 ?side2 A6.out).mono ?_); (case side1 => repeat (first | exact (Kd.R_reads' HO281.out).2.2 | (with_reducible refine Kd.C_alloc ?_ _) | (with_reducible refine Kd.C_drewN ?_ _) | (with_reducible refine Kd.C_drew ?_))); (case side2 => exact (Kd.R_reads' HO281.out).2.1); rintro e w' ⟨rfl, ⟨nd, rfl⟩⟩; refine ⟨_, rfl, ?_⟩))
  go_loopg [7, 25] k (fun kq v7 v25 w' => ∃ (x7_1 : List (S144)) (x25_1 : Int), v25 = .int .i64 x25_1 ∧ Z0 (hang_Nearest.l0 kq a1 x7_1 l0 (l0.length : Int) x25_1 = some (r1, r2)) ∧ Z0 (kq ≤ k) ∧ Z0 (Kd.R k144 144 w' w.heap.size (fun _ => True) v7 x7_1) ∧ Z0 (Below w.heap.size w w'))
  case atStart => exact ⟨(([] : List (S144))), (0), (by first | rfl | (simp; done) | (simp [*]; done)), H', ⟨Nat.le_refl _⟩, ⟨by first | exact Kd.R_nil _ _ _ _ _ | exact Kd.N_nil _ _ _ _ _ | exact Kd.V_nil _ _ _ _ _ | exact Kd.Q_nil _ _ _ _ _ | exact Kd.S_nil _ _ _ _ _⟩, ⟨by repeat (first | (with_reducible first | exact HB.out | apply bwA | apply bwN | apply bw1) | exact HB.out)⟩⟩
  case round =>
   clear H';try clear p2
   try clear c5
   try clear c7
   try clear c7b0
   try clear c7b1
   obtain ⟨x7_1, x25_1, rfl, HA, HK1, HO_7, HB⟩ := hrel;cases gk with
   | zero => exact absurd HA.out (by simp [hang_Nearest.l0])
   | succ k1 =>
    have H := HA.out;clear HA;simp only [hang_Nearest.l0] at H;by_cases c12 : x25_1 < (l0.length : Int)
    ·rw [if_pos c12] at H;have c12b0 : decide (x25_1 < (l0.length : Int)) = true := decide_eq_true c12;clear c12;by_cases c13 : 0 ≤ x25_1
     ·rw [if_pos c13] at H;have c13b0 : decide (0 ≤ x25_1) = true := decide_eq_true c13;clear c13;by_cases c14 : x25_1 < (l0.length : Int)
      ·rw [if_pos c14] at H;have c14b0 : decide (x25_1 < (l0.length : Int)) = true := decide_eq_true c14;clear c14;obtain ⟨ji15, hji15⟩ : ∃ j_ : Int, (mx (wrap64 (((rd_T132 l0 x25_1).f1) - a1)) (wrap64 (a1 - ((rd_T132 l0 x25_1).f1)))) = j_ := ⟨_, rfl⟩;replace H : (if x7_1.length < 5864062014805 then (hang_Nearest.l0 k1 a1 (x7_1 ++ [(⟨ji15, (rd_T132 l0 x25_1).f1, x25_1⟩ : S144)]) l0 (l0.length : Int) (wrap64 (x25_1 + 1))) else (none)) = some (r1, r2) := by first | (rw [hji15] at H; exact H) | (simp only [hji15] at H ⊢; exact H)
       have hji15_ : (if (wrap64 (((rd_T132 l0 x25_1).f1) - a1)) < (wrap64 (a1 - ((rd_T132 l0 x25_1).f1))) then (wrap64 (a1 - ((rd_T132 l0 x25_1).f1))) else (wrap64 (((rd_T132 l0 x25_1).f1) - a1))) = ji15 := hji15;by_cases c16 : x7_1.length < 5864062014805
       ·rw [if_pos c16] at H;have LMc16 := Z0.mk c16;clear c16;obtain ⟨y285, hy285⟩ : ∃ y_ : List (S144), y_ = (x7_1 ++ [(⟨ji15, (rd_T132 l0 x25_1).f1, x25_1⟩ : S144)]) := ⟨_, rfl⟩;replace H : (hang_Nearest.l0 k1 a1 y285 l0 (l0.length : Int) (wrap64 (x25_1 + 1))) = some (r1, r2) := by first | (rw [hy285]; with_reducible exact H) | (have H2_ := (Option.bind_some _ _).symm.trans H; rw [hy285]; with_reducible exact H2_) | (have H2_ := (Option.bind_some _ _).symm.trans H; with_reducible exact H2_) | with_reducible exact H | (rw [hy285]; exact H) | exact H
        have Ny285 := Z0.mk hy285;clear hy285;have H' := Z0.mk H;clear H;have p283 : 0 ≤ (x25_1 : Int) := of_decide_eq_true (by first | (with_reducible assumption) | assumption);have q283 : x25_1 < (l0.length : Int) := of_decide_eq_true (by first | (with_reducible assumption) | assumption);obtain ⟨ad283, e283, hx283_0, hx283_1, hx283_2⟩ := at_T132 HR0.out x25_1 p283 q283;cases e283;replace hx283_0 := (HB.out.cell (World.block_lt_of_cell? w _ hx283_0)).trans hx283_0
        replace hx283_1 := (HB.out.cell (World.block_lt_of_cell? w _ hx283_1)).trans hx283_1
        replace hx283_2 := (HB.out.cell (World.block_lt_of_cell? w _ hx283_2)).trans hx283_2
        replace p283 := eq_true p283
        replace q283 := eq_true q283
        go_wp2_with (first | ((with_reducible refine gtD (N := 9) rfl ?_); refine bxE ?hg (N := 9) ?hd (cs := #[.string (⟨#[]⟩ : ByteArray), .int .i64 0, .int .i64 0]) (t := 132) ?hr ?_; (case hd => rfl); (case hg => rfl); (case hr => first | (go_simp; done) | (go_simp; rfl)); intro gb284 hg w17 hbox hb; have n0_ := Z0.mk (Kd.R_below (by (with_reducible repeat (first | apply Kd.R_alloc | apply Kd.R_drewN | apply Kd.R_drew)); exact HO_7.out) hb); have n1_ := Z0.mk (bwT (by repeat (first | (with_reducible first | exact HB.out | apply bwA | apply bwN | apply bw1) | exact HB.out)) hb); have n2_ := Z0.mk (hbox); have n3_ := Z0.mk ((by rw [hg]; exact (bwZ (by repeat (first | (with_reducible first | exact HB.out | apply bwA | apply bwN | apply bw1) | exact HB.out))) : w.heap.size ≤ gb284)); have n4_ := Z0.mk ((by rw [hg]; exact (bwZ (by repeat (first | (with_reducible first | exact HB.out | apply bwA | apply bwN | apply bw1) | exact HB.out))) : w.heap.size ≤ gb284)); clear HO_7 HB; have HO_7 := n0_; have HB := n1_; have BK284 := n2_; have GW284 := n3_; have GE284 := n4_; clear n0_ n1_ n2_ n3_ n4_; clear hb hbox hg; have hcz18_0 : w17.cell? ⟨gb284, 0, none⟩ = some (.string (⟨#[]⟩ : ByteArray)) := (bkC BK284.out 0).trans rfl; have hcz18_1 : w17.cell? ⟨gb284, 1, none⟩ = some (.int .i64 0) := (bkC BK284.out 1).trans rfl; have hcz18_2 : w17.cell? ⟨gb284, 2, none⟩ = some (.int .i64 0) := (bkC BK284.out 2).trans rfl; have hfz18_0 := bkZ BK284.out 0; have hfz18_1 := bkZ BK284.out 1; have hfz18_2 := bkZ BK284.out 2) | ((with_reducible refine gate_builtin (b := .append) (xs := #[.tmp 30, .tmp 44]) rfl ?_); at_builtin; refine Kd.R_append k144 (w0 := w) w.heap.size rfl (.tmp 30) (.tmp 44) 142 144 (.agg #[(.int .i64 0), (.int .i64 0), (.int .i64 0)]) 24 rfl Tryd.underlying142 info144 rfl (by decide) (by omega) u7 x7_1 (⟨ji15, (rd_T132 l0 x25_1).f1, x25_1⟩ : S144) [.int .i64 ji15, .int .i64 ((rd_T132 l0 x25_1).f1), .int .i64 x25_1] (fun _ => True) (fun _ => False) rfl (by first | (go_simp; done) | (go_simp; rfl)) ?aP (fun _ hk => hk.elim) ?aF ?aO ?aB ?aS ?aL ?_; (case aP => exact k144_mkM _ _ _ (⟨ji15, (rd_T132 l0 x25_1).f1, x25_1⟩ : S144)); (case aB => exact (by repeat (first | (with_reducible first | exact HB.out | apply bwA | apply bwN | apply bw1 | refine bwS ?_ GE284.out) | exact HB.out))); (case aF => exact (fun _ _ => trivial)); (case aO => exact (by (with_reducible repeat (first | apply Kd.R_alloc | apply Kd.R_drewN | apply Kd.R_drew)); exact Kd.R_mono (Kd.R_far (p := ⟨gb284, 2, none⟩) (Kd.R_far (p := ⟨gb284, 1, none⟩) (Kd.R_far (p := ⟨gb284, 0, none⟩) (Kd.R_types HO_7.out BK284.out (by decide)) (fun _ hk => hk.2) (.string ((rd_T132 l0 x25_1).f0))) (fun _ hk => hk.2) (.int .i64 ((rd_T132 l0 x25_1).f1))) (fun _ hk => hk.2) (.int .i64 ((rd_T132 l0 x25_1).f2))) (fun _ hk => trivial))); (case aS => exact (bwZ (by repeat (first | (with_reducible first | exact HB.out | apply bwA | apply bwN | apply bw1 | refine bwS ?_ GE284.out) | exact HB.out)))); (case aL => have := LMc16.out; omega); intro v286 w19 ho hb hg hat; rw [← Ny285.out] at ho; have n0_ := Z0.mk (blk_grown (g := gb284) (o := .cells #[.string ((rd_T132 l0 x25_1).f0), .int .i64 ((rd_T132 l0 x25_1).f1), .int .i64 ((rd_T132 l0 x25_1).f2)] 132 (0, 0)) (by (with_reducible repeat (first | refine bkN ?_ _ | refine bkD ?_ | refine bkA ?_ _)); refine bkP (cs := #[.string ((rd_T132 l0 x25_1).f0), .int .i64 ((rd_T132 l0 x25_1).f1), .int .i64 0]) ?_ 2 _ rfl; (with_reducible repeat (first | refine bkN ?_ _ | refine bkD ?_ | refine bkA ?_ _)); refine bkP (cs := #[.string ((rd_T132 l0 x25_1).f0), .int .i64 0, .int .i64 0]) ?_ 1 _ rfl; (with_reducible repeat (first | refine bkN ?_ _ | refine bkD ?_ | refine bkA ?_ _)); refine bkP (cs := #[.string (⟨#[]⟩ : ByteArray), .int .i64 0, .int .i64 0]) ?_ 0 _ rfl; (with_reducible repeat (first | refine bkN ?_ _ | refine bkD ?_ | refine bkA ?_ _)); exact BK284.out) hg (Kd.R_ne HO_7.out BK284.out (by decide))); have n1_ := Z0.mk (hb); have n2_ := Z0.mk (ho); clear BK284 HB HO_7; have BK284 := n0_; have HB := n1_; have HO287 := n2_; clear n0_ n1_ n2_; clear ho hb hg hat))
        go_roundg k1
        case measure => have := HK1.out; omega
        case rel => exact ⟨(y285), (wrap64 (x25_1 + 1)), (by first | rfl | (simp; done) | (simp [*]; done)), H', ⟨by have := HK1.out; omega⟩, ⟨by (with_reducible repeat (first | apply Kd.R_alloc | apply Kd.R_drewN | apply Kd.R_drew)); exact HO287.out⟩, ⟨by repeat (first | (with_reducible first | exact HB.out | apply bwA | apply bwN | apply bw1 | refine bwS ?_ GE284.out) | exact HB.out)⟩⟩
       ·rw [if_neg c16] at H;exact absurd H (by simp)
      ·rw [if_neg c14] at H;exact absurd H (by simp)
     ·rw [if_neg c13] at H;exact absurd H (by simp)
    ·rw [if_neg c12] at H;have c12b0 : decide (x25_1 < (l0.length : Int)) = false := decide_eq_false c12;clear c12;replace H := Option.bind_eq_some_iff.mp H
     obtain ⟨⟨t288, t289, t290⟩, A200, H⟩ := H;try dsimp only at H
     have A20 := Z0.mk A200;clear A200;simp only [Option.some.injEq, Prod.mk.injEq] at H;obtain ⟨rfl, rfl⟩ := H;obtain ⟨Ao21, co21, eo21⟩ := Kd.R_slice HO_7.out;subst eo21;go_wp2_with (first | ((with_reducible refine gtC (f := 85) rfl ?_); refine goesL_ (some 48) rfl rfl Tryd.func85 (by kernel_rfl) rfl #[.slice Ao21 x7_1.length co21, .func (.func 86) #[] #[]] rfl (by (try simp only [List.map_toArray, List.map_cons, List.map_nil]) <;> rfl) ?_; (with_reducible refine (hang_minChoice.calls k1 _ _ x7_1 t288 t289 t290 _ ?side1 ?side2 A20.out).mono ?_); (case side1 => repeat (first | exact (Kd.R_reads' HO_7.out).2.2 | (with_reducible refine Kd.C_alloc ?_ _) | (with_reducible refine Kd.C_drewN ?_ _) | (with_reducible refine Kd.C_drew ?_))); (case side2 => exact (Kd.R_reads' HO_7.out).2.1); rintro e w22 ⟨rfl, hb⟩; refine ⟨_, rfl, ?_⟩; have n0_ := Z0.mk (Kd.R_below (by (with_reducible repeat (first | apply Kd.R_alloc | apply Kd.R_drewN | apply Kd.R_drew)); exact HO_7.out) hb); have n1_ := Z0.mk (bwT (by repeat (first | (with_reducible first | exact HB.out | apply bwA | apply bwN | apply bw1) | exact HB.out)) hb); clear HO_7 HB; have HO_7 := n0_; have HB := n1_; clear n0_ n1_; (try clear hb); (try clear hb2); (try clear hk); (try clear hi)))
     go_ret2
     exact ⟨by first | rfl | (simp [errW_none, errW_some] <;> rfl) | (simp [*, errW_none, errW_some] <;> rfl), by repeat (first | (with_reducible first | exact HB.out | apply bwA | apply bwN | apply bw1) | exact HB.out)⟩
 ·rw [if_neg c7] at H;have c7b0 : (t282 == 0) = false := beq_eq_false_iff_ne.mpr c7;have c7b1 : (t282 != 0) = true := bne_iff_ne.mpr c7;simp only [Option.some.injEq, Prod.mk.injEq] at H;obtain ⟨rfl, rfl⟩ := H;go_enter Tryd.func50, Tryd.ntmps50;go_wp2_with (first | ((with_reducible refine gtC (f := 54) rfl ?_); refine goesL_ (some 11) rfl rfl Tryd.func54 (by kernel_rfl) rfl #[.slice A0 l0.length c0] rfl (by (try simp only [List.map_toArray, List.map_cons, List.map_nil]) <;> rfl) ?_; (with_reducible refine (hang_CheckTwines.calls k _ _ l0 t276 _ ?side1 ?side2 A3.out).mono ?_); (case side1 => repeat (first | exact HR0.out | (with_reducible refine Kd.C_alloc ?_ _) | (with_reducible refine Kd.C_drewN ?_ _) | (with_reducible refine Kd.C_drew ?_))); (case side2 => exact HC0.out); rintro e w23 ⟨rfl, hb⟩; refine ⟨_, rfl, ?_⟩; have n0_ := Z0.mk (bwT (by repeat (first | (with_reducible first | exact HB.out | apply bwA | apply bwN | apply bw1) | exact HB.out)) hb); clear HB; have HB := n0_; clear n0_; (try clear hb); (try clear hb2); (try clear hk); (try clear hi)) | ((with_reducible refine gtC (f := 73) rfl ?_); refine goesL_ (some 13) rfl rfl Tryd.func73 (by kernel_rfl) rfl #[.int .i64 a1, .int .i64 1, .int .i64 100000] rfl (by (try simp only [List.map_toArray, List.map_cons, List.map_nil]) <;> rfl) ?_; (with_reducible refine (hang_within.calls a1 1 100000 t277 _ A4.out).mono ?_); rintro e w' ⟨rfl, ⟨nd, rfl⟩⟩; refine ⟨_, rfl, ?_⟩) | ((with_reducible refine gtC (f := 74) rfl ?_); refine goesL_ (some 17) rfl rfl Tryd.func74 (by kernel_rfl) rfl #[.bool ((l0.length : Int) == 0), .int .i64 12] rfl (by (try simp only [List.map_toArray, List.map_cons, List.map_nil]) <;> rfl) ?_; (with_reducible refine (hang_when.calls ((l0.length : Int) == 0) 12 t278 _ A5.out).mono ?_); rintro e w' ⟨rfl, ⟨nd, rfl⟩⟩; refine ⟨_, rfl, ?_⟩) | ((with_reducible refine gtD (N := 18) rfl ?_); refine Kd.R_lit (Kd.int .i64) _ 26 ?hg (N := 18) ?hd (xs := ([t276, t277, t278] : List Int)) (inner := [.int .i64 t276, .int .i64 t277, .int .i64 t278]) (ok := fun _ => True) (okp := fun _ => True) ?hr ?hp (fun _ hk => hk) trivial (Below.refl _ _) (Nat.le_refl _) (by simp) ?_; (case hd => rfl); (case hg => rfl); (case hr => first | (go_simp; done) | (go_simp; rfl)); (case hp => exact (Reps.one (show Kd.M (Kd.int .i64) _ _ _ t276 [.int .i64 t276] from rfl) (Reps.one (show Kd.M (Kd.int .i64) _ _ _ t277 [.int .i64 t277] from rfl) (Reps.one (show Kd.M (Kd.int .i64) _ _ _ t278 [.int .i64 t278] from rfl) (Reps.none _ _))))); intro v280 w24 ho25 hb hg_ hnew_; clear hg_ hnew_; (first | rw [← Ny279.out] at ho25 | (simp only [Int.reduceToNat] at ho25; rw [← Ny279.out] at ho25)); have n0_ := Z0.mk (Kd.R_lower ho25 (bwZ (by repeat (first | (with_reducible first | exact HB.out | apply bwA | apply bwN | apply bw1) | exact HB.out)))); have n1_ := Z0.mk (bwT (by repeat (first | (with_reducible first | exact HB.out | apply bwA | apply bwN | apply bw1) | exact HB.out)) hb); clear HB; have HO281 := n0_; have HB := n1_; clear n0_ n1_; clear hb ho25; obtain ⟨Ao26, co26, eo26⟩ := Kd.R_slice HO281.out; subst eo26) | ((with_reducible refine gtC (f := 72) rfl ?_); refine goesL_ (some 19) rfl rfl Tryd.func72 (by kernel_rfl) rfl #[.slice Ao26 y279.length co26] rfl (by (try simp only [List.map_toArray, List.map_cons, List.map_nil]) <;> rfl) ?_; (with_reducible refine (hang_first.calls k _ _ y279 t282 _ ?side1 ?side2 A6.out).mono ?_); (case side1 => repeat (first | exact (Kd.R_reads' HO281.out).2.2 | (with_reducible refine Kd.C_alloc ?_ _) | (with_reducible refine Kd.C_drewN ?_ _) | (with_reducible refine Kd.C_drew ?_))); (case side2 => exact (Kd.R_reads' HO281.out).2.1); rintro e w' ⟨rfl, ⟨nd, rfl⟩⟩; refine ⟨_, rfl, ?_⟩))
  go_ret2
  exact ⟨by first | rfl | (simp [errW_none, errW_some] <;> rfl) | (simp [*, errW_none, errW_some] <;> rfl), by repeat (first | (with_reducible first | exact HB.out | apply bwA | apply bwN | apply bw1) | exact HB.out)⟩
def hang_checkLine.f (k : Nat) (a0 : Int) (a1 : Int) (a2 : Int) : Option (Int) := (hang_within.f a0 0 100000).bind fun t230 => ((hang_within.f a1 0 100000).bind fun t231 => ((hang_checkBar.f a2).bind fun t232 => ((hang_first.f k (([t230, t231, t232] : List Int))).bind fun t236 => (some t236))))
theorem hang_checkLine.mono : ∀ a0 a1 a2 k, LeO (hang_checkLine.f k a0 a1 a2) (hang_checkLine.f (k + 1) a0 a1 a2) := by
 intro a0 a1 a2 k
 unfold hang_checkLine.f
 repeat' first
   | (with_reducible exact hang_first.mono _ _)
   | (with_reducible exact LeO.refl _)
   | (with_reducible exact LeO.none _)
   | (with_reducible refine LeO.ite ?_ ?_)
   | (with_reducible refine LeO.bind ?_ (fun _ => ?_))
   | exact hang_first.mono _ _
   | exact LeO.none _
   | refine LeO.ite ?_ ?_
   | refine LeO.bind ?_ (fun _ => ?_)
set_option maxHeartbeats 8000000 in
set_option maxRecDepth 100000 in
theorem hang_checkLine.calls (k : Nat) (a0 : Int) (a1 : Int) (a2 : Int) (r : Int) (w : World) (h : hang_checkLine.f k a0 a1 a2 = some r) :
  Calls Tryd.prog 93 #[.int .i64 a0, .int .i64 a1, .int .i64 a2] w fun e w' => e = .returned (.int .i64 r) ∧ Below w.heap.size w w' := by
 have HB := Z0.mk (Below.refl w.heap.size w)
 have H : ((hang_within.f a0 0 100000).bind fun t230 => ((hang_within.f a1 0 100000).bind fun t231 => ((hang_checkBar.f a2).bind fun t232 => ((hang_first.f k (([t230, t231, t232] : List Int))).bind fun t236 => (some t236))))) = some r := h
 clear h
 replace H := Option.bind_eq_some_iff.mp H
 obtain ⟨t230, A40, H⟩ := H
 try dsimp only at H
 have A4 := Z0.mk A40
 clear A40
 replace H := Option.bind_eq_some_iff.mp H
 obtain ⟨t231, A50, H⟩ := H
 try dsimp only at H
 have A5 := Z0.mk A50
 clear A50
 replace H := Option.bind_eq_some_iff.mp H
 obtain ⟨t232, A60, H⟩ := H
 try dsimp only at H
 have A6 := Z0.mk A60
 clear A60
 obtain ⟨y233, hy233⟩ : ∃ y_ : List Int, y_ = (([t230, t231, t232] : List Int)) := ⟨_, rfl⟩
 replace H : ((hang_first.f k y233).bind fun t236 => (some t236)) = some r := by first | (rw [hy233]; with_reducible exact H) | (have H2_ := (Option.bind_some _ _).symm.trans H; rw [hy233]; with_reducible exact H2_) | (have H2_ := (Option.bind_some _ _).symm.trans H; with_reducible exact H2_) | with_reducible exact H | (rw [hy233]; exact H) | exact H
 have Ny233 := Z0.mk hy233
 clear hy233
 replace H := Option.bind_eq_some_iff.mp H
 obtain ⟨t236, A70, H⟩ := H
 try dsimp only at H
 have A7 := Z0.mk A70
 clear A70
 obtain rfl := Option.some.inj H
 go_enter Tryd.func93, Tryd.ntmps93
 go_wp2_with (first | ((with_reducible refine gtC (f := 73) rfl ?_); refine goesL_ (some 8) rfl rfl Tryd.func73 (by kernel_rfl) rfl #[.int .i64 a0, .int .i64 0, .int .i64 100000] rfl (by (try simp only [List.map_toArray, List.map_cons, List.map_nil]) <;> rfl) ?_; (with_reducible refine (hang_within.calls a0 0 100000 t230 _ A4.out).mono ?_); rintro e w' ⟨rfl, ⟨nd, rfl⟩⟩; refine ⟨_, rfl, ?_⟩) | ((with_reducible refine gtC (f := 73) rfl ?_); refine goesL_ (some 10) rfl rfl Tryd.func73 (by kernel_rfl) rfl #[.int .i64 a1, .int .i64 0, .int .i64 100000] rfl (by (try simp only [List.map_toArray, List.map_cons, List.map_nil]) <;> rfl) ?_; (with_reducible refine (hang_within.calls a1 0 100000 t231 _ A5.out).mono ?_); rintro e w' ⟨rfl, ⟨nd, rfl⟩⟩; refine ⟨_, rfl, ?_⟩) | ((with_reducible refine gtC (f := 77) rfl ?_); refine goesL_ (some 12) rfl rfl Tryd.func77 (by kernel_rfl) rfl #[.int .i64 a2] rfl (by (try simp only [List.map_toArray, List.map_cons, List.map_nil]) <;> rfl) ?_; (with_reducible refine (hang_checkBar.calls a2 t232 _ A6.out).mono ?_); rintro e w' ⟨rfl, ⟨nd, rfl⟩⟩; refine ⟨_, rfl, ?_⟩) | ((with_reducible refine gtD (N := 13) rfl ?_); refine Kd.R_lit (Kd.int .i64) _ 26 ?hg (N := 13) ?hd (xs := ([t230, t231, t232] : List Int)) (inner := [.int .i64 t230, .int .i64 t231, .int .i64 t232]) (ok := fun _ => True) (okp := fun _ => True) ?hr ?hp (fun _ hk => hk) trivial (Below.refl _ _) (Nat.le_refl _) (by simp) ?_; (case hd => rfl); (case hg => rfl); (case hr => first | (go_simp; done) | (go_simp; rfl)); (case hp => exact (Reps.one (show Kd.M (Kd.int .i64) _ _ _ t230 [.int .i64 t230] from rfl) (Reps.one (show Kd.M (Kd.int .i64) _ _ _ t231 [.int .i64 t231] from rfl) (Reps.one (show Kd.M (Kd.int .i64) _ _ _ t232 [.int .i64 t232] from rfl) (Reps.none _ _))))); intro v234 w8 ho9 hb hg_ hnew_; clear hg_ hnew_; (first | rw [← Ny233.out] at ho9 | (simp only [Int.reduceToNat] at ho9; rw [← Ny233.out] at ho9)); have n0_ := Z0.mk (Kd.R_lower ho9 (bwZ (by repeat (first | (with_reducible first | exact HB.out | apply bwA | apply bwN | apply bw1) | exact HB.out)))); have n1_ := Z0.mk (bwT (by repeat (first | (with_reducible first | exact HB.out | apply bwA | apply bwN | apply bw1) | exact HB.out)) hb); clear HB; have HO235 := n0_; have HB := n1_; clear n0_ n1_; clear hb ho9; obtain ⟨Ao10, co10, eo10⟩ := Kd.R_slice HO235.out; subst eo10) | ((with_reducible refine gtC (f := 72) rfl ?_); refine goesL_ (some 14) rfl rfl Tryd.func72 (by kernel_rfl) rfl #[.slice Ao10 y233.length co10] rfl (by (try simp only [List.map_toArray, List.map_cons, List.map_nil]) <;> rfl) ?_; (with_reducible refine (hang_first.calls k _ _ y233 t236 _ ?side1 ?side2 A7.out).mono ?_); (case side1 => repeat (first | exact (Kd.R_reads' HO235.out).2.2 | (with_reducible refine Kd.C_alloc ?_ _) | (with_reducible refine Kd.C_drewN ?_ _) | (with_reducible refine Kd.C_drew ?_))); (case side2 => exact (Kd.R_reads' HO235.out).2.1); rintro e w' ⟨rfl, ⟨nd, rfl⟩⟩; refine ⟨_, rfl, ?_⟩))
 go_ret
 exact ⟨by first | rfl | (simp [errW_none, errW_some] <;> rfl) | (simp [*, errW_none, errW_some] <;> rfl), by repeat (first | (with_reducible first | exact HB.out | apply bwA | apply bwN | apply bw1) | exact HB.out)⟩
def hang_checkAllowance.f (a0 : Int) : Option (Int) := (hang_within.f a0 0 100).bind fun t237 => (some t237)
set_option maxHeartbeats 8000000 in
set_option maxRecDepth 100000 in
theorem hang_checkAllowance.calls (a0 : Int) (r : Int) (w : World) (h : hang_checkAllowance.f a0 = some r) :
  Calls Tryd.prog 94 #[.int .i64 a0] w fun e w' => e = .returned (.int .i64 r) ∧ Drawn0 w w' := by
 have H : ((hang_within.f a0 0 100).bind fun t237 => (some t237)) = some r := h
 clear h
 replace H := Option.bind_eq_some_iff.mp H
 obtain ⟨t237, A20, H⟩ := H
 try dsimp only at H
 have A2 := Z0.mk A20
 clear A20
 obtain rfl := Option.some.inj H
 go_enter Tryd.func94, Tryd.ntmps94
 go_wp2_with (first | ((with_reducible refine gtC (f := 73) rfl ?_); refine goesL_ (some 4) rfl rfl Tryd.func73 (by kernel_rfl) rfl #[.int .i64 a0, .int .i64 0, .int .i64 100] rfl (by (try simp only [List.map_toArray, List.map_cons, List.map_nil]) <;> rfl) ?_; (with_reducible refine (hang_within.calls a0 0 100 t237 _ A2.out).mono ?_); rintro e w' ⟨rfl, ⟨nd, rfl⟩⟩; refine ⟨_, rfl, ?_⟩))
 go_ret
 exact ⟨by first | rfl | (simp; done) | (simp [*]; done), by repeat (first | exact Drawn0.refl _ | apply Drawn0.step)⟩
def hang_Length.f (k : Nat) (a0 : Int) (a1 : Int) (a2 : Int) (a3 : Int) : Option (Int × Int) := (hang_checkLine.f k a0 a1 a2).bind fun t238 => ((hang_checkAllowance.f a3).bind fun t239 => ((hang_first.f k (([t238, t239] : List Int))).bind fun t243 => (if t243 = 0 then (some (wrap64 ((wrap64 (a0 * a2)) + (wrap64 (a1 * a3))), 0)) else (some (0, t243)))))
theorem hang_Length.mono : ∀ a0 a1 a2 a3 k, LeO (hang_Length.f k a0 a1 a2 a3) (hang_Length.f (k + 1) a0 a1 a2 a3) := by
 intro a0 a1 a2 a3 k
 unfold hang_Length.f
 repeat' first
   | (with_reducible exact hang_checkLine.mono _ _ _ _)
   | (with_reducible exact hang_first.mono _ _)
   | (with_reducible exact LeO.refl _)
   | (with_reducible exact LeO.none _)
   | (with_reducible refine LeO.ite ?_ ?_)
   | (with_reducible refine LeO.bind ?_ (fun _ => ?_))
   | exact hang_checkLine.mono _ _ _ _
   | exact hang_first.mono _ _
   | exact LeO.none _
   | refine LeO.ite ?_ ?_
   | refine LeO.bind ?_ (fun _ => ?_)
set_option maxHeartbeats 8000000 in
set_option maxRecDepth 100000 in
theorem hang_Length.calls (k : Nat) (a0 : Int) (a1 : Int) (a2 : Int) (a3 : Int) (r1 : Int) (r2 : Int) (w : World) (h : hang_Length.f k a0 a1 a2 a3 = some (r1, r2)) :
  Calls Tryd.prog 55 #[.int .i64 a0, .int .i64 a1, .int .i64 a2, .int .i64 a3] w fun e w' => e = .returned (.tuple #[.int .i64 r1, .int .i64 r2]) ∧ Below w.heap.size w w' := by
 have HB := Z0.mk (Below.refl w.heap.size w)
 have H : ((hang_checkLine.f k a0 a1 a2).bind fun t238 => ((hang_checkAllowance.f a3).bind fun t239 => ((hang_first.f k (([t238, t239] : List Int))).bind fun t243 => (if t243 = 0 then (some (wrap64 ((wrap64 (a0 * a2)) + (wrap64 (a1 * a3))), 0)) else (some (0, t243)))))) = some (r1, r2) := h
 clear h
 replace H := Option.bind_eq_some_iff.mp H
 obtain ⟨t238, A50, H⟩ := H
 try dsimp only at H
 have A5 := Z0.mk A50
 clear A50
 replace H := Option.bind_eq_some_iff.mp H
 obtain ⟨t239, A60, H⟩ := H
 try dsimp only at H
 have A6 := Z0.mk A60
 clear A60
 obtain ⟨y240, hy240⟩ : ∃ y_ : List Int, y_ = (([t238, t239] : List Int)) := ⟨_, rfl⟩
 replace H : ((hang_first.f k y240).bind fun t243 => (if t243 = 0 then (some (wrap64 ((wrap64 (a0 * a2)) + (wrap64 (a1 * a3))), 0)) else (some (0, t243)))) = some (r1, r2) := by first | (rw [hy240]; with_reducible exact H) | (have H2_ := (Option.bind_some _ _).symm.trans H; rw [hy240]; with_reducible exact H2_) | (have H2_ := (Option.bind_some _ _).symm.trans H; with_reducible exact H2_) | with_reducible exact H | (rw [hy240]; exact H) | exact H
 have Ny240 := Z0.mk hy240
 clear hy240
 replace H := Option.bind_eq_some_iff.mp H
 obtain ⟨t243, A70, H⟩ := H
 try dsimp only at H
 have A7 := Z0.mk A70
 clear A70
 by_cases c8 : t243 = 0
 ·rw [if_pos c8] at H;have c8b0 : (t243 == 0) = true := beq_iff_eq.mpr c8;have c8b1 : (t243 != 0) = false := bne_eq_false_iff_eq.mpr c8;clear c8;simp only [Option.some.injEq, Prod.mk.injEq] at H;obtain ⟨rfl, rfl⟩ := H;go_enter Tryd.func55, Tryd.ntmps55;go_wp2_with (first | ((with_reducible refine gtC (f := 93) rfl ?_); refine goesL_ (some 14) rfl rfl Tryd.func93 (by kernel_rfl) rfl #[.int .i64 a0, .int .i64 a1, .int .i64 a2] rfl (by (try simp only [List.map_toArray, List.map_cons, List.map_nil]) <;> rfl) ?_; (with_reducible refine (hang_checkLine.calls k a0 a1 a2 t238 _ A5.out).mono ?_); rintro e w9 ⟨rfl, hb⟩; refine ⟨_, rfl, ?_⟩; have n0_ := Z0.mk (bwT (by repeat (first | (with_reducible first | exact HB.out | apply bwA | apply bwN | apply bw1) | exact HB.out)) hb); clear HB; have HB := n0_; clear n0_; (try clear hb); (try clear hb2); (try clear hk); (try clear hi)) | ((with_reducible refine gtC (f := 94) rfl ?_); refine goesL_ (some 16) rfl rfl Tryd.func94 (by kernel_rfl) rfl #[.int .i64 a3] rfl (by (try simp only [List.map_toArray, List.map_cons, List.map_nil]) <;> rfl) ?_; (with_reducible refine (hang_checkAllowance.calls a3 t239 _ A6.out).mono ?_); rintro e w' ⟨rfl, ⟨nd, rfl⟩⟩; refine ⟨_, rfl, ?_⟩) | ((with_reducible refine gtD (N := 17) rfl ?_); refine Kd.R_lit (Kd.int .i64) _ 26 ?hg (N := 17) ?hd (xs := ([t238, t239] : List Int)) (inner := [.int .i64 t238, .int .i64 t239]) (ok := fun _ => True) (okp := fun _ => True) ?hr ?hp (fun _ hk => hk) trivial (Below.refl _ _) (Nat.le_refl _) (by simp) ?_; (case hd => rfl); (case hg => rfl); (case hr => first | (go_simp; done) | (go_simp; rfl)); (case hp => exact (Reps.one (show Kd.M (Kd.int .i64) _ _ _ t238 [.int .i64 t238] from rfl) (Reps.one (show Kd.M (Kd.int .i64) _ _ _ t239 [.int .i64 t239] from rfl) (Reps.none _ _)))); intro v241 w10 ho11 hb hg_ hnew_; clear hg_ hnew_; (first | rw [← Ny240.out] at ho11 | (simp only [Int.reduceToNat] at ho11; rw [← Ny240.out] at ho11)); have n0_ := Z0.mk (Kd.R_lower ho11 (bwZ (by repeat (first | (with_reducible first | exact HB.out | apply bwA | apply bwN | apply bw1) | exact HB.out)))); have n1_ := Z0.mk (bwT (by repeat (first | (with_reducible first | exact HB.out | apply bwA | apply bwN | apply bw1) | exact HB.out)) hb); clear HB; have HO242 := n0_; have HB := n1_; clear n0_ n1_; clear hb ho11; obtain ⟨Ao12, co12, eo12⟩ := Kd.R_slice HO242.out; subst eo12) | ((with_reducible refine gtC (f := 72) rfl ?_); refine goesL_ (some 18) rfl rfl Tryd.func72 (by kernel_rfl) rfl #[.slice Ao12 y240.length co12] rfl (by (try simp only [List.map_toArray, List.map_cons, List.map_nil]) <;> rfl) ?_; (with_reducible refine (hang_first.calls k _ _ y240 t243 _ ?side1 ?side2 A7.out).mono ?_); (case side1 => repeat (first | exact (Kd.R_reads' HO242.out).2.2 | (with_reducible refine Kd.C_alloc ?_ _) | (with_reducible refine Kd.C_drewN ?_ _) | (with_reducible refine Kd.C_drew ?_))); (case side2 => exact (Kd.R_reads' HO242.out).2.1); rintro e w' ⟨rfl, ⟨nd, rfl⟩⟩; refine ⟨_, rfl, ?_⟩))
  go_ret2
  exact ⟨by first | rfl | (simp [errW_none, errW_some] <;> rfl) | (simp [*, errW_none, errW_some] <;> rfl), by repeat (first | (with_reducible first | exact HB.out | apply bwA | apply bwN | apply bw1) | exact HB.out)⟩
 ·rw [if_neg c8] at H;have c8b0 : (t243 == 0) = false := beq_eq_false_iff_ne.mpr c8;have c8b1 : (t243 != 0) = true := bne_iff_ne.mpr c8;simp only [Option.some.injEq, Prod.mk.injEq] at H;obtain ⟨rfl, rfl⟩ := H;go_enter Tryd.func55, Tryd.ntmps55;go_wp2_with (first | ((with_reducible refine gtC (f := 93) rfl ?_); refine goesL_ (some 14) rfl rfl Tryd.func93 (by kernel_rfl) rfl #[.int .i64 a0, .int .i64 a1, .int .i64 a2] rfl (by (try simp only [List.map_toArray, List.map_cons, List.map_nil]) <;> rfl) ?_; (with_reducible refine (hang_checkLine.calls k a0 a1 a2 t238 _ A5.out).mono ?_); rintro e w13 ⟨rfl, hb⟩; refine ⟨_, rfl, ?_⟩; have n0_ := Z0.mk (bwT (by repeat (first | (with_reducible first | exact HB.out | apply bwA | apply bwN | apply bw1) | exact HB.out)) hb); clear HB; have HB := n0_; clear n0_; (try clear hb); (try clear hb2); (try clear hk); (try clear hi)) | ((with_reducible refine gtC (f := 94) rfl ?_); refine goesL_ (some 16) rfl rfl Tryd.func94 (by kernel_rfl) rfl #[.int .i64 a3] rfl (by (try simp only [List.map_toArray, List.map_cons, List.map_nil]) <;> rfl) ?_; (with_reducible refine (hang_checkAllowance.calls a3 t239 _ A6.out).mono ?_); rintro e w' ⟨rfl, ⟨nd, rfl⟩⟩; refine ⟨_, rfl, ?_⟩) | ((with_reducible refine gtD (N := 17) rfl ?_); refine Kd.R_lit (Kd.int .i64) _ 26 ?hg (N := 17) ?hd (xs := ([t238, t239] : List Int)) (inner := [.int .i64 t238, .int .i64 t239]) (ok := fun _ => True) (okp := fun _ => True) ?hr ?hp (fun _ hk => hk) trivial (Below.refl _ _) (Nat.le_refl _) (by simp) ?_; (case hd => rfl); (case hg => rfl); (case hr => first | (go_simp; done) | (go_simp; rfl)); (case hp => exact (Reps.one (show Kd.M (Kd.int .i64) _ _ _ t238 [.int .i64 t238] from rfl) (Reps.one (show Kd.M (Kd.int .i64) _ _ _ t239 [.int .i64 t239] from rfl) (Reps.none _ _)))); intro v241 w14 ho15 hb hg_ hnew_; clear hg_ hnew_; (first | rw [← Ny240.out] at ho15 | (simp only [Int.reduceToNat] at ho15; rw [← Ny240.out] at ho15)); have n0_ := Z0.mk (Kd.R_lower ho15 (bwZ (by repeat (first | (with_reducible first | exact HB.out | apply bwA | apply bwN | apply bw1) | exact HB.out)))); have n1_ := Z0.mk (bwT (by repeat (first | (with_reducible first | exact HB.out | apply bwA | apply bwN | apply bw1) | exact HB.out)) hb); clear HB; have HO242 := n0_; have HB := n1_; clear n0_ n1_; clear hb ho15; obtain ⟨Ao16, co16, eo16⟩ := Kd.R_slice HO242.out; subst eo16) | ((with_reducible refine gtC (f := 72) rfl ?_); refine goesL_ (some 18) rfl rfl Tryd.func72 (by kernel_rfl) rfl #[.slice Ao16 y240.length co16] rfl (by (try simp only [List.map_toArray, List.map_cons, List.map_nil]) <;> rfl) ?_; (with_reducible refine (hang_first.calls k _ _ y240 t243 _ ?side1 ?side2 A7.out).mono ?_); (case side1 => repeat (first | exact (Kd.R_reads' HO242.out).2.2 | (with_reducible refine Kd.C_alloc ?_ _) | (with_reducible refine Kd.C_drewN ?_ _) | (with_reducible refine Kd.C_drew ?_))); (case side2 => exact (Kd.R_reads' HO242.out).2.1); rintro e w' ⟨rfl, ⟨nd, rfl⟩⟩; refine ⟨_, rfl, ?_⟩))
  go_ret2
  exact ⟨by first | rfl | (simp [errW_none, errW_some] <;> rfl) | (simp [*, errW_none, errW_some] <;> rfl), by repeat (first | (with_reducible first | exact HB.out | apply bwA | apply bwN | apply bw1) | exact HB.out)⟩
def hang_weight.f (a0 : Int) (a1 : Int) : Option (Int) := some (wrap64 (Int.tdiv (wrap64 (a0 * a1)) 1000))
set_option maxHeartbeats 8000000 in
set_option maxRecDepth 100000 in
theorem hang_weight.calls (a0 : Int) (a1 : Int) (r : Int) (w : World) (h : hang_weight.f a0 a1 = some r) :
  Calls Tryd.prog 95 #[.int .i64 a0, .int .i64 a1] w fun e w' => e = .returned (.int .i64 r) ∧ Drawn0 w w' := by
 have H : (some (wrap64 (Int.tdiv (wrap64 (a0 * a1)) 1000))) = some r := h
 clear h
 obtain rfl := Option.some.inj H
 go_enter Tryd.func95, Tryd.ntmps95
 go_wp2
 go_ret
 exact ⟨by first | rfl | (simp; done) | (simp [*]; done), by repeat (first | exact Drawn0.refl _ | apply Drawn0.step)⟩
def hang_Weight.f (k : Nat) (a0 : Int) (a1 : Int) : Option (Int × Int) := (hang_within.f a0 0 999999999).bind fun t244 => ((hang_within.f a1 1 100000).bind fun t245 => ((hang_first.f k (([t244, t245] : List Int))).bind fun t249 => (if t249 = 0 then ((hang_weight.f a0 a1).bind fun t250 => (if t250 > 999999999 then (some (0, 4)) else (some (t250, 0)))) else (some (0, t249)))))
theorem hang_Weight.mono : ∀ a0 a1 k, LeO (hang_Weight.f k a0 a1) (hang_Weight.f (k + 1) a0 a1) := by
 intro a0 a1 k
 unfold hang_Weight.f
 repeat' first
   | (with_reducible exact hang_first.mono _ _)
   | (with_reducible exact LeO.refl _)
   | (with_reducible exact LeO.none _)
   | (with_reducible refine LeO.ite ?_ ?_)
   | (with_reducible refine LeO.bind ?_ (fun _ => ?_))
   | exact hang_first.mono _ _
   | exact LeO.none _
   | refine LeO.ite ?_ ?_
   | refine LeO.bind ?_ (fun _ => ?_)
set_option maxHeartbeats 8000000 in
set_option maxRecDepth 100000 in
theorem hang_Weight.calls (k : Nat) (a0 : Int) (a1 : Int) (r1 : Int) (r2 : Int) (w : World) (h : hang_Weight.f k a0 a1 = some (r1, r2)) :
  Calls Tryd.prog 56 #[.int .i64 a0, .int .i64 a1] w fun e w' => e = .returned (.tuple #[.int .i64 r1, .int .i64 r2]) ∧ Below w.heap.size w w' := by
 have HB := Z0.mk (Below.refl w.heap.size w)
 have H : ((hang_within.f a0 0 999999999).bind fun t244 => ((hang_within.f a1 1 100000).bind fun t245 => ((hang_first.f k (([t244, t245] : List Int))).bind fun t249 => (if t249 = 0 then ((hang_weight.f a0 a1).bind fun t250 => (if t250 > 999999999 then (some (0, 4)) else (some (t250, 0)))) else (some (0, t249)))))) = some (r1, r2) := h
 clear h
 replace H := Option.bind_eq_some_iff.mp H
 obtain ⟨t244, A30, H⟩ := H
 try dsimp only at H
 have A3 := Z0.mk A30
 clear A30
 replace H := Option.bind_eq_some_iff.mp H
 obtain ⟨t245, A40, H⟩ := H
 try dsimp only at H
 have A4 := Z0.mk A40
 clear A40
 obtain ⟨y246, hy246⟩ : ∃ y_ : List Int, y_ = (([t244, t245] : List Int)) := ⟨_, rfl⟩
 replace H : ((hang_first.f k y246).bind fun t249 => (if t249 = 0 then ((hang_weight.f a0 a1).bind fun t250 => (if t250 > 999999999 then (some (0, 4)) else (some (t250, 0)))) else (some (0, t249)))) = some (r1, r2) := by first | (rw [hy246]; with_reducible exact H) | (have H2_ := (Option.bind_some _ _).symm.trans H; rw [hy246]; with_reducible exact H2_) | (have H2_ := (Option.bind_some _ _).symm.trans H; with_reducible exact H2_) | with_reducible exact H | (rw [hy246]; exact H) | exact H
 have Ny246 := Z0.mk hy246
 clear hy246
 replace H := Option.bind_eq_some_iff.mp H
 obtain ⟨t249, A50, H⟩ := H
 try dsimp only at H
 have A5 := Z0.mk A50
 clear A50
 by_cases c6 : t249 = 0
 ·rw [if_pos c6] at H;have c6b0 : (t249 == 0) = true := beq_iff_eq.mpr c6;have c6b1 : (t249 != 0) = false := bne_eq_false_iff_eq.mpr c6;clear c6;replace H := Option.bind_eq_some_iff.mp H
  obtain ⟨t250, A70, H⟩ := H;try dsimp only at H
  have A7 := Z0.mk A70;clear A70;by_cases c8 : t250 > 999999999
  ·rw [if_pos c8] at H;have c8b0 : decide (999999999 < t250) = true := decide_eq_true c8;clear c8;simp only [Option.some.injEq, Prod.mk.injEq] at H;obtain ⟨rfl, rfl⟩ := H;go_enter Tryd.func56, Tryd.ntmps56;go_wp2_with (first | ((with_reducible refine gtC (f := 73) rfl ?_); refine goesL_ (some 9) rfl rfl Tryd.func73 (by kernel_rfl) rfl #[.int .i64 a0, .int .i64 0, .int .i64 999999999] rfl (by (try simp only [List.map_toArray, List.map_cons, List.map_nil]) <;> rfl) ?_; (with_reducible refine (hang_within.calls a0 0 999999999 t244 _ A3.out).mono ?_); rintro e w' ⟨rfl, ⟨nd, rfl⟩⟩; refine ⟨_, rfl, ?_⟩) | ((with_reducible refine gtC (f := 73) rfl ?_); refine goesL_ (some 11) rfl rfl Tryd.func73 (by kernel_rfl) rfl #[.int .i64 a1, .int .i64 1, .int .i64 100000] rfl (by (try simp only [List.map_toArray, List.map_cons, List.map_nil]) <;> rfl) ?_; (with_reducible refine (hang_within.calls a1 1 100000 t245 _ A4.out).mono ?_); rintro e w' ⟨rfl, ⟨nd, rfl⟩⟩; refine ⟨_, rfl, ?_⟩) | ((with_reducible refine gtD (N := 12) rfl ?_); refine Kd.R_lit (Kd.int .i64) _ 26 ?hg (N := 12) ?hd (xs := ([t244, t245] : List Int)) (inner := [.int .i64 t244, .int .i64 t245]) (ok := fun _ => True) (okp := fun _ => True) ?hr ?hp (fun _ hk => hk) trivial (Below.refl _ _) (Nat.le_refl _) (by simp) ?_; (case hd => rfl); (case hg => rfl); (case hr => first | (go_simp; done) | (go_simp; rfl)); (case hp => exact (Reps.one (show Kd.M (Kd.int .i64) _ _ _ t244 [.int .i64 t244] from rfl) (Reps.one (show Kd.M (Kd.int .i64) _ _ _ t245 [.int .i64 t245] from rfl) (Reps.none _ _)))); intro v247 w9 ho10 hb hg_ hnew_; clear hg_ hnew_; (first | rw [← Ny246.out] at ho10 | (simp only [Int.reduceToNat] at ho10; rw [← Ny246.out] at ho10)); have n0_ := Z0.mk (Kd.R_lower ho10 (bwZ (by repeat (first | (with_reducible first | exact HB.out | apply bwA | apply bwN | apply bw1) | exact HB.out)))); have n1_ := Z0.mk (bwT (by repeat (first | (with_reducible first | exact HB.out | apply bwA | apply bwN | apply bw1) | exact HB.out)) hb); clear HB; have HO248 := n0_; have HB := n1_; clear n0_ n1_; clear hb ho10; obtain ⟨Ao11, co11, eo11⟩ := Kd.R_slice HO248.out; subst eo11) | ((with_reducible refine gtC (f := 72) rfl ?_); refine goesL_ (some 13) rfl rfl Tryd.func72 (by kernel_rfl) rfl #[.slice Ao11 y246.length co11] rfl (by (try simp only [List.map_toArray, List.map_cons, List.map_nil]) <;> rfl) ?_; (with_reducible refine (hang_first.calls k _ _ y246 t249 _ ?side1 ?side2 A5.out).mono ?_); (case side1 => repeat (first | exact (Kd.R_reads' HO248.out).2.2 | (with_reducible refine Kd.C_alloc ?_ _) | (with_reducible refine Kd.C_drewN ?_ _) | (with_reducible refine Kd.C_drew ?_))); (case side2 => exact (Kd.R_reads' HO248.out).2.1); rintro e w' ⟨rfl, ⟨nd, rfl⟩⟩; refine ⟨_, rfl, ?_⟩) | ((with_reducible refine gtC (f := 95) rfl ?_); refine goesL_ (some 19) rfl rfl Tryd.func95 (by kernel_rfl) rfl #[.int .i64 a0, .int .i64 a1] rfl (by (try simp only [List.map_toArray, List.map_cons, List.map_nil]) <;> rfl) ?_; (with_reducible refine (hang_weight.calls a0 a1 t250 _ A7.out).mono ?_); rintro e w' ⟨rfl, ⟨nd, rfl⟩⟩; refine ⟨_, rfl, ?_⟩))
   go_ret2
   exact ⟨by first | rfl | (simp [errW_none, errW_some] <;> rfl) | (simp [*, errW_none, errW_some] <;> rfl), by repeat (first | (with_reducible first | exact HB.out | apply bwA | apply bwN | apply bw1) | exact HB.out)⟩
  ·rw [if_neg c8] at H;have c8b0 : decide (999999999 < t250) = false := decide_eq_false c8;clear c8;simp only [Option.some.injEq, Prod.mk.injEq] at H;obtain ⟨rfl, rfl⟩ := H;go_enter Tryd.func56, Tryd.ntmps56;go_wp2_with (first | ((with_reducible refine gtC (f := 73) rfl ?_); refine goesL_ (some 9) rfl rfl Tryd.func73 (by kernel_rfl) rfl #[.int .i64 a0, .int .i64 0, .int .i64 999999999] rfl (by (try simp only [List.map_toArray, List.map_cons, List.map_nil]) <;> rfl) ?_; (with_reducible refine (hang_within.calls a0 0 999999999 t244 _ A3.out).mono ?_); rintro e w' ⟨rfl, ⟨nd, rfl⟩⟩; refine ⟨_, rfl, ?_⟩) | ((with_reducible refine gtC (f := 73) rfl ?_); refine goesL_ (some 11) rfl rfl Tryd.func73 (by kernel_rfl) rfl #[.int .i64 a1, .int .i64 1, .int .i64 100000] rfl (by (try simp only [List.map_toArray, List.map_cons, List.map_nil]) <;> rfl) ?_; (with_reducible refine (hang_within.calls a1 1 100000 t245 _ A4.out).mono ?_); rintro e w' ⟨rfl, ⟨nd, rfl⟩⟩; refine ⟨_, rfl, ?_⟩) | ((with_reducible refine gtD (N := 12) rfl ?_); refine Kd.R_lit (Kd.int .i64) _ 26 ?hg (N := 12) ?hd (xs := ([t244, t245] : List Int)) (inner := [.int .i64 t244, .int .i64 t245]) (ok := fun _ => True) (okp := fun _ => True) ?hr ?hp (fun _ hk => hk) trivial (Below.refl _ _) (Nat.le_refl _) (by simp) ?_; (case hd => rfl); (case hg => rfl); (case hr => first | (go_simp; done) | (go_simp; rfl)); (case hp => exact (Reps.one (show Kd.M (Kd.int .i64) _ _ _ t244 [.int .i64 t244] from rfl) (Reps.one (show Kd.M (Kd.int .i64) _ _ _ t245 [.int .i64 t245] from rfl) (Reps.none _ _)))); intro v247 w12 ho13 hb hg_ hnew_; clear hg_ hnew_; (first | rw [← Ny246.out] at ho13 | (simp only [Int.reduceToNat] at ho13; rw [← Ny246.out] at ho13)); have n0_ := Z0.mk (Kd.R_lower ho13 (bwZ (by repeat (first | (with_reducible first | exact HB.out | apply bwA | apply bwN | apply bw1) | exact HB.out)))); have n1_ := Z0.mk (bwT (by repeat (first | (with_reducible first | exact HB.out | apply bwA | apply bwN | apply bw1) | exact HB.out)) hb); clear HB; have HO248 := n0_; have HB := n1_; clear n0_ n1_; clear hb ho13; obtain ⟨Ao14, co14, eo14⟩ := Kd.R_slice HO248.out; subst eo14) | ((with_reducible refine gtC (f := 72) rfl ?_); refine goesL_ (some 13) rfl rfl Tryd.func72 (by kernel_rfl) rfl #[.slice Ao14 y246.length co14] rfl (by (try simp only [List.map_toArray, List.map_cons, List.map_nil]) <;> rfl) ?_; (with_reducible refine (hang_first.calls k _ _ y246 t249 _ ?side1 ?side2 A5.out).mono ?_); (case side1 => repeat (first | exact (Kd.R_reads' HO248.out).2.2 | (with_reducible refine Kd.C_alloc ?_ _) | (with_reducible refine Kd.C_drewN ?_ _) | (with_reducible refine Kd.C_drew ?_))); (case side2 => exact (Kd.R_reads' HO248.out).2.1); rintro e w' ⟨rfl, ⟨nd, rfl⟩⟩; refine ⟨_, rfl, ?_⟩) | ((with_reducible refine gtC (f := 95) rfl ?_); refine goesL_ (some 19) rfl rfl Tryd.func95 (by kernel_rfl) rfl #[.int .i64 a0, .int .i64 a1] rfl (by (try simp only [List.map_toArray, List.map_cons, List.map_nil]) <;> rfl) ?_; (with_reducible refine (hang_weight.calls a0 a1 t250 _ A7.out).mono ?_); rintro e w' ⟨rfl, ⟨nd, rfl⟩⟩; refine ⟨_, rfl, ?_⟩))
   go_ret2
   exact ⟨by first | rfl | (simp [errW_none, errW_some] <;> rfl) | (simp [*, errW_none, errW_some] <;> rfl), by repeat (first | (with_reducible first | exact HB.out | apply bwA | apply bwN | apply bw1) | exact HB.out)⟩
 ·rw [if_neg c6] at H;have c6b0 : (t249 == 0) = false := beq_eq_false_iff_ne.mpr c6;have c6b1 : (t249 != 0) = true := bne_iff_ne.mpr c6;simp only [Option.some.injEq, Prod.mk.injEq] at H;obtain ⟨rfl, rfl⟩ := H;go_enter Tryd.func56, Tryd.ntmps56;go_wp2_with (first | ((with_reducible refine gtC (f := 73) rfl ?_); refine goesL_ (some 9) rfl rfl Tryd.func73 (by kernel_rfl) rfl #[.int .i64 a0, .int .i64 0, .int .i64 999999999] rfl (by (try simp only [List.map_toArray, List.map_cons, List.map_nil]) <;> rfl) ?_; (with_reducible refine (hang_within.calls a0 0 999999999 t244 _ A3.out).mono ?_); rintro e w' ⟨rfl, ⟨nd, rfl⟩⟩; refine ⟨_, rfl, ?_⟩) | ((with_reducible refine gtC (f := 73) rfl ?_); refine goesL_ (some 11) rfl rfl Tryd.func73 (by kernel_rfl) rfl #[.int .i64 a1, .int .i64 1, .int .i64 100000] rfl (by (try simp only [List.map_toArray, List.map_cons, List.map_nil]) <;> rfl) ?_; (with_reducible refine (hang_within.calls a1 1 100000 t245 _ A4.out).mono ?_); rintro e w' ⟨rfl, ⟨nd, rfl⟩⟩; refine ⟨_, rfl, ?_⟩) | ((with_reducible refine gtD (N := 12) rfl ?_); refine Kd.R_lit (Kd.int .i64) _ 26 ?hg (N := 12) ?hd (xs := ([t244, t245] : List Int)) (inner := [.int .i64 t244, .int .i64 t245]) (ok := fun _ => True) (okp := fun _ => True) ?hr ?hp (fun _ hk => hk) trivial (Below.refl _ _) (Nat.le_refl _) (by simp) ?_; (case hd => rfl); (case hg => rfl); (case hr => first | (go_simp; done) | (go_simp; rfl)); (case hp => exact (Reps.one (show Kd.M (Kd.int .i64) _ _ _ t244 [.int .i64 t244] from rfl) (Reps.one (show Kd.M (Kd.int .i64) _ _ _ t245 [.int .i64 t245] from rfl) (Reps.none _ _)))); intro v247 w15 ho16 hb hg_ hnew_; clear hg_ hnew_; (first | rw [← Ny246.out] at ho16 | (simp only [Int.reduceToNat] at ho16; rw [← Ny246.out] at ho16)); have n0_ := Z0.mk (Kd.R_lower ho16 (bwZ (by repeat (first | (with_reducible first | exact HB.out | apply bwA | apply bwN | apply bw1) | exact HB.out)))); have n1_ := Z0.mk (bwT (by repeat (first | (with_reducible first | exact HB.out | apply bwA | apply bwN | apply bw1) | exact HB.out)) hb); clear HB; have HO248 := n0_; have HB := n1_; clear n0_ n1_; clear hb ho16; obtain ⟨Ao17, co17, eo17⟩ := Kd.R_slice HO248.out; subst eo17) | ((with_reducible refine gtC (f := 72) rfl ?_); refine goesL_ (some 13) rfl rfl Tryd.func72 (by kernel_rfl) rfl #[.slice Ao17 y246.length co17] rfl (by (try simp only [List.map_toArray, List.map_cons, List.map_nil]) <;> rfl) ?_; (with_reducible refine (hang_first.calls k _ _ y246 t249 _ ?side1 ?side2 A5.out).mono ?_); (case side1 => repeat (first | exact (Kd.R_reads' HO248.out).2.2 | (with_reducible refine Kd.C_alloc ?_ _) | (with_reducible refine Kd.C_drewN ?_ _) | (with_reducible refine Kd.C_drew ?_))); (case side2 => exact (Kd.R_reads' HO248.out).2.1); rintro e w' ⟨rfl, ⟨nd, rfl⟩⟩; refine ⟨_, rfl, ?_⟩))
  go_ret2
  exact ⟨by first | rfl | (simp [errW_none, errW_some] <;> rfl) | (simp [*, errW_none, errW_some] <;> rfl), by repeat (first | (with_reducible first | exact HB.out | apply bwA | apply bwN | apply bw1) | exact HB.out)⟩
end Go.Proofs.YtppighiaffppkaaDoor.H
end
section
namespace Go.Proofs.YtppighiaffppkaaDoor.H
open Go.RowKit Go.Proofs.YtppighiaffppkaaDoorW.PrintWords Go.Proofs.YtppighiaffppkaaDoorW.PrintLast Go.Proofs.YtppighiaffppkaaDoorW.PrintMore
set_option maxHeartbeats 1000000 in
theorem hang_same_97.calls (s x0 : ByteArray) (x1 x2 y0 y1 y2 : Int) (g : Nat) (w : World) (hb : w.heap[g]? = some (.cells #[.int .i64 y0, .int .i64 y1, .int .i64 y2, .string s] 133 (0, 0))) :
  Calls Tryd.prog 97 #[.agg #[.string x0, .int .i64 x1, .int .i64 x2], .pointer (some ⟨g, 0, none⟩)] w fun e w' => e = .returned (.bool (x0.toList == s.toList)) ∧ Below w.heap.size w w' := by
 have hc : w.cell? ⟨g, 3, none⟩ = some (.string s) := (bkC hb 3).trans rfl
 have hl : g < w.heap.size := World.block_lt_of_cell? w _ hc
 have HB := Z0.mk hb
 clear hb
 have hu132 := Tryd.underlying132
 have hu133 := Tryd.underlying133
 go_enter Tryd.func97, Tryd.ntmps97
 go_wp2
 go_ret
 exact ⟨rfl, (Below.refl _ _).alloc (Nat.le_refl _) _⟩
end Go.Proofs.YtppighiaffppkaaDoor.H
end
section
namespace Go.Proofs.YtppighiaffppkaaDoor.H
open Go.RowKit Go.Proofs.YtppighiaffppkaaDoorW.PrintWords Go.Proofs.YtppighiaffppkaaDoorW.PrintLast Go.Proofs.YtppighiaffppkaaDoorW.PrintMore Go.Shelf
def hang_known.f (k : Nat) (T : List S132) (s : ByteArray) : Option Bool := (hang_Twine_110.f (fun x0 _ _ => some (x0.toList == s.toList)) k T).bind fun r => some (decide (0 ≤ r))
theorem hang_known.mono : ∀ T s k, LeO (hang_known.f k T s) (hang_known.f (k + 1) T s) := by
 intro T s k
 unfold hang_known.f
 exact LeO.bind (hang_Twine_110.mono _ _ _) (fun _ => LeO.refl _)
theorem hang_known.inner (k : Nat) (x0 x1 x2 : Int) (s : ByteArray) (g2 : Nat) (A : Option Addr) (c : Nat) (T : List S132) (q : Int) (w : World) (hb : w.heap[g2]? = some (.cells #[.int .i64 x0, .int .i64 x1, .int .i64 x2, .string s] 133 (0, 0))) (hC : Kd.C k132 w A T.length T) (hc0 : T.length ≤ c) (hq : hang_Twine_110.f (fun x0 _ _ => some (x0.toList == s.toList)) k T = some q) :
  Calls Tryd.prog 90 #[.slice A T.length c, .func (.func 97) #[] #[.pointer (some ⟨g2, 0, none⟩)]] w fun e w' => e = .returned (.bool (decide (0 ≤ q))) ∧ Below w.heap.size w w' :=
 hang_Twine_90.calls k A c T _ q w 97 #[.pointer (some ⟨g2, 0, none⟩)] (enters_of Tryd.func97 (by kernel_rfl) rfl) (fun z0 z1 z2 r_ w1 hb1 hx => by
  obtain rfl := Option.some.inj hx;exact hang_same_97.calls s z0 z1 z2 x0 x1 x2 g2 w1 (bkB hb hb1)) hC hc0 hq
set_option maxHeartbeats 1000000 in
theorem hang_known.calls (k : Nat) (x0 x1 x2 : Int) (s : ByteArray) (gt : Nat) (A : Option Addr) (c : Nat) (T : List S132) (r : Bool) (w : World) (hb : w.heap[gt]? = some (.cells #[.slice A T.length c] 81 (0, 0))) (hC : Kd.C k132 w A T.length T) (hc0 : T.length ≤ c) (h : hang_known.f k T s = some r) :
  Calls Tryd.prog 96 #[.agg #[.int .i64 x0, .int .i64 x1, .int .i64 x2, .string s], .pointer (some ⟨gt, 0, none⟩)] w fun e w' => e = .returned (.bool r) ∧ Below w.heap.size w w' := by
 obtain ⟨q, hq, hr⟩ := Option.bind_eq_some_iff.mp h
 obtain rfl := Option.some.inj hr
 have HC := Z0.mk hC
 have HT := Z0.mk hb
 have HQ := Z0.mk hq
 have HL := Z0.mk hc0
 clear h hr hC hb hq hc0
 go_enter Tryd.func96, Tryd.ntmps96
 go_wp2_with (first | ((with_reducible refine gtD (N := 2) rfl ?_); refine bxE ?hg (N := 2) ?hd (cs := #[.int .i64 x0, .int .i64 x1, .int .i64 x2, .string s]) (t := 133) ?hr ?_; (case hd => rfl); (case hg => rfl); (case hr => first | (go_simp; done) | (go_simp; rfl)); intro g2 hg w7 hbox hb; have BK := Z0.mk hbox; have HB := Z0.mk hb; have hct : w7.cell? ⟨gt, 0, none⟩ = some (.slice A T.length c) := (bkC ((hb.block gt (blk_lt HT.out)).trans HT.out) 0).trans rfl; clear hg hbox hb) | (go_at_call 90; (with_reducible refine (hang_known.inner k x0 x1 x2 s g2 A c T q _ BK.out (Kd.C_below HC.out HB.out) HL.out HQ.out).mono ?_); rintro e w' ⟨rfl, hb⟩; have HF := Z0.mk (bwT HB.out hb); clear hb))
 go_ret
 exact ⟨rfl, HF.out⟩
end Go.Proofs.YtppighiaffppkaaDoor.H
end
section
namespace Go.Proofs.YtppighiaffppkaaDoor.H
open Go.RowKit Go.Proofs.YtppighiaffppkaaDoorW.PrintWords Go.Proofs.YtppighiaffppkaaDoorW.PrintLast Go.Proofs.YtppighiaffppkaaDoorW.PrintMore
attribute [local go_sem] max2_int min2_int max_two min_two max_three min_three max_four min_four
set_option linter.unusedSimpArgs false
set_option linter.unusedVariables false
def hang_Bill_2.f (k : Nat) (T : List S132) (a0_0 : Int) (a0_1 : Int) (a0_2 : Int) (a0_3 : ByteArray) : Option (Int) := (hang_checkLine.f k a0_0 a0_1 a0_2).bind fun t952 => ((hang_known.f k T a0_3).bind fun t953 => ((hang_when.f (!t953) 10).bind fun t954 => ((hang_first.f k (([t952, t954] : List Int))).bind fun t958 => (some t958))))
theorem hang_Bill_2.mono : ∀ a0 a1 a2 a3 a4 k, LeO (hang_Bill_2.f k a0 a1 a2 a3 a4) (hang_Bill_2.f (k + 1) a0 a1 a2 a3 a4) := by
 intro a0 a1 a2 a3 a4 k
 unfold hang_Bill_2.f
 repeat' first
   | (with_reducible exact hang_checkLine.mono _ _ _ _)
   | (with_reducible exact hang_first.mono _ _)
   | (with_reducible exact hang_known.mono _ _ _)
   | (with_reducible exact LeO.refl _)
   | (with_reducible exact LeO.none _)
   | (with_reducible refine LeO.ite ?_ ?_)
   | (with_reducible refine LeO.bind ?_ (fun _ => ?_))
   | exact hang_checkLine.mono _ _ _ _
   | exact hang_first.mono _ _
   | exact hang_known.mono _ _ _
   | exact LeO.none _
   | refine LeO.ite ?_ ?_
   | refine LeO.bind ?_ (fun _ => ?_)
def hang_Bill_2.T1 : Bool × List (List Nat × List Nat) := (true, [([], []), ([0], [0]), ([], []), ([2], [2]), ([], []), ([4], [4]), ([1, 3, 5], [1, 3, 5]), ([], []), ([], []), ([7, 8, 6], [7, 8]), ([9], [9]), ([10, 9], [10]), ([6, 11], [6, 11]), ([12, 11], [12]), ([13, 13, 0, 1, 2, 3, 4, 5, 6, 7, 8, 9, 10, 11, 12, 13], [13])])
def hang_Bill_2.B1 : List Nat := [0, 1, 0, 4, 0, 16, 63, 0, 0, 511, 1023, 2047, 4095, 8191, 16383]
theorem hang_Bill_2.tab1 : rtab .any (opsOf Tryd.f98 1) = hang_Bill_2.T1 := by kernel_rfl
theorem hang_Bill_2.bits1 : waitsOk hang_Bill_2.T1.2 hang_Bill_2.B1 = true := by kernel_rfl
set_option maxHeartbeats 8000000 in
set_option maxRecDepth 100000 in
theorem hang_Bill_2.calls (k : Nat) (T : List S132) (A_ : Option Addr) (c_ : Nat) (a0_0 : Int) (a0_1 : Int) (a0_2 : Int) (a0_3 : ByteArray) (r : Int) (gt gk : Nat) (w : World) (hb0 : w.heap[gt]? = some (.cells #[.slice A_ T.length c_] 81 (0, 0))) (hb1 : w.heap[gk]? = some (.cells #[.func (.func 96) #[] #[.pointer (some ⟨gt, 0, none⟩)]] 152 (0, 0))) (hC : Kd.C k132 w A_ T.length T) (hcc : T.length ≤ c_) (h : hang_Bill_2.f k T a0_0 a0_1 a0_2 a0_3 = some r) :
  Calls Tryd.prog 98 #[.agg #[.int .i64 a0_0, .int .i64 a0_1, .int .i64 a0_2, .string a0_3], .pointer (some ⟨gk, 0, none⟩)] w fun e w' => e = .returned (.int .i64 r) ∧ Below w.heap.size w w' := by
 have HT0 := Z0.mk hb0
 have HT1 := Z0.mk hb1
 have HCT := Z0.mk hC
 have HCC := Z0.mk hcc
 clear hb0 hb1 hC hcc
 have hb1 := HT1
 clear HT1
 have hu133 := Tryd.underlying133
 have hu23 := Tryd.underlying23
 have HB := Z0.mk (Below.refl w.heap.size w)
 have H : ((hang_checkLine.f k a0_0 a0_1 a0_2).bind fun t952 => ((hang_known.f k T a0_3).bind fun t953 => ((hang_when.f (!t953) 10).bind fun t954 => ((hang_first.f k (([t952, t954] : List Int))).bind fun t958 => (some t958))))) = some r := h
 clear h
 replace H := Option.bind_eq_some_iff.mp H
 obtain ⟨t952, A30, H⟩ := H
 try dsimp only at H
 have A3 := Z0.mk A30
 clear A30
 replace H := Option.bind_eq_some_iff.mp H
 obtain ⟨t953, A40, H⟩ := H
 try dsimp only at H
 have A4 := Z0.mk A40
 clear A40
 replace H := Option.bind_eq_some_iff.mp H
 obtain ⟨t954, A50, H⟩ := H
 try dsimp only at H
 have A5 := Z0.mk A50
 clear A50
 obtain ⟨y955, hy955⟩ : ∃ y_ : List Int, y_ = (([t952, t954] : List Int)) := ⟨_, rfl⟩
 replace H : ((hang_first.f k y955).bind fun t958 => (some t958)) = some r := by first | (rw [hy955]; with_reducible exact H) | (have H2_ := (Option.bind_some _ _).symm.trans H; rw [hy955]; with_reducible exact H2_) | (have H2_ := (Option.bind_some _ _).symm.trans H; with_reducible exact H2_) | with_reducible exact H | (rw [hy955]; exact H) | exact H
 have Ny955 := Z0.mk hy955
 clear hy955
 replace H := Option.bind_eq_some_iff.mp H
 obtain ⟨t958, A60, H⟩ := H
 try dsimp only at H
 have A6 := Z0.mk A60
 clear A60
 obtain rfl := Option.some.inj H
 go_enter Tryd.func98, Tryd.ntmps98
 try go_wp2_with (first | ((with_reducible refine gtD (N := 2) rfl ?_); refine bxE ?hg (N := 2) ?hd (cs := #[.int .i64 a0_0, .int .i64 a0_1, .int .i64 a0_2, .string a0_3]) (t := 133) ?hr ?_; (case hd => rfl); (case hg => rfl); (case hr => first | (go_simp; done) | (go_simp; rfl)); intro gb950 hg w7 hbox hb; have n0_ := Z0.mk (bwT (by repeat (first | (with_reducible first | exact HB.out | apply bwA | apply bwN | apply bw1) | exact HB.out)) hb); have n1_ := Z0.mk (hbox); have n2_ := Z0.mk ((by rw [hg]; exact (bwZ (by repeat (first | (with_reducible first | exact HB.out | apply bwA | apply bwN | apply bw1) | exact HB.out))) : w.heap.size ≤ gb950)); have n3_ := Z0.mk ((by rw [hg]; exact (bwZ (by repeat (first | (with_reducible first | exact HB.out | apply bwA | apply bwN | apply bw1) | exact HB.out))) : w.heap.size ≤ gb950)); clear HB; have HB := n0_; have BK950 := n1_; have GW950 := n2_; have GE950 := n3_; clear n0_ n1_ n2_ n3_; clear hb hbox hg))
 have BK951 := Z0.mk ((HB.out.block gk (blk_lt hb1.out)).trans hb1.out)
 have n0_ := Z0.mk (bkD BK950.out)
 have n1_ := Z0.mk (bkD BK951.out)
 have n2_ := Z0.mk (bw1 HB.out)
 clear BK950 BK951 HB
 have BK950 := n0_
 have BK951 := n1_
 have HB := n2_
 clear n0_ n1_ n2_
 refine start_ (n := 15) (S := fun w' => w'.cell? ⟨gb950, 0, none⟩ = some (.int .i64 a0_0) ∧ w'.cell? ⟨gb950, 1, none⟩ = some (.int .i64 a0_1) ∧ w'.cell? ⟨gb950, 2, none⟩ = some (.int .i64 a0_2) ∧ w'.cell? ⟨gb950, 3, none⟩ = some (.string a0_3) ∧ w'.cell? ⟨gk, 0, none⟩ = some (.func (.func 96) #[] #[.pointer (some ⟨gt, 0, none⟩)])) (ds := []) #[false, false, false, false, false, false, false, false, false, false, false, false, false, false, false] (by kernel_rfl) rfl rfl ⟨(bkC BK950.out 0).trans rfl, (bkC BK950.out 1).trans rfl, (bkC BK950.out 2).trans rfl, (bkC BK950.out 3).trans rfl, (bkC BK951.out 0).trans rfl⟩ (fun hHd => ?_); refine with_tabW hang_Bill_2.tab1 hang_Bill_2.bits1 (fun HT_ HW_ => ?_)
 generalize w7.drew = w9 at BK950 BK951 HB hHd ⊢
 refine pure_ (i := 0) (N := some 4) (v := ?_) (a' := ?_) #[true, false, false, false, false, false, false, false, false, false, false, false, false, false, false] rfl rfl (any_of HT_.out (by kernel_rfl)) (fun _ _ _ h => h) (Or.inl ⟨by rfl, ?_⟩) ?_ ?_
 rotate_left; (intro w'; go_simp; with_reducible rfl); rotate_left; (simp only [Act.put, List.setIfInBounds_toArray, List.set_cons_zero, List.set_cons_succ, i64_w, i32_w]; rfl)
 refine pure_ (i := 2) (N := some 6) (v := ?_) (a' := ?_) #[true, false, true, false, false, false, false, false, false, false, false, false, false, false, false] rfl rfl (any_of HT_.out (by kernel_rfl)) (fun _ _ _ h => h) (Or.inl ⟨by rfl, ?_⟩) ?_ ?_
 rotate_left; (intro w'; go_simp; with_reducible rfl); rotate_left; (simp only [Act.put, List.setIfInBounds_toArray, List.set_cons_zero, List.set_cons_succ, i64_w, i32_w]; rfl)
 refine pure_ (i := 4) (N := some 8) (v := ?_) (a' := ?_) #[true, false, true, false, true, false, false, false, false, false, false, false, false, false, false] rfl rfl (any_of HT_.out (by kernel_rfl)) (fun _ _ _ h => h) (Or.inl ⟨by rfl, ?_⟩) ?_ ?_
 rotate_left; (intro w'; go_simp; with_reducible rfl); rotate_left; (simp only [Act.put, List.setIfInBounds_toArray, List.set_cons_zero, List.set_cons_succ, i64_w, i32_w]; rfl)
 refine take_ (i := 1) (N := some 5) (v := ?_) (a' := ?_) #[true, true, true, false, true, false, false, false, false, false, false, false, false, false, false] rfl rfl (take_ofW HT_.out HW_.out (by kernel_rfl)) (fun _ _ _ h => h) (Or.inl ⟨by rfl, ?_⟩) hHd ?_ ?_
 rotate_left
 ·rintro w' ⟨s0, s1, s2, s3, s4⟩;go_simp
  with_reducible rfl
 rotate_left
 ·simp only [Act.put, List.setIfInBounds_toArray, List.set_cons_zero, List.set_cons_succ, i64_w, i32_w];rfl
 refine take_ (i := 3) (N := some 7) (v := ?_) (a' := ?_) #[true, true, true, true, true, false, false, false, false, false, false, false, false, false, false] rfl rfl (take_ofW HT_.out HW_.out (by kernel_rfl)) (fun _ _ _ h => h) (Or.inl ⟨by rfl, ?_⟩) hHd ?_ ?_
 rotate_left
 ·rintro w' ⟨s0, s1, s2, s3, s4⟩;go_simp
  with_reducible rfl
 rotate_left
 ·simp only [Act.put, List.setIfInBounds_toArray, List.set_cons_zero, List.set_cons_succ, i64_w, i32_w];rfl
 refine take_ (i := 5) (N := some 9) (v := ?_) (a' := ?_) #[true, true, true, true, true, true, false, false, false, false, false, false, false, false, false] rfl rfl (take_ofW HT_.out HW_.out (by kernel_rfl)) (fun _ _ _ h => h) (Or.inl ⟨by rfl, ?_⟩) hHd ?_ ?_
 rotate_left
 ·rintro w' ⟨s0, s1, s2, s3, s4⟩;go_simp
  with_reducible rfl
 rotate_left
 ·simp only [Act.put, List.setIfInBounds_toArray, List.set_cons_zero, List.set_cons_succ, i64_w, i32_w];rfl
 refine take_ (i := 7) (N := some 11) (v := ?_) (a' := ?_) #[true, true, true, true, true, true, false, true, false, false, false, false, false, false, false] rfl rfl (take_ofW HT_.out HW_.out (by kernel_rfl)) (fun _ _ _ h => h) (Or.inl ⟨by rfl, ?_⟩) hHd ?_ ?_
 rotate_left
 ·rintro w' ⟨s0, s1, s2, s3, s4⟩;go_simp
  with_reducible rfl
 rotate_left
 ·simp only [Act.put, List.setIfInBounds_toArray, List.set_cons_zero, List.set_cons_succ, i64_w, i32_w];rfl
 refine take_ (i := 8) (N := some 12) (v := ?_) (a' := ?_) #[true, true, true, true, true, true, false, true, true, false, false, false, false, false, false] rfl rfl (take_ofW HT_.out HW_.out (by kernel_rfl)) (fun _ _ _ h => h) (Or.inl ⟨by rfl, ?_⟩) hHd ?_ ?_
 rotate_left
 ·rintro w' ⟨s0, s1, s2, s3, s4⟩;go_simp
  with_reducible rfl
 rotate_left
 ·simp only [Act.put, List.setIfInBounds_toArray, List.set_cons_zero, List.set_cons_succ, i64_w, i32_w];rfl
 refine one_ (i := 6) (N := some 10) #[true, true, true, true, true, true, true, true, true, false, false, false, false, false, false] rfl rfl (one_of HT_.out (by kernel_rfl)) (by decide) (fun K hK => ?_)
 refine goes_ Tryd.func93 (by kernel_rfl) rfl #[.int .i64 a0_0, .int .i64 a0_1, .int .i64 a0_2] (by rfl) rfl rfl (by (try simp only [List.map_toArray, List.map_cons, List.map_nil]) <;> rfl) ?_
 with_reducible refine (hang_checkLine.calls k a0_0 a0_1 a0_2 t952 _ A3.out).mono ?_
 rintro e w10 ⟨rfl, hb⟩
 refine ⟨_, rfl, ?_⟩
 have n0_ := Z0.mk (bkB (g := gb950) (o := .cells #[.int .i64 a0_0, .int .i64 a0_1, .int .i64 a0_2, .string a0_3] 133 (0, 0)) (by (with_reducible repeat (first | refine bkN ?_ _ | refine bkD ?_ | refine bkA ?_ _)); exact BK950.out) hb)
 have n1_ := Z0.mk (bkB (g := gk) (o := .cells #[.func (.func 96) #[] #[.pointer (some ⟨gt, 0, none⟩)]] 152 (0, 0)) (by (with_reducible repeat (first | refine bkN ?_ _ | refine bkD ?_ | refine bkA ?_ _)); exact BK951.out) hb)
 have n2_ := Z0.mk (bwT (by repeat (first | (with_reducible first | exact HB.out | apply bwA | apply bwN | apply bw1 | refine bwS ?_ GE950.out) | exact HB.out)) hb)
 clear BK950 BK951 HB
 have BK950 := n0_
 have BK951 := n1_
 have HB := n2_
 clear n0_ n1_ n2_
 (try clear hb)
 (try clear hb2)
 (try clear hk)
 (try clear hi)
 refine hK.out _ _ ⟨(bkC BK950.out 0).trans rfl, (bkC BK950.out 1).trans rfl, (bkC BK950.out 2).trans rfl, (bkC BK950.out 3).trans rfl, (bkC BK951.out 0).trans rfl⟩ (fun hHd => ?_)
 clear hK K
 refine norm_ (a' := ?_) ?_ ?_
 rotate_left
 ·show Act.put _ (some 10) _ = _
  simp only [Act.put, List.setIfInBounds_toArray, List.set_cons_zero, List.set_cons_succ, i64_w, i32_w];rfl
 refine one_ (i := 9) (N := some 13) #[true, true, true, true, true, true, true, true, true, true, false, false, false, false, false] rfl rfl (one_of HT_.out (by kernel_rfl)) (by decide) (fun K hK => ?_)
 refine goesV_ (t := 11) (enters_of Tryd.func96 (by kernel_rfl) rfl) #[.agg #[.int .i64 a0_0, .int .i64 a0_1, .int .i64 a0_2, .string a0_3]] (by rfl) rfl rfl (by rfl) (by (try simp only [List.map_toArray, List.map_cons, List.map_nil]); first | done | rfl) ?_
 refine (hang_known.calls k a0_0 a0_1 a0_2 a0_3 gt A_ c_ T _ _ ((HB.out.block gt (blk_lt HT0.out)).trans HT0.out) (Kd.C_below HCT.out HB.out) HCC.out A4.out).mono ?_
 rintro e w11 ⟨rfl, hb⟩
 refine ⟨_, rfl, ?_⟩
 have n0_ := Z0.mk (bkB (g := gb950) (o := .cells #[.int .i64 a0_0, .int .i64 a0_1, .int .i64 a0_2, .string a0_3] 133 (0, 0)) (by (with_reducible repeat (first | refine bkN ?_ _ | refine bkD ?_ | refine bkA ?_ _)); exact BK950.out) hb)
 have n1_ := Z0.mk (bkB (g := gk) (o := .cells #[.func (.func 96) #[] #[.pointer (some ⟨gt, 0, none⟩)]] 152 (0, 0)) (by (with_reducible repeat (first | refine bkN ?_ _ | refine bkD ?_ | refine bkA ?_ _)); exact BK951.out) hb)
 have n2_ := Z0.mk (bwT (by repeat (first | (with_reducible first | exact HB.out | apply bwA | apply bwN | apply bw1 | refine bwS ?_ GE950.out) | exact HB.out)) hb)
 clear BK950 BK951 HB
 have BK950 := n0_
 have BK951 := n1_
 have HB := n2_
 clear n0_ n1_ n2_
 (try clear hb)
 (try clear hb2)
 (try clear hk)
 (try clear hi)
 refine hK.out _ _ ⟨(bkC BK950.out 0).trans rfl, (bkC BK950.out 1).trans rfl, (bkC BK950.out 2).trans rfl, (bkC BK950.out 3).trans rfl, (bkC BK951.out 0).trans rfl⟩ (fun hHd => ?_)
 clear hK K
 refine norm_ (a' := ?_) ?_ ?_
 rotate_left
 ·show Act.put _ (some 13) _ = _
  simp only [Act.put, List.setIfInBounds_toArray, List.set_cons_zero, List.set_cons_succ, i64_w, i32_w];rfl
 refine pure_ (i := 10) (N := some 14) (v := ?_) (a' := ?_) #[true, true, true, true, true, true, true, true, true, true, true, false, false, false, false] rfl rfl (any_of HT_.out (by kernel_rfl)) (fun _ _ _ h => h) (Or.inl ⟨by rfl, ?_⟩) ?_ ?_
 rotate_left; (intro w'; go_simp; with_reducible rfl); rotate_left; (simp only [Act.put, List.setIfInBounds_toArray, List.set_cons_zero, List.set_cons_succ, i64_w, i32_w]; rfl)
 refine one_ (i := 11) (N := some 15) #[true, true, true, true, true, true, true, true, true, true, true, true, false, false, false] rfl rfl (one_of HT_.out (by kernel_rfl)) (by decide) (fun K hK => ?_)
 refine goes_ Tryd.func74 (by kernel_rfl) rfl #[.bool (!t953), .int .i64 10] (by rfl) rfl rfl (by (try simp only [List.map_toArray, List.map_cons, List.map_nil]) <;> rfl) ?_
 with_reducible refine (hang_when.calls (!t953) 10 t954 _ A5.out).mono ?_
 rintro e w' ⟨rfl, ⟨nd, rfl⟩⟩
 refine ⟨_, rfl, ?_⟩
 refine hK.out _ _ ⟨(bkC BK950.out 0).trans rfl, (bkC BK950.out 1).trans rfl, (bkC BK950.out 2).trans rfl, (bkC BK950.out 3).trans rfl, (bkC BK951.out 0).trans rfl⟩ (fun hHd => ?_)
 clear hK K
 refine norm_ (a' := ?_) ?_ ?_
 rotate_left
 ·show Act.put _ (some 15) _ = _
  simp only [Act.put, List.setIfInBounds_toArray, List.set_cons_zero, List.set_cons_succ, i64_w, i32_w];rfl
 refine one_ (i := 12) (N := some 16) #[true, true, true, true, true, true, true, true, true, true, true, true, true, false, false] rfl rfl (one_of HT_.out (by kernel_rfl)) (by decide) (fun K hK => ?_)
 refine Kd.R_lit_step (Kd.int .i64) _ 26 ?hg (N := 16) ?hd (xs := ([t952, t954] : List Int)) (inner := [.int .i64 t952, .int .i64 t954]) (ok := fun _ => True) (okp := fun _ => True) ?hr ?hp (fun _ hk => hk) trivial (Below.refl _ _) (Nat.le_refl _) (by simp) ?_; (case hd => rfl); (case hg => rfl); (case hr => first | (go_simp; done) | (go_simp; rfl)); (case hp => exact (Reps.one (show Kd.M (Kd.int .i64) _ _ _ t952 [.int .i64 t952] from rfl) (Reps.one (show Kd.M (Kd.int .i64) _ _ _ t954 [.int .i64 t954] from rfl) (Reps.none _ _))))
 intro v956 w12 ho13 hb hg_ hnew_
 clear hg_ hnew_
 (first | rw [← Ny955.out] at ho13 | (simp only [Int.reduceToNat] at ho13; rw [← Ny955.out] at ho13))
 have n0_ := Z0.mk (Kd.R_lower ho13 (bwZ (by repeat (first | (with_reducible first | exact HB.out | apply bwA | apply bwN | apply bw1 | refine bwS ?_ GE950.out) | exact HB.out))))
 have n1_ := Z0.mk (bkB (g := gb950) (o := .cells #[.int .i64 a0_0, .int .i64 a0_1, .int .i64 a0_2, .string a0_3] 133 (0, 0)) (by (with_reducible repeat (first | refine bkN ?_ _ | refine bkD ?_ | refine bkA ?_ _)); exact BK950.out) hb)
 have n2_ := Z0.mk (bkB (g := gk) (o := .cells #[.func (.func 96) #[] #[.pointer (some ⟨gt, 0, none⟩)]] 152 (0, 0)) (by (with_reducible repeat (first | refine bkN ?_ _ | refine bkD ?_ | refine bkA ?_ _)); exact BK951.out) hb)
 have n3_ := Z0.mk (bwT (by repeat (first | (with_reducible first | exact HB.out | apply bwA | apply bwN | apply bw1 | refine bwS ?_ GE950.out) | exact HB.out)) hb)
 clear BK950 BK951 HB
 have HO957 := n0_
 have BK950 := n1_
 have BK951 := n2_
 have HB := n3_
 clear n0_ n1_ n2_ n3_
 clear hb ho13
 obtain ⟨Ao14, co14, eo14⟩ := Kd.R_slice HO957.out
 (first | subst eo14 | (injection eo14 with f1_ f2_ f3_; have f4_ := f1_.symm; have f5_ := f3_.symm; clear f1_ f2_ f3_; subst f4_; subst f5_))
 refine hK.out _ _ ⟨(bkC BK950.out 0).trans rfl, (bkC BK950.out 1).trans rfl, (bkC BK950.out 2).trans rfl, (bkC BK950.out 3).trans rfl, (bkC BK951.out 0).trans rfl⟩ (fun hHd => ?_)
 clear hK K
 refine norm_ (a' := ?_) ?_ ?_
 rotate_left
 ·show Act.put _ (some 16) _ = _
  simp only [Act.put, List.setIfInBounds_toArray, List.set_cons_zero, List.set_cons_succ, i64_w, i32_w];rfl
 refine one_ (i := 13) (N := some 17) #[true, true, true, true, true, true, true, true, true, true, true, true, true, true, false] rfl rfl (one_of HT_.out (by kernel_rfl)) (by decide) (fun K hK => ?_)
 refine goes_ Tryd.func72 (by kernel_rfl) rfl #[.slice Ao14 y955.length co14] (by rfl) rfl rfl (by (try simp only [List.map_toArray, List.map_cons, List.map_nil]) <;> rfl) ?_
 with_reducible refine (hang_first.calls k _ _ y955 t958 _ ?side1 ?side2 A6.out).mono ?_
 (case side1 => repeat (first | exact (Kd.R_reads' HO957.out).2.2 | (with_reducible refine Kd.C_alloc ?_ _) | (with_reducible refine Kd.C_drewN ?_ _) | (with_reducible refine Kd.C_drew ?_)))
 (case side2 => exact (Kd.R_reads' HO957.out).2.1)
 rintro e w' ⟨rfl, ⟨nd, rfl⟩⟩
 refine ⟨_, rfl, ?_⟩
 refine hK.out _ _ ⟨(bkC BK950.out 0).trans rfl, (bkC BK950.out 1).trans rfl, (bkC BK950.out 2).trans rfl, (bkC BK950.out 3).trans rfl, (bkC BK951.out 0).trans rfl⟩ (fun hHd => ?_)
 clear hK K
 refine norm_ (a' := ?_) ?_ ?_
 rotate_left
 ·show Act.put _ (some 17) _ = _
  simp only [Act.put, List.setIfInBounds_toArray, List.set_cons_zero, List.set_cons_succ, i64_w, i32_w];rfl
 refine pure_ (i := 14) (N := some 3) (v := ?_) (a' := ?_) #[true, true, true, true, true, true, true, true, true, true, true, true, true, true, true] rfl rfl (any_of HT_.out (by kernel_rfl)) (fun _ _ _ h => h) (Or.inl ⟨by rfl, ?_⟩) ?_ ?_
 rotate_left; (intro w'; go_simp; with_reducible rfl); rotate_left; (simp only [Act.put, List.setIfInBounds_toArray, List.set_cons_zero, List.set_cons_succ, i64_w, i32_w]; rfl)
 refine done_ (done_of HT_.out (by kernel_rfl)) ?_
 try go_wp2
 go_ret
 exact ⟨by first | rfl | (simp [errW_none, errW_some] <;> rfl) | (simp [*, errW_none, errW_some] <;> rfl), by repeat (first | (with_reducible first | exact HB.out | apply bwA | apply bwN | apply bw1 | refine bwS ?_ GE950.out) | exact HB.out)⟩
end Go.Proofs.YtppighiaffppkaaDoor.H
end
